/- Part of the proof; no condition. -/
import Derived.Test.YtakfoejcjdcgbaaWc
import Derived.Test.YtakfoejcjdcgbaaRows
import Derived.WalkKit
import Derived.WalkSpells
import Derived.WalkLawsBesides
import Derived.Deep.QuietTactic
import Derived.BigQuiet
import Derived.Lib.Hide
import Derived.Handy
import Derived.OpenShut
import Derived.Laws.CopyRow
import Derived.Laws.AppendOwnNone
import Derived.Deep.DeepAppendRoom
import Derived.ArgAppend
import Derived.Orders
import Derived.Deep.RegionWith
import Derived.Outline
import Derived.Deep.DeepCutAuto
import Derived.RegionTactic
import Derived.BigRegion
import Derived.StillTailTactics
import Derived.Test.YtakfoejcjdcgbaaProg
import Derived.KernelRfl
set_option linter.unusedVariables false
set_option linter.unusedSimpArgs false
namespace Go.Proofs.Ytakfoejcjdcgbaa
open Go.RowKit
def Row(w:World)(F:Nat->Prop)(A:Option Addr)(cs:List Value):Prop:=
 ∀i (_:i<cs.length),∃b off,A=some ⟨b,off,none⟩/\F b/\w.cell? ⟨b,off+i,none⟩=some cs[i]
def Dc(k:IntKind)(w:World)(F:Nat->Prop)(A:Option Addr)(xs:List Int):Prop:=Row w F A (xs.map (.int k))
def gu(F:Nat->Prop)(w w':World):Prop:=∀k,F k->w'.heap[k]?=w.heap[k]?
theorem gu.refl(F:Nat->Prop)(w:World):gu F w w:=λ_ _=>rfl
theorem gu.trans{F:Nat->Prop}{a b c:World}(h:gu F a b)(h':gu F b c):gu F a c:=λk hk=>(h' k hk).trans (h k hk)
theorem gu.sub{F G:Nat->Prop}{a b:World}(h:gu F a b)(hs:∀k,G k->F k):gu G a b:=λk hk=>h k (hs k hk)
theorem gu.drew{F:Nat->Prop}{a b:World}(h:gu F a b):gu F a b.drew:=h
theorem gu.alloc{F:Nat->Prop}{a b:World}(h:gu F a b)(hF:∀k,F k->k<b.heap.size)(o:Obj):gu F a (b.alloc o):=
 λk hk=>(heap_alloc_old b o (hF k hk)).trans (h k hk)
theorem gu.setCell{F:Nat->Prop}{a b:World}(h:gu F a b){p:Addr}(hp:¬F p.block)(u:Value):gu F a (b.setCell p u):=
 λk hk=>(Below.heap_setCell b p u k (λe=>hp (e▸hk))).trans (h k hk)
theorem gu.cell{F:Nat->Prop}{a b:World}(h:gu F a b){p:Addr}(hp:F p.block):b.cell? p=a.cell? p:=World.cell?_of_block (h p.block hp)
theorem As{F:Nat->Prop}{a b:World}(h:gu F a b){p:Addr}(hp:F p.block):b.frozen? p=a.frozen? p:=World.frozen?_of_block (h p.block hp)
theorem Row.keep{w w':World}{F:Nat->Prop}{A:Option Addr}{cs:List Value}(h:Row w F A cs)(ha:gu F w w'):Row w' F A cs:=by
 intro i hi;obtain⟨b,off,e,hF,hc⟩:=h i hi;exact⟨b,off,e,hF,by rw[ha.cell (p:=⟨b,off+i,none⟩) hF];exact hc⟩
theorem Row.sub{w:World}{F G:Nat->Prop}{A:Option Addr}{cs:List Value}(h:Row w F A cs)(hs:∀k,F k->G k):Row w G A cs:=by
 intro i hi;obtain⟨b,off,e,hF,hc⟩:=h i hi;exact⟨b,off,e,hs _ hF,hc⟩
theorem Row.nil(w:World)(F:Nat->Prop)(A:Option Addr):Row w F A []:=λi hi=>absurd hi (by simp)
theorem Dc.keep{k:IntKind}{w w':World}{F:Nat->Prop}{A:Option Addr}{xs:List Int}(h:Dc k w F A xs)(ha:gu F w w'):Dc k w' F A xs:=Row.keep h ha
theorem Dc.at_{k:IntKind}{w:World}{F:Nat->Prop}{A:Option Addr}{xs:List Int}(h:Dc k w F A xs){i:Nat}(hi:i<xs.length):
 ∃b off,A=some ⟨b,off,none⟩/\F b/\w.cell? ⟨b,off+i,none⟩=some (.int k xs[i]):=by
 obtain⟨b,off,e,hF,hc⟩:=h i (by simpa using hi);exact⟨b,off,e,hF,by simpa using hc⟩
theorem bx(w:World)(row:Option Nat):w.grownBy w row:=⟨rfl,rfl,rfl,Nat.le_refl _,λ_ _ _=>rfl⟩
theorem bC{a b c:World}{row:Option Nat}(h:a.grownBy b row)(h':b.grownBy c row):a.grownBy c row:=
 ⟨h'.os.trans h.os,h'.tape.trans h.tape,h'.output.trans h.output,Nat.le_trans h.size h'.size,λk hk hr=>(h'.block k (Nat.lt_of_lt_of_le hk h.size) hr).trans (h.block k hk hr)⟩
theorem mP{a b:World}{row:Option Nat}(h:a.grownBy b none):a.grownBy b row:=⟨h.os,h.tape,h.output,h.size,λk hk _=>h.block k hk (by simp)⟩
theorem dG{a b:World}{row:Option Nat}(h:a.grownBy b row):a.grownBy b.drew row:=⟨h.os,h.tape,h.output,h.size,h.block⟩
theorem bv{a b:World}{row:Option Nat}(h:a.grownBy b row)(o:Obj):a.grownBy (b.alloc o) row:=
 bC h (World.grownBy_alloc b o row)
theorem bD{a b:World}{row:Option Nat}(h:a.grownBy b row){p:Addr}(hp:some p.block=row\/a.heap.size<=p.block)(u:Value):a.grownBy (b.setCell p u) row:=
 ⟨h.os,h.tape,h.output,by simpa[World.setCell]using h.size,λk hk hr=>(Below.heap_setCell b p u k (λe=>by
  rcases hp with hp|hp
  ·exact hr (by rw[e,hp])
  ·omega)).trans (h.block k hk hr)⟩
theorem Row.grown{w w':World}{F:Nat->Prop}{A:Option Addr}{cs:List Value}(h:Row w F A cs)(hg:w.grownBy w' none)(hF:∀k,F k->k<w.heap.size):Row w' F A cs:=
 h.keep λk hk=>hg.block k (hF k hk) (by simp)
theorem Dc.grown{k:IntKind}{w w':World}{F:Nat->Prop}{A:Option Addr}{xs:List Int}(h:Dc k w F A xs)(hg:w.grownBy w' none)(hF:∀k,F k->k<w.heap.size):Dc k w' F A xs:=Row.grown h hg hF
theorem Dc.low{k:IntKind}{w w':World}{A:Option Addr}{xs:List Int}(h:Dc k w (λk=>k<w.heap.size) A xs)(hg:w.grownBy w' none):Dc k w' (λk=>k<w'.heap.size) A xs:=
 Row.sub (Row.grown h hg λ_ h=>h) λk hk=>Nat.lt_of_lt_of_le hk hg.size
def New(w w':World)(k:Nat):Prop:=w.heap.size<=k/\k<w'.heap.size
structure jO (e:TypeId)(w:World)(q n:Nat)(vs:List Value):Prop where
 eq:∃cur:Array Value,w.heap[q]?=some (.cells cur e (0,0))/\cur.size=n/\cur.toList.take vs.length=vs
section
variable {e:TypeId} {w w':World} {q n:Nat} {vs:List Value}
theorem jO.hi(h:jO e w q n vs):q<w.heap.size:=by
 obtain⟨cur,h1,_⟩:=h.eq;exact(Array.getElem?_eq_some_iff.1 h1).1
theorem jO.le(h:jO e w q n vs):vs.length<=n:=by
 obtain⟨cur,_,h2,h3⟩:=h.eq;have:=congrArg List.length h3;simp at this;omega
theorem jO.cell(h:jO e w q n vs){j:Nat}(hj:j<vs.length):w.cell? ⟨q,j,none⟩=some vs[j]:=by
 obtain⟨cur,h1,h2,h3⟩:=h.eq;rw[cell_of_row _ _ _ _ _ _ h1]
 have h4:(cur.toList.take vs.length)[j]?=some vs[j]:=by rw[h3];simp[hj]
 rw[List.getElem?_take,oIP hj]at h4;simpa using h4
theorem jO.mid{c1 d:List Value}(h:jO e w q n (c1++d)){j:Nat}{u:Value}(hj:d[j]?=some u):w.cell? ⟨q,c1.length+j,none⟩=some u:=by
 obtain⟨hlt,hu⟩:=oGS hj;rw[h.cell (by rw[List.length_append];omega),List.getElem_append_right (by omega)];simp[hu]
theorem jO.free(h:jO e w q n vs)(j:Nat):w.frozen? ⟨q,j,none⟩=false:=by
 obtain⟨cur,h1,_⟩:=h.eq;exact frozen_of_row _ _ _ _ _ h1
theorem jO.keep(h:jO e w q n vs)(hh:w'.heap[q]?=w.heap[q]?):jO e w' q n vs:=by
 obtain⟨cur,h1,h2⟩:=h.eq;exact⟨cur,by rw[hh];exact h1,h2⟩
theorem jO.grow(h:jO e w q n vs)(hg:w.grownBy w' none):jO e w' q n vs:=h.keep (hg.block _ h.hi (by simp))
theorem jO.other(h:jO e w q n vs){p:Nat}(hne:q≠p)(j:Nat)(v:Value):jO e (w.setCell ⟨p,j,none⟩ v) q n vs:=h.keep (heap_setCell_other _ _ _ _ hne)
theorem jO.set(h:jO e w q n vs){j:Nat}(v:Value)(hj:j<vs.length):jO e (w.setCell ⟨q,j,none⟩ v) q n (vs.set j v):=by
 have hl:=h.le;obtain⟨cur,h1,h2,h3⟩:=h.eq;refine⟨cur.setIfInBounds j v,heap_setCell_same _ _ _ _ _ _ h1,by simpa using h2,?_⟩;rw[List.length_set,Array.toList_setIfInBounds]
 conv=>rhs;rw[<- h3]
 apply List.ext_getElem?;intro i;simp only[List.getElem?_take,List.getElem?_set];split<;>(try split)<;>simp_all<;>omega
end
theorem ud{e:TypeId}{w:World}{q n:Nat}{vs cs:List Value}{cur:Array Value}{o:Nat}(h1:w.heap[q]?=some (.cells cur e (0,0)))(h2:cur.size=n)(h3:cur.toList.take vs.length=vs)(hfit:o+cs.length<=vs.length):
 jO e (w.setRow q (cur.toList.take o++cs++cur.toList.drop (o+cs.length)).toArray) q n (vs.take o++cs++vs.drop (o+cs.length)):=by
 have XZ:cur.toList=vs++cur.toList.drop vs.length:=by
  conv=>lhs;rw[<- List.take_append_drop vs.length cur.toList,h3]
 generalize cur.toList.drop vs.length=r at XZ
 have hn:n=vs.length+r.length:=by
  rw[<- h2,<- Array.length_toList,XZ];simp
 refine⟨_,setRow_heap w q cur _ e _ h1,?_,?_⟩
 ·rw[XZ];simp;omega
 ·have t1:(vs++r).take o=vs.take o:=List.take_append_of_le_length (by omega);have t2:(vs++r).drop (o+cs.length)=vs.drop (o+cs.length)++r:=List.drop_append_of_le_length (by omega);rw[XZ,t1,t2,<- List.append_assoc];exact List.take_left' rfl
theorem jO.own{e:TypeId}{w:World}{g c n k base:Nat}{vs:List Value}(h:jO e w g (c*k) vs)(hv:vs.length=n*k)(hn:n<=c)(hc:c<=maxLen)(hb:base<=g):w.ownsRow base e k (.slice (some ⟨g,0,none⟩) n c) n vs:=by
 obtain⟨cur,h1,h2,h3⟩:=h.eq;exact⟨hv,.inr ⟨g,c,cur,rfl,hb,h1,hn,hc,h2,by rw[<- hv];exact h3⟩⟩
section
variable {P:Program} {ops:Array Oper} {rest:List Oper} {o:Oper} {a:Act} {Q:Exit->Act->World->Prop} {w:World}
end
section
variable {P:Program}
theorem qM(k:Nat)(w:World)(dT sT ty T4:TypeId)(g o Xw U2:Nat)(a:Addr)(Zz YF:Nat)(cur:Array Value)(t:TypeId)(cs:List Value)
 (hu:P.underlying dT=some (.slice T4))(hs:(P.info? T4).map (·.size)=some k)
 (hg:w.heap[g]?=some (.cells cur t (0,0)))(hn:cs.length=Nat.min Zz Xw*k)
 (Ys:∀j v,cs[j]?=some v->w.cell? (a.add j)=some v)(hfit:o+cs.length<=cur.size)(h1:∀v∈cs,v.oneCell'=true):
 (Builtin.copy_ #[dT,sT] ty #[.slice (some ⟨g,o,none⟩) Xw U2,.slice (some a) Zz YF]).run P w =
  .ok (goInt (Nat.min Zz Xw)) (w.setRow g (cur.toList.take o++cs++cur.toList.drop (o+cs.length)).toArray):=by
 have hl:=run_loadCells_list (P:=P) w a cs Ys;have hst:=run_storeCells_at P g o t cs 0 cur w hg (by simpa using hfit) h1
 cases hq:P.info? T4 with
 |none=>simp[hq]at hs
 |some i=>
  have hi:i.size=k:=by simpa[hq]using hs
  simp[Builtin.copy_,run_underlying hu,Builtin.lenOf,Builtin.firstCells,sizeOf,typeInfo,hq,hi,<- hn,hl,hst]
end
structure Rp (α:Type) where
 size:Nat
 rep:World->(Nat->Prop)->α->List Value->Prop
 own:World->List Nat->α->List Value->Prop
 pos:0<size
 len:∀{w F a cs},rep w F a cs->cs.length=size
 one:∀{w F a cs},rep w F a cs->∀v∈cs,v.oneCell'=true
 keep:∀{w w' F a cs},rep w F a cs->gu F w w'->rep w' F a cs
 sub:∀{w F G a cs},rep w F a cs->(∀k,F k->G k)->rep w G a cs
 live:∀{w F a cs},rep w F a cs->rep w (λk=>F k/\k<w.heap.size) a cs
 okeep:∀{w w' fp a cs},own w fp a cs->(∀k,k∈fp->w'.heap[k]?=w.heap[k]?)->own w' fp a cs
 olive:∀{w fp a cs},own w fp a cs->∀k,k∈fp->k<w.heap.size
 reads:∀{w fp a cs},own w fp a cs->rep w (λk=>k∈fp) a cs
def JO(k:IntKind):Rp Int where
 size:=1
 rep _ _ a cs:=cs=[.int k a]/\(Lit.int k a).wf=true
 own _ fp a cs:=fp=[]/\cs=[.int k a]/\(Lit.int k a).wf=true
 pos:=by decide
 len:=λh=>by rw[h.1];rfl
 one:=λh=>by rw[h.1];simp[Value.oneCell']
 keep:=λh _=>h
 sub:=λh _=>h
 live:=λh=>h
 okeep:=λh _=>h
 olive:=λh k hk=>by rw[h.1]at hk;simp at hk
 reads:=λh=>h.2
def lM{α β:Type}(R:Rp α)(S:Rp β):Rp (α×β) where
 size:=R.size+S.size
 rep w F p cs:=∃c d,cs=c++d/\R.rep w F p.1 c/\S.rep w F p.2 d
 own w fp p cs:=∃c d f g,cs=c++d/\fp=f++g/\R.own w f p.1 c/\S.own w g p.2 d
 pos:=by have:=R.pos;omega
 len:=λ⟨c,d,e,h1,h2⟩=>by rw[e,List.length_append,R.len h1,S.len h2]
 one:=λ⟨c,d,e,h1,h2⟩ v hv=>by
  rw[e,List.mem_append]at hv;rcases hv with hv|hv
  ·exact R.one h1 v hv
  ·exact S.one h2 v hv
 keep:=λ⟨c,d,e,h1,h2⟩ ha=>⟨c,d,e,R.keep h1 ha,S.keep h2 ha⟩
 sub:=λ⟨c,d,e,h1,h2⟩ hs=>⟨c,d,e,R.sub h1 hs,S.sub h2 hs⟩
 live:=λ⟨c,d,e,h1,h2⟩=>⟨c,d,e,R.live h1,S.live h2⟩
 okeep:=λ⟨c,d,f,g,e,e',h1,h2⟩ hk=>⟨c,d,f,g,e,e',R.okeep h1 λk h=>hk k (by rw[e'];exact List.mem_append_left _ h),S.okeep h2 λk h=>hk k (by rw[e'];exact List.mem_append_right _ h)⟩
 olive:=λ⟨c,d,f,g,e,e',h1,h2⟩ k hk=>by
  rw[e',List.mem_append]at hk;rcases hk with hk|hk
  ·exact R.olive h1 k hk
  ·exact S.olive h2 k hk
 reads:=λ⟨c,d,f,g,e,e',h1,h2⟩=>⟨c,d,e,R.sub (R.reads h1) λk h=>by rw[e'];exact List.mem_append_left _ h,S.sub (S.reads h2) λk h=>by rw[e'];exact List.mem_append_right _ h⟩
section
variable {α:Type} (R:Rp α)
def eU(w:World)(F:Nat->Prop):List α->List Value->Prop
 | [],cs=>cs=[]
 |x::r,cs=>∃c d,cs=c++d/\R.rep w F x c/\eU w F r d
def iv(w:World):List Nat->List α->List Value->Prop
 |fp,[],cs=>cs=[]/\fp=[]
 |fp,x::r,cs=>∃c d f g,cs=c++d/\fp=f++g/\R.own w f x c/\iv w g r d
variable {R}
theorem eU.len{w:World}{F:Nat->Prop}:∀{xs:List α}{cs:List Value},eU R w F xs cs->cs.length=xs.length*R.size
 | [],_,h=>by rw[show _=[]from h];simp
 |x::r,_,⟨c,d,e,h1,h2⟩=>by rw[e,List.length_append,R.len h1,eU.len h2,oLC,Nat.succ_mul,Nat.add_comm]
theorem eU.one{w:World}{F:Nat->Prop}:∀{xs:List α}{cs:List Value},eU R w F xs cs->∀v∈cs,v.oneCell'=true
 | [],_,h,v,hv=>by rw[show _=[]from h]at hv;simp at hv
 |x::r,_,⟨c,d,e,h1,h2⟩,v,hv=>by
  rw[e,List.mem_append]at hv;rcases hv with hv|hv
  ·exact R.one h1 v hv
  ·exact eU.one h2 v hv
theorem eU.keep{w w':World}{F:Nat->Prop}(ha:gu F w w'):∀{xs:List α}{cs:List Value},eU R w F xs cs->eU R w' F xs cs
 | [],_,h=>h
 |x::r,_,⟨c,d,e,h1,h2⟩=>⟨c,d,e,R.keep h1 ha,eU.keep ha h2⟩
theorem eU.sub{w:World}{F G:Nat->Prop}(hs:∀k,F k->G k):∀{xs:List α}{cs:List Value},eU R w F xs cs->eU R w G xs cs
 | [],_,h=>h
 |x::r,_,⟨c,d,e,h1,h2⟩=>⟨c,d,e,R.sub h1 hs,eU.sub hs h2⟩
theorem eU.live{w:World}{F:Nat->Prop}:∀{xs:List α}{cs:List Value},eU R w F xs cs->eU R w (λk=>F k/\k<w.heap.size) xs cs
 | [],_,h=>h
 |x::r,_,⟨c,d,e,h1,h2⟩=>⟨c,d,e,R.live h1,eU.live h2⟩
theorem eU.append{w:World}{F:Nat->Prop}:∀{xs ys:List α}{cs ds:List Value},eU R w F xs cs->eU R w F ys ds->eU R w F (xs++ys) (cs++ds)
 | [],_,_,_,h,h'=>by rw[show _=[]from h];simpa using h'
 |x::r,_,_,ds,⟨c,d,e,h1,h2⟩,h'=>⟨c,d++ds,by rw[e,List.append_assoc],h1,eU.append h2 h'⟩
theorem eU.single{w:World}{F:Nat->Prop}{x:α}{c:List Value}(h:R.rep w F x c):eU R w F [x] c:=⟨c,[],by simp,h,rfl⟩
theorem eU.at_{w:World}{F:Nat->Prop}:∀{xs:List α}{cs:List Value},eU R w F xs cs->∀{k:Nat}(hk:k<xs.length),∃c,R.rep w F xs[k] c/\∀(j:Nat) u,c[j]?=some u->cs[k*R.size+j]?=some u
 |x :: r,_,⟨c,d,e,h1,h2⟩,0,_=>⟨c,h1,λj u hj=>by
    have hlt:j<c.length:=(oGS hj).1
    rw[e,Nat.zero_mul,Nat.zero_add,List.getElem?_append_left hlt];exact hj⟩
 |x::r,_,⟨c,d,e,h1,h2⟩,k+1,hk=>by
  obtain⟨c',h3,h4⟩:=eU.at_ h2 (k:=k) (by simpa using hk);refine⟨c',h3,λj u hj=>?_⟩;rw[e,List.getElem?_append_right (by rw[R.len h1,Nat.succ_mul];omega),R.len h1,show(k+1)*R.size+j-R.size=k*R.size+j by rw[Nat.succ_mul];omega];exact h4 j u hj
theorem eU.take{w:World}{F:Nat->Prop}:∀{xs:List α}{cs:List Value},eU R w F xs cs->∀(n:Nat),eU R w F (xs.take n) (cs.take (n*R.size))
 | [],_,h,n=>by rw[show _=[]from h];simp[eU]
 |x::r,_,_,0=>by simp[eU]
 |x::r,_,⟨c,d,e,h1,h2⟩,n+1=>by
  refine⟨c,d.take (n*R.size),?_,h1,eU.take h2 n⟩;rw[e,List.take_append,List.take_of_length_le (by rw[R.len h1,Nat.succ_mul];omega),R.len h1,show(n+1)*R.size-R.size=n*R.size by rw[Nat.succ_mul];omega]
theorem eU.drop{w:World}{F:Nat->Prop}:∀{xs:List α}{cs:List Value},eU R w F xs cs->∀(n:Nat),eU R w F (xs.drop n) (cs.drop (n*R.size))
 | [],_,h,n=>by rw[show _=[]from h];simp[eU]
 |x::r,_,h,0=>by simpa using h
 |x::r,_,⟨c,d,e,h1,h2⟩,n+1=>by
  have e0:c.drop ((n+1)*R.size)=[]:=List.drop_of_length_le (by rw[R.len h1,Nat.succ_mul];omega);rw[e,List.drop_append,e0,R.len h1,show(n+1)*R.size-R.size=n*R.size by rw[Nat.succ_mul];omega];simpa using eU.drop h2 n
theorem iv.keep{w w':World}:∀{xs:List α}{fp:List Nat}{cs:List Value},iv R w fp xs cs->(∀k,k∈fp->w'.heap[k]?=w.heap[k]?)->iv R w' fp xs cs
 | [],_,_,h,_=>h
 |x::r,_,_,⟨c,d,f,g,e,e',h1,h2⟩,hk=>⟨c,d,f,g,e,e',R.okeep h1 λk h=>hk k (by rw[e'];exact List.mem_append_left _ h),iv.keep h2 λk h=>hk k (by rw[e'];exact List.mem_append_right _ h)⟩
theorem iv.live{w:World}:∀{xs:List α}{fp:List Nat}{cs:List Value},iv R w fp xs cs->∀k,k∈fp->k<w.heap.size
 | [],_,_,h,k,hk=>by rw[h.2]at hk;simp at hk
 |x::r,_,_,⟨c,d,f,g,e,e',h1,h2⟩,k,hk=>by
  rw[e',List.mem_append]at hk;rcases hk with hk|hk
  ·exact R.olive h1 k hk
  ·exact iv.live h2 k hk
theorem iv.reads{w:World}:∀{xs:List α}{fp:List Nat}{cs:List Value},iv R w fp xs cs->eU R w (λk=>k∈fp) xs cs
 | [],_,_,h=>h.1
 |x::r,_,_,⟨c,d,f,g,e,e',h1,h2⟩=>⟨c,d,e,R.sub (R.reads h1) λk h=>by rw[e'];exact List.mem_append_left _ h,eU.sub (λk h=>by rw[e'];exact List.mem_append_right _ h) (iv.reads h2)⟩
theorem iv.append{w:World}:∀{xs ys:List α}{fp gp:List Nat}{cs ds:List Value},iv R w fp xs cs->iv R w gp ys ds->iv R w (fp++gp) (xs++ys) (cs++ds)
 | [],_,_,_,_,_,h,h'=>by obtain⟨rfl,rfl⟩:=h;simpa using h'
 |x::r,_,_,gp,_,ds,⟨c,d,f,g,e,e',h1,h2⟩,h'=>⟨c,d++ds,f,g++gp,by rw[e,List.append_assoc],by rw[e',List.append_assoc],h1,iv.append h2 h'⟩
theorem iv.single{w:World}{fp:List Nat}{x:α}{c:List Value}(h:R.own w fp x c):iv R w fp [x] c:=⟨c,[],fp,[],by simp,by simp,h,rfl,rfl⟩
theorem iv.len{w:World}{xs:List α}{fp:List Nat}{cs:List Value}(h:iv R w fp xs cs):cs.length=xs.length*R.size:=(iv.reads h).len
theorem iv.split{w:World}:∀{xs:List α}{fp:List Nat}{cs:List Value},iv R w fp xs cs->∀{k:Nat}(hk:k<xs.length),
 ∃f1 f f2 c1 c c2,fp=f1++f++f2/\cs=c1++c++c2/\c1.length=k*R.size/\iv R w f1 (xs.take k) c1/\R.own w f xs[k] c/\iv R w f2 (xs.drop (k+1)) c2
 |x::r,_,_,⟨c,d,f,g,e,e',h1,h2⟩,0,_=>⟨[],f,g,[],c,d,by simpa using e',by simpa using e,by simp,⟨rfl,rfl⟩,h1,h2⟩
 |x::r,_,_,⟨c,d,f,g,e,e',h1,h2⟩,k+1,hk=>by
  obtain⟨f1,f',f2,c1,c',c2,e1,e2,e3,h3,h4,h5⟩:=iv.split h2 (k:=k) (by simpa using hk);exact⟨f++f1,f',f2,c++c1,c',c2,by rw[e',e1];simp,by rw[e,e2];simp,by rw[List.length_append,e3,R.len (R.reads h1),Nat.succ_mul,Nat.add_comm],⟨c,c1,f,f1,rfl,rfl,h1,h3⟩,h4,h5⟩
theorem iv.join{w:World}{xs:List α}{k:Nat}(hk:k<xs.length){f1 f f2:List Nat}{c1 c c2:List Value}{y:α}(h1:iv R w f1 (xs.take k) c1)(h:R.own w f y c)(h2:iv R w f2 (xs.drop (k+1)) c2):
 iv R w (f1++f++f2) (xs.set k y) (c1++c++c2):=by
 rw[List.set_eq_take_append_cons_drop,oIP hk,List.append_assoc,List.append_assoc];exact iv.append h1 ⟨c,c2,f,f2,rfl,rfl,h,h2⟩
variable (R)
def RSl(w:World)(F:Nat->Prop)(xs:List α)(v:Value):Prop:=
 ∃A c cs,v=.slice A xs.length c/\xs.length<=c/\c<=9223372036854775807/\xs.length<=1099511627776/\(A=none->c=0)/\Row w F A cs/\eU R w F xs cs
def OSl(e:TypeId)(w:World)(fp:List Nat)(xs:List α)(v:Value):Prop:=
 xs.length<=1099511627776/\((v=.slice none 0 0/\xs=[]/\fp=[])\/
  ∃q c cs g,v=.slice (some ⟨q,0,none⟩) xs.length c/\fp=q::g/\xs.length<=c/\c<=9223372036854775807/\jO e w q (c*R.size) cs/\iv R w g xs cs)
variable {R}
theorem RSl.keep{w w':World}{F:Nat->Prop}{xs:List α}{v:Value}(h:RSl R w F xs v)(ha:gu F w w'):RSl R w' F xs v:=
 let ⟨A,c,cs,e,h1,h2,h3,h4,h5,h6⟩:=h;⟨A,c,cs,e,h1,h2,h3,h4,h5.keep ha,h6.keep ha⟩
theorem RSl.sub{w:World}{F G:Nat->Prop}{xs:List α}{v:Value}(h:RSl R w F xs v)(hs:∀k,F k->G k):RSl R w G xs v:=
 let ⟨A,c,cs,e,h1,h2,h3,h4,h5,h6⟩:=h;⟨A,c,cs,e,h1,h2,h3,h4,h5.sub hs,h6.sub hs⟩
theorem RSl.live{w:World}{F:Nat->Prop}{xs:List α}{v:Value}(h:RSl R w F xs v):RSl R w (λk=>F k/\k<w.heap.size) xs v:=
 let ⟨A,c,cs,e,h1,h2,h3,h4,h5,h6⟩:=h;⟨A,c,cs,e,h1,h2,h3,h4,λi hi=>by
  obtain⟨b,off,e,hF,hc⟩:=h5 i hi
  exact⟨b,off,e,⟨hF,World.block_lt_of_cell? w _ hc⟩,hc⟩,h6.live⟩
theorem jO.row'{e:TypeId}{w:World}{q n:Nat}{vs:List Value}(h:jO e w q n vs):Row w (λk=>k=q) (some ⟨q,0,none⟩) vs:=by
 intro i hi;exact⟨q,0,rfl,rfl,by rw[Nat.zero_add,h.cell hi]⟩
theorem OSl.keep{e:TypeId}{w w':World}{fp:List Nat}{xs:List α}{v:Value}(h:OSl R e w fp xs v)(hk:∀k,k∈fp->w'.heap[k]?=w.heap[k]?):OSl R e w' fp xs v:=by
 obtain⟨hb,h|⟨q,c,cs,g,e1,e2,h1,h2,h3,h4⟩⟩:=h
 ·exact⟨hb,.inl h⟩
 ·exact⟨hb,.inr ⟨q,c,cs,g,e1,e2,h1,h2,h3.keep (hk q (by rw[e2];simp)),h4.keep λk h=>hk k (by rw[e2];simp[h])⟩⟩
theorem OSl.live{e:TypeId}{w:World}{fp:List Nat}{xs:List α}{v:Value}(h:OSl R e w fp xs v):∀k,k∈fp->k<w.heap.size:=by
 obtain⟨hb,⟨_,_,rfl⟩|⟨q,c,cs,g,e1,rfl,h1,h2,h3,h4⟩⟩:=h
 ·simp
 ·intro k hk;rcases List.mem_cons.1 hk with rfl|hk
  ·exact h3.hi
  ·exact h4.live k hk
theorem OSl.reads{e:TypeId}{w:World}{fp:List Nat}{xs:List α}{v:Value}(h:OSl R e w fp xs v):RSl R w (λk=>k∈fp) xs v:=by
 obtain⟨hb,⟨rfl,rfl,rfl⟩|⟨q,c,cs,g,rfl,rfl,h1,h2,h3,h4⟩⟩:=h
 ·exact⟨none,0,[],rfl,Nat.le_refl _,by omega,hb,λ_=>rfl,Row.nil _ _ _,rfl⟩
 ·exact⟨_,c,cs,rfl,h1,h2,hb,λh=>by simp at h,h3.row'.sub λk hk=>by simp[hk],h4.reads.sub λk hk=>by simp[hk]⟩
end
def Ie{α:Type}(e:TypeId)(R:Rp α):Rp (List α) where
 size:=1
 rep w F xs cs:=∃v,cs=[v]/\RSl R w F xs v
 own w fp xs cs:=∃v,cs=[v]/\OSl R e w fp xs v
 pos:=by decide
 len:=λ⟨v,e,_⟩=>by rw[e];rfl
 one:=λ⟨v,e,A,c,cs,e2,_⟩=>by rw[e,e2];simp[Value.oneCell']
 keep:=λ⟨v,e,h⟩ ha=>⟨v,e,h.keep ha⟩
 sub:=λ⟨v,e,h⟩ hs=>⟨v,e,h.sub hs⟩
 live:=λ⟨v,e,h⟩=>⟨v,e,h.live⟩
 okeep:=λ⟨v,e,h⟩ hk=>⟨v,e,h.keep hk⟩
 olive:=λ⟨v,e,h⟩=>h.live
 reads:=λ⟨v,e,h⟩=>⟨v,e,h.reads⟩
section
variable {α:Type} {R:Rp α}
def Hi(F:Nat->Prop)(w:World):Prop:=∀k,w.heap.size<=k->F k
theorem Hi.grow{F:Nat->Prop}{w w':World}(h:Hi F w)(hg:w.heap.size<=w'.heap.size):Hi F w':=λk hk=>h k (Nat.le_trans hg hk)
theorem RSl.grow{w w':World}{F:Nat->Prop}{xs:List α}{v:Value}(h:RSl R w F xs v)(hg:w.grownBy w' none):RSl R w' F xs v:=
 (h.live.keep (w':=w') λk hk=>hg.block k hk.2 (by simp)).sub λk hk=>hk.1
theorem Rp.grow(R:Rp α){w w':World}{F:Nat->Prop}{x:α}{cs:List Value}(h:R.rep w F x cs)(hg:w.grownBy w' none):R.rep w' F x cs:=
 R.sub (R.keep (R.live h) (w':=w') λk hk=>hg.block k hk.2 (by simp)) λk hk=>hk.1
theorem iv.grow{w w':World}{fp:List Nat}{xs:List α}{cs:List Value}(h:iv R w fp xs cs)(hg:w.grownBy w' none):iv R w' fp xs cs:=h.keep λk hk=>hg.block k (h.live k hk) (by simp)
theorem eU.grow{w w':World}{F:Nat->Prop}{xs:List α}{cs:List Value}(h:eU R w F xs cs)(hg:w.grownBy w' none):eU R w' F xs cs:=
 (eU.keep (w':=w') (λk hk=>hg.block k hk.2 (by simp)) h.live).sub λk hk=>hk.1
theorem OSl.grow{e:TypeId}{w w':World}{fp:List Nat}{xs:List α}{v:Value}(h:OSl R e w fp xs v)(hg:w.grownBy w' none):OSl R e w' fp xs v:=h.keep λk hk=>hg.block k (h.live k hk) (by simp)
theorem RSl.nil(w:World)(F:Nat->Prop):RSl R w F [] (.slice none 0 0):=⟨none,0,[],rfl,Nat.le_refl _,by omega,by simp,λ_=>rfl,Row.nil _ _ _,rfl⟩
theorem RSl.at_{w:World}{F:Nat->Prop}{xs:List α}{v:Value}(h:RSl R w F xs v){k:Nat}(hk:k<xs.length):
 ∃b off c cs,v=.slice (some ⟨b,off,none⟩) xs.length c/\xs.length<=c/\c<=9223372036854775807/\F b/\R.rep w F xs[k] cs/\∀(j:Nat) u,cs[j]?=some u->w.cell? ⟨b,off+(k*R.size+j),none⟩=some u:=by
 obtain⟨A,c,cs,rfl,h1,h2,h3,h4,h5,h6⟩:=h;obtain⟨d,hd,hj⟩:=h6.at_ hk;have SA:=R.len hd;have hp:=R.pos;have h0:d[0]?=some d[0]:=oGE (by omega);have h7:=hj 0 _ h0;obtain⟨h8,_⟩:=oGS h7;obtain⟨b,off,rfl,hF,_⟩:=h5 _ h8;refine⟨b,off,c,d,rfl,h1,h2,hF,hd,λj u hu=>?_⟩;obtain⟨h9,ZM⟩:=oGS (hj j u hu);obtain⟨b',Vu,e,_,hc⟩:=h5 _ h9
 injection e with e;injection e with e1 e2;subst e1;subst e2
 rw[hc,ZM]
theorem RSl.size_eq{w:World}{F:Nat->Prop}{xs:List α}{v:Value}(h:RSl R w F xs v):
 ∃A c,v=.slice A xs.length c/\xs.length<=c/\c<=9223372036854775807/\xs.length<=1099511627776:=
 let ⟨A,c,_,e,h1,h2,h3,_⟩:=h;⟨A,c,e,h1,h2,h3⟩
theorem RSl.cells{w:World}{F:Nat->Prop}{xs:List α}{v:Value}(h:RSl R w F xs v):
 (xs=[]/\∃A c,v=.slice A 0 c/\(A=none->c=0))\/∃ad c cs,v=.slice (some ad) xs.length c/\cs.length=xs.length*R.size/\(∀(j:Nat) u,cs[j]?=some u->w.cell? (ad.add j)=some u)/\eU R w F xs cs:=by
 obtain⟨A,c,cs,rfl,h1,h2,h3,h4,h5,h6⟩:=h;by_cases hx:xs=[]
 ·subst hx;exact .inl ⟨rfl,A,c,rfl,h4⟩
 ·refine .inr ?_;have hl:=h6.len;have hp:0<xs.length*R.size:=Nat.mul_pos (List.length_pos_iff.2 hx) R.pos;obtain⟨b,off,rfl,_,_⟩:=h5 0 (by omega);refine⟨_,c,cs,rfl,hl,λj u hu=>?_,h6⟩;obtain⟨h9,ZM⟩:=oGS hu;obtain⟨b',Vu,e,_,hc⟩:=h5 _ h9
  injection e with e;injection e with e1 e2;subst e1;subst e2
  rw[show(⟨b,off,none⟩:Addr).add j=⟨b,off+j,none⟩ by simp[Addr.add],hc,ZM]
def Mk(R:Rp α)(e:TypeId)(base:Nat)(w:World)(G:Nat->Prop)(v:Value)(xs:List α):Prop:=
 ∃cs,w.ownsRow base e R.size v xs.length cs/\xs.length<=1099511627776/\eU R w (λk=>G k/\some k≠v.ownBlock) xs cs
def MkO(R:Rp α)(e:TypeId)(base:Nat)(w:World)(fp:List Nat)(v:Value)(xs:List α):Prop:=
 ∃cs,w.ownsRow base e R.size v xs.length cs/\xs.length<=1099511627776/\iv R w fp xs cs/\fp.Nodup/\∀k,k∈fp->base<=k/\some k≠v.ownBlock
theorem Mk.nil(R:Rp α)(e:TypeId)(base:Nat)(w:World)(G:Nat->Prop):Mk R e base w G (.slice none 0 0) []:=⟨[],World.ownsRow_nil _ _ _ _,by simp,rfl⟩
theorem MkO.nil(R:Rp α)(e:TypeId)(base:Nat)(w:World):MkO R e base w [] (.slice none 0 0) []:=⟨[],World.ownsRow_nil _ _ _ _,by simp,⟨rfl,rfl⟩,List.nodup_nil,by simp⟩
theorem Mk.grow{e:TypeId}{base:Nat}{w w':World}{G:Nat->Prop}{v:Value}{xs:List α}(h:Mk R e base w G v xs)(hg:w.grownBy w' none):Mk R e base w' G v xs:=by
 obtain⟨cs,h1,h2,h3⟩:=h;refine⟨cs,h1.kept hg ?_,h2,(eU.keep (w':=w') (λk hk=>hg.block k hk.2 (by simp)) h3.live).sub λk hk=>hk.1⟩;cases hv:v.ownBlock
 ·exact .inl rfl
 ·exact .inr (by simp)
theorem MkO.grow{e:TypeId}{base:Nat}{w w':World}{fp:List Nat}{v:Value}{xs:List α}(h:MkO R e base w fp v xs)(hg:w.grownBy w' none):MkO R e base w' fp v xs:=by
 obtain⟨cs,h1,h2,h3,h4,h5⟩:=h;refine⟨cs,h1.kept hg ?_,h2,h3.keep λk hk=>hg.block k (h3.live k hk) (by simp),h4,h5⟩;cases hv:v.ownBlock
 ·exact .inl rfl
 ·exact .inr (by simp)
theorem Mk.done{e:TypeId}{base:Nat}{w:World}{F G:Nat->Prop}{v:Value}{xs:List α}(h:Mk R e base w G v xs)(hF:∀k,base<=k->F k)(hG:∀k,G k->F k):RSl R w F xs v:=by
 obtain⟨cs,h1,h2,h3⟩:=h;have hlt:=h1.lt;have hc:=@World.ownsRow.cells w base e R.size v xs.length cs h1
 rcases h1.2 with⟨rfl,hn⟩|⟨g,cap,cur,rfl,hb,Yl,hcap,hmax,hsz,YP⟩
 ·have hx:xs=[]:=oEN hn;subst hx;exact RSl.nil _ _
 ·refine⟨_,cap,cs,rfl,hcap,by simpa[maxLen]using hmax,h2,by simp,λi hi=>⟨g,0,rfl,hF g hb,?_⟩,h3.sub λk hk=>hG k hk.1⟩;have:=hc rfl i _ (oGE hi);rw[show(⟨g,0+i,none⟩:Addr)=(⟨g,0,none⟩:Addr).add i from by unfold Addr.add;split<;>simp_all];exact this
theorem MkO.done{e:TypeId}{base:Nat}{w:World}{fp:List Nat}{v:Value}{xs:List α}(h:MkO R e base w fp v xs):
 ∃gp,OSl R e w gp xs v/\gp.Nodup/\∀k,k∈gp->base<=k:=by
 obtain⟨cs,h1,h2,h3,h4,h5⟩:=h
 rcases h1.2 with⟨rfl,hn⟩|⟨g,cap,cur,rfl,hb,Yl,hcap,hmax,hsz,YP⟩
 ·have hx:xs=[]:=oEN hn;subst hx;exact⟨[],⟨h2,.inl ⟨rfl,rfl,rfl⟩⟩,List.nodup_nil,by simp⟩
 ·refine⟨g::fp,⟨h2,.inr ⟨g,cap,cs,fp,rfl,rfl,hcap,by simpa[maxLen]using hmax,⟨cur,Yl,hsz,by rw[h1.1];exact YP⟩,h3⟩⟩,?_,?_⟩
  ·refine List.nodup_cons.2 ⟨λhm=>(h5 g hm).2 rfl,h4⟩
  ·intro k hk;rcases List.mem_cons.1 hk with rfl|hk
   ·exact hb
   ·exact(h5 k hk).1
theorem Mk.shape{e:TypeId}{base:Nat}{w:World}{G:Nat->Prop}{v:Value}{xs:List α}(h:Mk R e base w G v xs):∃A c,v=.slice A xs.length c:=by
 obtain⟨cs,h1,h2,h3⟩:=h
 rcases h1.2 with⟨rfl,hn⟩|⟨g,cap,cur,rfl,_⟩
 ·rw[hn];exact⟨_,_,rfl⟩
 ·exact⟨_,_,rfl⟩
theorem MkO.shape{e:TypeId}{base:Nat}{w:World}{fp:List Nat}{v:Value}{xs:List α}(h:MkO R e base w fp v xs):∃A c,v=.slice A xs.length c:=by
 obtain⟨cs,h1,h2,h3⟩:=h
 rcases h1.2 with⟨rfl,hn⟩|⟨g,cap,cur,rfl,_⟩
 ·rw[hn];exact⟨_,_,rfl⟩
 ·exact⟨_,_,rfl⟩
theorem OSl.shape{e:TypeId}{w:World}{fp:List Nat}{v:Value}{xs:List α}(h:OSl R e w fp xs v):∃A c,v=.slice A xs.length c:=by
 obtain⟨hb,⟨rfl,rfl,rfl⟩|⟨q,c,cs,g,rfl,rfl,h1,h2,h3,h4⟩⟩:=h
 ·exact⟨_,_,rfl⟩
 ·exact⟨_,_,rfl⟩
end
structure SlT (P:Program)(t e:TypeId)(size bytes:Nat):Prop where
 under:P.underlying t=some (.slice e)
 info:∃i z,P.info? e=some i/\i.zero=some z/\i.size=size/\i.bytes=bytes/\z.cells.size=size
 pos:0<size
section
variable {P:Program} {w:World} {t e:TypeId} {size bytes:Nat}
theorem qO(T:SlT P t e size bytes)(ty:TypeId)(base:Nat)(v:Value)(n:Nat)(xs:List Value)(hown:w.ownsRow base e size v n xs)
 (ad:Addr)(m c:Nat)(news:List Value)(hl:news.length=m*size)(YX:∀(j:Nat) u,news[j]?=some u->w.cell? (ad.add j)=some u)(h1:∀u∈news,u.oneCell'=true)
 (Rx:n+m<=maxLen)(XT:(n+m)*bytes<=140737488355328)(YL:base<=w.heap.size):
 ∃v' w',(Builtin.append_ #[t,t] ty #[v,.slice (some ad) m c]).run P w=.ok v' w'/\w'.ownsRow base e size v' (n+m) (xs++news)/\w.grownBy w' v.ownBlock /\
  (v'.ownBlock=v.ownBlock\/∀k,v'.ownBlock=some k->w.heap.size<=k):=by
 obtain⟨i,z,hi,hz,WW,Wn,YE⟩:=T.info
 rcases hown.2 with⟨rfl,hn⟩|⟨g,cap,cur,rfl,hb,Yl,hcap,hmax,hsz,YP⟩
 ·subst hn;have hx:xs=[]:=oEN (by simpa using hown.1);subst hx;obtain⟨v',w',hr,Y8,hg,_⟩:=run_append_own (P:=P) w w.heap.size t ty e i z size bytes T.under hi hz WW Wn YE T.pos (.slice none 0 0) 0 [] ⟨by simp,.inl ⟨rfl,rfl⟩⟩ ad m c news hl YX h1 Rx XT (Nat.le_refl _);refine⟨v',w',hr,?_,hg,.inr λk hk=>(Y8.lt k hk).1⟩;refine⟨Y8.1,?_⟩;rcases Y8.2 with h|⟨g,cap,cur,e1,e2,e3⟩
  ·exact .inl h
  ·exact .inr ⟨g,cap,cur,e1,Nat.le_trans YL e2,e3⟩
 ·rcases Nat.lt_or_ge cap (n+m)with hlt|hge
  ·have hc:=@World.ownsRow.cells w base e size _ n xs hown;obtain⟨v',w',hr,Y8,hg⟩:=run_append_arg_grows (P:=P) w t ty e i z size bytes T.under hi hz WW Wn YE T.pos ⟨g,0,none⟩ n cap xs hown.1 (hc rfl) ad m c news hl YX hlt Rx XT;refine⟨v',w',hr,⟨Y8.1,?_⟩,mP hg,.inr λk hk=>(Y8.lt k hk).1⟩;rcases Y8.2 with h|⟨g,cap,cur,e1,e2,e3⟩
   ·exact .inl h
   ·exact .inr ⟨g,cap,cur,e1,Nat.le_trans YL e2,e3⟩
  ·obtain⟨w',hr,Y8,hg⟩:=run_append_own_spare (P:=P) w base t ty e i size T.under hi WW g n cap xs hown ad m c news hl YX h1 hge;exact⟨_,w',hr,Y8,hg,.inl rfl⟩
end
section
variable {P:Program} {ops:Array Oper} {rest:List Oper} {o:Oper} {a:Act} {Q:Exit->Act->World->Prop} {w:World} {t e:TypeId} {size bytes:Nat} {α:Type} {R:Rp α}
theorem nB(XU:o.guard=none)(s x:Operand)(T:SlT P t e size bytes)(ho:o.op=.call { callee:=.builtin .append,args:=#[s,x],argTypes:=#[t,t] })
 (base:Nat)(v:Value)(n:Nat)(xs:List Value)(hs:a.eval s=v)(hown:w.ownsRow base e size v n xs)
 (ad:Addr)(m c:Nat)(news:List Value)(hx:a.eval x=.slice (some ad) m c)(hl:news.length=m*size)(YX:∀(j:Nat) u,news[j]?=some u->w.cell? (ad.add j)=some u)(h1:∀u∈news,u.oneCell'=true)
 (Rx:n+m<=maxLen)(XT:(n+m)*bytes<=140737488355328)(YL:base<=w.heap.size)
 (h:∀v' w',w'.ownsRow base e size v' (n+m) (xs++news)->w.grownBy w' v.ownBlock->(v'.ownBlock=v.ownBlock\/∀k,v'.ownBlock=some k->w.heap.size<=k)->wpList P ops Q rest (a.put o.dst v') w'):wpList P ops Q (o::rest) a w:=by
 refine wpList_plain XU λK hK=>?_;obtain⟨v',w',hrun,h2,h3,h4⟩:=qO (P:=P) (w:=w) T o.type base v n xs hown ad m c news hl YX h1 Rx XT YL;unfold Oper.wp;simp[execOp,ho,resolve,invoke,builtin,hs,hx,hrun,Result.andThen];exact hK _ _ (h v' w' h2 h3 h4)
theorem B1{n:Nat}(h:n<=2199023255552):n<=maxLen:=by simp only[maxLen];omega
theorem EK{n b:Nat}(h:n<=1099511627776)(hb:b<=128):n*b<=140737488355328:=Nat.le_trans (Nat.mul_le_mul h hb) (by decide)
theorem lG(XU:o.guard=none)(s x:Operand)(T:SlT P t e R.size bytes)(Wn:bytes<=128)(ho:o.op=.call { callee:=.builtin .append,args:=#[s,x],argTypes:=#[t,t] })
 (base:Nat)(G:Nat->Prop)(v:Value)(xs:List α)(hs:a.eval s=v)(hown:Mk R e base w G v xs)(YL:base<=w.heap.size)
 (u:Value)(ys:List α)(hx:a.eval x=u)(Ys:RSl R w (λk=>G k/\some k≠v.ownBlock) ys u)(hnil:∀c,u=.slice none 0 c->c=0)(hlen:xs.length+ys.length<=1099511627776)
 (h:∀v' w',Mk R e base w' G v' (xs++ys)->w.grownBy w' v.ownBlock->wpList P ops Q rest (a.put o.dst v') w'):wpList P ops Q (o::rest) a w:=by
 obtain⟨cs,h1,h2,h3⟩:=hown;obtain⟨i,z,hi,hz,WW,hb,YE⟩:=T.info;obtain⟨A,c,ds,rfl,g1,g2,g3,g4,g5,g6⟩:=Ys
 cases A with
 |none=>
  have hy:ys=[]:=by
   have hl:=g6.len;by_cases hy:ys=[]
   ·exact hy
   ·have hp:0<ys.length*R.size:=Nat.mul_pos (List.length_pos_iff.2 hy) R.pos;obtain⟨_,_,e,_⟩:=g5 0 (by omega);simp at e
  subst hy;have hc:=g4 rfl;subst hc;refine wpList_append_own_none XU s x t ho base e i R.size T.under hi v xs.length cs hs h1 hx ?_;refine h v w ⟨cs,by simpa using h1,by simpa using h2,by simpa using h3⟩ (bx _ _)
 |some ad=>
  have hcell:∀(j:Nat) u,ds[j]?=some u->w.cell? (ad.add j)=some u:=λj u hu=>by
   obtain⟨h9,ZM⟩:=oGS hu;obtain⟨b',Vu,e,_,hc⟩:=g5 _ h9
   injection e with e;subst e
   rw[show(⟨b',Vu,none⟩:Addr).add j=⟨b',Vu+j,none⟩ by simp[Addr.add],hc,ZM]
  refine nB XU s x T ho base v xs.length cs hs h1 ad ys.length c ds hx g6.len hcell g6.one (B1 (by omega)) (EK hlen Wn) YL ?_;intro v' w' Y8 hg Ul;refine h v' w' ⟨cs++ds,by rw[List.length_append];exact Y8,by simpa using hlen,?_⟩ hg;have ZK:=(eU.append h3 g6).live;refine(eU.keep (w':=w') (λk hk=>hg.block k hk.2 hk.1.2) ZK).sub λk hk=>⟨hk.1.1,?_⟩;rcases Ul with e|Ul
  ·rw[e];exact hk.1.2
  ·intro e;have:=Ul k e.symm;omega
theorem RSl.one{w:World}{F:Nat->Prop}{x:α}{cs:List Value}{b:Nat}(h:R.rep w F x cs)(hF:F b)(hc:∀(j:Nat) u,cs[j]?=some u->w.cell? ⟨b,j,none⟩=some u):RSl R w F [x] (.slice (some ⟨b,0,none⟩) 1 1):=
 ⟨some ⟨b,0,none⟩,1,cs,rfl,Nat.le_refl _,by omega,by simp,by simp,λi hi=>⟨b,0,rfl,hF,by rw[Nat.zero_add];exact hc i _ (oGE hi)⟩,eU.single h⟩
end
theorem ig{a b c:World}{row:Option Nat}(h:a.grownBy b none)(h':b.grownBy c row)(hr:∀k,row=some k->a.heap.size<=k):a.grownBy c none:=
 ⟨h'.os.trans h.os,h'.tape.trans h.tape,h'.output.trans h.output,Nat.le_trans h.size h'.size,λk hk _=>(h'.block k (Nat.lt_of_lt_of_le hk h.size) (λe=>by have:=hr k e.symm;omega)).trans (h.block k hk (by simp))⟩
theorem MkO.row{α:Type}{R:Rp α}{e:TypeId}{base:Nat}{w:World}{fp:List Nat}{v:Value}{xs:List α}(h:MkO R e base w fp v xs):∀k,v.ownBlock=some k->base<=k/\k<w.heap.size:=
 let ⟨_,h1,_⟩:=h;h1.lt
theorem Mk.row{α:Type}{R:Rp α}{e:TypeId}{base:Nat}{w:World}{G:Nat->Prop}{v:Value}{xs:List α}(h:Mk R e base w G v xs):∀k,v.ownBlock=some k->base<=k/\k<w.heap.size:=
 let ⟨_,h1,_⟩:=h;h1.lt
theorem MkO.live{α:Type}{R:Rp α}{e:TypeId}{base:Nat}{w:World}{fp:List Nat}{v:Value}{xs:List α}(h:MkO R e base w fp v xs):∀k,k∈fp->k<w.heap.size:=
 let ⟨_,_,_,h3,_⟩:=h;h3.live
theorem MkO.above{α:Type}{R:Rp α}{e:TypeId}{base:Nat}{w w':World}{fp:List Nat}{v:Value}{xs:List α}(h:MkO R e base w fp v xs)(hk:∀k,base<=k->k<w.heap.size->w'.heap[k]?=w.heap[k]?):MkO R e base w' fp v xs:=by
 obtain⟨cs,h1,h2,h3,h4,h5⟩:=h;refine⟨cs,⟨h1.1,?_⟩,h2,h3.keep λk YW=>hk k (h5 k YW).1 (h3.live k YW),h4,h5⟩;rcases h1.2 with h|⟨g,cap,cur,e1,hb,Yl,h⟩
 ·exact .inl h
 ·exact .inr ⟨g,cap,cur,e1,hb,by rw[hk g hb (Array.getElem?_eq_some_iff.1 Yl).1];exact Yl,h⟩
theorem jO.setmid{e:TypeId}{w:World}{q n:Nat}{c1 d:List Value}(h:jO e w q n (c1++d)){j:Nat}(hj:j<d.length)(v:Value):jO e (w.setCell ⟨q,c1.length+j,none⟩ v) q n (c1++d.set j v):=by
 have:=h.set (j:=c1.length+j) v (by rw[List.length_append];omega)
 rwa [List.set_append_right _ _ (by omega),show c1.length+j-c1.length=j by omega]at this
theorem xO(w:World)(p:Addr)(v:Value):(w.setCell p v).heap.size=w.heap.size:=by simp[World.setCell]
theorem vW(w:World)(cur:Array Value)(cap:Nat)(xs:List Value){base e size:Nat}(hb:base<=w.heap.size)(hx:cur.toList=xs)(hs:cur.size=cap*size)(hm:cap<=maxLen):
 (w.alloc (.cells cur e)).ownsRow base e size (.slice (some ⟨w.heap.size,0,none⟩) cap cap) cap xs:=by
 subst hx;exact⟨by simpa using hs,.inr ⟨w.heap.size,cap,cur,rfl,hb,heap_alloc_new w _,Nat.le_refl _,hm,hs,by rw[<- hs,<- Array.length_toList,List.take_length]⟩⟩
section
variable {P:Program} {w:World} {t e:TypeId} {bytes:Nat} {α:Type} {R:Rp α}
end
def Rp.flat{α:Type}(R:Rp α):Prop:=∀{w F a cs},R.rep w F a cs->∀w',R.own w' [] a cs
theorem qg{α β:Type}{R:Rp α}{S:Rp β}(h:R.flat)(h':S.flat):(lM R S).flat:=λ⟨c,d,e,h1,h2⟩ w'=>⟨c,d,[],[],e,rfl,h h1 w',h' h2 w'⟩
theorem eU.flat{α:Type}{R:Rp α}(hR:R.flat){w:World}{F:Nat->Prop}(w':World):∀{xs:List α}{cs:List Value},eU R w F xs cs->iv R w' [] xs cs
 | [],_,h=>⟨h,rfl⟩
 |x::r,_,⟨c,d,e,h1,h2⟩=>⟨c,d,[],[],e,rfl,hR h1 w',eU.flat hR w' h2⟩
theorem Mk.own{α:Type}{R:Rp α}(hR:R.flat){e:TypeId}{base:Nat}{w:World}{G:Nat->Prop}{v:Value}{xs:List α}(h:Mk R e base w G v xs):MkO R e base w [] v xs:=
 let ⟨cs,h1,h2,h3⟩:=h;⟨cs,h1,h2,h3.flat hR w,List.nodup_nil,by simp⟩
def lh(w:World)(F:Nat->Prop):List TV->List Value->Prop
 | [],vs=>vs=[]
 |t::ts,vs=>∃v r,vs=v::r/\fM w F t v/\lh w F ts r
theorem lh.len{w:World}{F:Nat->Prop}:∀{ts:List TV}{vs:List Value},lh w F ts vs->vs.length=ts.length
 | [],_,h=>by rw[show _=[]from h];rfl
 |_::_,_,⟨v,r,e,_,h⟩=>by rw[e,oLC,lh.len h,oLC]
theorem lh.app{w:World}{F:Nat->Prop}:∀{ts us:List TV}{vs xs:List Value},lh w F ts vs->lh w F us xs->lh w F (ts++us) (vs++xs)
 | [],_,_,_,h,h'=>by rw[show _=[]from h];exact h'
 |_::_,_,_,_,⟨v,r,e,h1,h2⟩,h'=>⟨v,_,by rw[e];rfl,h1,lh.app h2 h'⟩
theorem lh.split{w:World}{F:Nat->Prop}:∀{ts us:List TV}{vs:List Value},lh w F (ts++us) vs->∃a b,vs=a++b/\lh w F ts a/\lh w F us b
 | [],_,vs,h=>⟨[],vs,rfl,rfl,h⟩
 |_::_,_,_,⟨v,r,e,h1,h2⟩=>by
  obtain⟨a,b,rfl,h3,h4⟩:=lh.split h2;exact⟨v::a,b,by rw[e];rfl,⟨v,a,rfl,h1,h3⟩,h4⟩
theorem lh.get{w:World}{F:Nat->Prop}:∀{ts:List TV}{vs:List Value},lh w F ts vs->∀j (h:j<ts.length),fM w F ts[j] (vs.getD j undef)
 |_::_,_,⟨v,r,e,h1,_⟩,0,_=>by rw[e];exact h1
 |_::ts,_,⟨v,r,e,_,h2⟩,j+1,h=>by rw[e];exact lh.get h2 j (by simpa using h)
theorem lh.of{w:World}{F:Nat->Prop}:∀{ts:List TV}{vs:List Value},ts.length=vs.length->(∀j (h:j<ts.length),fM w F ts[j] (vs.getD j undef))->lh w F ts vs
 | [],[],_,_=>rfl
 |t::ts,v::vs,hl,h=>⟨v,vs,rfl,h 0 (by simp),lh.of (by simpa using hl) λj hj=>by have:=h (j+1) (by simpa using hj);simpa using this⟩
 | [],_::_,hl,_=>by simp at hl
 |_::_,[],hl,_=>by simp at hl
theorem lh.frame{w w':World}{F F':Nat->Prop}(hw:∀k,F k->k<w.heap.size->w'.heap[k]?=w.heap[k]?)(hF:∀k,F k->k<w.heap.size->F' k):∀{ts:List TV}{vs:List Value},lh w F ts vs->lh w' F' ts vs
 | [],_,h=>h
 |_::_,_,⟨v,r,e,h1,h2⟩=>⟨v,r,e,h1.frame hw hF,lh.frame hw hF h2⟩
def rI(k:IntKind):Rp Int where
 size:=1
 rep _ _ a cs:=cs=[.int k a]
 own _ fp a cs:=fp=[]/\cs=[.int k a]
 pos:=by decide
 len:=λh=>by rw[h];rfl
 one:=λh=>by rw[h];simp[Value.oneCell']
 keep:=λh _=>h
 sub:=λh _=>h
 live:=λh=>h
 okeep:=λh _=>h
 olive:=λh k hk=>by rw[h.1]at hk;simp at hk
 reads:=λh=>h.2
theorem yp(k:IntKind):(rI k).flat:=λh _=>⟨rfl,h⟩
structure RIm {α:Type}(R:Rp α)(e:α->List TV)(Bd:α->Prop):Prop where
 toI:∀{w:World}{F:Nat->Prop}{a:α}{cs:List Value},R.rep w F a cs->lh w F (e a) cs
 of:∀{w:World}{F:Nat->Prop}{a:α}{cs:List Value},lh w F (e a) cs->Bd a->R.rep w F a cs
 len:∀a,(e a).length=R.size
theorem nK(k:IntKind):RIm (rI k) (λa=>[.v (.int k a)]) λ_=>True:=
 ⟨λh=>⟨_,[],h,.v rfl,rfl⟩,λ⟨v,r,e,h1,h2⟩ _=>by
  have h2:r=[]:=h2;subst h2;cases h1
  exact e,λ_=>rfl⟩
theorem eo{α β:Type}{R:Rp α}{S:Rp β}{e:α->List TV}{f:β->List TV}{A:α->Prop}{B:β->Prop}(h:RIm R e A)(h':RIm S f B):RIm (lM R S) (λp=>e p.1++f p.2) λp=>A p.1/\B p.2:=
 ⟨λ⟨c,d,e1,h1,h2⟩=>by rw[e1];exact(h.toI h1).app (h'.toI h2),λh1 hb=>by
  obtain⟨a,b,rfl,h2,h3⟩:=h1.split
  exact⟨a,b,rfl,h.of h2 hb.1,h'.of h3 hb.2⟩,λp=>by rw[List.length_append,h.len,h'.len];rfl⟩
theorem Cl{α:Type}{R:Rp α}{e:α->List TV}{A:α->Prop}(h:RIm R e A){w:World}{F:Nat->Prop}:∀{xs:List α}{cs:List Value},lh w F (xs.map e).flatten cs->(∀x∈xs,A x)->eU R w F xs cs
 | [],_,h,_=>h
 |_::_,_,h1,hA=>by
  obtain⟨a,b,rfl,h2,h3⟩:=lh.split (by simpa using h1);exact⟨a,b,rfl,h.of h2 (hA _ (by simp)),Cl h (by simpa using h3) λx hx=>hA x (by simp[hx])⟩
theorem rS{α:Type}{R:Rp α}{e:α->List TV}{A:α->Prop}(h:RIm R e A){w:World}{F:Nat->Prop}{xs:List α}{v:Value}(hs:RSl R w F xs v):fM w F (.sl (xs.map e)) v:=by
 obtain⟨a,c,cs,rfl,h1,h2,h3,h4,h5,h6⟩:=hs;have hl:=h6.len
 have ZP:fM w F (.sl (xs.map e)) (.slice a (xs.map e).length c):=by
  refine .sl R.size (λi j=>cs.getD (i*R.size+j) undef) (λi hi=>by simp[h.len]) (by simpa using h1) (by unfold maxLen;exact h2) h4 (λi j hi hj=>?_) (λi j hi hj=>?_)
  ·have ZH:i<xs.length:=by simpa using hi
   have hlt:i*R.size+j<cs.length:=by
    rw[hl]
    calc i*R.size+j<i*R.size+R.size:=by omega
     _=(i+1)*R.size:=by rw[Nat.succ_mul]
     _<=xs.length*R.size:=Nat.mul_le_mul_right _ ZH
   obtain⟨b,off,e1,hF,hc⟩:=h5 _ hlt;exact⟨b,off,e1,hF,by rw[hc];simp[oGD,hlt]⟩
  ·have ZH:i<xs.length:=by simpa using hi
   obtain⟨d,hd,Yg⟩:=h6.at_ ZH;have hrel:=h.toI hd
   have ZT:j<(e xs[i]).length:=by simpa using hj
   have hg:=hrel.get j ZT;have SA:=R.len hd
   have OV:j<d.length:=by rw[SA,<- h.len xs[i]];exact ZT
   have e2:=Yg j d[j] (oGE OV)
   have e3:cs.getD (i*R.size+j) undef=d.getD j undef:=by
    rw[oGD,oGD,e2,oGE OV]
   rw[e3];simpa using hg
 simpa using ZP
theorem Ck{α:Type}{R:Rp α}{e:α->List TV}{A:α->Prop}(h:RIm R e A){w:World}{F:Nat->Prop}{xs:List α}{v:Value}(hs:fM w F (.sl (xs.map e)) v)(hx:∀x∈xs,A x)(hm:xs.length<=1099511627776):RSl R w F xs v:=by
 generalize hc:xs.map e=c at hs
 cases hs with
 | @sl _ a cap sz u hsz hcap hmax hnil hcell hrec=>
  have hl:c.length=xs.length:=by rw[<- hc];simp
  by_cases h0:xs=[]
  ·subst h0
   have:c=[]:=by rw[<- hc];rfl
   subst this;exact⟨a,cap,[],rfl,Nat.zero_le _,by simpa[maxLen]using hmax,by simp,hnil,λi hi=>by simp at hi,rfl⟩
  ·have ZX:0<xs.length:=List.length_pos_iff.2 h0
   have hz:sz=R.size:=by
    rw[<- hsz 0 (by omega)];simp[<- hc,h.len]
   subst hz;obtain⟨cs,Wo⟩:∃cs:List Value,cs=((List.range xs.length).map λi=>(List.range R.size).map (u i)).flatten:=⟨_,rfl⟩
   have hrow:∀n,n<=xs.length->lh w F (((xs.drop n).map e).flatten) (((List.range' n (xs.length-n)).map λi=>(List.range R.size).map (u i)).flatten):=by
    intro n
    induction hk:xs.length-n generalizing n with
    |zero=>
     intro hn;rw[List.drop_of_length_le (by omega)];rfl
    |succ k ih=>
     intro hn
     have hlt:n<xs.length:=by omega
     rw[List.drop_eq_getElem_cons hlt,List.range'_succ];simp only[List.map_cons,List.flatten_cons];refine lh.app (lh.of (by simp[h.len]) λj hj=>?_) (ih (n+1) (by omega) (by omega))
     have Yg:j<R.size:=by rw[<- h.len xs[n]];exact hj
     have Nb:n<c.length:=by omega
     have e1:c[n]=e xs[n]:=by simp[<- hc]
     have:=hrec n j Nb (by rw[e1];exact hj)
     have e2:(c[n])[j]'(by rw[e1];exact hj)=(e xs[n])[j]:=by simp[e1]
     rw[e2]at this;simpa[oGD,Yg]using this
   have hR:eU R w F xs cs:=by
    have:=hrow 0 (Nat.zero_le _);rw[List.drop_zero,Nat.sub_zero,<- List.range_eq_range',<- Wo]at this;exact Cl h this hx
   rw[hl];refine⟨a,cap,cs,rfl,by rw[<- hl];exact hcap,by simpa[maxLen]using hmax,hm,hnil,λk hk=>?_,hR⟩;have hcl:=hR.len
   have ZA:k/R.size<xs.length:=by
    rw[Nat.div_lt_iff_lt_mul R.pos];omega
   have hk2:k%R.size<R.size:=Nat.mod_lt _ R.pos
   have e0:k/R.size*R.size+k%R.size=k:=by rw[Nat.mul_comm];exact Nat.div_add_mod _ _
   obtain⟨b,o,e1,hF,hcc⟩:=hcell (k/R.size) (k%R.size) (by omega) hk2;refine⟨b,o,e1,hF,?_⟩;rw[e0]at hcc;rw[hcc];have h2:=ij (c:=(List.range xs.length).map λi=>(List.range R.size).map (u i)) (sz:=R.size) (λi h=>by simp) (i:=k/R.size) (j:=k%R.size) (by simpa using ZA) (by simpa using hk2);rw[e0,<- Wo,oGE hk]at h2
   injection h2 with h2
   rw[h2];simp
theorem DR{α:Type}{R:Rp α}{e:α->List TV}{A:α->Prop}(t:TypeId)(h:RIm R e A):RIm (Ie t R) (λxs=>[.sl (xs.map e)]) λxs=>xs.length<=1099511627776/\∀x∈xs,A x:=
 ⟨λ⟨v,e1,h1⟩=>by rw[e1];exact⟨v,[],rfl,rS h h1,rfl⟩,λ⟨v,r,e1,h1,h2⟩ hb=>by
  have h2:r=[]:=h2;subst h2
  exact⟨v,e1,Ck h h1 hb.2 hb.1⟩,λ_=>rfl⟩
def Bk(w:World)(q t:Nat)(vs:List Value):Prop:=w.heap[q]?=some (.cells vs.toArray t (0,0))
theorem Bk.hi{w:World}{q t:Nat}{vs:List Value}(h:Bk w q t vs):q<w.heap.size:=(Array.getElem?_eq_some_iff.1 h).1
theorem Bk.keep{w w':World}{q t:Nat}{vs:List Value}(h:Bk w q t vs)(hh:w'.heap[q]?=w.heap[q]?):Bk w' q t vs:=hh.trans h
theorem Bk.grow{w w':World}{q t:Nat}{vs:List Value}(h:Bk w q t vs)(hg:w.grownBy w' none):Bk w' q t vs:=h.keep (hg.block _ h.hi (by simp))
theorem Bk.cell{w:World}{q t:Nat}{vs:List Value}(h:Bk w q t vs)(j:Nat):w.cell? ⟨q,j,none⟩=vs[j]?:=by
 rw[cell_of_row _ _ _ _ _ _ h];simp
theorem Bk.free{w:World}{q t:Nat}{vs:List Value}(h:Bk w q t vs)(j:Nat):w.frozen? ⟨q,j,none⟩=false:=frozen_of_row _ _ _ _ _ h
theorem Bk.new{w:World}{t:Nat}{vs:List Value}:Bk (w.alloc (.cells vs.toArray t)) w.heap.size t vs:=heap_alloc_new w _
theorem Bk.set{w:World}{q t:Nat}{vs:List Value}(h:Bk w q t vs)(j:Nat)(v:Value):Bk (w.setCell ⟨q,j,none⟩ v) q t (vs.set j v):=by
 unfold Bk;rw[heap_setCell_same _ _ _ _ _ _ h];simp
theorem Bk.other{w:World}{q t q' j:Nat}{vs:List Value}(h:Bk w q t vs)(hne:q≠q')(v:Value):Bk (w.setCell ⟨q',j,none⟩ v) q t vs:=by
 unfold Bk;rw[heap_setCell_other _ _ _ _ hne];exact h
theorem Bk.drew{w:World}{q t:Nat}{vs:List Value}(h:Bk w q t vs):Bk w.drew q t vs:=h
abbrev Cn4:=Int×Int×Int×Int
abbrev Vw8:=Int×Int×Int×Int×Int×Int×Int×List Cn4
abbrev Fs:=Int×Int×List Cn4×Vw8
abbrev cCn:CT:=.pair (.int .u8) (.pair (.int .u16) (.pair (.int .i64) (.int .i64)))
abbrev cCs:CT:=.row false cCn
abbrev cVw:CT:=.pair (.int .i64) (.pair (.int .i64) (.pair (.int .i64) (.pair (.int .i64) (.pair (.int .i64) (.pair (.int .i64) (.pair (.int .u16) cCs))))))
abbrev cPg:CT:=.pair (.int .i64) (.pair (.int .i64) (.pair cCs cVw))
def rCn:Rp Cn4:=lM (rI .u8) (lM (rI .u16) (lM (rI .i64) (rI .i64)))
def rCs:Rp (List Cn4):=Ie 57 rCn
def rVw:Rp Vw8:=lM (rI .i64) (lM (rI .i64) (lM (rI .i64) (lM (rI .i64) (lM (rI .i64) (lM (rI .i64) (lM (rI .u16) rCs))))))
def rPg:Rp Fs:=lM (rI .i64) (lM (rI .i64) (lM rCs rVw))
def Hk{α:Type}(l:List α):Prop:=l.length<=1099511627776
def VwB(v:Vw8):Prop:=Hk v.2.2.2.2.2.2.2
def PgB(p:Fs):Prop:=Hk p.2.2.1/\VwB p.2.2.2
theorem wO:rCn.flat:=qg (yp _) (qg (yp _) (qg (yp _) (yp _)))
theorem RIm.weak{α:Type}{R:Rp α}{e e':α->List TV}{A B:α->Prop}(h:RIm R e A)(he:∀a,e' a=e a)(hB:∀a,B a->A a):RIm R e' B:=by
 have:e'=e:=funext he;subst this;exact⟨h.toI,λh1 hb=>h.of h1 (hB _ hb),h.len⟩
theorem Fb:RIm rCn (enc cCn) λ_=>True:=(eo (nK _) (eo (nK _) (eo (nK _) (nK _)))).weak (λ_=>rfl) λ_ _=>⟨trivial,trivial,trivial,trivial⟩
theorem uz:RIm rCs (enc cCs) Hk:=(DR 57 Fb).weak (λ_=>rfl) λ_ h=>⟨h,λ_ _=>trivial⟩
theorem xQ:RIm rVw (enc cVw) VwB:=(eo (nK _) (eo (nK _) (eo (nK _) (eo (nK _) (eo (nK _) (eo (nK _) (eo (nK _) uz))))))).weak (λ_=>rfl) λ_ h=>⟨trivial,trivial,trivial,trivial,trivial,trivial,trivial,h⟩
theorem Ic:RIm rPg (enc cPg) PgB:=(eo (nK _) (eo (nK _) (eo uz xQ))).weak (λ_=>rfl) λ_ h=>⟨trivial,trivial,h.1,h.2⟩
theorem Jz:SlT Try.prog 53 57 rCn.size 24:=
 ⟨by kernel_rfl,by
  have h:(Try.prog.info? 57).map (λi=>(i.zero,i.size,i.bytes))=some (some (.agg #[.int .u8 0,.int .u16 0,.int .i64 0,.int .i64 0]),4,24):=by kernel_rfl
  obtain⟨i,hi,hz,hs,hb⟩:=info_parts h
  exact⟨i,_,hi,hz,hs,hb,rfl⟩,rCn.pos⟩
theorem Jy:SlT Try.prog 28 53 rCs.size 24:=
 ⟨by kernel_rfl,by
  have h:(Try.prog.info? 53).map (λi=>(i.zero,i.size,i.bytes))=some (some (.slice none 0 0),1,24):=by kernel_rfl
  obtain⟨i,hi,hz,hs,hb⟩:=info_parts h
  exact⟨i,_,hi,hz,hs,hb,rfl⟩,rCs.pos⟩
theorem Jx:SlT Try.prog 29 62 rVw.size 80:=
 ⟨by kernel_rfl,by
  have h:(Try.prog.info? 62).map (λi=>(i.zero,i.size,i.bytes))=some (some (.agg #[.int .i64 0,.int .i64 0,.int .i64 0,.int .i64 0,.int .i64 0,.int .i64 0,.int .u16 0,.slice none 0 0]),8,80):=by kernel_rfl
  obtain⟨i,hi,hz,hs,hb⟩:=info_parts h
  exact⟨i,_,hi,hz,hs,hb,rfl⟩,rVw.pos⟩
def t8{α:Type}(R:Rp α)(e:TypeId)(F:Nat->Prop)(xs:List α)(w:World)(r:Ending)(w':World):Prop:=
 ∃v,r=.returned v/\Mk R e w.heap.size w' F v xs/\w.grownBy w' none
set_option maxHeartbeats 1000000 in
theorem qv(F:Nat->Prop)(xs:List Cn4)(v:Value)(w:World)(h:RSl rCn w F xs v):
 Calls Try.prog 55 #[v] w (t8 rCn 57 F xs w):=by
 have H:=Lib.hid h;obtain⟨A,c,cs,rfl,h1,h2,h3,h4,h5,h6⟩:=h
 cases A with
 |none=>
  have hx:xs=[]:=by
   by_cases hx:xs=[]
   ·exact hx
   ·obtain⟨b,off,c',Ru,e,_⟩:=H.out.at_ (List.length_pos_iff.2 hx);cases e
  subst hx;have hc:=h4 rfl;subst hc;clear h4 h5 h6 h1 h2 h3;have hq:=λ(w:World)=>Lib.run_eql_slice_nil (P:=Try.prog) w 53 57 none 0 0 0 0 (by kernel_rfl)
  go_enter Try.func55,Try.ntmps55
  go_wp2_with fail
  go_ret
  exact⟨_,rfl,Mk.nil _ _ _ _ _,bx _ _⟩
 |some ad=>
  clear h4 h5 h6 h1 h2;have hq:=λ(w:World)=>Lib.run_eql_slice_nil (P:=Try.prog) w 53 57 (some ad) xs.length c 0 0 (by kernel_rfl)
  go_enter Try.func55,Try.ntmps55
  go_wp2_with (at_builtin;go_loud (refine lG (R:=rCn) rfl _ _ Jz (by decide) rfl w.heap.size F (.slice (some ⟨w.heap.size,0,none⟩) 0 0) [] rfl ?c1 ?c2 (.slice (some ad) xs.length c) xs rfl ?c3 ?c4 ?c5 ?_))
  case c1=>exact⟨[],vW w #[] 0 [] (Nat.le_refl _) rfl (by simp) (by decide),by simp,rfl⟩
  case c2=>simp
  case c3=>exact(H.out.live.keep (w':=w.alloc (.cells #[] 57)) λk hk=>heap_alloc_old _ _ hk.2).sub λk hk=>⟨hk.1,λe=>by injection e with e;have:=hk.2;exact absurd e (by show ¬ _=w.heap.size;omega)⟩
  case c4=>intro c' e;cases e
  case c5=>simpa using h3
  intro v' w' Wr hg;have HM:=Lib.hid Wr;have HG:=Lib.hid hg;clear Wr hg
  go_wp2_with fail
  go_ret
  exact⟨_,rfl,HM.out,ig (bv (bx w none) _) HG.out λk e=>by injection e with e;rw[<- e];exact Nat.le_refl _⟩
set_option maxHeartbeats 1000000 in
theorem xi(F:Nat->Prop)(xs:List (List Cn4))(v:Value)(w:World)(h:RSl rCs w F xs v):
 Calls Try.prog 53 #[v] w (t8 rCs 53 F xs w):=by
 have H:=Lib.hid h;obtain⟨A,c,cs,rfl,h1,h2,h3,h4,h5,h6⟩:=h
 cases A with
 |none=>
  have hx:xs=[]:=by
   by_cases hx:xs=[]
   ·exact hx
   ·obtain⟨b,off,c',Ru,e,_⟩:=H.out.at_ (List.length_pos_iff.2 hx);cases e
  subst hx;have hc:=h4 rfl;subst hc;clear h4 h5 h6 h1 h2 h3;have hq:=λ(w:World)=>Lib.run_eql_slice_nil (P:=Try.prog) w 28 53 none 0 0 0 0 (by kernel_rfl)
  go_enter Try.func53,Try.ntmps53
  go_wp2_with fail
  go_ret
  exact⟨_,rfl,Mk.nil _ _ _ _ _,bx _ _⟩
 |some ad=>
  clear h4 h5 h6 h1 h2;have hq:=λ(w:World)=>Lib.run_eql_slice_nil (P:=Try.prog) w 28 53 (some ad) xs.length c 0 0 (by kernel_rfl)
  go_enter Try.func53,Try.ntmps53
  go_wp2_with (at_builtin;go_loud (refine lG (R:=rCs) rfl _ _ Jy (by decide) rfl w.heap.size F (.slice (some ⟨w.heap.size,0,none⟩) 0 0) [] rfl ?c1 ?c2 (.slice (some ad) xs.length c) xs rfl ?c3 ?c4 ?c5 ?_))
  case c1=>exact⟨[],vW w #[] 0 [] (Nat.le_refl _) rfl (by simp) (by decide),by simp,rfl⟩
  case c2=>simp
  case c3=>exact(H.out.live.keep (w':=w.alloc (.cells #[] 53)) λk hk=>heap_alloc_old _ _ hk.2).sub λk hk=>⟨hk.1,λe=>by injection e with e;have:=hk.2;exact absurd e (by show ¬ _=w.heap.size;omega)⟩
  case c4=>intro c' e;cases e
  case c5=>simpa using h3
  intro v' w' Wr hg;have HM:=Lib.hid Wr;have HG:=Lib.hid hg;clear Wr hg
  go_wp2_with fail
  go_ret
  exact⟨_,rfl,HM.out,ig (bv (bx w none) _) HG.out λk e=>by injection e with e;rw[<- e];exact Nat.le_refl _⟩
set_option maxHeartbeats 1000000 in
theorem xg(F:Nat->Prop)(xs:List Vw8)(v:Value)(w:World)(h:RSl rVw w F xs v):
 Calls Try.prog 54 #[v] w (t8 rVw 62 F xs w):=by
 have H:=Lib.hid h;obtain⟨A,c,cs,rfl,h1,h2,h3,h4,h5,h6⟩:=h
 cases A with
 |none=>
  have hx:xs=[]:=by
   by_cases hx:xs=[]
   ·exact hx
   ·obtain⟨b,off,c',Ru,e,_⟩:=H.out.at_ (List.length_pos_iff.2 hx);cases e
  subst hx;have hc:=h4 rfl;subst hc;clear h4 h5 h6 h1 h2 h3;have hq:=λ(w:World)=>Lib.run_eql_slice_nil (P:=Try.prog) w 29 62 none 0 0 0 0 (by kernel_rfl)
  go_enter Try.func54,Try.ntmps54
  go_wp2_with fail
  go_ret
  exact⟨_,rfl,Mk.nil _ _ _ _ _,bx _ _⟩
 |some ad=>
  clear h4 h5 h6 h1 h2;have hq:=λ(w:World)=>Lib.run_eql_slice_nil (P:=Try.prog) w 29 62 (some ad) xs.length c 0 0 (by kernel_rfl)
  go_enter Try.func54,Try.ntmps54
  go_wp2_with (at_builtin;go_loud (refine lG (R:=rVw) rfl _ _ Jx (by decide) rfl w.heap.size F (.slice (some ⟨w.heap.size,0,none⟩) 0 0) [] rfl ?c1 ?c2 (.slice (some ad) xs.length c) xs rfl ?c3 ?c4 ?c5 ?_))
  case c1=>exact⟨[],vW w #[] 0 [] (Nat.le_refl _) rfl (by simp) (by decide),by simp,rfl⟩
  case c2=>simp
  case c3=>exact(H.out.live.keep (w':=w.alloc (.cells #[] 62)) λk hk=>heap_alloc_old _ _ hk.2).sub λk hk=>⟨hk.1,λe=>by injection e with e;have:=hk.2;exact absurd e (by show ¬ _=w.heap.size;omega)⟩
  case c4=>intro c' e;cases e
  case c5=>simpa using h3
  intro v' w' Wr hg;have HM:=Lib.hid Wr;have HG:=Lib.hid hg;clear Wr hg
  go_wp2_with fail
  go_ret
  exact⟨_,rfl,HM.out,ig (bv (bx w none) _) HG.out λk e=>by injection e with e;rw[<- e];exact Nat.le_refl _⟩
def zV(f:Nat->Value):Operand->Value
 |.tmp t=>f t
 |.const v=>v
 |.global g=>.pointer (some ⟨g,0,none⟩)
 |.func f=>.func (.func f) #[] #[]
def yU(f:Nat->Value):Option Tmp->Value
 |some t=>f t
 |none=>undef
def An(f:Nat->Value)(o:Oper):Value:=
 match o.dst with
 |some t=>f t
 |none=>match o.op with
  |.store _ (.tmp t) _=>f t
  |_=>undef
def pX(f:Nat->Value)(o:Oper)(v:Value):Value:=
 match o.dst with
 |some _=>v
 |none=>An f o
def iL(o:Oper)(j:Nat):Bool:=o.after.toList.any λe=>e.on==j&&Region.binds .any e
def jG(l:List Oper)(t:Tmp):Option Nat:=l.findIdx? λo=>o.dst==some t
def sn(l:List Oper)(old:Nat->Value)(Ss:List (Value->World->Prop))(o:Oper)(f:Nat->Value)(w:World)(t:Tmp):Prop:=
 match jG l t with
 |none=>f t=old t
 |some j=>if iL o j then(Ss.getD j λ_ _=>False) (f t) w else f t=old t
def qJ(l:List Oper)(f:Nat->Value)(o:Oper):Bool:=
 match o.guard with
 |none=>true
 |some (j,b)=>match(l[j]?).bind (·.dst)with
  |some d=>(match f d with|.bool c=>c==b|_=>false)
  |none=>false
def kP(P:Program)(T0:Value->World->Prop):Result Next->Prop
 |.ok (.value v) w'=>T0 v w'
 |.ok .skip w'=>T0 undef w'
 |.ok (.enter f args) w'=>Calls P f args w' λe Vv=>∃v,e=.returned v/\T0 v Vv
 |_=>False
def EX(base:World->Prop)(R:World->World->Prop)(s:Value->World->Prop)(w:World)(v:Value)(w':World):Prop:=base w'/\R w w'/\s v w'
def HB(P:Program)(l:List Oper)(old:Nat->Value)(base:World->Prop)(R:World->World->Prop)(Ss:List (Value->World->Prop))(o:Oper)(s:Value->World->Prop):Prop:=
 ∀(f:Nat->Value)(w:World),base w->(∀t∈o.looksAt l.toArray,sn l old Ss o f w t)->
  if qJ l f o=true then kP P (λv w'=>EX base R s w (pX f o v) w') ((execOp (zV f) o).run P w)else s (pX f o undef) w
def nz(P:Program)(l:List Oper)(old:Nat->Value)(base:World->Prop)(R:World->World->Prop)(Ss:List (Value->World->Prop)):List Oper->List (Value->World->Prop)->Prop
 | [],[]=>True
 |o::r,s::rs=>HB P l old base R Ss o s/\nz P l old base R Ss r rs
 |_,_=>False
def Hl(R:World->World->Prop):List (Value->World->Prop)->Prop
 | []=>True
 |s::r=>(∀w w' u,R w w'->s u w->s u w')/\Hl R r
def fE(f:Nat->Value):List Oper->Act->Act
 | [],a=>a
 |o::r,a=>fE f r (a.put o.dst (yU f o.dst))
def IS(f:Nat->Value)(w:World):List Oper->List (Value->World->Prop)->Prop
 |o::r,s::rs=>s (An f o) w/\IS f w r rs
 |_,_=>True
def vZ(l:List Oper)(n:Nat):Bool:=
 (l.zipIdx.all λ(o,k)=>
  (match o.dst with|some d=>jG l d==some k&&decide (d<n)|none=>true) &&
  (o.after.all λe=>!Region.binds .any e||decide (e.on<k)) &&
  (o.looksAt l.toArray).all λt=>match jG l t with
   |none=>true
   |some j=>iL o j||iL (l.getD j default) k) &&
 (l.all λo=>match o.dst,o.op with
  |none,.store _ (.tmp t) _=>(match jG l t with|none=>true|some j=>iL o j)
  |_,_=>true) &&
 l.all λo=>match o.guard with
  |none=>true
  |some (j,_)=>match(l[j]?).bind (·.dst)with|some d=>(o.looksAt l.toArray).contains d|none=>false
section
variable {P:Program} {l:List Oper} {a0:Act} {base:World->Prop} {R:World->World->Prop} {Ss:List (Value->World->Prop)}
structure JJ (l:List Oper)(a0:Act)(base:World->Prop)(Ss:List (Value->World->Prop))(listed:Array Bool)(a:Act)(w:World):Prop where
 base_:base w
 defers:a.defers=a0.defers
 lsize:listed.size=l.length
 asize:a.tmps.size=a0.tmps.size
 old:∀t,(∀(j:Nat) o,l[j]?=some o->o.dst=some t->listed.getD j true=false)->a.tmps.getD t undef=a0.tmps.getD t undef
 says:∀(j:Nat) o s,l[j]?=some o->Ss[j]?=some s->listed.getD j false=true->s (An (λt=>a.tmps.getD t undef) o) w
 down:∀(j:Nat) o,l[j]?=some o->listed.getD j false=true->∀e∈o.after,Region.binds .any e=true->listed.getD e.on false=true
theorem ES(a:Act):a.eval=zV λt=>a.tmps.getD t undef:=by funext x;cases x<;>rfl
theorem nz.at_{lo:List Oper}{ls:List (Value->World->Prop)}:∀{o:Oper}{k:Nat},nz P l (λt=>a0.tmps.getD t undef) base R Ss lo ls->lo[k]?=some o->∃s,ls[k]?=some s/\HB P l (λt=>a0.tmps.getD t undef) base R Ss o s:=by
 induction lo generalizing ls with
 |nil=>intro o k _ h;simp at h
 |cons x r ih=>
  intro o k hd h
  match ls,hd with
  |s::rs,hd=>
   cases k with
   |zero=>simp at h;subst h;exact⟨s,rfl,hd.1⟩
   |succ k=>simpa using ih hd.2 (by simpa using h)
theorem Hl.at_:∀{ls:List (Value->World->Prop)}{k:Nat}{s:Value->World->Prop},Hl R ls->ls[k]?=some s->∀w w' u,R w w'->s u w->s u w'
 | [],_,_,_,h=>by simp at h
 |x::r,0,s,hk,h=>by simp at h;subst h;exact hk.1
 |x::r,k+1,s,hk,h=>Hl.at_ hk.2 (by simpa using h)
theorem vE{t:Tmp}{j:Nat}(h:jG l t=some j):∃o,l[j]?=some o/\o.dst=some t:=by
 unfold jG at h;rw[List.findIdx?_eq_some_iff_getElem]at h;obtain⟨hj,h1,_⟩:=h;exact⟨l[j],oGE hj,by simpa using h1⟩
theorem vF{t:Tmp}(h:jG l t=none):∀(j:Nat) o,l[j]?=some o->o.dst≠some t:=by
 unfold jG at h;rw[List.findIdx?_eq_none_iff]at h;intro j o hj e;have:=h o (List.mem_of_getElem? hj);simp[e]at this
theorem kQ{n:Nat}(h:vZ l n=true){k:Nat}{o:Oper}(hk:l[k]?=some o):
 (∀d,o.dst=some d->jG l d=some k/\d<n)/\(∀e∈o.after,Region.binds .any e=true->e.on<k)/\
 (∀t∈o.looksAt l.toArray,∀j,jG l t=some j->iL o j=true\/iL (l.getD j default) k=true)/\
 (∀y t x,o.dst=none->o.op=.store y (.tmp t) x->∀j,jG l t=some j->iL o j=true)/\
 (∀j b,o.guard=some (j,b)->∃d,(l[j]?).bind (·.dst)=some d/\d∈o.looksAt l.toArray):=by
 simp only[vZ,oBA,List.all_eq_true]at h;obtain⟨⟨h1,hst⟩,h2⟩:=h
 have hm:(o,k)∈l.zipIdx:=by rw[List.mem_zipIdx_iff_getElem?];simpa using hk
 have h3:=h1 _ hm;simp only[oBA,List.all_eq_true]at h3;obtain⟨⟨h4,h5⟩,h6⟩:=h3;refine⟨λd hd=>?_,λe he hb=>?_,λt ht j hj=>?_,λy t x hd hop j hw=>?_,λj b hg=>?_⟩
 ·rw[hd]at h4;simpa using h4
 ·have:=(Array.all_eq_true_iff_forall_mem.1 h5) e he;simpa[hb]using this
 ·have:=h6 t ht;rw[hj]at this;simpa using this
 ·have:=hst o (List.mem_of_getElem? hk);rw[hd,hop]at this;simp only[hw]at this;exact this
 ·have:=h2 o (List.mem_of_getElem? hk);rw[hg]at this;simp only at this
  cases hd:(l[j]?).bind (·.dst)with
  |none=>rw[hd]at this;simp at this
  |some d=>rw[hd]at this;exact⟨d,rfl,by simpa using this⟩
theorem pR{o:Oper}{j:Nat}(h:iL o j=true):∃e∈o.after,e.on=j/\Region.binds .any e=true:=by
 unfold iL at h;rw[List.any_eq_true]at h;obtain⟨e,he,hx⟩:=h;simp only[oBA,beq_iff_eq]at hx;exact⟨e,by simpa using he,hx.1,hx.2⟩
theorem mQ{listed:Array Bool}{i j:Nat}{b:Bool}(hi:i<listed.size):(listed.setIfInBounds i true).getD j b=if i=j then true else listed.getD j b:=by
 by_cases e:i=j
 ·subst e;simp[Array.getD,hi]
 ·simp only[oIN e];simp only[Array.getD,Array.size_setIfInBounds];split
  ·exact Array.getElem_setIfInBounds_ne _ e
  ·rfl
theorem mR{a:Act}{d t:Nat}{v:Value}(hd:d<a.tmps.size):(a.put (some d) v).tmps.getD t undef=if d=t then v else a.tmps.getD t undef:=by
 unfold Act.put;by_cases e:d=t
 ·subst e;simp[Array.getD,hd]
 ·simp only[oIN e];simp only[Array.getD,Array.size_setIfInBounds];split
  ·exact Array.getElem_setIfInBounds_ne _ e
  ·rfl
theorem JJ.step(TG:∀w,R w w)(hB:vZ l a0.tmps.size=true)(hD:nz P l (λt=>a0.tmps.getD t undef) base R Ss l Ss)(hK:Hl R Ss){listed:Array Bool}{a:Act}{w:World}{Q:Exit->Act->World->Prop}(h:JJ l a0 base Ss listed a w){i:Nat}(hi:i∈Region.ready .any l.toArray listed):
 wpOp P l.toArray Q i (λa' w'=>JJ l a0 base Ss (listed.setIfInBounds i true) a' w') a w:=by
 obtain⟨Wt,o,ho,Y7⟩:=mem_ready.1 hi
 have Y9:l[i]?=some o:=by simpa using ho
 have Wq:i<listed.size:=by rw[h.lsize];exact(oGS Y9).1
 obtain⟨Z0,Z',Z8,LD,ZQ⟩:=kQ hB Y9;obtain⟨s,hs,SB⟩:=hD.at_ Y9
 have YP:∀t∈o.looksAt l.toArray,sn l (λt=>a0.tmps.getD t undef) Ss o (λt=>a.tmps.getD t undef) w t:=by
  intro t ht;unfold sn
  cases hw:jG l t with
  |none=>exact h.old t λj o' hj hd=>absurd hd (vF hw j o' hj)
  |some j=>
   obtain⟨oj,Yw,UL⟩:=vE hw;by_cases hwt:iL o j=true
   ·simp only[hwt,if_true];obtain⟨e,he,S4,UH⟩:=pR hwt
    have UN:listed.getD j false=true:=by rw[<- S4];exact Y7 e he UH
    obtain⟨sj,Vo,_⟩:=hD.at_ Yw;have:=h.says j oj sj Yw Vo UN;simpa[List.getD,Vo,An,UL]using this
   ·simp only[hwt];refine h.old t λj' o' ZT hd'=>?_
    have hjj:j'=j:=by
     have:=((kQ hB ZT).1 t hd').1
     rw[hw]at this;injection this with this;exact this.symm
    subst hjj;rcases Z8 t ht j' hw with h'|h'
    ·exact absurd h' hwt
    ·have e:l.getD j' default=oj:=by simp[List.getD,Yw]
     rw[e]at h';obtain⟨ed,Qd,S4,UH⟩:=pR h'
     cases hl:listed.getD j' true with
     |false=>rfl
     |true=>
      exfalso
      have hjl:j'<listed.size:=by rw[h.lsize];exact(oGS Yw).1
      have Yq:listed.getD j' false=true:=by simpa[Array.getD,hjl]using hl
      have:=h.down j' oj Yw Yq ed Qd UH;rw[S4]at this;simp[Array.getD,Wq]at this Wt;rw[this]at Wt;cases Wt
 have Va:=SB (λt=>a.tmps.getD t undef) w h.base_ YP
 have Ts:Region.wanted o (yielded l.toArray a.tmps)=qJ l (λt=>a.tmps.getD t undef) o:=by
  unfold Region.wanted qJ
  cases hg:o.guard with
  |none=>rfl
  |some p=>
   obtain⟨j,b⟩:=p;obtain⟨d,hd,_⟩:=ZQ j b hg
   have SA:d<a.tmps.size:=by
    rw[h.asize];obtain⟨oj,Yw,UL⟩:=Option.bind_eq_some_iff.1 hd;exact((kQ hB Yw).1 d UL).2
   have hy:yielded l.toArray a.tmps j=(match a.tmps.getD d undef with|.bool c=>some c|_=>none):=by
    unfold yielded
    have e:(l.toArray[j]?).bind (·.dst)=some d:=by simpa using hd
    rw[e];simp only[oBS];rw[Array.getElem?_eq_getElem SA];simp only[Array.getD,SA,dif_pos,Array.getInternal_eq_getElem];cases a.tmps[d]<;>rfl
   simp only[hd];rw[hy];cases a.tmps.getD d undef<;>simp
 have WT:∀v w',EX base R s w (pX (λt=>a.tmps.getD t undef) o v) w'->JJ l a0 base Ss (listed.setIfInBounds i true) (a.put o.dst v) w':=by
  intro v w' ⟨hb,hR,O9⟩
  have hsz:(a.put o.dst v).tmps.size=a.tmps.size:=by unfold Act.put;split<;>simp
  refine⟨hb,by rw[<- h.defers];unfold Act.put;split<;>rfl,by simpa using h.lsize,hsz.trans h.asize,λt ht=>?_,λj oj sj Yw Vo UN=>?_,λj oj Yw UN e he UH=>?_⟩
  ·have NC:o.dst≠some t:=λe=>by
    have:=ht i o Y9 e;rw[mQ Wq]at this;simp at this
   have Zx:=h.old t λj oj Yw UL=>by
    have:=ht j oj Yw UL;rw[mQ Wq]at this;split at this
    ·cases this
    ·exact this
   rw[<- Zx]
   cases hd:o.dst with
   |none=>rfl
   |some d=>rw[mR (by rw[h.asize];exact(Z0 d hd).2),oIN (by rintro rfl;exact NC hd)]
  ·by_cases e:i=j
   ·subst e
    rw[Y9]at Yw;injection Yw with Yw;subst Yw
    rw[hs]at Vo;injection Vo with Vo;subst Vo
    cases hd:o.dst with
    |none=>
     have e1:(a.put none v).tmps=a.tmps:=rfl
     have e2:pX (λt=>a.tmps.getD t undef) o v=An (λt=>a.tmps.getD t undef) o:=by unfold pX;rw[hd]
     rw[e1,<- e2];exact O9
    |some d=>
     have e2:pX (λt=>a.tmps.getD t undef) o v=v:=by unfold pX;rw[hd]
     have e3:An (λt=>(a.put (some d) v).tmps.getD t undef) o=v:=by
      unfold An;rw[hd];simp only;rw[mR (by rw[h.asize];exact(Z0 d hd).2),oIP rfl]
     rw[e3,<- e2];exact O9
   ·rw[mQ Wq,oIN e]at UN;have Zx:=hK.at_ Vo w w' _ hR (h.says j oj sj Yw Vo UN)
    have YO:∀t,o.dst≠some t->(a.put o.dst v).tmps.getD t undef=a.tmps.getD t undef:=λt ht=>by
     cases hd:o.dst with
     |none=>rfl
     |some d'=>rw[mR (by rw[h.asize];exact(Z0 d' hd).2),oIN (by rintro rfl;exact ht hd)]
    have QZ:An (λt=>(a.put o.dst v).tmps.getD t undef) oj=An (λt=>a.tmps.getD t undef) oj:=by
     unfold An
     cases UL:oj.dst with
     |some d=>
      refine YO d λhd=>?_;have h1:=(Z0 d hd).1;have h2:=((kQ hB Yw).1 d UL).1;rw[h1]at h2
      injection h2 with h2
      exact e h2
     |none=>
      cases hop:oj.op with
      |store y t x=>
       cases t with
       |tmp t=>
        refine YO t λhd=>?_;have h1:=(Z0 t hd).1;have h2:=(kQ hB Yw).2.2.2.1 y t x UL hop i h1;obtain⟨ed,Qd,S4,UH⟩:=pR h2;have:=h.down j oj Yw UN ed Qd UH;rw[S4]at this;simp[Array.getD,Wq]at this Wt;rw[this]at Wt;cases Wt
       |const _=>rfl
       |global _=>rfl
       |func _=>rfl
      |_=>rfl
    rw[QZ];exact Zx
  ·rw[mQ Wq];split
   ·rfl
   ·by_cases e':i=j
    ·subst e'
     rw[Y9]at Yw;injection Yw with Yw;subst Yw
     exact Y7 e he UH
    ·rw[mQ Wq,oIN e']at UN;exact h.down j oj Yw UN e he UH
 unfold wpOp;simp only[ho];rw[Ts];by_cases hw:qJ l (λt=>a.tmps.getD t undef) o=true
 ·rw[oIP hw]at Va⊢;refine .inl ?_;unfold Oper.wp;rw[ES];generalize(execOp (zV λt=>a.tmps.getD t undef) o).run P w=r at Va
  cases r with
  |ok n w'=>
   cases n<;>simp only[kP]at Va<;>simp only[Oper.upon]
   case value v=>exact WT v w' Va
   case skip=>exact WT undef w' Va
   case enter fn args=>exact Va.mono λe Vv ⟨v,he,hp⟩=>by subst he;exact WT v Vv hp
  |halt x w'=>simp only[kP]at Va
 ·rw[oIN hw]at Va⊢;exact WT undef w ⟨h.base_,TG w,Va⟩
theorem sk{n:Nat}(hB:vZ l n=true){listed:Array Bool}(hs:listed.size=l.length)(hr:Region.ready .any l.toArray listed=[]):∀(k:Nat),k<l.length->listed.getD k false=true:=by
 intro k
 induction k using Nat.strongRecOn with
 |_ k ih=>
  intro hk
  cases hl:listed.getD k false with
  |true=>rfl
  |false=>
   exfalso;have ho:l[k]?=some l[k]:=oGE hk
   have:k∈Region.ready .any l.toArray listed:=by
    refine mem_ready.2 ⟨?_,l[k],by simp,λe he hb=>?_⟩
    ·have:k<listed.size:=by omega
     simpa[Array.getD,this]using hl
    ·have:=(kQ hB ho).2.1 e he hb;exact ih e.on this (by omega)
   rw[hr]at this;cases this
theorem rG(TG:∀w,R w w)(hB:vZ l a0.tmps.size=true)(hD:nz P l (λt=>a0.tmps.getD t undef) base R Ss l Ss)(hK:Hl R Ss){Q:Exit->Act->World->Prop}
 (VY:∀listed a w,(∀k,k<l.length->listed.getD k false=true)->JJ l a0 base Ss listed a w->Q .normal a w):
 ∀(Yy:Nat)(listed:Array Bool)(a:Act)(w:World),JJ l a0 base Ss listed a w->(∃c:List Bool,c.length=l.length/\listed.toList=c/\c.count false=Yy)->wpAny P .any l.toArray Q Yy listed a w
 |0,listed,a,w,h,⟨c,Ze,Zl,TI⟩=>by
  have hr:Region.ready .any l.toArray listed=[]:=by
   rw[List.eq_nil_iff_forall_not_mem];intro i hi;have Wt:=(mem_ready.1 hi).1
   have Wq:i<listed.size:=by
    rcases Nat.lt_or_ge i listed.size with h'|h'
    ·exact h'
    ·simp[Array.getD,Nat.not_lt.2 h']at Wt
   have:false∈c:=by
    rw[<- Zl]
    have h1:listed[i]=false:=by simpa[Array.getD,Wq]using Wt
    rw[<- h1];simp
   exact absurd (List.count_pos_iff.2 this) (by omega)
  exact⟨hr,VY _ _ _ (sk hB h.lsize hr) h⟩
 |Yy+1,listed,a,w,h,⟨c,Ze,Zl,TI⟩=>by
  refine⟨λhr=>VY _ _ _ (sk hB h.lsize hr) h,λi hi=>?_⟩;refine wpOp_mono (λa' w' h'=>rG TG hB hD hK VY Yy _ a' w' h' ?_) (h.step TG hB hD hK hi);have Wt:=(mem_ready.1 hi).1
  have Wq:i<listed.size:=by
   rcases Nat.lt_or_ge i listed.size with h'|h'
   ·exact h'
   ·simp[Array.getD,Nat.not_lt.2 h']at Wt
  have h1:listed[i]=false:=by simpa[Array.getD,Wq]using Wt
  refine⟨_,?_,rfl,?_⟩
  ·simp;have:=h.lsize;omega
  ·rw[Array.toList_setIfInBounds,List.count_set (by simpa using Wq)];subst Zl;rw[TI];simp[h1]
theorem CF{f:Nat->Value}{w:World}:∀{lo:List Oper}{ls:List (Value->World->Prop)},(∀(k:Nat) o s,lo[k]?=some o->ls[k]?=some s->s (An f o) w)->IS f w lo ls
 | [],_,_=>by unfold IS;trivial
 |_::_,[],_=>by unfold IS;trivial
 |o::r,s::rs,h=>⟨h 0 o s rfl rfl,CF λk o' s' h1 h2=>h (k+1) o' s' (by simpa using h1) (by simpa using h2)⟩
theorem pL(f:Nat->Value):∀(lo:List Oper)(a:Act),(fE f lo a).tmps.size=a.tmps.size
 | [],_=>rfl
 |o::r,a=>by
  rw[fE,pL f r];unfold Act.put;split<;>simp
theorem my(f:Nat->Value):∀(lo:List Oper)(a:Act),(fE f lo a).defers=a.defers
 | [],_=>rfl
 |o::r,a=>by
  rw[fE,my f r];unfold Act.put;split<;>rfl
theorem pM(f:Nat->Value):∀(lo:List Oper)(a:Act)(t:Nat),t<a.tmps.size ->
 (fE f lo a).tmps.getD t undef=f t/\(∃o∈lo,o.dst=some t)\/(fE f lo a).tmps.getD t undef=a.tmps.getD t undef/\∀o∈lo,o.dst≠some t
 | [],_,_,_=>.inr ⟨rfl,by simp⟩
 |o::r,a,t,ht=>by
  have hsz:(a.put o.dst (yU f o.dst)).tmps.size=a.tmps.size:=by unfold Act.put;split<;>simp
  rcases pM f r (a.put o.dst (yU f o.dst)) t (by rw[hsz];exact ht)with⟨h1,o',h2,h3⟩|⟨h1,h2⟩
  ·exact .inl ⟨h1,o',List.mem_cons_of_mem _ h2,h3⟩
  ·by_cases hd:o.dst=some t
   ·refine .inl ⟨?_,o,List.mem_cons_self ..,hd⟩;rw[fE,h1,hd,mR ht,oIP rfl];rfl
   ·refine .inr ⟨?_,λo' Y9=>?_⟩
    ·rw[fE,h1]
     cases hd':o.dst with
     |none=>rfl
     |some d=>
      by_cases hds:d<a.tmps.size
      ·rw[mR hds,oIN (by rintro rfl;exact hd hd')]
      ·unfold Act.put;simp[Array.setIfInBounds,hds]
    ·rcases List.mem_cons.1 Y9 with rfl|h'
     ·exact hd
     ·exact h2 o' h'
theorem iK{id:Nat}{w0:World}{Q:Exit->Act->World->Prop}(base:World->Prop)(R:World->World->Prop)(Ss:List (Value->World->Prop))
 (n:Nat)(hm:P.follows .mixedOrders=true)(hn:a0.tmps.size=n)(Ry:vZ l n=true)(h0:base w0.drew)(TG:∀w,R w w)(hK:Hl R Ss)
 (hD:nz P l (λt=>a0.tmps.getD t undef) base R Ss l Ss)
 (VY:∀f w,base w->IS f w l Ss->Q .normal (fE f l a0) w):(Code.region id l.toArray true).wp P Q a0 w0:=by
 have hB:vZ l a0.tmps.size=true:=by rw[hn];exact Ry
 refine wp_region_any hm ?_;refine rG (a0:=a0) (R:=R) (Ss:=Ss) TG hB hD hK (λlisted a w hl h=>?_) _ _ _ _ (?_:JJ l a0 base Ss _ _ _) ⟨_,?_,rfl,?_⟩
 ·have e:a=fE (λt=>a.tmps.getD t undef) l a0:=by
   have hd:a.defers=(fE (λt=>a.tmps.getD t undef) l a0).defers:=by rw[my,h.defers]
   have ht:a.tmps=(fE (λt=>a.tmps.getD t undef) l a0).tmps:=by
    refine Array.ext (by rw[pL,h.asize]) λi h1 h2=>?_
    have MW:i<a0.tmps.size:=by rw[<- h.asize];exact h1
    have e1:a.tmps[i]=a.tmps.getD i undef:=by simp[Array.getD,h1]
    have e2:(fE (λt=>a.tmps.getD t undef) l a0).tmps[i]=(fE (λt=>a.tmps.getD t undef) l a0).tmps.getD i undef:=by rw[Array.getD,dif_pos h2];rfl
    rw[e1,e2]
    rcases pM (λt=>a.tmps.getD t undef) l a0 i MW with⟨h3,_⟩|⟨h3,h4⟩
    ·exact h3.symm
    ·rw[h3];exact h.old i λj o ho hd=>absurd hd (h4 o (List.mem_of_getElem? ho))
   cases a;cases hp:fE (λt=>Array.getD _ t undef) l a0;simp only[hp]at hd ht;subst hd;subst ht
   simp_all
  rw[e];exact VY _ w h.base_ (CF λk o s ho hs=>h.says k o s ho hs (hl k (oGS ho).1))
 ·exact⟨h0,rfl,by simp,rfl,λ_ _=>rfl,λj o s ho hs hl=>by simp[Array.getD]at hl,λj o ho hl=>by simp[Array.getD]at hl⟩
 ·simp
 ·simp[List.count_replicate]
end
theorem bt{P:Program}{l:List Oper}{old:Nat->Value}{base:World->Prop}{R:World->World->Prop}{Ss:List (Value->World->Prop)}{o:Oper}{r:List Oper}{s:Value->World->Prop}{rs:List (Value->World->Prop)}
 (h:HB P l old base R Ss o s)(h':nz P l old base R Ss r rs):nz P l old base R Ss (o::r) (s::rs):=⟨h,h'⟩
theorem bw{P:Program}{l:List Oper}{old:Nat->Value}{base:World->Prop}{R:World->World->Prop}{Ss:List (Value->World->Prop)}{o:Oper}{s:Value->World->Prop}(hg:o.guard=none)
 (h:∀(f:Nat->Value)(w:World),base w->(∀t∈o.looksAt l.toArray,sn l old Ss o f w t)->kP P (λv w'=>EX base R s w (pX f o v) w') ((execOp (zV f) o).run P w)):HB P l old base R Ss o s:=by
 intro f w hb H
 have:qJ l f o=true:=by unfold qJ;rw[hg]
 rw[oIP this];exact h f w hb H
theorem fi{P:Program}{l:List Oper}{old:Nat->Value}{base:World->Prop}{R:World->World->Prop}{Ss:List (Value->World->Prop)}{o:Oper}{s:Value->World->Prop}(j:Nat)(b:Bool)(d:Nat)(hg:o.guard=some (j,b))(hd:(l[j]?).bind (·.dst)=some d)
 (h:∀(f:Nat->Value)(w:World),base w->(∀t∈o.looksAt l.toArray,sn l old Ss o f w t)->f d=.bool b/\kP P (λv w'=>EX base R s w (pX f o v) w') ((execOp (zV f) o).run P w)):HB P l old base R Ss o s:=by
 intro f w hb H;obtain⟨h1,h2⟩:=h f w hb H
 have:qJ l f o=true:=by unfold qJ;rw[hg];simp only[hd,h1,beq_self_eq_true]
 rw[oIP this];exact h2
theorem mU{P:Program}{l:List Oper}{old:Nat->Value}{base:World->Prop}{R:World->World->Prop}{Ss:List (Value->World->Prop)}{o:Oper}{s:Value->World->Prop}(j:Nat)(b:Bool)(d:Nat)(hg:o.guard=some (j,b))(hd:(l[j]?).bind (·.dst)=some d)
 (h:∀(f:Nat->Value)(w:World),base w->(∀t∈o.looksAt l.toArray,sn l old Ss o f w t)->f d=.bool (!b)/\s (pX f o undef) w):HB P l old base R Ss o s:=by
 intro f w hb H;obtain⟨h1,h2⟩:=h f w hb H
 have:qJ l f o=false:=by unfold qJ;rw[hg];simp only[hd,h1];cases b<;>rfl
 rw[this];exact h2
theorem nY{P:Program}{l:List Oper}{old:Nat->Value}{base:World->Prop}{R:World->World->Prop}{Ss:List (Value->World->Prop)}:nz P l old base R Ss [] []:=trivial
def RK(X:Nat->Prop)(w w':World):Prop:=w.heap.size<=w'.heap.size/\∀b,b<w.heap.size->¬X b->w'.heap[b]?=w.heap[b]?
theorem RK.refl(X:Nat->Prop)(w:World):RK X w w:=⟨Nat.le_refl _,λ_ _ _=>rfl⟩
theorem RK.alloc(X:Nat->Prop)(w:World)(o:Obj):RK X w (w.alloc o):=⟨by simp,λ_ hb _=>heap_alloc_old _ _ hb⟩
theorem RK.grown{X:Nat->Prop}{w w':World}{g:Nat}(h:w.grownBy w' (some g))(hg:X g):RK X w w':=⟨h.size,λb hb hx=>h.block b hb (by rintro e;injection e with e;subst e;exact hx hg)⟩
theorem RK.set{X:Nat->Prop}{w w1:World}{p:Addr}(h:RK X w w1)(hp:X p.block)(u:Value):RK X w (w1.setCell p u):=
 ⟨by simpa[World.setCell]using h.1,λb hb hx=>(Below.heap_setCell w1 p u b (by rintro rfl;exact hx hp)).trans (h.2 b hb hx)⟩
theorem RK.cell{X:Nat->Prop}{w w':World}(h:RK X w w'){b o:Nat}(hb:b<w.heap.size)(hx:¬X b):w'.cell? ⟨b,o,none⟩=w.cell? ⟨b,o,none⟩:=World.cell?_of_block (h.2 b hb hx)
def RD(X:Nat->Prop)(D:World->Prop)(w w':World):Prop:=RK X w w'/\(D w->D w')
theorem RD.refl(X:Nat->Prop)(D:World->Prop)(w:World):RD X D w w:=⟨RK.refl X w,id⟩
def co(u:Value)(v:Value)(_:World):Prop:=v=u
def Jr(k:IntKind)(lo hi:Int)(v:Value)(_:World):Prop:=∃n:Int,lo<=n/\n<=hi/\v=.int k n
theorem co.kept{x:Value}{R:World->World->Prop}(w w':World)(u:Value)(_:R w w')(h:co x u w):co x u w':=h
theorem Jr.kept{k:IntKind}{lo hi:Int}{R:World->World->Prop}(w w':World)(u:Value)(_:R w w')(h:Jr k lo hi u w):Jr k lo hi u w':=h
attribute [go_sem] zV kP pX An
section
variable {N:Nat} {t:TypeId} {z:List Value} {Good:List Value->World->Prop}
def xt(t:TypeId)(Good:List Value->World->Prop)(q:Nat)(w:World):Prop:=∃vs,Bk w q t vs/\Good vs w
def RZ(N:Nat)(t:TypeId)(z:List Value)(Good:List Value->World->Prop)(w w':World):Prop:=
 w.heap.size<=w'.heap.size/\(∀k,k<w.heap.size->(k<N\/∀cs,w.heap[k]?≠some (.cells cs t (0,0)))->w'.heap[k]?=w.heap[k]?)/\
 (∀k,N<=k->Bk w k t z->Bk w' k t z\/xt t Good k w')/\∀k,N<=k->xt t Good k w->xt t Good k w'
def Ho(t:TypeId)(N:Nat)(Good:List Value->World->Prop):Prop:=∀vs w w',w.heap.size<=w'.heap.size->(∀k,k<w.heap.size->(k<N\/∀cs,w.heap[k]?≠some (.cells cs t (0,0)))->w'.heap[k]?=w.heap[k]?)->Good vs w->Good vs w'
theorem RZ.refl(w:World):RZ N t z Good w w:=⟨Nat.le_refl _,λ_ _ _=>rfl,λ_ _ h=>.inl h,λ_ _ h=>h⟩
theorem RZ.grown(hG:Ho t N Good){w w':World}(h:w.grownBy w' none):RZ N t z Good w w':=
 ⟨h.size,λk hk _=>h.block k hk (by simp),λk _ hb=>.inl (hb.grow h),λk _ ⟨vs,h1,h2⟩=>⟨vs,h1.grow h,hG _ _ _ h.size (λk hk _=>h.block k hk (by simp)) h2⟩⟩
def Db(N:Nat)(t:TypeId)(z:List Value)(Good:List Value->World->Prop)(v:Value)(w:World):Prop:=∃q,v=.pointer (some ⟨q,0,none⟩)/\N<=q/\(Bk w q t z\/xt t Good q w)
def Hh(N:Nat)(t:TypeId)(Good:List Value->World->Prop)(v:Value)(w:World):Prop:=∃q,v=.pointer (some ⟨q,0,none⟩)/\N<=q/\xt t Good q w
theorem Db.kept(w w':World)(v:Value)(hr:RZ N t z Good w w')(h:Db N t z Good v w):Db N t z Good v w':=by
 obtain⟨q,e,hq,h|h⟩:=h
 ·exact⟨q,e,hq,hr.2.2.1 q hq h⟩
 ·exact⟨q,e,hq,.inr (hr.2.2.2 q hq h)⟩
theorem Hh.kept(w w':World)(v:Value)(hr:RZ N t z Good w w')(h:Hh N t Good v w):Hh N t Good v w':=
 let ⟨q,e,hq,h⟩:=h;⟨q,e,hq,hr.2.2.2 q hq h⟩
theorem Db.new(hG:Ho t N Good){w:World}(hN:N<=w.heap.size):Db N t z Good (.pointer (some ⟨w.heap.size,0,none⟩)) (w.alloc (.cells z.toArray t)):=⟨_,rfl,hN,.inl Bk.new⟩
theorem RZ.put(hG:Ho t N Good){w w':World}{q:Nat}{us vs:List Value}(hq:N<=q)(h:Bk w q t us)(hs:w.heap.size=w'.heap.size)(hk:∀k,k≠q->w'.heap[k]?=w.heap[k]?)(hv:Bk w' q t vs)(hg:Good vs w):RZ N t z Good w w'/\xt t Good q w':=by
 have Yp:∀k,k<w.heap.size->(k<N\/∀cs,w.heap[k]?≠some (.cells cs t (0,0)))->w'.heap[k]?=w.heap[k]?:=λk _ hc=>hk k (by
  rintro rfl;rcases hc with hc|hc
  ·omega
  ·exact hc _ h)
 have h1:xt t Good q w':=⟨vs,hv,hG _ _ _ (Nat.le_of_eq hs) Yp hg⟩;refine⟨⟨Nat.le_of_eq hs,Yp,λk _ hb=>?_,λk _ hb=>?_⟩,h1⟩
 ·by_cases e:k=q
  ·subst e;exact .inr h1
  ·exact .inl (hb.keep (hk k e))
 ·by_cases e:k=q
  ·subst e;exact h1
  ·obtain⟨NZ,g1,g2⟩:=hb;exact⟨NZ,g1.keep (hk k e),hG _ _ _ (Nat.le_of_eq hs) Yp g2⟩
theorem yN{w:World}{q t:Nat}{x y:Value}(h:Bk w q t [x,y])(a b:Value):Bk ((w.setCell ⟨q,0,none⟩ a).setCell ⟨q,1,none⟩ b) q t [a,b]:=(h.set 0 a).set 1 b
theorem vD{α:Type}{R:Rp α}{e:TypeId}(hne:e≠t){base:Nat}{G:Nat->Prop}(hG:∀k,G k->k<N){v:Value}{xs:List α}{w w':World}(hs:w.heap.size<=w'.heap.size)
 (hr:∀k,k<w.heap.size->(k<N\/∀cs,w.heap[k]?≠some (.cells cs t (0,0)))->w'.heap[k]?=w.heap[k]?)(h:Mk R e base w G v xs):Mk R e base w' G v xs:=by
 obtain⟨cs,h1,h2,h3⟩:=h;refine⟨cs,⟨h1.1,?_⟩,h2,(eU.keep (w':=w') (λk hk=>hr k hk.2 (.inl (hG k hk.1.1))) h3.live).sub λk hk=>hk.1⟩;rcases h1.2 with h|⟨g,cap,cur,e1,hb,Yl,h⟩
 ·exact .inl h
 ·refine .inr ⟨g,cap,cur,e1,hb,?_,h⟩;rw[hr g (Array.getElem?_eq_some_iff.1 Yl).1 (.inr λcs hz=>?_)]
  ·exact Yl
  ·have e:=Option.some.inj (Yl.symm.trans hz)
   injection e with _ e;exact hne e
end
def SMk{α:Type}(R:Rp α)(e:TypeId)(base:Nat)(G:Nat->Prop)(xs:List α)(v:Value)(w:World):Prop:=Mk R e base w G v xs
theorem SMk.kept{α:Type}{R:Rp α}{e t:TypeId}{N base:Nat}{z:List Value}{Good:List Value->World->Prop}{G:Nat->Prop}{xs:List α}(hne:e≠t)(hG:∀k,G k->k<N)(w w':World)(v:Value)(hr:RZ N t z Good w w')(h:SMk R e base G xs v w):SMk R e base G xs v w':=
 vD hne hG hr.1 hr.2.1 h
theorem Mk.base{α:Type}{R:Rp α}{e:TypeId}{base base':Nat}{w:World}{G:Nat->Prop}{v:Value}{xs:List α}(h:Mk R e base w G v xs)(hb:base'<=base):Mk R e base' w G v xs:=by
 obtain⟨cs,h1,h2⟩:=h;refine⟨cs,⟨h1.1,?_⟩,h2⟩;rcases h1.2 with h|⟨g,cap,cur,e1,Z0,h⟩
 ·exact .inl h
 ·exact .inr ⟨g,cap,cur,e1,Nat.le_trans hb Z0,h⟩
theorem IG{w:World}{F:Nat->Prop}{c:Cn4}{cs:List Value}(h:rCn.rep w F c cs):cs=[.int .u8 c.1,.int .u16 c.2.1,.int .i64 c.2.2.1,.int .i64 c.2.2.2]:=by
 obtain⟨a,b,rfl,rfl,a2,b2,rfl,rfl,a3,b3,rfl,rfl,rfl⟩:=h;rfl
theorem Jo{w:World}{F:Nat->Prop}(c:Cn4):rCn.rep w F c [.int .u8 c.1,.int .u16 c.2.1,.int .i64 c.2.2.1,.int .i64 c.2.2.2]:=⟨[_],_,rfl,rfl,[_],_,rfl,rfl,[_],_,rfl,rfl,rfl⟩
def vwC(v:Vw8)(y:Value):List Value:=[.int .i64 v.1,.int .i64 v.2.1,.int .i64 v.2.2.1,.int .i64 v.2.2.2.1,.int .i64 v.2.2.2.2.1,.int .i64 v.2.2.2.2.2.1,.int .u16 v.2.2.2.2.2.2.1,y]
theorem E4{w:World}{F:Nat->Prop}{v:Vw8}{cs:List Value}(h:rVw.rep w F v cs):∃y,cs=vwC v y/\RSl rCn w F v.2.2.2.2.2.2.2 y:=by
 obtain⟨_,_,rfl,rfl,_,_,rfl,rfl,_,_,rfl,rfl,_,_,rfl,rfl,_,_,rfl,rfl,_,_,rfl,rfl,_,_,rfl,rfl,y,rfl,hy⟩:=h;exact⟨y,rfl,hy⟩
theorem E3{w:World}{fp:List Nat}{v:Vw8}{y:Value}(h:OSl rCn 57 w fp v.2.2.2.2.2.2.2 y):rVw.own w fp v (vwC v y):=
 ⟨[_],_,[],fp,rfl,rfl,⟨rfl,rfl⟩,[_],_,[],fp,rfl,rfl,⟨rfl,rfl⟩,[_],_,[],fp,rfl,rfl,⟨rfl,rfl⟩,[_],_,[],fp,rfl,rfl,⟨rfl,rfl⟩,[_],_,[],fp,rfl,rfl,⟨rfl,rfl⟩,[_],_,[],fp,rfl,rfl,⟨rfl,rfl⟩,[_],_,[],fp,rfl,rfl,⟨rfl,rfl⟩,y,rfl,h⟩
theorem cC(w:World)(j:Nat)(v:Value){k q:Nat}(h:k≠q):(w.setCell ⟨q,j,none⟩ v).heap[k]?=w.heap[k]?:=heap_setCell_other _ _ _ _ h
theorem MkO.base'{α:Type}{R:Rp α}{e:TypeId}{base base':Nat}{w:World}{fp:List Nat}{v:Value}{xs:List α}(h:MkO R e base w fp v xs)(hb:base'<=base):MkO R e base' w fp v xs:=by
 obtain⟨cs,h1,h2,h3,h4,h5⟩:=h;refine⟨cs,⟨h1.1,?_⟩,h2,h3,h4,λk hk=>⟨Nat.le_trans hb (h5 k hk).1,(h5 k hk).2⟩⟩;rcases h1.2 with h|⟨g,cap,cur,e1,Z0,h⟩
 ·exact .inl h
 ·exact .inr ⟨g,cap,cur,e1,Nat.le_trans hb Z0,h⟩
def He(v:Vw8)(w:World)(e:Ending)(w':World):Prop:=
 ∃y,e=.returned (.agg (vwC v y).toArray)/\MkO rCn 57 (w.heap.size+2) w' [] y v.2.2.2.2.2.2.2/\w.grownBy w' none
set_option maxHeartbeats 1000000 in
theorem ru(F:Nat->Prop)(v:Vw8)(y:Value)(w:World)(h:RSl rCn w F v.2.2.2.2.2.2.2 y):
 Calls Try.prog 56 #[.agg (vwC v y).toArray] w (He v w):=by
 obtain⟨v0,v1,v2,v3,v4,v5,v6,L⟩:=v;have H:=Lib.hid h;obtain⟨A,c,rfl,_⟩:=h.size_eq;clear h;unfold vwC at *;dsimp only at *
 go_enter Try.func56,Try.ntmps56
 go_wp2_with fail
 have Zm:w.grownBy ((w.alloc (.cells #[.int .i64 v0,.int .i64 v1,.int .i64 v2,.int .i64 v3,.int .i64 v4,.int .i64 v5,.int .u16 v6,.slice A L.length c] 62)).alloc (.cells #[.int .i64 0,.int .i64 0,.int .i64 0,.int .i64 0,.int .i64 0,.int .i64 0,.int .u16 0,.slice none 0 0] 62)) none:=bv (bv (bx w none) _) _;have Z0:Bk ((w.alloc (.cells #[.int .i64 v0,.int .i64 v1,.int .i64 v2,.int .i64 v3,.int .i64 v4,.int .i64 v5,.int .u16 v6,.slice A L.length c] 62)).alloc (.cells #[.int .i64 0,.int .i64 0,.int .i64 0,.int .i64 0,.int .i64 0,.int .i64 0,.int .u16 0,.slice none 0 0] 62)) w.heap.size 62 [.int .i64 v0,.int .i64 v1,.int .i64 v2,.int .i64 v3,.int .i64 v4,.int .i64 v5,.int .u16 v6,.slice A L.length c]:=Bk.new.grow (bv (bx _ _) _)
 have Z':Bk ((w.alloc (.cells #[.int .i64 v0,.int .i64 v1,.int .i64 v2,.int .i64 v3,.int .i64 v4,.int .i64 v5,.int .u16 v6,.slice A L.length c] 62)).alloc (.cells #[.int .i64 0,.int .i64 0,.int .i64 0,.int .i64 0,.int .i64 0,.int .i64 0,.int .u16 0,.slice none 0 0] 62)) (w.heap.size+1) 62 [.int .i64 0,.int .i64 0,.int .i64 0,.int .i64 0,.int .i64 0,.int .i64 0,.int .u16 0,.slice none 0 0]:=by
  have:=Bk.new (w:=w.alloc (.cells #[.int .i64 v0,.int .i64 v1,.int .i64 v2,.int .i64 v3,.int .i64 v4,.int .i64 v5,.int .u16 v6,.slice A L.length c] 62)) (t:=62) (vs:=[.int .i64 0,.int .i64 0,.int .i64 0,.int .i64 0,.int .i64 0,.int .i64 0,.int .u16 0,.slice none 0 0]);simpa using this
 have hsz:((w.alloc (.cells #[.int .i64 v0,.int .i64 v1,.int .i64 v2,.int .i64 v3,.int .i64 v4,.int .i64 v5,.int .u16 v6,.slice A L.length c] 62)).alloc (.cells #[.int .i64 0,.int .i64 0,.int .i64 0,.int .i64 0,.int .i64 0,.int .i64 0,.int .u16 0,.slice none 0 0] 62)).heap.size=w.heap.size+2:=by simp
 generalize(w.alloc (.cells #[.int .i64 v0,.int .i64 v1,.int .i64 v2,.int .i64 v3,.int .i64 v4,.int .i64 v5,.int .u16 v6,.slice A L.length c] 62)).alloc (.cells #[.int .i64 0,.int .i64 0,.int .i64 0,.int .i64 0,.int .i64 0,.int .i64 0,.int .u16 0,.slice none 0 0] 62)=W at *;refine(qv F L _ W (H.out.grow Zm)).mono ?_;rintro e w3 ⟨y,rfl,Wr,hg⟩;obtain⟨A',c',rfl⟩:=Wr.shape;have Z0:=Z0.grow hg;have Z':=Z'.grow hg;have HG:=Lib.hid (bC Zm hg);have HS:=Lib.hid hsz;have HM:=Lib.hid (Wr.own wO);have k0:=Z0.cell 0;have k1:=Z0.cell 1;have k2:=Z0.cell 2;have k3:=Z0.cell 3;have k4:=Z0.cell 4;have k5:=Z0.cell 5;have k6:=Z0.cell 6;have k7:=Z0.cell 7;have f7:=Z0.free 7;have j0:=Z'.cell 0;have j1:=Z'.cell 1;have j2:=Z'.cell 2;have j3:=Z'.cell 3;have j4:=Z'.cell 4;have j5:=Z'.cell 5;have j6:=Z'.cell 6;have j7:=Z'.cell 7;have g0:=Z'.free 0;have g1:=Z'.free 1;have g2:=Z'.free 2;have g3:=Z'.free 3;have g4:=Z'.free 4;have g5:=Z'.free 5;have g6:=Z'.free 6;have g7:=Z'.free 7;simp only[List.getElem?_cons_zero,List.getElem?_cons_succ]at k0 k1 k2 k3 k4 k5 k6 k7 j0 j1 j2 j3 j4 j5 j6 j7;have Yr:=Z'.hi;have Xp:=Z0.hi;clear Z0 Z' hg Zm Wr hsz
 go_wp2_with fail
 refine bodyPost_ret (v:=.agg #[.int .i64 v0,.int .i64 v1,.int .i64 v2,.int .i64 v3,.int .i64 v4,.int .i64 v5,.int .u16 v6,.slice A' L.length c']) (by simp[results,Try.results56,go_sem,j0,j1,j2,j3,j4,j5,j6,j7,Yr]) rfl ?_;refine⟨_,rfl,(HM.out.base' (Nat.le_of_eq HS.out.symm)).above λk hk _=>?_,?_⟩
 ·have:∀j,j<2->k≠w.heap.size+j:=λj hj=>by omega
  have e0:=this 0 (by omega);have e1:=this 1 (by omega);rw[Nat.add_zero]at e0;simp only[cC _ _ _ e0,cC _ _ _ e1]
 ·refine bD (bD (bD (bD (bD (bD (bD (bD (bD HG.out (.inr ?_) _) (.inr ?_) _) (.inr ?_) _) (.inr ?_) _) (.inr ?_) _) (.inr ?_) _) (.inr ?_) _) (.inr ?_) _) (.inr ?_) _
  all_goals (dsimp only;omega)
theorem mW(F:Nat->Prop)(v0 v1 v2 v3 v4 v5 v6:Int)(L:List Cn4)(y:Value)(w:World)(h:RSl rCn w F L y):
 Calls Try.prog 56 #[.agg #[.int .i64 v0,.int .i64 v1,.int .i64 v2,.int .i64 v3,.int .i64 v4,.int .i64 v5,.int .u16 v6,y]] w λe w'=>
  ∃z,e=.returned (.agg #[.int .i64 v0,.int .i64 v1,.int .i64 v2,.int .i64 v3,.int .i64 v4,.int .i64 v5,.int .u16 v6,z])/\MkO rCn 57 (w.heap.size+2) w' [] z L/\w.grownBy w' none:=ru F (v0,v1,v2,v3,v4,v5,v6,L) y w h
section
variable {α:Type} {R:Rp α} {e:TypeId} {w w':World} {F:Nat->Prop} {N N9:Nat} {b:Value} {xs:List α} {k:Nat}
def xr(R:Rp α)(e:TypeId)(w:World)(F:Nat->Prop)(N N9:Nat)(b:Value)(xs:List α)(k:Nat):Prop:=
 (b=.slice none 0 0/\xs=[])\/∃ql cl c1 c2 fp,b=.slice (some ⟨ql,0,none⟩) xs.length cl/\xs.length<=cl/\cl<=9223372036854775807/\jO e w ql (cl*R.size) (c1++c2)/\
  iv R w fp (xs.take k) c1/\eU R w F (xs.drop k) c2/\fp.Nodup/\(∀x,x∈fp->N9<=x)/\N<=ql/\ql<N9
theorem mg(h:Mk R e N w F b xs)(hN:w.heap.size<=N9):xr R e w F N N9 b xs 0:=by
 obtain⟨cs,h1,h2,h3⟩:=h
 rcases h1.2 with⟨e1,e2⟩|⟨g,cap,cur,e1,YG,Yl,hcap,hmax,hsz,YP⟩
 ·exact .inl ⟨e1,oEN e2⟩
 ·exact .inr ⟨g,cap,[],cs,[],e1,hcap,by simpa[maxLen]using hmax,⟨cur,Yl,hsz,by rw[List.nil_append,h1.1];exact YP⟩,by simp[iv],by simpa using h3.sub λx hx=>hx.1,List.nodup_nil,by simp,YG,Nat.lt_of_lt_of_le (Array.getElem?_eq_some_iff.1 Yl).1 hN⟩
theorem xr.keep(h:xr R e w F N N9 b xs k)(hk:∀x,x<w.heap.size->(F x\/some x=b.ownBlock\/N9<=x)->w'.heap[x]?=w.heap[x]?):xr R e w' F N N9 b xs k:=by
 rcases h with h|⟨ql,cl,c1,c2,fp,rfl,h1,h2,hV,hO,hR,ZR,hfp,Xp,Yr⟩
 ·exact .inl h
 ·refine .inr ⟨ql,cl,c1,c2,fp,rfl,h1,h2,hV.keep (hk ql hV.hi (.inr (.inl rfl))),hO.keep λx hx=>hk x (hO.live x hx) (.inr (.inr (hfp x hx))),?_,ZR,hfp,Xp,Yr⟩;exact(eU.keep (w':=w') (λx hx=>hk x hx.2 (.inl hx.1)) hR.live).sub λx hx=>hx.1
theorem xr.done(h:xr R e w F N N9 b xs xs.length)(hl:xs.length<=1099511627776):∃gp,OSl R e w gp xs b/\gp.Nodup/\∀x,x∈gp->N<=x/\(some x=b.ownBlock\/N9<=x):=by
 rcases h with⟨e1,e2⟩|⟨ql,cl,c1,c2,fp,rfl,h1,h2,hV,hO,hR,ZR,hfp,Xp,Yr⟩
 ·exact⟨[],⟨hl,.inl ⟨e1,e2,rfl⟩⟩,List.nodup_nil,by simp⟩
 ·rw[List.take_of_length_le (Nat.le_refl _)]at hO;rw[List.drop_of_length_le (Nat.le_refl _)]at hR;have Zl:c2=[]:=hR;subst Zl;rw[List.append_nil]at hV;refine⟨ql::fp,⟨hl,.inr ⟨ql,cl,c1,fp,rfl,rfl,h1,h2,hV,hO⟩⟩,List.nodup_cons.2 ⟨λhm=>by have:=hfp ql hm;omega,ZR⟩,λx hx=>?_⟩;rcases List.mem_cons.1 hx with rfl|hx
  ·exact⟨Xp,.inl rfl⟩
  ·exact⟨by have:=hfp x hx;omega,.inr (hfp x hx)⟩
structure lE (R:Rp α)(e:TypeId)(w:World)(F:Nat->Prop)(N N9:Nat)(b:Value)(xs:List α)(k ql cl:Nat)(x:α)(c1 d1 d2:List Value)(fp:List Nat):Prop where
 hb:b=.slice (some ⟨ql,0,none⟩) xs.length cl
 l1:xs.length<=cl
 l2:cl<=9223372036854775807
 buf:jO e w ql (cl*R.size) (c1++(d1++d2))
 own:iv R w fp (xs.take k) c1
 rep:R.rep w F x d1
 reps:eU R w F (xs.drop (k+1)) d2
 nd:fp.Nodup
 fp9:∀x,x∈fp->N9<=x
 ql1:N<=ql
 ql2:ql<N9
 len:c1.length=k*R.size
 tk:xs.take (k+1)=xs.take k++[x]
theorem xr.at_(h:xr R e w F N N9 b xs k)(hlt:k<xs.length):∃ql cl c1 d1 d2 fp,lE R e w F N N9 b xs k ql cl xs[k] c1 d1 d2 fp:=by
 rcases h with⟨_,e1⟩|⟨ql,cl,c1,c2,fp,e1,h1,h2,hV,hO,hR,ZR,hfp,Xp,Yr⟩
 ·rw[e1]at hlt;simp at hlt
 ·rw[List.drop_eq_getElem_cons hlt]at hR;obtain⟨d1,d2,rfl,hx,Vy⟩:=hR;exact⟨ql,cl,c1,d1,d2,fp,e1,h1,h2,hV,hO,hx,Vy,ZR,hfp,Xp,Yr,by rw[hO.len,oLT,Nat.min_eq_left (by omega)],List.take_succ_eq_append_getElem hlt⟩
theorem lE.cell{ql cl:Nat}{x:α}{c1 d1 d2:List Value}{fp:List Nat}(h:lE R e w F N N9 b xs k ql cl x c1 d1 d2 fp){j:Nat}{u:Value}(hj:d1[j]?=some u):w.cell? ⟨ql,k*R.size+j,none⟩=some u:=by
 rw[<- h.len];refine h.buf.mid (j:=j) ?_;rw[List.getElem?_append_left (oGS hj).1];exact hj
theorem lE.grow{ql cl:Nat}{x:α}{c1 d1 d2:List Value}{fp:List Nat}(h:lE R e w F N N9 b xs k ql cl x c1 d1 d2 fp)(hg:w.grownBy w' none):lE R e w' F N N9 b xs k ql cl x c1 d1 d2 fp:=
 ⟨h.hb,h.l1,h.l2,h.buf.grow hg,h.own.grow hg,R.grow h.rep hg,h.reps.grow hg,h.nd,h.fp9,h.ql1,h.ql2,h.len,h.tk⟩
theorem lE.step{ql cl:Nat}{x:α}{c1 d1 d2 d1':List Value}{fp gp:List Nat}(h:lE R e w F N N9 b xs k ql cl x c1 d1 d2 fp)(hF:∀j,F j->j<N)(hw:∀j,j<w.heap.size->j≠ql->w'.heap[j]?=w.heap[j]?)(h9:N9<=w.heap.size)
 (hV:jO e w' ql (cl*R.size) (c1++(d1'++d2)))(ho:R.own w' gp x d1')(ZR:gp.Nodup)(TN:∀j,j∈gp->w.heap.size<=j):xr R e w' F N N9 b xs (k+1):=by
 refine .inr ⟨ql,cl,c1++d1',d2,fp++gp,h.hb,h.l1,h.l2,by simpa using hV,?_,?_,?_,?_,h.ql1,h.ql2⟩
 ·rw[h.tk];exact(h.own.keep λj hj=>hw j (h.own.live j hj) (by have:=h.fp9 j hj;have:=h.ql2;omega)).append (iv.single ho)
 ·exact(eU.keep (w':=w') (λj hj=>hw j hj.2 (by have:=hF j hj.1;have:=h.ql1;omega)) h.reps.live).sub λj hj=>hj.1
 ·exact List.nodup_append.2 ⟨h.nd,ZR,λa ha c hc e=>by have:=h.own.live a ha;have:=TN c hc;omega⟩
 ·intro j hj;rcases List.mem_append.1 hj with hj|hj
  ·exact h.fp9 j hj
  ·have:=TN j hj;omega
end
structure StC (C:List (List Cn4))(T:List Vw8)(w:World)(F:Nat->Prop)(N q1 N9:Nat)(a b:Value)(i k:Nat)(wr:World):Prop where
 grown:w.grownBy wr none
 size:N9<=wr.heap.size
 res:Bk wr (q1+1) 31 [.slice none 0 0,.slice none 0 0]
 out:Bk wr q1 31 [a,b]
 rg:xr rCs 53 wr F N N9 a C i
 ts:xr rVw 62 wr F N N9 b T k
 ne:∀x,some x=a.ownBlock->some x≠b.ownBlock
 hq:q1+2=N
 hN:N<=N9
 hw:w.heap.size<=q1
 hF:∀x,F x->x<q1
theorem StC.stepR{C:List (List Cn4)}{T:List Vw8}{w wr w':World}{F:Nat->Prop}{N q1 N9:Nat}{a b:Value}{i k ql cl:Nat}{x:List Cn4}{c1 d1 d2 d1':List Value}{fp gp:List Nat}(h:StC C T w F N q1 N9 a b i k wr)
 (hA:lE rCs 53 wr F N N9 a C i ql cl x c1 d1 d2 fp)(hg:wr.grownBy w' (some ql))(hV:jO 53 w' ql (cl*rCs.size) (c1++(d1'++d2)))(ho:rCs.own w' gp x d1')(ZR:gp.Nodup)(TN:∀j,j∈gp->wr.heap.size<=j):StC C T w F N q1 N9 a b (i+1) k w':=by
 have hw:∀j,j<wr.heap.size->j≠ql->w'.heap[j]?=wr.heap[j]?:=λj h1 h2=>hg.block j h1 (λe=>by injection e with e;exact h2 e);have h1:=hA.ql1;have h2:=hA.ql2;have h3:=h.hq;have h4:=h.hN;have h5:=h.hw
 have hb:some ql=a.ownBlock:=by rw[hA.hb];rfl
 refine⟨ig h.grown hg λe e'=>by injection e' with e';omega,by have:=h.size;have:=hg.size;omega,h.res.keep (hw _ h.res.hi (by omega)),h.out.keep (hw _ h.out.hi (by omega)),hA.step (λj hj=>by have:=h.hF j hj;omega) hw h.size hV ho ZR TN,h.ts.keep λj hj hc=>hw j hj ?_,h.ne,h.hq,h.hN,h.hw,h.hF⟩;rintro rfl;rcases hc with hc|hc|hc
 ·have:=h.hF j hc;omega
 ·exact h.ne j hb hc
 ·omega
theorem xr.raise{α:Type}{R:Rp α}{e:TypeId}{w:World}{F:Nat->Prop}{N N9 M9:Nat}{b:Value}{xs:List α}(h:xr R e w F N N9 b xs 0)(Yv:N9<=M9):xr R e w F N M9 b xs 0:=by
 rcases h with h|⟨ql,cl,c1,c2,fp,h1,h2,h3,hV,hO,hR,ZR,hfp,Xp,Yr⟩
 ·exact .inl h
 ·have e0:fp=[]:=by simpa[iv]using hO.2
  subst e0;exact .inr ⟨ql,cl,c1,c2,[],h1,h2,h3,hV,hO,hR,ZR,by simp,Xp,Nat.lt_of_lt_of_le Yr Yv⟩
structure StD (C:List (List Cn4))(T:List Vw8)(w:World)(F:Nat->Prop)(N q1 M9:Nat)(a b:Value)(k:Nat)(wr:World):Prop where
 grown:w.grownBy wr none
 size:M9<=wr.heap.size
 res:Bk wr (q1+1) 31 [.slice none 0 0,.slice none 0 0]
 out:Bk wr q1 31 [a,b]
 rg:∃fp,OSl rCs 53 wr fp C a/\fp.Nodup/\∀x,x∈fp->N<=x/\x<M9/\some x≠b.ownBlock
 ts:xr rVw 62 wr F N M9 b T k
 hq:q1+2=N
 hN:N<=M9
 hw:w.heap.size<=q1
 hF:∀x,F x->x<q1
theorem StC.second{C:List (List Cn4)}{T:List Vw8}{w wr:World}{F:Nat->Prop}{N q1 N9:Nat}{a b:Value}(h:StC C T w F N q1 N9 a b C.length 0 wr)(hl:C.length<=1099511627776):StD C T w F N q1 wr.heap.size a b 0 wr:=by
 obtain⟨fp,h1,h2,h3⟩:=h.rg.done hl;refine⟨h.grown,Nat.le_refl _,h.res,h.out,⟨fp,h1,h2,λx hx=>⟨(h3 x hx).1,h1.live x hx,λe=>?_⟩⟩,h.ts.raise h.size,h.hq,Nat.le_trans h.hN h.size,h.hw,h.hF⟩
 rcases(h3 x hx).2 with h4|h4
 ·exact h.ne x h4 e
 ·rcases h.ts with⟨e1,_⟩|⟨ql,cl,c1,c2,gp,e1,_,_,_,_,_,_,_,_,Yr⟩
  ·rw[e1]at e;cases e
  ·rw[e1]at e
   injection e with e
   have e:x=ql:=e;omega
theorem StD.stepT{C:List (List Cn4)}{T:List Vw8}{w wr w':World}{F:Nat->Prop}{N q1 M9:Nat}{a b:Value}{k ql cl:Nat}{x:Vw8}{c1 d1 d2 d1':List Value}{fp gp:List Nat}(h:StD C T w F N q1 M9 a b k wr)
 (hA:lE rVw 62 wr F N M9 b T k ql cl x c1 d1 d2 fp)(hg:wr.grownBy w' (some ql))(hV:jO 62 w' ql (cl*rVw.size) (c1++(d1'++d2)))(ho:rVw.own w' gp x d1')(ZR:gp.Nodup)(TN:∀j,j∈gp->wr.heap.size<=j):StD C T w F N q1 M9 a b (k+1) w':=by
 have hw:∀j,j<wr.heap.size->j≠ql->w'.heap[j]?=wr.heap[j]?:=λj h1 h2=>hg.block j h1 (λe=>by injection e with e;exact h2 e);have h1:=hA.ql1;have h2:=hA.ql2;have h3:=h.hq;have h4:=h.hN;have h5:=h.hw
 have hb:some ql=b.ownBlock:=by rw[hA.hb];rfl
 refine⟨ig h.grown hg λe e'=>by injection e' with e';omega,by have:=h.size;have:=hg.size;omega,h.res.keep (hw _ h.res.hi (by omega)),h.out.keep (hw _ h.out.hi (by omega)),?_,hA.step (λj hj=>by have:=h.hF j hj;omega) hw h.size hV ho ZR TN,h.hq,h.hN,h.hw,h.hF⟩;obtain⟨fp,r1,r2,r3⟩:=h.rg;exact⟨fp,r1.keep λj hj=>hw j (r1.live j hj) (λe=>(r3 j hj).2.2 (by rw[e];exact hb)),r2,r3⟩
def ET(C:List (List Cn4))(T:List Vw8)(w:World)(e:Ending)(w':World):Prop:=
 ∃a b fp gp,e=.returned (.agg #[a,b])/\OSl rCs 53 w' fp C a/\OSl rVw 62 w' gp T b/\(fp++gp).Nodup/\(∀x,x∈fp++gp->w.heap.size+2<=x)/\w.grownBy w' none
set_option maxRecDepth 100000 in
set_option maxHeartbeats 4000000 in
theorem kx(F:Nat->Prop)(C:List (List Cn4))(T:List Vw8)(u v:Value)(w:World)(hu:RSl rCs w F C u)(hv:RSl rVw w F T v):
 Calls Try.prog 33 #[.agg #[u,v]] w (ET C T w):=by
 have HU:=Lib.hid hu;have HV:=Lib.hid hv;obtain⟨A1,c1,rfl,_,_,UB⟩:=hu.size_eq;obtain⟨A2,c2,rfl,_,_,UF⟩:=hv.size_eq;clear hu hv
 go_enter Try.func33,Try.ntmps33
 go_upto_region 1 with fail
 have Zm:w.grownBy ((w.alloc (.cells #[.slice A1 C.length c1,.slice A2 T.length c2] 31)).alloc (.cells #[.slice none 0 0,.slice none 0 0] 31)) none:=bv (bv (bx w none) _) _;have Z0:Bk ((w.alloc (.cells #[.slice A1 C.length c1,.slice A2 T.length c2] 31)).alloc (.cells #[.slice none 0 0,.slice none 0 0] 31)) w.heap.size 31 [.slice A1 C.length c1,.slice A2 T.length c2]:=Bk.new.grow (bv (bx _ _) _)
 have Z':Bk ((w.alloc (.cells #[.slice A1 C.length c1,.slice A2 T.length c2] 31)).alloc (.cells #[.slice none 0 0,.slice none 0 0] 31)) (w.heap.size+1) 31 [.slice none 0 0,.slice none 0 0]:=by
  have:=Bk.new (w:=w.alloc (.cells #[.slice A1 C.length c1,.slice A2 T.length c2] 31)) (t:=31) (vs:=[.slice none 0 0,.slice none 0 0]);simpa using this
 have hN:w.heap.size+2=((w.alloc (.cells #[.slice A1 C.length c1,.slice A2 T.length c2] 31)).alloc (.cells #[.slice none 0 0,.slice none 0 0] 31)).heap.size:=by simp
 generalize(w.alloc (.cells #[.slice A1 C.length c1,.slice A2 T.length c2] 31)).alloc (.cells #[.slice none 0 0,.slice none 0 0] 31)=W at *;have N6:=Lib.hid Zm;have Vw:=Lib.hid Z0;have WH:=Lib.hid Z';have Xl:=Lib.hid hN;have Oa:=Lib.hid (HU.out.live.grow Zm);have Ob:=Lib.hid (HV.out.live.grow Zm);have k0:=Z0.cell 0;have k1:=Z0.cell 1;have f0:=Z0.free 0;have f1:=Z0.free 1;simp only[List.getElem?_cons_zero,List.getElem?_cons_succ]at k0 k1;clear Zm Z0 Z' HU HV
 go_cut []from 7 to 15 (λwx=>∃(A3:Option Addr)(c3:Nat)(A4:Option Addr)(c4 N9:Nat),StC C T w (λk=>F k/\k<w.heap.size) W.heap.size w.heap.size N9 (.slice A3 C.length c3) (.slice A4 T.length c4) 0 0 wx)
 case first=>
  go_region_with (first
   |(go_at_call 53;refine(xi (λk=>F k/\k<w.heap.size) C _ _ (Oa.out.grow (dG (bx _ _)))).mono ?_;rintro e w3 ⟨a,rfl,UO,Vb⟩;obtain⟨A3,c3,rfl⟩:=UO.shape;have Vb:=bC (dG (bx W none)) Vb;have m0:=(Vw.out.grow Vb).cell 0;have m1:=(Vw.out.grow Vb).cell 1;have n0:=(Vw.out.grow Vb).free 0;have n1:=(Vw.out.grow Vb).free 1;simp only[List.getElem?_cons_zero,List.getElem?_cons_succ]at m0 m1;have WI:=Lib.hid Vb;have N7:=Lib.hid UO;clear UO Vb)
   |(go_at_call 54;refine(xg (λk=>F k/\k<w.heap.size) T _ _ (Ob.out.grow WI.out)).mono ?_;rintro e w4 ⟨b,rfl,TO,UM⟩;obtain⟨A4,c4,rfl⟩:=TO.shape;have p0:=((Vw.out.grow WI.out).grow UM).cell 0;have p1:=((Vw.out.grow WI.out).grow UM).cell 1;have r0:=((Vw.out.grow WI.out).grow UM).free 0;have r1:=((Vw.out.grow WI.out).grow UM).free 1;simp only[List.getElem?_cons_zero,List.getElem?_cons_succ]at p0 p1;have Ps:=Lib.hid UM;have LZ:=Lib.hid TO;clear TO UM))
  all_goals
   have HS:=Lib.hid (show StC C T w (λk=>F k/\k<w.heap.size) W.heap.size w.heap.size w4.heap.size (.slice A3 C.length c3) (.slice A4 T.length c4) 0 0 ((w4.setCell ⟨w.heap.size,0,none⟩ (.slice A3 C.length c3)).setCell ⟨w.heap.size,1,none⟩ (.slice A4 T.length c4))from by
    have h1:=Xl.out;have h2:=WI.out.size;have h3:=Ps.out.size;have YZ:=bC WI.out Ps.out
    have hx:∀x,x≠w.heap.size->((w4.setCell ⟨w.heap.size,0,none⟩ (.slice A3 C.length c3)).setCell ⟨w.heap.size,1,none⟩ (.slice A4 T.length c4)).heap[x]?=w4.heap[x]?:=λx hx=>by rw[cC _ _ _ hx,cC _ _ _ hx]
    have UO:Mk rCs 53 W.heap.size w4 (λk=>F k/\k<w.heap.size) (.slice A3 C.length c3) C:=N7.out.grow Ps.out;have TO:Mk rVw 62 w3.heap.size w4 (λk=>F k/\k<w.heap.size) (.slice A4 T.length c4) T:=LZ.out;have SW:Mk rVw 62 W.heap.size w4 (λk=>F k/\k<w.heap.size) (.slice A4 T.length c4) T:=TO.base h2;refine⟨bD (bD (bC N6.out YZ) (.inr (Nat.le_refl _)) _) (.inr (Nat.le_refl _)) _,by rw[xO,xO];exact Nat.le_refl _,((WH.out.grow YZ).other (by omega) _).other (by omega) _,yN (Vw.out.grow YZ) _ _,?_,?_,?_,by omega,by omega,Nat.le_refl _,λx h=>h.2⟩
    ·refine(mg UO (Nat.le_refl _)).keep λx _ hc=>hx x ?_;rcases hc with hc|hc|hc
     ·have:=hc.2;omega
     ·have:=(UO.row x hc.symm).1;omega
     ·omega
    ·refine(mg SW (Nat.le_refl _)).keep λx _ hc=>hx x ?_;rcases hc with hc|hc|hc
     ·have:=hc.2;omega
     ·have:=(SW.row x hc.symm).1;omega
     ·omega
    ·intro x e1 e2;have r1:=(N7.out.row x e1.symm).2;have r2:=(TO.row x e2.symm).1
     omega)
   go_wp2_with fail
   go_meet
   exact⟨A3,c3,A4,c4,w4.heap.size,HS.out⟩
 case rest=>
  obtain⟨A3,c3,A4,c4,N9,hS⟩:=hcut;have HS:=Lib.hid hS;clear hS Oa Ob Vw WH N6 Xl k0 k1 f0 f1;generalize W.heap.size=N at *;have k0:=HS.out.out.cell 0;simp only[List.getElem?_cons_zero,List.getElem?_cons_succ]at k0
  go_wp2_with fail
  generalize hae:Value.slice A3 C.length c3=a at *;generalize hbe:Value.slice A4 T.length c4=b at *;have Od:=Lib.hid hae;have RW:=Lib.hid hbe;clear hae hbe k0
  go_loopw [18] (λi wr=>∃k:Nat,k<=C.length/\i=.int .i64 k/\StC C T w (λk=>F k/\k<w.heap.size) N w.heap.size N9 a b k 0 wr) (λi _=>C.length-(intOf i).toNat)
  case atStart=>exact⟨0,Nat.zero_le _,rfl,HS.out⟩
  case round=>
   obtain⟨k,hk,rfl,hst⟩:=hrel;have HN:=Lib.hid hst;clear hst HS;by_cases hlt:k<C.length
   ·obtain⟨ql,cl,d0,d1,d2,fp,hA⟩:=HN.out.rg.at_ hlt;generalize C[k]=x at hA;obtain⟨v,rfl,hv⟩:=hA.rep;obtain⟨LA,lc,rfl,_,_,Wx⟩:=hv.size_eq;have hab:=hA.hb;subst hab;have HA:=Lib.hid hA;have HV:=Lib.hid hv
    have g0:wr.cell? ⟨ql,k,none⟩=some (.slice LA x.length lc):=by
     have:=hA.cell (j:=0) rfl;rw[show k*rCs.size+0=k from Nat.mul_one k]at this;exact this
    have gf:=hA.buf.free k;have k0:=HN.out.out.cell 0;have kq:=hA.ql1;have kn:=HN.out.hq
    have Np:¬ql=w.heap.size:=by omega
    have QP:¬w.heap.size=ql:=by omega
    simp only[List.getElem?_cons_zero,List.getElem?_cons_succ]at k0
    have x2:(0:Int)<=(k:Int):=by omega
    have x3:(k:Int)<(C.length:Int):=by omega
    have x5:(k:Int).toNat=k:=by omega
    have hcap:=hA.l1;clear hA hv kq kn
    go_upto_region 5 with fail
    go_region_with (go_at_call 55;refine(qv (λk=>F k/\k<w.heap.size) x _ _ (HV.out.grow (dG (bx _ _)))).mono ?_;rintro e w6 ⟨y,rfl,Um,VB⟩;obtain⟨A6,c6,rfl⟩:=Um.shape;have VB:=bC (dG (bx wr none)) VB;have m0:=(HN.out.out.grow VB).cell 0;simp only[List.getElem?_cons_zero,List.getElem?_cons_succ]at m0;have mf:=(HA.out.buf.grow VB).free k;(have mc:w6.cell? ⟨ql,k,none⟩=some (.slice LA x.length lc):=(by(have:=(HA.out.grow VB).cell (j:=0) rfl;rw[show k*rCs.size+0=k from Nat.mul_one k]at this;exact this)));have TX:=Lib.hid VB;have Pv:=Lib.hid (Um.own wO);clear Um VB)
    all_goals
     obtain⟨gp,Uo,Yh,Yi⟩:=Pv.out.done;replace Yi:∀b,b∈gp->wr.heap.size<=b:=Yi;have Ph:=(HA.out.grow TX.out).buf.setmid (j:=0) (by simp) (.slice A6 x.length c6);have Mn:=HA.out.len;have Z7:rCs.size=1:=rfl;rw[Mn,Z7,Nat.mul_one,Nat.add_zero]at Ph;have Nr:=HA.out.ql1;have YL:=TX.out.size;have TY:=Lib.hid (HN.out.stepR (d1':=[.slice A6 x.length c6]) HA.out (bD (p:=⟨ql,k,none⟩) (mP (row:=some ql) TX.out) (.inl rfl) (.slice A6 x.length c6)) (by rw[Z7];exact Ph) ⟨_,rfl,Uo.keep λb hb=>cC _ _ _ (by have:=Yi b hb;have:=HA.out.buf.hi;omega)⟩ Yh Yi)
     go_wp2_with fail
     go_roundw
     case rel=>exact⟨k+1,by omega,by go_num,TY.out⟩
     case measure=>simp[intOf];omega
   ·have QA:k=C.length:=by omega
    subst QA;have k1:=HN.out.out.cell 1;simp only[List.getElem?_cons_zero,List.getElem?_cons_succ]at k1;clear hlt;rw[<- RW.out]at k1
    go_upto_region 8 with fail
    rw[RW.out]at k1;rw[RW.out];clear k1;have HN:=Lib.hid (HN.out.second UB);generalize wr.heap.size=M9 at HN
    go_loopw [33] (λi wr=>∃k:Nat,k<=T.length/\i=.int .i64 k/\StD C T w (λk=>F k/\k<w.heap.size) N w.heap.size M9 a b k wr) (λi _=>T.length-(intOf i).toNat)
    case atStart=>exact⟨0,Nat.zero_le _,rfl,HN.out⟩
    case round=>
     obtain⟨k,hk,rfl,hst⟩:=hrel;have HN:=Lib.hid hst;clear hst;by_cases hlt:k<T.length
     ·obtain⟨ql,cl,d0,d1,d2,fp,hA⟩:=HN.out.ts.at_ hlt;generalize T[k]=x at hA;obtain⟨v,rfl,hv⟩:=E4 hA.rep;obtain⟨LA,lc,rfl,_,_,Wx⟩:=hv.size_eq;have hab:=hA.hb;subst hab;have HA:=Lib.hid hA;have HV:=Lib.hid hv;obtain⟨v0,v1,v2,v3,v4,v5,v6,L⟩:=x;have e8:∀j,k*rVw.size+j=k*8+j:=λj=>rfl;have g0:=hA.cell (j:=0) rfl;have g1:=hA.cell (j:=1) rfl;have g2:=hA.cell (j:=2) rfl;have g3:=hA.cell (j:=3) rfl;have g4:=hA.cell (j:=4) rfl;have g5:=hA.cell (j:=5) rfl;have g6:=hA.cell (j:=6) rfl;have g7:=hA.cell (j:=7) rfl;simp only[e8,Nat.add_zero]at g0 g1 g2 g3 g4 g5 g6 g7;have kq:=hA.ql1;have kn:=HN.out.hq
      have Np:¬ql=w.heap.size:=by omega
      have QP:¬w.heap.size=ql:=by omega
      have x2:(0:Int)<=(k:Int):=by omega
      have x3:(k:Int)<(T.length:Int):=by omega
      have x5:(k:Int).toNat=k:=by omega
      have hcap:=hA.l1;dsimp only at HV Wx⊢;have XL:wr.grownBy (wr.alloc (.cells #[.int .i64 v0,.int .i64 v1,.int .i64 v2,.int .i64 v3,.int .i64 v4,.int .i64 v5,.int .u16 v6,.slice LA L.length lc] 62)) none:=bv (bx _ _) _;have Vz:Bk (wr.alloc (.cells #[.int .i64 v0,.int .i64 v1,.int .i64 v2,.int .i64 v3,.int .i64 v4,.int .i64 v5,.int .u16 v6,.slice LA L.length lc] 62)) wr.heap.size 62 [.int .i64 v0,.int .i64 v1,.int .i64 v2,.int .i64 v3,.int .i64 v4,.int .i64 v5,.int .u16 v6,.slice LA L.length lc]:=Bk.new;clear hA hv kq kn
      go_upto_region 10 with fail
      generalize wr.alloc (.cells #[.int .i64 v0,.int .i64 v1,.int .i64 v2,.int .i64 v3,.int .i64 v4,.int .i64 v5,.int .u16 v6,.slice LA L.length lc] 62)=W6 at *;have WI:=Lib.hid XL;have Ll:=Lib.hid Vz;have k1:=(HN.out.out.grow XL).cell 1;have y0:=Vz.cell 0;have y1:=Vz.cell 1;have y2:=Vz.cell 2;have y3:=Vz.cell 3;have y4:=Vz.cell 4;have y5:=Vz.cell 5;have y6:=Vz.cell 6;have y7:=Vz.cell 7;simp only[List.getElem?_cons_zero,List.getElem?_cons_succ]at k1 y0 y1 y2 y3 y4 y5 y6 y7;clear XL Vz g0 g1 g2 g3 g4 g5 g6 g7
      go_region_with (go_at_call 56;refine(mW (λk=>F k/\k<w.heap.size) v0 v1 v2 v3 v4 v5 v6 L _ _ ((HV.out.grow WI.out).grow (dG (bx _ _)))).mono ?_;rintro e w7 ⟨y,rfl,Um,VB⟩;obtain⟨A7,c7,rfl⟩:=Um.shape;have XW:=bC WI.out (bC (dG (bx W6 none)) VB);have m1:=(HN.out.out.grow XW).cell 1;simp only[List.getElem?_cons_zero,List.getElem?_cons_succ]at m1;have o0:=(HA.out.grow XW).cell (j:=0) rfl;have o1:=(HA.out.grow XW).cell (j:=1) rfl;have o2:=(HA.out.grow XW).cell (j:=2) rfl;have o3:=(HA.out.grow XW).cell (j:=3) rfl;have o4:=(HA.out.grow XW).cell (j:=4) rfl;have o5:=(HA.out.grow XW).cell (j:=5) rfl;have o6:=(HA.out.grow XW).cell (j:=6) rfl;have o7:=(HA.out.grow XW).cell (j:=7) rfl;have z0:=(HA.out.buf.grow XW).free (k*8+0);have z1:=(HA.out.buf.grow XW).free (k*8+1);have z2:=(HA.out.buf.grow XW).free (k*8+2);have z3:=(HA.out.buf.grow XW).free (k*8+3);have z4:=(HA.out.buf.grow XW).free (k*8+4);have z5:=(HA.out.buf.grow XW).free (k*8+5);have z6:=(HA.out.buf.grow XW).free (k*8+6);have z7:=(HA.out.buf.grow XW).free (k*8+7);simp only[e8,Nat.add_zero]at o0 o1 o2 o3 o4 o5 o6 o7 z0 z1 z2 z3 z4 z5 z6 z7;have TX:=Lib.hid XW;have Pv:=Lib.hid Um;clear Um VB XW)
      all_goals
       obtain⟨gp,Uo,Yh,Yi⟩:=Pv.out.done
       replace Yi:∀b,b∈gp->wr.heap.size+1<=b:=λb hb=>by
        have h1:W6.heap.size+2<=b:=Yi b hb;have h2:=WI.out.size;omega
       have Wy:=(HA.out.buf.grow TX.out);have hl:=HA.out.len;have Nu:rVw.size=8:=rfl;rw[Nu]at hl;have Te:=Wy.setmid (j:=0) (by simp[vwC]) (.int .i64 v0);have Za:=Te.setmid (j:=1) (by simp[vwC]) (.int .i64 v1);have Y1:=Za.setmid (j:=2) (by simp[vwC]) (.int .i64 v2);have Us:=Y1.setmid (j:=3) (by simp[vwC]) (.int .i64 v3);have Tf:=Us.setmid (j:=4) (by simp[vwC]) (.int .i64 v4);have Tg:=Tf.setmid (j:=5) (by simp[vwC]) (.int .i64 v5);have Th:=Tg.setmid (j:=6) (by simp[vwC]) (.int .u16 v6);have Ut:=Th.setmid (j:=7) (by simp[vwC]) (.slice A7 L.length c7);simp only[hl,Nat.add_zero,vwC,List.cons_append,List.nil_append,List.set_cons_zero,List.set_cons_succ]at Ut;have LE:=TX.out.size
       have hset:∀x,x≠ql->((((((((w7.setCell ⟨ql,k*8,none⟩ (.int .i64 v0)).setCell ⟨ql,k*8+1,none⟩ (.int .i64 v1)).setCell ⟨ql,k*8+2,none⟩ (.int .i64 v2)).setCell ⟨ql,k*8+3,none⟩ (.int .i64 v3)).setCell ⟨ql,k*8+4,none⟩ (.int .i64 v4)).setCell ⟨ql,k*8+5,none⟩ (.int .i64 v5)).setCell ⟨ql,k*8+6,none⟩ (.int .u16 v6)).setCell ⟨ql,k*8+7,none⟩ (.slice A7 L.length c7)).heap[x]?=w7.heap[x]?:=λx hx=>by simp only[cC _ _ _ hx]
       have Yl:wr.grownBy ((((((((w7.setCell ⟨ql,k*8,none⟩ (.int .i64 v0)).setCell ⟨ql,k*8+1,none⟩ (.int .i64 v1)).setCell ⟨ql,k*8+2,none⟩ (.int .i64 v2)).setCell ⟨ql,k*8+3,none⟩ (.int .i64 v3)).setCell ⟨ql,k*8+4,none⟩ (.int .i64 v4)).setCell ⟨ql,k*8+5,none⟩ (.int .i64 v5)).setCell ⟨ql,k*8+6,none⟩ (.int .u16 v6)).setCell ⟨ql,k*8+7,none⟩ (.slice A7 L.length c7)) (some ql):=
        bD (p:=⟨ql,k*8+7,none⟩) (bD (p:=⟨ql,k*8+6,none⟩) (bD (p:=⟨ql,k*8+5,none⟩) (bD (p:=⟨ql,k*8+4,none⟩) (bD (p:=⟨ql,k*8+3,none⟩) (bD (p:=⟨ql,k*8+2,none⟩) (bD (p:=⟨ql,k*8+1,none⟩) (bD (p:=⟨ql,k*8,none⟩) (mP (row:=some ql) TX.out) (.inl rfl) _) (.inl rfl) _) (.inl rfl) _) (.inl rfl) _) (.inl rfl) _) (.inl rfl) _) (.inl rfl) _) (.inl rfl) _
       have Tc:=HA.out.buf.hi;have TY:=Lib.hid (HN.out.stepT (d1':=vwC (v0,v1,v2,v3,v4,v5,v6,L) (.slice A7 L.length c7)) HA.out Yl (by simpa[vwC]using Ut) (E3 (Uo.keep λb hb=>hset b (by have:=Yi b hb;omega))) Yh (λb hb=>by have:=Yi b hb;omega));clear Te Za Y1 Us Tf Tg Th Ut hset Yl Uo Yh Yi Wy
       go_wp2_with fail
       go_roundw
       case rel=>exact⟨k+1,by omega,by go_num,TY.out⟩
       case measure=>simp[intOf];omega
     ·have QA:k=T.length:=by omega
      subst QA;have j0:=HN.out.out.cell 0;have j1:=HN.out.out.cell 1;have r2:=HN.out.res.hi;have r0:=HN.out.res.cell 0;have r1:=HN.out.res.cell 1;have f0:=HN.out.res.free 0;have f1:=HN.out.res.free 1;simp only[List.getElem?_cons_zero,List.getElem?_cons_succ]at j0 j1 r0 r1;have ea:=Od.out;have eb:=RW.out;subst ea;subst eb;clear Od RW
      go_wp2_with fail
      refine bodyPost_ret (v:=.agg #[.slice A3 C.length c3,.slice A4 T.length c4]) (by simp[results,Try.results33,go_sem,r0,r1,r2]) rfl ?_;obtain⟨fp,o1,o2,o3⟩:=HN.out.rg;obtain⟨gp,p1,p2,p3⟩:=HN.out.ts.done UF;have LJ:=HN.out.hq;have Ly:=HN.out.hN;refine⟨_,_,fp,gp,rfl,o1.keep λb hb=>?_,p1.keep λb hb=>?_,List.nodup_append.2 ⟨o2,p2,λx hx y hy e=>?_⟩,λx hx=>?_,bD (bD HN.out.grown (.inr (Nat.le_succ _)) _) (.inr (Nat.le_succ _)) _⟩
      ·have h1:=(o3 b hb).1
       have h2:b≠w.heap.size+1:=by omega
       rw[cC _ _ _ h2,cC _ _ _ h2]
      ·have h1:=(p3 b hb).1
       have h2:b≠w.heap.size+1:=by omega
       rw[cC _ _ _ h2,cC _ _ _ h2]
      ·subst e
       rcases(p3 x hy).2 with h|h
       ·exact(o3 x hx).2.2 h
       ·have:=(o3 x hx).2.1;omega
      ·rcases List.mem_append.1 hx with h|h
       ·have:=(o3 x h).1;omega
       ·have:=(p3 x h).1;omega
set_option maxRecDepth 100000 in
set_option maxHeartbeats 4000000 in
theorem DM(F:Nat->Prop)(C:List (List Cn4))(T:List Vw8)(r i:Int)(cells:List Cn4)(v0 v1 v2 v3 v4 v5 v6:Int)(L:List Cn4)(U V Y Z:Value)(w:World)(fe:Int)
 (hu:RSl rCs w F C U)(hv:RSl rVw w F T V)(hy:RSl rCn w F cells Y)(hz:RSl rCn w F L Z)
 (ZS:∀w',w.grownBy w' none->Calls Try.prog 58 #[.agg #[U,V],.agg #[.int .i64 r,.int .i64 i]] w' λe w2=>e=.returned (.int .i64 fe)/\w'.grownBy w2 none)(hne:(fe != 0)=true):
 Calls Try.prog 37 #[.agg #[U,V],.agg #[.int .i64 r,.int .i64 i,Y,.int .i64 v0,.int .i64 v1,.int .i64 v2,.int .i64 v3,.int .i64 v4,.int .i64 v5,.int .u16 v6,Z]] w (λe w'=>e=.returned (.tuple #[.agg #[.slice none 0 0,.slice none 0 0],.int .i64 fe])/\w.grownBy w' none):=by
 have HU:=Lib.hid hu;have HV:=Lib.hid hv;have HY:=Lib.hid hy;have HZ:=Lib.hid hz;obtain⟨A1,c1,rfl,_,_,UB⟩:=hu.size_eq;obtain⟨A2,c2,rfl,_,_,UF⟩:=hv.size_eq;obtain⟨A3,c3,rfl,_,_,hcl⟩:=hy.size_eq;obtain⟨A4,c4,rfl,_,_,Wx⟩:=hz.size_eq;have HF:=Lib.hid ZS;clear hu hv hy hz ZS
 go_enter Try.func37,Try.ntmps37
 go_upto_region 1 with fail
 have Zm:w.grownBy (((w.alloc (.cells #[.slice A1 C.length c1,.slice A2 T.length c2] 31)).alloc (.cells #[.int .i64 r,.int .i64 i,.slice A3 cells.length c3,.int .i64 v0,.int .i64 v1,.int .i64 v2,.int .i64 v3,.int .i64 v4,.int .i64 v5,.int .u16 v6,.slice A4 L.length c4] 75)).alloc (.cells #[.slice none 0 0,.slice none 0 0] 31)) none:=bv (bv (bv (bx w none) _) _) _;have Z':Bk (((w.alloc (.cells #[.slice A1 C.length c1,.slice A2 T.length c2] 31)).alloc (.cells #[.int .i64 r,.int .i64 i,.slice A3 cells.length c3,.int .i64 v0,.int .i64 v1,.int .i64 v2,.int .i64 v3,.int .i64 v4,.int .i64 v5,.int .u16 v6,.slice A4 L.length c4] 75)).alloc (.cells #[.slice none 0 0,.slice none 0 0] 31)) w.heap.size 31 [.slice A1 C.length c1,.slice A2 T.length c2]:=(Bk.new.grow (bv (bx _ _) _)).grow (bv (bx _ _) _)
 have Z8:Bk (((w.alloc (.cells #[.slice A1 C.length c1,.slice A2 T.length c2] 31)).alloc (.cells #[.int .i64 r,.int .i64 i,.slice A3 cells.length c3,.int .i64 v0,.int .i64 v1,.int .i64 v2,.int .i64 v3,.int .i64 v4,.int .i64 v5,.int .u16 v6,.slice A4 L.length c4] 75)).alloc (.cells #[.slice none 0 0,.slice none 0 0] 31)) (w.heap.size+1) 75 [.int .i64 r,.int .i64 i,.slice A3 cells.length c3,.int .i64 v0,.int .i64 v1,.int .i64 v2,.int .i64 v3,.int .i64 v4,.int .i64 v5,.int .u16 v6,.slice A4 L.length c4]:=by
  have h:=(Bk.new (w:=w.alloc (.cells #[.slice A1 C.length c1,.slice A2 T.length c2] 31)) (t:=75) (vs:=[.int .i64 r,.int .i64 i,.slice A3 cells.length c3,.int .i64 v0,.int .i64 v1,.int .i64 v2,.int .i64 v3,.int .i64 v4,.int .i64 v5,.int .u16 v6,.slice A4 L.length c4])).grow (bv (bx _ _) (.cells #[.slice none 0 0,.slice none 0 0] 31));simpa using h
 have ZQ:Bk (((w.alloc (.cells #[.slice A1 C.length c1,.slice A2 T.length c2] 31)).alloc (.cells #[.int .i64 r,.int .i64 i,.slice A3 cells.length c3,.int .i64 v0,.int .i64 v1,.int .i64 v2,.int .i64 v3,.int .i64 v4,.int .i64 v5,.int .u16 v6,.slice A4 L.length c4] 75)).alloc (.cells #[.slice none 0 0,.slice none 0 0] 31)) (w.heap.size+2) 31 [.slice none 0 0,.slice none 0 0]:=by
  have h:=Bk.new (w:=(w.alloc (.cells #[.slice A1 C.length c1,.slice A2 T.length c2] 31)).alloc (.cells #[.int .i64 r,.int .i64 i,.slice A3 cells.length c3,.int .i64 v0,.int .i64 v1,.int .i64 v2,.int .i64 v3,.int .i64 v4,.int .i64 v5,.int .u16 v6,.slice A4 L.length c4] 75)) (t:=31) (vs:=[.slice none 0 0,.slice none 0 0]);simpa using h
 have hsz:(((w.alloc (.cells #[.slice A1 C.length c1,.slice A2 T.length c2] 31)).alloc (.cells #[.int .i64 r,.int .i64 i,.slice A3 cells.length c3,.int .i64 v0,.int .i64 v1,.int .i64 v2,.int .i64 v3,.int .i64 v4,.int .i64 v5,.int .u16 v6,.slice A4 L.length c4] 75)).alloc (.cells #[.slice none 0 0,.slice none 0 0] 31)).heap.size=w.heap.size+3:=by simp
 generalize((w.alloc (.cells #[.slice A1 C.length c1,.slice A2 T.length c2] 31)).alloc (.cells #[.int .i64 r,.int .i64 i,.slice A3 cells.length c3,.int .i64 v0,.int .i64 v1,.int .i64 v2,.int .i64 v3,.int .i64 v4,.int .i64 v5,.int .u16 v6,.slice A4 L.length c4] 75)).alloc (.cells #[.slice none 0 0,.slice none 0 0] 31)=W at *;have Xs:=Z'.cell 0;have Xt:=Z'.cell 1;have Xu:=Z8.cell 0;have Xv:=Z8.cell 1;simp only[List.getElem?_cons_zero,List.getElem?_cons_succ]at Xs Xt Xu Xv
 go_wp2_with fail
 refine(HF.out W Zm).mono ?_;rintro e w1 ⟨rfl,Z1⟩;have XK:=Lib.hid (bC Zm Z1);have Za:=Z1.size;have Z':=Z'.grow Z1;have Z8:=Z8.grow Z1;have ZQ:=ZQ.grow Z1;have Xj:=Z'.cell 0;have Xk:=Z'.cell 1;have XG:=Z8.cell 0;have XH:=Z8.cell 1;have XI:=Z8.cell 2;have WY:=Z8.cell 3;have WZ:=Z8.cell 4;have W1:=Z8.cell 5;have W2:=Z8.cell 6;have W4:=Z8.cell 7;have W5:=Z8.cell 8;have W7:=Z8.cell 9;have YQ:=Z8.cell 10;have Yt:=ZQ.cell 0;have Yu:=ZQ.cell 1;have VI:=ZQ.free 0;have VJ:=ZQ.free 1;have q4:=ZQ.hi;simp only[List.getElem?_cons_zero,List.getElem?_cons_succ]at Xj Xk XG XH XI WY WZ W1 W2 W4 W5 W7 YQ Yt Yu;have WH:=Lib.hid Z';have Zc:=Lib.hid Z8;have Ww:=Lib.hid ZQ;have HS:=Lib.hid hsz;clear Z' Z8 ZQ Zm Z1 HF Xs Xt Xu Xv
 go_wp2_with fail
 refine bodyPost_ret (v:=.tuple #[.agg #[.slice none 0 0,.slice none 0 0],.int .i64 fe]) (by simp[results,Try.results37,go_sem,Yt,Yu,q4]) rfl ?_;exact⟨rfl,bD (bD XK.out (.inr (by dsimp only;omega)) _) (.inr (by dsimp only;omega)) _⟩
set_option maxRecDepth 100000 in
set_option maxHeartbeats 4000000 in
theorem Bi(F:Nat->Prop)(C:List (List Cn4))(T:List Vw8)(r i:Int)(cells:List Cn4)(v0 v1 v2 v3 v4 v5 v6:Int)(L:List Cn4)(U V Y Z:Value)(w:World)(fe:Int)
 (hu:RSl rCs w F C U)(hv:RSl rVw w F T V)(hy:RSl rCn w F cells Y)(hz:RSl rCn w F L Z)
 (ZS:∀w',w.grownBy w' none->Calls Try.prog 58 #[.agg #[U,V],.agg #[.int .i64 r,.int .i64 i]] w' λe w2=>e=.returned (.int .i64 fe)/\w'.grownBy w2 none)(h0:fe=0)(hr:r=-1)(hc:0<cells.length):
 Calls Try.prog 37 #[.agg #[U,V],.agg #[.int .i64 r,.int .i64 i,Y,.int .i64 v0,.int .i64 v1,.int .i64 v2,.int .i64 v3,.int .i64 v4,.int .i64 v5,.int .u16 v6,Z]] w (λe w'=>e=.returned (.tuple #[.agg #[.slice none 0 0,.slice none 0 0],.int .i64 5])/\w.grownBy w' none):=by
 subst h0;subst hr;have HU:=Lib.hid hu;have HV:=Lib.hid hv;have HY:=Lib.hid hy;have HZ:=Lib.hid hz;obtain⟨A1,c1,rfl,_,_,UB⟩:=hu.size_eq;obtain⟨A2,c2,rfl,_,_,UF⟩:=hv.size_eq;obtain⟨A3,c3,rfl,_,_,hcl⟩:=hy.size_eq;obtain⟨A4,c4,rfl,_,_,Wx⟩:=hz.size_eq;have HF:=Lib.hid ZS;clear hu hv hy hz ZS
 go_enter Try.func37,Try.ntmps37
 go_upto_region 1 with fail
 have Zm:w.grownBy (((w.alloc (.cells #[.slice A1 C.length c1,.slice A2 T.length c2] 31)).alloc (.cells #[.int .i64 (-1),.int .i64 i,.slice A3 cells.length c3,.int .i64 v0,.int .i64 v1,.int .i64 v2,.int .i64 v3,.int .i64 v4,.int .i64 v5,.int .u16 v6,.slice A4 L.length c4] 75)).alloc (.cells #[.slice none 0 0,.slice none 0 0] 31)) none:=bv (bv (bv (bx w none) _) _) _;have Z':Bk (((w.alloc (.cells #[.slice A1 C.length c1,.slice A2 T.length c2] 31)).alloc (.cells #[.int .i64 (-1),.int .i64 i,.slice A3 cells.length c3,.int .i64 v0,.int .i64 v1,.int .i64 v2,.int .i64 v3,.int .i64 v4,.int .i64 v5,.int .u16 v6,.slice A4 L.length c4] 75)).alloc (.cells #[.slice none 0 0,.slice none 0 0] 31)) w.heap.size 31 [.slice A1 C.length c1,.slice A2 T.length c2]:=(Bk.new.grow (bv (bx _ _) _)).grow (bv (bx _ _) _)
 have Z8:Bk (((w.alloc (.cells #[.slice A1 C.length c1,.slice A2 T.length c2] 31)).alloc (.cells #[.int .i64 (-1),.int .i64 i,.slice A3 cells.length c3,.int .i64 v0,.int .i64 v1,.int .i64 v2,.int .i64 v3,.int .i64 v4,.int .i64 v5,.int .u16 v6,.slice A4 L.length c4] 75)).alloc (.cells #[.slice none 0 0,.slice none 0 0] 31)) (w.heap.size+1) 75 [.int .i64 (-1),.int .i64 i,.slice A3 cells.length c3,.int .i64 v0,.int .i64 v1,.int .i64 v2,.int .i64 v3,.int .i64 v4,.int .i64 v5,.int .u16 v6,.slice A4 L.length c4]:=by
  have h:=(Bk.new (w:=w.alloc (.cells #[.slice A1 C.length c1,.slice A2 T.length c2] 31)) (t:=75) (vs:=[.int .i64 (-1),.int .i64 i,.slice A3 cells.length c3,.int .i64 v0,.int .i64 v1,.int .i64 v2,.int .i64 v3,.int .i64 v4,.int .i64 v5,.int .u16 v6,.slice A4 L.length c4])).grow (bv (bx _ _) (.cells #[.slice none 0 0,.slice none 0 0] 31));simpa using h
 have ZQ:Bk (((w.alloc (.cells #[.slice A1 C.length c1,.slice A2 T.length c2] 31)).alloc (.cells #[.int .i64 (-1),.int .i64 i,.slice A3 cells.length c3,.int .i64 v0,.int .i64 v1,.int .i64 v2,.int .i64 v3,.int .i64 v4,.int .i64 v5,.int .u16 v6,.slice A4 L.length c4] 75)).alloc (.cells #[.slice none 0 0,.slice none 0 0] 31)) (w.heap.size+2) 31 [.slice none 0 0,.slice none 0 0]:=by
  have h:=Bk.new (w:=(w.alloc (.cells #[.slice A1 C.length c1,.slice A2 T.length c2] 31)).alloc (.cells #[.int .i64 (-1),.int .i64 i,.slice A3 cells.length c3,.int .i64 v0,.int .i64 v1,.int .i64 v2,.int .i64 v3,.int .i64 v4,.int .i64 v5,.int .u16 v6,.slice A4 L.length c4] 75)) (t:=31) (vs:=[.slice none 0 0,.slice none 0 0]);simpa using h
 have hsz:(((w.alloc (.cells #[.slice A1 C.length c1,.slice A2 T.length c2] 31)).alloc (.cells #[.int .i64 (-1),.int .i64 i,.slice A3 cells.length c3,.int .i64 v0,.int .i64 v1,.int .i64 v2,.int .i64 v3,.int .i64 v4,.int .i64 v5,.int .u16 v6,.slice A4 L.length c4] 75)).alloc (.cells #[.slice none 0 0,.slice none 0 0] 31)).heap.size=w.heap.size+3:=by simp
 generalize((w.alloc (.cells #[.slice A1 C.length c1,.slice A2 T.length c2] 31)).alloc (.cells #[.int .i64 (-1),.int .i64 i,.slice A3 cells.length c3,.int .i64 v0,.int .i64 v1,.int .i64 v2,.int .i64 v3,.int .i64 v4,.int .i64 v5,.int .u16 v6,.slice A4 L.length c4] 75)).alloc (.cells #[.slice none 0 0,.slice none 0 0] 31)=W at *;have Xs:=Z'.cell 0;have Xt:=Z'.cell 1;have Xu:=Z8.cell 0;have Xv:=Z8.cell 1;simp only[List.getElem?_cons_zero,List.getElem?_cons_succ]at Xs Xt Xu Xv
 go_wp2_with fail
 refine(HF.out W Zm).mono ?_;rintro e w1 ⟨rfl,Z1⟩;have XK:=Lib.hid (bC Zm Z1);have Za:=Z1.size;have Z':=Z'.grow Z1;have Z8:=Z8.grow Z1;have ZQ:=ZQ.grow Z1;have Xj:=Z'.cell 0;have Xk:=Z'.cell 1;have XG:=Z8.cell 0;have XH:=Z8.cell 1;have XI:=Z8.cell 2;have WY:=Z8.cell 3;have WZ:=Z8.cell 4;have W1:=Z8.cell 5;have W2:=Z8.cell 6;have W4:=Z8.cell 7;have W5:=Z8.cell 8;have W7:=Z8.cell 9;have YQ:=Z8.cell 10;have Yt:=ZQ.cell 0;have Yu:=ZQ.cell 1;have VI:=ZQ.free 0;have VJ:=ZQ.free 1;have q4:=ZQ.hi;simp only[List.getElem?_cons_zero,List.getElem?_cons_succ]at Xj Xk XG XH XI WY WZ W1 W2 W4 W5 W7 YQ Yt Yu;have WH:=Lib.hid Z';have Zc:=Lib.hid Z8;have Ww:=Lib.hid ZQ;have HS:=Lib.hid hsz;clear Z' Z8 ZQ Zm Z1 HF Xs Xt Xu Xv
 have Xa:(0:Int)<(cells.length:Int):=by omega
 go_wp2_with fail
 refine bodyPost_ret (v:=.tuple #[.agg #[.slice none 0 0,.slice none 0 0],.int .i64 5]) (by simp[results,Try.results37,go_sem,Yt,Yu,q4]) rfl ?_;exact⟨rfl,bD (bD XK.out (.inr (by dsimp only;omega)) _) (.inr (by dsimp only;omega)) _⟩
structure Hx (C:List (List Cn4))(T:List Vw8)(w:World)(q7:Nat)(a b:Value)(wx:World):Prop where
 grown:w.grownBy wx none
 res:Bk wx (w.heap.size+1+1) 31 [.slice none 0 0,.slice none 0 0]
 st:Bk wx q7 31 [a,b]
 ra:RSl rCs wx (λk=>w.heap.size+3<=k) C a
 rb:RSl rVw wx (λk=>w.heap.size+3<=k) T b
def yI(C:List (List Cn4))(T:List Vw8)(w:World)(e:Ending)(w':World):Prop:=
 ∃a b,e=.returned (.tuple #[.agg #[a,b],.int .i64 0])/\RSl rCs w' (λk=>w.heap.size<=k) C a/\RSl rVw w' (λk=>w.heap.size<=k) T b/\w.grownBy w' none
theorem Hx.ret{C:List (List Cn4)}{T:List Vw8}{w wx:World}{q7:Nat}{a b x y:Value}(h:Hx C T w q7 a b wx):yI C T w (.returned (.tuple #[.agg #[a,b],.int .i64 0])) ((wx.setCell ⟨w.heap.size+1+1,0,none⟩ x).setCell ⟨w.heap.size+1+1,1,none⟩ y):=by
 have hk:∀k,w.heap.size+3<=k->((wx.setCell ⟨w.heap.size+1+1,0,none⟩ x).setCell ⟨w.heap.size+1+1,1,none⟩ y).heap[k]?=wx.heap[k]?:=λk hk=>by
  have h2:k≠w.heap.size+1+1:=by omega
  rw[cC _ _ _ h2,cC _ _ _ h2]
 refine⟨a,b,rfl,(h.ra.keep hk).sub λk hk=>by omega,(h.rb.keep hk).sub λk hk=>by omega,bD (bD h.grown (.inr (by dsimp only;omega)) _) (.inr (by dsimp only;omega)) _⟩
set_option maxRecDepth 100000 in
set_option maxHeartbeats 4000000 in
theorem ze(F:Nat->Prop)(C:List (List Cn4))(T:List Vw8)(j:Nat)(cells:List Cn4)(v0 v1 v2 v3 v4 v5 v6:Int)(L:List Cn4)(U V Y Z:Value)(w:World)(fe:Int)
 (hu:RSl rCs w F C U)(hv:RSl rVw w F T V)(hy:RSl rCn w F cells Y)(hz:RSl rCn w F L Z)
 (ZS:∀w',w.grownBy w' none->Calls Try.prog 58 #[.agg #[U,V],.agg #[.int .i64 (-1),.int .i64 j]] w' λe w2=>e=.returned (.int .i64 fe)/\w'.grownBy w2 none)(h0:fe=0)(hc:cells.length=0)(hj:j<T.length):
 Calls Try.prog 37 #[.agg #[U,V],.agg #[.int .i64 (-1),.int .i64 j,Y,.int .i64 v0,.int .i64 v1,.int .i64 v2,.int .i64 v3,.int .i64 v4,.int .i64 v5,.int .u16 v6,Z]] w (yI C (T.set j (v0,v1,v2,v3,v4,v5,v6,L)) w):=by
 subst h0;have Hc:=Lib.hid hc;clear hc;have HU:=Lib.hid hu;have HV:=Lib.hid hv;have HY:=Lib.hid hy;have HZ:=Lib.hid hz;obtain⟨A1,c1,rfl,_,_,UB⟩:=hu.size_eq;obtain⟨A2,c2,rfl,_,_,UF⟩:=hv.size_eq;obtain⟨A3,c3,rfl,_,_,hcl⟩:=hy.size_eq;obtain⟨A4,c4,rfl,_,_,Wx⟩:=hz.size_eq;have HF:=Lib.hid ZS;clear hu hv hy hz ZS
 go_enter Try.func37,Try.ntmps37
 go_upto_region 1 with fail
 have Zm:w.grownBy (((w.alloc (.cells #[.slice A1 C.length c1,.slice A2 T.length c2] 31)).alloc (.cells #[.int .i64 (-1),.int .i64 j,.slice A3 cells.length c3,.int .i64 v0,.int .i64 v1,.int .i64 v2,.int .i64 v3,.int .i64 v4,.int .i64 v5,.int .u16 v6,.slice A4 L.length c4] 75)).alloc (.cells #[.slice none 0 0,.slice none 0 0] 31)) none:=bv (bv (bv (bx w none) _) _) _;have Z':Bk (((w.alloc (.cells #[.slice A1 C.length c1,.slice A2 T.length c2] 31)).alloc (.cells #[.int .i64 (-1),.int .i64 j,.slice A3 cells.length c3,.int .i64 v0,.int .i64 v1,.int .i64 v2,.int .i64 v3,.int .i64 v4,.int .i64 v5,.int .u16 v6,.slice A4 L.length c4] 75)).alloc (.cells #[.slice none 0 0,.slice none 0 0] 31)) w.heap.size 31 [.slice A1 C.length c1,.slice A2 T.length c2]:=(Bk.new.grow (bv (bx _ _) _)).grow (bv (bx _ _) _)
 have Z8:Bk (((w.alloc (.cells #[.slice A1 C.length c1,.slice A2 T.length c2] 31)).alloc (.cells #[.int .i64 (-1),.int .i64 j,.slice A3 cells.length c3,.int .i64 v0,.int .i64 v1,.int .i64 v2,.int .i64 v3,.int .i64 v4,.int .i64 v5,.int .u16 v6,.slice A4 L.length c4] 75)).alloc (.cells #[.slice none 0 0,.slice none 0 0] 31)) (w.heap.size+1) 75 [.int .i64 (-1),.int .i64 j,.slice A3 cells.length c3,.int .i64 v0,.int .i64 v1,.int .i64 v2,.int .i64 v3,.int .i64 v4,.int .i64 v5,.int .u16 v6,.slice A4 L.length c4]:=by
  have h:=(Bk.new (w:=w.alloc (.cells #[.slice A1 C.length c1,.slice A2 T.length c2] 31)) (t:=75) (vs:=[.int .i64 (-1),.int .i64 j,.slice A3 cells.length c3,.int .i64 v0,.int .i64 v1,.int .i64 v2,.int .i64 v3,.int .i64 v4,.int .i64 v5,.int .u16 v6,.slice A4 L.length c4])).grow (bv (bx _ _) (.cells #[.slice none 0 0,.slice none 0 0] 31));simpa using h
 have ZQ:Bk (((w.alloc (.cells #[.slice A1 C.length c1,.slice A2 T.length c2] 31)).alloc (.cells #[.int .i64 (-1),.int .i64 j,.slice A3 cells.length c3,.int .i64 v0,.int .i64 v1,.int .i64 v2,.int .i64 v3,.int .i64 v4,.int .i64 v5,.int .u16 v6,.slice A4 L.length c4] 75)).alloc (.cells #[.slice none 0 0,.slice none 0 0] 31)) (w.heap.size+2) 31 [.slice none 0 0,.slice none 0 0]:=by
  have h:=Bk.new (w:=(w.alloc (.cells #[.slice A1 C.length c1,.slice A2 T.length c2] 31)).alloc (.cells #[.int .i64 (-1),.int .i64 j,.slice A3 cells.length c3,.int .i64 v0,.int .i64 v1,.int .i64 v2,.int .i64 v3,.int .i64 v4,.int .i64 v5,.int .u16 v6,.slice A4 L.length c4] 75)) (t:=31) (vs:=[.slice none 0 0,.slice none 0 0]);simpa using h
 have hsz:(((w.alloc (.cells #[.slice A1 C.length c1,.slice A2 T.length c2] 31)).alloc (.cells #[.int .i64 (-1),.int .i64 j,.slice A3 cells.length c3,.int .i64 v0,.int .i64 v1,.int .i64 v2,.int .i64 v3,.int .i64 v4,.int .i64 v5,.int .u16 v6,.slice A4 L.length c4] 75)).alloc (.cells #[.slice none 0 0,.slice none 0 0] 31)).heap.size=w.heap.size+3:=by simp
 generalize((w.alloc (.cells #[.slice A1 C.length c1,.slice A2 T.length c2] 31)).alloc (.cells #[.int .i64 (-1),.int .i64 j,.slice A3 cells.length c3,.int .i64 v0,.int .i64 v1,.int .i64 v2,.int .i64 v3,.int .i64 v4,.int .i64 v5,.int .u16 v6,.slice A4 L.length c4] 75)).alloc (.cells #[.slice none 0 0,.slice none 0 0] 31)=W at *;have Xs:=Z'.cell 0;have Xt:=Z'.cell 1;have Xu:=Z8.cell 0;have Xv:=Z8.cell 1;simp only[List.getElem?_cons_zero,List.getElem?_cons_succ]at Xs Xt Xu Xv
 go_wp2_with fail
 refine(HF.out W Zm).mono ?_;rintro e w1 ⟨rfl,Z1⟩;have XK:=Lib.hid (bC Zm Z1);have Za:=Z1.size;have Z':=Z'.grow Z1;have Z8:=Z8.grow Z1;have ZQ:=ZQ.grow Z1;have Xj:=Z'.cell 0;have Xk:=Z'.cell 1;have XG:=Z8.cell 0;have XH:=Z8.cell 1;have XI:=Z8.cell 2;have WY:=Z8.cell 3;have WZ:=Z8.cell 4;have W1:=Z8.cell 5;have W2:=Z8.cell 6;have W4:=Z8.cell 7;have W5:=Z8.cell 8;have W7:=Z8.cell 9;have YQ:=Z8.cell 10;have Yt:=ZQ.cell 0;have Yu:=ZQ.cell 1;have VI:=ZQ.free 0;have VJ:=ZQ.free 1;have q4:=ZQ.hi;simp only[List.getElem?_cons_zero,List.getElem?_cons_succ]at Xj Xk XG XH XI WY WZ W1 W2 W4 W5 W7 YQ Yt Yu;have WH:=Lib.hid Z';have Zc:=Lib.hid Z8;have Ww:=Lib.hid ZQ;have HS:=Lib.hid hsz;clear Z' Z8 ZQ Zm Z1 HF Xs Xt Xu Xv
 have Xa:¬(0:Int)<(cells.length:Int):=by have:=Hc.out;omega
 go_wp2_with fail
 refine(kx F C T _ _ w1 (HU.out.grow XK.out) (HV.out.grow XK.out)).mono ?_;rintro e w2 ⟨a,b,fp,gp,rfl,oa,ob,ZR,YB,ZJ⟩;obtain⟨A5,c5,rfl⟩:=oa.shape;have L1:=Lib.hid ob;obtain⟨hb,⟨e1,e2,_⟩|⟨ql,cl,cs,g,rfl,e2,l1,l2,hV,hO⟩⟩:=ob
 ·rw[e2]at hj;cases hj
 obtain⟨g1,g2,g3,d1,d2,d3,e3,e4,l3,o1,o2,o3⟩:=hO.split hj;have hd2:=rVw.len (rVw.reads o2)
 obtain⟨x0,x1,x2,x3,x4,x5,x6,x7,rfl⟩:∃x0 x1 x2 x3 x4 x5 x6 x7,d2=[x0,x1,x2,x3,x4,x5,x6,x7]:=by
  match d2,hd2 with
  | [x0,x1,x2,x3,x4,x5,x6,x7],_=>exact⟨_,_,_,_,_,_,_,_,rfl⟩
 have XL:w2.grownBy (w2.alloc (.cells #[.slice A5 C.length c5,.slice (some ⟨ql,0,none⟩) T.length cl] 31)) none:=bv (bx _ _) _;have T8:Bk (w2.alloc (.cells #[.slice A5 C.length c5,.slice (some ⟨ql,0,none⟩) T.length cl] 31)) w2.heap.size 31 [.slice A5 C.length c5,.slice (some ⟨ql,0,none⟩) T.length cl]:=Bk.new;have TM:=bC (bC XK.out ZJ) XL;have Z8:=(Zc.out.grow ZJ).grow XL;have Y1:=ZJ.size;have QQ:=YB ql (by rw[e2];simp);have Tc:=hV.hi;have Pu:=Lib.hid (And.intro ZR (And.intro YB (And.intro e2 (And.intro e3 (And.intro o1 (And.intro o3 oa))))));rw[e4]at hV;have Vx:=Lib.hid (hV.grow XL);have HL:=Lib.hid (show d1.length=j*8 from l3);have RV:=Lib.hid TM;have WI:=Lib.hid (bC ZJ XL);have VF:=Lib.hid XL;clear Xj Xk XG XH XI WY WZ W1 W2 W4 W5 W7 YQ Yt Yu VI VJ ZR YB e3 e4 o1 o2 o3 oa hd2 l3 hO hV hb
 go_upto_region 8 with fail
 generalize w2.alloc (.cells #[.slice A5 C.length c5,.slice (some ⟨ql,0,none⟩) T.length cl] 31)=W3 at *;generalize hq7:w2.heap.size=q7 at *;have Zc:=Lib.hid Z8;have Rt:=Lib.hid T8;have m1:=T8.cell 1;have XG:=Z8.cell 0;have XH:=Z8.cell 1;have XI:=Z8.cell 2;have WY:=Z8.cell 3;have WZ:=Z8.cell 4;have W1:=Z8.cell 5;have W2:=Z8.cell 6;have W4:=Z8.cell 7;have W5:=Z8.cell 8;have W7:=Z8.cell 9;have YQ:=Z8.cell 10;simp only[List.getElem?_cons_zero,List.getElem?_cons_succ]at m1 XG XH XI WY WZ W1 W2 W4 W5 W7 YQ
 have LU:(0:Int)<=(j:Int):=by omega
 have LV:(j:Int)<(T.length:Int):=by omega
 have LY:(j:Int).toNat=j:=by omega
 have HC:=Lib.hid (show ∀(w':World),W3.grownBy w' none->∀n,n<8->w'.cell? ⟨ql,j*8+n,none⟩=some ([x0,x1,x2,x3,x4,x5,x6,x7].getD n undef)from λw' hg n hn=>by
  have h:=(Vx.out.grow hg);rw[List.append_assoc]at h
  have h2:=h.mid (j:=n) (u:=[x0,x1,x2,x3,x4,x5,x6,x7].getD n undef) (by
   rw[List.getElem?_append_left (by simpa using hn)]
   have WA:n=0\/n=1\/n=2\/n=3\/n=4\/n=5\/n=6\/n=7:=by omega
   rcases WA with rfl|rfl|rfl|rfl|rfl|rfl|rfl|rfl<;>rfl)
  rw[HL.out]at h2
  exact h2)
 clear Z8 T8 XL TM
 go_cut []from 28 to 37 (λwx=>Hx C (T.set j (v0,v1,v2,v3,v4,v5,v6,L)) w q7 (.slice A5 C.length c5) (.slice (some ⟨ql,0,none⟩) T.length cl) wx)
 case first=>
  go_region_with (go_at_call 56;refine(mW F v0 v1 v2 v3 v4 v5 v6 L _ _ ((HZ.out.grow RV.out).grow (dG (bx _ _)))).mono ?_;rintro e w4 ⟨z,rfl,QE,YZ⟩;obtain⟨A7,c7,rfl⟩:=QE.shape;have YZ:=bC (dG (bx W3 none)) YZ;have n1:=(Rt.out.grow YZ).cell 1;have n3:=(Zc.out.grow YZ).cell 1;simp only[List.getElem?_cons_zero,List.getElem?_cons_succ]at n1 n3;have o0:=HC.out w4 YZ 0 (by decide);have o1:=HC.out w4 YZ 1 (by decide);have o2:=HC.out w4 YZ 2 (by decide);have o3:=HC.out w4 YZ 3 (by decide);have o4:=HC.out w4 YZ 4 (by decide);have o5:=HC.out w4 YZ 5 (by decide);have o6:=HC.out w4 YZ 6 (by decide);have o7:=HC.out w4 YZ 7 (by decide);have z0:=(Vx.out.grow YZ).free (j*8);have z1:=(Vx.out.grow YZ).free (j*8+1);have z2:=(Vx.out.grow YZ).free (j*8+2);have z3:=(Vx.out.grow YZ).free (j*8+3);have z4:=(Vx.out.grow YZ).free (j*8+4);have z5:=(Vx.out.grow YZ).free (j*8+5);have z6:=(Vx.out.grow YZ).free (j*8+6);have z7:=(Vx.out.grow YZ).free (j*8+7);simp only[List.getD_cons_zero,List.getD_cons_succ,Nat.add_zero]at o0 o1 o2 o3 o4 o5 o6 o7;have Pr:=Lib.hid YZ;have L0:=Lib.hid QE;clear QE YZ)
  all_goals
   have YZ:=Pr.out;obtain⟨zp,Uo,Yh,Yi⟩:=L0.out.done
   replace Yi:∀b,b∈zp->W3.heap.size<=b:=λb hb=>by
    have h1:W3.heap.size+2<=b:=Yi b hb;omega
   obtain⟨ZR,YB,e2,e3,Pm,Pn,oa⟩:=Pu.out;have Wy:=Vx.out.grow YZ;rw[List.append_assoc]at Wy;have Te:=Wy.setmid (j:=0) (by simp) (.int .i64 v0);have Za:=Te.setmid (j:=1) (by simp) (.int .i64 v1);have Y1:=Za.setmid (j:=2) (by simp) (.int .i64 v2);have Us:=Y1.setmid (j:=3) (by simp) (.int .i64 v3);have Tf:=Us.setmid (j:=4) (by simp) (.int .i64 v4);have Tg:=Tf.setmid (j:=5) (by simp) (.int .i64 v5);have Th:=Tg.setmid (j:=6) (by simp) (.int .u16 v6);have Ut:=Th.setmid (j:=7) (by simp) (.slice A7 L.length c7);simp only[HL.out,Nat.add_zero,List.cons_append,List.nil_append,List.set_cons_zero,List.set_cons_succ]at Ut
   have hset:∀x,x≠ql->((((((((w4.setCell ⟨ql,j*8,none⟩ (.int .i64 v0)).setCell ⟨ql,j*8+1,none⟩ (.int .i64 v1)).setCell ⟨ql,j*8+2,none⟩ (.int .i64 v2)).setCell ⟨ql,j*8+3,none⟩ (.int .i64 v3)).setCell ⟨ql,j*8+4,none⟩ (.int .i64 v4)).setCell ⟨ql,j*8+5,none⟩ (.int .i64 v5)).setCell ⟨ql,j*8+6,none⟩ (.int .u16 v6)).setCell ⟨ql,j*8+7,none⟩ (.slice A7 L.length c7)).heap[x]?=w4.heap[x]?:=λx hx=>by simp only[cC _ _ _ hx]
   have Yl:W3.grownBy ((((((((w4.setCell ⟨ql,j*8,none⟩ (.int .i64 v0)).setCell ⟨ql,j*8+1,none⟩ (.int .i64 v1)).setCell ⟨ql,j*8+2,none⟩ (.int .i64 v2)).setCell ⟨ql,j*8+3,none⟩ (.int .i64 v3)).setCell ⟨ql,j*8+4,none⟩ (.int .i64 v4)).setCell ⟨ql,j*8+5,none⟩ (.int .i64 v5)).setCell ⟨ql,j*8+6,none⟩ (.int .u16 v6)).setCell ⟨ql,j*8+7,none⟩ (.slice A7 L.length c7)) (some ql):=(bD (p:=⟨ql,j*8+7,none⟩) (bD (p:=⟨ql,j*8+6,none⟩) (bD (p:=⟨ql,j*8+5,none⟩) (bD (p:=⟨ql,j*8+4,none⟩) (bD (p:=⟨ql,j*8+3,none⟩) (bD (p:=⟨ql,j*8+2,none⟩) (bD (p:=⟨ql,j*8+1,none⟩) (bD (p:=⟨ql,j*8,none⟩) (mP (row:=some ql) YZ) (.inl rfl) _) (.inl rfl) _) (.inl rfl) _) (.inl rfl) _) (.inl rfl) _) (.inl rfl) _) (.inl rfl) _) (.inl rfl) _);have LL:=Pr.out.size;have Vb:=WI.out.size;have Qq:=VF.out.size;have Qj:∀x,x∈fp->x≠ql:=λx hx e=>(List.nodup_append.1 ZR).2.2 x hx ql (by rw[e2];simp) e
   have RG:(ql::(g1++g2++g3)).Nodup:=by
    have:=(List.nodup_append.1 ZR).2.1;rw[e2,e3]at this;exact this
   have RF:∀x,x∈g1++g2++g3->x≠ql/\x<W3.heap.size:=λx hx=>⟨λe=>(List.nodup_cons.1 RG).1 (e▸hx),by
    have h1:x∈gp:=by rw[e2,e3];exact List.mem_cons_of_mem _ hx
    have h2:=L1.out.live x h1
    omega⟩
   have Yp:∀x,x<w2.heap.size->x≠ql->((((((((w4.setCell ⟨ql,j*8,none⟩ (.int .i64 v0)).setCell ⟨ql,j*8+1,none⟩ (.int .i64 v1)).setCell ⟨ql,j*8+2,none⟩ (.int .i64 v2)).setCell ⟨ql,j*8+3,none⟩ (.int .i64 v3)).setCell ⟨ql,j*8+4,none⟩ (.int .i64 v4)).setCell ⟨ql,j*8+5,none⟩ (.int .i64 v5)).setCell ⟨ql,j*8+6,none⟩ (.int .u16 v6)).setCell ⟨ql,j*8+7,none⟩ (.slice A7 L.length c7)).heap[x]?=w2.heap[x]?:=λx h1 h2=>by
    rw[hset x h2,Pr.out.block x (by omega) (by simp),VF.out.block x h1 (by simp)]
   have TY:=Lib.hid (show Hx C (T.set j (v0,v1,v2,v3,v4,v5,v6,L)) w q7 (.slice A5 C.length c5) (.slice (some ⟨ql,0,none⟩) T.length cl) ((((((((w4.setCell ⟨ql,j*8,none⟩ (.int .i64 v0)).setCell ⟨ql,j*8+1,none⟩ (.int .i64 v1)).setCell ⟨ql,j*8+2,none⟩ (.int .i64 v2)).setCell ⟨ql,j*8+3,none⟩ (.int .i64 v3)).setCell ⟨ql,j*8+4,none⟩ (.int .i64 v4)).setCell ⟨ql,j*8+5,none⟩ (.int .i64 v5)).setCell ⟨ql,j*8+6,none⟩ (.int .u16 v6)).setCell ⟨ql,j*8+7,none⟩ (.slice A7 L.length c7))from by
    have Nz:=HS.out;have Vh:∀x,x∈gp->w1.heap.size+2<=x:=λx hx=>YB x (List.mem_append_right _ hx)
    have hin:∀x,x∈g1++g2++g3->x∈gp:=λx hx=>by rw[e2,e3];exact List.mem_cons_of_mem _ hx
    refine⟨ig RV.out Yl λk e=>by injection e with e;omega,((Ww.out.grow WI.out).grow YZ).keep (hset _ (by omega)),(Rt.out.grow YZ).keep (hset _ (by omega)),?_,?_⟩
    ·exact((oa.keep λx hx=>Yp x (by have:=oa.live x hx;omega) (Qj x hx)).reads).sub λx hx=>by have:=YB x (List.mem_append_left _ hx);omega
    ·have hown:OSl rVw 62 (((((((((w4.setCell ⟨ql,j*8,none⟩ (.int .i64 v0)).setCell ⟨ql,j*8+1,none⟩ (.int .i64 v1)).setCell ⟨ql,j*8+2,none⟩ (.int .i64 v2)).setCell ⟨ql,j*8+3,none⟩ (.int .i64 v3)).setCell ⟨ql,j*8+4,none⟩ (.int .i64 v4)).setCell ⟨ql,j*8+5,none⟩ (.int .i64 v5)).setCell ⟨ql,j*8+6,none⟩ (.int .u16 v6)).setCell ⟨ql,j*8+7,none⟩ (.slice A7 L.length c7))) (ql::(g1++zp++g3)) (T.set j (v0,v1,v2,v3,v4,v5,v6,L)) (.slice (some ⟨ql,0,none⟩) T.length cl):=by
      refine⟨by rw[List.length_set];exact UF,.inr ⟨ql,cl,d1++vwC (v0,v1,v2,v3,v4,v5,v6,L) (.slice A7 L.length c7)++d3,g1++zp++g3,by rw[List.length_set],rfl,by rw[List.length_set];exact l1,l2,by simpa[vwC]using Ut,iv.join hj (Pm.keep λx hx=>Yp x (by have:=Pm.live x hx;omega) (RF x (by simp[hx])).1) (E3 (Uo.keep λx hx=>hset x (by have:=Yi x hx;omega))) (Pn.keep λx hx=>Yp x (by have:=Pn.live x hx;omega) (RF x (by simp[hx])).1)⟩⟩
     exact hown.reads.sub λx hx=>by
      rcases List.mem_cons.1 hx with rfl|hx
      ·omega
      ·rcases List.mem_append.1 hx with hx|hx
       ·rcases List.mem_append.1 hx with hx|hx
        ·have:=Vh x (hin x (by simp[hx]));omega
        ·have:=Yi x hx;omega
       ·have:=Vh x (hin x (by simp[hx]));omega)
   clear Te Za Y1 Us Tf Tg Th Ut hset Yl Uo Yh Yi Wy
   go_wp2_with fail
   go_meet
   exact TY.out
 case rest=>
  have HD:=Lib.hid hcut;have j0:=hcut.st.cell 0;have j1:=hcut.st.cell 1;have r0:=hcut.res.cell 0;have r1:=hcut.res.cell 1;have f0:=hcut.res.free 0;have f1:=hcut.res.free 1;have r2:=hcut.res.hi;simp only[List.getElem?_cons_zero,List.getElem?_cons_succ]at j0 j1 r0 r1;clear hcut m1
  go_wp2_with fail
  refine bodyPost_ret (v:=.tuple #[.agg #[.slice A5 C.length c5,.slice (some ⟨ql,0,none⟩) T.length cl],.int .i64 0]) (by simp[results,Try.results37,go_sem,r0,r1,r2]) rfl ?_;exact HD.out.ret
def yJ(v:Value)(w:World)(e:Ending)(w':World):Prop:=e=.returned v/\w.grownBy w' none
theorem IY(A:Option Addr)(n c:Nat)(i:Int)(w:World)(h:32<i):Calls Try.prog 60 #[.slice A n c,.int .i64 i] w (yJ (.slice none 0 0) w):=by
 have h0:¬i<0:=by omega
 go_enter Try.func60,Try.ntmps60
 go_wp2_with fail
 go_ret
 exact⟨rfl,bx _ _⟩
theorem uA{b o o' n n' c c':Nat}(h1:o=o')(h2:n=n')(h3:c=c'):Ending.returned (.slice (some ⟨b,o,none⟩) n c)=.returned (.slice (some ⟨b,o',none⟩) n' c'):=by rw[h1,h2,h3]
theorem wi(b o n c:Nat)(j:Nat)(w:World)(h:j<=32)(hn:8*j<n)(hc:n<=c)(hm:n<=1099511627776):Calls Try.prog 60 #[.slice (some ⟨b,o,none⟩) n c,.int .i64 j] w (yJ (.slice (some ⟨b,o+8*j*4,none⟩) (min 8 (n-8*j)) (c-8*j)) w):=by
 have h0:¬(j:Int)<0:=by omega
 have h1:¬(32:Int)<(j:Int):=by omega
 have h2:¬(n:Int)<=(j:Int)*8:=by omega
 have h3:(j:Int)*8<(n:Int):=by omega
 go_enter Try.func60,Try.ntmps60
 go_wp2_with fail
 all_goals
  go_ret
  refine⟨?_,bx _ _⟩;exact uA (by omega) (by omega) (by omega)
theorem BQ(b o n c:Nat)(j:Nat)(w:World)(h:j<=32)(hn:8*j<n)(hc:n<=c)(hm:n<=1099511627776):Calls Try.prog 60 #[.slice (some ⟨b,o,none⟩) n c,.int .i64 j] w λe w'=>e=.returned (.slice (some ⟨b,o+8*j*4,none⟩) (min 8 (n-8*j)) (c-8*j))/\w'=w:=by
 have h0:¬(j:Int)<0:=by omega
 have h1:¬(32:Int)<(j:Int):=by omega
 have h2:¬(n:Int)<=(j:Int)*8:=by omega
 have h3:(j:Int)*8<(n:Int):=by omega
 go_enter Try.func60,Try.ntmps60
 go_wp2_with fail
 all_goals
  go_ret
  refine⟨?_,rfl⟩;exact uA (by omega) (by omega) (by omega)
set_option maxRecDepth 100000 in
set_option maxHeartbeats 4000000 in
theorem Bh(F:Nat->Prop)(C:List (List Cn4))(T:List Vw8)(k j:Nat)(cells:List Cn4)(v0 v1 v2 v3 v4 v5 v6:Int)(L:List Cn4)(U V Y Z:Value)(w:World)(fe:Int)
 (hu:RSl rCs w F C U)(hv:RSl rVw w F T V)(hy:RSl rCn w F cells Y)(hz:RSl rCn w F L Z)
 (ZS:∀w',w.grownBy w' none->Calls Try.prog 58 #[.agg #[U,V],.agg #[.int .i64 k,.int .i64 j]] w' λe w2=>e=.returned (.int .i64 fe)/\w'.grownBy w2 none)
 (eb:Bool)(ZC:∀w',w.grownBy w' none->Calls Try.prog 61 #[.agg #[.int .i64 v0,.int .i64 v1,.int .i64 v2,.int .i64 v3,.int .i64 v4,.int .i64 v5,.int .u16 v6,Z]] w' λe w2=>e=.returned (.bool eb)/\w'.grownBy w2 none)(h0:fe=0)(hk:k<C.length)(hj:j<=32)(XN:8*j<C[k].length)(hc:cells.length≠min 8 (C[k].length-8*j)):
 Calls Try.prog 37 #[.agg #[U,V],.agg #[.int .i64 k,.int .i64 j,Y,.int .i64 v0,.int .i64 v1,.int .i64 v2,.int .i64 v3,.int .i64 v4,.int .i64 v5,.int .u16 v6,Z]] w (λe w'=>e=.returned (.tuple #[.agg #[.slice none 0 0,.slice none 0 0],.int .i64 5])/\w.grownBy w' none):=by
 subst h0;have Hc:=Lib.hid hc;clear hc;have HU:=Lib.hid hu;have HV:=Lib.hid hv;have HY:=Lib.hid hy;have HZ:=Lib.hid hz;obtain⟨A1,c1,rfl,_,_,UB⟩:=hu.size_eq;obtain⟨A2,c2,rfl,_,_,UF⟩:=hv.size_eq;obtain⟨A3,c3,rfl,_,_,hcl⟩:=hy.size_eq;obtain⟨A4,c4,rfl,_,_,Wx⟩:=hz.size_eq;have HF:=Lib.hid ZS;clear hu hv hy hz ZS
 go_enter Try.func37,Try.ntmps37
 go_upto_region 1 with fail
 have Zm:w.grownBy (((w.alloc (.cells #[.slice A1 C.length c1,.slice A2 T.length c2] 31)).alloc (.cells #[.int .i64 k,.int .i64 j,.slice A3 cells.length c3,.int .i64 v0,.int .i64 v1,.int .i64 v2,.int .i64 v3,.int .i64 v4,.int .i64 v5,.int .u16 v6,.slice A4 L.length c4] 75)).alloc (.cells #[.slice none 0 0,.slice none 0 0] 31)) none:=bv (bv (bv (bx w none) _) _) _;have Z':Bk (((w.alloc (.cells #[.slice A1 C.length c1,.slice A2 T.length c2] 31)).alloc (.cells #[.int .i64 k,.int .i64 j,.slice A3 cells.length c3,.int .i64 v0,.int .i64 v1,.int .i64 v2,.int .i64 v3,.int .i64 v4,.int .i64 v5,.int .u16 v6,.slice A4 L.length c4] 75)).alloc (.cells #[.slice none 0 0,.slice none 0 0] 31)) w.heap.size 31 [.slice A1 C.length c1,.slice A2 T.length c2]:=(Bk.new.grow (bv (bx _ _) _)).grow (bv (bx _ _) _)
 have Z8:Bk (((w.alloc (.cells #[.slice A1 C.length c1,.slice A2 T.length c2] 31)).alloc (.cells #[.int .i64 k,.int .i64 j,.slice A3 cells.length c3,.int .i64 v0,.int .i64 v1,.int .i64 v2,.int .i64 v3,.int .i64 v4,.int .i64 v5,.int .u16 v6,.slice A4 L.length c4] 75)).alloc (.cells #[.slice none 0 0,.slice none 0 0] 31)) (w.heap.size+1) 75 [.int .i64 k,.int .i64 j,.slice A3 cells.length c3,.int .i64 v0,.int .i64 v1,.int .i64 v2,.int .i64 v3,.int .i64 v4,.int .i64 v5,.int .u16 v6,.slice A4 L.length c4]:=by
  have h:=(Bk.new (w:=w.alloc (.cells #[.slice A1 C.length c1,.slice A2 T.length c2] 31)) (t:=75) (vs:=[.int .i64 k,.int .i64 j,.slice A3 cells.length c3,.int .i64 v0,.int .i64 v1,.int .i64 v2,.int .i64 v3,.int .i64 v4,.int .i64 v5,.int .u16 v6,.slice A4 L.length c4])).grow (bv (bx _ _) (.cells #[.slice none 0 0,.slice none 0 0] 31));simpa using h
 have ZQ:Bk (((w.alloc (.cells #[.slice A1 C.length c1,.slice A2 T.length c2] 31)).alloc (.cells #[.int .i64 k,.int .i64 j,.slice A3 cells.length c3,.int .i64 v0,.int .i64 v1,.int .i64 v2,.int .i64 v3,.int .i64 v4,.int .i64 v5,.int .u16 v6,.slice A4 L.length c4] 75)).alloc (.cells #[.slice none 0 0,.slice none 0 0] 31)) (w.heap.size+2) 31 [.slice none 0 0,.slice none 0 0]:=by
  have h:=Bk.new (w:=(w.alloc (.cells #[.slice A1 C.length c1,.slice A2 T.length c2] 31)).alloc (.cells #[.int .i64 k,.int .i64 j,.slice A3 cells.length c3,.int .i64 v0,.int .i64 v1,.int .i64 v2,.int .i64 v3,.int .i64 v4,.int .i64 v5,.int .u16 v6,.slice A4 L.length c4] 75)) (t:=31) (vs:=[.slice none 0 0,.slice none 0 0]);simpa using h
 have hsz:(((w.alloc (.cells #[.slice A1 C.length c1,.slice A2 T.length c2] 31)).alloc (.cells #[.int .i64 k,.int .i64 j,.slice A3 cells.length c3,.int .i64 v0,.int .i64 v1,.int .i64 v2,.int .i64 v3,.int .i64 v4,.int .i64 v5,.int .u16 v6,.slice A4 L.length c4] 75)).alloc (.cells #[.slice none 0 0,.slice none 0 0] 31)).heap.size=w.heap.size+3:=by simp
 generalize((w.alloc (.cells #[.slice A1 C.length c1,.slice A2 T.length c2] 31)).alloc (.cells #[.int .i64 k,.int .i64 j,.slice A3 cells.length c3,.int .i64 v0,.int .i64 v1,.int .i64 v2,.int .i64 v3,.int .i64 v4,.int .i64 v5,.int .u16 v6,.slice A4 L.length c4] 75)).alloc (.cells #[.slice none 0 0,.slice none 0 0] 31)=W at *;have Xs:=Z'.cell 0;have Xt:=Z'.cell 1;have Xu:=Z8.cell 0;have Xv:=Z8.cell 1;simp only[List.getElem?_cons_zero,List.getElem?_cons_succ]at Xs Xt Xu Xv
 go_wp2_with fail
 refine(HF.out W Zm).mono ?_;rintro e w1 ⟨rfl,Z1⟩;have XK:=Lib.hid (bC Zm Z1);have Za:=Z1.size;have Z':=Z'.grow Z1;have Z8:=Z8.grow Z1;have ZQ:=ZQ.grow Z1;have Xj:=Z'.cell 0;have Xk:=Z'.cell 1;have XG:=Z8.cell 0;have XH:=Z8.cell 1;have XI:=Z8.cell 2;have WY:=Z8.cell 3;have WZ:=Z8.cell 4;have W1:=Z8.cell 5;have W2:=Z8.cell 6;have W4:=Z8.cell 7;have W5:=Z8.cell 8;have W7:=Z8.cell 9;have YQ:=Z8.cell 10;have Yt:=ZQ.cell 0;have Yu:=ZQ.cell 1;have VI:=ZQ.free 0;have VJ:=ZQ.free 1;have q4:=ZQ.hi;simp only[List.getElem?_cons_zero,List.getElem?_cons_succ]at Xj Xk XG XH XI WY WZ W1 W2 W4 W5 W7 YQ Yt Yu;have WH:=Lib.hid Z';have Zc:=Lib.hid Z8;have Ww:=Lib.hid ZQ;have HS:=Lib.hid hsz;clear Z' Z8 ZQ Zm Z1 HF Xs Xt Xu Xv
 have SS:((k:Int)==-1)=false:=by simp
 have V6:¬(k:Int)=-1:=by omega
 have HE:=Lib.hid (λW hg=>ZC W hg);clear ZC;obtain⟨bR,oR,cR,ds,Se,Rz,Vy,_,Sd,UE⟩:=(HU.out.grow XK.out).at_ hk
 injection Se with VR Sf VS
 subst VR;subst VS;obtain⟨hdr,rfl,hrow⟩:=Sd;have WP:=UE 0 _ rfl;rw[show oR+(k*rCs.size+0)=oR+k by rw[show rCs.size=1 from rfl,Nat.mul_one,Nat.add_zero]]at WP;obtain⟨AK,cK,rfl,VN,R7,VO⟩:=hrow.size_eq;have R8:=hrow;obtain⟨bK,oK,Og,xs,R9,_,_,_,_,_⟩:=hrow.at_ (k:=8*j) XN
 injection R9 with VP R' VQ
 subst VP;subst VQ;obtain⟨N,hN⟩:∃N,N=C[k].length:=⟨_,rfl⟩;rw[<- hN]at XN VN VO WP;have Xl:=Lib.hid hN;clear hN R8 hrow UE
 have y1:(0:Int)<=(k:Int):=by omega
 have y2:(k:Int)<(C.length:Int):=by omega
 have y3:(k:Int).toNat=k:=by omega
 obtain⟨n,hn⟩:∃n,n=min 8 (N-8*j):=⟨_,rfl⟩;have Hn:=Lib.hid hn;have HJ:=Lib.hid (And.intro hj (And.intro XN (And.intro VN VO)));clear hn hj XN VN R7 VO hcl V6
 go_upto_region 10 with fail
 have ON:((cells.length:Int) != (n:Int))=true:=by
  have h1:=Hc.out;rw[<- Xl.out,<- Hn.out]at h1;simp;omega
 clear Yt Yu VI VJ q4;have UZ:=Lib.hid WP;clear WP
 refine iK (λw'=>w1.grownBy w' none) (λ_ _=>True)
  [co (.pointer (some ⟨w.heap.size+1,2,none⟩)),co (.slice A3 cells.length c3),co (.int .i64 cells.length),co (.pointer (some ⟨w.heap.size,0,none⟩)),co (.slice (some ⟨bR,oR,none⟩) C.length c1),co (.pointer (some ⟨w.heap.size+1,0,none⟩)),co (.pointer (some ⟨w.heap.size+1,0,none⟩)),co (.int .i64 k),co (.pointer (some ⟨bR,oR+k,none⟩)),co (.slice (some ⟨bK,oK,none⟩) N cK),co (.pointer (some ⟨w.heap.size+1,0,none⟩)),co (.pointer (some ⟨w.heap.size+1,1,none⟩)),co (.int .i64 j),co (.slice (some ⟨bK,oK+8*j*4,none⟩) n (cK-8*j)),co (.int .i64 n),co (.bool true),co (.bool true),co (undef),co (undef),co (undef),co (undef),co (.bool true)]
  78 (by kernel_rfl) rfl (by kernel_rfl) (dG (bx _ _)) (λ_=>trivial) ?_ ?_ ?_
 ·exact⟨co.kept,co.kept,co.kept,co.kept,co.kept,co.kept,co.kept,co.kept,co.kept,co.kept,co.kept,co.kept,co.kept,co.kept,co.kept,co.kept,co.kept,co.kept,co.kept,co.kept,co.kept,co.kept,trivial⟩
 ·refine bt ?_ (bt ?_ (bt ?_ (bt ?_ (bt ?_ (bt ?_ (bt ?_ (bt ?_ (bt ?_ (bt ?_ (bt ?_ (bt ?_ (bt ?_ (bt ?_ (bt ?_ (bt ?_ (bt ?_ (bt ?_ (bt ?_ (bt ?_ (bt ?_ (bt ?_ nY)))))))))))))))))))))
  ·refine bw rfl λf ZO hb H=>?_;have e3:f 3=_:=H 3 (by decide);clear H;have Z5:=Lib.hid hb;clear hb
   go_simp
   exact⟨Z5.out,trivial,rfl⟩
  ·refine bw rfl λf ZO hb H=>?_;have Oh:f 38=_:=H 38 (by decide);clear H;have Z5:=Lib.hid hb;have R1:=(Zc.out.grow hb).cell 2;simp only[List.getElem?_cons_zero,List.getElem?_cons_succ]at R1;clear hb
   go_simp
   exact⟨Z5.out,trivial,rfl⟩
  ·refine bw rfl λf ZO hb H=>?_;have Oi:f 39=_:=H 39 (by decide);clear H;have Z5:=Lib.hid hb;clear hb
   go_simp
   exact⟨Z5.out,trivial,rfl⟩
  ·refine bw rfl λf ZO hb H=>?_;have e2:f 2=_:=H 2 (by decide);clear H;have Z5:=Lib.hid hb;clear hb
   go_simp
   exact⟨Z5.out,trivial,rfl⟩
  ·refine bw rfl λf ZO hb H=>?_;have Ol:f 41=_:=H 41 (by decide);clear H;have Z5:=Lib.hid hb;have RX:=(WH.out.grow hb).cell 0;simp only[List.getElem?_cons_zero]at RX;clear hb
   go_simp
   exact⟨Z5.out,trivial,rfl⟩
  ·refine bw rfl λf ZO hb H=>?_;have e3:f 3=_:=H 3 (by decide);clear H;have Z5:=Lib.hid hb;clear hb
   go_simp
   exact⟨Z5.out,trivial,rfl⟩
  ·refine bw rfl λf ZO hb H=>?_;have On:f 43=_:=H 43 (by decide);clear H;have Z5:=Lib.hid hb;clear hb
   go_simp
   exact⟨Z5.out,trivial,rfl⟩
  ·refine bw rfl λf ZO hb H=>?_;have Oo:f 44=_:=H 44 (by decide);clear H;have Z5:=Lib.hid hb;have RY:=(Zc.out.grow hb).cell 0;simp only[List.getElem?_cons_zero,List.getElem?_cons_succ]at RY;clear hb
   go_simp
   exact⟨Z5.out,trivial,rfl⟩
  ·refine bw rfl λf ZO hb H=>?_;have Om:f 42=_:=H 42 (by decide);have Oq:f 45=_:=H 45 (by decide);clear H;have Z5:=Lib.hid hb;clear hb
   go_simp
   exact⟨Z5.out,trivial,rfl⟩
  ·refine bw rfl λf ZO hb H=>?_;have Os:f 46=_:=H 46 (by decide);clear H;have Z5:=Lib.hid hb
   have ch:ZO.cell? ⟨bR,oR+k,none⟩=some (.slice (some ⟨bK,oK,none⟩) N cK):=by rw[World.cell?_of_block (hb.block bR (World.block_lt_of_cell? _ _ UZ.out) (by simp))];exact UZ.out
   clear hb
   go_simp
   exact⟨Z5.out,trivial,rfl⟩
  ·refine bw rfl λf ZO hb H=>?_;have e3:f 3=_:=H 3 (by decide);clear H;have Z5:=Lib.hid hb;clear hb
   go_simp
   exact⟨Z5.out,trivial,rfl⟩
  ·refine bw rfl λf ZO hb H=>?_;have Ou:f 48=_:=H 48 (by decide);clear H;have Z5:=Lib.hid hb;clear hb
   go_simp
   exact⟨Z5.out,trivial,rfl⟩
  ·refine bw rfl λf ZO hb H=>?_;have Ov:f 49=_:=H 49 (by decide);clear H;have Z5:=Lib.hid hb;have R0:=(Zc.out.grow hb).cell 1;simp only[List.getElem?_cons_zero,List.getElem?_cons_succ]at R0;clear hb
   go_simp
   exact⟨Z5.out,trivial,rfl⟩
  ·refine bw rfl λf ZO hb H=>?_;have Ot:f 47=_:=H 47 (by decide);have Ow:f 50=_:=H 50 (by decide);clear H;have Z5:=Lib.hid hb;clear hb
   go_simp
   refine(wi bK oK N cK j _ HJ.out.1 HJ.out.2.1 HJ.out.2.2.1 HJ.out.2.2.2).mono ?_;rw[<- Hn.out];rintro e w5 ⟨rfl,SJ⟩;exact⟨_,rfl,bC Z5.out SJ,trivial,rfl⟩
  ·refine bw rfl λf ZO hb H=>?_;have Ox:f 51=_:=H 51 (by decide);clear H;have Z5:=Lib.hid hb;clear hb
   go_simp
   exact⟨Z5.out,trivial,rfl⟩
  ·refine bw rfl λf ZO hb H=>?_;have Oj:f 40=_:=H 40 (by decide);have Oy:f 52=_:=H 52 (by decide);clear H;have Z5:=Lib.hid hb;clear hb
   go_simp
   exact⟨Z5.out,trivial,rfl⟩
  ·refine bw rfl λf ZO hb H=>?_;have Oz:f 53=_:=H 53 (by decide);clear H;have Z5:=Lib.hid hb;clear hb
   go_simp
   exact⟨Z5.out,trivial,rfl⟩
  ·exact mU _ _ _ rfl rfl λf ZO hb H=>⟨H 54 (by decide),rfl⟩
  ·exact mU _ _ _ rfl rfl λf ZO hb H=>⟨H 54 (by decide),rfl⟩
  ·exact mU _ _ _ rfl rfl λf ZO hb H=>⟨H 54 (by decide),rfl⟩
  ·exact mU _ _ _ rfl rfl λf ZO hb H=>⟨H 54 (by decide),rfl⟩
  ·refine bw rfl λf ZO hb H=>?_;have OA:f 54=_:=H 54 (by decide);have OB:f 58=_:=H 58 (by decide);clear H;have Z5:=Lib.hid hb;clear hb
   go_simp
   exact⟨Z5.out,trivial,rfl⟩
 ·intro f w9 hb hE;simp only[fE,Act.put,yU,List.setIfInBounds_toArray,List.set_cons_succ,List.set_cons_zero];have R4:f 59=.bool true:=hE.2.2.2.2.2.2.2.2.2.2.2.2.2.2.2.2.2.2.2.2.2.1;clear hE;have ZL:=hb;clear hb;rw[R4];have ZQ:=Ww.out.grow ZL;have Yt:=ZQ.cell 0;have Yu:=ZQ.cell 1;have VI:=ZQ.free 0;have VJ:=ZQ.free 1;have q4:=ZQ.hi;simp only[List.getElem?_cons_zero,List.getElem?_cons_succ]at Yt Yu
  go_wp2_with fail
  refine bodyPost_ret (v:=.tuple #[.agg #[.slice none 0 0,.slice none 0 0],.int .i64 5]) (by simp[results,Try.results37,go_sem,Yt,Yu,q4]) rfl ?_;exact⟨rfl,bD (bD (bC XK.out ZL) (.inr (by dsimp only;omega)) _) (.inr (by dsimp only;omega)) _⟩
set_option maxRecDepth 100000 in
set_option maxHeartbeats 4000000 in
theorem Bg(F:Nat->Prop)(C:List (List Cn4))(T:List Vw8)(k j:Nat)(cells:List Cn4)(v0 v1 v2 v3 v4 v5 v6:Int)(L:List Cn4)(U V Y Z:Value)(w:World)(fe:Int)
 (hu:RSl rCs w F C U)(hv:RSl rVw w F T V)(hy:RSl rCn w F cells Y)(hz:RSl rCn w F L Z)
 (ZS:∀w',w.grownBy w' none->Calls Try.prog 58 #[.agg #[U,V],.agg #[.int .i64 k,.int .i64 j]] w' λe w2=>e=.returned (.int .i64 fe)/\w'.grownBy w2 none)
 (eb:Bool)(ZC:∀w',w.grownBy w' none->Calls Try.prog 61 #[.agg #[.int .i64 v0,.int .i64 v1,.int .i64 v2,.int .i64 v3,.int .i64 v4,.int .i64 v5,.int .u16 v6,Z]] w' λe w2=>e=.returned (.bool eb)/\w'.grownBy w2 none)(h0:fe=0)(hk:k<C.length)(hj:j<=32)(XN:8*j<C[k].length)(hc:cells.length=min 8 (C[k].length-8*j))(he:eb=false):
 Calls Try.prog 37 #[.agg #[U,V],.agg #[.int .i64 k,.int .i64 j,Y,.int .i64 v0,.int .i64 v1,.int .i64 v2,.int .i64 v3,.int .i64 v4,.int .i64 v5,.int .u16 v6,Z]] w (λe w'=>e=.returned (.tuple #[.agg #[.slice none 0 0,.slice none 0 0],.int .i64 5])/\w.grownBy w' none):=by
 subst h0;subst he;have Hc:=Lib.hid hc;clear hc;have HU:=Lib.hid hu;have HV:=Lib.hid hv;have HY:=Lib.hid hy;have HZ:=Lib.hid hz;obtain⟨A1,c1,rfl,_,_,UB⟩:=hu.size_eq;obtain⟨A2,c2,rfl,_,_,UF⟩:=hv.size_eq;obtain⟨A3,c3,rfl,_,_,hcl⟩:=hy.size_eq;obtain⟨A4,c4,rfl,_,_,Wx⟩:=hz.size_eq;have HF:=Lib.hid ZS;clear hu hv hy hz ZS
 go_enter Try.func37,Try.ntmps37
 go_upto_region 1 with fail
 have Zm:w.grownBy (((w.alloc (.cells #[.slice A1 C.length c1,.slice A2 T.length c2] 31)).alloc (.cells #[.int .i64 k,.int .i64 j,.slice A3 cells.length c3,.int .i64 v0,.int .i64 v1,.int .i64 v2,.int .i64 v3,.int .i64 v4,.int .i64 v5,.int .u16 v6,.slice A4 L.length c4] 75)).alloc (.cells #[.slice none 0 0,.slice none 0 0] 31)) none:=bv (bv (bv (bx w none) _) _) _;have Z':Bk (((w.alloc (.cells #[.slice A1 C.length c1,.slice A2 T.length c2] 31)).alloc (.cells #[.int .i64 k,.int .i64 j,.slice A3 cells.length c3,.int .i64 v0,.int .i64 v1,.int .i64 v2,.int .i64 v3,.int .i64 v4,.int .i64 v5,.int .u16 v6,.slice A4 L.length c4] 75)).alloc (.cells #[.slice none 0 0,.slice none 0 0] 31)) w.heap.size 31 [.slice A1 C.length c1,.slice A2 T.length c2]:=(Bk.new.grow (bv (bx _ _) _)).grow (bv (bx _ _) _)
 have Z8:Bk (((w.alloc (.cells #[.slice A1 C.length c1,.slice A2 T.length c2] 31)).alloc (.cells #[.int .i64 k,.int .i64 j,.slice A3 cells.length c3,.int .i64 v0,.int .i64 v1,.int .i64 v2,.int .i64 v3,.int .i64 v4,.int .i64 v5,.int .u16 v6,.slice A4 L.length c4] 75)).alloc (.cells #[.slice none 0 0,.slice none 0 0] 31)) (w.heap.size+1) 75 [.int .i64 k,.int .i64 j,.slice A3 cells.length c3,.int .i64 v0,.int .i64 v1,.int .i64 v2,.int .i64 v3,.int .i64 v4,.int .i64 v5,.int .u16 v6,.slice A4 L.length c4]:=by
  have h:=(Bk.new (w:=w.alloc (.cells #[.slice A1 C.length c1,.slice A2 T.length c2] 31)) (t:=75) (vs:=[.int .i64 k,.int .i64 j,.slice A3 cells.length c3,.int .i64 v0,.int .i64 v1,.int .i64 v2,.int .i64 v3,.int .i64 v4,.int .i64 v5,.int .u16 v6,.slice A4 L.length c4])).grow (bv (bx _ _) (.cells #[.slice none 0 0,.slice none 0 0] 31));simpa using h
 have ZQ:Bk (((w.alloc (.cells #[.slice A1 C.length c1,.slice A2 T.length c2] 31)).alloc (.cells #[.int .i64 k,.int .i64 j,.slice A3 cells.length c3,.int .i64 v0,.int .i64 v1,.int .i64 v2,.int .i64 v3,.int .i64 v4,.int .i64 v5,.int .u16 v6,.slice A4 L.length c4] 75)).alloc (.cells #[.slice none 0 0,.slice none 0 0] 31)) (w.heap.size+2) 31 [.slice none 0 0,.slice none 0 0]:=by
  have h:=Bk.new (w:=(w.alloc (.cells #[.slice A1 C.length c1,.slice A2 T.length c2] 31)).alloc (.cells #[.int .i64 k,.int .i64 j,.slice A3 cells.length c3,.int .i64 v0,.int .i64 v1,.int .i64 v2,.int .i64 v3,.int .i64 v4,.int .i64 v5,.int .u16 v6,.slice A4 L.length c4] 75)) (t:=31) (vs:=[.slice none 0 0,.slice none 0 0]);simpa using h
 have hsz:(((w.alloc (.cells #[.slice A1 C.length c1,.slice A2 T.length c2] 31)).alloc (.cells #[.int .i64 k,.int .i64 j,.slice A3 cells.length c3,.int .i64 v0,.int .i64 v1,.int .i64 v2,.int .i64 v3,.int .i64 v4,.int .i64 v5,.int .u16 v6,.slice A4 L.length c4] 75)).alloc (.cells #[.slice none 0 0,.slice none 0 0] 31)).heap.size=w.heap.size+3:=by simp
 generalize((w.alloc (.cells #[.slice A1 C.length c1,.slice A2 T.length c2] 31)).alloc (.cells #[.int .i64 k,.int .i64 j,.slice A3 cells.length c3,.int .i64 v0,.int .i64 v1,.int .i64 v2,.int .i64 v3,.int .i64 v4,.int .i64 v5,.int .u16 v6,.slice A4 L.length c4] 75)).alloc (.cells #[.slice none 0 0,.slice none 0 0] 31)=W at *;have Xs:=Z'.cell 0;have Xt:=Z'.cell 1;have Xu:=Z8.cell 0;have Xv:=Z8.cell 1;simp only[List.getElem?_cons_zero,List.getElem?_cons_succ]at Xs Xt Xu Xv
 go_wp2_with fail
 refine(HF.out W Zm).mono ?_;rintro e w1 ⟨rfl,Z1⟩;have XK:=Lib.hid (bC Zm Z1);have Za:=Z1.size;have Z':=Z'.grow Z1;have Z8:=Z8.grow Z1;have ZQ:=ZQ.grow Z1;have Xj:=Z'.cell 0;have Xk:=Z'.cell 1;have XG:=Z8.cell 0;have XH:=Z8.cell 1;have XI:=Z8.cell 2;have WY:=Z8.cell 3;have WZ:=Z8.cell 4;have W1:=Z8.cell 5;have W2:=Z8.cell 6;have W4:=Z8.cell 7;have W5:=Z8.cell 8;have W7:=Z8.cell 9;have YQ:=Z8.cell 10;have Yt:=ZQ.cell 0;have Yu:=ZQ.cell 1;have VI:=ZQ.free 0;have VJ:=ZQ.free 1;have q4:=ZQ.hi;simp only[List.getElem?_cons_zero,List.getElem?_cons_succ]at Xj Xk XG XH XI WY WZ W1 W2 W4 W5 W7 YQ Yt Yu;have WH:=Lib.hid Z';have Zc:=Lib.hid Z8;have Ww:=Lib.hid ZQ;have HS:=Lib.hid hsz;clear Z' Z8 ZQ Zm Z1 HF Xs Xt Xu Xv
 have SS:((k:Int)==-1)=false:=by simp
 have V6:¬(k:Int)=-1:=by omega
 have HE:=Lib.hid (λW hg=>ZC W hg);clear ZC;obtain⟨bR,oR,cR,ds,Se,Rz,Vy,_,Sd,UE⟩:=(HU.out.grow XK.out).at_ hk
 injection Se with VR Sf VS
 subst VR;subst VS;obtain⟨hdr,rfl,hrow⟩:=Sd;have WP:=UE 0 _ rfl;rw[show oR+(k*rCs.size+0)=oR+k by rw[show rCs.size=1 from rfl,Nat.mul_one,Nat.add_zero]]at WP;obtain⟨AK,cK,rfl,VN,R7,VO⟩:=hrow.size_eq;have R8:=hrow;obtain⟨bK,oK,Og,xs,R9,_,_,_,_,_⟩:=hrow.at_ (k:=8*j) XN
 injection R9 with VP R' VQ
 subst VP;subst VQ;obtain⟨N,hN⟩:∃N,N=C[k].length:=⟨_,rfl⟩;rw[<- hN]at XN VN VO WP;have Xl:=Lib.hid hN;clear hN R8 hrow UE
 have y1:(0:Int)<=(k:Int):=by omega
 have y2:(k:Int)<(C.length:Int):=by omega
 have y3:(k:Int).toNat=k:=by omega
 obtain⟨n,hn⟩:∃n,n=min 8 (N-8*j):=⟨_,rfl⟩;have Hn:=Lib.hid hn;have HJ:=Lib.hid (And.intro hj (And.intro XN (And.intro VN VO)));clear hn hj XN VN R7 VO hcl V6
 go_upto_region 10 with fail
 have ON:((cells.length:Int) != (n:Int))=false:=by
  have h1:=Hc.out;rw[<- Xl.out,<- Hn.out]at h1;simp;omega
 clear Yt Yu VI VJ q4;have UZ:=Lib.hid WP;clear WP
 refine iK (λw'=>w1.grownBy w' none) (λ_ _=>True)
  [co (.pointer (some ⟨w.heap.size+1,2,none⟩)),co (.slice A3 cells.length c3),co (.int .i64 cells.length),co (.pointer (some ⟨w.heap.size,0,none⟩)),co (.slice (some ⟨bR,oR,none⟩) C.length c1),co (.pointer (some ⟨w.heap.size+1,0,none⟩)),co (.pointer (some ⟨w.heap.size+1,0,none⟩)),co (.int .i64 k),co (.pointer (some ⟨bR,oR+k,none⟩)),co (.slice (some ⟨bK,oK,none⟩) N cK),co (.pointer (some ⟨w.heap.size+1,0,none⟩)),co (.pointer (some ⟨w.heap.size+1,1,none⟩)),co (.int .i64 j),co (.slice (some ⟨bK,oK+8*j*4,none⟩) n (cK-8*j)),co (.int .i64 n),co (.bool false),co (.bool false),co (.pointer (some ⟨w.heap.size+1,3,none⟩)),co (.agg #[.int .i64 v0,.int .i64 v1,.int .i64 v2,.int .i64 v3,.int .i64 v4,.int .i64 v5,.int .u16 v6,.slice A4 L.length c4]),co (.bool false),co (.bool true),co (.bool true)]
  78 (by kernel_rfl) rfl (by kernel_rfl) (dG (bx _ _)) (λ_=>trivial) ?_ ?_ ?_
 ·exact⟨co.kept,co.kept,co.kept,co.kept,co.kept,co.kept,co.kept,co.kept,co.kept,co.kept,co.kept,co.kept,co.kept,co.kept,co.kept,co.kept,co.kept,co.kept,co.kept,co.kept,co.kept,co.kept,trivial⟩
 ·refine bt ?_ (bt ?_ (bt ?_ (bt ?_ (bt ?_ (bt ?_ (bt ?_ (bt ?_ (bt ?_ (bt ?_ (bt ?_ (bt ?_ (bt ?_ (bt ?_ (bt ?_ (bt ?_ (bt ?_ (bt ?_ (bt ?_ (bt ?_ (bt ?_ (bt ?_ nY)))))))))))))))))))))
  ·refine bw rfl λf ZO hb H=>?_;have e3:f 3=_:=H 3 (by decide);clear H;have Z5:=Lib.hid hb;clear hb
   go_simp
   exact⟨Z5.out,trivial,rfl⟩
  ·refine bw rfl λf ZO hb H=>?_;have Oh:f 38=_:=H 38 (by decide);clear H;have Z5:=Lib.hid hb;have R1:=(Zc.out.grow hb).cell 2;simp only[List.getElem?_cons_zero,List.getElem?_cons_succ]at R1;clear hb
   go_simp
   exact⟨Z5.out,trivial,rfl⟩
  ·refine bw rfl λf ZO hb H=>?_;have Oi:f 39=_:=H 39 (by decide);clear H;have Z5:=Lib.hid hb;clear hb
   go_simp
   exact⟨Z5.out,trivial,rfl⟩
  ·refine bw rfl λf ZO hb H=>?_;have e2:f 2=_:=H 2 (by decide);clear H;have Z5:=Lib.hid hb;clear hb
   go_simp
   exact⟨Z5.out,trivial,rfl⟩
  ·refine bw rfl λf ZO hb H=>?_;have Ol:f 41=_:=H 41 (by decide);clear H;have Z5:=Lib.hid hb;have RX:=(WH.out.grow hb).cell 0;simp only[List.getElem?_cons_zero]at RX;clear hb
   go_simp
   exact⟨Z5.out,trivial,rfl⟩
  ·refine bw rfl λf ZO hb H=>?_;have e3:f 3=_:=H 3 (by decide);clear H;have Z5:=Lib.hid hb;clear hb
   go_simp
   exact⟨Z5.out,trivial,rfl⟩
  ·refine bw rfl λf ZO hb H=>?_;have On:f 43=_:=H 43 (by decide);clear H;have Z5:=Lib.hid hb;clear hb
   go_simp
   exact⟨Z5.out,trivial,rfl⟩
  ·refine bw rfl λf ZO hb H=>?_;have Oo:f 44=_:=H 44 (by decide);clear H;have Z5:=Lib.hid hb;have RY:=(Zc.out.grow hb).cell 0;simp only[List.getElem?_cons_zero,List.getElem?_cons_succ]at RY;clear hb
   go_simp
   exact⟨Z5.out,trivial,rfl⟩
  ·refine bw rfl λf ZO hb H=>?_;have Om:f 42=_:=H 42 (by decide);have Oq:f 45=_:=H 45 (by decide);clear H;have Z5:=Lib.hid hb;clear hb
   go_simp
   exact⟨Z5.out,trivial,rfl⟩
  ·refine bw rfl λf ZO hb H=>?_;have Os:f 46=_:=H 46 (by decide);clear H;have Z5:=Lib.hid hb
   have ch:ZO.cell? ⟨bR,oR+k,none⟩=some (.slice (some ⟨bK,oK,none⟩) N cK):=by rw[World.cell?_of_block (hb.block bR (World.block_lt_of_cell? _ _ UZ.out) (by simp))];exact UZ.out
   clear hb
   go_simp
   exact⟨Z5.out,trivial,rfl⟩
  ·refine bw rfl λf ZO hb H=>?_;have e3:f 3=_:=H 3 (by decide);clear H;have Z5:=Lib.hid hb;clear hb
   go_simp
   exact⟨Z5.out,trivial,rfl⟩
  ·refine bw rfl λf ZO hb H=>?_;have Ou:f 48=_:=H 48 (by decide);clear H;have Z5:=Lib.hid hb;clear hb
   go_simp
   exact⟨Z5.out,trivial,rfl⟩
  ·refine bw rfl λf ZO hb H=>?_;have Ov:f 49=_:=H 49 (by decide);clear H;have Z5:=Lib.hid hb;have R0:=(Zc.out.grow hb).cell 1;simp only[List.getElem?_cons_zero,List.getElem?_cons_succ]at R0;clear hb
   go_simp
   exact⟨Z5.out,trivial,rfl⟩
  ·refine bw rfl λf ZO hb H=>?_;have Ot:f 47=_:=H 47 (by decide);have Ow:f 50=_:=H 50 (by decide);clear H;have Z5:=Lib.hid hb;clear hb
   go_simp
   refine(wi bK oK N cK j _ HJ.out.1 HJ.out.2.1 HJ.out.2.2.1 HJ.out.2.2.2).mono ?_;rw[<- Hn.out];rintro e w5 ⟨rfl,SJ⟩;exact⟨_,rfl,bC Z5.out SJ,trivial,rfl⟩
  ·refine bw rfl λf ZO hb H=>?_;have Ox:f 51=_:=H 51 (by decide);clear H;have Z5:=Lib.hid hb;clear hb
   go_simp
   exact⟨Z5.out,trivial,rfl⟩
  ·refine bw rfl λf ZO hb H=>?_;have Oj:f 40=_:=H 40 (by decide);have Oy:f 52=_:=H 52 (by decide);clear H;have Z5:=Lib.hid hb;clear hb
   go_simp
   exact⟨Z5.out,trivial,rfl⟩
  ·refine bw rfl λf ZO hb H=>?_;have Oz:f 53=_:=H 53 (by decide);clear H;have Z5:=Lib.hid hb;clear hb
   go_simp
   exact⟨Z5.out,trivial,rfl⟩
  ·refine fi _ _ _ rfl rfl λf ZO hb H=>⟨H 54 (by decide),?_⟩;have e3:f 3=_:=H 3 (by decide);clear H;have Z5:=Lib.hid hb;clear hb
   go_simp
   exact⟨Z5.out,trivial,rfl⟩
  ·refine fi _ _ _ rfl rfl λf ZO hb H=>⟨H 54 (by decide),?_⟩;have Mb:f 55=_:=H 55 (by decide);clear H;have Z5:=Lib.hid hb;have Pw:=(Zc.out.grow hb).cell 3;have Px:=(Zc.out.grow hb).cell 4;have Py:=(Zc.out.grow hb).cell 5;have Pz:=(Zc.out.grow hb).cell 6;have PA:=(Zc.out.grow hb).cell 7;have PB:=(Zc.out.grow hb).cell 8;have PC:=(Zc.out.grow hb).cell 9;have T1:=(Zc.out.grow hb).cell 10;simp only[List.getElem?_cons_zero,List.getElem?_cons_succ]at Pw Px Py Pz PA PB PC T1;clear hb
   go_simp
   exact⟨Z5.out,trivial,rfl⟩
  ·refine fi _ _ _ rfl rfl λf ZO hb H=>⟨H 54 (by decide),?_⟩;have Mc:f 56=_:=H 56 (by decide);clear H;have Z5:=Lib.hid hb;clear hb
   go_simp
   refine(HE.out _ (bC XK.out Z5.out)).mono ?_;rintro e w6 ⟨rfl,Qo⟩;exact⟨_,rfl,bC Z5.out Qo,trivial,rfl⟩
  ·refine fi _ _ _ rfl rfl λf ZO hb H=>⟨H 54 (by decide),?_⟩;have Md:f 57=_:=H 57 (by decide);clear H;have Z5:=Lib.hid hb;clear hb
   go_simp
   exact⟨Z5.out,trivial,rfl⟩
  ·refine bw rfl λf ZO hb H=>?_;have OA:f 54=_:=H 54 (by decide);have OB:f 58=_:=H 58 (by decide);clear H;have Z5:=Lib.hid hb;clear hb
   go_simp
   exact⟨Z5.out,trivial,rfl⟩
 ·intro f w9 hb hE;simp only[fE,Act.put,yU,List.setIfInBounds_toArray,List.set_cons_succ,List.set_cons_zero];have R4:f 59=.bool true:=hE.2.2.2.2.2.2.2.2.2.2.2.2.2.2.2.2.2.2.2.2.2.1;clear hE;have ZL:=hb;clear hb;rw[R4];have ZQ:=Ww.out.grow ZL;have Yt:=ZQ.cell 0;have Yu:=ZQ.cell 1;have VI:=ZQ.free 0;have VJ:=ZQ.free 1;have q4:=ZQ.hi;simp only[List.getElem?_cons_zero,List.getElem?_cons_succ]at Yt Yu
  go_wp2_with fail
  refine bodyPost_ret (v:=.tuple #[.agg #[.slice none 0 0,.slice none 0 0],.int .i64 5]) (by simp[results,Try.results37,go_sem,Yt,Yu,q4]) rfl ?_;exact⟨rfl,bD (bD (bC XK.out ZL) (.inr (by dsimp only;omega)) _) (.inr (by dsimp only;omega)) _⟩
section
variable {P:Program} {ops:Array Oper} {rest:List Oper} {o:Oper} {a:Act} {Q:Exit->Act->World->Prop} {w:World}
theorem nA(k:Nat)(XU:o.guard=none)(d s:Operand)(t e:TypeId)(ho:o.op=.call { callee:=.builtin .copy,args:=#[d,s],argTypes:=#[t,t] })
 (hu:P.underlying t=some (.slice e))(hsz:(P.info? e).map (·.size)=some k)(g off Xw U2:Nat)(hd:a.eval d=.slice (some ⟨g,off,none⟩) Xw U2)(ad:Addr)(Zz YF:Nat)(hs:a.eval s=.slice (some ad) Zz YF)
 (cur:Array Value)(t':TypeId)(cs:List Value)(hg:w.heap[g]?=some (.cells cur t' (0,0)))(hn:cs.length=Nat.min Zz Xw*k)
 (Ys:∀j v,cs[j]?=some v->w.cell? (ad.add j)=some v)(hfit:off+cs.length<=cur.size)(h1:∀v∈cs,v.oneCell'=true)
 (h:wpList P ops Q rest (a.put o.dst (goInt (Nat.min Zz Xw))) (w.setRow g (cur.toList.take off++cs++cur.toList.drop (off+cs.length)).toArray)):wpList P ops Q (o::rest) a w:=by
 refine wpList_plain XU λK hK=>?_;have hrun:=qM (P:=P) k w t t o.type e g off Xw U2 ad Zz YF cur t' cs hu hsz hg hn Ys hfit h1;unfold Oper.wp;simp[execOp,ho,resolve,invoke,builtin,hs,hd,hrun,Result.andThen];simp only[List.append_assoc]at h;exact hK _ _ h
end
def cnC(c:Cn4):List Value:=[.int .u8 c.1,.int .u16 c.2.1,.int .i64 c.2.2.1,.int .i64 c.2.2.2]
def cnL(xs:List Cn4):List Value:=(xs.map cnC).flatten
theorem tU(xs ys:List Cn4):cnL (xs++ys)=cnL xs++cnL ys:=by simp[cnL]
theorem l8(xs:List Cn4):(cnL xs).length=xs.length*4:=by
 induction xs with
 |nil=>rfl
 |cons x xs ih=>
  have:cnL (x::xs)=cnC x++cnL xs:=rfl;rw[this,List.length_append,ih,oLC];simp[cnC];omega
theorem EE(xs:List Cn4)(n:Nat):(cnL xs).take (n*4)=cnL (xs.take n):=by
 by_cases h:n<=xs.length
 ·have h2:cnL xs=cnL (xs.take n)++cnL (xs.drop n):=by rw[<- tU,List.take_append_drop]
  rw[h2];exact List.take_left' (by rw[l8,oLT,Nat.min_eq_left h])
 ·rw[List.take_of_length_le (by rw[l8];omega),List.take_of_length_le (by omega)]
theorem EF(xs:List Cn4)(n:Nat):(cnL xs).drop (n*4)=cnL (xs.drop n):=by
 by_cases h:n<=xs.length
 ·have h2:cnL xs=cnL (xs.take n)++cnL (xs.drop n):=by rw[<- tU,List.take_append_drop]
  rw[h2];exact List.drop_left' (by rw[l8,oLT,Nat.min_eq_left h])
 ·rw[List.drop_of_length_le (by rw[l8];omega),List.drop_of_length_le (by omega)];rfl
theorem GT(xs:List Cn4):∀v∈cnL xs,v.oneCell'=true:=by
 intro v hv;obtain⟨l,hl,hv⟩:=List.mem_flatten.1 hv;obtain⟨c,_,rfl⟩:=List.mem_map.1 hl;simp only[cnC,List.mem_cons,List.not_mem_nil,or_false]at hv
 rcases hv with rfl|rfl|rfl|rfl<;>rfl
theorem vY{w:World}{F:Nat->Prop}:∀{xs:List Cn4}{cs:List Value},eU rCn w F xs cs->cs=cnL xs
 | [],_,h=>h
 |x::r,_,⟨c,d,e,h1,h2⟩=>by rw[e,IG h1,vY h2];rfl
theorem BU{w:World}:∀{xs:List Cn4}{fp:List Nat}{cs:List Value},iv rCn w fp xs cs->fp=[]
 | [],_,_,h=>h.2
 |x::r,_,_,⟨c,d,f,g,_,e',h1,h2⟩=>by
  obtain⟨_,_,f1,f2,_,e1,⟨rfl,_⟩,_,_,f3,f4,_,e2,⟨rfl,_⟩,_,_,f5,f6,_,e3,⟨rfl,_⟩,⟨rfl,_⟩⟩:=h1;rw[e',e1,e2,e3,BU h2];rfl
theorem CM(w:World):∀(xs:List Cn4),iv rCn w [] xs (cnL xs)
 | []=>⟨rfl,rfl⟩
 |x::r=>⟨cnC x,cnL r,[],[],rfl,rfl,wO (Jo (w:=w) (F:=λ_=>True) x) w,CM w r⟩
theorem vR(w:World)(q:Nat)(cs:Array Value):(w.setRow q cs).heap.size=w.heap.size:=by simp[World.setRow]
def iz(row:List Cn4)(j:Nat)(cells:List Cn4):List Cn4:=row.take (8*j)++cells++row.drop (8*j+cells.length)
theorem zm{row cells:List Cn4}{j:Nat}(h:8*j+cells.length<=row.length):(iz row j cells).length=row.length:=by
 simp[iz];omega
set_option maxRecDepth 100000 in
set_option maxHeartbeats 4000000 in
theorem Bj(F:Nat->Prop)(C:List (List Cn4))(T:List Vw8)(k j:Nat)(cells:List Cn4)(v0 v1 v2 v3 v4 v5 v6:Int)(L:List Cn4)(U V Y Z:Value)(w:World)(fe:Int)
 (hu:RSl rCs w F C U)(hv:RSl rVw w F T V)(hy:RSl rCn w F cells Y)(hz:RSl rCn w F L Z)
 (ZS:∀w',w.grownBy w' none->Calls Try.prog 58 #[.agg #[U,V],.agg #[.int .i64 k,.int .i64 j]] w' λe w2=>e=.returned (.int .i64 fe)/\w'.grownBy w2 none)
 (eb:Bool)(ZC:∀w',w.grownBy w' none->Calls Try.prog 61 #[.agg #[.int .i64 v0,.int .i64 v1,.int .i64 v2,.int .i64 v3,.int .i64 v4,.int .i64 v5,.int .u16 v6,Z]] w' λe w2=>e=.returned (.bool eb)/\w'.grownBy w2 none)(h0:fe=0)(hk:k<C.length)(hj:j<=32)(XN:8*j<C[k].length)(hc:cells.length=min 8 (C[k].length-8*j))(he:eb=true):
 Calls Try.prog 37 #[.agg #[U,V],.agg #[.int .i64 k,.int .i64 j,Y,.int .i64 v0,.int .i64 v1,.int .i64 v2,.int .i64 v3,.int .i64 v4,.int .i64 v5,.int .u16 v6,Z]] w (yI (C.set k (iz C[k] j cells)) T w):=by
 subst h0;subst he;have Hc:=Lib.hid hc;clear hc;have HU:=Lib.hid hu;have HV:=Lib.hid hv;have HY:=Lib.hid hy;have HZ:=Lib.hid hz;obtain⟨A1,c1,rfl,_,_,UB⟩:=hu.size_eq;obtain⟨A2,c2,rfl,_,_,UF⟩:=hv.size_eq;obtain⟨A3,c3,rfl,_,_,hcl⟩:=hy.size_eq;obtain⟨A4,c4,rfl,_,_,Wx⟩:=hz.size_eq;have HF:=Lib.hid ZS;clear hu hv hy hz ZS
 go_enter Try.func37,Try.ntmps37
 go_upto_region 1 with fail
 have Zm:w.grownBy (((w.alloc (.cells #[.slice A1 C.length c1,.slice A2 T.length c2] 31)).alloc (.cells #[.int .i64 k,.int .i64 j,.slice A3 cells.length c3,.int .i64 v0,.int .i64 v1,.int .i64 v2,.int .i64 v3,.int .i64 v4,.int .i64 v5,.int .u16 v6,.slice A4 L.length c4] 75)).alloc (.cells #[.slice none 0 0,.slice none 0 0] 31)) none:=bv (bv (bv (bx w none) _) _) _;have Z':Bk (((w.alloc (.cells #[.slice A1 C.length c1,.slice A2 T.length c2] 31)).alloc (.cells #[.int .i64 k,.int .i64 j,.slice A3 cells.length c3,.int .i64 v0,.int .i64 v1,.int .i64 v2,.int .i64 v3,.int .i64 v4,.int .i64 v5,.int .u16 v6,.slice A4 L.length c4] 75)).alloc (.cells #[.slice none 0 0,.slice none 0 0] 31)) w.heap.size 31 [.slice A1 C.length c1,.slice A2 T.length c2]:=(Bk.new.grow (bv (bx _ _) _)).grow (bv (bx _ _) _)
 have Z8:Bk (((w.alloc (.cells #[.slice A1 C.length c1,.slice A2 T.length c2] 31)).alloc (.cells #[.int .i64 k,.int .i64 j,.slice A3 cells.length c3,.int .i64 v0,.int .i64 v1,.int .i64 v2,.int .i64 v3,.int .i64 v4,.int .i64 v5,.int .u16 v6,.slice A4 L.length c4] 75)).alloc (.cells #[.slice none 0 0,.slice none 0 0] 31)) (w.heap.size+1) 75 [.int .i64 k,.int .i64 j,.slice A3 cells.length c3,.int .i64 v0,.int .i64 v1,.int .i64 v2,.int .i64 v3,.int .i64 v4,.int .i64 v5,.int .u16 v6,.slice A4 L.length c4]:=by
  have h:=(Bk.new (w:=w.alloc (.cells #[.slice A1 C.length c1,.slice A2 T.length c2] 31)) (t:=75) (vs:=[.int .i64 k,.int .i64 j,.slice A3 cells.length c3,.int .i64 v0,.int .i64 v1,.int .i64 v2,.int .i64 v3,.int .i64 v4,.int .i64 v5,.int .u16 v6,.slice A4 L.length c4])).grow (bv (bx _ _) (.cells #[.slice none 0 0,.slice none 0 0] 31));simpa using h
 have ZQ:Bk (((w.alloc (.cells #[.slice A1 C.length c1,.slice A2 T.length c2] 31)).alloc (.cells #[.int .i64 k,.int .i64 j,.slice A3 cells.length c3,.int .i64 v0,.int .i64 v1,.int .i64 v2,.int .i64 v3,.int .i64 v4,.int .i64 v5,.int .u16 v6,.slice A4 L.length c4] 75)).alloc (.cells #[.slice none 0 0,.slice none 0 0] 31)) (w.heap.size+2) 31 [.slice none 0 0,.slice none 0 0]:=by
  have h:=Bk.new (w:=(w.alloc (.cells #[.slice A1 C.length c1,.slice A2 T.length c2] 31)).alloc (.cells #[.int .i64 k,.int .i64 j,.slice A3 cells.length c3,.int .i64 v0,.int .i64 v1,.int .i64 v2,.int .i64 v3,.int .i64 v4,.int .i64 v5,.int .u16 v6,.slice A4 L.length c4] 75)) (t:=31) (vs:=[.slice none 0 0,.slice none 0 0]);simpa using h
 have hsz:(((w.alloc (.cells #[.slice A1 C.length c1,.slice A2 T.length c2] 31)).alloc (.cells #[.int .i64 k,.int .i64 j,.slice A3 cells.length c3,.int .i64 v0,.int .i64 v1,.int .i64 v2,.int .i64 v3,.int .i64 v4,.int .i64 v5,.int .u16 v6,.slice A4 L.length c4] 75)).alloc (.cells #[.slice none 0 0,.slice none 0 0] 31)).heap.size=w.heap.size+3:=by simp
 generalize((w.alloc (.cells #[.slice A1 C.length c1,.slice A2 T.length c2] 31)).alloc (.cells #[.int .i64 k,.int .i64 j,.slice A3 cells.length c3,.int .i64 v0,.int .i64 v1,.int .i64 v2,.int .i64 v3,.int .i64 v4,.int .i64 v5,.int .u16 v6,.slice A4 L.length c4] 75)).alloc (.cells #[.slice none 0 0,.slice none 0 0] 31)=W at *;have Xs:=Z'.cell 0;have Xt:=Z'.cell 1;have Xu:=Z8.cell 0;have Xv:=Z8.cell 1;simp only[List.getElem?_cons_zero,List.getElem?_cons_succ]at Xs Xt Xu Xv
 go_wp2_with fail
 refine(HF.out W Zm).mono ?_;rintro e w1 ⟨rfl,Z1⟩;have XK:=Lib.hid (bC Zm Z1);have Za:=Z1.size;have Z':=Z'.grow Z1;have Z8:=Z8.grow Z1;have ZQ:=ZQ.grow Z1;have Xj:=Z'.cell 0;have Xk:=Z'.cell 1;have XG:=Z8.cell 0;have XH:=Z8.cell 1;have XI:=Z8.cell 2;have WY:=Z8.cell 3;have WZ:=Z8.cell 4;have W1:=Z8.cell 5;have W2:=Z8.cell 6;have W4:=Z8.cell 7;have W5:=Z8.cell 8;have W7:=Z8.cell 9;have YQ:=Z8.cell 10;have Yt:=ZQ.cell 0;have Yu:=ZQ.cell 1;have VI:=ZQ.free 0;have VJ:=ZQ.free 1;have q4:=ZQ.hi;simp only[List.getElem?_cons_zero,List.getElem?_cons_succ]at Xj Xk XG XH XI WY WZ W1 W2 W4 W5 W7 YQ Yt Yu;have WH:=Lib.hid Z';have Zc:=Lib.hid Z8;have Ww:=Lib.hid ZQ;have HS:=Lib.hid hsz;clear Z' Z8 ZQ Zm Z1 HF Xs Xt Xu Xv
 have SS:((k:Int)==-1)=false:=by simp
 have V6:¬(k:Int)=-1:=by omega
 have HE:=Lib.hid (λW hg=>ZC W hg);clear ZC;obtain⟨bR,oR,cR,ds,Se,Rz,Vy,_,Sd,UE⟩:=(HU.out.grow XK.out).at_ hk
 injection Se with VR Sf VS
 subst VR;subst VS;obtain⟨hdr,rfl,hrow⟩:=Sd;have WP:=UE 0 _ rfl;rw[show oR+(k*rCs.size+0)=oR+k by rw[show rCs.size=1 from rfl,Nat.mul_one,Nat.add_zero]]at WP;obtain⟨AK,cK,rfl,VN,R7,VO⟩:=hrow.size_eq;have R8:=hrow;obtain⟨bK,oK,Og,xs,R9,_,_,_,_,_⟩:=hrow.at_ (k:=8*j) XN
 injection R9 with VP R' VQ
 subst VP;subst VQ;obtain⟨N,hN⟩:∃N,N=C[k].length:=⟨_,rfl⟩;rw[<- hN]at XN VN VO WP;have Xl:=Lib.hid hN;clear hN R8 hrow UE
 have y1:(0:Int)<=(k:Int):=by omega
 have y2:(k:Int)<(C.length:Int):=by omega
 have y3:(k:Int).toNat=k:=by omega
 obtain⟨n,hn⟩:∃n,n=min 8 (N-8*j):=⟨_,rfl⟩;have Hn:=Lib.hid hn;have HJ:=Lib.hid (And.intro hj (And.intro XN (And.intro VN VO)));clear hn hj XN VN R7 VO hcl V6
 go_upto_region 10 with fail
 have HK:=Lib.hid hk
 have ON:((cells.length:Int) != (n:Int))=false:=by
  have h1:=Hc.out;rw[<- Xl.out,<- Hn.out]at h1;simp;omega
 clear Yt Yu VI VJ q4;have UZ:=Lib.hid WP;clear WP
 refine iK (λw'=>w1.grownBy w' none) (λ_ _=>True)
  [co (.pointer (some ⟨w.heap.size+1,2,none⟩)),co (.slice A3 cells.length c3),co (.int .i64 cells.length),co (.pointer (some ⟨w.heap.size,0,none⟩)),co (.slice (some ⟨bR,oR,none⟩) C.length c1),co (.pointer (some ⟨w.heap.size+1,0,none⟩)),co (.pointer (some ⟨w.heap.size+1,0,none⟩)),co (.int .i64 k),co (.pointer (some ⟨bR,oR+k,none⟩)),co (.slice (some ⟨bK,oK,none⟩) N cK),co (.pointer (some ⟨w.heap.size+1,0,none⟩)),co (.pointer (some ⟨w.heap.size+1,1,none⟩)),co (.int .i64 j),co (.slice (some ⟨bK,oK+8*j*4,none⟩) n (cK-8*j)),co (.int .i64 n),co (.bool false),co (.bool false),co (.pointer (some ⟨w.heap.size+1,3,none⟩)),co (.agg #[.int .i64 v0,.int .i64 v1,.int .i64 v2,.int .i64 v3,.int .i64 v4,.int .i64 v5,.int .u16 v6,.slice A4 L.length c4]),co (.bool true),co (.bool false),co (.bool false)]
  78 (by kernel_rfl) rfl (by kernel_rfl) (dG (bx _ _)) (λ_=>trivial) ?_ ?_ ?_
 ·exact⟨co.kept,co.kept,co.kept,co.kept,co.kept,co.kept,co.kept,co.kept,co.kept,co.kept,co.kept,co.kept,co.kept,co.kept,co.kept,co.kept,co.kept,co.kept,co.kept,co.kept,co.kept,co.kept,trivial⟩
 ·refine bt ?_ (bt ?_ (bt ?_ (bt ?_ (bt ?_ (bt ?_ (bt ?_ (bt ?_ (bt ?_ (bt ?_ (bt ?_ (bt ?_ (bt ?_ (bt ?_ (bt ?_ (bt ?_ (bt ?_ (bt ?_ (bt ?_ (bt ?_ (bt ?_ (bt ?_ nY)))))))))))))))))))))
  ·refine bw rfl λf ZO hb H=>?_;have e3:f 3=_:=H 3 (by decide);clear H;have Z5:=Lib.hid hb;clear hb
   go_simp
   exact⟨Z5.out,trivial,rfl⟩
  ·refine bw rfl λf ZO hb H=>?_;have Oh:f 38=_:=H 38 (by decide);clear H;have Z5:=Lib.hid hb;have R1:=(Zc.out.grow hb).cell 2;simp only[List.getElem?_cons_zero,List.getElem?_cons_succ]at R1;clear hb
   go_simp
   exact⟨Z5.out,trivial,rfl⟩
  ·refine bw rfl λf ZO hb H=>?_;have Oi:f 39=_:=H 39 (by decide);clear H;have Z5:=Lib.hid hb;clear hb
   go_simp
   exact⟨Z5.out,trivial,rfl⟩
  ·refine bw rfl λf ZO hb H=>?_;have e2:f 2=_:=H 2 (by decide);clear H;have Z5:=Lib.hid hb;clear hb
   go_simp
   exact⟨Z5.out,trivial,rfl⟩
  ·refine bw rfl λf ZO hb H=>?_;have Ol:f 41=_:=H 41 (by decide);clear H;have Z5:=Lib.hid hb;have RX:=(WH.out.grow hb).cell 0;simp only[List.getElem?_cons_zero]at RX;clear hb
   go_simp
   exact⟨Z5.out,trivial,rfl⟩
  ·refine bw rfl λf ZO hb H=>?_;have e3:f 3=_:=H 3 (by decide);clear H;have Z5:=Lib.hid hb;clear hb
   go_simp
   exact⟨Z5.out,trivial,rfl⟩
  ·refine bw rfl λf ZO hb H=>?_;have On:f 43=_:=H 43 (by decide);clear H;have Z5:=Lib.hid hb;clear hb
   go_simp
   exact⟨Z5.out,trivial,rfl⟩
  ·refine bw rfl λf ZO hb H=>?_;have Oo:f 44=_:=H 44 (by decide);clear H;have Z5:=Lib.hid hb;have RY:=(Zc.out.grow hb).cell 0;simp only[List.getElem?_cons_zero,List.getElem?_cons_succ]at RY;clear hb
   go_simp
   exact⟨Z5.out,trivial,rfl⟩
  ·refine bw rfl λf ZO hb H=>?_;have Om:f 42=_:=H 42 (by decide);have Oq:f 45=_:=H 45 (by decide);clear H;have Z5:=Lib.hid hb;clear hb
   go_simp
   exact⟨Z5.out,trivial,rfl⟩
  ·refine bw rfl λf ZO hb H=>?_;have Os:f 46=_:=H 46 (by decide);clear H;have Z5:=Lib.hid hb
   have ch:ZO.cell? ⟨bR,oR+k,none⟩=some (.slice (some ⟨bK,oK,none⟩) N cK):=by rw[World.cell?_of_block (hb.block bR (World.block_lt_of_cell? _ _ UZ.out) (by simp))];exact UZ.out
   clear hb
   go_simp
   exact⟨Z5.out,trivial,rfl⟩
  ·refine bw rfl λf ZO hb H=>?_;have e3:f 3=_:=H 3 (by decide);clear H;have Z5:=Lib.hid hb;clear hb
   go_simp
   exact⟨Z5.out,trivial,rfl⟩
  ·refine bw rfl λf ZO hb H=>?_;have Ou:f 48=_:=H 48 (by decide);clear H;have Z5:=Lib.hid hb;clear hb
   go_simp
   exact⟨Z5.out,trivial,rfl⟩
  ·refine bw rfl λf ZO hb H=>?_;have Ov:f 49=_:=H 49 (by decide);clear H;have Z5:=Lib.hid hb;have R0:=(Zc.out.grow hb).cell 1;simp only[List.getElem?_cons_zero,List.getElem?_cons_succ]at R0;clear hb
   go_simp
   exact⟨Z5.out,trivial,rfl⟩
  ·refine bw rfl λf ZO hb H=>?_;have Ot:f 47=_:=H 47 (by decide);have Ow:f 50=_:=H 50 (by decide);clear H;have Z5:=Lib.hid hb;clear hb
   go_simp
   refine(wi bK oK N cK j _ HJ.out.1 HJ.out.2.1 HJ.out.2.2.1 HJ.out.2.2.2).mono ?_;rw[<- Hn.out];rintro e w5 ⟨rfl,SJ⟩;exact⟨_,rfl,bC Z5.out SJ,trivial,rfl⟩
  ·refine bw rfl λf ZO hb H=>?_;have Ox:f 51=_:=H 51 (by decide);clear H;have Z5:=Lib.hid hb;clear hb
   go_simp
   exact⟨Z5.out,trivial,rfl⟩
  ·refine bw rfl λf ZO hb H=>?_;have Oj:f 40=_:=H 40 (by decide);have Oy:f 52=_:=H 52 (by decide);clear H;have Z5:=Lib.hid hb;clear hb
   go_simp
   exact⟨Z5.out,trivial,rfl⟩
  ·refine bw rfl λf ZO hb H=>?_;have Oz:f 53=_:=H 53 (by decide);clear H;have Z5:=Lib.hid hb;clear hb
   go_simp
   exact⟨Z5.out,trivial,rfl⟩
  ·refine fi _ _ _ rfl rfl λf ZO hb H=>⟨H 54 (by decide),?_⟩;have e3:f 3=_:=H 3 (by decide);clear H;have Z5:=Lib.hid hb;clear hb
   go_simp
   exact⟨Z5.out,trivial,rfl⟩
  ·refine fi _ _ _ rfl rfl λf ZO hb H=>⟨H 54 (by decide),?_⟩;have Mb:f 55=_:=H 55 (by decide);clear H;have Z5:=Lib.hid hb;have Pw:=(Zc.out.grow hb).cell 3;have Px:=(Zc.out.grow hb).cell 4;have Py:=(Zc.out.grow hb).cell 5;have Pz:=(Zc.out.grow hb).cell 6;have PA:=(Zc.out.grow hb).cell 7;have PB:=(Zc.out.grow hb).cell 8;have PC:=(Zc.out.grow hb).cell 9;have T1:=(Zc.out.grow hb).cell 10;simp only[List.getElem?_cons_zero,List.getElem?_cons_succ]at Pw Px Py Pz PA PB PC T1;clear hb
   go_simp
   exact⟨Z5.out,trivial,rfl⟩
  ·refine fi _ _ _ rfl rfl λf ZO hb H=>⟨H 54 (by decide),?_⟩;have Mc:f 56=_:=H 56 (by decide);clear H;have Z5:=Lib.hid hb;clear hb
   go_simp
   refine(HE.out _ (bC XK.out Z5.out)).mono ?_;rintro e w6 ⟨rfl,Qo⟩;exact⟨_,rfl,bC Z5.out Qo,trivial,rfl⟩
  ·refine fi _ _ _ rfl rfl λf ZO hb H=>⟨H 54 (by decide),?_⟩;have Md:f 57=_:=H 57 (by decide);clear H;have Z5:=Lib.hid hb;clear hb
   go_simp
   exact⟨Z5.out,trivial,rfl⟩
  ·refine bw rfl λf ZO hb H=>?_;have OA:f 54=_:=H 54 (by decide);have OB:f 58=_:=H 58 (by decide);clear H;have Z5:=Lib.hid hb;clear hb
   go_simp
   exact⟨Z5.out,trivial,rfl⟩
 ·intro f w9 hb hE;simp only[fE,Act.put,yU,List.setIfInBounds_toArray,List.set_cons_succ,List.set_cons_zero];have R4:f 59=.bool false:=hE.2.2.2.2.2.2.2.2.2.2.2.2.2.2.2.2.2.2.2.2.2.1;clear hE;have ZL:=hb;clear hb;rw[R4];have Pt:=Lib.hid (bC XK.out ZL);have Xj:=(WH.out.grow ZL).cell 0;have Xk:=(WH.out.grow ZL).cell 1;simp only[List.getElem?_cons_zero,List.getElem?_cons_succ]at Xj Xk;have Zc:=Lib.hid (Zc.out.grow ZL);have Ww:=Lib.hid (Ww.out.grow ZL);have QT:=ZL.size;clear ZL UZ
  go_wp2_with fail
  refine(kx F C T _ _ w9 (HU.out.grow Pt.out) (HV.out.grow Pt.out)).mono ?_;rintro e w2 ⟨a,b,fp,gp,rfl,oa,ob,ZR,YB,ZJ⟩;obtain⟨A6,c6,rfl⟩:=ob.shape;have Lm:=Lib.hid oa;obtain⟨ML,⟨e1,e2,_⟩|⟨ql,cl,cs,g,rfl,e2,l1,l2,hV,hO⟩⟩:=oa
  ·rw[e2]at y2;simp at y2;omega
  obtain⟨g1,g2,g3,d1,d2,d3,e3,e4,l3,o1,o2,o3⟩:=hO.split HK.out;obtain⟨hdr,rfl,Rn⟩:=o2;obtain⟨P3,⟨_,e5,_⟩|⟨qK,Uz,xs,g4,rfl,e6,m1,m2,PW,PU⟩⟩:=Rn
  ·have h1:=Xl.out;have h2:=HJ.out.2.1;rw[e5]at h1;simp at h1;omega
  have YZ:=BU PU;subst YZ;have Ra:=vY (PU.reads);subst Ra;rw[<- Xl.out]at e4;rw[e4,List.append_assoc]at hV;have XL:w2.grownBy (w2.alloc (.cells #[.slice (some ⟨ql,0,none⟩) C.length cl,.slice A6 T.length c6] 31)) none:=bv (bx _ _) _;have T8:Bk (w2.alloc (.cells #[.slice (some ⟨ql,0,none⟩) C.length cl,.slice A6 T.length c6] 31)) w2.heap.size 31 [.slice (some ⟨ql,0,none⟩) C.length cl,.slice A6 T.length c6]:=Bk.new;have TM:=bC Pt.out (bC ZJ XL);have Z8:=(Zc.out.grow ZJ).grow XL;have Ww:=Lib.hid ((Ww.out.grow ZJ).grow XL);have Y1:=ZJ.size;have QQ:=YB ql (by rw[e2];simp)
  have O5:qK∈fp:=by rw[e2,e3,e6];simp
  have O6:=YB qK (List.mem_append_left _ O5);have Tc:=hV.hi;have O7:=PW.hi
  have Ng:qK≠ql:=λe=>by
   have h1:=(List.nodup_append.1 ZR).1;rw[e2,e3,e6]at h1;exact(List.nodup_cons.1 h1).1 (by rw[<- e];simp)
  have Pu:=Lib.hid (And.intro ZR (And.intro YB (And.intro e2 (And.intro e3 (And.intro e6 (And.intro o1 (And.intro o3 ob)))))));have Oc:=Lib.hid (hV.grow XL);have L3:=Lib.hid (PW.grow XL);have HL:=Lib.hid (show d1.length=k from by rw[l3];exact Nat.mul_one k);have RV:=Lib.hid TM;have VF:=Lib.hid XL;have N8:=Lib.hid (show N<=Uz from by rw[Xl.out];exact m1);have L5:=Lib.hid m2;clear Xj Xk ZR YB e2 e3 e4 e6 o1 o3 ob l3 hO PU hV PW ML P3 m1 m2 O5 ZJ WH Zc
  go_upto_region 13 with fail
  generalize w2.alloc (.cells #[.slice (some ⟨ql,0,none⟩) C.length cl,.slice A6 T.length c6] 31)=W3 at *;generalize hq7:w2.heap.size=q7 at *;have Zc:=Lib.hid Z8;have Rt:=Lib.hid T8;have n0:=T8.cell 0;have XG:=Z8.cell 0;have XH:=Z8.cell 1;have XI:=Z8.cell 2;simp only[List.getElem?_cons_zero,List.getElem?_cons_succ]at n0 XG XH XI
  have nk:W3.cell? ⟨ql,k,none⟩=some (.slice (some ⟨qK,0,none⟩) N Uz):=by
   have h:=Oc.out.mid (j:=0) (u:=.slice (some ⟨qK,0,none⟩) N Uz) rfl;rw[HL.out,Nat.add_zero]at h;exact h
  have VX:0<cells.length:=by
   have h1:=Hc.out;have h2:=HJ.out.2.1;rw[<- Xl.out]at h1;omega
  rcases(HY.out.grow RV.out).cells with⟨h0,_⟩|⟨ad,cc,ys,NO,NQ,Pi,Pj⟩
  ·rw[h0]at VX;cases VX
  injection NO with Rc NP Rd
  subst Rc;subst Rd;have Xi:=vY Pj;subst Xi;have L4:=Lib.hid Pi;have TZ:=Lib.hid (show cells.length=n from by have h1:=Hc.out;rw[<- Xl.out,<- Hn.out]at h1;exact h1);clear Pi NQ Pj Z8 T8 XL TM VX
  have j2:(j:Int).toNat=j:=by omega
  have j3:(0:Int)<=(j:Int):=by omega
  go_cut []from 63 to 77 (λwx=>Hx (C.set k (iz C[k] j cells)) T w q7 (.slice (some ⟨ql,0,none⟩) C.length cl) (.slice A6 T.length c6) wx)
  case first=>
   go_still_tail 13,(by kernel_rfl)
   still_call (BQ qK 0 N Uz j _ HJ.out.1 HJ.out.2.1 N8.out HJ.out.2.2.2)
   rw[<- Hn.out]
   repeat still_step
   refine wpStill_nil ?_;obtain⟨cur,v1,v2,v3⟩:=L3.out.eq
   have TJ:(cnL cells).length=n*4:=by rw[l8,TZ.out]
   have Nt:rCn.size=4:=rfl
   have Q9:(cnL C[k]).length=N*4:=by rw[l8];exact congrArg (· * 4) Xl.out.symm
   have Ml:8*j+n<=N:=by
    have h1:=Hn.out;have h2:=HJ.out.2.1;omega
   have MB:=N8.out;change wpList _ _ _ _ _ W3.drew;refine nA 4 rfl (.tmp 73) (.tmp 75) 53 57 rfl Try.underlying53 (by kernel_rfl) qK (8*j*4) n (Uz-8*j) rfl ad cells.length c3 rfl cur 57 (cnL cells) v1 ?c1 ?c2 ?c3 (GT _) ?_
   case c1=>rw[TZ.out,TJ];simp
   case c2=>exact λj u hu=>L4.out j u hu
   case c3=>rw[TJ,v2,Nt];omega
   have hL:=ud (e:=57) (w:=W3.drew) (cs:=cnL cells) (o:=8*j*4) v1 v2 v3 (by rw[TJ];exact Nat.le_trans (by omega) (Nat.le_of_eq Q9.symm))
   have hrow:(cnL C[k]).take (8*j*4)++cnL cells++(cnL C[k]).drop (8*j*4+(cnL cells).length)=cnL (iz C[k] j cells):=by
    have e2:8*j*4+(cnL cells).length=(8*j+cells.length)*4:=by rw[l8];omega
    rw[e2,EE,EF,iz,tU,tU]
   have PS:jO 57 (W3.drew.setRow qK (cur.toList.take (8*j*4)++cnL cells++cur.toList.drop (8*j*4+(cnL cells).length)).toArray) qK (Uz*rCn.size) (cnL (iz C[k] j cells)):=by rw[<- hrow];exact hL
   obtain⟨WF,Sg⟩:∃WF,WF=(W3.drew.setRow qK (cur.toList.take (8*j*4)++cnL cells++cur.toList.drop (8*j*4+(cnL cells).length)).toArray):=⟨_,rfl⟩;rw[<- Sg]at PS⊢
   have hset:∀x,x≠qK->WF.heap[x]?=W3.heap[x]?:=λx hx=>by rw[Sg];exact setRow_other W3.drew qK x _ hx
   have hsz:WF.heap.size=W3.heap.size:=by rw[Sg];exact vR W3.drew qK _
   have RP:WF.os=W3.os/\WF.tape=W3.tape/\WF.output=W3.output:=by rw[Sg];exact⟨rfl,rfl,rfl⟩
   clear Sg;have Yl:W3.grownBy WF (some qK):=⟨RP.1,RP.2.1,RP.2.2,Nat.le_of_eq hsz.symm,λx _ hx=>hset x (λe=>hx (by rw[e]))⟩
   have TY:=Lib.hid (show Hx (C.set k (iz C[k] j cells)) T w q7 (.slice (some ⟨ql,0,none⟩) C.length cl) (.slice A6 T.length c6) WF from by
    obtain⟨ZR,YB,e2,e3,e6,o1,o3,ob⟩:=Pu.out;have Qq:=VF.out.size;have hlen:=zm (row:=C[k]) (j:=j) (cells:=cells) (by rw[TZ.out];exact Nat.le_trans Ml (Nat.le_of_eq Xl.out));have V9:(iz C[k] j cells).length=N:=hlen.trans Xl.out.symm;have Vh:∀x,x∈fp->w9.heap.size+2<=x:=λx hx=>YB x (List.mem_append_left _ hx);have OQ:=(List.nodup_append.1 ZR).1
    have RG:(ql::(g1++(qK :: [])++g3)).Nodup:=by rw[e2,e3,e6]at OQ;exact OQ
    have hin:∀x,x∈g1++(qK :: [])++g3->x∈fp:=λx hx=>by rw[e2,e3,e6];exact List.mem_cons_of_mem _ hx
    have Z1:∀x,x∈g1->x≠qK:=λx hx e=>by
     have h1:=(List.nodup_cons.1 RG).2;rw[List.append_assoc]at h1;exact(List.nodup_append.1 h1).2.2 x hx qK (by simp) e
    have Qn:∀x,x∈g3->x≠qK:=λx hx e=>by
     have h1:=(List.nodup_cons.1 RG).2;exact(List.nodup_append.1 h1).2.2 qK (by simp) x hx e.symm
    have Qr:∀x,x∈gp->x≠qK:=λx hx e=>(List.nodup_append.1 ZR).2.2 qK (hin qK (by simp)) x hx e.symm
    have hk2:∀x,x<w2.heap.size->x≠qK->WF.heap[x]?=w2.heap[x]?:=λx h1 h2=>by rw[hset x h2,VF.out.block x h1 (by simp)]
    have LK:=HS.out;refine⟨ig RV.out Yl λk e=>by injection e with e;omega,Ww.out.keep (hset _ (by omega)),Rt.out.keep (hset _ (by omega)),?_,?_⟩
    ·have hown:OSl rCs 53 WF (ql::(g1++(qK :: [])++g3)) (C.set k (iz C[k] j cells)) (.slice (some ⟨ql,0,none⟩) C.length cl):=by
      refine⟨by rw[List.length_set];exact UB,.inr ⟨ql,cl,d1++[.slice (some ⟨qK,0,none⟩) N Uz]++d3,g1++(qK :: [])++g3,by rw[List.length_set],rfl,by rw[List.length_set];exact l1,l2,?_,iv.join HK.out (o1.keep λx hx=>hk2 x (o1.live x hx) (Z1 x hx)) ⟨_,rfl,?_⟩ (o3.keep λx hx=>hk2 x (o3.live x hx) (Qn x hx))⟩⟩
      ·rw[List.append_assoc];exact Oc.out.keep (hset ql (λe=>Ng e.symm))
      ·refine⟨by rw[V9];exact HJ.out.2.2.2,.inr ⟨qK,Uz,cnL (iz C[k] j cells),[],by rw[V9],rfl,by rw[V9];exact MB,L5.out,PS,CM _ _⟩⟩
     exact hown.reads.sub λx hx=>by
      rcases List.mem_cons.1 hx with rfl|hx
      ·omega
      ·have:=Vh x (hin x hx);omega
    ·exact((ob.keep λx hx=>hk2 x (ob.live x hx) (Qr x hx)).reads).sub λx hx=>by have:=YB x (List.mem_append_right _ hx);omega)
   clear hset hsz Yl hL PS hrow RP
   go_wp2_with fail
   go_meet
   exact TY.out
  case rest=>
   have HD:=Lib.hid hcut;have j0:=hcut.st.cell 0;have j1:=hcut.st.cell 1;have r0:=hcut.res.cell 0;have r1:=hcut.res.cell 1;have f0:=hcut.res.free 0;have f1:=hcut.res.free 1;have r2:=hcut.res.hi;simp only[List.getElem?_cons_zero,List.getElem?_cons_succ]at j0 j1 r0 r1;clear hcut n0 nk XG XH XI
   go_wp2_with fail
   refine bodyPost_ret (v:=.tuple #[.agg #[.slice (some ⟨ql,0,none⟩) C.length cl,.slice A6 T.length c6],.int .i64 0]) (by simp[results,Try.results37,go_sem,r0,r1,r2]) rfl ?_;exact HD.out.ret
inductive oW (w:World)(F:Nat->Prop):TV->Value->Prop
 |im {t:TV} {x:Value} (h:fM w F t x):oW w F t x
 |fn {f:FuncId}:oW w F (.fn f []) (.func (.func f) #[] #[])
 |ag {l:List TV} {cs:Array Value} (hl:cs.size=l.length) (h:∀j (hj:j<l.length),fM w F l[j] (cs.getD j undef)):oW w F (.agg l) (.agg cs)
def GF:TV->Bool
 |.v _=>true
 |.sl _=>true
 |_=>false
def wC:TV->Bool
 |.sl _=>true
 |.v _=>true
 |.fn _ []=>true
 |.agg l=>l.all GF
 |_=>false
def vy(P:Program)(f:FuncId)(vals:List TV)(r:pt):Prop:=
 r.cells.all GF=true/\∀(avs:List Value)(w:World)(F:Nat->Prop),avs.length=vals.length->(∀j (h:j<vals.length)(h':j<avs.length),oW w F vals[j] avs[j])->
  Calls P f avs.toArray w λe w2=>∃ys,e=.returned (g8 r.sh ys)/\ys.length=r.cells.length/\Below w.heap.size w w2/\∀j (h:j<r.cells.length),fM w2 (λk=>F k\/w.heap.size<=k) r.cells[j] (ys.getD j undef)
def B7(R:FuncId->List TV->Option pt):cu:=λf vals pts=>
 match pts with
 | []=>if vals.all wC then(R f vals).map λr=>(r,[])else none
 |_=>none
section
variable {M:Fm} {σ:St} {ts:Array Value} {w:World}
theorem Inv.addHands{F:Nat->Prop}:∀{z:List TV}{ys:List Value}{H:List TV}{xs:List Value}{G:Gh},Inv M σ H xs ts w G->(∀k,F k->G.F M.A k)->z.length=ys.length->(∀j (h:j<z.length),fM w F z[j] (ys.getD j undef))->∃G',Inv M σ (H++z) (xs++ys) ts w G':=by
 intro z
 induction z with
 |nil=>
  intro ys H xs G hI _ hl _;have:ys=[]:=List.length_eq_zero_iff.1 hl.symm;subst this;exact⟨G,by simpa using hI⟩
 |cons t z ih=>
  intro ys H xs G hI hF hl hz
  cases ys with
  |nil=>simp at hl
  |cons y ys=>
   obtain⟨G1,hg⟩:=hI.addHand ((hz 0 (by simp)).frame (F':=G.F M.A) (λ_ _ _=>rfl) λk hk _=>hF k hk).toOwn
   obtain⟨G2,ZY⟩:=ih hg.1 (λk hk=>hg.2.1 k (hF k hk)) (by simpa using hl) λj hj=>by have:=hz (j+1) (by simpa using hj);simpa using this
   refine⟨G2,?_⟩;simpa using ZY
end
theorem Gz{P:Program}{R:FuncId->List TV->Option pt}(hR:∀f vals r,R f vals=some r->gt P f/\vy P f vals r):dg P (B7 R):=by
 intro f vals pts res Zw h
 cases pts with
 |cons _ _=>simp[B7]at h
 |nil=>
  simp only[B7]at h;split at h
  case isFalse=>simp at h
  rename_i ZK;simp only[List.all_eq_true]at ZK
  obtain⟨r,hr,he⟩:∃r,R f vals=some r/\(r,[])=(res,Zw):=by
   cases hr:R f vals with
   |none=>simp[hr]at h
   |some c=>exact⟨c,rfl,by simpa[hr]using h⟩
  injection he with e1 e2
  subst e1 e2;obtain⟨Zi,V4,QD⟩:=hR f vals r hr;refine⟨Zi,vals.length,Nat.le_refl _,λM avs w G hal hN Pe Y5 hI=>?_⟩;subst Pe
  have Q2:avs.toArray++Array.replicate (vals.length-avs.length) undef=avs.toArray:=by rw[hal];simp
  rw[Q2]at hI
  have hst:∀j,(mkSt vals []).t j=vals.getD j .dead:=by
   intro j;simp[St.t,mkSt,jY]
  refine(QD avs M.w0 (G.F M.A) hal λj hj ZT=>?_).mono λe w2 ⟨ys,VA,hlen,hb,Xi⟩=>?_
  ·have ht:=hI.tmr j;rw[hst]at ht
   have e1:vals.getD j .dead=vals[j]:=by simp[hj]
   have e2:avs.toArray.getD j undef=avs[j]:=by simp[Array.getD_eq_getD_getElem?,ZT]
   rw[e1,e2]at ht;have ha:=ZK _ (List.getElem_mem hj);revert ht ha;generalize vals[j]=t;generalize avs[j]=y;intro ht ha
   cases ht with
   |v h=>exact .im (.v h)
   |sl h=>exact .im h
   | @fn f l xs hl h=>
    cases l with
    |nil=>
     have:xs=#[]:=Array.eq_empty_of_size_eq_zero (by simpa using hl);subst this;exact .fn
    |cons _ _=>simp[wC]at ha
   | @agg l cs hl h=>
    refine .ag hl λj hj=>?_;have h1:GF l[j]=true:=List.all_eq_true.1 ha _ (List.getElem_mem hj);have h2:=h j hj;revert h1 h2;generalize l[j]=t;generalize cs.getD j undef=z;intro h1 h2
    cases h2 with
    |v h2=>exact .v h2
    |sl h2=>exact h2
    |_=>simp[GF]at h1
   |_=>simp[wC]at ha
  ·obtain⟨ZY,_⟩:=hI.grow (w':=w2) (λk hk=>hb.block k hk) hb.size hb.os hb.tape hb.output
   have hF:∀k,G.F M.A k\/M.w0.heap.size<=k->G.F M.A k:=by
    rintro k (hk|hk)
    ·exact hk
    ·refine⟨M.hA k hk,λr o hφ=>?_,λr b o n hβ e=>?_⟩
     ·have:=hI.core.live hφ;omega
     ·subst e;have:=hI.core.boxlt hβ;omega
   obtain⟨G',Ye⟩:=ZY.addHands hF hlen.symm Xi;refine⟨_,mkSt vals [],VA,.inl ⟨ys,avs.toArray,G',rfl,by simpa using Ye,λj hj=>.inl ?_⟩,rfl⟩;have:=List.all_eq_true.1 V4 _ (List.getElem_mem hj);revert this;generalize r.cells[j]=t;intro this
   cases t with
   |v _=>rfl
   |sl _=>rfl
   |_=>simp[GF]at this
def yg:TV->Bool
 |.v _=>true
 |.sl _=>true
 |.ow _=>true
 |_=>false
theorem oW.toTm{w:World}{F:Nat->Prop}{V:Vs}{C:Cs}{G:Gh}{t:TV}{x:Value}(h:oW w F t x):TmR w F V C G t x:=by
 cases h with
 |im h=>exact h.toTm
 |fn=>exact .fn rfl λj hj=>by simp at hj
 |ag hl h=>exact .agg hl λj hj=>(h j hj).toTm
theorem oW.frame{w w':World}{F F':Nat->Prop}{t:TV}{x:Value}(h:oW w F t x)(hw:∀k,F k->k<w.heap.size->w'.heap[k]?=w.heap[k]?)(hF:∀k,F k->k<w.heap.size->F' k):oW w' F' t x:=by
 cases h with
 |im h=>exact .im (h.frame hw hF)
 |fn=>exact .fn
 |ag hl h=>exact .ag hl λj hj=>(h j hj).frame hw hF
theorem tY{P:Program}{B:cu}(hB:dg P B){f:FuncId}{vals:List TV}{avs:List Value}{res:pt}{w:World}{F:Nat->Prop}(h:B f vals []=some (res,[]))(Zq:res.cells.all yg=true)(hl:avs.length=vals.length)
 (hv:∀j (h:j<vals.length)(h':j<avs.length),oW w F vals[j] avs[j]):
 Calls P f avs.toArray w λe w'=>∃ys,e=.returned (g8 res.sh ys)/\ys.length=res.cells.length/\Below w.heap.size w w'/\∀j (h:j<res.cells.length),fM w' (λk=>F k\/w.heap.size<=k) res.cells[j].imm (ys.getD j undef):=by
 obtain⟨Zi,N,hN,hc⟩:=hB f vals [] _ _ h;obtain⟨M,hM⟩:∃M:Fm,M=⟨w,λk=>F k\/w.heap.size<=k,λ_=>False,λ_=>none,N,λk hk=>.inr hk⟩:=⟨_,rfl⟩;have Zo:∀k,F k->frG.F M.A k:=λk hk=>⟨by rw[hM];exact .inl hk,λ_ _ h=>h,λ_ _ _ _ h=>by simp[frG]at h⟩
 have hst:∀i,(mkSt vals []).t i=vals.getD i .dead:=by
  intro i;simp[St.t,mkSt,jY]
 have hE:∀r o,bM M (mkSt vals []) [] r o=.dead:=by
  intro r o;unfold bM;split
  ·simp
  ·rfl
 have hI:Inv M (mkSt vals []) [] [] (avs.toArray++Array.replicate (N-avs.length) undef) w frG:=by
  refine⟨⟨λr o=>.inl ⟨hE r o,λ_ h=>h⟩,λ_ _ _ _ h=>by simp[frG]at h,λ_ _ _ _ h=>by simp[frG]at h,λ_ _ _ _ _ _ _ h=>by simp[frG]at h,λ_ _ _ _ h=>by simp[frG]at h,λ_ _ _ _ _ h=>h.elim,λ_ _ _ h=>h.elim⟩,λi=>?_,⟨by rw[hM],by rw[hM],by rw[hM],by rw[hM];exact Nat.le_refl _,λ_ _ _ _=>by rw[hM],λ_ _ _ _ h=>by simp[hM]at h,λ_ _ _ h=>h.elim,λ_ _ _ _ h=>by simp[frG]at h,λ_ h=>by simp[frG]at h⟩,λr l h=>by simp[mkSt,bO]at h,?_,rfl,λj hj=>by simp at hj,λ_ _ _ _ h=>by simp[frG]at h⟩
  ·rw[hst];by_cases hi:i<vals.length
   ·have ZH:i<avs.length:=by omega
    have e1:vals.getD i .dead=vals[i]:=by simp[hi]
    have e2:(avs.toArray++Array.replicate (N-avs.length) undef).getD i undef=avs[i]:=by
     simp[Array.getD_eq_getD_getElem?,Array.getElem?_append,ZH]
    rw[e1,e2];exact((hv i hi ZH).frame (w':=w) (F':=frG.F M.A) (λ_ _ _=>rfl) λk hk _=>Zo k hk).toTm
   ·have e1:vals.getD i .dead=.dead:=by rw[oGD,oGN (by omega)];rfl
    rw[e1];exact .dead
  ·rw[hM];simp;omega
 refine(hc M avs w frG hl (by rw[hM]) (by rw[hM]) (λr hr=>by simp[hM]at hr) hI).mono λe w2 ⟨v,σ2,he,Yn,_⟩=>?_
 rcases Yn with⟨ys,ts2,G2,rfl,ZY,_⟩|⟨q,vs,l,pv,ts2,G2,ZW,_⟩
 rotate_left
 ·rw[ZW]at Zq;simp[yg]at Zq
 have ZR:∀j (h:j<res.cells.length),res.cells[j]≠.dead:=λj hj e=>by
  have:=List.all_eq_true.1 Zq res.cells[j] (List.getElem_mem hj);rw[e]at this;simp[yg]at this
 obtain⟨G3,TM,V4⟩:=ZY.dropImm ZR;refine⟨ys,he,ZY.hand.symm,⟨?_,?_,?_,?_,λk hk=>?_⟩,λj hj=>(V4 j hj).frame (λ_ _ _=>rfl) λk hk _=>?_⟩
 ·have:=ZY.fram.os;rw[hM]at this;exact this
 ·have:=ZY.fram.tape;rw[hM]at this;exact this
 ·have:=ZY.fram.output;rw[hM]at this;exact this
 ·have:=ZY.fram.size;rw[hM]at this;exact this
 ·have:=ZY.fram.old k (by rw[hM];exact hk) (by rw[hM];exact λh=>h) λ_ _ _ _ h=>by simp[hM]at h
  rw[this,hM]
 ·have:=hk.1;rw[hM]at this;exact this
abbrev Jv:CT:=(.pair (.int .u8) (.pair (.int .u16) (.pair I64 I64)))
abbrev Hm:CT:=(.pair I64 (.pair I64 (.pair I64 (.pair I64 (.pair I64 (.pair I64 (.pair (.int .u16) (.row false Jv))))))))
abbrev kK:CT:=(.row false Jv)
abbrev RIi:CT:=(.row false I64)
abbrev rB:Type:=(Int×Int×Int×Int)
abbrev Js:Type:=(Int×Int×Int×Int×Int×Int×Int×List rB)
def HHi(f i:Nat):List (Nat×Option Nat):=if f=60 then(if i=0 then[(4,none)]else[])else[]
noncomputable def TTi (f:FuncId):Option TFn:=kA Try.prog (HHi f) f
noncomputable def E0i:Env:={ box:=λ_=>none,ps:=λf=>I9 Try.prog f }
theorem HW:t6 Try.prog TTi:=vI HHi (by kernel_rfl)
def lk(a0:Int):Option (Bool×Unit):=
bif(decide (a0>=1))then(some ((decide (a0<=32)),()))else
some (false,())
noncomputable def re:X.Cfg:=⟨E0i,[],[],[]⟩
def lu:Ctr:=⟨43,0,[shU I64],[],[⟨[shU .bool],[.one],[]⟩],λh=>lk h.1⟩
set_option maxRecDepth 100000 in
theorem qT:Lvl E0i TTi noB 1 lu:=eT (n:=0) (C:=re) rfl (.intro) (gw (by kernel_rfl)) (λh=>by kernel_rfl)
def iT(a0:List rB):Option (Bool×Unit):=
let x0:Int:=(bB (List.length a0));
(lk x0).bind λ(x1,_)=>
some ((!x1),())
noncomputable def nU:X.Cfg:=⟨E0i,[lu],[],[]⟩
def jg:Ctr:=⟨83,1,[shU kK],[],[⟨[shU .bool],[.one],[]⟩],λh=>iT h.1⟩
set_option maxRecDepth 100000 in
theorem nS:Lvl E0i TTi noB 2 jg:=eT (n:=1) (C:=nU) rfl (.intro (qT.mono (by decide)) (.intro)) (gw (by kernel_rfl)) (λh=>by kernel_rfl)
def gE:(List (List rB))×Int×Int×Unit->Option (((List (List rB))×Int×Int×Unit)⊕((Int×Unit)⊕((List (List rB))×Int×Int×Bool×Unit))):=λ(v0,v1,v2,_)=>
bif(decide (v2<v1))then((dM v2).bind λx0=>
(dh v0 x0).bind λx1=>
(iT x1).bind λ(x2,_)=>
bif x2 then(some (.inr (.inl (v2,()))))else
let x3:Int:=(w64 (v2+1));
some (.inl (v0,v1,x3,())))else
some (.inr (.inr (v0,v1,v2,false,())))
def eE(a0:List (List rB)):Option (Int×Unit):=
let x0:Int:=(bB (List.length a0));
(match bH gE NN (a0,x0,0,())with
|none=>none
|some (.inl (x1,_))=>
some (x1,())
|some (.inr (x1,x2,x3,x4,_))=>
some ((-1),()))
noncomputable def iP:X.Cfg:=⟨E0i,[jg],[],[⟨3,0,⟨[(0,shU (.row false kK)),(1,.fn 83 []),(7,shU I64),(8,shU I64)],[],[],([],[])⟩,[(.ret,⟨[(4,shU I64)],[],[],([],[])⟩),(.exit 0,⟨[(0,shU (.row false kK)),(1,.fn 83 []),(7,shU I64),(8,shU I64),(9,shU .bool)],[],[],([],[])⟩)]⟩]⟩
def eK:Ctr:=⟨96,2,[shU (.row false kK),.fn 83 []],[],[⟨[shU I64],[.one],[]⟩],λh=>eE h.1⟩
set_option maxRecDepth 100000 in
theorem iN:Lvl E0i TTi noB 3 eK:=eT (n:=2) (C:=iP) rfl (.intro (nS.mono (by decide)) (.intro)) (gw (by kernel_rfl)) (λh=>by kernel_rfl)
def dW(a0:List (List rB)):Option (Bool×Unit):=
(eE a0).bind λ(x0,_)=>
some ((decide (x0>=0)),())
noncomputable def gO:X.Cfg:=⟨E0i,[eK],[],[]⟩
def dY:Ctr:=⟨82,3,[shU (.row false kK),.fn 83 []],[],[⟨[shU .bool],[.one],[]⟩],λh=>dW h.1⟩
set_option maxRecDepth 100000 in
theorem gN:Lvl E0i TTi noB 4 dY:=eT (n:=3) (C:=gO) rfl (.intro (iN.mono (by decide)) (.intro)) (gw (by kernel_rfl)) (λh=>by kernel_rfl)
def jR(a0:List (List rB))(a1:List Js):Option (Bool×Unit):=
let x0:Int:=(bB (List.length a0));
bif(decide (x0<=4))then(let x1:Int:=(bB (List.length a1));
bif(decide (x1<=4))then((dW a0).bind λ(x2,_)=>
some ((!x2),()))else
some (false,()))else
some (false,())
noncomputable def p9:X.Cfg:=⟨E0i,[dY],[],[]⟩
def kB:Ctr:=⟨49,4,[.agg [shU (.row false kK),shU (.row false Hm)]],[],[⟨[shU .bool],[.one],[]⟩],λh=>jR h.1 h.2.1⟩
set_option maxRecDepth 100000 in
theorem pW:Lvl E0i TTi noB 5 kB:=eT (n:=4) (C:=p9) rfl (.intro (gN.mono (by decide)) (.intro)) (gw (by kernel_rfl)) (λh=>by kernel_rfl)
def mi(a0:List rB)(a1:Int):Option ((List rB)×Unit):=
(bif(decide (a1<0))then(some (a0,a1,true,()))else
bif(decide (a1>32))then(some (a0,a1,true,()))else
let x0:Int:=(w64 (a1*8));
let x1:Int:=(bB (List.length a0));
some (a0,a1,(decide (x0>=x1)),()):Option ((List rB)×Int×Bool×Unit)).bind λ(x0,x1,x2,_)=>
bif x2 then(some ([],()))else
let x3:Int:=(w64 (x1*8));
let x4:Int:=(w64 (x3+8));
let x5:Int:=(bB (List.length x0));
let x6:Int:=(mmR false x4 x5);
(dM x3).bind λx7=>
(dM x6).bind λx8=>
bif(pC x7 x8 (List.length x0))then let x9:List rB:=(Fy x0 x7 (Nat.sub x8 x7));
some (x9,())else none
noncomputable def th:X.Cfg:=⟨E0i,[],[],[⟨2,0,⟨[],[],[],([],[])⟩,[(.normal,⟨[(0,shU kK),(1,shU I64),(18,shU .bool)],[],[],([],[])⟩)]⟩]⟩
def mX:Ctr:=⟨60,5,[shU kK,shU I64],[],[⟨[shU kK],[.one],[]⟩],λh=>mi h.1 h.2.1⟩
set_option maxRecDepth 100000 in
theorem sN:Lvl E0i TTi noB 1 mX:=eT (n:=0) (C:=th) rfl (.intro) (gw (by kernel_rfl)) (λh=>by kernel_rfl)
def lj(a0:List (List rB))(a1:List Js)(a2:Int)(a3:Int):Option (Bool×Unit):=
bif(a2==(-1))then(bif(decide (a3>=0))then(let x0:Int:=(bB (List.length a1));
some ((decide (a3<x0)),()))else
some (false,()))else
bif(decide (a2>=0))then(let x0:Int:=(bB (List.length a0));
bif(decide (a2<x0))then((dM a2).bind λx1=>
(dh a0 x1).bind λx2=>
(mi x2 a3).bind λ(x3,_)=>
let x4:Int:=(bB (List.length x3));
some ((decide (x4>0)),()))else
some (false,()))else
some (false,())
noncomputable def rd:X.Cfg:=⟨E0i,[mX],[],[]⟩
def lq:Ctr:=⟨85,6,[.agg [shU (.row false kK),shU (.row false Hm)],.agg [shU I64,shU I64]],[],[⟨[shU .bool],[.one],[]⟩],λh=>lj h.1 h.2.1 h.2.2.1 h.2.2.2.1⟩
set_option maxRecDepth 100000 in
theorem qR:Lvl E0i TTi noB 2 lq:=eT (n:=1) (C:=rd) rfl (.intro (sN.mono (by decide)) (.intro)) (gw (by kernel_rfl)) (λh=>by kernel_rfl)
def dk(a0:List (List rB))(a1:List Js)(a2:Int)(a3:Int):Option (Int×Unit):=
(jR a0 a1).bind λ(x0,_)=>
bif(!x0)then(some (1,()))else
(lj a0 a1 a2 a3).bind λ(x1,_)=>
bif(!x1)then(some (30,()))else
some (0,())
noncomputable def tp:X.Cfg:=⟨E0i,[kB,lq],[],[]⟩
def tV:Ctr:=⟨58,7,[.agg [shU (.row false kK),shU (.row false Hm)],.agg [shU I64,shU I64]],[],[⟨[shU I64],[.one],[]⟩],λh=>dk h.1 h.2.1 h.2.2.1 h.2.2.2.1⟩
set_option maxRecDepth 100000 in
theorem sQ:Lvl E0i TTi noB 6 tV:=eT (n:=5) (C:=tp) rfl (.intro (pW.mono (by decide)) (.intro (qR.mono (by decide)) (.intro))) (gw (by kernel_rfl)) (λh=>by kernel_rfl)
def eF(a0:Int)(a1:Int)(a2:Int)(a3:Int)(a4:Int)(a5:Int)(a6:Int)(a7:List rB):Option (Bool×Unit):=
bif(a0==0)then(bif(a1==0)then(bif(a2==0)then(bif(a3==0)then(bif(a4==0)then(bif(a5==0)then(bif(a6==0)then(let x0:Int:=(bB (List.length a7));
some ((x0==0),()))else
some (false,()))else
some (false,()))else
some (false,()))else
some (false,()))else
some (false,()))else
some (false,()))else
some (false,())
noncomputable def rf:X.Cfg:=⟨E0i,[],[],[]⟩
def rv:Ctr:=⟨61,8,[.agg [shU I64,shU I64,shU I64,shU I64,shU I64,shU I64,shU (.int .u16),shU kK]],[],[⟨[shU .bool],[.one],[]⟩],λh=>eF h.1 h.2.1 h.2.2.1 h.2.2.2.1 h.2.2.2.2.1 h.2.2.2.2.2.1 h.2.2.2.2.2.2.1 h.2.2.2.2.2.2.2.1⟩
set_option maxRecDepth 100000 in
theorem qU:Lvl E0i TTi noB 1 rv:=eT (n:=0) (C:=rf) rfl (.intro) (gw (by kernel_rfl)) (λh=>by kernel_rfl)
def lJ:Int×(List (Int))×Int×Int×Int×(List (Int))×Unit->Option ((Int×(List (Int))×Int×Int×Int×(List (Int))×Unit)⊕(Int×(List (Int))×Int×Int×Int×Bool×(List (Int))×Unit)):=λ(v0,v1,v2,v3,v4,v5,_)=>
bif(decide (v4<8))then(let x0:Int:=(wk .u64 v0);
let x1:Int:=(w64 (8*v4));
(dM x1).bind λx2=>
let x3:Int:=(shR .shr .u64 x0 x2);
let x4:Int:=(wk .u8 x3);
bif(cn 1 (List.length v5) (List.length [x4]))then let x5:List (Int):=(List.append v5 [x4]);
let x6:Int:=(w64 (v4+1));
some (.inl (v0,v1,v2,v3,x6,x5,()))else none)else
some (.inr (v0,v1,v2,v3,v4,false,v5,()))
def lI:(List (Int))×Int×Int×(List (Int))×Unit->Option (((List (Int))×Int×Int×(List (Int))×Unit)⊕((List (Int))×Int×Int×Bool×(List (Int))×Unit)):=λ(v0,v1,v2,v3,_)=>
bif(decide (v2<v1))then((dM v2).bind λx0=>
(dh v0 x0).bind λx1=>
(bH lJ NN (x1,v0,v1,v2,0,v3,())).bind λ(x2,x3,x4,x5,x6,x7,x8,_)=>
let x9:Int:=(w64 (x5+1));
some (.inl (x3,x4,x9,x8,())))else
some (.inr (v0,v1,v2,false,v3,()))
def dN(a0:List (Int))(a1:List (Int)):Option ((List (Int))×Unit):=
let x0:Int:=(bB (List.length a0));
(bH lI NN (a0,x0,0,a1,())).bind λ(x1,x2,x3,x4,x5,_)=>
some (x5,())
noncomputable def oO:X.Cfg:=⟨E0i,[],[],[⟨9,0,⟨[(0,.pk ⟨3,0,[]⟩ [0,0]),(6,shU I64),(8,shU RIi),(9,shU I64),(10,shU I64),(14,shU I64)],[(3,[shU (.row true (.int .u8))])],[],([],[])⟩,[(.exit 2,⟨[(0,.pk ⟨3,0,[]⟩ [0,0]),(6,shU I64),(8,shU RIi),(9,shU I64),(10,shU I64),(14,shU I64),(15,shU .bool)],[(3,[shU (.row true (.int .u8))])],[],([],[])⟩)]⟩,⟨3,1,⟨[(0,.pk ⟨3,0,[]⟩ [0,0]),(8,shU RIi),(9,shU I64),(10,shU I64)],[(3,[shU (.row true (.int .u8))])],[],([],[])⟩,[(.exit 0,⟨[(0,.pk ⟨3,0,[]⟩ [0,0]),(8,shU RIi),(9,shU I64),(10,shU I64),(11,shU .bool)],[(3,[shU (.row true (.int .u8))])],[],([],[])⟩)]⟩]⟩
def gz:Ctr:=⟨64,9,[.pk ⟨3,0,[]⟩ [0,0],shU RIi],[(3,[shU (.row true (.int .u8))])],[⟨[shU (.row true (.int .u8))],[.one],[(3,[])]⟩],λh=>dN h.1 h.2.1⟩
set_option maxRecDepth 100000 in
theorem jI:Lvl E0i TTi noB 1 gz:=eT (n:=0) (C:=oO) rfl (.intro) (gw (by kernel_rfl)) (λh=>by kernel_rfl)
def oF:(List rB)×Int×Int×(List (Int))×Unit->Option (((List rB)×Int×Int×(List (Int))×Unit)⊕((List rB)×Int×Int×Bool×(List (Int))×Unit)):=λ(v0,v1,v2,v3,_)=>
bif(decide (v2<v1))then((dM v2).bind λx0=>
(dh v0 x0).bind λx1=>
let x2:Int:=(wk .i64 x1.1);
let x3:Int:=(wk .i64 x1.2.1);
let x4:List (Int):=[x2,x3,x1.2.2.1,x1.2.2.2];
(dN x4 v3).bind λ(x5,_)=>
let x6:Int:=(w64 (v2+1));
some (.inl (v0,v1,x6,x5,())))else
some (.inr (v0,v1,v2,false,v3,()))
def jm(a0:List rB)(a1:List (Int)):Option ((List (Int))×Unit):=
let x0:Int:=(bB (List.length a0));
(dN [x0] a1).bind λ(x1,_)=>
let x2:Int:=(bB (List.length a0));
(bH oF NN (a0,x2,0,x1,())).bind λ(x3,x4,x5,x6,x7,_)=>
some (x7,())
noncomputable def tj:X.Cfg:=⟨E0i,[gz],[],[⟨4,0,⟨[(0,.pk ⟨3,0,[]⟩ [0,0]),(12,shU kK),(13,shU I64),(14,shU I64)],[(3,[shU (.row true (.int .u8))])],[],([],[])⟩,[(.exit 0,⟨[(0,.pk ⟨3,0,[]⟩ [0,0]),(12,shU kK),(13,shU I64),(14,shU I64),(15,shU .bool)],[(3,[shU (.row true (.int .u8))])],[],([],[])⟩)]⟩]⟩
def mY:Ctr:=⟨63,10,[.pk ⟨3,0,[]⟩ [0,0],shU kK],[(3,[shU (.row true (.int .u8))])],[⟨[shU (.row true (.int .u8))],[.one],[(3,[])]⟩],λh=>jm h.1 h.2.1⟩
set_option maxRecDepth 100000 in
theorem sO:Lvl E0i TTi noB 2 mY:=eT (n:=1) (C:=tj) rfl (.intro (jI.mono (by decide)) (.intro)) (gw (by kernel_rfl)) (λh=>by kernel_rfl)
def eG(a0:Int)(a1:Int)(a2:List rB)(a3:Int)(a4:Int)(a5:Int)(a6:Int)(a7:Int)(a8:Int)(a9:Int)(a10:List rB):Option ((List (Int))×Unit):=
let x0:List (Int):=[a0,a1];
(dN x0 []).bind λ(x1,_)=>
(jm a2 x1).bind λ(x2,_)=>
let x3:Int:=(wk .i64 a9);
let x4:List (Int):=[a3,a4,a5,a6,a7,a8,x3];
(dN x4 x2).bind λ(x5,_)=>
(jm a10 x5).bind λ(x6,_)=>
some (x6,())
noncomputable def rh:X.Cfg:=⟨E0i,[gz,mY],[],[]⟩
def lw:Ctr:=⟨44,11,[.agg [shU I64,shU I64,shU kK,shU I64,shU I64,shU I64,shU I64,shU I64,shU I64,shU (.int .u16),shU kK]],[],[⟨[shU (.row true (.int .u8))],[.one],[]⟩],λh=>eG h.1 h.2.1 h.2.2.1 h.2.2.2.1 h.2.2.2.2.1 h.2.2.2.2.2.1 h.2.2.2.2.2.2.1 h.2.2.2.2.2.2.2.1 h.2.2.2.2.2.2.2.2.1 h.2.2.2.2.2.2.2.2.2.1 h.2.2.2.2.2.2.2.2.2.2.1⟩
set_option maxRecDepth 100000 in
theorem qV:Lvl E0i TTi noB 3 lw:=eT (n:=2) (C:=rh) rfl (.intro (jI.mono (by decide)) (.intro (sO.mono (by decide)) (.intro))) (gw (by kernel_rfl)) (λh=>by kernel_rfl)
def pgC(p:Fs)(y z:Value):List Value:=.int .i64 p.1 :: .int .i64 p.2.1::y::vwC p.2.2.2 z
theorem If{w:World}{F:Nat->Prop}{p:Fs}{cs:List Value}(h:rPg.rep w F p cs):∃y z,cs=pgC p y z/\RSl rCn w F p.2.2.1 y/\RSl rCn w F p.2.2.2.2.2.2.2.2.2.2 z:=by
 obtain⟨_,_,rfl,rfl,_,_,rfl,rfl,_,_,rfl,⟨y,rfl,hy⟩,hv⟩:=h;obtain⟨z,rfl,hz⟩:=E4 hv;exact⟨y,z,rfl,hy,hz⟩
theorem Iy:rC Try.prog E0i:=yF λf n tm h=>by simp[E0i]at h
theorem Jh(k:Nat):dg Try.prog (runF E0i TTi noB k):=runF_ok HW Iy Ii k
theorem kw{w w':World}(h:Below w.heap.size w w'):w.grownBy w' none:=⟨h.os,h.tape,h.output,h.size,λk hk _=>h.block k hk⟩
theorem CD(C:List (List Cn4))(T:List Vw8)(r i fe:Int)(h:dk C T r i=some (fe,())):
 runF E0i TTi noB (NN+6) 58 [.agg [.sl (C.map (enc cCs)),.sl (T.map (enc cVw))],.agg [.v (.int .i64 r),.v (.int .i64 i)]] []=some (⟨[.v (.int .i64 fe)],[.one]⟩,[]):=
 sQ 6 (Nat.le_refl _) ⟨C,T,r,i,()⟩ (fe,()) _ h rfl
theorem zS{w:World}{F:Nat->Prop}{C:List (List Cn4)}{T:List Vw8}{U V:Value}{r i fe:Int}(hu:RSl rCs w F C U)(hv:RSl rVw w F T V)(h:dk C T r i=some (fe,())):
 ∀w',w.grownBy w' none->Calls Try.prog 58 #[.agg #[U,V],.agg #[.int .i64 r,.int .i64 i]] w' λe w2=>e=.returned (.int .i64 fe)/\w'.grownBy w2 none:=λw' hg=>by
 refine(tY (Jh _) (CD C T r i fe h) rfl (avs:=[.agg #[U,V],.agg #[.int .i64 r,.int .i64 i]]) (w:=w') (F:=F) rfl λj hj _=>?_).mono ?_
 ·have hj:j<2:=hj
  match j,hj with
  |0,_=>
   refine .ag rfl λj hj=>?_;have hj:j<2:=hj
   match j,hj with
   |0,_=>exact rS uz (hu.grow hg)
   |1,_=>exact rS xQ (hv.grow hg)
  |1,_=>
   refine .ag rfl λj hj=>?_;have hj:j<2:=hj
   match j,hj with
   |0,_=>exact .v rfl
   |1,_=>exact .v rfl
 ·rintro e w2 ⟨ys,rfl,hl,hb,Xi⟩;obtain⟨y,rfl⟩:=List.length_eq_one_iff.1 hl;have h0:=Xi 0 Nat.one_pos;replace h0:fM w2 _ (.v (.int .i64 fe)) y:=h0
  cases h0 with
  |v _=>exact⟨rfl,kw hb⟩
theorem zW(v0 v1 v2 v3 v4 v5 v6:Int)(L:List Cn4)(eb:Bool)(h:eF v0 v1 v2 v3 v4 v5 v6 L=some (eb,())):
 runF E0i TTi noB (NN+1) 61 [.agg [.v (.int .i64 v0),.v (.int .i64 v1),.v (.int .i64 v2),.v (.int .i64 v3),.v (.int .i64 v4),.v (.int .i64 v5),.v (.int .u16 v6),.sl (L.map (enc cCn))]] []=some (⟨[.v (.bool eb)],[.one]⟩,[]):=
 qU 1 (Nat.le_refl _) ⟨v0,v1,v2,v3,v4,v5,v6,L,()⟩ (eb,()) _ h rfl
theorem wT{w:World}{F:Nat->Prop}{v0 v1 v2 v3 v4 v5 v6:Int}{L:List Cn4}{Z:Value}{eb:Bool}(hz:RSl rCn w F L Z)(h:eF v0 v1 v2 v3 v4 v5 v6 L=some (eb,())):
 ∀w',w.grownBy w' none->Calls Try.prog 61 #[.agg #[.int .i64 v0,.int .i64 v1,.int .i64 v2,.int .i64 v3,.int .i64 v4,.int .i64 v5,.int .u16 v6,Z]] w' λe w2=>e=.returned (.bool eb)/\w'.grownBy w2 none:=λw' hg=>by
 refine(tY (Jh _) (zW v0 v1 v2 v3 v4 v5 v6 L eb h) rfl (avs:=[.agg #[.int .i64 v0,.int .i64 v1,.int .i64 v2,.int .i64 v3,.int .i64 v4,.int .i64 v5,.int .u16 v6,Z]]) (w:=w') (F:=F) rfl λj hj _=>?_).mono ?_
 ·have hj:j<1:=hj
  match j,hj with
  |0,_=>
   refine .ag rfl λj hj=>?_;have hj:j<8:=hj
   match j,hj with
   |0,_=>exact .v rfl
   |1,_=>exact .v rfl
   |2,_=>exact .v rfl
   |3,_=>exact .v rfl
   |4,_=>exact .v rfl
   |5,_=>exact .v rfl
   |6,_=>exact .v rfl
   |7,_=>exact rS Fb (hz.grow hg)
 ·rintro e w2 ⟨ys,rfl,hl,hb,Xi⟩;obtain⟨y,rfl⟩:=List.length_eq_one_iff.1 hl;have h0:=Xi 0 Nat.one_pos;replace h0:fM w2 _ (.v (.bool eb)) y:=h0
  cases h0 with
  |v _=>exact⟨rfl,kw hb⟩
theorem Fg(l:List Int):(TV.ow (l.map (enc (.int .u8)))).imm=.sl (l.map (enc (.int .u8))):=by
 simp only[TV.imm,iJ,List.map_map];rfl
theorem GB{P:Program}{B:cu}(hB:dg P B){f:FuncId}{vals:List TV}{res:pt}(h:B f vals []=some (res,[]))(Zq:res.cells.all yg=true)(h2:(res.cells.map TV.imm).all GF=true):vy P f vals ⟨res.cells.map TV.imm,res.sh⟩:=by
 refine⟨h2,λavs w F hl hv=>(tY hB h Zq hl hv).mono ?_⟩;rintro e w2 ⟨ys,e1,e2,e3,e4⟩;refine⟨ys,e1,by simpa using e2,e3,λj hj=>?_⟩
 have ZT:j<res.cells.length:=by simpa using hj
 simpa using e4 j ZT
theorem Ah(p:Fs)(bs:List Int)(h:eG p.1 p.2.1 p.2.2.1 p.2.2.2.1 p.2.2.2.2.1 p.2.2.2.2.2.1 p.2.2.2.2.2.2.1 p.2.2.2.2.2.2.2.1 p.2.2.2.2.2.2.2.2.1 p.2.2.2.2.2.2.2.2.2.1 p.2.2.2.2.2.2.2.2.2.2=some (bs,())):
 runF E0i TTi noB (NN+3) 44 [.agg (enc cPg p)] []=some (⟨[.ow (bs.map (enc (.int .u8)))],[.one]⟩,[]):=by
 obtain⟨a,c,pc,v0,v1,v2,v3,v4,v5,v6,pr⟩:=p;have h2:eG a c pc v0 v1 v2 v3 v4 v5 v6 pr=some (bs,()):=h
 exact qV 3 (Nat.le_refl _) ⟨a,c,pc,v0,v1,v2,v3,v4,v5,v6,pr,()⟩ (bs,()) _ (by
  unfold lw;dsimp only
  exact h2) rfl
theorem CY(p:Fs)(bs:List Int)(h:eG p.1 p.2.1 p.2.2.1 p.2.2.2.1 p.2.2.2.2.1 p.2.2.2.2.2.1 p.2.2.2.2.2.2.1 p.2.2.2.2.2.2.2.1 p.2.2.2.2.2.2.2.2.1 p.2.2.2.2.2.2.2.2.2.1 p.2.2.2.2.2.2.2.2.2.2=some (bs,())):
 vy Try.prog 44 [.agg (enc cPg p)] ⟨[.sl (bs.map (enc (.int .u8)))],[.one]⟩:=by
 have h2:=GB (Jh _) (Ah p bs h) rfl (by
  show(GF ((TV.ow (bs.map (enc (.int .u8)))).imm)&&true)=true;rw[Fg]
  rfl)
 rw[<- Fg bs];exact h2
theorem oW.agg_out{w:World}{F:Nat->Prop}{l:List TV}{x:Value}(h:oW w F (.agg l) x):∃cs:List Value,x=.agg cs.toArray/\lh w F l cs:=by
 cases h with
 |im h=>cases h
 | @ag _ cs hl h=>
  refine⟨cs.toList,by simp,lh.of (by simpa using hl.symm) λj hj=>?_⟩;have:=h j hj;simpa[Array.getD_eq_getD_getElem?,oGD]using this
theorem xm{w w':World}(h:w.grownBy w' none):Below w.heap.size w w':=⟨h.os,h.tape,h.output,h.size,λk hk=>h.block k hk (by simp)⟩
def Bo(C:List (List Cn4))(T:List Vw8)(cells L:List Cn4):Bool:=decide (C.length<=1099511627776)&&C.all (λx=>decide (x.length<=1099511627776))&&decide (T.length<=1099511627776)&&T.all (λx=>decide (x.2.2.2.2.2.2.2.length<=1099511627776))&&decide (cells.length<=1099511627776)&&decide (L.length<=1099511627776)
def cj(C:List (List Cn4))(T:List Vw8)(a0 a1:Int)(cells:List Cn4)(v0 v1 v2 v3 v4 v5 v6:Int)(L:List Cn4):Option (List (List Cn4)×List Vw8×Int×Unit):=
 if Bo C T cells L=true then
  (dk C T a0 a1).bind λ(fe,_)=>
  if fe≠0 then some ([],[],fe,())
  else if a0=-1 then(if 0<cells.length then some ([],[],5,())else if 0<=a1/\a1.toNat<T.length then some (C,T.set a1.toNat (v0,v1,v2,v3,v4,v5,v6,L),0,())else none)
  else if 0<=a0/\a0.toNat<C.length/\0<=a1/\a1<=32/\8*a1.toNat<(C.getD a0.toNat []).length then
   (eF v0 v1 v2 v3 v4 v5 v6 L).bind λ(eb,_)=>
   if cells.length≠min 8 ((C.getD a0.toNat []).length-8*a1.toNat)\/eb=false then some ([],[],5,())else some (C.set a0.toNat (iz (C.getD a0.toNat []) a1.toNat cells),T,0,())
  else none
 else none
def kJ(C':List (List Cn4))(T':List Vw8)(err:Int)(w:World)(e:Ending)(w':World):Prop:=
 ∃a b,e=.returned (.tuple #[.agg #[a,b],.int .i64 err])/\RSl rCs w' (λk=>w.heap.size<=k) C' a/\RSl rVw w' (λk=>w.heap.size<=k) T' b/\w.grownBy w' none
theorem kJ.nil{w w':World}{e:Ending}{err:Int}(h:e=.returned (.tuple #[.agg #[.slice none 0 0,.slice none 0 0],.int .i64 err])/\w.grownBy w' none):kJ [] [] err w e w':=⟨_,_,h.1,RSl.nil _ _,RSl.nil _ _,h.2⟩
theorem kJ.ret{C:List (List Cn4)}{T:List Vw8}{w w':World}{e:Ending}(h:yI C T w e w'):kJ C T 0 w e w':=h
theorem Bl{F:Nat->Prop}{C:List (List Cn4)}{T:List Vw8}{a0 a1:Int}{cells:List Cn4}{v0 v1 v2 v3 v4 v5 v6:Int}{L:List Cn4}{U V Y Z:Value}{w:World}{C':List (List Cn4)}{T':List Vw8}{err:Int}
 (hu:RSl rCs w F C U)(hv:RSl rVw w F T V)(hy:RSl rCn w F cells Y)(hz:RSl rCn w F L Z)(h:cj C T a0 a1 cells v0 v1 v2 v3 v4 v5 v6 L=some (C',T',err,())):
 Calls Try.prog 37 #[.agg #[U,V],.agg #[.int .i64 a0,.int .i64 a1,Y,.int .i64 v0,.int .i64 v1,.int .i64 v2,.int .i64 v3,.int .i64 v4,.int .i64 v5,.int .u16 v6,Z]] w (kJ C' T' err w):=by
 unfold cj at h;split at h
 case isFalse=>cases h
 obtain⟨⟨fe,u⟩,hf,h⟩:=Option.bind_eq_some_iff.1 h;have ZS:=zS hu hv hf;dsimp only at h;split at h
 ·rename_i hne
  injection h with h
  injection h with h1 h
  injection h with h2 h
  injection h with h3 h
  subst h1 h2 h3;exact(DM F C T a0 a1 cells v0 v1 v2 v3 v4 v5 v6 L U V Y Z w fe hu hv hy hz ZS (by simpa using hne)).mono λe w' h=>kJ.nil h
 rename_i h0
 have h0:fe=0:=by simpa using h0
 split at h
 ·rename_i hr;split at h
  ·rename_i hc
   injection h with h
   injection h with h1 h
   injection h with h2 h
   injection h with h3 h
   subst h1 h2 h3;exact(Bi F C T a0 a1 cells v0 v1 v2 v3 v4 v5 v6 L U V Y Z w fe hu hv hy hz ZS h0 hr hc).mono λe w' h=>kJ.nil h
  ·rename_i hc;split at h
   case isFalse=>cases h
   rename_i hj;obtain⟨j,rfl⟩:=Int.eq_ofNat_of_zero_le hj.1
   injection h with h
   injection h with h1 h
   injection h with h2 h
   injection h with h3 h
   subst h1 h2 h3 hr;exact(ze F C T j cells v0 v1 v2 v3 v4 v5 v6 L U V Y Z w fe hu hv hy hz ZS h0 (by omega) (by simpa using hj.2)).mono λe w' h=>kJ.ret h
 ·split at h
  case isFalse=>cases h
  rename_i hg;obtain⟨g1,g2,g3,g4,g5⟩:=hg;obtain⟨k,rfl⟩:=Int.eq_ofNat_of_zero_le g1;obtain⟨j,rfl⟩:=Int.eq_ofNat_of_zero_le g3;simp only[oTN]at g2 g5 h
  have e1:C.getD k []=C[k]:=by simp[oGD,g2]
  rw[e1]at g5 h;obtain⟨⟨eb,u2⟩,he,h⟩:=Option.bind_eq_some_iff.1 h;have ZC:=λw' hg=>wT (w:=w) hz he w' hg;dsimp only at h;split at h
  ·rename_i hc
   injection h with h
   injection h with h1 h
   injection h with h2 h
   injection h with h3 h
   subst h1 h2 h3;by_cases hcl:cells.length=min 8 (C[k].length-8*j)
   ·exact(Bg F C T k j cells v0 v1 v2 v3 v4 v5 v6 L U V Y Z w fe hu hv hy hz ZS eb ZC h0 g2 (by omega) g5 hcl (by rcases hc with hc|hc;exact absurd hcl hc;exact hc)).mono λe w' h=>kJ.nil h
   ·exact(Bh F C T k j cells v0 v1 v2 v3 v4 v5 v6 L U V Y Z w fe hu hv hy hz ZS eb ZC h0 g2 (by omega) g5 hcl).mono λe w' h=>kJ.nil h
  ·rename_i hc
   injection h with h
   injection h with h1 h
   injection h with h2 h
   injection h with h3 h
   subst h1 h2 h3;exact(Bj F C T k j cells v0 v1 v2 v3 v4 v5 v6 L U V Y Z w fe hu hv hy hz ZS eb ZC h0 g2 (by omega) g5 (by omega) (by cases eb;exact absurd (.inr rfl) hc;rfl)).mono λe w' h=>kJ.ret h
theorem F7{C:List (List Cn4)}{T:List Vw8}{p:Fs}{C':List (List Cn4)}{T':List Vw8}{err:Int}(h:cj C T p.1 p.2.1 p.2.2.1 p.2.2.2.1 p.2.2.2.2.1 p.2.2.2.2.2.1 p.2.2.2.2.2.2.1 p.2.2.2.2.2.2.2.1 p.2.2.2.2.2.2.2.2.1 p.2.2.2.2.2.2.2.2.2.1 p.2.2.2.2.2.2.2.2.2.2=some (C',T',err,())):
 vy Try.prog 37 [.agg [.sl (C.map (enc cCs)),.sl (T.map (enc cVw))],.agg (enc cPg p)] ⟨[.sl (C'.map (enc cCs)),.sl (T'.map (enc cVw)),.v (.int .i64 err)],[.agg 2,.one]⟩:=by
 have hok:Bo C T p.2.2.1 p.2.2.2.2.2.2.2.2.2.2=true:=by
  unfold cj at h;split at h
  ·assumption
  ·cases h
 simp only[Bo,oBA,oDE,List.all_eq_true]at hok;obtain⟨⟨⟨⟨⟨o1,o2⟩,o3⟩,o4⟩,o5⟩,o6⟩:=hok;refine⟨rfl,λavs w F hl hv=>?_⟩
 obtain⟨x,y,rfl⟩:∃x y,avs=[x,y]:=by
  match avs,hl with
  | [x,y],_=>exact⟨x,y,rfl⟩
 obtain⟨cs,rfl,Wo⟩:=(hv 0 (by simp) (by simp)).agg_out;obtain⟨ds,rfl,hds⟩:=(hv 1 (by simp) (by simp)).agg_out;obtain⟨U,_,rfl,hU,V,_,rfl,hV,rfl⟩:=Wo;have Nl:=Ic.of hds ⟨o5,o6⟩;obtain⟨Y,Z,rfl,hY,hZ⟩:=If Nl;have hu:RSl rCs w F C U:=Ck uz hU (λx hx=>o2 x hx) o1;have RR:RSl rVw w F T V:=Ck xQ hV (λx hx=>o4 x hx) o3;refine(Bl hu RR hY hZ h).mono ?_;rintro e w' ⟨a,b,rfl,ha,hb,hg⟩;refine⟨[a,b,.int .i64 err],rfl,rfl,xm hg,λj hj=>?_⟩;have hj:j<3:=hj
 match j,hj with
 |0,_=>exact rS uz (ha.sub λk hk=>.inr hk)
 |1,_=>exact rS xQ (hb.sub λk hk=>.inr hk)
 |2,_=>exact .v rfl
def GS{α:Type}(f:List TV->Option α):List (List TV)->Option (List α)
 | []=>some []
 |c::r=>(f c).bind λx=>(GS f r).bind λy=>some (x::y)
def oU:(t:CT)->List TV->Option (den t)
 |.int k,l=>match l with
  | [.v (.int k' x)]=>if k'=k then some x else none
  |_=>none
 |.bool,l=>match l with
  | [.v (.bool b)]=>some b
  |_=>none
 |.row o t,l=>match o,l with
  |false,[.sl c]=>GS (oU t) c
  |_,_=>none
 |.pair a b,l=>(oU a (l.take (fm a))).bind λx=>(oU b (l.drop (fm a))).bind λy=>some (x,y)
 |.str,_=>none
 |.nat,_=>none
 |.nilr _,_=>none
def mz:CT->Bool
 |.int _=>true
 |.bool=>true
 |.row o t=>!o&&mz t
 |.pair a b=>mz a&&mz b
 |_=>false
theorem CH{α:Type}{f:List TV->Option α}{e:α->List TV}(h:∀{c x},f c=some x->c=e x):∀{c:List (List TV)}{xs:List α},GS f c=some xs->c=xs.map e
 | [],xs,g=>by
  simp only[GS,oSJ]at g;subst g;rfl
 |c::r,xs,g=>by
  simp only[GS]at g;obtain⟨x,h1,g⟩:=Option.bind_eq_some_iff.1 g;obtain⟨y,h2,g⟩:=Option.bind_eq_some_iff.1 g
  injection g with g
  subst g;rw[h h1,CH h h2];rfl
theorem yz{α:Type}{f:List TV->Option α}{e:α->List TV}(h:∀x,f (e x)=some x):∀xs:List α,GS f (xs.map e)=some xs
 | []=>rfl
 |x::r=>by simp only[List.map_cons,GS,h,yz h r,oBS]
theorem l7:∀(t:CT){l:List TV}{x:den t},oU t l=some x->l=enc t x:=by
 intro t
 induction t with
 |int k=>
  intro l x h;simp only[oU]at h;split at h
  ·split at h
   ·rename_i e
    injection h with h
    subst h e;rfl
   ·cases h
  ·cases h
 |bool=>
  intro l x h;simp only[oU]at h;split at h
  ·injection h with h
   subst h;rfl
  ·cases h
 |str=>intro l x h;simp[oU]at h
 |nat=>intro l x h;simp[oU]at h
 |nilr o=>intro l x h;simp[oU]at h
 |row o t ih=>
  intro l x h;simp only[oU]at h;split at h
  ·have e:=CH (e:=enc t) (λg=>ih g) h;subst e;rfl
  ·cases h
 |pair a b Zg Zb=>
  intro l x h;simp only[oU]at h;obtain⟨y,h1,h⟩:=Option.bind_eq_some_iff.1 h;obtain⟨z,h2,h⟩:=Option.bind_eq_some_iff.1 h
  injection h with h
  subst h;simp only[enc];rw[<- Zg h1,<- Zb h2,List.take_append_drop]
theorem tM:∀(t:CT),mz t=true->∀x:den t,oU t (enc t x)=some x:=by
 intro t
 induction t with
 |int k=>intro _ x;simp[oU,enc]
 |bool=>intro _ x;simp[oU,enc]
 |str=>intro h;simp[mz]at h
 |nat=>intro h;simp[mz]at h
 |nilr o=>intro h;simp[mz]at h
 |row o t ih=>
  intro hp x;simp only[mz,oBA,Bool.not_eq_true']at hp;obtain⟨rfl,hp⟩:=hp;exact yz (ih hp) x
 |pair a b Zg Zb=>
  intro hp x;simp only[mz,oBA]at hp;obtain⟨x1,x2⟩:=x
  have e1:(enc a x1++enc b x2).take (fm a)=enc a x1:=by rw[List.take_append_of_le_length (by rw[cz];exact Nat.le_refl _),List.take_of_length_le (by rw[cz];exact Nat.le_refl _)]
  have e2:(enc a x1++enc b x2).drop (fm a)=enc b x2:=by rw[<- cz a x1];exact List.drop_left
  simp only[oU,enc];rw[e1,e2,Zg hp.1,Zb hp.2];rfl
abbrev sRg:CT:=.row false (.row false cCn)
abbrev sTs:CT:=.row false cVw
def Bn(C':List (List Cn4))(T':List Vw8)(err:Int):pt:=⟨[.sl (C'.map (enc cCs)),.sl (T'.map (enc cVw)),.v (.int .i64 err)],[.agg 2,.one]⟩
def Ir(vals:List TV):Option pt:=match vals with
 | [.agg [C,T],.agg l]=>(oU sRg [C]).bind λC=>(oU sTs [T]).bind λT=>(oU cPg l).bind λp=>(cj C T p.1 p.2.1 p.2.2.1 p.2.2.2.1 p.2.2.2.2.1 p.2.2.2.2.2.1 p.2.2.2.2.2.2.1 p.2.2.2.2.2.2.2.1 p.2.2.2.2.2.2.2.2.1 p.2.2.2.2.2.2.2.2.2.1 p.2.2.2.2.2.2.2.2.2.2).bind λ(C',T',err,_)=>some (Bn C' T' err)
 |_=>none
def Iq(vals:List TV):Option pt:=match vals with
 | [.agg l]=>(oU cPg l).bind λp=>(eG p.1 p.2.1 p.2.2.1 p.2.2.2.1 p.2.2.2.2.1 p.2.2.2.2.2.1 p.2.2.2.2.2.2.1 p.2.2.2.2.2.2.2.1 p.2.2.2.2.2.2.2.2.1 p.2.2.2.2.2.2.2.2.2.1 p.2.2.2.2.2.2.2.2.2.2).bind λ(bs,_)=>some ⟨[.sl (bs.map (enc (.int .u8)))],[.one]⟩
 |_=>none
def Cr(f:FuncId)(vals:List TV):Option pt:=if f=37 then Ir vals else if f=44 then Iq vals else none
theorem vq:gt Try.prog 44:=je Try.func44 (by kernel_rfl) rfl
theorem zf:gt Try.prog 37:=je Try.func37 (by kernel_rfl) rfl
theorem Ek:∀f vals r,Cr f vals=some r->gt Try.prog f/\vy Try.prog f vals r:=by
 intro f vals r h;unfold Cr at h;split at h
 case isFalse=>
  split at h
  case isFalse=>cases h
  rename_i e;subst e;refine⟨vq,?_⟩;unfold Iq at h;split at h
  case h_2=>cases h
  rename_i l;obtain⟨p,h3,h⟩:=Option.bind_eq_some_iff.1 h;obtain⟨⟨bs,u⟩,h4,h⟩:=Option.bind_eq_some_iff.1 h
  injection h with h
  subst h;have e3:=l7 _ h3;subst e3;exact CY p bs h4
 rename_i e;subst e;refine⟨zf,?_⟩;unfold Ir at h;split at h
 case h_2=>cases h
 rename_i C T l;obtain⟨C,h1,h⟩:=Option.bind_eq_some_iff.1 h;obtain⟨T,h2,h⟩:=Option.bind_eq_some_iff.1 h;obtain⟨p,h3,h⟩:=Option.bind_eq_some_iff.1 h;obtain⟨⟨C',T',err,u⟩,h4,h⟩:=Option.bind_eq_some_iff.1 h
 injection h with h
 subst h;have e1:=l7 _ h1;have e2:=l7 _ h2;have e3:=l7 _ h3;simp only[enc,List.cons.injEq,and_true]at e1 e2;subst e1 e2 e3;exact F7 h4
def zI:cu:=B7 Cr
theorem pf:dg Try.prog zI:=Gz Ek
theorem Cq{C:List (List Cn4)}{T:List Vw8}{p:Fs}{C':List (List Cn4)}{T':List Vw8}{err:Int}(h:cj C T p.1 p.2.1 p.2.2.1 p.2.2.2.1 p.2.2.2.2.1 p.2.2.2.2.2.1 p.2.2.2.2.2.2.1 p.2.2.2.2.2.2.2.1 p.2.2.2.2.2.2.2.2.1 p.2.2.2.2.2.2.2.2.2.1 p.2.2.2.2.2.2.2.2.2.2=some (C',T',err,())):
 Cr 37 [.agg [.sl (C.map (enc cCs)),.sl (T.map (enc cVw))],.agg (enc cPg p)]=some (Bn C' T' err):=by
 unfold Cr;rw[oIP rfl];show(oU sRg (enc sRg C)).bind _=_;rw[tM sRg rfl];show(oU sTs (enc sTs T)).bind _=_;rw[tM sTs rfl];show(oU cPg (enc cPg p)).bind _=_;rw[tM cPg rfl];show(cj C T p.1 p.2.1 p.2.2.1 p.2.2.2.1 p.2.2.2.2.1 p.2.2.2.2.2.1 p.2.2.2.2.2.2.1 p.2.2.2.2.2.2.2.1 p.2.2.2.2.2.2.2.2.1 p.2.2.2.2.2.2.2.2.2.1 p.2.2.2.2.2.2.2.2.2.2).bind _=_;rw[h];rfl
def HC(f i:Nat):List (Nat×Option Nat):=if f=64 then(if i=1000007 then[(0,some 4)]else[])
 else if f=65 then(if i=4000010 then[(8,some 2)]else[])
 else if f=45 then(if i=3000006 then[(8,none)]else[])
 else if f=12 then(if i=3000005 then[(10,none)]else[])
 else if f=27 then(if i=3000010 then[(11,none)]else if i=3000008 then[(15,some 2),(15,some 10)]else[])
 else[]
noncomputable def TC (f:FuncId):Option TFn:=kA Try.prog (HC f) f
noncomputable def EC:Env:={ box:=λ_=>none,ps:=λf=>I9 Try.prog f }
theorem H3:t6 Try.prog TC:=vI HC (by kernel_rfl)
theorem GR:rC Try.prog EC:=yF λf n tm h=>by simp[EC]at h
noncomputable def TD (f:FuncId):Option TFn:=if f=37\/f=44\/f=27 then none else TC f
theorem I7:t6 Try.prog TD:=λf tf h=>H3 f tf (by
 unfold TD at h;split at h
 ·cases h
 ·exact h)
noncomputable def TE (f:FuncId):Option TFn:=if f=37\/f=44 then none else TC f
theorem HX:t6 Try.prog TE:=λf tf h=>H3 f tf (by
 unfold TE at h;split at h
 ·cases h
 ·exact h)
abbrev St2:Type:=List (List Cn4)×List Vw8
abbrev cS2:CT:=.pair sRg sTs
abbrev z4:Cn4:=(0,0,0,0)
def stL:List St2:=[([[z4,z4,z4,z4,z4,z4,z4,z4,z4]],[]),([[z4,z4,z4,z4,z4,z4,z4,z4,(0,3,0,0)]],[]),([[z4,z4,z4,z4,z4,z4,z4,z4,z4]],[])]
def agV(l:List St2)(b:List Bool)(d:Int×Int):List TV:=[.sl (l.map (enc cS2)),.sl (b.map (enc .bool)),.agg (enc (.pair I64 I64) d),.v (.int .i64 2)]
def agR(i:Int)(cs:List Cn4)(l:List Int):pt:=⟨enc cPg (0,i,cs,0,0,0,0,0,0,0,[])++[.sl (l.map (enc I64)),.v (.int .i64 0)],[.agg 11,.one,.one]⟩
theorem ag0:runF EC TE zI 100000 27 (agV stL [true,true,true] (0,0)) []=some (agR 0 [z4,z4,z4,z4,z4,z4,z4,z4] [],[]):=by kernel_rfl
theorem ag1:runF EC TE zI 100000 27 (agV stL [true,true,true] (0,1)) []=some (agR 1 [z4] [1],[]):=by kernel_rfl
def eqS(a b:St2):Bool:=a.1==b.1&&a.2.isEmpty&&b.2.isEmpty
def eqL:List St2->List St2->Bool
 | [],[]=>true
 |a::l,b::k=>eqS a b&&eqL l k
 |_,_=>false
theorem Fj:∀{l k:List St2},eqL l k=true->l=k
 | [],[],_=>rfl
 |a::l,b::k,h=>by
  simp only[eqL,eqS,oBA,beq_iff_eq,List.isEmpty_iff]at h;obtain⟨⟨⟨h1,h2⟩,h3⟩,h4⟩:=h;rw[Fj h4,show a=b from Prod.ext h1 (h2.trans h3.symm)]
def GK(f:FuncId)(vals:List TV)(pts:Pts):Option (pt×Pts):=if f=27 then(match vals,pts with
 | [L,I,.agg d,.v (.int .i64 2)],[]=>(oU (.row false cS2) [L]).bind λl=>(oU (.row false .bool) [I]).bind λb=>(oU (.pair I64 I64) d).bind λp=>
  if eqL l stL=true/\b=[true,true,true]then(if p=(0,0)then some (agR 0 [z4,z4,z4,z4,z4,z4,z4,z4] [],[])else if p=(0,1)then some (agR 1 [z4] [1],[])else none)else none
 |_,_=>none)else none
theorem Ej:dg Try.prog GK:=by
 intro f vals pts res Zw h;unfold GK at h;split at h
 case isFalse=>cases h
 rename_i e;subst e;split at h
 case h_2=>cases h
 rename_i L I d;obtain⟨l,h1,hA⟩:=Option.bind_eq_some_iff.1 h;obtain⟨b,h2,hB⟩:=Option.bind_eq_some_iff.1 hA;obtain⟨p,h3,hC⟩:=Option.bind_eq_some_iff.1 hB;clear h hA hB;have e1:=l7 _ h1;have e2:=l7 _ h2;have e3:=l7 _ h3;simp only[enc,List.cons.injEq,and_true]at e1 e2;subst e1 e2 e3;split at hC
 case isFalse=>cases hC
 rename_i g;obtain⟨g1,g2⟩:=g;have g1:=Fj g1;subst g1 g2;split at hC
 ·rename_i g;subst g
  injection hC with hC
  injection hC with TA PP
  subst TA PP;exact runF_ok HX GR pf 100000 _ _ _ _ _ ag0
 ·split at hC
  ·rename_i g;subst g
   injection hC with hC
   injection hC with TA PP
   subst TA PP;exact runF_ok HX GR pf 100000 _ _ _ _ _ ag1
  ·cases hC
def GA:cu:=λf vals pts=>match zI f vals pts with
 |some r=>some r
 |none=>GK f vals pts
theorem D9:dg Try.prog GA:=by
 intro f vals pts res Zw h;unfold GA at h;split at h
 ·rename_i r hr
  injection h with h
  subst h;exact pf f vals pts _ _ hr
 ·exact Ej f vals pts _ _ h
theorem B6{E:Env}{T:FuncId->Option TFn}{B:cu}{c:Ctr}(hT:T c.f=none)(hB:li B c):Lvl E T B 1 c:=by
 intro k _ h o x ho hx
 have e:runF E T B (NN+k) c.f=B c.f:=by
  obtain⟨n,hn⟩:∃n,NN+k=n+1:=⟨NN-1+k,by have:0<NN:=(by decide);omega⟩;rw[hn];funext vals pts;simp only[runF,vJ,hT]
 rw[e];exact hB h o x ho hx
theorem Je:runF EC TD GA 100000 6 [] []=some (⟨[.v (.bool true)],[.one]⟩,[]):=by kernel_rfl
def libBj:cu:=λf vals pts=>match zI f vals pts with
 |some r=>some r
 |none=>match vals,pts with
  | [],[]=>if f=6 then some (⟨[.v (.bool true)],[.one]⟩,[])else none
  |_,_=>none
theorem libBj_ok:dg Try.prog libBj:=by
 intro f vals pts res Zw h;unfold libBj at h;split at h
 ·rename_i r hr
  injection h with h
  subst h;exact pf f vals pts _ _ hr
 ·split at h
  ·split at h
   ·rename_i e
    injection h with h
    injection h with h1 h2
    subst h1 h2 e;exact runF_ok I7 GR D9 100000 _ [] [] _ _ Je
   ·cases h
  ·cases h
def fv:Option (Bool×Unit):=some (true,())
theorem oJ{id:Nat}:li libBj ⟨6,id,[],[],[⟨[shU .bool],[.one],[]⟩],λh=>fv⟩:=by
 intro h o x ho hx
 injection ho with ho
 subst ho;cases hx;show libBj 6 [] []=_;rfl
set_option maxHeartbeats 4000000 in
set_option maxRecDepth 100000 in
def vp(id:Nat):Ctr:=⟨37,id,[.agg [shU sRg,shU sTs],.agg [shU I64,shU I64,shU (.row false cCn),shU I64,shU I64,shU I64,shU I64,shU I64,shU I64,shU (.int .u16),shU (.row false cCn)]],[],[⟨[shU sRg,shU sTs,shU I64],[.agg 2,.one],[]⟩],
 λh=>cj h.1 h.2.1 h.2.2.1 h.2.2.2.1 h.2.2.2.2.1 h.2.2.2.2.2.1 h.2.2.2.2.2.2.1 h.2.2.2.2.2.2.2.1 h.2.2.2.2.2.2.2.2.1 h.2.2.2.2.2.2.2.2.2.1 h.2.2.2.2.2.2.2.2.2.2.1 h.2.2.2.2.2.2.2.2.2.2.2.1 h.2.2.2.2.2.2.2.2.2.2.2.2.1⟩
set_option maxHeartbeats 4000000 in
set_option maxRecDepth 100000 in
theorem qQ{id:Nat}:li libBj (vp id):=by
 rintro⟨C,T,a0,a1,cells,v0,v1,v2,v3,v4,v5,v6,L,h⟩ ⟨C',T',err,u⟩ x ho hx;have ho:cj C T a0 a1 cells v0 v1 v2 v3 v4 v5 v6 L=some (C',T',err,()):=ho;cases hx;show libBj 37 [.agg [.sl (C.map (enc cCs)),.sl (T.map (enc cVw))],.agg (enc cPg (a0,a1,cells,v0,v1,v2,v3,v4,v5,v6,L))] []=some (Bn C' T' err,[]);unfold libBj zI B7;rw[oIP (by rfl),Cq (p:=(a0,a1,cells,v0,v1,v2,v3,v4,v5,v6,L)) ho];rfl
end Go.Proofs.Ytakfoejcjdcgbaa
namespace Go.Proofs.Ytakfoejcjdcgbaa
open Go.RowKit
set_option maxRecDepth 100000
noncomputable section
abbrev KCn:CT:=(.pair (.int .u8) (.pair (.int .u16) (.pair I64 I64)))
abbrev eY:CT:=(.pair I64 (.pair I64 (.pair I64 (.pair I64 (.pair I64 (.pair I64 (.pair (.int .u16) (.row false KCn))))))))
abbrev rA:CT:=(.pair I64 (.pair I64 (.pair I64 (.pair I64 (.pair I64 (.pair I64 (.pair (.int .u16) (.row true KCn))))))))
abbrev cV:CT:=(.row false KCn)
abbrev RI:CT:=(.row false I64)
abbrev DCe:Type:=(Int×Int)
abbrev DCn:Type:=(Int×Int×Int×Int)
abbrev DTs:Type:=(Int×Int×Int×Int×Int×Int×Int×List DCn)
def HH(f i:Nat):List (Nat×Option Nat):=if f=65 then(if i=4000010 then[(8,some 2)]else[])else if f=3 then(if i=1000017 then[(2,none)]else if i=1 then[(8,some 0),(8,some 1)]else[])else if f=60 then(if i=0 then[(4,none)]else[])else if f=59 then(if i=0 then[(4,some 2),(4,some 10)]else[])else if f=36 then(if i=0 then[(4,some 2),(4,some 10)]else[])else if f=67 then(if i=1 then[(5,some 1),(5,some 2)]else[])else if f=45 then(if i=3000006 then[(8,none)]else if i=0 then[(6,some 1)]else[])else if f=27 then(if i=3000010 then[(11,none)]else if i=3000008 then[(15,some 2),(15,some 10)]else if i=1000001 then[(5,some 5)]else if i=0 then[(8,some 2),(8,some 10),(9,none)]else[])else if f=29 then(if i=2 then[(9,some 0),(9,some 1)]else if i=0 then[(4,some 0),(4,some 1)]else[])else if f=12 then(if i=3000005 then[(10,none)]else if i=0 then[(6,some 0),(6,some 1),(7,none)]else[])else[]
def Il:List Nat:=[6,37]
def TT (f:FuncId):Option TFn:=if Il.contains f then none else kA Try.prog (HH f) f
theorem E6{f:FuncId}(h:Il.contains f=true):TT f=none:=oIP h
def E0:Env:={ box:=λf=>if f=7 then some (1,[.arg 0,.val (.int .i64 0)])else none,ps:=λf=>I9 Try.prog f,row:=λf=>if f=28 then 1 else if f=30 then 2 else 0 }
theorem tt_ok:t6 Try.prog TT:=λf tf h=>vI HH (by kernel_rfl) f tf (by
 unfold TT at h
 split at h
 ·cases h
 ·exact h)
abbrev qE:Shs:=⟨[],[],[],([],[])⟩
abbrev qS(s:List (Nat×Sh))(c:List (Nat×List Sh)):Shs:=⟨s,c,[],([],[])⟩
abbrev N1:CT:=.nilr true
abbrev N0:CT:=.nilr false
abbrev CW:CT:=.int .u16
abbrev CB:CT:=.int .u8
abbrev uL(l:List CT):List Sh:=l.map fun c=>.d c ()
abbrev pP(t r:Nat):Nat×Sh:=(t,.ptr ⟨r,0,[]⟩ [0])
abbrev sP(t:Nat)(c:CT):Nat×Sh:=(t,.d c ())
abbrev Lk(n:Nat)(c:Ctr):Prop:=Lvl E0 TT libBj n c
theorem aN{m:Nat}:yL E0 TT libBj m []:=trivial
theorem aC{n m:Nat}{c:Ctr}{l:List Ctr}(h:Lk n c)(r:yL E0 TT libBj m l)(hm:n≤m:=by decide):yL E0 TT libBj m (c::l):=⟨h.mono hm,r⟩
abbrev lx(i n:Nat)(s:List (Nat×Sh))(c:List (Nat×List Sh))(b:Nat):vz:=⟨i,n,⟨s,c,[],([],[])⟩,[(.exit 0,⟨s++[(b,.d .bool ())],c,[],([],[])⟩)]⟩
abbrev LI:Type:=List Int
abbrev LDCe:Type:=List DCe
abbrev LDCn:Type:=List DCn
abbrev LDTs:Type:=List DTs
abbrev LLCn:Type:=List (List DCn)
abbrev T00:Type:=Int×Bool×Unit
abbrev T01:Type:=Int×Int×Unit
abbrev T02:Type:=LI×Int×Unit
abbrev T03:Type:=LI×LI×Unit
abbrev T04:Type:=LLCn×LDTs×Unit
abbrev T05:Type:=Bool×T03
abbrev T06:Type:=Int×T00
abbrev T07:Type:=Int×Int×LDCe×Unit
abbrev T08:Type:=Int×Int×LI×Unit
abbrev T09:Type:=Int×T03
abbrev T0a:Type:=LI×T01
abbrev T0b:Type:=LI×T02
abbrev T0c:Type:=Int×Int×Bool×LDCe×Unit
abbrev T0d:Type:=Int×Int×Bool×LI×Unit
abbrev T0e:Type:=LLCn×LDTs×T02
abbrev T0f:Type:=LLCn×LDTs×T04
abbrev T0g:Type:=Unit×Unit×T04
abbrev T0h:Type:=Unit×Unit×LLCn×Unit×Unit
abbrev T0i:Type:=Int×LI×T07
abbrev T0j:Type:=Int×T0f
abbrev T0k:Type:=Int×T0g
abbrev T0l:Type:=Unit×Unit×LDCe×T04
abbrev T0m:Type:=Bool×Unit×Unit×T05
abbrev T0n:Type:=Int×Unit×Unit×(List (Bool×LI×List (Int)))×Unit
abbrev T0o:Type:=LI×T0k
abbrev T0p:Type:=LI×Int×T0h
abbrev T0q:Type:=LLCn×LDTs×T0g
abbrev T0r:Type:=LLCn×LDTs×T0h
abbrev T0s:Type:=(List (Bool×LI×List (Int)))×Bool×T0a
abbrev T0t:Type:=(List (Bool×List (Int)))×Int×Int×(List (Bool×LI×List (Int)))×Unit
abbrev T0u:Type:=Int×T0o
abbrev T0v:Type:=Int×T0p
abbrev T0w:Type:=Int×T0q
abbrev T0x:Type:=Int×T0r
abbrev T0y:Type:=LI×Int×Unit×Unit×LLCn×Unit×LDCn×Unit
abbrev T0z:Type:=(List (Bool))×T0t
abbrev T0A:Type:=Int×Bool×T0o
abbrev T0B:Type:=Int×Int×Int×Int×Int×Int×Int×LDCn×Unit
abbrev T0C:Type:=Int×Int×Int×T0i
abbrev T0D:Type:=Int×T0u
abbrev T0E:Type:=Int×T0A
abbrev T0F:Type:=Int×Int×T0y
abbrev T0G:Type:=Int×Unit×Unit×Bool×LI×LI×T09
abbrev T0H:Type:=Int×Int×Int×Int×Int×Int×Int×LDCn×T02
abbrev T0I:Type:=(List (Bool×LI×List (Int)))×Int×Int×T0m
abbrev T0J:Type:=Int×Int×LDCn×T0B
abbrev T0K:Type:=(List (Bool))×Int×Int×T0G
abbrev T0L:Type:=Bool×Bool×Bool×Bool×Bool×LLCn×LDTs×(List (LLCn×LDTs))×(List (Bool))×T0b
abbrev T0M:Type:=Bool×Bool×Bool×Bool×Bool×LLCn×LDTs×(List (LLCn×LDTs))×(List (Bool))×LI×T0e
abbrev T0N:Type:=Int×Int×T0L
abbrev T0O:Type:=Unit×Unit×LI×LDCe×(List (Int×Int×LDCn×Int×Int×Int×Int×Int×Int×Int×LDCn))×LI×Unit
abbrev T0P:Type:=Int×Int×T0M
abbrev T0Q:Type:=(List (Int×Int×LDCn×Int×Int×Int×Int×Int×Int×Int×LDCn))×Int×Int×T0l
abbrev T0R:Type:=LI×Int×Int×Int×Int×Int×Int×Int×Int×Unit×T0B
abbrev T0S:Type:=(List (Bool×List (Int)))×(List (Bool))×Int×(List (Bool×LI×List (Int)))×Int×(List (Bool×LI×List (Int)))×Int×Int×T0n
abbrev T0T:Type:=Int×T0R
abbrev T0U:Type:=LI×(List (Int×Int×LDCn×Int×Int×Int×Int×Int×Int×Int×LDCn))×Int×LI×Int×T0k
abbrev T0V:Type:=(List (LLCn×LDTs))×(List (Bool))×Int×LI×Int×Int×T0O
abbrev T0W:Type:=Int×Int×Int×Int×Unit×Int×Int×Int×Int×Int×Int×Int×Unit×(List (Bool×List (Int)))×(List (Int×Int×LDCn×Int×Int×Int×Int×Int×Int×Int×LDCn))×Unit
abbrev T0X:Type:=Int×Int×Unit×Int×Int×Int×Int×Int×Int×Int×Unit×(List (Bool×List (Int)))×(List (Int×Int×LDCn×Int×Int×Int×Int×Int×Int×Int×LDCn))×T09
abbrev T0Y:Type:=Bool×T0X
abbrev T0Z:Type:=(List (Bool))×(List (Bool×List (Int)))×Int×Int×T0X
abbrev T10:Type:=(List (Bool))×Int×(List (LLCn×LDTs))×Int×Int×T0W
noncomputable abbrev ap1{A0 D R:Type}(f:A0→R)(h:A0×D):R:=f h.1
noncomputable abbrev ap2{A0 A1 D R:Type}(f:A0→A1→R)(h:A0×A1×D):R:=f h.1 h.2.1
noncomputable abbrev ap3{A0 A1 A2 D R:Type}(f:A0→A1→A2→R)(h:A0×A1×A2×D):R:=f h.1 h.2.1 h.2.2.1
noncomputable abbrev ap4{A0 A1 A2 A3 D R:Type}(f:A0→A1→A2→A3→R)(h:A0×A1×A2×A3×D):R:=f h.1 h.2.1 h.2.2.1 h.2.2.2.1
noncomputable abbrev ap5{A0 A1 A2 A3 A4 D R:Type}(f:A0→A1→A2→A3→A4→R)(h:A0×A1×A2×A3×A4×D):R:=f h.1 h.2.1 h.2.2.1 h.2.2.2.1 h.2.2.2.2.1
noncomputable abbrev ap6{A0 A1 A2 A3 A4 A5 D R:Type}(f:A0→A1→A2→A3→A4→A5→R)(h:A0×A1×A2×A3×A4×A5×D):R:=f h.1 h.2.1 h.2.2.1 h.2.2.2.1 h.2.2.2.2.1 h.2.2.2.2.2.1
noncomputable abbrev ap7{A0 A1 A2 A3 A4 A5 A6 D R:Type}(f:A0→A1→A2→A3→A4→A5→A6→R)(h:A0×A1×A2×A3×A4×A5×A6×D):R:=f h.1 h.2.1 h.2.2.1 h.2.2.2.1 h.2.2.2.2.1 h.2.2.2.2.2.1 h.2.2.2.2.2.2.1
noncomputable abbrev ap8{A0 A1 A2 A3 A4 A5 A6 A7 D R:Type}(f:A0→A1→A2→A3→A4→A5→A6→A7→R)(h:A0×A1×A2×A3×A4×A5×A6×A7×D):R:=f h.1 h.2.1 h.2.2.1 h.2.2.2.1 h.2.2.2.2.1 h.2.2.2.2.2.1 h.2.2.2.2.2.2.1 h.2.2.2.2.2.2.2.1
noncomputable abbrev ap11{A0 A1 A2 A3 A4 A5 A6 A7 A8 A9 A10 D R:Type}(f:A0→A1→A2→A3→A4→A5→A6→A7→A8→A9→A10→R)(h:A0×A1×A2×A3×A4×A5×A6×A7×A8×A9×A10×D):R:=f h.1 h.2.1 h.2.2.1 h.2.2.2.1 h.2.2.2.2.1 h.2.2.2.2.2.1 h.2.2.2.2.2.2.1 h.2.2.2.2.2.2.2.1 h.2.2.2.2.2.2.2.2.1 h.2.2.2.2.2.2.2.2.2.1 h.2.2.2.2.2.2.2.2.2.2.1
noncomputable abbrev ap13{A0 A1 A2 A3 A4 A5 A6 A7 A8 A9 A10 A11 A12 D R:Type}(f:A0→A1→A2→A3→A4→A5→A6→A7→A8→A9→A10→A11→A12→R)(h:A0×A1×A2×A3×A4×A5×A6×A7×A8×A9×A10×A11×A12×D):R:=f h.1 h.2.1 h.2.2.1 h.2.2.2.1 h.2.2.2.2.1 h.2.2.2.2.2.1 h.2.2.2.2.2.2.1 h.2.2.2.2.2.2.2.1 h.2.2.2.2.2.2.2.2.1 h.2.2.2.2.2.2.2.2.2.1 h.2.2.2.2.2.2.2.2.2.2.1 h.2.2.2.2.2.2.2.2.2.2.2.1 h.2.2.2.2.2.2.2.2.2.2.2.2.1
noncomputable abbrev ap16{A0 A1 A2 A3 A4 A5 A6 A7 A8 A9 A10 A11 A12 A13 A14 A15 D R:Type}(f:A0→A1→A2→A3→A4→A5→A6→A7→A8→A9→A10→A11→A12→A13→A14→A15→R)(h:A0×A1×A2×A3×A4×A5×A6×A7×A8×A9×A10×A11×A12×A13×A14×A15×D):R:=f h.1 h.2.1 h.2.2.1 h.2.2.2.1 h.2.2.2.2.1 h.2.2.2.2.2.1 h.2.2.2.2.2.2.1 h.2.2.2.2.2.2.2.1 h.2.2.2.2.2.2.2.2.1 h.2.2.2.2.2.2.2.2.2.1 h.2.2.2.2.2.2.2.2.2.2.1 h.2.2.2.2.2.2.2.2.2.2.2.1 h.2.2.2.2.2.2.2.2.2.2.2.2.1 h.2.2.2.2.2.2.2.2.2.2.2.2.2.1 h.2.2.2.2.2.2.2.2.2.2.2.2.2.2.1 h.2.2.2.2.2.2.2.2.2.2.2.2.2.2.2.1
theorem ls{n:Nat}(C:X.Cfg)(hT:yL E0 TT libBj n C.TB){c:Ctr}(hE:C.E=E0:=by rfl)(h1:(TT c.f).isSome=true:=by kernel_rfl)(hg:∀h,X.runT bp C () ((TT c.f).getD JA) c.outs (eJ c.ins _ h).1 (mS c.pts [] (eJ c.ins _ h).2).1=c.g h:=by intro h;kernel_rfl):Lk (n+1) c:=eT (n:=n) (C:=C) hE hT (gw h1) hg
abbrev Uaa(t:Nat):Nat×Sh:=sP t I64
abbrev Xaa(t:Nat):Nat×Sh:=sP t .bool
abbrev Zaa(t r:Nat):Nat×Sh:=(t,.pk ⟨r,0,[]⟩ [0,0])
abbrev uaa(t:CT):CT:=.row true t
abbrev yaa(t:CT):CT:=.row false t
abbrev zaa(t:Nat):Nat×Sh:=pP t (2*t+2)
abbrev uab:List Sh:=uL [(yaa cV),(yaa eY)]
abbrev yab:List Sh:=uL [RI,I64]
abbrev zab:List Sh:=uL [.bool]
abbrev Uab:List Sh:=uL [N1,N1]
abbrev Xab:List Sh:=uL [I64]
abbrev Zab:List Sh:=uL [(uaa (uaa KCn)),(uaa rA)]
abbrev uac:List Sh:=uL [I64,I64]
abbrev yac:List Sh:=uL [(uaa CB)]
abbrev zac:List Sh:=uL [(uaa I64)]
abbrev Uac:List Sh:=uL [(uaa (.pair I64 I64))]
abbrev Xac:List Sh:=uL [.bool,(yaa CB),RI]
abbrev Zac:List Sh:=uL [.bool,(yaa CB)]
abbrev uad:List Sh:=uL [I64,I64,N1,I64,I64,I64,I64,I64,I64,CW,N1]
abbrev yad:List Sh:=uL [I64,(yaa CB),(uaa I64)]
abbrev zad:List Sh:=uL [.bool,.bool,.bool,.bool,.bool]
abbrev Uad:List Sh:=uL [(uaa (.pair (yaa cV) (yaa eY)))]
abbrev Xad:List Sh:=uL [(uaa .bool)]
abbrev Zad:List Sh:=uL [I64,I64,I64,I64,I64,I64,CW,(uaa KCn)]
abbrev uae:List Sh:=uL [(uaa (uaa KCn)),N1]
abbrev yae:List Sh:=uL [I64,I64,I64,I64,I64,I64,CW,cV]
abbrev zae:List Sh:=uL [I64,I64,cV,I64,I64,I64,I64,I64,I64,CW,cV]
abbrev Uae:List Sh:=uL [I64,N1,N1]
abbrev Xae:List Sh:=uL [(yaa (.pair .bool (yaa CB)))]
abbrev Zae:List Sh:=uL [(uaa KCn)]
abbrev uaf:List Sh:=uL [(uaa (.pair .bool (uaa CB)))]
abbrev yaf:List Sh:=uL [(yaa cV),(yaa eY),I64]
def oZ(a0:List (Int)):Option (Bool×Unit):=
let x0:=bB a0.length;
some ((decide (x0<=400)),())
def Em:X.Cfg:=⟨E0,[],[],[]⟩
def yE:Ctr:=⟨5,0,uL [RI],[],[⟨zab,[.one],[]⟩],ap1 oZ⟩
theorem Eb:Lk 1 yE:=ls Em aN
def ni:Ctr:=⟨6,1,[],[],[⟨zab,[.one],[]⟩],λh=>fv⟩
theorem sZ:Lvl E0 TT libBj 1 ni:=(B6 (E6 rfl) oJ).mono (by decide)
def lK(a0:Int)(a1:Int):Option (Int×Unit):=
bif(a1 != 0)then let x0:Int:=(Int.tmod a0 a1);
(bif(decide (x0<0))then(let x1:Int:=(w64 (x0+a1));
some (x1,()))else
some (x0,()):Option (Int×Unit)).bind λ(x1,_)=>
some (x1,())else none
def wG:X.Cfg:=⟨E0,[],[],[⟨2,0,qE,[(.normal,qS [Uaa 5] [])]⟩]⟩
def qy:Ctr:=⟨40,2,uac,[],[⟨Xab,[.one],[]⟩],ap2 lK⟩
theorem wy:Lk 1 qy:=ls wG aN
def oY(a0:Int)(a1:Int):Option (Int×Unit):=
(lK a0 a1).bind λ(x0,_)=>
some (x0,())
def El:X.Cfg:=⟨E0,[qy],[],[]⟩
def yD:Ctr:=⟨21,3,uac,[],[⟨Xab,[.one],[]⟩],ap2 oY⟩
theorem Ea:Lk 2 yD:=ls El (aC wy aN)
def bI(a0:Int)(a1:List (Int))(a2:Int):Option (Int×T02):=
let x0:=bB a1.length;
bif(decide (a2>=x0))then(some (0,a1,a2,()))else
let x1:=w64 (a2+1);
let x2:=w64 (x1-1);
(dM x2).bind λx3=>
(dh a1 x3).bind λx4=>
(oY x4 a0).bind λ(x5,_)=>
some (x5,a1,x1,())
def wJ:X.Cfg:=⟨E0,[yD],[],[]⟩
def fW:Ctr:=⟨10,4,[.ptr ⟨2,0,[]⟩ [0],shU I64],[(2,yab)],[⟨Xab,[.one],[(2,yab)]⟩],ap3 bI⟩
theorem ic:Lk 3 fW:=ls wJ (aC Ea aN)
def d5(a0:List (Int))(a1:Int):Option (Int×Int×Int×Int×T02):=
(bI 5 a0 a1).bind λ(x0,x1,x2,_)=>
bif(x0==4)then((bI 3 x1 x2).bind λ(x3,x4,x5,_)=>
(bI 8 x4 x5).bind λ(x6,x7)=>
some (1,0,x3,x6,x7))else
(bI 40 x1 x2).bind λ(x3,x4,x5,_)=>
let x6:=wk .u16 x3;
some (0,x6,0,0,x4,x5,())
def uV:X.Cfg:=⟨E0,[fW],[],[]⟩
def iG:Ctr:=⟨19,5,[.ptr ⟨2,0,[]⟩ [0]],[(2,yab)],[⟨uL [CB,CW,I64,I64],[.agg 4],[(2,yab)]⟩],ap2 d5⟩
theorem kj:Lk 4 iG:=ls uV (aC ic aN)
def dx:T0T->Option (T0T⊕(Int×Bool×T0R)):=λ(v0,v1,v2,v3,v4,v5,v6,v7,v8,v9,v10,v11,v12,v13,v14,v15,v16,v17,v18,_)=>
bif(decide (v0<8))then((d5 v1 v2).bind λ(x0,x1,x2,x3,x4,x5,_)=>
let x6:LDCn:=[(x0,(x1,(x2,x3)))];
bif(cn 24 v18.length x6.length)then let x7:LDCn:=(List.append v18 x6);
let x8:=w64 (v0+1);
some (.inl (x8,x4,x5,v3,v4,v5,v6,v7,v8,v9,v10,v11,v12,v13,v14,v15,v16,v17,x7,()))else none)else
some (.inr (v0,false,v1,v2,v3,v4,v5,v6,v7,v8,v9,v10,v11,v12,v13,v14,v15,v16,v17,v18,()))
def gg(a0:List (Int))(a1:Int):Option (T0H):=
(bI 5 a0 a1).bind λ(x0,x1,x2,_)=>
(bI 20 x1 x2).bind λ(x3,x4,x5,_)=>
(bI 30 x4 x5).bind λ(x6,x7,x8,_)=>
(bI 4 x7 x8).bind λ(x9,ac,ae,_)=>
let af:=w64 (x9-1);
(bI 4 ac ae).bind λ(ah,ai,aj,_)=>
let ak:=w64 (ah-1);
(bI 7 ai aj).bind λ(am,an,ap,_)=>
(bI 9 an ap).bind λ(aq,au,av,_)=>
let aw:=wk .u16 aq;
(bH dx NN (0,au,av,0,0,0,0,0,0,0,(),x0,x3,x6,af,ak,am,aw,[],())).bind λ(ax,ay,az,aA,aB,aD,aE,aF,aG,aH,aI,aJ,aK,aL,aM,aO,aP,aQ,aR,aS,_)=>
some (aK,aL,aM,aO,aP,aQ,aR,aS,az,aA,())
def uW:X.Cfg:=⟨E0,[fW,iG],[],[(lx 4 0 [zaa 0,zaa 2,zaa 3,Uaa 4] [(2,yab),(6,uL [I64,I64,I64,I64,I64,I64,CW,N1]),(8,Zad)] 24)]⟩
def kE:Ctr:=⟨20,6,[.ptr ⟨2,0,[]⟩ [0]],[(2,yab)],[⟨Zad,[.agg 8],[(2,yab)]⟩],ap2 gg⟩
theorem ol:Lk 5 kE:=ls uW (aC ic (aC kj aN))
def eP:T0F->Option (T0F⊕(Int×Int×Bool×T0y)):=λ(v0,v1,v2,v3,v4,v5,v6,v7,v8,_)=>
bif(decide (v1>=0))then((d5 v2 v3).bind λ(x0,x1,x2,x3,x4,x5,_)=>
let x6:LDCn:=[(x0,(x1,(x2,x3)))];
bif(cn 24 v8.length x6.length)then let x7:LDCn:=(List.append v8 x6);
let x8:=w64 (v1-1);
some (.inl (v0,x8,x4,x5,v4,v5,v6,v7,x7,()))else none)else
some (.inr (v0,v1,false,v2,v3,v4,v5,v6,v7,v8,()))
def eO:T0v->Option (T0v⊕(Int×Bool×T0p)):=λ(v0,v1,v2,v3,v4,v5,v6,_)=>
bif(decide (v0>=0))then((bI 24 v1 v2).bind λ(x0,x1,x2,_)=>
(bH eP NN (v0,x0,x1,x2,v3,v4,v5,v6,[],())).bind λ(x3,x4,x5,x6,x7,x8,x9,ac,ae,af,_)=>
bif(cn 24 ac.length (List.length [af]))then let ah:List LDCn:=(List.append ac [af]);
let ai:=w64 (x3-1);
some (.inl (ai,x6,x7,x8,x9,ah,ae,()))else none)else
some (.inr (v0,false,v1,v2,v3,v4,v5,v6,()))
def eN:T0u->Option (T0u⊕T0A):=λ(v0,v1,v2,v3,v4,v5,v6,_)=>
bif(decide (v0>0))then((gg v1 v2).bind λ(x0,x1,x2,x3,x4,x5,x6,x7,x8,x9,_)=>
let ac:LDTs:=[(x0,(x1,(x2,(x3,(x4,(x5,(x6,x7)))))))];
bif(cn 80 v6.length ac.length)then let ae:LDTs:=(List.append v6 ac);
let af:=w64 (v0-1);
some (.inl (af,x8,x9,v3,v4,v5,ae,()))else none)else
some (.inr (v0,false,v1,v2,v3,v4,v5,v6,()))
def gH(a0:List (Int))(a1:Int):Option (T0e):=
(bI 3 a0 a1).bind λ(x0,x1,x2,_)=>
(bH eO NN (x0,x1,x2,(),(),[],(),())).bind λ(x3,x4,x5,x6,x7,x8,x9,ac,_)=>
(bI 4 x5 x6).bind λ(ae,af,ah,_)=>
(bH eN NN (ae,af,ah,x7,x8,x9,[],())).bind λ(ai,aj,ak,am,an,ap,aq,au,_)=>
some (aq,au,ak,am,())
def tz:X.Cfg:=⟨E0,[fW,iG,kE],[(28,(uaa KCn)),(29,(uaa KCn)),(41,rA),(42,rA)],[⟨11,0,qS [zaa 0,zaa 2,zaa 3,Uaa 4,Zaa 5 13,Uaa 6] [(2,yab),(6,Uab),(8,uae),(13,Zae)],[(.exit 2,qS [zaa 0,zaa 2,zaa 3,Uaa 4,Zaa 5 13,Uaa 6,Xaa 17] [(2,yab),(6,Uab),(8,uae),(13,Zae)])]⟩,(lx 4 1 [zaa 0,zaa 2,zaa 3,Uaa 4] [(2,yab),(6,Uab),(8,uae)] 11),⟨17,2,qS [zaa 0,zaa 2,zaa 3,Uaa 7] [(2,yab),(6,Uab),(8,Zab)],[(.exit 4,qS [zaa 0,zaa 2,zaa 3,Uaa 7,Xaa 34] [(2,yab),(6,Uab),(8,Zab)])]⟩]⟩
def m9:Ctr:=⟨8,7,[.ptr ⟨2,0,[]⟩ [0]],[(2,yab)],[⟨Zab,[.agg 2],[(2,yab)]⟩],ap2 gH⟩
theorem sU:Lk 6 m9:=ls tz (aC ic (aC kj (aC ol aN)))
def fZ(a0:Int)(a1:Int)(a2:Int)(a3:Int)(a4:Int)(a5:Int)(a6:Int)(a7:LDCn):Option (T0B):=
bif(cn 24 0 a7.length)then let x0:LDCn:=(List.append [] a7);
some (a0,a1,a2,a3,a4,a5,a6,x0,())else none
def rk:X.Cfg:=⟨E0,[],[],[]⟩
def lA:Ctr:=⟨39,8,[.agg yae],[],[⟨Zad,[.agg 8],[]⟩],ap8 fZ⟩
theorem qY:Lk 1 lA:=ls rk aN
def cY:T0x->Option (T0x⊕(Int×Bool×T0r)):=λ(v0,v1,v2,v3,v4,v5,v6,_)=>
let x0:=bB v1.length;
bif(decide (v0<x0))then((dM v0).bind λx1=>
(dh v1 x1).bind λx2=>
bif(cn 24 0 x2.length)then let x3:LDCn:=(List.append [] x2);
bif(cn 24 v5.length (List.length [x3]))then let x4:List LDCn:=(List.append v5 [x3]);
let x5:=w64 (v0+1);
some (.inl (x5,v1,v2,v3,v4,x4,v6,()))else none else none)else
some (.inr (v0,false,v1,v2,v3,v4,v5,v6,()))
def cX:T0w->Option (T0w⊕(Int×Bool×T0q)):=λ(v0,v1,v2,v3,v4,v5,v6,_)=>
let x0:=bB v2.length;
bif(decide (v0<x0))then((dM v0).bind λx1=>
(dh v2 x1).bind λx2=>
(fZ x2.1 x2.2.1 x2.2.2.1 x2.2.2.2.1 x2.2.2.2.2.1 x2.2.2.2.2.2.1 x2.2.2.2.2.2.2.1 x2.2.2.2.2.2.2.2).bind λ(x3,x4,x5,x6,x7,x8,x9,ac,_)=>
let ae:LDTs:=[(x3,(x4,(x5,(x6,(x7,(x8,(x9,ac)))))))];
bif(cn 80 v6.length ae.length)then let af:LDTs:=(List.append v6 ae);
let ah:=w64 (v0+1);
some (.inl (ah,v1,v2,v3,v4,v5,af,()))else none)else
some (.inr (v0,false,v1,v2,v3,v4,v5,v6,()))
def ix(a0:List LDCn)(a1:LDTs):Option (T04):=
(bH cY NN (0,a0,a1,(),(),[],(),())).bind λ(x0,x1,x2,x3,x4,x5,x6,x7,_)=>
(bH cX NN (0,x2,x3,x4,x5,x6,[],())).bind λ(x8,x9,ac,ae,af,ah,ai)=>
some (ai)
def uZ:X.Cfg:=⟨E0,[lA],[(22,(uaa KCn)),(23,(uaa KCn)),(40,rA),(41,rA)],[(lx 4 0 [zaa 1,zaa 2,zaa 3,Uaa 4] [(4,uab),(6,Uab),(8,uae)] 10),⟨10,1,qS [zaa 1,zaa 2,zaa 3,Uaa 5] [(4,uab),(6,Uab),(8,Zab)],[(.exit 2,qS [zaa 1,zaa 2,zaa 3,Uaa 5,Xaa 29] [(4,uab),(6,Uab),(8,Zab)])]⟩]⟩
def oA:Ctr:=⟨18,9,[.agg uab],[],[⟨Zab,[.agg 2],[]⟩],ap2 ix⟩
theorem uQ:Lk 2 oA:=ls uZ (aC qY aN)
def gY:T0D->Option (T0D⊕T0E):=λ(v0,v1,v2,v3,v4,v5,v6,v7,_)=>
bif(decide (v1<v0))then(((match(let x0:Int:=(bB v7.length);
bif(decide (x0>0))then((bI 3 v2 v3).bind λ(x1,x2,x3,_)=>
bif(x1==2)then(let x4:Int:=(bB v7.length);
(bI x4 x2 x3).bind λ(x5,x6,x7,_)=>
(gg x6 x7).bind λ(x8,x9,ac,ae,af,ah,ai,aj,ak,am,_)=>
(dM x5).bind λan=>
(dh v7 an).bind λap=>
(dh v7 an).bind λaq=>
let au:=(List.modify v7 an λe=>(x8,(x9,(ac,(ae,(af,(ah,(ai,aj))))))));
some (.inl (v0,v1,ak,am,v4,v5,v6,au,())))else
some (.inr (v0,v1,false,x2,x3,v4,v5,v6,v7,())))else
some (.inr (v0,v1,false,v2,v3,v4,v5,v6,v7,())):Option (T0D⊕T0E))with
|none=>none
|some (.inl (x0,x1,x2,x3,x4,x5,x6,x7,_))=>
some (x0,x1,x2,x3,x4,x5,x6,x7,())
|some (.inr (x0,x1,x2,x3,x4,x5,x6,x7,x8,_))=>
let x9:=bB x7.length;
(bI x9 x3 x4).bind λ(ac,ae,af,_)=>
(dM ac).bind λah=>
(dh x7 ah).bind λai=>
(dh x7 ah).bind λaj=>
(dM ac).bind λak=>
(dh x7 ak).bind λam=>
(dh x7 ak).bind λan=>
(dh x7 ak).bind λap=>
let aq:=bB ap.length;
(bI aq ae af).bind λ(au,av,aw,_)=>
(d5 av aw).bind λ(ax,ay,az,aA,aB,aD,_)=>
(dM au).bind λaE=>
(dh x7 ah).bind λaF=>
(dh aF aE).bind λaG=>
(dh x7 ah).bind λaH=>
(dh aH aE).bind λaI=>
let aJ:=(List.modify x7 ah λe=>(List.modify e aE λe=>(ax,(ay,(az,aA)))));
some (x0,x1,aB,aD,x5,x6,aJ,x8,())):Option (T0D)).bind λ(x0,x1,x2,x3,x4,x5,x6,x7,_)=>
let x8:=w64 (x1+1);
some (.inl (x0,x8,x2,x3,x4,x5,x6,x7,())))else
some (.inr (v0,v1,false,v2,v3,v4,v5,v6,v7,()))
def gh(a0:List LDCn)(a1:LDTs)(a2:Int)(a3:List (Int))(a4:Int):Option (T0e):=
(ix a0 a1).bind λ(x0,x1,_)=>
(bH gY NN (a2,0,a3,a4,(),(),x0,x1,())).bind λ(x2,x3,x4,x5,x6,x7,x8,x9,ac,_)=>
some (x9,ac,x5,x6,())
def uX:X.Cfg:=⟨E0,[oA,fW,kE,iG],[],[⟨8,0,qE,[(.exit 1,qS [zaa 0,Uaa 2,zaa 6,zaa 7,Uaa 8] [(2,yab),(14,Uab),(16,Zab)]),(.normal,qS [zaa 0,Uaa 2,zaa 6,zaa 7,Uaa 8,Xaa 25] [(2,yab),(14,Uab),(16,Zab)])]⟩,⟨7,1,qE,[(.normal,qS [zaa 0,Uaa 2,zaa 6,zaa 7,Uaa 8] [(2,yab),(14,Uab),(16,Zab)])]⟩,(lx 4 2 [zaa 0,Uaa 2,zaa 6,zaa 7,Uaa 8] [(2,yab),(14,Uab),(16,Zab)] 14)]⟩
def oy:Ctr:=⟨9,10,[.ptr ⟨2,0,[]⟩ [0],.agg uab,shU I64],[(2,yab)],[⟨Zab,[.agg 2],[(2,yab)]⟩],ap5 gh⟩
theorem uO:Lk 6 oy:=ls uX (aC uQ (aC ic (aC ol (aC kj aN))))
def cO:LDCn×LDCn×Int×Unit->Option ((LDCn×LDCn×Int×Unit)⊕((Bool×Unit)⊕(LDCn×LDCn×T00))):=λ(v0,v1,v2,_)=>
let x0:=bB v0.length;
bif(decide (v2<x0))then((dM v2).bind λx1=>
(dh v0 x1).bind λx2=>
(dM v2).bind λx3=>
(dh v1 x3).bind λx4=>
let x5:Bool:=(!((x2.1==x4.1)&&((x2.2.1==x4.2.1)&&((x2.2.2.1==x4.2.2.1)&&((x2.2.2.2==x4.2.2.2)&&true)))));
bif x5 then(some (.inr (.inl (false,()))))else
let x6:=w64 (v2+1);
some (.inl (v0,v1,x6,())))else
some (.inr (.inr (v0,v1,v2,false,())))
def dB(a0:LDCn)(a1:LDCn):Option (Bool×Unit):=
let x0:=bB a0.length;
let x1:=bB a1.length;
bif(x0 != x1)then(some (false,()))else
(match bH cO NN (a0,a1,0,())with
|none=>none
|some (.inl (x2,_))=>
some (x2,())
|some (.inr (x2,_))=>
some (true,()))
def nV:X.Cfg:=⟨E0,[],[],[⟨6,0,qS [sP 0 cV,sP 1 cV,Uaa 5] [],[(.ret,qS [Xaa 4] []),(.exit 0,qS [sP 0 cV,sP 1 cV,Uaa 5,Xaa 14] [])]⟩]⟩
def fV:Ctr:=⟨22,11,uL [cV,cV],[],[⟨zab,[.one],[]⟩],ap2 dB⟩
theorem jb:Lk 1 fV:=ls nV aN
def eR(a0:Int)(a1:Int)(a2:Int)(a3:Int)(a4:Int)(a5:Int)(a6:Int)(a7:LDCn)(a8:Int)(a9:Int)(a10:Int)(a11:Int)(a12:Int)(a13:Int)(a14:Int)(a15:LDCn):Option (Bool×Unit):=
bif(a0==a8)then(bif(a1==a9)then(bif(a2==a10)then(bif(a3==a11)then(bif(a4==a12)then(bif(a5==a13)then(bif(a6==a14)then((dB a7 a15).bind λ(x0,_)=>
some (x0,()))else
some (false,()))else
some (false,()))else
some (false,()))else
some (false,()))else
some (false,()))else
some (false,()))else
some (false,())
def oQ:X.Cfg:=⟨E0,[fV],[],[]⟩
def jK:Ctr:=⟨23,12,[.agg yae,.agg yae],[],[⟨zab,[.one],[]⟩],ap16 eR⟩
theorem oM:Lk 2 jK:=ls oQ (aC jb aN)
def d7:T0j->Option (T0j⊕((Bool×Unit)⊕(Int×Bool×T0f))):=λ(v0,v1,v2,v3,v4,_)=>
let x0:=bB v1.length;
bif(decide (v0<x0))then((dM v0).bind λx1=>
(dh v1 x1).bind λx2=>
(dM v0).bind λx3=>
(dh v3 x3).bind λx4=>
(dB x2 x4).bind λ(x5,_)=>
bif(!x5)then(some (.inr (.inl (false,()))))else
let x6:=w64 (v0+1);
some (.inl (x6,v1,v2,v3,v4,())))else
some (.inr (.inr (v0,false,v1,v2,v3,v4,())))
def d6:T0j->Option (T0j⊕((Bool×Unit)⊕(Int×Bool×T0f))):=λ(v0,v1,v2,v3,v4,_)=>
let x0:=bB v2.length;
bif(decide (v0<x0))then((dM v0).bind λx1=>
(dh v2 x1).bind λx2=>
(dM v0).bind λx3=>
(dh v4 x3).bind λx4=>
(eR x2.1 x2.2.1 x2.2.2.1 x2.2.2.2.1 x2.2.2.2.2.1 x2.2.2.2.2.2.1 x2.2.2.2.2.2.2.1 x2.2.2.2.2.2.2.2 x4.1 x4.2.1 x4.2.2.1 x4.2.2.2.1 x4.2.2.2.2.1 x4.2.2.2.2.2.1 x4.2.2.2.2.2.2.1 x4.2.2.2.2.2.2.2).bind λ(x5,_)=>
bif(!x5)then(some (.inr (.inl (false,()))))else
let x6:=w64 (v0+1);
some (.inl (x6,v1,v2,v3,v4,())))else
some (.inr (.inr (v0,false,v1,v2,v3,v4,())))
def fb(a0:List LDCn)(a1:LDTs)(a2:List LDCn)(a3:LDTs):Option (Bool×Unit):=
let x0:=bB a0.length;
let x1:=bB a2.length;
bif(x0 != x1)then(some (false,()))else
let x2:=bB a1.length;
let x3:=bB a3.length;
bif(x2 != x3)then(some (false,()))else
(match bH d7 NN (0,a0,a1,a2,a3,())with
|none=>none
|some (.inl (x4,_))=>
some (x4,())
|some (.inr (x4,x5,x6))=>
(match bH d6 NN (0,x6)with
|none=>none
|some (.inl (ac,_))=>
some (ac,())
|some (.inr (ac,_))=>
some (true,())))
def uY:X.Cfg:=⟨E0,[fV,jK],[],[⟨6,0,qS [zaa 2,zaa 3,Uaa 5] [(6,uab),(8,uab)],[(.ret,qS [Xaa 4] []),(.exit 0,qS [zaa 2,zaa 3,Uaa 5,Xaa 27] [(6,uab),(8,uab)])]⟩,⟨14,1,qS [zaa 2,zaa 3,Uaa 6] [(6,uab),(8,uab)],[(.ret,qS [Xaa 4] []),(.exit 2,qS [zaa 2,zaa 3,Uaa 6,Xaa 46] [(6,uab),(8,uab)])]⟩]⟩
def oz:Ctr:=⟨11,13,[.agg uab,.agg uab],[],[⟨zab,[.one],[]⟩],ap4 fb⟩
theorem uP:Lk 3 oz:=ls uY (aC jb (aC oM aN))
def de:(List (Bool))×Bool×T01->Option (((List (Bool))×Bool×T01)⊕((Int×Unit)⊕((List (Bool))×Bool×T06))):=λ(v0,v1,v2,v3,_)=>
bif(decide (v3<v2))then((dM v3).bind λx0=>
(dh v0 x0).bind λx1=>
bif(v1==x1)then(some (.inr (.inl (v3,()))))else
let x2:=w64 (v3+1);
some (.inl (v0,v1,v2,x2,())))else
some (.inr (.inr (v0,v1,v2,v3,false,())))
def dL(a0:List (Bool))(a1:Bool):Option (Int×Unit):=
let x0:=bB a0.length;
(match bH de NN (a0,a1,x0,0,())with
|none=>none
|some (.inl (x1,_))=>
some (x1,())
|some (.inr (x1,_))=>
some ((-1),()))
def lW:X.Cfg:=⟨E0,[],[],[⟨3,0,qS [sP 0 (yaa .bool),Xaa 1,Uaa 7,Uaa 8] [],[(.ret,qS [Uaa 4] []),(.exit 0,qS [sP 0 (yaa .bool),Xaa 1,Uaa 7,Uaa 8,Xaa 9] [])]⟩]⟩
def ir:Ctr:=⟨24,14,uL [(yaa .bool),.bool],[],[⟨Xab,[.one],[]⟩],ap2 dL⟩
theorem lR:Lk 1 ir:=ls lW aN
def cL:LLCn×Int×Int×LLCn×LDTs×LI×Unit->Option ((LLCn×Int×Int×LLCn×LDTs×LI×Unit)⊕(LLCn×Int×Int×Bool×LLCn×LDTs×LI×Unit)):=λ(v0,v1,v2,v3,v4,v5,_)=>
bif(decide (v2<v1))then((dM v2).bind λx0=>
(dh v0 x0).bind λx1=>
let x2:=bB x1.length;
bif(cn 8 v5.length (List.length [x2]))then let x3:List (Int):=(List.append v5 [x2]);
let x4:=w64 (v2+1);
some (.inl (v0,v1,x4,v3,v4,x3,()))else none)else
some (.inr (v0,v1,v2,false,v3,v4,v5,()))
def gJ(a0:List LDCn)(a1:LDTs):Option (LI×Unit):=
let x0:=bB a0.length;
(bH cL NN (a0,x0,0,a0,a1,[],())).bind λ(x1,x2,x3,x4,x5,x6,x7,_)=>
some (x7,())
def tC:X.Cfg:=⟨E0,[],[],[(lx 4 0 [Zaa 3 9,sP 7 (yaa cV),Uaa 8,Uaa 9] [(4,uab),(9,zac)] 10)]⟩
def nc:Ctr:=⟨25,15,[.agg uab],[],[⟨zac,[.one],[]⟩],ap2 gJ⟩
theorem sW:Lk 1 nc:=ls tC aN
def fu(a0:Int):Option (Bool×Unit):=
bif(decide (a0>=1))then(some ((decide (a0<=32)),()))else
some (false,())
def tB:X.Cfg:=⟨E0,[],[],[]⟩
def jA:Ctr:=⟨43,16,Xab,[],[⟨zab,[.one],[]⟩],ap1 fu⟩
theorem mK:Lk 1 jA:=ls tB aN
def f9(a0:Int):Option (Bool×Unit):=
(fu a0).bind λ(x0,_)=>
some ((!x0),())
def rm:X.Cfg:=⟨E0,[jA],[],[]⟩
def lC:Ctr:=⟨42,17,Xab,[],[⟨zab,[.one],[]⟩],ap1 f9⟩
theorem q8:Lk 2 lC:=ls rm (aC mK aN)
def bV:T0a->Option (T0a⊕((Int×Unit)⊕(LI×T06))):=λ(v0,v1,v2,_)=>
bif(decide (v2<v1))then((dM v2).bind λx0=>
(dh v0 x0).bind λx1=>
(f9 x1).bind λ(x2,_)=>
bif x2 then(some (.inr (.inl (v2,()))))else
let x3:=w64 (v2+1);
some (.inl (v0,v1,x3,())))else
some (.inr (.inr (v0,v1,v2,false,())))
def dS(a0:List (Int)):Option (Int×Unit):=
let x0:=bB a0.length;
(match bH bV NN (a0,x0,0,())with
|none=>none
|some (.inl (x1,_))=>
some (x1,())
|some (.inr (x1,_))=>
some ((-1),()))
def jN:X.Cfg:=⟨E0,[lC],[],[⟨3,0,(qS [sP 0 RI,(1,.fn 42 []),Uaa 7,Uaa 8] []),[(.ret,qS [Uaa 4] []),(.exit 0,(qS [sP 0 RI,(1,.fn 42 []),Uaa 7,Uaa 8,Xaa 9] []))]⟩]⟩
def fO:Ctr:=⟨62,18,[shU RI,.fn 42 []],[],[⟨Xab,[.one],[]⟩],ap1 dS⟩
theorem jM:Lk 3 fO:=ls jN (aC q8 aN)
def cD(a0:List (Int)):Option (Bool×Unit):=
(dS a0).bind λ(x0,_)=>
some ((decide (x0>=0)),())
def iQ:X.Cfg:=⟨E0,[fO],[],[]⟩
def eL:Ctr:=⟨41,19,[shU RI,.fn 42 []],[],[⟨zab,[.one],[]⟩],ap1 cD⟩
theorem iO:Lk 4 eL:=ls iQ (aC jM aN)
def cG:T0C->Option (T0C⊕(Int×Int×Int×Int×LI×T0c)):=λ(v0,v1,v2,v3,v4,v5,v6,v7,_)=>
let x0:=w64 (v3*8);
bif(decide (x0<v2))then(let x1:LDCe:=[(v1,v3)];
bif(cn 16 v7.length x1.length)then let x2:LDCe:=(List.append v7 x1);
let x3:=w64 (v3+1);
some (.inl (v0,v1,v2,x3,v4,v5,v6,x2,()))else none)else
some (.inr (v0,v1,v2,v3,v4,v5,v6,false,v7,()))
def c8:T0i->Option (T0i⊕(Int×LI×T0c)):=λ(v0,v1,v2,v3,v4,_)=>
bif(decide (v3<v2))then((dM v3).bind λx0=>
(dh v1 x0).bind λx1=>
(bH cG NN (v0,v3,x1,0,v1,v2,v3,v4,())).bind λ(x2,x3,x4,x5,x6,x7,x8,x9,ac,_)=>
let ae:=w64 (x8+1);
some (.inl (x2,x6,x7,ae,ac,())))else
some (.inr (v0,v1,v2,v3,false,v4,()))
def cF:T07->Option (T07⊕T0c):=λ(v0,v1,v2,_)=>
bif(decide (v1<v0))then(let x0:LDCe:=[((-1),v1)];
bif(cn 16 v2.length x0.length)then let x1:LDCe:=(List.append v2 x0);
let x2:=w64 (v1+1);
some (.inl (v0,x2,x1,()))else none)else
some (.inr (v0,v1,false,v2,()))
def d8(a0:List (Int))(a1:Int):Option (LDCe×Int×Unit):=
let x0:=bB a0.length;
bif(decide (x0>4))then(some ([],3,()))else
bif(decide (a1>4))then(some ([],3,()))else
bif(decide (a1<0))then(some ([],1,()))else
(cD a0).bind λ(x1,_)=>
bif x1 then(some ([],1,()))else
let x2:=bB a0.length;
(bH c8 NN (a1,a0,x2,0,[],())).bind λ(x3,x4,x5,x6,x7,x8,_)=>
(bH cF NN (x3,0,x8,())).bind λ(x9,ac,ae,af,_)=>
some (af,0,())
def u9:X.Cfg:=⟨E0,[eL],[],[⟨16,0,qS [Uaa 1,Zaa 6 15,Uaa 7,Uaa 8,Uaa 9,sP 24 RI,Uaa 25,Uaa 26] [(15,Uac)],[(.exit 2,qS [Uaa 1,Zaa 6 15,Uaa 7,Uaa 8,Uaa 9,sP 24 RI,Uaa 25,Uaa 26,Xaa 34] [(15,Uac)])]⟩,(lx 10 1 [Uaa 1,Zaa 6 15,sP 24 RI,Uaa 25,Uaa 26] [(15,Uac)] 27),⟨22,2,qS [Zaa 6 15,Uaa 44,Uaa 45] [(15,Uac)],[(.exit 4,qS [Zaa 6 15,Uaa 44,Uaa 45,Xaa 46] [(15,Uac)])]⟩]⟩
def kG:Ctr:=⟨26,20,yab,[],[⟨uL [(uaa (.pair I64 I64)),I64],[.one,.one],[]⟩],ap2 d8⟩
theorem oo:Lk 5 kG:=ls u9 (aC iO aN)
def eS(a0:LDCn):Option (Bool×Unit):=
let x0:=bB a0.length;
(fu x0).bind λ(x1,_)=>
some ((!x1),())
def oS:X.Cfg:=⟨E0,[jA],[],[]⟩
def jL:Ctr:=⟨83,21,uL [cV],[],[⟨zab,[.one],[]⟩],ap1 eS⟩
theorem oN:Lk 2 jL:=ls oS (aC mK aN)
def bF:LLCn×T01->Option ((LLCn×T01)⊕((Int×Unit)⊕(LLCn×T06))):=λ(v0,v1,v2,_)=>
bif(decide (v2<v1))then((dM v2).bind λx0=>
(dh v0 x0).bind λx1=>
(eS x1).bind λ(x2,_)=>
bif x2 then(some (.inr (.inl (v2,()))))else
let x3:=w64 (v2+1);
some (.inl (v0,v1,x3,())))else
some (.inr (.inr (v0,v1,v2,false,())))
def dz(a0:List LDCn):Option (Int×Unit):=
let x0:=bB a0.length;
(match bH bF NN (a0,x0,0,())with
|none=>none
|some (.inl (x1,_))=>
some (x1,())
|some (.inr (x1,_))=>
some ((-1),()))
def jd:X.Cfg:=⟨E0,[jL],[],[⟨3,0,(qS [sP 0 (yaa cV),(1,.fn 83 []),Uaa 7,Uaa 8] []),[(.ret,qS [Uaa 4] []),(.exit 0,(qS [sP 0 (yaa cV),(1,.fn 83 []),Uaa 7,Uaa 8,Xaa 9] []))]⟩]⟩
def fk:Ctr:=⟨96,22,[shU (yaa cV),.fn 83 []],[],[⟨Xab,[.one],[]⟩],ap1 dz⟩
theorem ja:Lk 3 fk:=ls jd (aC oN aN)
def cw(a0:List LDCn):Option (Bool×Unit):=
(dz a0).bind λ(x0,_)=>
some ((decide (x0>=0)),())
def ie:X.Cfg:=⟨E0,[fk],[],[]⟩
def ef:Ctr:=⟨82,23,[shU (yaa cV),.fn 83 []],[],[⟨zab,[.one],[]⟩],ap1 cw⟩
theorem ib:Lk 4 ef:=ls ie (aC ja aN)
def f8(a0:List LDCn)(a1:LDTs):Option (Bool×Unit):=
let x0:=bB a0.length;
bif(decide (x0<=4))then(let x1:Int:=(bB a1.length);
bif(decide (x1<=4))then((cw a0).bind λ(x2,_)=>
some ((!x2),()))else
some (false,()))else
some (false,())
def rl:X.Cfg:=⟨E0,[ef],[],[]⟩
def lB:Ctr:=⟨49,24,[.agg uab],[],[⟨zab,[.one],[]⟩],ap2 f8⟩
theorem qZ:Lk 5 lB:=ls rl (aC ib aN)
def fc(a0:LDCn)(a1:Int):Option (LDCn×Unit):=
(bif(decide (a1<0))then(some (a0,a1,true,()))else
bif(decide (a1>32))then(some (a0,a1,true,()))else
let x0:=w64 (a1*8);
let x1:=bB a0.length;
some (a0,a1,(decide (x0>=x1)),()):Option (LDCn×T00)).bind λ(x0,x1,x2,_)=>
bif x2 then(some ([],()))else
let x3:=w64 (x1*8);
let x4:=w64 (x3+8);
let x5:=bB x0.length;
let x6:=mmR false x4 x5;
(dM x3).bind λx7=>
(dM x6).bind λx8=>
bif(pC x7 x8 x0.length)then let x9:LDCn:=(Fy x0 x7 (Nat.sub x8 x7));
some (x9,())else none
def u5:X.Cfg:=⟨E0,[],[],[⟨2,0,qE,[(.normal,qS [sP 0 cV,Uaa 1,Xaa 18] [])]⟩]⟩
def kF:Ctr:=⟨60,25,uL [cV,I64],[],[⟨uL [cV],[.one],[]⟩],ap2 fc⟩
theorem om:Lk 1 kF:=ls u5 aN
def gI(a0:List LDCn)(a1:LDTs)(a2:Int)(a3:Int):Option (Bool×Unit):=
bif(a2==(-1))then(bif(decide (a3>=0))then(let x0:Int:=(bB a1.length);
some ((decide (a3<x0)),()))else
some (false,()))else
bif(decide (a2>=0))then(let x0:Int:=(bB a0.length);
bif(decide (a2<x0))then((dM a2).bind λx1=>
(dh a0 x1).bind λx2=>
(fc x2 a3).bind λ(x3,_)=>
let x4:=bB x3.length;
some ((decide (x4>0)),()))else
some (false,()))else
some (false,())
def tA:X.Cfg:=⟨E0,[kF],[],[]⟩
def nb:Ctr:=⟨85,26,[.agg uab,.agg uac],[],[⟨zab,[.one],[]⟩],ap4 gI⟩
theorem sV:Lk 2 nb:=ls tA (aC om aN)
def gj(a0:List LDCn)(a1:LDTs)(a2:Int)(a3:Int):Option (Int×Unit):=
(f8 a0 a1).bind λ(x0,_)=>
bif(!x0)then(some (1,()))else
(gI a0 a1 a2 a3).bind λ(x1,_)=>
bif(!x1)then(some (30,()))else
some (0,())
def u7:X.Cfg:=⟨E0,[lB,nb],[],[]⟩
def oC:Ctr:=⟨58,27,[.agg uab,.agg uac],[],[⟨Xab,[.one],[]⟩],ap4 gj⟩
theorem uS:Lk 6 oC:=ls u7 (aC qZ (aC sV aN))
def cN(a0:LDCn):Option (LDCn×Unit):=
bif(cn 24 0 a0.length)then let x0:LDCn:=(List.append [] a0);
some (x0,())else none
def ld:X.Cfg:=⟨E0,[],[],[]⟩
def eA:Ctr:=⟨55,28,uL [cV],[],[⟨Zae,[.one],[]⟩],ap1 cN⟩
theorem gD:Lk 1 eA:=ls ld aN
def jq(a0:Int)(a1:Int)(a2:Int)(a3:Int)(a4:Int)(a5:Int)(a6:Int)(a7:LDCn):Option (T0B):=
(cN a7).bind λ(x0,_)=>
some (a0,a1,a2,a3,a4,a5,a6,x0,())
def tF:X.Cfg:=⟨E0,[eA],[],[]⟩
def nj:Ctr:=⟨56,29,[.agg yae],[],[⟨Zad,[.agg 8],[]⟩],ap8 jq⟩
theorem s6:Lk 2 nj:=ls tF (aC gD aN)
def jo(a0:List LDCn)(a1:LDTs)(a2:Int)(a3:Int):Option (T0J):=
bif(a2==(-1))then((dM a3).bind λx0=>
(dh a1 x0).bind λx1=>
(jq x1.1 x1.2.1 x1.2.2.1 x1.2.2.2.1 x1.2.2.2.2.1 x1.2.2.2.2.2.1 x1.2.2.2.2.2.2.1 x1.2.2.2.2.2.2.2).bind λ(x2,x3,x4)=>
some (a2,a3,[],x2,x3,x4))else
(dM a2).bind λx0=>
(dh a0 x0).bind λx1=>
(fc x1 a3).bind λ(x2,_)=>
(cN x2).bind λ(x3,_)=>
some (a2,a3,x3,0,0,0,0,0,0,0,[],())
def wH:X.Cfg:=⟨E0,[nj,kF,eA],[],[]⟩
def qz:Ctr:=⟨59,30,[.agg uab,.agg uac],[],[⟨zae,[.agg 11],[]⟩],ap4 jo⟩
theorem wz:Lk 3 qz:=ls wH (aC s6 (aC om (aC gD aN)))
def jp(a0:List LDCn)(a1:LDTs)(a2:Int)(a3:Int):Option (Int×Int×LDCn×Int×Int×Int×Int×Int×Int×Int×LDCn×Int×Unit):=
(gj a0 a1 a2 a3).bind λ(x0,_)=>
bif(x0 != 0)then(some (0,0,[],0,0,0,0,0,0,0,[],x0,()))else
(jo a0 a1 a2 a3).bind λ(x1,x2,x3,x4,x5,x6,x7,x8,x9,ac,ae,_)=>
some (x1,x2,x3,x4,x5,x6,x7,x8,x9,ac,ae,0,())
def wI:X.Cfg:=⟨E0,[oC,qz],[],[]⟩
def qB:Ctr:=⟨36,31,[.agg uab,.agg uac],[],[⟨uL [I64,I64,cV,I64,I64,I64,I64,I64,I64,CW,cV,I64],[.agg 11,.one],[]⟩],ap4 jp⟩
theorem wB:Lk 7 qB:=ls wI (aC uS (aC wz aN))
def cx:Int×LI×Int×T08->Option ((Int×LI×Int×T08)⊕(Int×LI×Int×T0d)):=λ(v0,v1,v2,v3,v4,v5,_)=>
bif(decide (v4<8))then(let x0:Int:=(wk .u64 v0);
let x1:=w64 (8*v4);
(dM x1).bind λx2=>
let x3:Int:=(shR .shr .u64 x0 x2);
let x4:=wk .u8 x3;
bif(cn 1 v5.length (List.length [x4]))then let x5:List (Int):=(List.append v5 [x4]);
let x6:=w64 (v4+1);
some (.inl (v0,v1,v2,v3,x6,x5,()))else none)else
some (.inr (v0,v1,v2,v3,v4,false,v5,()))
def cI:LI×T08->Option ((LI×T08)⊕(LI×T0d)):=λ(v0,v1,v2,v3,_)=>
bif(decide (v2<v1))then((dM v2).bind λx0=>
(dh v0 x0).bind λx1=>
(bH cx NN (x1,v0,v1,v2,0,v3,())).bind λ(x2,x3,x4,x5,x6,x7,x8,_)=>
let x9:=w64 (x5+1);
some (.inl (x3,x4,x9,x8,())))else
some (.inr (v0,v1,v2,false,v3,()))
def cZ(a0:List (Int))(a1:List (Int)):Option (LI×Unit):=
let x0:=bB a0.length;
(bH cI NN (a0,x0,0,a1,())).bind λ(x1,x2,x3,x4,x5,_)=>
some (x5,())
def qc:X.Cfg:=⟨E0,[],[],[⟨9,0,qS [Zaa 0 3,Uaa 6,sP 8 RI,Uaa 9,Uaa 10,Uaa 14] [(3,yac)],[(.exit 2,qS [Zaa 0 3,Uaa 6,sP 8 RI,Uaa 9,Uaa 10,Uaa 14,Xaa 15] [(3,yac)])]⟩,(lx 3 1 [Zaa 0 3,sP 8 RI,Uaa 9,Uaa 10] [(3,yac)] 11)]⟩
def is:Ctr:=⟨64,32,[.pk ⟨3,0,[]⟩ [0,0],shU RI],[(3,yac)],[⟨yac,[.one],[(3,[])]⟩],ap2 cZ⟩
theorem km:Lk 1 is:=ls qc aN
def dC:LDCn×T08->Option ((LDCn×T08)⊕(LDCn×T0d)):=λ(v0,v1,v2,v3,_)=>
bif(decide (v2<v1))then((dM v2).bind λx0=>
(dh v0 x0).bind λx1=>
let x2:=wk .i64 x1.1;
let x3:=wk .i64 x1.2.1;
let x4:List (Int):=[x2,x3,x1.2.2.1,x1.2.2.2];
(cZ x4 v3).bind λ(x5,_)=>
let x6:=w64 (v2+1);
some (.inl (v0,v1,x6,x5,())))else
some (.inr (v0,v1,v2,false,v3,()))
def gi(a0:LDCn)(a1:List (Int)):Option (LI×Unit):=
let x0:=bB a0.length;
(cZ [x0] a1).bind λ(x1,_)=>
let x2:=bB a0.length;
(bH dC NN (a0,x2,0,x1,())).bind λ(x3,x4,x5,x6,x7,_)=>
some (x7,())
def u6:X.Cfg:=⟨E0,[is],[],[(lx 4 0 [Zaa 0 3,sP 12 cV,Uaa 13,Uaa 14] [(3,yac)] 15)]⟩
def oB:Ctr:=⟨63,33,[.pk ⟨3,0,[]⟩ [0,0],shU cV],[(3,yac)],[⟨yac,[.one],[(3,[])]⟩],ap2 gi⟩
theorem uR:Lk 2 oB:=ls u6 (aC km aN)
def gK(a0:Int)(a1:Int)(a2:LDCn)(a3:Int)(a4:Int)(a5:Int)(a6:Int)(a7:Int)(a8:Int)(a9:Int)(a10:LDCn):Option (LI×Unit):=
let x0:List (Int):=[a0,a1];
(cZ x0 []).bind λ(x1,_)=>
(gi a2 x1).bind λ(x2,_)=>
let x3:=wk .i64 a9;
let x4:List (Int):=[a3,a4,a5,a6,a7,a8,x3];
(cZ x4 x2).bind λ(x5,_)=>
(gi a10 x5).bind λ(x6,_)=>
some (x6,())
def tD:X.Cfg:=⟨E0,[is,oB],[],[]⟩
def ng:Ctr:=⟨44,34,[.agg zae],[],[⟨yac,[.one],[]⟩],ap11 gK⟩
theorem sX:Lk 3 ng:=ls tD (aC km (aC uR aN))
def jr(a0:List (Int))(a1:List (Int)):Option (Bool×Unit):=
let x0:ByteArray:=(n5 a0);
let x1:ByteArray:=(n5 a1);
some ((GQ x0 x1),())
def tG:X.Cfg:=⟨E0,[],[],[]⟩
def nn:Ctr:=⟨98,35,uL [(yaa CB),(yaa CB)],[],[⟨zab,[.one],[]⟩],ap2 jr⟩
theorem s7:Lk 1 nn:=ls tG aN
def ga(a0:Bool)(a1:List (Int))(a2:Bool)(a3:List (Int)):Option (Bool×Unit):=
bif(a0==a2)then(bif(!a0)then(some (true,()))else
(jr a1 a3).bind λ(x0,_)=>
some (x0,()))else
some (false,())
def rn:X.Cfg:=⟨E0,[nn],[],[]⟩
def lD:Ctr:=⟨88,36,[.agg Zac,.agg Zac],[],[⟨zab,[.one],[]⟩],ap4 ga⟩
theorem q9:Lk 2 lD:=ls rn (aC s7 aN)
def eW(a0:Bool)(a1:List (Int))(a2:List (Int))(a3:Bool)(a4:List (Int)):Option (Bool×Unit):=
(ga a3 a4 a0 a1).bind λ(x0,_)=>
some (x0,())
def lY:X.Cfg:=⟨E0,[lD],[],[]⟩
def iu:Ctr:=⟨87,37,[.agg Xac,.ip Zac],[],[⟨zab,[.one],[]⟩],ap5 eW⟩
theorem lS:Lk 3 iu:=ls lY (aC q9 aN)
def bP:T0s->Option (T0s⊕((Int×Unit)⊕((List (Bool×LI×List (Int)))×Bool×LI×T06))):=λ(v0,v1,v2,v3,v4,_)=>
bif(decide (v4<v3))then((dM v4).bind λx0=>
(dh v0 x0).bind λx1=>
(eW x1.1 x1.2.1 x1.2.2 v1 v2).bind λ(x2,_)=>
bif x2 then(some (.inr (.inl (v4,()))))else
let x3:=w64 (v4+1);
some (.inl (v0,v1,v2,v3,x3,())))else
some (.inr (.inr (v0,v1,v2,v3,v4,false,())))
def dy(a0:List (Bool×LI×List (Int)))(a1:Bool)(a2:List (Int)):Option (Int×Unit):=
let x0:=bB a0.length;
(match bH bP NN (a0,a1,a2,x0,0,())with
|none=>none
|some (.inl (x1,_))=>
some (x1,())
|some (.inr (x1,_))=>
some ((-1),()))
def jc:X.Cfg:=⟨E0,[iu],[],[⟨3,0,(qS [(0,shU (yaa (.pair .bool (.pair (yaa CB) RI)))),(1,.fn 87 [.ip Zac]),Uaa 7,Uaa 8] []),[(.ret,qS [Uaa 4] []),(.exit 0,(qS [(0,shU (yaa (.pair .bool (.pair (yaa CB) RI)))),(1,.fn 87 [.ip Zac]),Uaa 7,Uaa 8,Xaa 9] []))]⟩]⟩
def fj:Ctr:=⟨97,38,[shU (yaa (.pair .bool (.pair (yaa CB) RI))),.fn 87 [.ip Zac]],[],[⟨Xab,[.one],[]⟩],ap3 dy⟩
theorem i9:Lk 4 fj:=ls jc (aC lS aN)
def dl(a0:List (Bool×LI×List (Int)))(a1:Bool)(a2:List (Int)):Option (Int×Unit):=
(dy a0 a1 a2).bind λ(x0,_)=>
bif(decide (x0>=0))then(some (x0,()))else
let x1:=bB a0.length;
some (x1,())
def kv:X.Cfg:=⟨E0,[fj],[],[]⟩
def gq:Ctr:=⟨86,39,[shU (yaa (.pair .bool (.pair (yaa CB) RI))),.fn 87 [.ip Zac]],[],[⟨Xab,[.one],[]⟩],ap3 dl⟩
theorem ko:Lk 5 gq:=ls kv (aC i9 aN)
def js(a0:List (Int)):Option (LI×Unit):=
bif(cn 1 0 a0.length)then let x0:List (Int):=(List.append [] a0);
some (x0,())else none
def tH:X.Cfg:=⟨E0,[],[],[]⟩
def nq:Ctr:=⟨89,40,uL [(yaa CB)],[],[⟨yac,[.one],[]⟩],ap1 js⟩
theorem s8:Lk 1 nq:=ls tH aN
def cP:T0z->Option (T0z⊕((List (Bool))×(List (Bool×List (Int)))×Int×Int×Bool×(List (Bool×LI×List (Int)))×Unit)):=λ(v0,v1,v2,v3,v4,_)=>
bif(decide (v3<v2))then((dM v3).bind λx0=>
(dh v1 x0).bind λx1=>
(dM v3).bind λx2=>
(dh v0 x2).bind λx3=>
bif(!x3)then(let x4:Int:=(w64 (v3+1));
some (.inl (v0,v1,v2,x4,v4,())))else
(dl v4 x1.1 x1.2).bind λ(x4,_)=>
(let x5:=bB v4.length;
bif(x4==x5)then(bif x1.1 then((js x1.2).bind λ(x6,_)=>
let x7:List (Bool×LI×List (Int)):=[(x1.1,(x6,[]))];
bif(cn 56 v4.length x7.length)then let x8:List (Bool×LI×List (Int)):=(List.append v4 x7);
some (v0,v3,x4,v1,v2,v3,x8,())else none)else
let x6:List (Bool×LI×List (Int)):=[(x1.1,([],[]))];
bif(cn 56 v4.length x6.length)then let x7:List (Bool×LI×List (Int)):=(List.append v4 x6);
some (v0,v3,x4,v1,v2,v3,x7,())else none)else
some (v0,v3,x4,v1,v2,v3,v4,()):Option ((List (Bool))×Int×Int×T0t)).bind λ(x5,x6,x7,x8,x9,ac,ae,_)=>
(dM x7).bind λaf=>
(dh ae af).bind λah=>
(dh ae af).bind λai=>
(dh ae af).bind λaj=>
bif(cn 8 aj.2.2.length (List.length [x6]))then let ak:List (Int):=(List.append aj.2.2 [x6]);
(dM x7).bind λam=>
(dh ae am).bind λan=>
(dh ae am).bind λap=>
bif(Nat.beq am af)then let aq:List (Bool×LI×List (Int)):=(List.modify ae am λe=>(e.1,(e.2.1,ak)));
let au:=w64 (ac+1);
some (.inl (x5,x8,x9,au,aq,()))else none else none)else
some (.inr (v0,v1,v2,v3,false,v4,()))
def em(a0:List (Bool×List (Int)))(a1:List (Bool)):Option ((List (Bool×LI×List (Int)))×Int×Unit):=
let x0:=bB a0.length;
bif(decide (x0>5))then(some ([],3,()))else
let x1:=bB a1.length;
let x2:=bB a0.length;
bif(x1 != x2)then(some ([],1,()))else
let x3:=bB a0.length;
(bH cP NN (a1,a0,x3,0,[],())).bind λ(x4,x5,x6,x7,x8,x9,_)=>
some (x9,0,())
def nW:X.Cfg:=⟨E0,[gq,nq],[(49,(.pair .bool (.pair (uaa CB) (uaa I64)))),(50,(.pair .bool (.pair (uaa CB) (uaa I64))))],[⟨18,0,qE,[(.normal,(qS [sP 1 (yaa .bool),Zaa 6 15,Uaa 7,Uaa 9,sP 19 (yaa (.pair .bool (yaa CB))),Uaa 20,Uaa 21] [(15,[shU (uaa (.pair .bool (.pair (uaa CB) (uaa I64))))])]))]⟩,(lx 10 1 [sP 1 (yaa .bool),Zaa 6 15,sP 19 (yaa (.pair .bool (yaa CB))),Uaa 20,Uaa 21] [(15,[shU (uaa (.pair .bool (.pair (uaa CB) (uaa I64))))])] 22)]⟩
def jh:Ctr:=⟨65,41,uL [(yaa (.pair .bool (yaa CB))),(yaa .bool)],[],[⟨[shU (uaa (.pair .bool (.pair (uaa CB) (uaa I64)))),shU I64],[.one,.one],[]⟩],ap2 em⟩
theorem nT:Lk 6 jh:=ls nW (aC ko (aC s8 aN))
def gW(a0:Int):Option (Bool×Unit):=
bif(decide (a0>=1))then(some ((decide (a0<=5)),()))else
some (false,())
def wE:X.Cfg:=⟨E0,[],[],[]⟩
def ma:Ctr:=⟨66,42,Xab,[],[⟨zab,[.one],[]⟩],ap1 gW⟩
theorem pY:Lk 1 ma:=ls wE aN
def gX(a0:Bool)(a1:List (Int))(a2:List (Int))(a3:Bool)(a4:List (Int))(a5:List (Int)):Option (Bool×Unit):=
bif a0 then(let x0:Int:=(bB a2.length);
let x1:=bB a5.length;
some ((decide (x0>x1)),()))else
some (false,())
def qb:X.Cfg:=⟨E0,[],[],[]⟩
def kD:Ctr:=⟨68,43,[.agg Xac,.agg Xac],[],[⟨zab,[.one],[]⟩],ap6 gX⟩
theorem pZ:Lk 1 kD:=ls qb aN
def eH:T0I->Option (T0I⊕((List (Bool×LI×List (Int)))×Int×Int×Bool×T0m)):=λ(v0,v1,v2,v3,v4,v5,v6,v7,v8,_)=>
bif(decide (v2<v1))then(((dM v2).bind λx0=>
(dh v0 x0).bind λx1=>
(gX x1.1 x1.2.1 x1.2.2 v6 v7 v8).bind λ(x2,_)=>
bif x2 then(some (v0,v1,v2,v3,v4,v5,x1.1,x1.2.1,x1.2.2,()))else
some (v0,v1,v2,v3,v4,v5,v6,v7,v8,()):Option (T0I)).bind λ(x0,x1,x2,x3)=>
let x9:=w64 (x2+1);
some (.inl (x0,x1,x9,x3)))else
some (.inr (v0,v1,v2,false,v3,v4,v5,v6,v7,v8,()))
def jn(a0:List (Bool×LI×List (Int))):Option (T05):=
let x0:=bB a0.length;
(bH eH NN (a0,x0,0,false,(),(),false,[],[],())).bind λ(x1,x2,x3,x4,x5,x6,x7,x8)=>
some (x8)
def wF:X.Cfg:=⟨E0,[kD],[],[⟨7,0,qE,[(.normal,(qS [(1,.fn 68 []),zaa 4,zaa 5,(8,shU (yaa (.pair .bool (.pair (yaa CB) RI)))),Uaa 9,Uaa 10] [(10,uL [.bool,N1,N1]),(12,Xac)]))]⟩,(lx 4 1 [(1,.fn 68 []),zaa 4,zaa 5,(8,shU (yaa (.pair .bool (.pair (yaa CB) RI)))),Uaa 9,Uaa 10] [(10,uL [.bool,N1,N1]),(12,Xac)] 11)]⟩
def qx:Ctr:=⟨67,44,[shU (yaa (.pair .bool (.pair (yaa CB) RI))),.fn 68 []],[],[⟨Xac,[.agg 3],[]⟩],ap1 jn⟩
theorem ww:Lk 2 qx:=ls wF (aC pZ aN)
def gF(a0:Int):Option (Int×Unit):=
(gW a0).bind λ(x0,_)=>
bif(!x0)then(some (0,()))else
let x1:=w64 (Int.tdiv a0 2);
let x2:=w64 (x1+1);
some (x2,())
def tu:X.Cfg:=⟨E0,[ma],[],[]⟩
def m7:Ctr:=⟨69,45,Xab,[],[⟨Xab,[.one],[]⟩],ap1 gF⟩
theorem sR:Lk 2 m7:=ls tu (aC pY aN)
def ci:LI×Int×T01->Option ((LI×Int×T01)⊕((Int×Unit)⊕(LI×Int×T06))):=λ(v0,v1,v2,v3,_)=>
bif(decide (v3<v2))then((dM v3).bind λx0=>
(dh v0 x0).bind λx1=>
bif(v1==x1)then(some (.inr (.inl (v3,()))))else
let x2:=w64 (v3+1);
some (.inl (v0,v1,v2,x2,())))else
some (.inr (.inr (v0,v1,v2,v3,false,())))
def ft(a0:List (Int))(a1:Int):Option (Int×Unit):=
let x0:=bB a0.length;
(match bH ci NN (a0,a1,x0,0,())with
|none=>none
|some (.inl (x1,_))=>
some (x1,())
|some (.inr (x1,_))=>
some ((-1),()))
def mO:X.Cfg:=⟨E0,[],[],[⟨3,0,qS [sP 0 RI,Uaa 1,Uaa 7,Uaa 8] [],[(.ret,qS [Uaa 4] []),(.exit 0,qS [sP 0 RI,Uaa 1,Uaa 7,Uaa 8,Xaa 9] [])]⟩]⟩
def iH:Ctr:=⟨70,46,yab,[],[⟨Xab,[.one],[]⟩],ap2 ft⟩
theorem mJ:Lk 1 iH:=ls mO aN
def cE(a0:List (Int))(a1:Int):Option (Bool×Unit):=
(ft a0 a1).bind λ(x0,_)=>
some ((decide (x0>=0)),())
def ku:X.Cfg:=⟨E0,[iH],[],[]⟩
def d9:Ctr:=⟨46,47,yab,[],[⟨zab,[.one],[]⟩],ap2 cE⟩
theorem gm:Lk 2 d9:=ls ku (aC mJ aN)
def dP:T0S->Option (T0S⊕((List (Bool×List (Int)))×(List (Bool))×Int×(List (Bool×LI×List (Int)))×Int×(List (Bool×LI×List (Int)))×Int×Int×Bool×T0n)):=λ(v0,v1,v2,v3,v4,v5,v6,v7,v8)=>
bif(decide (v7<v6))then((dM v7).bind λx0=>
(dh v5 x0).bind λx1=>
let x2:=bB x1.2.2.length;
let x3:=w64 (v4+x2);
let x4:=w64 (v7+1);
some (.inl (v0,v1,v2,v3,x3,v5,v6,x4,v8)))else
some (.inr (v0,v1,v2,v3,v4,v5,v6,v7,false,v8))
def dO:T0K->Option (T0K⊕((List (Bool))×Int×Int×Bool×T0G)):=λ(v0,v1,v2,v3,v4,v5,v6,v7,v8,v9,v10,v11,_)=>
bif(decide (v2<v1))then(((dM v2).bind λx0=>
(dh v0 x0).bind λx1=>
bif x1 then((cE v8 v2).bind λ(x2,_)=>
bif(!x2)then(bif(cn 8 v11.length (List.length [v2]))then let x3:List (Int):=(List.append v11 [v2]);
some (v0,v1,v2,v3,v4,v5,v6,v7,v8,v9,v10,x3,())else none)else
some (v0,v1,v2,v3,v4,v5,v6,v7,v8,v9,v10,v11,()))else
some (v0,v1,v2,v3,v4,v5,v6,v7,v8,v9,v10,v11,()):Option (T0K)).bind λ(x0,x1,x2,x3,x4)=>
let af:=w64 (x2+1);
some (.inl (x0,x1,af,x3,x4)))else
some (.inr (v0,v1,v2,false,v3,v4,v5,v6,v7,v8,v9,v10,v11,()))
def gG(a0:List (Bool×List (Int)))(a1:List (Bool))(a2:Int):Option (Int×T0b):=
(em a0 a1).bind λ(x0,x1,_)=>
bif(x1 != 0)then(some (0,[],[],x1,()))else
(gW a2).bind λ(x2,_)=>
bif(!x2)then(some (0,[],[],1,()))else
let x3:=bB x0.length;
(bH dP NN (a0,a1,a2,x0,0,x0,x3,0,0,(),(),x0,())).bind λ(x4,x5,x6,x7,x8,x9,ac,ae,af,ah,ai,aj,ak,_)=>
bif(decide (x8<x6))then(some (4,[],[],0,()))else
(jn x7).bind λ(am,an,ap,_)=>
let aq:=bB ap.length;
bif(aq==x8)then(some (1,an,[],0,()))else
let au:=bB ap.length;
(gF x8).bind λ(av,_)=>
bif(decide (au<av))then(some (3,[],[],0,()))else
let aw:=bB x4.length;
(bH dO NN (x5,aw,0,ah,ai,aj,am,an,ap,2,an,[],())).bind λ(ax,ay,az,aA,aB,aD,aE,aF,aG,aH,aI,aJ,aK,_)=>
some (aI,aJ,aK,0,())
def tw:X.Cfg:=⟨E0,[jh,ma,qx,m7,d9],[],[(lx 11 0 [sP 0 (yaa (.pair .bool (yaa CB))),sP 1 (yaa .bool),Uaa 2,zaa 6,(8,shU (yaa (.pair .bool (.pair (yaa CB) RI)))),Uaa 10,(30,shU (yaa (.pair .bool (.pair (yaa CB) RI)))),Uaa 31,Uaa 32] [(14,Uae),(19,[shU (yaa (.pair .bool (.pair (yaa CB) RI)))])] 33),⟨31,1,qE,[(.normal,qS [sP 1 (yaa .bool),zaa 6,zaa 13,zaa 14,Uaa 69,Uaa 70] [(14,Uae),(28,Xac),(30,yad)])]⟩,⟨28,2,qS [sP 1 (yaa .bool),zaa 6,zaa 13,zaa 14,Uaa 69,Uaa 70] [(14,Uae),(28,Xac),(30,yad)],[(.exit 3,qS [sP 1 (yaa .bool),zaa 6,zaa 13,zaa 14,Uaa 69,Uaa 70,Xaa 71] [(14,Uae),(28,Xac),(30,yad)])]⟩]⟩
def m8:Ctr:=⟨45,48,uL [(yaa (.pair .bool (yaa CB))),(yaa .bool),I64],[],[⟨uL [I64,(yaa CB),(uaa I64),I64],[.agg 3,.one],[]⟩],ap3 gG⟩
theorem sS:Lk 7 m8:=ls tw (aC nT (aC pY (aC ww (aC sR (aC gm aN)))))
end
end Go.Proofs.Ytakfoejcjdcgbaa
