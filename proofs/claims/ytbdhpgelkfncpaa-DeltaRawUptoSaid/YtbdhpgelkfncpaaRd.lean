/- Part of the proof; no condition. -/
import Derived.Test.YtbdhpgelkfncpaaRc
import Derived.Laws.AppendOwnNone
import Derived.Deep.DeepAppendRoom
import Derived.ArgAppend
import Derived.Orders
import Derived.Deep.RegionWith
import Derived.Outline
import Derived.Deep.DeepCutAuto
import Derived.RegionTactic
import Derived.BigRegion
import Derived.StillTailTactics
import Derived.Test.YtbdhpgelkfncpaaProg
import Derived.WalkKit
import Derived.WalkSpells
import Derived.Handy
import Derived.Sort.Grow
import Derived.Shelf.GgSortFunc.RowK
import Derived.Shelf.SlicesQ.Reverse
import Derived.Lib.SlicesCompact
import Derived.Lib.SliceRun
import Derived.Laws.StructEq
import Derived.Deep.LoopGhost
import Derived.Deep.Draws
import Derived.Sort.WalkB12
import Derived.Shelf.RegionOpenPlain
import Derived.Shelf.SlSortCmp.WholeK
import Derived.Shelf.SlSortCmp.NoneTotal
import Derived.Shelf.SlicesE.Clone
import Derived.Ground.SlgnProg
import Derived.Maps.Own
import Derived.Maps.OwnOps
import Derived.Maps.Views
import Derived.DeepKeys5
import Derived.ChangeKeys
set_option linter.unusedVariables false
set_option linter.unusedSimpArgs false
namespace Go.Proofs.Ytbdhpgelkfncpaa
open Go.RowKit
structure Rp (α:Type) where
 size:Nat
 rep:World->(Nat->Prop)->α->List Value->Prop
 own:World->List Nat->α->List Value->Prop
 pos:0<size
 len:∀{w F a cs},rep w F a cs->cs.length=size
 one:∀{w F a cs},rep w F a cs->∀v∈cs,v.oneCell'=true
 keep:∀{w w' F a cs},rep w F a cs->gm F w w'->rep w' F a cs
 sub:∀{w F G a cs},rep w F a cs->(∀k,F k->G k)->rep w G a cs
 live:∀{w F a cs},rep w F a cs->rep w (λk=>F k/\k<w.heap.size) a cs
 okeep:∀{w w' fp a cs},own w fp a cs->(∀k,k∈fp->w'.heap[k]?=w.heap[k]?)->own w' fp a cs
 olive:∀{w fp a cs},own w fp a cs->∀k,k∈fp->k<w.heap.size
 reads:∀{w fp a cs},own w fp a cs->rep w (λk=>k∈fp) a cs
def MG(k:IntKind):Rp Int where
 size:=1
 rep _ _ a cs:=cs=[.int k a]/\(Lit.int k a).wf=true
 own _ fp a cs:=fp=[]/\cs=[.int k a]/\(Lit.int k a).wf=true
 pos:=by decide
 len:=λh=>by rw[h.1];rfl
 one:=λh=>by rw[h.1];simp[Value.oneCell']
 keep:=λh _=>h
 sub:=λh _=>h
 live:=λh=>h
 okeep:=λh _=>h
 olive:=λh k hk=>by rw[h.1]at hk;simp at hk
 reads:=λh=>h.2
def mG{α β:Type}(R:Rp α)(S:Rp β):Rp (α×β) where
 size:=R.size+S.size
 rep w F p cs:=∃c d,cs=c++d/\R.rep w F p.1 c/\S.rep w F p.2 d
 own w fp p cs:=∃c d f g,cs=c++d/\fp=f++g/\R.own w f p.1 c/\S.own w g p.2 d
 pos:=by have:=R.pos;omega
 len:=λ⟨c,d,e,h1,h2⟩=>by rw[e,List.length_append,R.len h1,S.len h2]
 one:=λ⟨c,d,e,h1,h2⟩ v hv=>by
  rw[e,List.mem_append]at hv;rcases hv with hv|hv
  ·exact R.one h1 v hv
  ·exact S.one h2 v hv
 keep:=λ⟨c,d,e,h1,h2⟩ ha=>⟨c,d,e,R.keep h1 ha,S.keep h2 ha⟩
 sub:=λ⟨c,d,e,h1,h2⟩ hs=>⟨c,d,e,R.sub h1 hs,S.sub h2 hs⟩
 live:=λ⟨c,d,e,h1,h2⟩=>⟨c,d,e,R.live h1,S.live h2⟩
 okeep:=λ⟨c,d,f,g,e,e',h1,h2⟩ hk=>⟨c,d,f,g,e,e',R.okeep h1 λk h=>hk k (by rw[e'];exact List.mem_append_left _ h),S.okeep h2 λk h=>hk k (by rw[e'];exact List.mem_append_right _ h)⟩
 olive:=λ⟨c,d,f,g,e,e',h1,h2⟩ k hk=>by
  rw[e',List.mem_append]at hk;rcases hk with hk|hk
  ·exact R.olive h1 k hk
  ·exact S.olive h2 k hk
 reads:=λ⟨c,d,f,g,e,e',h1,h2⟩=>⟨c,d,e,R.sub (R.reads h1) λk h=>by rw[e'];exact List.mem_append_left _ h,S.sub (S.reads h2) λk h=>by rw[e'];exact List.mem_append_right _ h⟩
section
variable {α:Type} (R:Rp α)
def eJ(w:World)(F:Nat->Prop):List α->List Value->Prop
 | [],cs=>cs=[]
 |x::r,cs=>∃c d,cs=c++d/\R.rep w F x c/\eJ w F r d
def jb(w:World):List Nat->List α->List Value->Prop
 |fp,[],cs=>cs=[]/\fp=[]
 |fp,x::r,cs=>∃c d f g,cs=c++d/\fp=f++g/\R.own w f x c/\jb w g r d
variable {R}
theorem eJ.len{w:World}{F:Nat->Prop}:∀{xs:List α}{cs:List Value},eJ R w F xs cs->cs.length=xs.length*R.size
 | [],_,h=>by rw[show _=[]from h];simp
 |x::r,_,⟨c,d,e,h1,h2⟩=>by rw[e,List.length_append,R.len h1,eJ.len h2,oLC,Nat.succ_mul,Nat.add_comm]
theorem eJ.one{w:World}{F:Nat->Prop}:∀{xs:List α}{cs:List Value},eJ R w F xs cs->∀v∈cs,v.oneCell'=true
 | [],_,h,v,hv=>by rw[show _=[]from h]at hv;simp at hv
 |x::r,_,⟨c,d,e,h1,h2⟩,v,hv=>by
  rw[e,List.mem_append]at hv;rcases hv with hv|hv
  ·exact R.one h1 v hv
  ·exact eJ.one h2 v hv
theorem eJ.keep{w w':World}{F:Nat->Prop}(ha:gm F w w'):∀{xs:List α}{cs:List Value},eJ R w F xs cs->eJ R w' F xs cs
 | [],_,h=>h
 |x::r,_,⟨c,d,e,h1,h2⟩=>⟨c,d,e,R.keep h1 ha,eJ.keep ha h2⟩
theorem eJ.sub{w:World}{F G:Nat->Prop}(hs:∀k,F k->G k):∀{xs:List α}{cs:List Value},eJ R w F xs cs->eJ R w G xs cs
 | [],_,h=>h
 |x::r,_,⟨c,d,e,h1,h2⟩=>⟨c,d,e,R.sub h1 hs,eJ.sub hs h2⟩
theorem eJ.live{w:World}{F:Nat->Prop}:∀{xs:List α}{cs:List Value},eJ R w F xs cs->eJ R w (λk=>F k/\k<w.heap.size) xs cs
 | [],_,h=>h
 |x::r,_,⟨c,d,e,h1,h2⟩=>⟨c,d,e,R.live h1,eJ.live h2⟩
theorem eJ.append{w:World}{F:Nat->Prop}:∀{xs ys:List α}{cs ds:List Value},eJ R w F xs cs->eJ R w F ys ds->eJ R w F (xs++ys) (cs++ds)
 | [],_,_,_,h,h'=>by rw[show _=[]from h];simpa using h'
 |x::r,_,_,ds,⟨c,d,e,h1,h2⟩,h'=>⟨c,d++ds,by rw[e,List.append_assoc],h1,eJ.append h2 h'⟩
theorem eJ.single{w:World}{F:Nat->Prop}{x:α}{c:List Value}(h:R.rep w F x c):eJ R w F [x] c:=⟨c,[],by simp,h,rfl⟩
theorem eJ.at_{w:World}{F:Nat->Prop}:∀{xs:List α}{cs:List Value},eJ R w F xs cs->∀{k:Nat}(hk:k<xs.length),∃c,R.rep w F xs[k] c/\∀(j:Nat) u,c[j]?=some u->cs[k*R.size+j]?=some u
 |x :: r,_,⟨c,d,e,h1,h2⟩,0,_=>⟨c,h1,λj u hj=>by
    have hlt:j<c.length:=(oGS hj).1
    rw[e,Nat.zero_mul,Nat.zero_add,List.getElem?_append_left hlt];exact hj⟩
 |x::r,_,⟨c,d,e,h1,h2⟩,k+1,hk=>by
  obtain⟨c',h3,h4⟩:=eJ.at_ h2 (k:=k) (by simpa using hk);refine⟨c',h3,λj u hj=>?_⟩;rw[e,List.getElem?_append_right (by rw[R.len h1,Nat.succ_mul];omega),R.len h1,show(k+1)*R.size+j-R.size=k*R.size+j by rw[Nat.succ_mul];omega];exact h4 j u hj
theorem eJ.take{w:World}{F:Nat->Prop}:∀{xs:List α}{cs:List Value},eJ R w F xs cs->∀(n:Nat),eJ R w F (xs.take n) (cs.take (n*R.size))
 | [],_,h,n=>by rw[show _=[]from h];simp[eJ]
 |x::r,_,_,0=>by simp[eJ]
 |x::r,_,⟨c,d,e,h1,h2⟩,n+1=>by
  refine⟨c,d.take (n*R.size),?_,h1,eJ.take h2 n⟩;rw[e,List.take_append,List.take_of_length_le (by rw[R.len h1,Nat.succ_mul];omega),R.len h1,show(n+1)*R.size-R.size=n*R.size by rw[Nat.succ_mul];omega]
theorem eJ.drop{w:World}{F:Nat->Prop}:∀{xs:List α}{cs:List Value},eJ R w F xs cs->∀(n:Nat),eJ R w F (xs.drop n) (cs.drop (n*R.size))
 | [],_,h,n=>by rw[show _=[]from h];simp[eJ]
 |x::r,_,h,0=>by simpa using h
 |x::r,_,⟨c,d,e,h1,h2⟩,n+1=>by
  have e0:c.drop ((n+1)*R.size)=[]:=List.drop_of_length_le (by rw[R.len h1,Nat.succ_mul];omega);rw[e,List.drop_append,e0,R.len h1,show(n+1)*R.size-R.size=n*R.size by rw[Nat.succ_mul];omega];simpa using eJ.drop h2 n
theorem jb.keep{w w':World}:∀{xs:List α}{fp:List Nat}{cs:List Value},jb R w fp xs cs->(∀k,k∈fp->w'.heap[k]?=w.heap[k]?)->jb R w' fp xs cs
 | [],_,_,h,_=>h
 |x::r,_,_,⟨c,d,f,g,e,e',h1,h2⟩,hk=>⟨c,d,f,g,e,e',R.okeep h1 λk h=>hk k (by rw[e'];exact List.mem_append_left _ h),jb.keep h2 λk h=>hk k (by rw[e'];exact List.mem_append_right _ h)⟩
theorem jb.live{w:World}:∀{xs:List α}{fp:List Nat}{cs:List Value},jb R w fp xs cs->∀k,k∈fp->k<w.heap.size
 | [],_,_,h,k,hk=>by rw[h.2]at hk;simp at hk
 |x::r,_,_,⟨c,d,f,g,e,e',h1,h2⟩,k,hk=>by
  rw[e',List.mem_append]at hk;rcases hk with hk|hk
  ·exact R.olive h1 k hk
  ·exact jb.live h2 k hk
theorem jb.reads{w:World}:∀{xs:List α}{fp:List Nat}{cs:List Value},jb R w fp xs cs->eJ R w (λk=>k∈fp) xs cs
 | [],_,_,h=>h.1
 |x::r,_,_,⟨c,d,f,g,e,e',h1,h2⟩=>⟨c,d,e,R.sub (R.reads h1) λk h=>by rw[e'];exact List.mem_append_left _ h,eJ.sub (λk h=>by rw[e'];exact List.mem_append_right _ h) (jb.reads h2)⟩
theorem jb.append{w:World}:∀{xs ys:List α}{fp gp:List Nat}{cs ds:List Value},jb R w fp xs cs->jb R w gp ys ds->jb R w (fp++gp) (xs++ys) (cs++ds)
 | [],_,_,_,_,_,h,h'=>by obtain⟨rfl,rfl⟩:=h;simpa using h'
 |x::r,_,_,gp,_,ds,⟨c,d,f,g,e,e',h1,h2⟩,h'=>⟨c,d++ds,f,g++gp,by rw[e,List.append_assoc],by rw[e',List.append_assoc],h1,jb.append h2 h'⟩
theorem jb.single{w:World}{fp:List Nat}{x:α}{c:List Value}(h:R.own w fp x c):jb R w fp [x] c:=⟨c,[],fp,[],by simp,by simp,h,rfl,rfl⟩
theorem jb.len{w:World}{xs:List α}{fp:List Nat}{cs:List Value}(h:jb R w fp xs cs):cs.length=xs.length*R.size:=(jb.reads h).len
theorem jb.split{w:World}:∀{xs:List α}{fp:List Nat}{cs:List Value},jb R w fp xs cs->∀{k:Nat}(hk:k<xs.length),
 ∃f1 f f2 c1 c c2,fp=f1++f++f2/\cs=c1++c++c2/\c1.length=k*R.size/\jb R w f1 (xs.take k) c1/\R.own w f xs[k] c/\jb R w f2 (xs.drop (k+1)) c2
 |x::r,_,_,⟨c,d,f,g,e,e',h1,h2⟩,0,_=>⟨[],f,g,[],c,d,by simpa using e',by simpa using e,by simp,⟨rfl,rfl⟩,h1,h2⟩
 |x::r,_,_,⟨c,d,f,g,e,e',h1,h2⟩,k+1,hk=>by
  obtain⟨f1,f',f2,c1,c',c2,e1,e2,e3,h3,h4,h5⟩:=jb.split h2 (k:=k) (by simpa using hk);exact⟨f++f1,f',f2,c++c1,c',c2,by rw[e',e1];simp,by rw[e,e2];simp,by rw[List.length_append,e3,R.len (R.reads h1),Nat.succ_mul,Nat.add_comm],⟨c,c1,f,f1,rfl,rfl,h1,h3⟩,h4,h5⟩
theorem jb.join{w:World}{xs:List α}{k:Nat}(hk:k<xs.length){f1 f f2:List Nat}{c1 c c2:List Value}{y:α}(h1:jb R w f1 (xs.take k) c1)(h:R.own w f y c)(h2:jb R w f2 (xs.drop (k+1)) c2):
 jb R w (f1++f++f2) (xs.set k y) (c1++c++c2):=by
 rw[List.set_eq_take_append_cons_drop,oIP hk,List.append_assoc,List.append_assoc];exact jb.append h1 ⟨c,c2,f,f2,rfl,rfl,h,h2⟩
variable (R)
def RSl(w:World)(F:Nat->Prop)(xs:List α)(v:Value):Prop:=
 ∃A c cs,v=.slice A xs.length c/\xs.length<=c/\c<=9223372036854775807/\xs.length<=1099511627776/\(A=none->c=0)/\Row w F A cs/\eJ R w F xs cs
def OSl(e:TypeId)(w:World)(fp:List Nat)(xs:List α)(v:Value):Prop:=
 xs.length<=1099511627776/\((v=.slice none 0 0/\xs=[]/\fp=[])\/
  ∃q c cs g,v=.slice (some ⟨q,0,none⟩) xs.length c/\fp=q::g/\xs.length<=c/\c<=9223372036854775807/\lr e w q (c*R.size) cs/\jb R w g xs cs)
variable {R}
theorem RSl.keep{w w':World}{F:Nat->Prop}{xs:List α}{v:Value}(h:RSl R w F xs v)(ha:gm F w w'):RSl R w' F xs v:=
 let ⟨A,c,cs,e,h1,h2,h3,h4,h5,h6⟩:=h;⟨A,c,cs,e,h1,h2,h3,h4,h5.keep ha,h6.keep ha⟩
theorem RSl.sub{w:World}{F G:Nat->Prop}{xs:List α}{v:Value}(h:RSl R w F xs v)(hs:∀k,F k->G k):RSl R w G xs v:=
 let ⟨A,c,cs,e,h1,h2,h3,h4,h5,h6⟩:=h;⟨A,c,cs,e,h1,h2,h3,h4,h5.sub hs,h6.sub hs⟩
theorem RSl.live{w:World}{F:Nat->Prop}{xs:List α}{v:Value}(h:RSl R w F xs v):RSl R w (λk=>F k/\k<w.heap.size) xs v:=
 let ⟨A,c,cs,e,h1,h2,h3,h4,h5,h6⟩:=h;⟨A,c,cs,e,h1,h2,h3,h4,λi hi=>by
  obtain⟨b,off,e,hF,hc⟩:=h5 i hi
  exact⟨b,off,e,⟨hF,World.block_lt_of_cell? w _ hc⟩,hc⟩,h6.live⟩
theorem lr.row'{e:TypeId}{w:World}{q n:Nat}{vs:List Value}(h:lr e w q n vs):Row w (λk=>k=q) (some ⟨q,0,none⟩) vs:=by
 intro i hi;exact⟨q,0,rfl,rfl,by rw[Nat.zero_add,h.cell hi]⟩
theorem OSl.keep{e:TypeId}{w w':World}{fp:List Nat}{xs:List α}{v:Value}(h:OSl R e w fp xs v)(hk:∀k,k∈fp->w'.heap[k]?=w.heap[k]?):OSl R e w' fp xs v:=by
 obtain⟨hb,h|⟨q,c,cs,g,e1,e2,h1,h2,h3,h4⟩⟩:=h
 ·exact⟨hb,.inl h⟩
 ·exact⟨hb,.inr ⟨q,c,cs,g,e1,e2,h1,h2,h3.keep (hk q (by rw[e2];simp)),h4.keep λk h=>hk k (by rw[e2];simp[h])⟩⟩
theorem OSl.live{e:TypeId}{w:World}{fp:List Nat}{xs:List α}{v:Value}(h:OSl R e w fp xs v):∀k,k∈fp->k<w.heap.size:=by
 obtain⟨hb,⟨_,_,rfl⟩|⟨q,c,cs,g,e1,rfl,h1,h2,h3,h4⟩⟩:=h
 ·simp
 ·intro k hk;rcases List.mem_cons.1 hk with rfl|hk
  ·exact h3.hi
  ·exact h4.live k hk
theorem OSl.reads{e:TypeId}{w:World}{fp:List Nat}{xs:List α}{v:Value}(h:OSl R e w fp xs v):RSl R w (λk=>k∈fp) xs v:=by
 obtain⟨hb,⟨rfl,rfl,rfl⟩|⟨q,c,cs,g,rfl,rfl,h1,h2,h3,h4⟩⟩:=h
 ·exact⟨none,0,[],rfl,Nat.le_refl _,by omega,hb,λ_=>rfl,Row.nil _ _ _,rfl⟩
 ·exact⟨_,c,cs,rfl,h1,h2,hb,λh=>by simp at h,h3.row'.sub λk hk=>by simp[hk],h4.reads.sub λk hk=>by simp[hk]⟩
end
def KW{α:Type}(e:TypeId)(R:Rp α):Rp (List α) where
 size:=1
 rep w F xs cs:=∃v,cs=[v]/\RSl R w F xs v
 own w fp xs cs:=∃v,cs=[v]/\OSl R e w fp xs v
 pos:=by decide
 len:=λ⟨v,e,_⟩=>by rw[e];rfl
 one:=λ⟨v,e,A,c,cs,e2,_⟩=>by rw[e,e2];simp[Value.oneCell']
 keep:=λ⟨v,e,h⟩ ha=>⟨v,e,h.keep ha⟩
 sub:=λ⟨v,e,h⟩ hs=>⟨v,e,h.sub hs⟩
 live:=λ⟨v,e,h⟩=>⟨v,e,h.live⟩
 okeep:=λ⟨v,e,h⟩ hk=>⟨v,e,h.keep hk⟩
 olive:=λ⟨v,e,h⟩=>h.live
 reads:=λ⟨v,e,h⟩=>⟨v,e,h.reads⟩
section
variable {α:Type} {R:Rp α}
def Kn(F:Nat->Prop)(w:World):Prop:=∀k,w.heap.size<=k->F k
theorem Kn.grow{F:Nat->Prop}{w w':World}(h:Kn F w)(hg:w.heap.size<=w'.heap.size):Kn F w':=λk hk=>h k (Nat.le_trans hg hk)
theorem RSl.grow{w w':World}{F:Nat->Prop}{xs:List α}{v:Value}(h:RSl R w F xs v)(hg:w.grownBy w' none):RSl R w' F xs v:=
 (h.live.keep (w':=w') λk hk=>hg.block k hk.2 (by simp)).sub λk hk=>hk.1
theorem Rp.grow(R:Rp α){w w':World}{F:Nat->Prop}{x:α}{cs:List Value}(h:R.rep w F x cs)(hg:w.grownBy w' none):R.rep w' F x cs:=
 R.sub (R.keep (R.live h) (w':=w') λk hk=>hg.block k hk.2 (by simp)) λk hk=>hk.1
theorem jb.grow{w w':World}{fp:List Nat}{xs:List α}{cs:List Value}(h:jb R w fp xs cs)(hg:w.grownBy w' none):jb R w' fp xs cs:=h.keep λk hk=>hg.block k (h.live k hk) (by simp)
theorem eJ.grow{w w':World}{F:Nat->Prop}{xs:List α}{cs:List Value}(h:eJ R w F xs cs)(hg:w.grownBy w' none):eJ R w' F xs cs:=
 (eJ.keep (w':=w') (λk hk=>hg.block k hk.2 (by simp)) h.live).sub λk hk=>hk.1
theorem OSl.grow{e:TypeId}{w w':World}{fp:List Nat}{xs:List α}{v:Value}(h:OSl R e w fp xs v)(hg:w.grownBy w' none):OSl R e w' fp xs v:=h.keep λk hk=>hg.block k (h.live k hk) (by simp)
theorem RSl.nil(w:World)(F:Nat->Prop):RSl R w F [] (.slice none 0 0):=⟨none,0,[],rfl,Nat.le_refl _,by omega,by simp,λ_=>rfl,Row.nil _ _ _,rfl⟩
theorem RSl.at_{w:World}{F:Nat->Prop}{xs:List α}{v:Value}(h:RSl R w F xs v){k:Nat}(hk:k<xs.length):
 ∃b off c cs,v=.slice (some ⟨b,off,none⟩) xs.length c/\xs.length<=c/\c<=9223372036854775807/\F b/\R.rep w F xs[k] cs/\∀(j:Nat) u,cs[j]?=some u->w.cell? ⟨b,off+(k*R.size+j),none⟩=some u:=by
 obtain⟨A,c,cs,rfl,h1,h2,h3,h4,h5,h6⟩:=h;obtain⟨d,hd,hj⟩:=h6.at_ hk;have Rd:=R.len hd;have hp:=R.pos;have h0:d[0]?=some d[0]:=oGE (by omega);have h7:=hj 0 _ h0;obtain⟨h8,_⟩:=oGS h7;obtain⟨b,off,rfl,hF,_⟩:=h5 _ h8;refine⟨b,off,c,d,rfl,h1,h2,hF,hd,λj u hu=>?_⟩;obtain⟨h9,ZI⟩:=oGS (hj j u hu);obtain⟨b',U',e,_,hc⟩:=h5 _ h9
 injection e with e;injection e with e1 e2;subst e1;subst e2
 rw[hc,ZI]
theorem RSl.size_eq{w:World}{F:Nat->Prop}{xs:List α}{v:Value}(h:RSl R w F xs v):
 ∃A c,v=.slice A xs.length c/\xs.length<=c/\c<=9223372036854775807/\xs.length<=1099511627776:=
 let ⟨A,c,_,e,h1,h2,h3,_⟩:=h;⟨A,c,e,h1,h2,h3⟩
theorem RSl.cells{w:World}{F:Nat->Prop}{xs:List α}{v:Value}(h:RSl R w F xs v):
 (xs=[]/\∃A c,v=.slice A 0 c/\(A=none->c=0))\/∃ad c cs,v=.slice (some ad) xs.length c/\cs.length=xs.length*R.size/\(∀(j:Nat) u,cs[j]?=some u->w.cell? (ad.add j)=some u)/\eJ R w F xs cs:=by
 obtain⟨A,c,cs,rfl,h1,h2,h3,h4,h5,h6⟩:=h;by_cases hx:xs=[]
 ·subst hx;exact .inl ⟨rfl,A,c,rfl,h4⟩
 ·refine .inr ?_;have hl:=h6.len;have hp:0<xs.length*R.size:=Nat.mul_pos (List.length_pos_iff.2 hx) R.pos;obtain⟨b,off,rfl,_,_⟩:=h5 0 (by omega);refine⟨_,c,cs,rfl,hl,λj u hu=>?_,h6⟩;obtain⟨h9,ZI⟩:=oGS hu;obtain⟨b',U',e,_,hc⟩:=h5 _ h9
  injection e with e;injection e with e1 e2;subst e1;subst e2
  rw[show(⟨b,off,none⟩:Addr).add j=⟨b,off+j,none⟩ by simp[Addr.add],hc,ZI]
def Mk(R:Rp α)(e:TypeId)(base:Nat)(w:World)(G:Nat->Prop)(v:Value)(xs:List α):Prop:=
 ∃cs,w.ownsRow base e R.size v xs.length cs/\xs.length<=1099511627776/\eJ R w (λk=>G k/\some k≠v.ownBlock) xs cs
def MkO(R:Rp α)(e:TypeId)(base:Nat)(w:World)(fp:List Nat)(v:Value)(xs:List α):Prop:=
 ∃cs,w.ownsRow base e R.size v xs.length cs/\xs.length<=1099511627776/\jb R w fp xs cs/\fp.Nodup/\∀k,k∈fp->base<=k/\some k≠v.ownBlock
theorem Mk.nil(R:Rp α)(e:TypeId)(base:Nat)(w:World)(G:Nat->Prop):Mk R e base w G (.slice none 0 0) []:=⟨[],World.ownsRow_nil _ _ _ _,by simp,rfl⟩
theorem MkO.nil(R:Rp α)(e:TypeId)(base:Nat)(w:World):MkO R e base w [] (.slice none 0 0) []:=⟨[],World.ownsRow_nil _ _ _ _,by simp,⟨rfl,rfl⟩,List.nodup_nil,by simp⟩
theorem Mk.grow{e:TypeId}{base:Nat}{w w':World}{G:Nat->Prop}{v:Value}{xs:List α}(h:Mk R e base w G v xs)(hg:w.grownBy w' none):Mk R e base w' G v xs:=by
 obtain⟨cs,h1,h2,h3⟩:=h;refine⟨cs,h1.kept hg ?_,h2,(eJ.keep (w':=w') (λk hk=>hg.block k hk.2 (by simp)) h3.live).sub λk hk=>hk.1⟩;cases hv:v.ownBlock
 ·exact .inl rfl
 ·exact .inr (by simp)
theorem MkO.grow{e:TypeId}{base:Nat}{w w':World}{fp:List Nat}{v:Value}{xs:List α}(h:MkO R e base w fp v xs)(hg:w.grownBy w' none):MkO R e base w' fp v xs:=by
 obtain⟨cs,h1,h2,h3,h4,h5⟩:=h;refine⟨cs,h1.kept hg ?_,h2,h3.keep λk hk=>hg.block k (h3.live k hk) (by simp),h4,h5⟩;cases hv:v.ownBlock
 ·exact .inl rfl
 ·exact .inr (by simp)
theorem Mk.done{e:TypeId}{base:Nat}{w:World}{F G:Nat->Prop}{v:Value}{xs:List α}(h:Mk R e base w G v xs)(hF:∀k,base<=k->F k)(hG:∀k,G k->F k):RSl R w F xs v:=by
 obtain⟨cs,h1,h2,h3⟩:=h;have hlt:=h1.lt;have hc:=@World.ownsRow.cells w base e R.size v xs.length cs h1
 rcases h1.2 with⟨rfl,hn⟩|⟨g,cap,cur,rfl,hb,YX,hcap,hmax,hsz,Zx⟩
 ·have hx:xs=[]:=oEN hn;subst hx;exact RSl.nil _ _
 ·refine⟨_,cap,cs,rfl,hcap,by simpa[maxLen]using hmax,h2,by simp,λi hi=>⟨g,0,rfl,hF g hb,?_⟩,h3.sub λk hk=>hG k hk.1⟩;have:=hc rfl i _ (oGE hi);rw[show(⟨g,0+i,none⟩:Addr)=(⟨g,0,none⟩:Addr).add i from by unfold Addr.add;split<;>simp_all];exact this
theorem MkO.done{e:TypeId}{base:Nat}{w:World}{fp:List Nat}{v:Value}{xs:List α}(h:MkO R e base w fp v xs):
 ∃gp,OSl R e w gp xs v/\gp.Nodup/\∀k,k∈gp->base<=k:=by
 obtain⟨cs,h1,h2,h3,h4,h5⟩:=h
 rcases h1.2 with⟨rfl,hn⟩|⟨g,cap,cur,rfl,hb,YX,hcap,hmax,hsz,Zx⟩
 ·have hx:xs=[]:=oEN hn;subst hx;exact⟨[],⟨h2,.inl ⟨rfl,rfl,rfl⟩⟩,List.nodup_nil,by simp⟩
 ·refine⟨g::fp,⟨h2,.inr ⟨g,cap,cs,fp,rfl,rfl,hcap,by simpa[maxLen]using hmax,⟨cur,YX,hsz,by rw[h1.1];exact Zx⟩,h3⟩⟩,?_,?_⟩
  ·refine List.nodup_cons.2 ⟨λhm=>(h5 g hm).2 rfl,h4⟩
  ·intro k hk;rcases List.mem_cons.1 hk with rfl|hk
   ·exact hb
   ·exact(h5 k hk).1
theorem Mk.shape{e:TypeId}{base:Nat}{w:World}{G:Nat->Prop}{v:Value}{xs:List α}(h:Mk R e base w G v xs):∃A c,v=.slice A xs.length c:=by
 obtain⟨cs,h1,h2,h3⟩:=h
 rcases h1.2 with⟨rfl,hn⟩|⟨g,cap,cur,rfl,_⟩
 ·rw[hn];exact⟨_,_,rfl⟩
 ·exact⟨_,_,rfl⟩
theorem MkO.shape{e:TypeId}{base:Nat}{w:World}{fp:List Nat}{v:Value}{xs:List α}(h:MkO R e base w fp v xs):∃A c,v=.slice A xs.length c:=by
 obtain⟨cs,h1,h2,h3⟩:=h
 rcases h1.2 with⟨rfl,hn⟩|⟨g,cap,cur,rfl,_⟩
 ·rw[hn];exact⟨_,_,rfl⟩
 ·exact⟨_,_,rfl⟩
theorem OSl.shape{e:TypeId}{w:World}{fp:List Nat}{v:Value}{xs:List α}(h:OSl R e w fp xs v):∃A c,v=.slice A xs.length c:=by
 obtain⟨hb,⟨rfl,rfl,rfl⟩|⟨q,c,cs,g,rfl,rfl,h1,h2,h3,h4⟩⟩:=h
 ·exact⟨_,_,rfl⟩
 ·exact⟨_,_,rfl⟩
end
structure SlT (P:Program)(t e:TypeId)(size bytes:Nat):Prop where
 under:P.underlying t=some (.slice e)
 info:∃i z,P.info? e=some i/\i.zero=some z/\i.size=size/\i.bytes=bytes/\z.cells.size=size
 pos:0<size
section
variable {P:Program} {w:World} {t e:TypeId} {size bytes:Nat}
theorem mQ(T:SlT P t e size bytes)(ty:TypeId)(base:Nat)(v:Value)(n:Nat)(xs:List Value)(hown:w.ownsRow base e size v n xs)
 (ad:Addr)(m c:Nat)(news:List Value)(hl:news.length=m*size)(Zn:∀(j:Nat) u,news[j]?=some u->w.cell? (ad.add j)=some u)(h1:∀u∈news,u.oneCell'=true)
 (Tk:n+m<=maxLen)(YR:(n+m)*bytes<=140737488355328)(ZE:base<=w.heap.size):
 ∃v' w',(Builtin.append_ #[t,t] ty #[v,.slice (some ad) m c]).run P w=.ok v' w'/\w'.ownsRow base e size v' (n+m) (xs++news)/\w.grownBy w' v.ownBlock /\
  (v'.ownBlock=v.ownBlock\/∀k,v'.ownBlock=some k->w.heap.size<=k):=by
 obtain⟨i,z,hi,hz,Y3,YE,Zg⟩:=T.info
 rcases hown.2 with⟨rfl,hn⟩|⟨g,cap,cur,rfl,hb,YX,hcap,hmax,hsz,Zx⟩
 ·subst hn;have hx:xs=[]:=oEN (by simpa using hown.1);subst hx;obtain⟨v',w',hr,ZZ,hg,_⟩:=run_append_own (P:=P) w w.heap.size t ty e i z size bytes T.under hi hz Y3 YE Zg T.pos (.slice none 0 0) 0 [] ⟨by simp,.inl ⟨rfl,rfl⟩⟩ ad m c news hl Zn h1 Tk YR (Nat.le_refl _);refine⟨v',w',hr,?_,hg,.inr λk hk=>(ZZ.lt k hk).1⟩;refine⟨ZZ.1,?_⟩;rcases ZZ.2 with h|⟨g,cap,cur,e1,e2,e3⟩
  ·exact .inl h
  ·exact .inr ⟨g,cap,cur,e1,Nat.le_trans ZE e2,e3⟩
 ·rcases Nat.lt_or_ge cap (n+m)with hlt|hge
  ·have hc:=@World.ownsRow.cells w base e size _ n xs hown;obtain⟨v',w',hr,ZZ,hg⟩:=run_append_arg_grows (P:=P) w t ty e i z size bytes T.under hi hz Y3 YE Zg T.pos ⟨g,0,none⟩ n cap xs hown.1 (hc rfl) ad m c news hl Zn hlt Tk YR;refine⟨v',w',hr,⟨ZZ.1,?_⟩,lS hg,.inr λk hk=>(ZZ.lt k hk).1⟩;rcases ZZ.2 with h|⟨g,cap,cur,e1,e2,e3⟩
   ·exact .inl h
   ·exact .inr ⟨g,cap,cur,e1,Nat.le_trans ZE e2,e3⟩
  ·obtain⟨w',hr,ZZ,hg⟩:=run_append_own_spare (P:=P) w base t ty e i size T.under hi Y3 g n cap xs hown ad m c news hl Zn h1 hge;exact⟨_,w',hr,ZZ,hg,.inl rfl⟩
end
section
variable {P:Program} {ops:Array Oper} {rest:List Oper} {o:Oper} {a:Act} {Q:Exit->Act->World->Prop} {w:World} {t e:TypeId} {size bytes:Nat} {α:Type} {R:Rp α}
theorem jM(Yj:o.guard=none)(s x:Operand)(T:SlT P t e size bytes)(ho:o.op=.call { callee:=.builtin .append,args:=#[s,x],argTypes:=#[t,t] })
 (base:Nat)(v:Value)(n:Nat)(xs:List Value)(hs:a.eval s=v)(hown:w.ownsRow base e size v n xs)
 (ad:Addr)(m c:Nat)(news:List Value)(hx:a.eval x=.slice (some ad) m c)(hl:news.length=m*size)(Zn:∀(j:Nat) u,news[j]?=some u->w.cell? (ad.add j)=some u)(h1:∀u∈news,u.oneCell'=true)
 (Tk:n+m<=maxLen)(YR:(n+m)*bytes<=140737488355328)(ZE:base<=w.heap.size)
 (h:∀v' w',w'.ownsRow base e size v' (n+m) (xs++news)->w.grownBy w' v.ownBlock->(v'.ownBlock=v.ownBlock\/∀k,v'.ownBlock=some k->w.heap.size<=k)->wpList P ops Q rest (a.put o.dst v') w'):wpList P ops Q (o::rest) a w:=by
 refine wpList_plain Yj λK hK=>?_;obtain⟨v',w',hrun,h2,h3,h4⟩:=mQ (P:=P) (w:=w) T o.type base v n xs hown ad m c news hl Zn h1 Tk YR ZE;unfold Oper.wp;simp[execOp,ho,resolve,invoke,builtin,hs,hx,hrun,Result.andThen];exact hK _ _ (h v' w' h2 h3 h4)
theorem rF{n:Nat}(h:n<=2199023255552):n<=maxLen:=by simp only[maxLen];omega
theorem wj{n b:Nat}(h:n<=1099511627776)(hb:b<=128):n*b<=140737488355328:=Nat.le_trans (Nat.mul_le_mul h hb) (by decide)
theorem iQ(Yj:o.guard=none)(s x:Operand)(T:SlT P t e R.size bytes)(YE:bytes<=128)(ho:o.op=.call { callee:=.builtin .append,args:=#[s,x],argTypes:=#[t,t] })
 (base:Nat)(G:Nat->Prop)(v:Value)(xs:List α)(hs:a.eval s=v)(hown:Mk R e base w G v xs)(ZE:base<=w.heap.size)
 (u:Value)(ys:List α)(hx:a.eval x=u)(Yn:RSl R w (λk=>G k/\some k≠v.ownBlock) ys u)(hnil:∀c,u=.slice none 0 c->c=0)(hlen:xs.length+ys.length<=1099511627776)
 (h:∀v' w',Mk R e base w' G v' (xs++ys)->w.grownBy w' v.ownBlock->wpList P ops Q rest (a.put o.dst v') w'):wpList P ops Q (o::rest) a w:=by
 obtain⟨cs,h1,h2,h3⟩:=hown;obtain⟨i,z,hi,hz,Y3,hb,Zg⟩:=T.info;obtain⟨A,c,ds,rfl,g1,g2,g3,g4,g5,g6⟩:=Yn
 cases A with
 |none=>
  have hy:ys=[]:=by
   have hl:=g6.len;by_cases hy:ys=[]
   ·exact hy
   ·have hp:0<ys.length*R.size:=Nat.mul_pos (List.length_pos_iff.2 hy) R.pos;obtain⟨_,_,e,_⟩:=g5 0 (by omega);simp at e
  subst hy;have hc:=g4 rfl;subst hc;refine wpList_append_own_none Yj s x t ho base e i R.size T.under hi v xs.length cs hs h1 hx ?_;refine h v w ⟨cs,by simpa using h1,by simpa using h2,by simpa using h3⟩ (aY _ _)
 |some ad=>
  have hcell:∀(j:Nat) u,ds[j]?=some u->w.cell? (ad.add j)=some u:=λj u hu=>by
   obtain⟨h9,ZI⟩:=oGS hu;obtain⟨b',U',e,_,hc⟩:=g5 _ h9
   injection e with e;subst e
   rw[show(⟨b',U',none⟩:Addr).add j=⟨b',U'+j,none⟩ by simp[Addr.add],hc,ZI]
  refine jM Yj s x T ho base v xs.length cs hs h1 ad ys.length c ds hx g6.len hcell g6.one (rF (by omega)) (wj hlen YE) ZE ?_;intro v' w' ZZ hg W1;refine h v' w' ⟨cs++ds,by rw[List.length_append];exact ZZ,by simpa using hlen,?_⟩ hg;have ZW:=(eJ.append h3 g6).live;refine(eJ.keep (w':=w') (λk hk=>hg.block k hk.2 hk.1.2) ZW).sub λk hk=>⟨hk.1.1,?_⟩;rcases W1 with e|W1
  ·rw[e];exact hk.1.2
  ·intro e;have:=W1 k e.symm;omega
theorem RSl.one{w:World}{F:Nat->Prop}{x:α}{cs:List Value}{b:Nat}(h:R.rep w F x cs)(hF:F b)(hc:∀(j:Nat) u,cs[j]?=some u->w.cell? ⟨b,j,none⟩=some u):RSl R w F [x] (.slice (some ⟨b,0,none⟩) 1 1):=
 ⟨some ⟨b,0,none⟩,1,cs,rfl,Nat.le_refl _,by omega,by simp,by simp,λi hi=>⟨b,0,rfl,hF,by rw[Nat.zero_add];exact hc i _ (oGE hi)⟩,eJ.single h⟩
theorem wv(Yj:o.guard=none)(s x:Operand)(T:SlT P t e R.size bytes)(YE:bytes<=128)(ho:o.op=.call { callee:=.builtin .append,args:=#[s,x],argTypes:=#[t,t] })
 (base:Nat)(G:Nat->Prop)(v:Value)(xs:List α)(hs:a.eval s=v)(hown:Mk R e base w G v xs)(ZE:base<=w.heap.size)
 (b:Nat)(y:α)(cs:List Value)(hx:a.eval x=.slice (some ⟨b,0,none⟩) 1 1)(hy:R.rep w (λk=>G k/\some k≠v.ownBlock) y cs)(hc:∀(j:Nat) u,cs[j]?=some u->w.cell? ⟨b,j,none⟩=some u)
 (hlen:xs.length+1<=1099511627776)
 (h:∀v' w',Mk R e base w' G v' (xs++[y])->w.grownBy w' v.ownBlock->wpList P ops Q rest (a.put o.dst v') w'):wpList P ops Q (o::rest) a w:=by
 obtain⟨ds,h1,h2,h3⟩:=hown
 have hcell:∀(j:Nat) u,cs[j]?=some u->w.cell? ((⟨b,0,none⟩:Addr).add j)=some u:=λj u hu=>by
  rw[show(⟨b,0,none⟩:Addr).add j=⟨b,j,none⟩ by unfold Addr.add;split<;>simp_all];exact hc j u hu
 refine jM Yj s x T ho base v xs.length ds hs h1 ⟨b,0,none⟩ 1 1 cs hx (by rw[R.len hy];simp) hcell (R.one hy) (rF (by omega)) (wj hlen YE) ZE ?_;intro v' w' ZZ hg W1;refine h v' w' ⟨ds++cs,by rw[List.length_append];exact ZZ,by simpa using hlen,?_⟩ hg;have ZW:=(eJ.append h3 (eJ.single hy)).live;refine(eJ.keep (w':=w') (λk hk=>hg.block k hk.2 hk.1.2) ZW).sub λk hk=>⟨hk.1.1,?_⟩;rcases W1 with e|W1
 ·rw[e];exact hk.1.2
 ·intro e;have:=W1 k e.symm;omega
end
theorem fw{a b c:World}{row:Option Nat}(h:a.grownBy b none)(h':b.grownBy c row)(hr:∀k,row=some k->a.heap.size<=k):a.grownBy c none:=
 ⟨h'.os.trans h.os,h'.tape.trans h.tape,h'.output.trans h.output,Nat.le_trans h.size h'.size,λk hk _=>(h'.block k (Nat.lt_of_lt_of_le hk h.size) (λe=>by have:=hr k e.symm;omega)).trans (h.block k hk (by simp))⟩
theorem MkO.row{α:Type}{R:Rp α}{e:TypeId}{base:Nat}{w:World}{fp:List Nat}{v:Value}{xs:List α}(h:MkO R e base w fp v xs):∀k,v.ownBlock=some k->base<=k/\k<w.heap.size:=
 let ⟨_,h1,_⟩:=h;h1.lt
theorem Mk.row{α:Type}{R:Rp α}{e:TypeId}{base:Nat}{w:World}{G:Nat->Prop}{v:Value}{xs:List α}(h:Mk R e base w G v xs):∀k,v.ownBlock=some k->base<=k/\k<w.heap.size:=
 let ⟨_,h1,_⟩:=h;h1.lt
theorem MkO.live{α:Type}{R:Rp α}{e:TypeId}{base:Nat}{w:World}{fp:List Nat}{v:Value}{xs:List α}(h:MkO R e base w fp v xs):∀k,k∈fp->k<w.heap.size:=
 let ⟨_,_,_,h3,_⟩:=h;h3.live
theorem MkO.above{α:Type}{R:Rp α}{e:TypeId}{base:Nat}{w w':World}{fp:List Nat}{v:Value}{xs:List α}(h:MkO R e base w fp v xs)(hk:∀k,base<=k->k<w.heap.size->w'.heap[k]?=w.heap[k]?):MkO R e base w' fp v xs:=by
 obtain⟨cs,h1,h2,h3,h4,h5⟩:=h;refine⟨cs,⟨h1.1,?_⟩,h2,h3.keep λk YS=>hk k (h5 k YS).1 (h3.live k YS),h4,h5⟩;rcases h1.2 with h|⟨g,cap,cur,e1,hb,YX,h⟩
 ·exact .inl h
 ·exact .inr ⟨g,cap,cur,e1,hb,by rw[hk g hb (Array.getElem?_eq_some_iff.1 YX).1];exact YX,h⟩
theorem MkO.setBelow{α:Type}{R:Rp α}{e:TypeId}{base:Nat}{w:World}{fp:List Nat}{v:Value}{xs:List α}(h:MkO R e base w fp v xs){p:Addr}(hp:p.block<base)(u:Value):MkO R e base (w.setCell p u) fp v xs:=
 h.above λk hk _=>Below.heap_setCell w p u k (by omega)
theorem Mk.setBelow{α:Type}{R:Rp α}{e:TypeId}{base:Nat}{w:World}{G:Nat->Prop}{v:Value}{xs:List α}(h:Mk R e base w G v xs){p:Addr}(hp:p.block<base)(hG:¬G p.block)(u:Value):Mk R e base (w.setCell p u) G v xs:=by
 obtain⟨cs,h1,h2,h3⟩:=h;refine⟨cs,⟨h1.1,?_⟩,h2,eJ.keep (λk hk=>Below.heap_setCell w p u k (by rintro rfl;exact hG hk.1)) h3⟩;rcases h1.2 with h|⟨g,cap,cur,e1,hb,YX,h⟩
 ·exact .inl h
 ·exact .inr ⟨g,cap,cur,e1,hb,by rw[Below.heap_setCell w p u g (by omega)];exact YX,h⟩
theorem lr.setmid{e:TypeId}{w:World}{q n:Nat}{c1 d:List Value}(h:lr e w q n (c1++d)){j:Nat}(hj:j<d.length)(v:Value):lr e (w.setCell ⟨q,c1.length+j,none⟩ v) q n (c1++d.set j v):=by
 have:=h.set (j:=c1.length+j) v (by rw[List.length_append];omega)
 rwa [List.set_append_right _ _ (by omega),show c1.length+j-c1.length=j by omega]at this
theorem H5{w:World}{cs:Array Value}{t:TypeId}{q j:Nat}{u:Value}(hq:q=w.heap.size)(h:cs.toList[j]?=some u):(w.alloc (.cells cs t)).cell? ⟨q,j,none⟩=some u:=by
 subst hq;rw[World.cell?_alloc_new];simpa using h
theorem uQ(w:World)(p:Addr)(v:Value):(w.setCell p v).heap.size=w.heap.size:=by simp[World.setCell]
theorem yU(w:World)(cur:Array Value)(cap:Nat)(xs:List Value){base e size:Nat}(hb:base<=w.heap.size)(hx:cur.toList=xs)(hs:cur.size=cap*size)(hm:cap<=maxLen):
 (w.alloc (.cells cur e)).ownsRow base e size (.slice (some ⟨w.heap.size,0,none⟩) cap cap) cap xs:=by
 subst hx;exact⟨by simpa using hs,.inr ⟨w.heap.size,cap,cur,rfl,hb,heap_alloc_new w _,Nat.le_refl _,hm,hs,by rw[<- hs,<- Array.length_toList,List.take_length]⟩⟩
section
variable {P:Program} {w:World} {t e:TypeId} {bytes:Nat} {α:Type} {R:Rp α}
end
def Rp.flat{α:Type}(R:Rp α):Prop:=∀{w F a cs},R.rep w F a cs->∀w',R.own w' [] a cs
theorem r7{α β:Type}{R:Rp α}{S:Rp β}(h:R.flat)(h':S.flat):(mG R S).flat:=λ⟨c,d,e,h1,h2⟩ w'=>⟨c,d,[],[],e,rfl,h h1 w',h' h2 w'⟩
theorem eJ.flat{α:Type}{R:Rp α}(hR:R.flat){w:World}{F:Nat->Prop}(w':World):∀{xs:List α}{cs:List Value},eJ R w F xs cs->jb R w' [] xs cs
 | [],_,h=>⟨h,rfl⟩
 |x::r,_,⟨c,d,e,h1,h2⟩=>⟨c,d,[],[],e,rfl,hR h1 w',eJ.flat hR w' h2⟩
theorem Mk.own{α:Type}{R:Rp α}(hR:R.flat){e:TypeId}{base:Nat}{w:World}{G:Nat->Prop}{v:Value}{xs:List α}(h:Mk R e base w G v xs):MkO R e base w [] v xs:=
 let ⟨cs,h1,h2,h3⟩:=h;⟨cs,h1,h2,h3.flat hR w,List.nodup_nil,by simp⟩
def me(w:World)(F:Nat->Prop):List TV->List Value->Prop
 | [],vs=>vs=[]
 |t::ts,vs=>∃v r,vs=v::r/\fm w F t v/\me w F ts r
theorem me.len{w:World}{F:Nat->Prop}:∀{ts:List TV}{vs:List Value},me w F ts vs->vs.length=ts.length
 | [],_,h=>by rw[show _=[]from h];rfl
 |_::_,_,⟨v,r,e,_,h⟩=>by rw[e,oLC,me.len h,oLC]
theorem me.app{w:World}{F:Nat->Prop}:∀{ts us:List TV}{vs xs:List Value},me w F ts vs->me w F us xs->me w F (ts++us) (vs++xs)
 | [],_,_,_,h,h'=>by rw[show _=[]from h];exact h'
 |_::_,_,_,_,⟨v,r,e,h1,h2⟩,h'=>⟨v,_,by rw[e];rfl,h1,me.app h2 h'⟩
theorem me.split{w:World}{F:Nat->Prop}:∀{ts us:List TV}{vs:List Value},me w F (ts++us) vs->∃a b,vs=a++b/\me w F ts a/\me w F us b
 | [],_,vs,h=>⟨[],vs,rfl,rfl,h⟩
 |_::_,_,_,⟨v,r,e,h1,h2⟩=>by
  obtain⟨a,b,rfl,h3,h4⟩:=me.split h2;exact⟨v::a,b,by rw[e];rfl,⟨v,a,rfl,h1,h3⟩,h4⟩
theorem me.get{w:World}{F:Nat->Prop}:∀{ts:List TV}{vs:List Value},me w F ts vs->∀j (h:j<ts.length),fm w F ts[j] (vs.getD j undef)
 |_::_,_,⟨v,r,e,h1,_⟩,0,_=>by rw[e];exact h1
 |_::ts,_,⟨v,r,e,_,h2⟩,j+1,h=>by rw[e];exact me.get h2 j (by simpa using h)
theorem me.of{w:World}{F:Nat->Prop}:∀{ts:List TV}{vs:List Value},ts.length=vs.length->(∀j (h:j<ts.length),fm w F ts[j] (vs.getD j undef))->me w F ts vs
 | [],[],_,_=>rfl
 |t::ts,v::vs,hl,h=>⟨v,vs,rfl,h 0 (by simp),me.of (by simpa using hl) λj hj=>by have:=h (j+1) (by simpa using hj);simpa using this⟩
 | [],_::_,hl,_=>by simp at hl
 |_::_,[],hl,_=>by simp at hl
theorem me.frame{w w':World}{F F':Nat->Prop}(hw:∀k,F k->k<w.heap.size->w'.heap[k]?=w.heap[k]?)(hF:∀k,F k->k<w.heap.size->F' k):∀{ts:List TV}{vs:List Value},me w F ts vs->me w' F' ts vs
 | [],_,h=>h
 |_::_,_,⟨v,r,e,h1,h2⟩=>⟨v,r,e,h1.frame hw hF,me.frame hw hF h2⟩
def rI(k:IntKind):Rp Int where
 size:=1
 rep _ _ a cs:=cs=[.int k a]
 own _ fp a cs:=fp=[]/\cs=[.int k a]
 pos:=by decide
 len:=λh=>by rw[h];rfl
 one:=λh=>by rw[h];simp[Value.oneCell']
 keep:=λh _=>h
 sub:=λh _=>h
 live:=λh=>h
 okeep:=λh _=>h
 olive:=λh k hk=>by rw[h.1]at hk;simp at hk
 reads:=λh=>h.2
theorem Br(k:IntKind):(rI k).flat:=λh _=>⟨rfl,h⟩
structure RIm {α:Type}(R:Rp α)(e:α->List TV)(Bd:α->Prop):Prop where
 toI:∀{w:World}{F:Nat->Prop}{a:α}{cs:List Value},R.rep w F a cs->me w F (e a) cs
 of:∀{w:World}{F:Nat->Prop}{a:α}{cs:List Value},me w F (e a) cs->Bd a->R.rep w F a cs
 len:∀a,(e a).length=R.size
theorem nq(k:IntKind):RIm (rI k) (λa=>[.v (.int k a)]) λ_=>True:=
 ⟨λh=>⟨_,[],h,.v rfl,rfl⟩,λ⟨v,r,e,h1,h2⟩ _=>by
  have h2:r=[]:=h2;subst h2;cases h1
  exact e,λ_=>rfl⟩
theorem eG{α β:Type}{R:Rp α}{S:Rp β}{e:α->List TV}{f:β->List TV}{A:α->Prop}{B:β->Prop}(h:RIm R e A)(h':RIm S f B):RIm (mG R S) (λp=>e p.1++f p.2) λp=>A p.1/\B p.2:=
 ⟨λ⟨c,d,e1,h1,h2⟩=>by rw[e1];exact(h.toI h1).app (h'.toI h2),λh1 hb=>by
  obtain⟨a,b,rfl,h2,h3⟩:=h1.split
  exact⟨a,b,rfl,h.of h2 hb.1,h'.of h3 hb.2⟩,λp=>by rw[List.length_append,h.len,h'.len];rfl⟩
theorem Fn{α:Type}{R:Rp α}{e:α->List TV}{A:α->Prop}(h:RIm R e A){w:World}{F:Nat->Prop}:∀{xs:List α}{cs:List Value},me w F (xs.map e).flatten cs->(∀x∈xs,A x)->eJ R w F xs cs
 | [],_,h,_=>h
 |_::_,_,h1,hA=>by
  obtain⟨a,b,rfl,h2,h3⟩:=me.split (by simpa using h1);exact⟨a,b,rfl,h.of h2 (hA _ (by simp)),Fn h (by simpa using h3) λx hx=>hA x (by simp[hx])⟩
theorem nT{α:Type}{R:Rp α}{e:α->List TV}{A:α->Prop}(h:RIm R e A){w:World}{F:Nat->Prop}{xs:List α}{v:Value}(hs:RSl R w F xs v):fm w F (.sl (xs.map e)) v:=by
 obtain⟨a,c,cs,rfl,h1,h2,h3,h4,h5,h6⟩:=hs;have hl:=h6.len
 have ZQ:fm w F (.sl (xs.map e)) (.slice a (xs.map e).length c):=by
  refine .sl R.size (λi j=>cs.getD (i*R.size+j) undef) (λi hi=>by simp[h.len]) (by simpa using h1) (by unfold maxLen;exact h2) h4 (λi j hi hj=>?_) (λi j hi hj=>?_)
  ·have ZK:i<xs.length:=by simpa using hi
   have hlt:i*R.size+j<cs.length:=by
    rw[hl]
    calc i*R.size+j<i*R.size+R.size:=by omega
     _=(i+1)*R.size:=by rw[Nat.succ_mul]
     _<=xs.length*R.size:=Nat.mul_le_mul_right _ ZK
   obtain⟨b,off,e1,hF,hc⟩:=h5 _ hlt;exact⟨b,off,e1,hF,by rw[hc];simp[oGD,hlt]⟩
  ·have ZK:i<xs.length:=by simpa using hi
   obtain⟨d,hd,X9⟩:=h6.at_ ZK;have hrel:=h.toI hd
   have ZT:j<(e xs[i]).length:=by simpa using hj
   have hg:=hrel.get j ZT;have Rd:=R.len hd
   have Nt:j<d.length:=by rw[Rd,<- h.len xs[i]];exact ZT
   have e2:=X9 j d[j] (oGE Nt)
   have e3:cs.getD (i*R.size+j) undef=d.getD j undef:=by
    rw[oGD,oGD,e2,oGE Nt]
   rw[e3];simpa using hg
 simpa using ZQ
theorem um{α:Type}{R:Rp α}{e:α->List TV}{A:α->Prop}(h:RIm R e A){w:World}{F:Nat->Prop}{xs:List α}{v:Value}(hs:fm w F (.sl (xs.map e)) v)(hx:∀x∈xs,A x)(hm:xs.length<=1099511627776):RSl R w F xs v:=by
 generalize hc:xs.map e=c at hs
 cases hs with
 | @sl _ a cap sz u hsz hcap hmax hnil hcell hrec=>
  have hl:c.length=xs.length:=by rw[<- hc];simp
  by_cases h0:xs=[]
  ·subst h0
   have:c=[]:=by rw[<- hc];rfl
   subst this;exact⟨a,cap,[],rfl,Nat.zero_le _,by simpa[maxLen]using hmax,by simp,hnil,λi hi=>by simp at hi,rfl⟩
  ·have Z1:0<xs.length:=List.length_pos_iff.2 h0
   have hz:sz=R.size:=by
    rw[<- hsz 0 (by omega)];simp[<- hc,h.len]
   subst hz;obtain⟨cs,XW⟩:∃cs:List Value,cs=((List.range xs.length).map λi=>(List.range R.size).map (u i)).flatten:=⟨_,rfl⟩
   have ZP:∀n,n<=xs.length->me w F (((xs.drop n).map e).flatten) (((List.range' n (xs.length-n)).map λi=>(List.range R.size).map (u i)).flatten):=by
    intro n
    induction hk:xs.length-n generalizing n with
    |zero=>
     intro hn;rw[List.drop_of_length_le (by omega)];rfl
    |succ k ih=>
     intro hn
     have hlt:n<xs.length:=by omega
     rw[List.drop_eq_getElem_cons hlt,List.range'_succ];simp only[List.map_cons,List.flatten_cons];refine me.app (me.of (by simp[h.len]) λj hj=>?_) (ih (n+1) (by omega) (by omega))
     have X9:j<R.size:=by rw[<- h.len xs[n]];exact hj
     have Vi:n<c.length:=by omega
     have e1:c[n]=e xs[n]:=by simp[<- hc]
     have:=hrec n j Vi (by rw[e1];exact hj)
     have e2:(c[n])[j]'(by rw[e1];exact hj)=(e xs[n])[j]:=by simp[e1]
     rw[e2]at this;simpa[oGD,X9]using this
   have hR:eJ R w F xs cs:=by
    have:=ZP 0 (Nat.zero_le _);rw[List.drop_zero,Nat.sub_zero,<- List.range_eq_range',<- XW]at this;exact Fn h this hx
   rw[hl];refine⟨a,cap,cs,rfl,by rw[<- hl];exact hcap,by simpa[maxLen]using hmax,hm,hnil,λk hk=>?_,hR⟩;have hcl:=hR.len
   have Yf:k/R.size<xs.length:=by
    rw[Nat.div_lt_iff_lt_mul R.pos];omega
   have XJ:k%R.size<R.size:=Nat.mod_lt _ R.pos
   have e0:k/R.size*R.size+k%R.size=k:=by rw[Nat.mul_comm];exact Nat.div_add_mod _ _
   obtain⟨b,o,e1,hF,hcc⟩:=hcell (k/R.size) (k%R.size) (by omega) XJ;refine⟨b,o,e1,hF,?_⟩;rw[e0]at hcc;rw[hcc];have h2:=gJ (c:=(List.range xs.length).map λi=>(List.range R.size).map (u i)) (sz:=R.size) (λi h=>by simp) (i:=k/R.size) (j:=k%R.size) (by simpa using Yf) (by simpa using XJ);rw[e0,<- XW,oGE hk]at h2
   injection h2 with h2
   rw[h2];simp
theorem GS{α:Type}{R:Rp α}{e:α->List TV}{A:α->Prop}(t:TypeId)(h:RIm R e A):RIm (KW t R) (λxs=>[.sl (xs.map e)]) λxs=>xs.length<=1099511627776/\∀x∈xs,A x:=
 ⟨λ⟨v,e1,h1⟩=>by rw[e1];exact⟨v,[],rfl,nT h h1,rfl⟩,λ⟨v,r,e1,h1,h2⟩ hb=>by
  have h2:r=[]:=h2;subst h2
  exact⟨v,e1,um h h1 hb.2 hb.1⟩,λ_=>rfl⟩
def Bk(w:World)(q t:Nat)(vs:List Value):Prop:=w.heap[q]?=some (.cells vs.toArray t (0,0))
theorem Bk.hi{w:World}{q t:Nat}{vs:List Value}(h:Bk w q t vs):q<w.heap.size:=(Array.getElem?_eq_some_iff.1 h).1
theorem Bk.keep{w w':World}{q t:Nat}{vs:List Value}(h:Bk w q t vs)(hh:w'.heap[q]?=w.heap[q]?):Bk w' q t vs:=hh.trans h
theorem Bk.grow{w w':World}{q t:Nat}{vs:List Value}(h:Bk w q t vs)(hg:w.grownBy w' none):Bk w' q t vs:=h.keep (hg.block _ h.hi (by simp))
theorem Bk.cell{w:World}{q t:Nat}{vs:List Value}(h:Bk w q t vs)(j:Nat):w.cell? ⟨q,j,none⟩=vs[j]?:=by
 rw[cell_of_row _ _ _ _ _ _ h];simp
theorem Bk.free{w:World}{q t:Nat}{vs:List Value}(h:Bk w q t vs)(j:Nat):w.frozen? ⟨q,j,none⟩=false:=frozen_of_row _ _ _ _ _ h
theorem Bk.new{w:World}{t:Nat}{vs:List Value}:Bk (w.alloc (.cells vs.toArray t)) w.heap.size t vs:=heap_alloc_new w _
theorem Bk.set{w:World}{q t:Nat}{vs:List Value}(h:Bk w q t vs)(j:Nat)(v:Value):Bk (w.setCell ⟨q,j,none⟩ v) q t (vs.set j v):=by
 unfold Bk;rw[heap_setCell_same _ _ _ _ _ _ h];simp
theorem Bk.other{w:World}{q t q' j:Nat}{vs:List Value}(h:Bk w q t vs)(hne:q≠q')(v:Value):Bk (w.setCell ⟨q',j,none⟩ v) q t vs:=by
 unfold Bk;rw[heap_setCell_other _ _ _ _ hne];exact h
theorem Bk.drew{w:World}{q t:Nat}{vs:List Value}(h:Bk w q t vs):Bk w.drew q t vs:=h
abbrev Cn4:=Int×Int×Int×Int
abbrev Vw8:=Int×Int×Int×Int×Int×Int×Int×List Cn4
abbrev iM:=Int×Int×List Cn4×Vw8
abbrev cCn:CT:=.pair (.int .u8) (.pair (.int .u16) (.pair (.int .i64) (.int .i64)))
abbrev cCs:CT:=.row false cCn
abbrev cVw:CT:=.pair (.int .i64) (.pair (.int .i64) (.pair (.int .i64) (.pair (.int .i64) (.pair (.int .i64) (.pair (.int .i64) (.pair (.int .u16) cCs))))))
abbrev cPg:CT:=.pair (.int .i64) (.pair (.int .i64) (.pair cCs cVw))
def rCn:Rp Cn4:=mG (rI .u8) (mG (rI .u16) (mG (rI .i64) (rI .i64)))
def rCs:Rp (List Cn4):=KW 61 rCn
def rVw:Rp Vw8:=mG (rI .i64) (mG (rI .i64) (mG (rI .i64) (mG (rI .i64) (mG (rI .i64) (mG (rI .i64) (mG (rI .u16) rCs))))))
def rPg:Rp iM:=mG (rI .i64) (mG (rI .i64) (mG rCs rVw))
def Kq{α:Type}(l:List α):Prop:=l.length<=1099511627776
def VwB(v:Vw8):Prop:=Kq v.2.2.2.2.2.2.2
def PgB(p:iM):Prop:=Kq p.2.2.1/\VwB p.2.2.2
theorem zL:rCn.flat:=r7 (Br _) (r7 (Br _) (r7 (Br _) (Br _)))
theorem RIm.weak{α:Type}{R:Rp α}{e e':α->List TV}{A B:α->Prop}(h:RIm R e A)(he:∀a,e' a=e a)(hB:∀a,B a->A a):RIm R e' B:=by
 have:e'=e:=funext he;subst this;exact⟨h.toI,λh1 hb=>h.of h1 (hB _ hb),h.len⟩
theorem Iy:RIm rCn (enc cCn) λ_=>True:=(eG (nq _) (eG (nq _) (eG (nq _) (nq _)))).weak (λ_=>rfl) λ_ _=>⟨trivial,trivial,trivial,trivial⟩
theorem wN:RIm rCs (enc cCs) Kq:=(GS 61 Iy).weak (λ_=>rfl) λ_ h=>⟨h,λ_ _=>trivial⟩
theorem AU:RIm rVw (enc cVw) VwB:=(eG (nq _) (eG (nq _) (eG (nq _) (eG (nq _) (eG (nq _) (eG (nq _) (eG (nq _) wN))))))).weak (λ_=>rfl) λ_ h=>⟨trivial,trivial,trivial,trivial,trivial,trivial,trivial,h⟩
theorem rv:RIm rPg (enc cPg) PgB:=(eG (nq _) (eG (nq _) (eG wN AU))).weak (λ_=>rfl) λ_ h=>⟨trivial,trivial,h.1,h.2⟩
theorem Mr:SlT Try.prog 51 61 rCn.size 24:=
 ⟨by kernel_rfl,by
  have h:(Try.prog.info? 61).map (λi=>(i.zero,i.size,i.bytes))=some (some (.agg #[.int .u8 0,.int .u16 0,.int .i64 0,.int .i64 0]),4,24):=by kernel_rfl
  obtain⟨i,hi,hz,hs,hb⟩:=info_parts h
  exact⟨i,_,hi,hz,hs,hb,rfl⟩,rCn.pos⟩
theorem Mp:SlT Try.prog 22 51 rCs.size 24:=
 ⟨by kernel_rfl,by
  have h:(Try.prog.info? 51).map (λi=>(i.zero,i.size,i.bytes))=some (some (.slice none 0 0),1,24):=by kernel_rfl
  obtain⟨i,hi,hz,hs,hb⟩:=info_parts h
  exact⟨i,_,hi,hz,hs,hb,rfl⟩,rCs.pos⟩
theorem Mo:SlT Try.prog 23 54 rVw.size 80:=
 ⟨by kernel_rfl,by
  have h:(Try.prog.info? 54).map (λi=>(i.zero,i.size,i.bytes))=some (some (.agg #[.int .i64 0,.int .i64 0,.int .i64 0,.int .i64 0,.int .i64 0,.int .i64 0,.int .u16 0,.slice none 0 0]),8,80):=by kernel_rfl
  obtain⟨i,hi,hz,hs,hb⟩:=info_parts h
  exact⟨i,_,hi,hz,hs,hb,rfl⟩,rVw.pos⟩
theorem LP:SlT Try.prog 26 58 rPg.size 120:=
 ⟨by kernel_rfl,by
  have h:(Try.prog.info? 58).map (λi=>(i.zero,i.size,i.bytes))=some (some (.agg #[.int .i64 0,.int .i64 0,.slice none 0 0,.int .i64 0,.int .i64 0,.int .i64 0,.int .i64 0,.int .i64 0,.int .i64 0,.int .u16 0,.slice none 0 0]),11,120):=by kernel_rfl
  obtain⟨i,hi,hz,hs,hb⟩:=info_parts h
  exact⟨i,_,hi,hz,hs,hb,rfl⟩,rPg.pos⟩
def wm{α:Type}(R:Rp α)(e:TypeId)(F:Nat->Prop)(xs:List α)(w:World)(r:Ending)(w':World):Prop:=
 ∃v,r=.returned v/\Mk R e w.heap.size w' F v xs/\w.grownBy w' none
set_option maxHeartbeats 1000000 in
theorem sw(F:Nat->Prop)(xs:List Cn4)(v:Value)(w:World)(h:RSl rCn w F xs v):
 Calls Try.prog 58 #[v] w (wm rCn 61 F xs w):=by
 have H:=Lib.hid h;obtain⟨A,c,cs,rfl,h1,h2,h3,h4,h5,h6⟩:=h
 cases A with
 |none=>
  have hx:xs=[]:=by
   by_cases hx:xs=[]
   ·exact hx
   ·obtain⟨b,off,c',Vd,e,_⟩:=H.out.at_ (List.length_pos_iff.2 hx);cases e
  subst hx;have hc:=h4 rfl;subst hc;clear h4 h5 h6 h1 h2 h3;have hq:=λ(w:World)=>Lib.run_eql_slice_nil (P:=Try.prog) w 51 61 none 0 0 0 0 (by kernel_rfl)
  go_enter Try.func58,Try.ntmps58
  go_wp2_with fail
  go_ret
  exact⟨_,rfl,Mk.nil _ _ _ _ _,aY _ _⟩
 |some ad=>
  clear h4 h5 h6 h1 h2;have hq:=λ(w:World)=>Lib.run_eql_slice_nil (P:=Try.prog) w 51 61 (some ad) xs.length c 0 0 (by kernel_rfl)
  go_enter Try.func58,Try.ntmps58
  go_wp2_with (at_builtin;go_loud (refine iQ (R:=rCn) rfl _ _ Mr (by decide) rfl w.heap.size F (.slice (some ⟨w.heap.size,0,none⟩) 0 0) [] rfl ?c1 ?c2 (.slice (some ad) xs.length c) xs rfl ?c3 ?c4 ?c5 ?_))
  case c1=>exact⟨[],yU w #[] 0 [] (Nat.le_refl _) rfl (by simp) (by decide),by simp,rfl⟩
  case c2=>simp
  case c3=>exact(H.out.live.keep (w':=w.alloc (.cells #[] 61)) λk hk=>heap_alloc_old _ _ hk.2).sub λk hk=>⟨hk.1,λe=>by injection e with e;have:=hk.2;exact absurd e (by show ¬ _=w.heap.size;omega)⟩
  case c4=>intro c' e;cases e
  case c5=>simpa using h3
  intro v' w' YP hg;have HM:=Lib.hid YP;have HG:=Lib.hid hg;clear YP hg
  go_wp2_with fail
  go_ret
  exact⟨_,rfl,HM.out,fw (aW (aY w none) _) HG.out λk e=>by injection e with e;rw[<- e];exact Nat.le_refl _⟩
set_option maxHeartbeats 1000000 in
theorem Ah(F:Nat->Prop)(xs:List (List Cn4))(v:Value)(w:World)(h:RSl rCs w F xs v):
 Calls Try.prog 60 #[v] w (wm rCs 51 F xs w):=by
 have H:=Lib.hid h;obtain⟨A,c,cs,rfl,h1,h2,h3,h4,h5,h6⟩:=h
 cases A with
 |none=>
  have hx:xs=[]:=by
   by_cases hx:xs=[]
   ·exact hx
   ·obtain⟨b,off,c',Vd,e,_⟩:=H.out.at_ (List.length_pos_iff.2 hx);cases e
  subst hx;have hc:=h4 rfl;subst hc;clear h4 h5 h6 h1 h2 h3;have hq:=λ(w:World)=>Lib.run_eql_slice_nil (P:=Try.prog) w 22 51 none 0 0 0 0 (by kernel_rfl)
  go_enter Try.func60,Try.ntmps60
  go_wp2_with fail
  go_ret
  exact⟨_,rfl,Mk.nil _ _ _ _ _,aY _ _⟩
 |some ad=>
  clear h4 h5 h6 h1 h2;have hq:=λ(w:World)=>Lib.run_eql_slice_nil (P:=Try.prog) w 22 51 (some ad) xs.length c 0 0 (by kernel_rfl)
  go_enter Try.func60,Try.ntmps60
  go_wp2_with (at_builtin;go_loud (refine iQ (R:=rCs) rfl _ _ Mp (by decide) rfl w.heap.size F (.slice (some ⟨w.heap.size,0,none⟩) 0 0) [] rfl ?c1 ?c2 (.slice (some ad) xs.length c) xs rfl ?c3 ?c4 ?c5 ?_))
  case c1=>exact⟨[],yU w #[] 0 [] (Nat.le_refl _) rfl (by simp) (by decide),by simp,rfl⟩
  case c2=>simp
  case c3=>exact(H.out.live.keep (w':=w.alloc (.cells #[] 51)) λk hk=>heap_alloc_old _ _ hk.2).sub λk hk=>⟨hk.1,λe=>by injection e with e;have:=hk.2;exact absurd e (by show ¬ _=w.heap.size;omega)⟩
  case c4=>intro c' e;cases e
  case c5=>simpa using h3
  intro v' w' YP hg;have HM:=Lib.hid YP;have HG:=Lib.hid hg;clear YP hg
  go_wp2_with fail
  go_ret
  exact⟨_,rfl,HM.out,fw (aW (aY w none) _) HG.out λk e=>by injection e with e;rw[<- e];exact Nat.le_refl _⟩
set_option maxHeartbeats 1000000 in
theorem Ag(F:Nat->Prop)(xs:List Vw8)(v:Value)(w:World)(h:RSl rVw w F xs v):
 Calls Try.prog 61 #[v] w (wm rVw 54 F xs w):=by
 have H:=Lib.hid h;obtain⟨A,c,cs,rfl,h1,h2,h3,h4,h5,h6⟩:=h
 cases A with
 |none=>
  have hx:xs=[]:=by
   by_cases hx:xs=[]
   ·exact hx
   ·obtain⟨b,off,c',Vd,e,_⟩:=H.out.at_ (List.length_pos_iff.2 hx);cases e
  subst hx;have hc:=h4 rfl;subst hc;clear h4 h5 h6 h1 h2 h3;have hq:=λ(w:World)=>Lib.run_eql_slice_nil (P:=Try.prog) w 23 54 none 0 0 0 0 (by kernel_rfl)
  go_enter Try.func61,Try.ntmps61
  go_wp2_with fail
  go_ret
  exact⟨_,rfl,Mk.nil _ _ _ _ _,aY _ _⟩
 |some ad=>
  clear h4 h5 h6 h1 h2;have hq:=λ(w:World)=>Lib.run_eql_slice_nil (P:=Try.prog) w 23 54 (some ad) xs.length c 0 0 (by kernel_rfl)
  go_enter Try.func61,Try.ntmps61
  go_wp2_with (at_builtin;go_loud (refine iQ (R:=rVw) rfl _ _ Mo (by decide) rfl w.heap.size F (.slice (some ⟨w.heap.size,0,none⟩) 0 0) [] rfl ?c1 ?c2 (.slice (some ad) xs.length c) xs rfl ?c3 ?c4 ?c5 ?_))
  case c1=>exact⟨[],yU w #[] 0 [] (Nat.le_refl _) rfl (by simp) (by decide),by simp,rfl⟩
  case c2=>simp
  case c3=>exact(H.out.live.keep (w':=w.alloc (.cells #[] 54)) λk hk=>heap_alloc_old _ _ hk.2).sub λk hk=>⟨hk.1,λe=>by injection e with e;have:=hk.2;exact absurd e (by show ¬ _=w.heap.size;omega)⟩
  case c4=>intro c' e;cases e
  case c5=>simpa using h3
  intro v' w' YP hg;have HM:=Lib.hid YP;have HG:=Lib.hid hg;clear YP hg
  go_wp2_with fail
  go_ret
  exact⟨_,rfl,HM.out,fw (aW (aY w none) _) HG.out λk e=>by injection e with e;rw[<- e];exact Nat.le_refl _⟩
def CR(f:Nat->Value):Operand->Value
 |.tmp t=>f t
 |.const v=>v
 |.global g=>.pointer (some ⟨g,0,none⟩)
 |.func f=>.func (.func f) #[] #[]
def yL(f:Nat->Value):Option Tmp->Value
 |some t=>f t
 |none=>undef
def BT(f:Nat->Value)(o:Oper):Value:=
 match o.dst with
 |some t=>f t
 |none=>match o.op with
  |.store _ (.tmp t) _=>f t
  |_=>undef
def rL(f:Nat->Value)(o:Oper)(v:Value):Value:=
 match o.dst with
 |some _=>v
 |none=>BT f o
def jx(o:Oper)(j:Nat):Bool:=o.after.toList.any λe=>e.on==j&&Region.binds .any e
def kW(l:List Oper)(t:Tmp):Option Nat:=l.findIdx? λo=>o.dst==some t
def uH(l:List Oper)(old:Nat->Value)(Ss:List (Value->World->Prop))(o:Oper)(f:Nat->Value)(w:World)(t:Tmp):Prop:=
 match kW l t with
 |none=>f t=old t
 |some j=>if jx o j then(Ss.getD j λ_ _=>False) (f t) w else f t=old t
def sU(l:List Oper)(f:Nat->Value)(o:Oper):Bool:=
 match o.guard with
 |none=>true
 |some (j,b)=>match(l[j]?).bind (·.dst)with
  |some d=>(match f d with|.bool c=>c==b|_=>false)
  |none=>false
def mn(P:Program)(Tb:Value->World->Prop):Result Next->Prop
 |.ok (.value v) w'=>Tb v w'
 |.ok .skip w'=>Tb undef w'
 |.ok (.enter f args) w'=>Calls P f args w' λe Xa=>∃v,e=.returned v/\Tb v Xa
 |_=>False
def Ij(base:World->Prop)(R:World->World->Prop)(s:Value->World->Prop)(w:World)(v:Value)(w':World):Prop:=base w'/\R w w'/\s v w'
def KE(P:Program)(l:List Oper)(old:Nat->Value)(base:World->Prop)(R:World->World->Prop)(Ss:List (Value->World->Prop))(o:Oper)(s:Value->World->Prop):Prop:=
 ∀(f:Nat->Value)(w:World),base w->(∀t∈o.looksAt l.toArray,uH l old Ss o f w t)->
  if sU l f o=true then mn P (λv w'=>Ij base R s w (rL f o v) w') ((execOp (CR f) o).run P w)else s (rL f o undef) w
def oY(P:Program)(l:List Oper)(old:Nat->Value)(base:World->Prop)(R:World->World->Prop)(Ss:List (Value->World->Prop)):List Oper->List (Value->World->Prop)->Prop
 | [],[]=>True
 |o::r,s::rs=>KE P l old base R Ss o s/\oY P l old base R Ss r rs
 |_,_=>False
def Kr(R:World->World->Prop):List (Value->World->Prop)->Prop
 | []=>True
 |s::r=>(∀w w' u,R w w'->s u w->s u w')/\Kr R r
def fO(f:Nat->Value):List Oper->Act->Act
 | [],a=>a
 |o::r,a=>fO f r (a.put o.dst (yL f o.dst))
def KD(f:Nat->Value)(w:World):List Oper->List (Value->World->Prop)->Prop
 |o::r,s::rs=>s (BT f o) w/\KD f w r rs
 |_,_=>True
def yW(l:List Oper)(n:Nat):Bool:=
 (l.zipIdx.all λ(o,k)=>
  (match o.dst with|some d=>kW l d==some k&&decide (d<n)|none=>true) &&
  (o.after.all λe=>!Region.binds .any e||decide (e.on<k)) &&
  (o.looksAt l.toArray).all λt=>match kW l t with
   |none=>true
   |some j=>jx o j||jx (l.getD j default) k) &&
 (l.all λo=>match o.dst,o.op with
  |none,.store _ (.tmp t) _=>(match kW l t with|none=>true|some j=>jx o j)
  |_,_=>true) &&
 l.all λo=>match o.guard with
  |none=>true
  |some (j,_)=>match(l[j]?).bind (·.dst)with|some d=>(o.looksAt l.toArray).contains d|none=>false
section
variable {P:Program} {l:List Oper} {a0:Act} {base:World->Prop} {R:World->World->Prop} {Ss:List (Value->World->Prop)}
structure JJ (l:List Oper)(a0:Act)(base:World->Prop)(Ss:List (Value->World->Prop))(listed:Array Bool)(a:Act)(w:World):Prop where
 base_:base w
 defers:a.defers=a0.defers
 lsize:listed.size=l.length
 asize:a.tmps.size=a0.tmps.size
 old:∀t,(∀(j:Nat) o,l[j]?=some o->o.dst=some t->listed.getD j true=false)->a.tmps.getD t undef=a0.tmps.getD t undef
 says:∀(j:Nat) o s,l[j]?=some o->Ss[j]?=some s->listed.getD j false=true->s (BT (λt=>a.tmps.getD t undef) o) w
 down:∀(j:Nat) o,l[j]?=some o->listed.getD j false=true->∀e∈o.after,Region.binds .any e=true->listed.getD e.on false=true
theorem If(a:Act):a.eval=CR λt=>a.tmps.getD t undef:=by funext x;cases x<;>rfl
theorem oY.at_{lo:List Oper}{ls:List (Value->World->Prop)}:∀{o:Oper}{k:Nat},oY P l (λt=>a0.tmps.getD t undef) base R Ss lo ls->lo[k]?=some o->∃s,ls[k]?=some s/\KE P l (λt=>a0.tmps.getD t undef) base R Ss o s:=by
 induction lo generalizing ls with
 |nil=>intro o k _ h;simp at h
 |cons x r ih=>
  intro o k hd h
  match ls,hd with
  |s::rs,hd=>
   cases k with
   |zero=>simp at h;subst h;exact⟨s,rfl,hd.1⟩
   |succ k=>simpa using ih hd.2 (by simpa using h)
theorem Kr.at_:∀{ls:List (Value->World->Prop)}{k:Nat}{s:Value->World->Prop},Kr R ls->ls[k]?=some s->∀w w' u,R w w'->s u w->s u w'
 | [],_,_,_,h=>by simp at h
 |x::r,0,s,hk,h=>by simp at h;subst h;exact hk.1
 |x::r,k+1,s,hk,h=>Kr.at_ hk.2 (by simpa using h)
theorem yD{t:Tmp}{j:Nat}(h:kW l t=some j):∃o,l[j]?=some o/\o.dst=some t:=by
 unfold kW at h;rw[List.findIdx?_eq_some_iff_getElem]at h;obtain⟨hj,h1,_⟩:=h;exact⟨l[j],oGE hj,by simpa using h1⟩
theorem yE{t:Tmp}(h:kW l t=none):∀(j:Nat) o,l[j]?=some o->o.dst≠some t:=by
 unfold kW at h;rw[List.findIdx?_eq_none_iff]at h;intro j o hj e;have:=h o (List.mem_of_getElem? hj);simp[e]at this
theorem mo{n:Nat}(h:yW l n=true){k:Nat}{o:Oper}(hk:l[k]?=some o):
 (∀d,o.dst=some d->kW l d=some k/\d<n)/\(∀e∈o.after,Region.binds .any e=true->e.on<k)/\
 (∀t∈o.looksAt l.toArray,∀j,kW l t=some j->jx o j=true\/jx (l.getD j default) k=true)/\
 (∀y t x,o.dst=none->o.op=.store y (.tmp t) x->∀j,kW l t=some j->jx o j=true)/\
 (∀j b,o.guard=some (j,b)->∃d,(l[j]?).bind (·.dst)=some d/\d∈o.looksAt l.toArray):=by
 simp only[yW,oBA,List.all_eq_true]at h;obtain⟨⟨h1,hst⟩,h2⟩:=h
 have hm:(o,k)∈l.zipIdx:=by rw[List.mem_zipIdx_iff_getElem?];simpa using hk
 have h3:=h1 _ hm;simp only[oBA,List.all_eq_true]at h3;obtain⟨⟨h4,h5⟩,h6⟩:=h3;refine⟨λd hd=>?_,λe he hb=>?_,λt ht j hj=>?_,λy t x hd hop j hw=>?_,λj b hg=>?_⟩
 ·rw[hd]at h4;simpa using h4
 ·have:=(Array.all_eq_true_iff_forall_mem.1 h5) e he;simpa[hb]using this
 ·have:=h6 t ht;rw[hj]at this;simpa using this
 ·have:=hst o (List.mem_of_getElem? hk);rw[hd,hop]at this;simp only[hw]at this;exact this
 ·have:=h2 o (List.mem_of_getElem? hk);rw[hg]at this;simp only at this
  cases hd:(l[j]?).bind (·.dst)with
  |none=>rw[hd]at this;simp at this
  |some d=>rw[hd]at this;exact⟨d,rfl,by simpa using this⟩
theorem rE{o:Oper}{j:Nat}(h:jx o j=true):∃e∈o.after,e.on=j/\Region.binds .any e=true:=by
 unfold jx at h;rw[List.any_eq_true]at h;obtain⟨e,he,hx⟩:=h;simp only[oBA,beq_iff_eq]at hx;exact⟨e,by simpa using he,hx.1,hx.2⟩
theorem ov{listed:Array Bool}{i j:Nat}{b:Bool}(hi:i<listed.size):(listed.setIfInBounds i true).getD j b=if i=j then true else listed.getD j b:=by
 by_cases e:i=j
 ·subst e;simp[Array.getD,hi]
 ·simp only[oIN e];simp only[Array.getD,Array.size_setIfInBounds];split
  ·exact Array.getElem_setIfInBounds_ne _ e
  ·rfl
theorem ox{a:Act}{d t:Nat}{v:Value}(hd:d<a.tmps.size):(a.put (some d) v).tmps.getD t undef=if d=t then v else a.tmps.getD t undef:=by
 unfold Act.put;by_cases e:d=t
 ·subst e;simp[Array.getD,hd]
 ·simp only[oIN e];simp only[Array.getD,Array.size_setIfInBounds];split
  ·exact Array.getElem_setIfInBounds_ne _ e
  ·rfl
theorem JJ.step(SN:∀w,R w w)(hB:yW l a0.tmps.size=true)(hD:oY P l (λt=>a0.tmps.getD t undef) base R Ss l Ss)(hK:Kr R Ss){listed:Array Bool}{a:Act}{w:World}{Q:Exit->Act->World->Prop}(h:JJ l a0 base Ss listed a w){i:Nat}(hi:i∈Region.ready .any l.toArray listed):
 wpOp P l.toArray Q i (λa' w'=>JJ l a0 base Ss (listed.setIfInBounds i true) a' w') a w:=by
 obtain⟨Wc,o,ho,Y1⟩:=mem_ready.1 hi
 have Y7:l[i]?=some o:=by simpa using ho
 have X0:i<listed.size:=by rw[h.lsize];exact(oGS Y7).1
 obtain⟨ZX,Z',Z9,hbs,ZO⟩:=mo hB Y7;obtain⟨s,hs,Re⟩:=hD.at_ Y7
 have Zx:∀t∈o.looksAt l.toArray,uH l (λt=>a0.tmps.getD t undef) Ss o (λt=>a.tmps.getD t undef) w t:=by
  intro t ht;unfold uH
  cases hw:kW l t with
  |none=>exact h.old t λj o' hj hd=>absurd hd (yE hw j o' hj)
  |some j=>
   obtain⟨oj,Yp,Ud⟩:=yD hw;by_cases hwt:jx o j=true
   ·simp only[hwt,if_true];obtain⟨e,he,RP,Ua⟩:=rE hwt
    have Uh:listed.getD j false=true:=by rw[<- RP];exact Y1 e he Ua
    obtain⟨sj,U0,_⟩:=hD.at_ Yp;have:=h.says j oj sj Yp U0 Uh;simpa[List.getD,U0,BT,Ud]using this
   ·simp only[hwt];refine h.old t λj' o' ZT hd'=>?_
    have hjj:j'=j:=by
     have:=((mo hB ZT).1 t hd').1
     rw[hw]at this;injection this with this;exact this.symm
    subst hjj;rcases Z9 t ht j' hw with h'|h'
    ·exact absurd h' hwt
    ·have e:l.getD j' default=oj:=by simp[List.getD,Yp]
     rw[e]at h';obtain⟨ed,O9,RP,Ua⟩:=rE h'
     cases hl:listed.getD j' true with
     |false=>rfl
     |true=>
      exfalso
      have hjl:j'<listed.size:=by rw[h.lsize];exact(oGS Yp).1
      have X':listed.getD j' false=true:=by simpa[Array.getD,hjl]using hl
      have:=h.down j' oj Yp X' ed O9 Ua;rw[RP]at this;simp[Array.getD,X0]at this Wc;rw[this]at Wc;cases Wc
 have UJ:=Re (λt=>a.tmps.getD t undef) w h.base_ Zx
 have Su:Region.wanted o (yielded l.toArray a.tmps)=sU l (λt=>a.tmps.getD t undef) o:=by
  unfold Region.wanted sU
  cases hg:o.guard with
  |none=>rfl
  |some p=>
   obtain⟨j,b⟩:=p;obtain⟨d,hd,_⟩:=ZO j b hg
   have Rd:d<a.tmps.size:=by
    rw[h.asize];obtain⟨oj,Yp,Ud⟩:=Option.bind_eq_some_iff.1 hd;exact((mo hB Yp).1 d Ud).2
   have hy:yielded l.toArray a.tmps j=(match a.tmps.getD d undef with|.bool c=>some c|_=>none):=by
    unfold yielded
    have e:(l.toArray[j]?).bind (·.dst)=some d:=by simpa using hd
    rw[e];simp only[oBS];rw[Array.getElem?_eq_getElem Rd];simp only[Array.getD,Rd,dif_pos,Array.getInternal_eq_getElem];cases a.tmps[d]<;>rfl
   simp only[hd];rw[hy];cases a.tmps.getD d undef<;>simp
 have WH:∀v w',Ij base R s w (rL (λt=>a.tmps.getD t undef) o v) w'->JJ l a0 base Ss (listed.setIfInBounds i true) (a.put o.dst v) w':=by
  intro v w' ⟨hb,hR,S0⟩
  have hsz:(a.put o.dst v).tmps.size=a.tmps.size:=by unfold Act.put;split<;>simp
  refine⟨hb,by rw[<- h.defers];unfold Act.put;split<;>rfl,by simpa using h.lsize,hsz.trans h.asize,λt ht=>?_,λj oj sj Yp U0 Uh=>?_,λj oj Yp Uh e he Ua=>?_⟩
  ·have hti:o.dst≠some t:=λe=>by
    have:=ht i o Y7 e;rw[ov X0]at this;simp at this
   have ZD:=h.old t λj oj Yp Ud=>by
    have:=ht j oj Yp Ud;rw[ov X0]at this;split at this
    ·cases this
    ·exact this
   rw[<- ZD]
   cases hd:o.dst with
   |none=>rfl
   |some d=>rw[ox (by rw[h.asize];exact(ZX d hd).2),oIN (by rintro rfl;exact hti hd)]
  ·by_cases e:i=j
   ·subst e
    rw[Y7]at Yp;injection Yp with Yp;subst Yp
    rw[hs]at U0;injection U0 with U0;subst U0
    cases hd:o.dst with
    |none=>
     have e1:(a.put none v).tmps=a.tmps:=rfl
     have e2:rL (λt=>a.tmps.getD t undef) o v=BT (λt=>a.tmps.getD t undef) o:=by unfold rL;rw[hd]
     rw[e1,<- e2];exact S0
    |some d=>
     have e2:rL (λt=>a.tmps.getD t undef) o v=v:=by unfold rL;rw[hd]
     have e3:BT (λt=>(a.put (some d) v).tmps.getD t undef) o=v:=by
      unfold BT;rw[hd];simp only;rw[ox (by rw[h.asize];exact(ZX d hd).2),oIP rfl]
     rw[e3,<- e2];exact S0
   ·rw[ov X0,oIN e]at Uh;have ZD:=hK.at_ U0 w w' _ hR (h.says j oj sj Yp U0 Uh)
    have YH:∀t,o.dst≠some t->(a.put o.dst v).tmps.getD t undef=a.tmps.getD t undef:=λt ht=>by
     cases hd:o.dst with
     |none=>rfl
     |some d'=>rw[ox (by rw[h.asize];exact(ZX d' hd).2),oIN (by rintro rfl;exact ht hd)]
    have PT:BT (λt=>(a.put o.dst v).tmps.getD t undef) oj=BT (λt=>a.tmps.getD t undef) oj:=by
     unfold BT
     cases Ud:oj.dst with
     |some d=>
      refine YH d λhd=>?_;have h1:=(ZX d hd).1;have h2:=((mo hB Yp).1 d Ud).1;rw[h1]at h2
      injection h2 with h2
      exact e h2
     |none=>
      cases hop:oj.op with
      |store y t x=>
       cases t with
       |tmp t=>
        refine YH t λhd=>?_;have h1:=(ZX t hd).1;have h2:=(mo hB Yp).2.2.2.1 y t x Ud hop i h1;obtain⟨ed,O9,RP,Ua⟩:=rE h2;have:=h.down j oj Yp Uh ed O9 Ua;rw[RP]at this;simp[Array.getD,X0]at this Wc;rw[this]at Wc;cases Wc
       |const _=>rfl
       |global _=>rfl
       |func _=>rfl
      |_=>rfl
    rw[PT];exact ZD
  ·rw[ov X0];split
   ·rfl
   ·by_cases e':i=j
    ·subst e'
     rw[Y7]at Yp;injection Yp with Yp;subst Yp
     exact Y1 e he Ua
    ·rw[ov X0,oIN e']at Uh;exact h.down j oj Yp Uh e he Ua
 unfold wpOp;simp only[ho];rw[Su];by_cases hw:sU l (λt=>a.tmps.getD t undef) o=true
 ·rw[oIP hw]at UJ⊢;refine .inl ?_;unfold Oper.wp;rw[If];generalize(execOp (CR λt=>a.tmps.getD t undef) o).run P w=r at UJ
  cases r with
  |ok n w'=>
   cases n<;>simp only[mn]at UJ<;>simp only[Oper.upon]
   case value v=>exact WH v w' UJ
   case skip=>exact WH undef w' UJ
   case enter fn args=>exact UJ.mono λe Xa ⟨v,he,hp⟩=>by subst he;exact WH v Xa hp
  |halt x w'=>simp only[mn]at UJ
 ·rw[oIN hw]at UJ⊢;exact WH undef w ⟨h.base_,SN w,UJ⟩
theorem uF{n:Nat}(hB:yW l n=true){listed:Array Bool}(hs:listed.size=l.length)(hr:Region.ready .any l.toArray listed=[]):∀(k:Nat),k<l.length->listed.getD k false=true:=by
 intro k
 induction k using Nat.strongRecOn with
 |_ k ih=>
  intro hk
  cases hl:listed.getD k false with
  |true=>rfl
  |false=>
   exfalso;have ho:l[k]?=some l[k]:=oGE hk
   have:k∈Region.ready .any l.toArray listed:=by
    refine mem_ready.2 ⟨?_,l[k],by simp,λe he hb=>?_⟩
    ·have:k<listed.size:=by omega
     simpa[Array.getD,this]using hl
    ·have:=(mo hB ho).2.1 e he hb;exact ih e.on this (by omega)
   rw[hr]at this;cases this
theorem t7(SN:∀w,R w w)(hB:yW l a0.tmps.size=true)(hD:oY P l (λt=>a0.tmps.getD t undef) base R Ss l Ss)(hK:Kr R Ss){Q:Exit->Act->World->Prop}
 (WV:∀listed a w,(∀k,k<l.length->listed.getD k false=true)->JJ l a0 base Ss listed a w->Q .normal a w):
 ∀(XG:Nat)(listed:Array Bool)(a:Act)(w:World),JJ l a0 base Ss listed a w->(∃c:List Bool,c.length=l.length/\listed.toList=c/\c.count false=XG)->wpAny P .any l.toArray Q XG listed a w
 |0,listed,a,w,h,⟨c,Zp,Ze,Vf⟩=>by
  have hr:Region.ready .any l.toArray listed=[]:=by
   rw[List.eq_nil_iff_forall_not_mem];intro i hi;have Wc:=(mem_ready.1 hi).1
   have X0:i<listed.size:=by
    rcases Nat.lt_or_ge i listed.size with h'|h'
    ·exact h'
    ·simp[Array.getD,Nat.not_lt.2 h']at Wc
   have:false∈c:=by
    rw[<- Ze]
    have h1:listed[i]=false:=by simpa[Array.getD,X0]using Wc
    rw[<- h1];simp
   exact absurd (List.count_pos_iff.2 this) (by omega)
  exact⟨hr,WV _ _ _ (uF hB h.lsize hr) h⟩
 |XG+1,listed,a,w,h,⟨c,Zp,Ze,Vf⟩=>by
  refine⟨λhr=>WV _ _ _ (uF hB h.lsize hr) h,λi hi=>?_⟩;refine wpOp_mono (λa' w' h'=>t7 SN hB hD hK WV XG _ a' w' h' ?_) (h.step SN hB hD hK hi);have Wc:=(mem_ready.1 hi).1
  have X0:i<listed.size:=by
   rcases Nat.lt_or_ge i listed.size with h'|h'
   ·exact h'
   ·simp[Array.getD,Nat.not_lt.2 h']at Wc
  have h1:listed[i]=false:=by simpa[Array.getD,X0]using Wc
  refine⟨_,?_,rfl,?_⟩
  ·simp;have:=h.lsize;omega
  ·rw[Array.toList_setIfInBounds,List.count_set (by simpa using X0)];subst Ze;rw[Vf];simp[h1]
theorem FF{f:Nat->Value}{w:World}:∀{lo:List Oper}{ls:List (Value->World->Prop)},(∀(k:Nat) o s,lo[k]?=some o->ls[k]?=some s->s (BT f o) w)->KD f w lo ls
 | [],_,_=>by unfold KD;trivial
 |_::_,[],_=>by unfold KD;trivial
 |o::r,s::rs,h=>⟨h 0 o s rfl rfl,FF λk o' s' h1 h2=>h (k+1) o' s' (by simpa using h1) (by simpa using h2)⟩
theorem rx(f:Nat->Value):∀(lo:List Oper)(a:Act),(fO f lo a).tmps.size=a.tmps.size
 | [],_=>rfl
 |o::r,a=>by
  rw[fO,rx f r];unfold Act.put;split<;>simp
theorem nV(f:Nat->Value):∀(lo:List Oper)(a:Act),(fO f lo a).defers=a.defers
 | [],_=>rfl
 |o::r,a=>by
  rw[fO,nV f r];unfold Act.put;split<;>rfl
theorem ry(f:Nat->Value):∀(lo:List Oper)(a:Act)(t:Nat),t<a.tmps.size ->
 (fO f lo a).tmps.getD t undef=f t/\(∃o∈lo,o.dst=some t)\/(fO f lo a).tmps.getD t undef=a.tmps.getD t undef/\∀o∈lo,o.dst≠some t
 | [],_,_,_=>.inr ⟨rfl,by simp⟩
 |o::r,a,t,ht=>by
  have hsz:(a.put o.dst (yL f o.dst)).tmps.size=a.tmps.size:=by unfold Act.put;split<;>simp
  rcases ry f r (a.put o.dst (yL f o.dst)) t (by rw[hsz];exact ht)with⟨h1,o',h2,h3⟩|⟨h1,h2⟩
  ·exact .inl ⟨h1,o',List.mem_cons_of_mem _ h2,h3⟩
  ·by_cases hd:o.dst=some t
   ·refine .inl ⟨?_,o,List.mem_cons_self ..,hd⟩;rw[fO,h1,hd,ox ht,oIP rfl];rfl
   ·refine .inr ⟨?_,λo' Y7=>?_⟩
    ·rw[fO,h1]
     cases hd':o.dst with
     |none=>rfl
     |some d=>
      by_cases hds:d<a.tmps.size
      ·rw[ox hds,oIN (by rintro rfl;exact hd hd')]
      ·unfold Act.put;simp[Array.setIfInBounds,hds]
    ·rcases List.mem_cons.1 Y7 with rfl|h'
     ·exact hd
     ·exact h2 o' h'
theorem gK{id:Nat}{w0:World}{Q:Exit->Act->World->Prop}(base:World->Prop)(R:World->World->Prop)(Ss:List (Value->World->Prop))
 (n:Nat)(hm:P.follows .mixedOrders=true)(hn:a0.tmps.size=n)(Qj:yW l n=true)(h0:base w0.drew)(SN:∀w,R w w)(hK:Kr R Ss)
 (hD:oY P l (λt=>a0.tmps.getD t undef) base R Ss l Ss)
 (WV:∀f w,base w->KD f w l Ss->Q .normal (fO f l a0) w):(Code.region id l.toArray true).wp P Q a0 w0:=by
 have hB:yW l a0.tmps.size=true:=by rw[hn];exact Qj
 refine wp_region_any hm ?_;refine t7 (a0:=a0) (R:=R) (Ss:=Ss) SN hB hD hK (λlisted a w hl h=>?_) _ _ _ _ (?_:JJ l a0 base Ss _ _ _) ⟨_,?_,rfl,?_⟩
 ·have e:a=fO (λt=>a.tmps.getD t undef) l a0:=by
   have hd:a.defers=(fO (λt=>a.tmps.getD t undef) l a0).defers:=by rw[nV,h.defers]
   have ht:a.tmps=(fO (λt=>a.tmps.getD t undef) l a0).tmps:=by
    refine Array.ext (by rw[rx,h.asize]) λi h1 h2=>?_
    have hi0:i<a0.tmps.size:=by rw[<- h.asize];exact h1
    have e1:a.tmps[i]=a.tmps.getD i undef:=by simp[Array.getD,h1]
    have e2:(fO (λt=>a.tmps.getD t undef) l a0).tmps[i]=(fO (λt=>a.tmps.getD t undef) l a0).tmps.getD i undef:=by rw[Array.getD,dif_pos h2];rfl
    rw[e1,e2]
    rcases ry (λt=>a.tmps.getD t undef) l a0 i hi0 with⟨h3,_⟩|⟨h3,h4⟩
    ·exact h3.symm
    ·rw[h3];exact h.old i λj o ho hd=>absurd hd (h4 o (List.mem_of_getElem? ho))
   cases a;cases hp:fO (λt=>Array.getD _ t undef) l a0;simp only[hp]at hd ht;subst hd;subst ht
   simp_all
  rw[e];exact WV _ w h.base_ (FF λk o s ho hs=>h.says k o s ho hs (hl k (oGS ho).1))
 ·exact⟨h0,rfl,by simp,rfl,λ_ _=>rfl,λj o s ho hs hl=>by simp[Array.getD]at hl,λj o ho hl=>by simp[Array.getD]at hl⟩
 ·simp
 ·simp[List.count_replicate]
end
theorem aU{P:Program}{l:List Oper}{old:Nat->Value}{base:World->Prop}{R:World->World->Prop}{Ss:List (Value->World->Prop)}{o:Oper}{r:List Oper}{s:Value->World->Prop}{rs:List (Value->World->Prop)}
 (h:KE P l old base R Ss o s)(h':oY P l old base R Ss r rs):oY P l old base R Ss (o::r) (s::rs):=⟨h,h'⟩
theorem ba{P:Program}{l:List Oper}{old:Nat->Value}{base:World->Prop}{R:World->World->Prop}{Ss:List (Value->World->Prop)}{o:Oper}{s:Value->World->Prop}(hg:o.guard=none)
 (h:∀(f:Nat->Value)(w:World),base w->(∀t∈o.looksAt l.toArray,uH l old Ss o f w t)->mn P (λv w'=>Ij base R s w (rL f o v) w') ((execOp (CR f) o).run P w)):KE P l old base R Ss o s:=by
 intro f w hb H
 have:sU l f o=true:=by unfold sU;rw[hg]
 rw[oIP this];exact h f w hb H
theorem fP{P:Program}{l:List Oper}{old:Nat->Value}{base:World->Prop}{R:World->World->Prop}{Ss:List (Value->World->Prop)}{o:Oper}{s:Value->World->Prop}(j:Nat)(b:Bool)(d:Nat)(hg:o.guard=some (j,b))(hd:(l[j]?).bind (·.dst)=some d)
 (h:∀(f:Nat->Value)(w:World),base w->(∀t∈o.looksAt l.toArray,uH l old Ss o f w t)->f d=.bool b/\mn P (λv w'=>Ij base R s w (rL f o v) w') ((execOp (CR f) o).run P w)):KE P l old base R Ss o s:=by
 intro f w hb H;obtain⟨h1,h2⟩:=h f w hb H
 have:sU l f o=true:=by unfold sU;rw[hg];simp only[hd,h1,beq_self_eq_true]
 rw[oIP this];exact h2
theorem oB{P:Program}{l:List Oper}{old:Nat->Value}{base:World->Prop}{R:World->World->Prop}{Ss:List (Value->World->Prop)}{o:Oper}{s:Value->World->Prop}(j:Nat)(b:Bool)(d:Nat)(hg:o.guard=some (j,b))(hd:(l[j]?).bind (·.dst)=some d)
 (h:∀(f:Nat->Value)(w:World),base w->(∀t∈o.looksAt l.toArray,uH l old Ss o f w t)->f d=.bool (!b)/\s (rL f o undef) w):KE P l old base R Ss o s:=by
 intro f w hb H;obtain⟨h1,h2⟩:=h f w hb H
 have:sU l f o=false:=by unfold sU;rw[hg];simp only[hd,h1];cases b<;>rfl
 rw[this];exact h2
theorem mz{P:Program}{l:List Oper}{old:Nat->Value}{base:World->Prop}{R:World->World->Prop}{Ss:List (Value->World->Prop)}:oY P l old base R Ss [] []:=trivial
def RK(X:Nat->Prop)(w w':World):Prop:=w.heap.size<=w'.heap.size/\∀b,b<w.heap.size->¬X b->w'.heap[b]?=w.heap[b]?
theorem RK.refl(X:Nat->Prop)(w:World):RK X w w:=⟨Nat.le_refl _,λ_ _ _=>rfl⟩
theorem RK.alloc(X:Nat->Prop)(w:World)(o:Obj):RK X w (w.alloc o):=⟨by simp,λ_ hb _=>heap_alloc_old _ _ hb⟩
theorem RK.grown{X:Nat->Prop}{w w':World}{g:Nat}(h:w.grownBy w' (some g))(hg:X g):RK X w w':=⟨h.size,λb hb hx=>h.block b hb (by rintro e;injection e with e;subst e;exact hx hg)⟩
theorem RK.set{X:Nat->Prop}{w w1:World}{p:Addr}(h:RK X w w1)(hp:X p.block)(u:Value):RK X w (w1.setCell p u):=
 ⟨by simpa[World.setCell]using h.1,λb hb hx=>(Below.heap_setCell w1 p u b (by rintro rfl;exact hx hp)).trans (h.2 b hb hx)⟩
theorem RK.cell{X:Nat->Prop}{w w':World}(h:RK X w w'){b o:Nat}(hb:b<w.heap.size)(hx:¬X b):w'.cell? ⟨b,o,none⟩=w.cell? ⟨b,o,none⟩:=World.cell?_of_block (h.2 b hb hx)
def RD(X:Nat->Prop)(D:World->Prop)(w w':World):Prop:=RK X w w'/\(D w->D w')
theorem RD.refl(X:Nat->Prop)(D:World->Prop)(w:World):RD X D w w:=⟨RK.refl X w,id⟩
def bD(u:Value)(v:Value)(_:World):Prop:=v=u
def Mg(k:IntKind)(lo hi:Int)(v:Value)(_:World):Prop:=∃n:Int,lo<=n/\n<=hi/\v=.int k n
theorem bD.kept{x:Value}{R:World->World->Prop}(w w':World)(u:Value)(_:R w w')(h:bD x u w):bD x u w':=h
theorem Mg.kept{k:IntKind}{lo hi:Int}{R:World->World->Prop}(w w':World)(u:Value)(_:R w w')(h:Mg k lo hi u w):Mg k lo hi u w':=h
attribute [go_sem] CR mn rL BT
section
variable {N:Nat} {t:TypeId} {z:List Value} {Good:List Value->World->Prop}
def As(t:TypeId)(Good:List Value->World->Prop)(q:Nat)(w:World):Prop:=∃vs,Bk w q t vs/\Good vs w
def RZ(N:Nat)(t:TypeId)(z:List Value)(Good:List Value->World->Prop)(w w':World):Prop:=
 w.heap.size<=w'.heap.size/\(∀k,k<w.heap.size->(k<N\/∀cs,w.heap[k]?≠some (.cells cs t (0,0)))->w'.heap[k]?=w.heap[k]?)/\
 (∀k,N<=k->Bk w k t z->Bk w' k t z\/As t Good k w')/\∀k,N<=k->As t Good k w->As t Good k w'
def Ks(t:TypeId)(N:Nat)(Good:List Value->World->Prop):Prop:=∀vs w w',w.heap.size<=w'.heap.size->(∀k,k<w.heap.size->(k<N\/∀cs,w.heap[k]?≠some (.cells cs t (0,0)))->w'.heap[k]?=w.heap[k]?)->Good vs w->Good vs w'
theorem RZ.refl(w:World):RZ N t z Good w w:=⟨Nat.le_refl _,λ_ _ _=>rfl,λ_ _ h=>.inl h,λ_ _ h=>h⟩
theorem RZ.grown(hG:Ks t N Good){w w':World}(h:w.grownBy w' none):RZ N t z Good w w':=
 ⟨h.size,λk hk _=>h.block k hk (by simp),λk _ hb=>.inl (hb.grow h),λk _ ⟨vs,h1,h2⟩=>⟨vs,h1.grow h,hG _ _ _ h.size (λk hk _=>h.block k hk (by simp)) h2⟩⟩
def F7(N:Nat)(t:TypeId)(z:List Value)(Good:List Value->World->Prop)(v:Value)(w:World):Prop:=∃q,v=.pointer (some ⟨q,0,none⟩)/\N<=q/\(Bk w q t z\/As t Good q w)
def Kj(N:Nat)(t:TypeId)(Good:List Value->World->Prop)(v:Value)(w:World):Prop:=∃q,v=.pointer (some ⟨q,0,none⟩)/\N<=q/\As t Good q w
theorem F7.kept(w w':World)(v:Value)(hr:RZ N t z Good w w')(h:F7 N t z Good v w):F7 N t z Good v w':=by
 obtain⟨q,e,hq,h|h⟩:=h
 ·exact⟨q,e,hq,hr.2.2.1 q hq h⟩
 ·exact⟨q,e,hq,.inr (hr.2.2.2 q hq h)⟩
theorem Kj.kept(w w':World)(v:Value)(hr:RZ N t z Good w w')(h:Kj N t Good v w):Kj N t Good v w':=
 let ⟨q,e,hq,h⟩:=h;⟨q,e,hq,hr.2.2.2 q hq h⟩
theorem F7.new(hG:Ks t N Good){w:World}(hN:N<=w.heap.size):F7 N t z Good (.pointer (some ⟨w.heap.size,0,none⟩)) (w.alloc (.cells z.toArray t)):=⟨_,rfl,hN,.inl Bk.new⟩
theorem RZ.put(hG:Ks t N Good){w w':World}{q:Nat}{us vs:List Value}(hq:N<=q)(h:Bk w q t us)(hs:w.heap.size=w'.heap.size)(hk:∀k,k≠q->w'.heap[k]?=w.heap[k]?)(hv:Bk w' q t vs)(hg:Good vs w):RZ N t z Good w w'/\As t Good q w':=by
 have Yl:∀k,k<w.heap.size->(k<N\/∀cs,w.heap[k]?≠some (.cells cs t (0,0)))->w'.heap[k]?=w.heap[k]?:=λk _ hc=>hk k (by
  rintro rfl;rcases hc with hc|hc
  ·omega
  ·exact hc _ h)
 have h1:As t Good q w':=⟨vs,hv,hG _ _ _ (Nat.le_of_eq hs) Yl hg⟩;refine⟨⟨Nat.le_of_eq hs,Yl,λk _ hb=>?_,λk _ hb=>?_⟩,h1⟩
 ·by_cases e:k=q
  ·subst e;exact .inr h1
  ·exact .inl (hb.keep (hk k e))
 ·by_cases e:k=q
  ·subst e;exact h1
  ·obtain⟨us',g1,g2⟩:=hb;exact⟨us',g1.keep (hk k e),hG _ _ _ (Nat.le_of_eq hs) Yl g2⟩
theorem BR{w:World}{q t:Nat}{x y:Value}(h:Bk w q t [x,y])(a b:Value):Bk ((w.setCell ⟨q,0,none⟩ a).setCell ⟨q,1,none⟩ b) q t [a,b]:=(h.set 0 a).set 1 b
theorem yC{α:Type}{R:Rp α}{e:TypeId}(hne:e≠t){base:Nat}{G:Nat->Prop}(hG:∀k,G k->k<N){v:Value}{xs:List α}{w w':World}(hs:w.heap.size<=w'.heap.size)
 (hr:∀k,k<w.heap.size->(k<N\/∀cs,w.heap[k]?≠some (.cells cs t (0,0)))->w'.heap[k]?=w.heap[k]?)(h:Mk R e base w G v xs):Mk R e base w' G v xs:=by
 obtain⟨cs,h1,h2,h3⟩:=h;refine⟨cs,⟨h1.1,?_⟩,h2,(eJ.keep (w':=w') (λk hk=>hr k hk.2 (.inl (hG k hk.1.1))) h3.live).sub λk hk=>hk.1⟩;rcases h1.2 with h|⟨g,cap,cur,e1,hb,YX,h⟩
 ·exact .inl h
 ·refine .inr ⟨g,cap,cur,e1,hb,?_,h⟩;rw[hr g (Array.getElem?_eq_some_iff.1 YX).1 (.inr λcs hz=>?_)]
  ·exact YX
  ·have e:=Option.some.inj (YX.symm.trans hz)
   injection e with _ e;exact hne e
end
def SMk{α:Type}(R:Rp α)(e:TypeId)(base:Nat)(G:Nat->Prop)(xs:List α)(v:Value)(w:World):Prop:=Mk R e base w G v xs
theorem SMk.kept{α:Type}{R:Rp α}{e t:TypeId}{N base:Nat}{z:List Value}{Good:List Value->World->Prop}{G:Nat->Prop}{xs:List α}(hne:e≠t)(hG:∀k,G k->k<N)(w w':World)(v:Value)(hr:RZ N t z Good w w')(h:SMk R e base G xs v w):SMk R e base G xs v w':=
 yC hne hG hr.1 hr.2.1 h
theorem Mk.base{α:Type}{R:Rp α}{e:TypeId}{base base':Nat}{w:World}{G:Nat->Prop}{v:Value}{xs:List α}(h:Mk R e base w G v xs)(hb:base'<=base):Mk R e base' w G v xs:=by
 obtain⟨cs,h1,h2⟩:=h;refine⟨cs,⟨h1.1,?_⟩,h2⟩;rcases h1.2 with h|⟨g,cap,cur,e1,ZX,h⟩
 ·exact .inl h
 ·exact .inr ⟨g,cap,cur,e1,Nat.le_trans hb ZX,h⟩
theorem Ly{w:World}{F:Nat->Prop}{c:Cn4}{cs:List Value}(h:rCn.rep w F c cs):cs=[.int .u8 c.1,.int .u16 c.2.1,.int .i64 c.2.2.1,.int .i64 c.2.2.2]:=by
 obtain⟨a,b,rfl,rfl,a2,b2,rfl,rfl,a3,b3,rfl,rfl,rfl⟩:=h;rfl
theorem Mc{w:World}{F:Nat->Prop}(c:Cn4):rCn.rep w F c [.int .u8 c.1,.int .u16 c.2.1,.int .i64 c.2.2.1,.int .i64 c.2.2.2]:=⟨[_],_,rfl,rfl,[_],_,rfl,rfl,[_],_,rfl,rfl,rfl⟩
def vwC(v:Vw8)(y:Value):List Value:=[.int .i64 v.1,.int .i64 v.2.1,.int .i64 v.2.2.1,.int .i64 v.2.2.2.1,.int .i64 v.2.2.2.2.1,.int .i64 v.2.2.2.2.2.1,.int .u16 v.2.2.2.2.2.2.1,y]
theorem Iq{w:World}{F:Nat->Prop}{v:Vw8}{cs:List Value}(h:rVw.rep w F v cs):∃y,cs=vwC v y/\RSl rCn w F v.2.2.2.2.2.2.2 y:=by
 obtain⟨_,_,rfl,rfl,_,_,rfl,rfl,_,_,rfl,rfl,_,_,rfl,rfl,_,_,rfl,rfl,_,_,rfl,rfl,_,_,rfl,rfl,y,rfl,hy⟩:=h;exact⟨y,rfl,hy⟩
theorem LZ{w:World}{F:Nat->Prop}{v:Vw8}{y:Value}(h:RSl rCn w F v.2.2.2.2.2.2.2 y):rVw.rep w F v (vwC v y):=
 ⟨[_],_,rfl,rfl,[_],_,rfl,rfl,[_],_,rfl,rfl,[_],_,rfl,rfl,[_],_,rfl,rfl,[_],_,rfl,rfl,[_],_,rfl,rfl,y,rfl,h⟩
theorem Ip{w:World}{fp:List Nat}{v:Vw8}{y:Value}(h:OSl rCn 61 w fp v.2.2.2.2.2.2.2 y):rVw.own w fp v (vwC v y):=
 ⟨[_],_,[],fp,rfl,rfl,⟨rfl,rfl⟩,[_],_,[],fp,rfl,rfl,⟨rfl,rfl⟩,[_],_,[],fp,rfl,rfl,⟨rfl,rfl⟩,[_],_,[],fp,rfl,rfl,⟨rfl,rfl⟩,[_],_,[],fp,rfl,rfl,⟨rfl,rfl⟩,[_],_,[],fp,rfl,rfl,⟨rfl,rfl⟩,[_],_,[],fp,rfl,rfl,⟨rfl,rfl⟩,y,rfl,h⟩
theorem bQ(w:World)(j:Nat)(v:Value){k q:Nat}(h:k≠q):(w.setCell ⟨q,j,none⟩ v).heap[k]?=w.heap[k]?:=heap_setCell_other _ _ _ _ h
theorem MkO.base'{α:Type}{R:Rp α}{e:TypeId}{base base':Nat}{w:World}{fp:List Nat}{v:Value}{xs:List α}(h:MkO R e base w fp v xs)(hb:base'<=base):MkO R e base' w fp v xs:=by
 obtain⟨cs,h1,h2,h3,h4,h5⟩:=h;refine⟨cs,⟨h1.1,?_⟩,h2,h3,h4,λk hk=>⟨Nat.le_trans hb (h5 k hk).1,(h5 k hk).2⟩⟩;rcases h1.2 with h|⟨g,cap,cur,e1,ZX,h⟩
 ·exact .inl h
 ·exact .inr ⟨g,cap,cur,e1,Nat.le_trans hb ZX,h⟩
def Kg(v:Vw8)(w:World)(e:Ending)(w':World):Prop:=
 ∃y,e=.returned (.agg (vwC v y).toArray)/\MkO rCn 61 (w.heap.size+2) w' [] y v.2.2.2.2.2.2.2/\w.grownBy w' none
set_option maxHeartbeats 1000000 in
theorem tO(F:Nat->Prop)(v:Vw8)(y:Value)(w:World)(h:RSl rCn w F v.2.2.2.2.2.2.2 y):
 Calls Try.prog 59 #[.agg (vwC v y).toArray] w (Kg v w):=by
 obtain⟨v0,v1,v2,v3,v4,v5,v6,L⟩:=v;have H:=Lib.hid h;obtain⟨A,c,rfl,_⟩:=h.size_eq;clear h;unfold vwC at *;dsimp only at *
 go_enter Try.func59,Try.ntmps59
 go_wp2_with fail
 have Zj:w.grownBy ((w.alloc (.cells #[.int .i64 v0,.int .i64 v1,.int .i64 v2,.int .i64 v3,.int .i64 v4,.int .i64 v5,.int .u16 v6,.slice A L.length c] 54)).alloc (.cells #[.int .i64 0,.int .i64 0,.int .i64 0,.int .i64 0,.int .i64 0,.int .i64 0,.int .u16 0,.slice none 0 0] 54)) none:=aW (aW (aY w none) _) _;have ZX:Bk ((w.alloc (.cells #[.int .i64 v0,.int .i64 v1,.int .i64 v2,.int .i64 v3,.int .i64 v4,.int .i64 v5,.int .u16 v6,.slice A L.length c] 54)).alloc (.cells #[.int .i64 0,.int .i64 0,.int .i64 0,.int .i64 0,.int .i64 0,.int .i64 0,.int .u16 0,.slice none 0 0] 54)) w.heap.size 54 [.int .i64 v0,.int .i64 v1,.int .i64 v2,.int .i64 v3,.int .i64 v4,.int .i64 v5,.int .u16 v6,.slice A L.length c]:=Bk.new.grow (aW (aY _ _) _)
 have Z':Bk ((w.alloc (.cells #[.int .i64 v0,.int .i64 v1,.int .i64 v2,.int .i64 v3,.int .i64 v4,.int .i64 v5,.int .u16 v6,.slice A L.length c] 54)).alloc (.cells #[.int .i64 0,.int .i64 0,.int .i64 0,.int .i64 0,.int .i64 0,.int .i64 0,.int .u16 0,.slice none 0 0] 54)) (w.heap.size+1) 54 [.int .i64 0,.int .i64 0,.int .i64 0,.int .i64 0,.int .i64 0,.int .i64 0,.int .u16 0,.slice none 0 0]:=by
  have:=Bk.new (w:=w.alloc (.cells #[.int .i64 v0,.int .i64 v1,.int .i64 v2,.int .i64 v3,.int .i64 v4,.int .i64 v5,.int .u16 v6,.slice A L.length c] 54)) (t:=54) (vs:=[.int .i64 0,.int .i64 0,.int .i64 0,.int .i64 0,.int .i64 0,.int .i64 0,.int .u16 0,.slice none 0 0]);simpa using this
 have hsz:((w.alloc (.cells #[.int .i64 v0,.int .i64 v1,.int .i64 v2,.int .i64 v3,.int .i64 v4,.int .i64 v5,.int .u16 v6,.slice A L.length c] 54)).alloc (.cells #[.int .i64 0,.int .i64 0,.int .i64 0,.int .i64 0,.int .i64 0,.int .i64 0,.int .u16 0,.slice none 0 0] 54)).heap.size=w.heap.size+2:=by simp
 generalize(w.alloc (.cells #[.int .i64 v0,.int .i64 v1,.int .i64 v2,.int .i64 v3,.int .i64 v4,.int .i64 v5,.int .u16 v6,.slice A L.length c] 54)).alloc (.cells #[.int .i64 0,.int .i64 0,.int .i64 0,.int .i64 0,.int .i64 0,.int .i64 0,.int .u16 0,.slice none 0 0] 54)=W at *;refine(sw F L _ W (H.out.grow Zj)).mono ?_;rintro e w3 ⟨y,rfl,YP,hg⟩;obtain⟨A',c',rfl⟩:=YP.shape;have ZX:=ZX.grow hg;have Z':=Z'.grow hg;have HG:=Lib.hid (be Zj hg);have HS:=Lib.hid hsz;have HM:=Lib.hid (YP.own zL);have k0:=ZX.cell 0;have k1:=ZX.cell 1;have k2:=ZX.cell 2;have k3:=ZX.cell 3;have k4:=ZX.cell 4;have k5:=ZX.cell 5;have k6:=ZX.cell 6;have k7:=ZX.cell 7;have f7:=ZX.free 7;have j0:=Z'.cell 0;have j1:=Z'.cell 1;have j2:=Z'.cell 2;have j3:=Z'.cell 3;have j4:=Z'.cell 4;have j5:=Z'.cell 5;have j6:=Z'.cell 6;have j7:=Z'.cell 7;have g0:=Z'.free 0;have g1:=Z'.free 1;have g2:=Z'.free 2;have g3:=Z'.free 3;have g4:=Z'.free 4;have g5:=Z'.free 5;have g6:=Z'.free 6;have g7:=Z'.free 7;simp only[List.getElem?_cons_zero,List.getElem?_cons_succ]at k0 k1 k2 k3 k4 k5 k6 k7 j0 j1 j2 j3 j4 j5 j6 j7;have Ym:=Z'.hi;have Xe:=ZX.hi;clear ZX Z' hg Zj YP hsz
 go_wp2_with fail
 refine bodyPost_ret (v:=.agg #[.int .i64 v0,.int .i64 v1,.int .i64 v2,.int .i64 v3,.int .i64 v4,.int .i64 v5,.int .u16 v6,.slice A' L.length c']) (by simp[results,Try.results59,go_sem,j0,j1,j2,j3,j4,j5,j6,j7,Ym]) rfl ?_;refine⟨_,rfl,(HM.out.base' (Nat.le_of_eq HS.out.symm)).above λk hk _=>?_,?_⟩
 ·have:∀j,j<2->k≠w.heap.size+j:=λj hj=>by omega
  have e0:=this 0 (by omega);have e1:=this 1 (by omega);rw[Nat.add_zero]at e0;simp only[bQ _ _ _ e0,bQ _ _ _ e1]
 ·refine grown_set (grown_set (grown_set (grown_set (grown_set (grown_set (grown_set (grown_set (grown_set HG.out (.inr ?_) _) (.inr ?_) _) (.inr ?_) _) (.inr ?_) _) (.inr ?_) _) (.inr ?_) _) (.inr ?_) _) (.inr ?_) _) (.inr ?_) _
  all_goals (dsimp only;omega)
theorem oD(F:Nat->Prop)(v0 v1 v2 v3 v4 v5 v6:Int)(L:List Cn4)(y:Value)(w:World)(h:RSl rCn w F L y):
 Calls Try.prog 59 #[.agg #[.int .i64 v0,.int .i64 v1,.int .i64 v2,.int .i64 v3,.int .i64 v4,.int .i64 v5,.int .u16 v6,y]] w λe w'=>
  ∃z,e=.returned (.agg #[.int .i64 v0,.int .i64 v1,.int .i64 v2,.int .i64 v3,.int .i64 v4,.int .i64 v5,.int .u16 v6,z])/\MkO rCn 61 (w.heap.size+2) w' [] z L/\w.grownBy w' none:=tO F (v0,v1,v2,v3,v4,v5,v6,L) y w h
section
variable {α:Type} {R:Rp α} {e:TypeId} {w w':World} {F:Nat->Prop} {N N9:Nat} {b:Value} {xs:List α} {k:Nat}
def wn(R:Rp α)(e:TypeId)(w:World)(F:Nat->Prop)(N N9:Nat)(b:Value)(xs:List α)(k:Nat):Prop:=
 (b=.slice none 0 0/\xs=[])\/∃ql cl c1 c2 fp,b=.slice (some ⟨ql,0,none⟩) xs.length cl/\xs.length<=cl/\cl<=9223372036854775807/\lr e w ql (cl*R.size) (c1++c2)/\
  jb R w fp (xs.take k) c1/\eJ R w F (xs.drop k) c2/\fp.Nodup/\(∀x,x∈fp->N9<=x)/\N<=ql/\ql<N9
theorem wn.start(h:Mk R e N w F b xs)(hN:w.heap.size<=N9):wn R e w F N N9 b xs 0:=by
 obtain⟨cs,h1,h2,h3⟩:=h
 rcases h1.2 with⟨e1,e2⟩|⟨g,cap,cur,e1,YN,YX,hcap,hmax,hsz,Zx⟩
 ·exact .inl ⟨e1,oEN e2⟩
 ·exact .inr ⟨g,cap,[],cs,[],e1,hcap,by simpa[maxLen]using hmax,⟨cur,YX,hsz,by rw[List.nil_append,h1.1];exact Zx⟩,by simp[jb],by simpa using h3.sub λx hx=>hx.1,List.nodup_nil,by simp,YN,Nat.lt_of_lt_of_le (Array.getElem?_eq_some_iff.1 YX).1 hN⟩
theorem wn.keep(h:wn R e w F N N9 b xs k)(hk:∀x,x<w.heap.size->(F x\/some x=b.ownBlock\/N9<=x)->w'.heap[x]?=w.heap[x]?):wn R e w' F N N9 b xs k:=by
 rcases h with h|⟨ql,cl,c1,c2,fp,rfl,h1,h2,hV,hO,hR,ZN,hfp,Xe,Ym⟩
 ·exact .inl h
 ·refine .inr ⟨ql,cl,c1,c2,fp,rfl,h1,h2,hV.keep (hk ql hV.hi (.inr (.inl rfl))),hO.keep λx hx=>hk x (hO.live x hx) (.inr (.inr (hfp x hx))),?_,ZN,hfp,Xe,Ym⟩;exact(eJ.keep (w':=w') (λx hx=>hk x hx.2 (.inl hx.1)) hR.live).sub λx hx=>hx.1
theorem wn.done(h:wn R e w F N N9 b xs xs.length)(hl:xs.length<=1099511627776):∃gp,OSl R e w gp xs b/\gp.Nodup/\∀x,x∈gp->N<=x/\(some x=b.ownBlock\/N9<=x):=by
 rcases h with⟨e1,e2⟩|⟨ql,cl,c1,c2,fp,rfl,h1,h2,hV,hO,hR,ZN,hfp,Xe,Ym⟩
 ·exact⟨[],⟨hl,.inl ⟨e1,e2,rfl⟩⟩,List.nodup_nil,by simp⟩
 ·rw[List.take_of_length_le (Nat.le_refl _)]at hO;rw[List.drop_of_length_le (Nat.le_refl _)]at hR;have Ze:c2=[]:=hR;subst Ze;rw[List.append_nil]at hV;refine⟨ql::fp,⟨hl,.inr ⟨ql,cl,c1,fp,rfl,rfl,h1,h2,hV,hO⟩⟩,List.nodup_cons.2 ⟨λhm=>by have:=hfp ql hm;omega,ZN⟩,λx hx=>?_⟩;rcases List.mem_cons.1 hx with rfl|hx
  ·exact⟨Xe,.inl rfl⟩
  ·exact⟨by have:=hfp x hx;omega,.inr (hfp x hx)⟩
structure nc (R:Rp α)(e:TypeId)(w:World)(F:Nat->Prop)(N N9:Nat)(b:Value)(xs:List α)(k ql cl:Nat)(x:α)(c1 d1 d2:List Value)(fp:List Nat):Prop where
 hb:b=.slice (some ⟨ql,0,none⟩) xs.length cl
 l1:xs.length<=cl
 l2:cl<=9223372036854775807
 buf:lr e w ql (cl*R.size) (c1++(d1++d2))
 own:jb R w fp (xs.take k) c1
 rep:R.rep w F x d1
 reps:eJ R w F (xs.drop (k+1)) d2
 nd:fp.Nodup
 fp9:∀x,x∈fp->N9<=x
 ql1:N<=ql
 ql2:ql<N9
 len:c1.length=k*R.size
 tk:xs.take (k+1)=xs.take k++[x]
theorem wn.at_(h:wn R e w F N N9 b xs k)(hlt:k<xs.length):∃ql cl c1 d1 d2 fp,nc R e w F N N9 b xs k ql cl xs[k] c1 d1 d2 fp:=by
 rcases h with⟨_,e1⟩|⟨ql,cl,c1,c2,fp,e1,h1,h2,hV,hO,hR,ZN,hfp,Xe,Ym⟩
 ·rw[e1]at hlt;simp at hlt
 ·rw[List.drop_eq_getElem_cons hlt]at hR;obtain⟨d1,d2,rfl,hx,SO⟩:=hR;exact⟨ql,cl,c1,d1,d2,fp,e1,h1,h2,hV,hO,hx,SO,ZN,hfp,Xe,Ym,by rw[hO.len,oLT,Nat.min_eq_left (by omega)],List.take_succ_eq_append_getElem hlt⟩
theorem nc.cell{ql cl:Nat}{x:α}{c1 d1 d2:List Value}{fp:List Nat}(h:nc R e w F N N9 b xs k ql cl x c1 d1 d2 fp){j:Nat}{u:Value}(hj:d1[j]?=some u):w.cell? ⟨ql,k*R.size+j,none⟩=some u:=by
 rw[<- h.len];refine h.buf.mid (j:=j) ?_;rw[List.getElem?_append_left (oGS hj).1];exact hj
theorem nc.grow{ql cl:Nat}{x:α}{c1 d1 d2:List Value}{fp:List Nat}(h:nc R e w F N N9 b xs k ql cl x c1 d1 d2 fp)(hg:w.grownBy w' none):nc R e w' F N N9 b xs k ql cl x c1 d1 d2 fp:=
 ⟨h.hb,h.l1,h.l2,h.buf.grow hg,h.own.grow hg,R.grow h.rep hg,h.reps.grow hg,h.nd,h.fp9,h.ql1,h.ql2,h.len,h.tk⟩
theorem nc.step{ql cl:Nat}{x:α}{c1 d1 d2 d1':List Value}{fp gp:List Nat}(h:nc R e w F N N9 b xs k ql cl x c1 d1 d2 fp)(hF:∀j,F j->j<N)(hw:∀j,j<w.heap.size->j≠ql->w'.heap[j]?=w.heap[j]?)(h9:N9<=w.heap.size)
 (hV:lr e w' ql (cl*R.size) (c1++(d1'++d2)))(ho:R.own w' gp x d1')(ZN:gp.Nodup)(ST:∀j,j∈gp->w.heap.size<=j):wn R e w' F N N9 b xs (k+1):=by
 refine .inr ⟨ql,cl,c1++d1',d2,fp++gp,h.hb,h.l1,h.l2,by simpa using hV,?_,?_,?_,?_,h.ql1,h.ql2⟩
 ·rw[h.tk];exact(h.own.keep λj hj=>hw j (h.own.live j hj) (by have:=h.fp9 j hj;have:=h.ql2;omega)).append (jb.single ho)
 ·exact(eJ.keep (w':=w') (λj hj=>hw j hj.2 (by have:=hF j hj.1;have:=h.ql1;omega)) h.reps.live).sub λj hj=>hj.1
 ·exact List.nodup_append.2 ⟨h.nd,ZN,λa ha c hc e=>by have:=h.own.live a ha;have:=ST c hc;omega⟩
 ·intro j hj;rcases List.mem_append.1 hj with hj|hj
  ·exact h.fp9 j hj
  ·have:=ST j hj;omega
end
structure StC (C:List (List Cn4))(T:List Vw8)(w:World)(F:Nat->Prop)(N q1 N9:Nat)(a b:Value)(i k:Nat)(wr:World):Prop where
 grown:w.grownBy wr none
 size:N9<=wr.heap.size
 res:Bk wr (q1+1) 25 [.slice none 0 0,.slice none 0 0]
 out:Bk wr q1 25 [a,b]
 rg:wn rCs 51 wr F N N9 a C i
 ts:wn rVw 54 wr F N N9 b T k
 ne:∀x,some x=a.ownBlock->some x≠b.ownBlock
 hq:q1+2=N
 hN:N<=N9
 hw:w.heap.size<=q1
 hF:∀x,F x->x<q1
theorem StC.stepR{C:List (List Cn4)}{T:List Vw8}{w wr w':World}{F:Nat->Prop}{N q1 N9:Nat}{a b:Value}{i k ql cl:Nat}{x:List Cn4}{c1 d1 d2 d1':List Value}{fp gp:List Nat}(h:StC C T w F N q1 N9 a b i k wr)
 (hA:nc rCs 51 wr F N N9 a C i ql cl x c1 d1 d2 fp)(hg:wr.grownBy w' (some ql))(hV:lr 51 w' ql (cl*rCs.size) (c1++(d1'++d2)))(ho:rCs.own w' gp x d1')(ZN:gp.Nodup)(ST:∀j,j∈gp->wr.heap.size<=j):StC C T w F N q1 N9 a b (i+1) k w':=by
 have hw:∀j,j<wr.heap.size->j≠ql->w'.heap[j]?=wr.heap[j]?:=λj h1 h2=>hg.block j h1 (λe=>by injection e with e;exact h2 e);have h1:=hA.ql1;have h2:=hA.ql2;have h3:=h.hq;have h4:=h.hN;have h5:=h.hw
 have hb:some ql=a.ownBlock:=by rw[hA.hb];rfl
 refine⟨fw h.grown hg λe e'=>by injection e' with e';omega,by have:=h.size;have:=hg.size;omega,h.res.keep (hw _ h.res.hi (by omega)),h.out.keep (hw _ h.out.hi (by omega)),hA.step (λj hj=>by have:=h.hF j hj;omega) hw h.size hV ho ZN ST,h.ts.keep λj hj hc=>hw j hj ?_,h.ne,h.hq,h.hN,h.hw,h.hF⟩;rintro rfl;rcases hc with hc|hc|hc
 ·have:=h.hF j hc;omega
 ·exact h.ne j hb hc
 ·omega
theorem wn.raise{α:Type}{R:Rp α}{e:TypeId}{w:World}{F:Nat->Prop}{N N9 M9:Nat}{b:Value}{xs:List α}(h:wn R e w F N N9 b xs 0)(YO:N9<=M9):wn R e w F N M9 b xs 0:=by
 rcases h with h|⟨ql,cl,c1,c2,fp,h1,h2,h3,hV,hO,hR,ZN,hfp,Xe,Ym⟩
 ·exact .inl h
 ·have e0:fp=[]:=by simpa[jb]using hO.2
  subst e0;exact .inr ⟨ql,cl,c1,c2,[],h1,h2,h3,hV,hO,hR,ZN,by simp,Xe,Nat.lt_of_lt_of_le Ym YO⟩
structure StD (C:List (List Cn4))(T:List Vw8)(w:World)(F:Nat->Prop)(N q1 M9:Nat)(a b:Value)(k:Nat)(wr:World):Prop where
 grown:w.grownBy wr none
 size:M9<=wr.heap.size
 res:Bk wr (q1+1) 25 [.slice none 0 0,.slice none 0 0]
 out:Bk wr q1 25 [a,b]
 rg:∃fp,OSl rCs 51 wr fp C a/\fp.Nodup/\∀x,x∈fp->N<=x/\x<M9/\some x≠b.ownBlock
 ts:wn rVw 54 wr F N M9 b T k
 hq:q1+2=N
 hN:N<=M9
 hw:w.heap.size<=q1
 hF:∀x,F x->x<q1
theorem StC.second{C:List (List Cn4)}{T:List Vw8}{w wr:World}{F:Nat->Prop}{N q1 N9:Nat}{a b:Value}(h:StC C T w F N q1 N9 a b C.length 0 wr)(hl:C.length<=1099511627776):StD C T w F N q1 wr.heap.size a b 0 wr:=by
 obtain⟨fp,h1,h2,h3⟩:=h.rg.done hl;refine⟨h.grown,Nat.le_refl _,h.res,h.out,⟨fp,h1,h2,λx hx=>⟨(h3 x hx).1,h1.live x hx,λe=>?_⟩⟩,h.ts.raise h.size,h.hq,Nat.le_trans h.hN h.size,h.hw,h.hF⟩
 rcases(h3 x hx).2 with h4|h4
 ·exact h.ne x h4 e
 ·rcases h.ts with⟨e1,_⟩|⟨ql,cl,c1,c2,gp,e1,_,_,_,_,_,_,_,_,Ym⟩
  ·rw[e1]at e;cases e
  ·rw[e1]at e
   injection e with e
   have e:x=ql:=e;omega
theorem StD.stepT{C:List (List Cn4)}{T:List Vw8}{w wr w':World}{F:Nat->Prop}{N q1 M9:Nat}{a b:Value}{k ql cl:Nat}{x:Vw8}{c1 d1 d2 d1':List Value}{fp gp:List Nat}(h:StD C T w F N q1 M9 a b k wr)
 (hA:nc rVw 54 wr F N M9 b T k ql cl x c1 d1 d2 fp)(hg:wr.grownBy w' (some ql))(hV:lr 54 w' ql (cl*rVw.size) (c1++(d1'++d2)))(ho:rVw.own w' gp x d1')(ZN:gp.Nodup)(ST:∀j,j∈gp->wr.heap.size<=j):StD C T w F N q1 M9 a b (k+1) w':=by
 have hw:∀j,j<wr.heap.size->j≠ql->w'.heap[j]?=wr.heap[j]?:=λj h1 h2=>hg.block j h1 (λe=>by injection e with e;exact h2 e);have h1:=hA.ql1;have h2:=hA.ql2;have h3:=h.hq;have h4:=h.hN;have h5:=h.hw
 have hb:some ql=b.ownBlock:=by rw[hA.hb];rfl
 refine⟨fw h.grown hg λe e'=>by injection e' with e';omega,by have:=h.size;have:=hg.size;omega,h.res.keep (hw _ h.res.hi (by omega)),h.out.keep (hw _ h.out.hi (by omega)),?_,hA.step (λj hj=>by have:=h.hF j hj;omega) hw h.size hV ho ZN ST,h.hq,h.hN,h.hw,h.hF⟩;obtain⟨fp,r1,r2,r3⟩:=h.rg;exact⟨fp,r1.keep λj hj=>hw j (r1.live j hj) (λe=>(r3 j hj).2.2 (by rw[e];exact hb)),r2,r3⟩
theorem Mk.subG{α:Type}{R:Rp α}{e:TypeId}{base:Nat}{w:World}{G G':Nat->Prop}{v:Value}{xs:List α}(h:Mk R e base w G v xs)(hG:∀k,G k->G' k):Mk R e base w G' v xs:=
 let ⟨cs,h1,h2,h3⟩:=h;⟨cs,h1,h2,h3.sub λk hk=>⟨hG k hk.1,hk.2⟩⟩
def Ig(C:List (List Cn4))(T:List Vw8)(w:World)(e:Ending)(w':World):Prop:=
 ∃a b fp gp,e=.returned (.agg #[a,b])/\OSl rCs 51 w' fp C a/\OSl rVw 54 w' gp T b/\(fp++gp).Nodup/\(∀x,x∈fp++gp->w.heap.size+2<=x)/\w.grownBy w' none
set_option maxRecDepth 100000 in
set_option maxHeartbeats 4000000 in
theorem lT(F:Nat->Prop)(C:List (List Cn4))(T:List Vw8)(u v:Value)(w:World)(hu:RSl rCs w F C u)(hv:RSl rVw w F T v):
 Calls Try.prog 35 #[.agg #[u,v]] w (Ig C T w):=by
 have HU:=Lib.hid hu;have HV:=Lib.hid hv;obtain⟨A1,c1,rfl,_,_,TZ⟩:=hu.size_eq;obtain⟨A2,c2,rfl,_,_,T9⟩:=hv.size_eq;clear hu hv
 go_enter Try.func35,Try.ntmps35
 go_upto_region 1 with fail
 have Zj:w.grownBy ((w.alloc (.cells #[.slice A1 C.length c1,.slice A2 T.length c2] 25)).alloc (.cells #[.slice none 0 0,.slice none 0 0] 25)) none:=aW (aW (aY w none) _) _;have ZX:Bk ((w.alloc (.cells #[.slice A1 C.length c1,.slice A2 T.length c2] 25)).alloc (.cells #[.slice none 0 0,.slice none 0 0] 25)) w.heap.size 25 [.slice A1 C.length c1,.slice A2 T.length c2]:=Bk.new.grow (aW (aY _ _) _)
 have Z':Bk ((w.alloc (.cells #[.slice A1 C.length c1,.slice A2 T.length c2] 25)).alloc (.cells #[.slice none 0 0,.slice none 0 0] 25)) (w.heap.size+1) 25 [.slice none 0 0,.slice none 0 0]:=by
  have:=Bk.new (w:=w.alloc (.cells #[.slice A1 C.length c1,.slice A2 T.length c2] 25)) (t:=25) (vs:=[.slice none 0 0,.slice none 0 0]);simpa using this
 have hN:w.heap.size+2=((w.alloc (.cells #[.slice A1 C.length c1,.slice A2 T.length c2] 25)).alloc (.cells #[.slice none 0 0,.slice none 0 0] 25)).heap.size:=by simp
 generalize(w.alloc (.cells #[.slice A1 C.length c1,.slice A2 T.length c2] 25)).alloc (.cells #[.slice none 0 0,.slice none 0 0] 25)=W at *;have aC:=Lib.hid Zj;have Va:=Lib.hid ZX;have Xb:=Lib.hid Z';have Xc:=Lib.hid hN;have p':=Lib.hid (HU.out.live.grow Zj);have qN:=Lib.hid (HV.out.live.grow Zj);have k0:=ZX.cell 0;have k1:=ZX.cell 1;have f0:=ZX.free 0;have f1:=ZX.free 1;simp only[List.getElem?_cons_zero,List.getElem?_cons_succ]at k0 k1;clear Zj ZX Z' HU HV
 go_cut []from 7 to 15 (λwx=>∃(A3:Option Addr)(c3:Nat)(A4:Option Addr)(c4 N9:Nat),StC C T w (λk=>F k/\k<w.heap.size) W.heap.size w.heap.size N9 (.slice A3 C.length c3) (.slice A4 T.length c4) 0 0 wx)
 case first=>
  go_region_with (first
   |(go_at_call 60;refine(Ah (λk=>F k/\k<w.heap.size) C _ _ (p'.out.grow (cg (aY _ _)))).mono ?_;rintro e w3 ⟨a,rfl,Ui,UM⟩;obtain⟨A3,c3,rfl⟩:=Ui.shape;have UM:=be (cg (aY W none)) UM;have m0:=(Va.out.grow UM).cell 0;have m1:=(Va.out.grow UM).cell 1;have n0:=(Va.out.grow UM).free 0;have n1:=(Va.out.grow UM).free 1;simp only[List.getElem?_cons_zero,List.getElem?_cons_succ]at m0 m1;have Ye:=Lib.hid UM;have d5:=Lib.hid Ui;clear Ui UM)
   |(go_at_call 61;refine(Ag (λk=>F k/\k<w.heap.size) T _ _ (qN.out.grow Ye.out)).mono ?_;rintro e w4 ⟨b,rfl,SY,Uf⟩;obtain⟨A4,c4,rfl⟩:=SY.shape;have p0:=((Va.out.grow Ye.out).grow Uf).cell 0;have p1:=((Va.out.grow Ye.out).grow Uf).cell 1;have r0:=((Va.out.grow Ye.out).grow Uf).free 0;have r1:=((Va.out.grow Ye.out).grow Uf).free 1;simp only[List.getElem?_cons_zero,List.getElem?_cons_succ]at p0 p1;have Od:=Lib.hid Uf;have HMB:=Lib.hid SY;clear SY Uf))
  all_goals
   have HS:=Lib.hid (show StC C T w (λk=>F k/\k<w.heap.size) W.heap.size w.heap.size w4.heap.size (.slice A3 C.length c3) (.slice A4 T.length c4) 0 0 ((w4.setCell ⟨w.heap.size,0,none⟩ (.slice A3 C.length c3)).setCell ⟨w.heap.size,1,none⟩ (.slice A4 T.length c4))from by
    have h1:=Xc.out;have h2:=Ye.out.size;have h3:=Od.out.size;have YW:=be Ye.out Od.out
    have hx:∀x,x≠w.heap.size->((w4.setCell ⟨w.heap.size,0,none⟩ (.slice A3 C.length c3)).setCell ⟨w.heap.size,1,none⟩ (.slice A4 T.length c4)).heap[x]?=w4.heap[x]?:=λx hx=>by rw[bQ _ _ _ hx,bQ _ _ _ hx]
    have Ui:Mk rCs 51 W.heap.size w4 (λk=>F k/\k<w.heap.size) (.slice A3 C.length c3) C:=d5.out.grow Od.out;have SY:Mk rVw 54 w3.heap.size w4 (λk=>F k/\k<w.heap.size) (.slice A4 T.length c4) T:=HMB.out;have RC:Mk rVw 54 W.heap.size w4 (λk=>F k/\k<w.heap.size) (.slice A4 T.length c4) T:=SY.base h2;refine⟨grown_set (grown_set (be aC.out YW) (.inr (Nat.le_refl _)) _) (.inr (Nat.le_refl _)) _,by rw[uQ,uQ];exact Nat.le_refl _,((Xb.out.grow YW).other (by omega) _).other (by omega) _,BR (Va.out.grow YW) _ _,?_,?_,?_,by omega,by omega,Nat.le_refl _,λx h=>h.2⟩
    ·refine(wn.start Ui (Nat.le_refl _)).keep λx _ hc=>hx x ?_;rcases hc with hc|hc|hc
     ·have:=hc.2;omega
     ·have:=(Ui.row x hc.symm).1;omega
     ·omega
    ·refine(wn.start RC (Nat.le_refl _)).keep λx _ hc=>hx x ?_;rcases hc with hc|hc|hc
     ·have:=hc.2;omega
     ·have:=(RC.row x hc.symm).1;omega
     ·omega
    ·intro x e1 e2;have r1:=(d5.out.row x e1.symm).2;have r2:=(SY.row x e2.symm).1
     omega)
   go_wp2_with fail
   go_meet
   exact⟨A3,c3,A4,c4,w4.heap.size,HS.out⟩
 case rest=>
  obtain⟨A3,c3,A4,c4,N9,hS⟩:=hcut;have HS:=Lib.hid hS;clear hS p' qN Va Xb aC Xc k0 k1 f0 f1;generalize W.heap.size=N at *;have k0:=HS.out.out.cell 0;simp only[List.getElem?_cons_zero,List.getElem?_cons_succ]at k0
  go_wp2_with fail
  generalize hae:Value.slice A3 C.length c3=a at *;generalize hbe:Value.slice A4 T.length c4=b at *;have t6:=Lib.hid hae;have QP:=Lib.hid hbe;clear hae hbe k0
  go_loopw [18] (λi wr=>∃k:Nat,k<=C.length/\i=.int .i64 k/\StC C T w (λk=>F k/\k<w.heap.size) N w.heap.size N9 a b k 0 wr) (λi _=>C.length-(intOf i).toNat)
  case atStart=>exact⟨0,Nat.zero_le _,rfl,HS.out⟩
  case round=>
   obtain⟨k,hk,rfl,hst⟩:=hrel;have HN:=Lib.hid hst;clear hst HS;by_cases hlt:k<C.length
   ·obtain⟨ql,cl,d0,d1,d2,fp,hA⟩:=HN.out.rg.at_ hlt;generalize C[k]=x at hA;obtain⟨v,rfl,hv⟩:=hA.rep;obtain⟨LA,lc,rfl,_,_,T7⟩:=hv.size_eq;have Wx:=hA.hb;subst Wx;have HA:=Lib.hid hA;have HV:=Lib.hid hv
    have g0:wr.cell? ⟨ql,k,none⟩=some (.slice LA x.length lc):=by
     have:=hA.cell (j:=0) rfl;rw[show k*rCs.size+0=k from Nat.mul_one k]at this;exact this
    have gf:=hA.buf.free k;have k0:=HN.out.out.cell 0;have kq:=hA.ql1;have kn:=HN.out.hq
    have hqd:¬ql=w.heap.size:=by omega
    have PK:¬w.heap.size=ql:=by omega
    simp only[List.getElem?_cons_zero,List.getElem?_cons_succ]at k0
    have x2:(0:Int)<=(k:Int):=by omega
    have x3:(k:Int)<(C.length:Int):=by omega
    have x5:(k:Int).toNat=k:=by omega
    have hcap:=hA.l1;clear hA hv kq kn
    go_upto_region 5 with fail
    go_region_with (go_at_call 58;refine(sw (λk=>F k/\k<w.heap.size) x _ _ (HV.out.grow (cg (aY _ _)))).mono ?_;rintro e w6 ⟨y,rfl,TI,Vh⟩;obtain⟨A6,c6,rfl⟩:=TI.shape;have Vh:=be (cg (aY wr none)) Vh;have m0:=(HN.out.out.grow Vh).cell 0;simp only[List.getElem?_cons_zero,List.getElem?_cons_succ]at m0;have mf:=(HA.out.buf.grow Vh).free k;(have mc:w6.cell? ⟨ql,k,none⟩=some (.slice LA x.length lc):=(by(have:=(HA.out.grow Vh).cell (j:=0) rfl;rw[show k*rCs.size+0=k from Nat.mul_one k]at this;exact this)));have S7:=Lib.hid Vh;have Oj:=Lib.hid (TI.own zL);clear TI Vh)
    all_goals
     obtain⟨gp,TL,Ya,XK⟩:=Oj.out.done;replace XK:∀b,b∈gp->wr.heap.size<=b:=XK;have NU:=(HA.out.grow S7.out).buf.setmid (j:=0) (by simp) (.slice A6 x.length c6);have hA6:=HA.out.len;have Z4:rCs.size=1:=rfl;rw[hA6,Z4,Nat.mul_one,Nat.add_zero]at NU;have hql1:=HA.out.ql1;have ZE:=S7.out.size;have S9:=Lib.hid (HN.out.stepR (d1':=[.slice A6 x.length c6]) HA.out (grown_set (p:=⟨ql,k,none⟩) (lS (row:=some ql) S7.out) (.inl rfl) (.slice A6 x.length c6)) (by rw[Z4];exact NU) ⟨_,rfl,TL.keep λb hb=>bQ _ _ _ (by have:=XK b hb;have:=HA.out.buf.hi;omega)⟩ Ya XK)
     go_wp2_with fail
     go_roundw
     case rel=>exact⟨k+1,by omega,by go_num,S9.out⟩
     case measure=>simp[intOf];omega
   ·have Pu:k=C.length:=by omega
    subst Pu;have k1:=HN.out.out.cell 1;simp only[List.getElem?_cons_zero,List.getElem?_cons_succ]at k1;clear hlt;rw[<- QP.out]at k1
    go_upto_region 8 with fail
    rw[QP.out]at k1;rw[QP.out];clear k1;have HN:=Lib.hid (HN.out.second TZ);generalize wr.heap.size=M9 at HN
    go_loopw [33] (λi wr=>∃k:Nat,k<=T.length/\i=.int .i64 k/\StD C T w (λk=>F k/\k<w.heap.size) N w.heap.size M9 a b k wr) (λi _=>T.length-(intOf i).toNat)
    case atStart=>exact⟨0,Nat.zero_le _,rfl,HN.out⟩
    case round=>
     obtain⟨k,hk,rfl,hst⟩:=hrel;have HN:=Lib.hid hst;clear hst;by_cases hlt:k<T.length
     ·obtain⟨ql,cl,d0,d1,d2,fp,hA⟩:=HN.out.ts.at_ hlt;generalize T[k]=x at hA;obtain⟨v,rfl,hv⟩:=Iq hA.rep;obtain⟨LA,lc,rfl,_,_,T7⟩:=hv.size_eq;have Wx:=hA.hb;subst Wx;have HA:=Lib.hid hA;have HV:=Lib.hid hv;obtain⟨v0,v1,v2,v3,v4,v5,v6,L⟩:=x;have e8:∀j,k*rVw.size+j=k*8+j:=λj=>rfl;have g0:=hA.cell (j:=0) rfl;have g1:=hA.cell (j:=1) rfl;have g2:=hA.cell (j:=2) rfl;have g3:=hA.cell (j:=3) rfl;have g4:=hA.cell (j:=4) rfl;have g5:=hA.cell (j:=5) rfl;have g6:=hA.cell (j:=6) rfl;have g7:=hA.cell (j:=7) rfl;simp only[e8,Nat.add_zero]at g0 g1 g2 g3 g4 g5 g6 g7;have kq:=hA.ql1;have kn:=HN.out.hq
      have hqd:¬ql=w.heap.size:=by omega
      have PK:¬w.heap.size=ql:=by omega
      have x2:(0:Int)<=(k:Int):=by omega
      have x3:(k:Int)<(T.length:Int):=by omega
      have x5:(k:Int).toNat=k:=by omega
      have hcap:=hA.l1;dsimp only at HV T7⊢;have Yy:wr.grownBy (wr.alloc (.cells #[.int .i64 v0,.int .i64 v1,.int .i64 v2,.int .i64 v3,.int .i64 v4,.int .i64 v5,.int .u16 v6,.slice LA L.length lc] 54)) none:=aW (aY _ _) _;have Ve:Bk (wr.alloc (.cells #[.int .i64 v0,.int .i64 v1,.int .i64 v2,.int .i64 v3,.int .i64 v4,.int .i64 v5,.int .u16 v6,.slice LA L.length lc] 54)) wr.heap.size 54 [.int .i64 v0,.int .i64 v1,.int .i64 v2,.int .i64 v3,.int .i64 v4,.int .i64 v5,.int .u16 v6,.slice LA L.length lc]:=Bk.new;clear hA hv kq kn
      go_upto_region 10 with fail
      generalize wr.alloc (.cells #[.int .i64 v0,.int .i64 v1,.int .i64 v2,.int .i64 v3,.int .i64 v4,.int .i64 v5,.int .u16 v6,.slice LA L.length lc] 54)=W6 at *;have Ye:=Lib.hid Yy;have HB6:=Lib.hid Ve;have k1:=(HN.out.out.grow Yy).cell 1;have y0:=Ve.cell 0;have y1:=Ve.cell 1;have y2:=Ve.cell 2;have y3:=Ve.cell 3;have y4:=Ve.cell 4;have y5:=Ve.cell 5;have y6:=Ve.cell 6;have y7:=Ve.cell 7;simp only[List.getElem?_cons_zero,List.getElem?_cons_succ]at k1 y0 y1 y2 y3 y4 y5 y6 y7;clear Yy Ve g0 g1 g2 g3 g4 g5 g6 g7
      go_region_with (go_at_call 59;refine(oD (λk=>F k/\k<w.heap.size) v0 v1 v2 v3 v4 v5 v6 L _ _ ((HV.out.grow Ye.out).grow (cg (aY _ _)))).mono ?_;rintro e w7 ⟨y,rfl,TI,Vh⟩;obtain⟨A7,c7,rfl⟩:=TI.shape;have XI:=be Ye.out (be (cg (aY W6 none)) Vh);have m1:=(HN.out.out.grow XI).cell 1;simp only[List.getElem?_cons_zero,List.getElem?_cons_succ]at m1;have o0:=(HA.out.grow XI).cell (j:=0) rfl;have o1:=(HA.out.grow XI).cell (j:=1) rfl;have o2:=(HA.out.grow XI).cell (j:=2) rfl;have o3:=(HA.out.grow XI).cell (j:=3) rfl;have o4:=(HA.out.grow XI).cell (j:=4) rfl;have o5:=(HA.out.grow XI).cell (j:=5) rfl;have o6:=(HA.out.grow XI).cell (j:=6) rfl;have o7:=(HA.out.grow XI).cell (j:=7) rfl;have z0:=(HA.out.buf.grow XI).free (k*8+0);have z1:=(HA.out.buf.grow XI).free (k*8+1);have z2:=(HA.out.buf.grow XI).free (k*8+2);have z3:=(HA.out.buf.grow XI).free (k*8+3);have z4:=(HA.out.buf.grow XI).free (k*8+4);have z5:=(HA.out.buf.grow XI).free (k*8+5);have z6:=(HA.out.buf.grow XI).free (k*8+6);have z7:=(HA.out.buf.grow XI).free (k*8+7);simp only[e8,Nat.add_zero]at o0 o1 o2 o3 o4 o5 o6 o7 z0 z1 z2 z3 z4 z5 z6 z7;have S7:=Lib.hid XI;have Oj:=Lib.hid TI;clear TI Vh XI)
      all_goals
       obtain⟨gp,TL,Ya,XK⟩:=Oj.out.done
       replace XK:∀b,b∈gp->wr.heap.size+1<=b:=λb hb=>by
        have h1:W6.heap.size+2<=b:=XK b hb;have h2:=Ye.out.size;omega
       have Wg:=(HA.out.buf.grow S7.out);have hl:=HA.out.len;have hr8:rVw.size=8:=rfl;rw[hr8]at hl;have R4:=Wg.setmid (j:=0) (by simp[vwC]) (.int .i64 v0);have Zd:=R4.setmid (j:=1) (by simp[vwC]) (.int .i64 v1);have Y2:=Zd.setmid (j:=2) (by simp[vwC]) (.int .i64 v2);have R5:=Y2.setmid (j:=3) (by simp[vwC]) (.int .i64 v3);have R6:=R5.setmid (j:=4) (by simp[vwC]) (.int .i64 v4);have R7:=R6.setmid (j:=5) (by simp[vwC]) (.int .i64 v5);have R8:=R7.setmid (j:=6) (by simp[vwC]) (.int .u16 v6);have TR:=R8.setmid (j:=7) (by simp[vwC]) (.slice A7 L.length c7);simp only[hl,Nat.add_zero,vwC,List.cons_append,List.nil_append,List.set_cons_zero,List.set_cons_succ]at TR;have hgw:=S7.out.size
       have hset:∀x,x≠ql->((((((((w7.setCell ⟨ql,k*8,none⟩ (.int .i64 v0)).setCell ⟨ql,k*8+1,none⟩ (.int .i64 v1)).setCell ⟨ql,k*8+2,none⟩ (.int .i64 v2)).setCell ⟨ql,k*8+3,none⟩ (.int .i64 v3)).setCell ⟨ql,k*8+4,none⟩ (.int .i64 v4)).setCell ⟨ql,k*8+5,none⟩ (.int .i64 v5)).setCell ⟨ql,k*8+6,none⟩ (.int .u16 v6)).setCell ⟨ql,k*8+7,none⟩ (.slice A7 L.length c7)).heap[x]?=w7.heap[x]?:=λx hx=>by simp only[bQ _ _ _ hx]
       have YX:wr.grownBy ((((((((w7.setCell ⟨ql,k*8,none⟩ (.int .i64 v0)).setCell ⟨ql,k*8+1,none⟩ (.int .i64 v1)).setCell ⟨ql,k*8+2,none⟩ (.int .i64 v2)).setCell ⟨ql,k*8+3,none⟩ (.int .i64 v3)).setCell ⟨ql,k*8+4,none⟩ (.int .i64 v4)).setCell ⟨ql,k*8+5,none⟩ (.int .i64 v5)).setCell ⟨ql,k*8+6,none⟩ (.int .u16 v6)).setCell ⟨ql,k*8+7,none⟩ (.slice A7 L.length c7)) (some ql):=
        grown_set (p:=⟨ql,k*8+7,none⟩) (grown_set (p:=⟨ql,k*8+6,none⟩) (grown_set (p:=⟨ql,k*8+5,none⟩) (grown_set (p:=⟨ql,k*8+4,none⟩) (grown_set (p:=⟨ql,k*8+3,none⟩) (grown_set (p:=⟨ql,k*8+2,none⟩) (grown_set (p:=⟨ql,k*8+1,none⟩) (grown_set (p:=⟨ql,k*8,none⟩) (lS (row:=some ql) S7.out) (.inl rfl) _) (.inl rfl) _) (.inl rfl) _) (.inl rfl) _) (.inl rfl) _) (.inl rfl) _) (.inl rfl) _) (.inl rfl) _
       have R0:=HA.out.buf.hi;have S9:=Lib.hid (HN.out.stepT (d1':=vwC (v0,v1,v2,v3,v4,v5,v6,L) (.slice A7 L.length c7)) HA.out YX (by simpa[vwC]using TR) (Ip (TL.keep λb hb=>hset b (by have:=XK b hb;omega))) Ya (λb hb=>by have:=XK b hb;omega));clear R4 Zd Y2 R5 R6 R7 R8 TR hset YX TL Ya XK Wg
       go_wp2_with fail
       go_roundw
       case rel=>exact⟨k+1,by omega,by go_num,S9.out⟩
       case measure=>simp[intOf];omega
     ·have Pu:k=T.length:=by omega
      subst Pu;have j0:=HN.out.out.cell 0;have j1:=HN.out.out.cell 1;have r2:=HN.out.res.hi;have r0:=HN.out.res.cell 0;have r1:=HN.out.res.cell 1;have f0:=HN.out.res.free 0;have f1:=HN.out.res.free 1;simp only[List.getElem?_cons_zero,List.getElem?_cons_succ]at j0 j1 r0 r1;have ea:=t6.out;have eb:=QP.out;subst ea;subst eb;clear t6 QP
      go_wp2_with fail
      refine bodyPost_ret (v:=.agg #[.slice A3 C.length c3,.slice A4 T.length c4]) (by simp[results,Try.results35,go_sem,r0,r1,r2]) rfl ?_;obtain⟨fp,o1,o2,o3⟩:=HN.out.rg;obtain⟨gp,p1,p2,p3⟩:=HN.out.ts.done T9;have hqN:=HN.out.hq;have hNM:=HN.out.hN;refine⟨_,_,fp,gp,rfl,o1.keep λb hb=>?_,p1.keep λb hb=>?_,List.nodup_append.2 ⟨o2,p2,λx hx y hy e=>?_⟩,λx hx=>?_,grown_set (grown_set HN.out.grown (.inr (Nat.le_succ _)) _) (.inr (Nat.le_succ _)) _⟩
      ·have h1:=(o3 b hb).1
       have h2:b≠w.heap.size+1:=by omega
       rw[bQ _ _ _ h2,bQ _ _ _ h2]
      ·have h1:=(p3 b hb).1
       have h2:b≠w.heap.size+1:=by omega
       rw[bQ _ _ _ h2,bQ _ _ _ h2]
      ·subst e
       rcases(p3 x hy).2 with h|h
       ·exact(o3 x hx).2.2 h
       ·have:=(o3 x hx).2.1;omega
      ·rcases List.mem_append.1 hx with h|h
       ·have:=(o3 x h).1;omega
       ·have:=(p3 x h).1;omega
set_option maxRecDepth 100000 in
set_option maxHeartbeats 4000000 in
theorem GL(F:Nat->Prop)(C:List (List Cn4))(T:List Vw8)(r i:Int)(cells:List Cn4)(v0 v1 v2 v3 v4 v5 v6:Int)(L:List Cn4)(U V Y Z:Value)(w:World)(fe:Int)
 (hu:RSl rCs w F C U)(hv:RSl rVw w F T V)(hy:RSl rCn w F cells Y)(hz:RSl rCn w F L Z)
 (ZR:∀w',w.grownBy w' none->Calls Try.prog 53 #[.agg #[U,V],.agg #[.int .i64 r,.int .i64 i]] w' λe w2=>e=.returned (.int .i64 fe)/\w'.grownBy w2 none)(hne:(fe != 0)=true):
 Calls Try.prog 36 #[.agg #[U,V],.agg #[.int .i64 r,.int .i64 i,Y,.int .i64 v0,.int .i64 v1,.int .i64 v2,.int .i64 v3,.int .i64 v4,.int .i64 v5,.int .u16 v6,Z]] w (λe w'=>e=.returned (.tuple #[.agg #[.slice none 0 0,.slice none 0 0],.int .i64 fe])/\w.grownBy w' none):=by
 have HU:=Lib.hid hu;have HV:=Lib.hid hv;have HY:=Lib.hid hy;have HZ:=Lib.hid hz;obtain⟨A1,c1,rfl,_,_,TZ⟩:=hu.size_eq;obtain⟨A2,c2,rfl,_,_,T9⟩:=hv.size_eq;obtain⟨A3,c3,rfl,_,_,hcl⟩:=hy.size_eq;obtain⟨A4,c4,rfl,_,_,T7⟩:=hz.size_eq;have HF:=Lib.hid ZR;clear hu hv hy hz ZR
 go_enter Try.func36,Try.ntmps36
 go_upto_region 1 with fail
 have Zj:w.grownBy (((w.alloc (.cells #[.slice A1 C.length c1,.slice A2 T.length c2] 25)).alloc (.cells #[.int .i64 r,.int .i64 i,.slice A3 cells.length c3,.int .i64 v0,.int .i64 v1,.int .i64 v2,.int .i64 v3,.int .i64 v4,.int .i64 v5,.int .u16 v6,.slice A4 L.length c4] 58)).alloc (.cells #[.slice none 0 0,.slice none 0 0] 25)) none:=aW (aW (aW (aY w none) _) _) _;have Z':Bk (((w.alloc (.cells #[.slice A1 C.length c1,.slice A2 T.length c2] 25)).alloc (.cells #[.int .i64 r,.int .i64 i,.slice A3 cells.length c3,.int .i64 v0,.int .i64 v1,.int .i64 v2,.int .i64 v3,.int .i64 v4,.int .i64 v5,.int .u16 v6,.slice A4 L.length c4] 58)).alloc (.cells #[.slice none 0 0,.slice none 0 0] 25)) w.heap.size 25 [.slice A1 C.length c1,.slice A2 T.length c2]:=(Bk.new.grow (aW (aY _ _) _)).grow (aW (aY _ _) _)
 have Z9:Bk (((w.alloc (.cells #[.slice A1 C.length c1,.slice A2 T.length c2] 25)).alloc (.cells #[.int .i64 r,.int .i64 i,.slice A3 cells.length c3,.int .i64 v0,.int .i64 v1,.int .i64 v2,.int .i64 v3,.int .i64 v4,.int .i64 v5,.int .u16 v6,.slice A4 L.length c4] 58)).alloc (.cells #[.slice none 0 0,.slice none 0 0] 25)) (w.heap.size+1) 58 [.int .i64 r,.int .i64 i,.slice A3 cells.length c3,.int .i64 v0,.int .i64 v1,.int .i64 v2,.int .i64 v3,.int .i64 v4,.int .i64 v5,.int .u16 v6,.slice A4 L.length c4]:=by
  have h:=(Bk.new (w:=w.alloc (.cells #[.slice A1 C.length c1,.slice A2 T.length c2] 25)) (t:=58) (vs:=[.int .i64 r,.int .i64 i,.slice A3 cells.length c3,.int .i64 v0,.int .i64 v1,.int .i64 v2,.int .i64 v3,.int .i64 v4,.int .i64 v5,.int .u16 v6,.slice A4 L.length c4])).grow (aW (aY _ _) (.cells #[.slice none 0 0,.slice none 0 0] 25));simpa using h
 have ZO:Bk (((w.alloc (.cells #[.slice A1 C.length c1,.slice A2 T.length c2] 25)).alloc (.cells #[.int .i64 r,.int .i64 i,.slice A3 cells.length c3,.int .i64 v0,.int .i64 v1,.int .i64 v2,.int .i64 v3,.int .i64 v4,.int .i64 v5,.int .u16 v6,.slice A4 L.length c4] 58)).alloc (.cells #[.slice none 0 0,.slice none 0 0] 25)) (w.heap.size+2) 25 [.slice none 0 0,.slice none 0 0]:=by
  have h:=Bk.new (w:=(w.alloc (.cells #[.slice A1 C.length c1,.slice A2 T.length c2] 25)).alloc (.cells #[.int .i64 r,.int .i64 i,.slice A3 cells.length c3,.int .i64 v0,.int .i64 v1,.int .i64 v2,.int .i64 v3,.int .i64 v4,.int .i64 v5,.int .u16 v6,.slice A4 L.length c4] 58)) (t:=25) (vs:=[.slice none 0 0,.slice none 0 0]);simpa using h
 have hsz:(((w.alloc (.cells #[.slice A1 C.length c1,.slice A2 T.length c2] 25)).alloc (.cells #[.int .i64 r,.int .i64 i,.slice A3 cells.length c3,.int .i64 v0,.int .i64 v1,.int .i64 v2,.int .i64 v3,.int .i64 v4,.int .i64 v5,.int .u16 v6,.slice A4 L.length c4] 58)).alloc (.cells #[.slice none 0 0,.slice none 0 0] 25)).heap.size=w.heap.size+3:=by simp
 generalize((w.alloc (.cells #[.slice A1 C.length c1,.slice A2 T.length c2] 25)).alloc (.cells #[.int .i64 r,.int .i64 i,.slice A3 cells.length c3,.int .i64 v0,.int .i64 v1,.int .i64 v2,.int .i64 v3,.int .i64 v4,.int .i64 v5,.int .u16 v6,.slice A4 L.length c4] 58)).alloc (.cells #[.slice none 0 0,.slice none 0 0] 25)=W at *;have a20:=Z'.cell 0;have a21:=Z'.cell 1;have Xj:=Z9.cell 0;have Xk:=Z9.cell 1;simp only[List.getElem?_cons_zero,List.getElem?_cons_succ]at a20 a21 Xj Xk
 go_wp2_with fail
 refine(HF.out W Zj).mono ?_;rintro e w1 ⟨rfl,Z0⟩;have Xz:=Lib.hid (be Zj Z0);have Zd:=Z0.size;have Z':=Z'.grow Z0;have Z9:=Z9.grow Z0;have ZO:=ZO.grow Z0;have W':=Z'.cell 0;have X7:=Z'.cell 1;have Yg:=Z9.cell 0;have Xx:=Z9.cell 1;have Yo:=Z9.cell 2;have WK:=Z9.cell 3;have WL:=Z9.cell 4;have WM:=Z9.cell 5;have WN:=Z9.cell 6;have WO:=Z9.cell 7;have WP:=Z9.cell 8;have WQ:=Z9.cell 9;have YK:=Z9.cell 10;have Y5:=ZO.cell 0;have Y6:=ZO.cell 1;have WS:=ZO.free 0;have f41:=ZO.free 1;have q4:=ZO.hi;simp only[List.getElem?_cons_zero,List.getElem?_cons_succ]at W' X7 Yg Xx Yo WK WL WM WN WO WP WQ YK Y5 Y6;have Xb:=Lib.hid Z';have Zb:=Lib.hid Z9;have Wf:=Lib.hid ZO;have HS:=Lib.hid hsz;clear Z' Z9 ZO Zj Z0 HF a20 a21 Xj Xk
 go_wp2_with fail
 refine bodyPost_ret (v:=.tuple #[.agg #[.slice none 0 0,.slice none 0 0],.int .i64 fe]) (by simp[results,Try.results36,go_sem,Y5,Y6,q4]) rfl ?_;exact⟨rfl,grown_set (grown_set Xz.out (.inr (by dsimp only;omega)) _) (.inr (by dsimp only;omega)) _⟩
set_option maxRecDepth 100000 in
set_option maxHeartbeats 4000000 in
theorem Eh(F:Nat->Prop)(C:List (List Cn4))(T:List Vw8)(r i:Int)(cells:List Cn4)(v0 v1 v2 v3 v4 v5 v6:Int)(L:List Cn4)(U V Y Z:Value)(w:World)(fe:Int)
 (hu:RSl rCs w F C U)(hv:RSl rVw w F T V)(hy:RSl rCn w F cells Y)(hz:RSl rCn w F L Z)
 (ZR:∀w',w.grownBy w' none->Calls Try.prog 53 #[.agg #[U,V],.agg #[.int .i64 r,.int .i64 i]] w' λe w2=>e=.returned (.int .i64 fe)/\w'.grownBy w2 none)(h0:fe=0)(hr:r=-1)(hc:0<cells.length):
 Calls Try.prog 36 #[.agg #[U,V],.agg #[.int .i64 r,.int .i64 i,Y,.int .i64 v0,.int .i64 v1,.int .i64 v2,.int .i64 v3,.int .i64 v4,.int .i64 v5,.int .u16 v6,Z]] w (λe w'=>e=.returned (.tuple #[.agg #[.slice none 0 0,.slice none 0 0],.int .i64 5])/\w.grownBy w' none):=by
 subst h0;subst hr;have HU:=Lib.hid hu;have HV:=Lib.hid hv;have HY:=Lib.hid hy;have HZ:=Lib.hid hz;obtain⟨A1,c1,rfl,_,_,TZ⟩:=hu.size_eq;obtain⟨A2,c2,rfl,_,_,T9⟩:=hv.size_eq;obtain⟨A3,c3,rfl,_,_,hcl⟩:=hy.size_eq;obtain⟨A4,c4,rfl,_,_,T7⟩:=hz.size_eq;have HF:=Lib.hid ZR;clear hu hv hy hz ZR
 go_enter Try.func36,Try.ntmps36
 go_upto_region 1 with fail
 have Zj:w.grownBy (((w.alloc (.cells #[.slice A1 C.length c1,.slice A2 T.length c2] 25)).alloc (.cells #[.int .i64 (-1),.int .i64 i,.slice A3 cells.length c3,.int .i64 v0,.int .i64 v1,.int .i64 v2,.int .i64 v3,.int .i64 v4,.int .i64 v5,.int .u16 v6,.slice A4 L.length c4] 58)).alloc (.cells #[.slice none 0 0,.slice none 0 0] 25)) none:=aW (aW (aW (aY w none) _) _) _;have Z':Bk (((w.alloc (.cells #[.slice A1 C.length c1,.slice A2 T.length c2] 25)).alloc (.cells #[.int .i64 (-1),.int .i64 i,.slice A3 cells.length c3,.int .i64 v0,.int .i64 v1,.int .i64 v2,.int .i64 v3,.int .i64 v4,.int .i64 v5,.int .u16 v6,.slice A4 L.length c4] 58)).alloc (.cells #[.slice none 0 0,.slice none 0 0] 25)) w.heap.size 25 [.slice A1 C.length c1,.slice A2 T.length c2]:=(Bk.new.grow (aW (aY _ _) _)).grow (aW (aY _ _) _)
 have Z9:Bk (((w.alloc (.cells #[.slice A1 C.length c1,.slice A2 T.length c2] 25)).alloc (.cells #[.int .i64 (-1),.int .i64 i,.slice A3 cells.length c3,.int .i64 v0,.int .i64 v1,.int .i64 v2,.int .i64 v3,.int .i64 v4,.int .i64 v5,.int .u16 v6,.slice A4 L.length c4] 58)).alloc (.cells #[.slice none 0 0,.slice none 0 0] 25)) (w.heap.size+1) 58 [.int .i64 (-1),.int .i64 i,.slice A3 cells.length c3,.int .i64 v0,.int .i64 v1,.int .i64 v2,.int .i64 v3,.int .i64 v4,.int .i64 v5,.int .u16 v6,.slice A4 L.length c4]:=by
  have h:=(Bk.new (w:=w.alloc (.cells #[.slice A1 C.length c1,.slice A2 T.length c2] 25)) (t:=58) (vs:=[.int .i64 (-1),.int .i64 i,.slice A3 cells.length c3,.int .i64 v0,.int .i64 v1,.int .i64 v2,.int .i64 v3,.int .i64 v4,.int .i64 v5,.int .u16 v6,.slice A4 L.length c4])).grow (aW (aY _ _) (.cells #[.slice none 0 0,.slice none 0 0] 25));simpa using h
 have ZO:Bk (((w.alloc (.cells #[.slice A1 C.length c1,.slice A2 T.length c2] 25)).alloc (.cells #[.int .i64 (-1),.int .i64 i,.slice A3 cells.length c3,.int .i64 v0,.int .i64 v1,.int .i64 v2,.int .i64 v3,.int .i64 v4,.int .i64 v5,.int .u16 v6,.slice A4 L.length c4] 58)).alloc (.cells #[.slice none 0 0,.slice none 0 0] 25)) (w.heap.size+2) 25 [.slice none 0 0,.slice none 0 0]:=by
  have h:=Bk.new (w:=(w.alloc (.cells #[.slice A1 C.length c1,.slice A2 T.length c2] 25)).alloc (.cells #[.int .i64 (-1),.int .i64 i,.slice A3 cells.length c3,.int .i64 v0,.int .i64 v1,.int .i64 v2,.int .i64 v3,.int .i64 v4,.int .i64 v5,.int .u16 v6,.slice A4 L.length c4] 58)) (t:=25) (vs:=[.slice none 0 0,.slice none 0 0]);simpa using h
 have hsz:(((w.alloc (.cells #[.slice A1 C.length c1,.slice A2 T.length c2] 25)).alloc (.cells #[.int .i64 (-1),.int .i64 i,.slice A3 cells.length c3,.int .i64 v0,.int .i64 v1,.int .i64 v2,.int .i64 v3,.int .i64 v4,.int .i64 v5,.int .u16 v6,.slice A4 L.length c4] 58)).alloc (.cells #[.slice none 0 0,.slice none 0 0] 25)).heap.size=w.heap.size+3:=by simp
 generalize((w.alloc (.cells #[.slice A1 C.length c1,.slice A2 T.length c2] 25)).alloc (.cells #[.int .i64 (-1),.int .i64 i,.slice A3 cells.length c3,.int .i64 v0,.int .i64 v1,.int .i64 v2,.int .i64 v3,.int .i64 v4,.int .i64 v5,.int .u16 v6,.slice A4 L.length c4] 58)).alloc (.cells #[.slice none 0 0,.slice none 0 0] 25)=W at *;have a20:=Z'.cell 0;have a21:=Z'.cell 1;have Xj:=Z9.cell 0;have Xk:=Z9.cell 1;simp only[List.getElem?_cons_zero,List.getElem?_cons_succ]at a20 a21 Xj Xk
 go_wp2_with fail
 refine(HF.out W Zj).mono ?_;rintro e w1 ⟨rfl,Z0⟩;have Xz:=Lib.hid (be Zj Z0);have Zd:=Z0.size;have Z':=Z'.grow Z0;have Z9:=Z9.grow Z0;have ZO:=ZO.grow Z0;have W':=Z'.cell 0;have X7:=Z'.cell 1;have Yg:=Z9.cell 0;have Xx:=Z9.cell 1;have Yo:=Z9.cell 2;have WK:=Z9.cell 3;have WL:=Z9.cell 4;have WM:=Z9.cell 5;have WN:=Z9.cell 6;have WO:=Z9.cell 7;have WP:=Z9.cell 8;have WQ:=Z9.cell 9;have YK:=Z9.cell 10;have Y5:=ZO.cell 0;have Y6:=ZO.cell 1;have WS:=ZO.free 0;have f41:=ZO.free 1;have q4:=ZO.hi;simp only[List.getElem?_cons_zero,List.getElem?_cons_succ]at W' X7 Yg Xx Yo WK WL WM WN WO WP WQ YK Y5 Y6;have Xb:=Lib.hid Z';have Zb:=Lib.hid Z9;have Wf:=Lib.hid ZO;have HS:=Lib.hid hsz;clear Z' Z9 ZO Zj Z0 HF a20 a21 Xj Xk
 have XA:(0:Int)<(cells.length:Int):=by omega
 go_wp2_with fail
 refine bodyPost_ret (v:=.tuple #[.agg #[.slice none 0 0,.slice none 0 0],.int .i64 5]) (by simp[results,Try.results36,go_sem,Y5,Y6,q4]) rfl ?_;exact⟨rfl,grown_set (grown_set Xz.out (.inr (by dsimp only;omega)) _) (.inr (by dsimp only;omega)) _⟩
structure KA (C:List (List Cn4))(T:List Vw8)(w:World)(q7:Nat)(a b:Value)(wx:World):Prop where
 grown:w.grownBy wx none
 res:Bk wx (w.heap.size+1+1) 25 [.slice none 0 0,.slice none 0 0]
 st:Bk wx q7 25 [a,b]
 ra:RSl rCs wx (λk=>w.heap.size+3<=k) C a
 rb:RSl rVw wx (λk=>w.heap.size+3<=k) T b
def BJ(C:List (List Cn4))(T:List Vw8)(w:World)(e:Ending)(w':World):Prop:=
 ∃a b,e=.returned (.tuple #[.agg #[a,b],.int .i64 0])/\RSl rCs w' (λk=>w.heap.size<=k) C a/\RSl rVw w' (λk=>w.heap.size<=k) T b/\w.grownBy w' none
theorem KA.ret{C:List (List Cn4)}{T:List Vw8}{w wx:World}{q7:Nat}{a b x y:Value}(h:KA C T w q7 a b wx):BJ C T w (.returned (.tuple #[.agg #[a,b],.int .i64 0])) ((wx.setCell ⟨w.heap.size+1+1,0,none⟩ x).setCell ⟨w.heap.size+1+1,1,none⟩ y):=by
 have hk:∀k,w.heap.size+3<=k->((wx.setCell ⟨w.heap.size+1+1,0,none⟩ x).setCell ⟨w.heap.size+1+1,1,none⟩ y).heap[k]?=wx.heap[k]?:=λk hk=>by
  have h2:k≠w.heap.size+1+1:=by omega
  rw[bQ _ _ _ h2,bQ _ _ _ h2]
 refine⟨a,b,rfl,(h.ra.keep hk).sub λk hk=>by omega,(h.rb.keep hk).sub λk hk=>by omega,grown_set (grown_set h.grown (.inr (by dsimp only;omega)) _) (.inr (by dsimp only;omega)) _⟩
set_option maxRecDepth 100000 in
set_option maxHeartbeats 4000000 in
theorem B9(F:Nat->Prop)(C:List (List Cn4))(T:List Vw8)(j:Nat)(cells:List Cn4)(v0 v1 v2 v3 v4 v5 v6:Int)(L:List Cn4)(U V Y Z:Value)(w:World)(fe:Int)
 (hu:RSl rCs w F C U)(hv:RSl rVw w F T V)(hy:RSl rCn w F cells Y)(hz:RSl rCn w F L Z)
 (ZR:∀w',w.grownBy w' none->Calls Try.prog 53 #[.agg #[U,V],.agg #[.int .i64 (-1),.int .i64 j]] w' λe w2=>e=.returned (.int .i64 fe)/\w'.grownBy w2 none)(h0:fe=0)(hc:cells.length=0)(hj:j<T.length):
 Calls Try.prog 36 #[.agg #[U,V],.agg #[.int .i64 (-1),.int .i64 j,Y,.int .i64 v0,.int .i64 v1,.int .i64 v2,.int .i64 v3,.int .i64 v4,.int .i64 v5,.int .u16 v6,Z]] w (BJ C (T.set j (v0,v1,v2,v3,v4,v5,v6,L)) w):=by
 subst h0;have Hc:=Lib.hid hc;clear hc;have HU:=Lib.hid hu;have HV:=Lib.hid hv;have HY:=Lib.hid hy;have HZ:=Lib.hid hz;obtain⟨A1,c1,rfl,_,_,TZ⟩:=hu.size_eq;obtain⟨A2,c2,rfl,_,_,T9⟩:=hv.size_eq;obtain⟨A3,c3,rfl,_,_,hcl⟩:=hy.size_eq;obtain⟨A4,c4,rfl,_,_,T7⟩:=hz.size_eq;have HF:=Lib.hid ZR;clear hu hv hy hz ZR
 go_enter Try.func36,Try.ntmps36
 go_upto_region 1 with fail
 have Zj:w.grownBy (((w.alloc (.cells #[.slice A1 C.length c1,.slice A2 T.length c2] 25)).alloc (.cells #[.int .i64 (-1),.int .i64 j,.slice A3 cells.length c3,.int .i64 v0,.int .i64 v1,.int .i64 v2,.int .i64 v3,.int .i64 v4,.int .i64 v5,.int .u16 v6,.slice A4 L.length c4] 58)).alloc (.cells #[.slice none 0 0,.slice none 0 0] 25)) none:=aW (aW (aW (aY w none) _) _) _;have Z':Bk (((w.alloc (.cells #[.slice A1 C.length c1,.slice A2 T.length c2] 25)).alloc (.cells #[.int .i64 (-1),.int .i64 j,.slice A3 cells.length c3,.int .i64 v0,.int .i64 v1,.int .i64 v2,.int .i64 v3,.int .i64 v4,.int .i64 v5,.int .u16 v6,.slice A4 L.length c4] 58)).alloc (.cells #[.slice none 0 0,.slice none 0 0] 25)) w.heap.size 25 [.slice A1 C.length c1,.slice A2 T.length c2]:=(Bk.new.grow (aW (aY _ _) _)).grow (aW (aY _ _) _)
 have Z9:Bk (((w.alloc (.cells #[.slice A1 C.length c1,.slice A2 T.length c2] 25)).alloc (.cells #[.int .i64 (-1),.int .i64 j,.slice A3 cells.length c3,.int .i64 v0,.int .i64 v1,.int .i64 v2,.int .i64 v3,.int .i64 v4,.int .i64 v5,.int .u16 v6,.slice A4 L.length c4] 58)).alloc (.cells #[.slice none 0 0,.slice none 0 0] 25)) (w.heap.size+1) 58 [.int .i64 (-1),.int .i64 j,.slice A3 cells.length c3,.int .i64 v0,.int .i64 v1,.int .i64 v2,.int .i64 v3,.int .i64 v4,.int .i64 v5,.int .u16 v6,.slice A4 L.length c4]:=by
  have h:=(Bk.new (w:=w.alloc (.cells #[.slice A1 C.length c1,.slice A2 T.length c2] 25)) (t:=58) (vs:=[.int .i64 (-1),.int .i64 j,.slice A3 cells.length c3,.int .i64 v0,.int .i64 v1,.int .i64 v2,.int .i64 v3,.int .i64 v4,.int .i64 v5,.int .u16 v6,.slice A4 L.length c4])).grow (aW (aY _ _) (.cells #[.slice none 0 0,.slice none 0 0] 25));simpa using h
 have ZO:Bk (((w.alloc (.cells #[.slice A1 C.length c1,.slice A2 T.length c2] 25)).alloc (.cells #[.int .i64 (-1),.int .i64 j,.slice A3 cells.length c3,.int .i64 v0,.int .i64 v1,.int .i64 v2,.int .i64 v3,.int .i64 v4,.int .i64 v5,.int .u16 v6,.slice A4 L.length c4] 58)).alloc (.cells #[.slice none 0 0,.slice none 0 0] 25)) (w.heap.size+2) 25 [.slice none 0 0,.slice none 0 0]:=by
  have h:=Bk.new (w:=(w.alloc (.cells #[.slice A1 C.length c1,.slice A2 T.length c2] 25)).alloc (.cells #[.int .i64 (-1),.int .i64 j,.slice A3 cells.length c3,.int .i64 v0,.int .i64 v1,.int .i64 v2,.int .i64 v3,.int .i64 v4,.int .i64 v5,.int .u16 v6,.slice A4 L.length c4] 58)) (t:=25) (vs:=[.slice none 0 0,.slice none 0 0]);simpa using h
 have hsz:(((w.alloc (.cells #[.slice A1 C.length c1,.slice A2 T.length c2] 25)).alloc (.cells #[.int .i64 (-1),.int .i64 j,.slice A3 cells.length c3,.int .i64 v0,.int .i64 v1,.int .i64 v2,.int .i64 v3,.int .i64 v4,.int .i64 v5,.int .u16 v6,.slice A4 L.length c4] 58)).alloc (.cells #[.slice none 0 0,.slice none 0 0] 25)).heap.size=w.heap.size+3:=by simp
 generalize((w.alloc (.cells #[.slice A1 C.length c1,.slice A2 T.length c2] 25)).alloc (.cells #[.int .i64 (-1),.int .i64 j,.slice A3 cells.length c3,.int .i64 v0,.int .i64 v1,.int .i64 v2,.int .i64 v3,.int .i64 v4,.int .i64 v5,.int .u16 v6,.slice A4 L.length c4] 58)).alloc (.cells #[.slice none 0 0,.slice none 0 0] 25)=W at *;have a20:=Z'.cell 0;have a21:=Z'.cell 1;have Xj:=Z9.cell 0;have Xk:=Z9.cell 1;simp only[List.getElem?_cons_zero,List.getElem?_cons_succ]at a20 a21 Xj Xk
 go_wp2_with fail
 refine(HF.out W Zj).mono ?_;rintro e w1 ⟨rfl,Z0⟩;have Xz:=Lib.hid (be Zj Z0);have Zd:=Z0.size;have Z':=Z'.grow Z0;have Z9:=Z9.grow Z0;have ZO:=ZO.grow Z0;have W':=Z'.cell 0;have X7:=Z'.cell 1;have Yg:=Z9.cell 0;have Xx:=Z9.cell 1;have Yo:=Z9.cell 2;have WK:=Z9.cell 3;have WL:=Z9.cell 4;have WM:=Z9.cell 5;have WN:=Z9.cell 6;have WO:=Z9.cell 7;have WP:=Z9.cell 8;have WQ:=Z9.cell 9;have YK:=Z9.cell 10;have Y5:=ZO.cell 0;have Y6:=ZO.cell 1;have WS:=ZO.free 0;have f41:=ZO.free 1;have q4:=ZO.hi;simp only[List.getElem?_cons_zero,List.getElem?_cons_succ]at W' X7 Yg Xx Yo WK WL WM WN WO WP WQ YK Y5 Y6;have Xb:=Lib.hid Z';have Zb:=Lib.hid Z9;have Wf:=Lib.hid ZO;have HS:=Lib.hid hsz;clear Z' Z9 ZO Zj Z0 HF a20 a21 Xj Xk
 have XA:¬(0:Int)<(cells.length:Int):=by have:=Hc.out;omega
 go_wp2_with fail
 refine(lT F C T _ _ w1 (HU.out.grow Xz.out) (HV.out.grow Xz.out)).mono ?_;rintro e w2 ⟨a,b,fp,gp,rfl,oa,ob,ZN,X1,ZH⟩;obtain⟨A5,c5,rfl⟩:=oa.shape;have HOB:=Lib.hid ob;obtain⟨hb,⟨e1,e2,_⟩|⟨ql,cl,cs,g,rfl,e2,l1,l2,hV,hO⟩⟩:=ob
 ·rw[e2]at hj;cases hj
 obtain⟨g1,g2,g3,d1,d2,d3,e3,e4,l3,o1,o2,o3⟩:=hO.split hj;have hd2:=rVw.len (rVw.reads o2)
 obtain⟨x0,x1,x2,x3,x4,x5,x6,x7,rfl⟩:∃x0 x1 x2 x3 x4 x5 x6 x7,d2=[x0,x1,x2,x3,x4,x5,x6,x7]:=by
  match d2,hd2 with
  | [x0,x1,x2,x3,x4,x5,x6,x7],_=>exact⟨_,_,_,_,_,_,_,_,rfl⟩
 have Yy:w2.grownBy (w2.alloc (.cells #[.slice A5 C.length c5,.slice (some ⟨ql,0,none⟩) T.length cl] 25)) none:=aW (aY _ _) _;have V9:Bk (w2.alloc (.cells #[.slice A5 C.length c5,.slice (some ⟨ql,0,none⟩) T.length cl] 25)) w2.heap.size 25 [.slice A5 C.length c5,.slice (some ⟨ql,0,none⟩) T.length cl]:=Bk.new;have UL:=be (be Xz.out ZH) Yy;have Z9:=(Zb.out.grow ZH).grow Yy;have Y2:=ZH.size;have PL:=X1 ql (by rw[e2];simp);have R0:=hV.hi;have Of:=Lib.hid (And.intro ZN (And.intro X1 (And.intro e2 (And.intro e3 (And.intro o1 (And.intro o3 oa))))));rw[e4]at hV;have Vb:=Lib.hid (hV.grow Yy);have HL:=Lib.hid (show d1.length=j*8 from l3);have QL:=Lib.hid UL;have Ye:=Lib.hid (be ZH Yy);have Vo:=Lib.hid Yy;clear W' X7 Yg Xx Yo WK WL WM WN WO WP WQ YK Y5 Y6 WS f41 ZN X1 e3 e4 o1 o2 o3 oa hd2 l3 hO hV hb
 go_upto_region 8 with fail
 generalize w2.alloc (.cells #[.slice A5 C.length c5,.slice (some ⟨ql,0,none⟩) T.length cl] 25)=W3 at *;generalize hq7:w2.heap.size=q7 at *;have Zb:=Lib.hid Z9;have QI:=Lib.hid V9;have m1:=V9.cell 1;have Yg:=Z9.cell 0;have Xx:=Z9.cell 1;have Yo:=Z9.cell 2;have WK:=Z9.cell 3;have WL:=Z9.cell 4;have WM:=Z9.cell 5;have WN:=Z9.cell 6;have WO:=Z9.cell 7;have WP:=Z9.cell 8;have WQ:=Z9.cell 9;have YK:=Z9.cell 10;simp only[List.getElem?_cons_zero,List.getElem?_cons_succ]at m1 Yg Xx Yo WK WL WM WN WO WP WQ YK
 have x2':(0:Int)<=(j:Int):=by omega
 have x3':(j:Int)<(T.length:Int):=by omega
 have x5':(j:Int).toNat=j:=by omega
 have HC:=Lib.hid (show ∀(w':World),W3.grownBy w' none->∀n,n<8->w'.cell? ⟨ql,j*8+n,none⟩=some ([x0,x1,x2,x3,x4,x5,x6,x7].getD n undef)from λw' hg n hn=>by
  have h:=(Vb.out.grow hg);rw[List.append_assoc]at h
  have h2:=h.mid (j:=n) (u:=[x0,x1,x2,x3,x4,x5,x6,x7].getD n undef) (by
   rw[List.getElem?_append_left (by simpa using hn)]
   have UU:n=0\/n=1\/n=2\/n=3\/n=4\/n=5\/n=6\/n=7:=by omega
   rcases UU with rfl|rfl|rfl|rfl|rfl|rfl|rfl|rfl<;>rfl)
  rw[HL.out]at h2
  exact h2)
 clear Z9 V9 Yy UL
 go_cut []from 28 to 37 (λwx=>KA C (T.set j (v0,v1,v2,v3,v4,v5,v6,L)) w q7 (.slice A5 C.length c5) (.slice (some ⟨ql,0,none⟩) T.length cl) wx)
 case first=>
  go_region_with (go_at_call 59;refine(oD F v0 v1 v2 v3 v4 v5 v6 L _ _ ((HZ.out.grow QL.out).grow (cg (aY _ _)))).mono ?_;rintro e w4 ⟨z,rfl,PA,YW⟩;obtain⟨A7,c7,rfl⟩:=PA.shape;have YW:=be (cg (aY W3 none)) YW;have n1:=(QI.out.grow YW).cell 1;have n3:=(Zb.out.grow YW).cell 1;simp only[List.getElem?_cons_zero,List.getElem?_cons_succ]at n1 n3;have o0:=HC.out w4 YW 0 (by decide);have o1:=HC.out w4 YW 1 (by decide);have o2:=HC.out w4 YW 2 (by decide);have o3:=HC.out w4 YW 3 (by decide);have o4:=HC.out w4 YW 4 (by decide);have o5:=HC.out w4 YW 5 (by decide);have o6:=HC.out w4 YW 6 (by decide);have o7:=HC.out w4 YW 7 (by decide);have z0:=(Vb.out.grow YW).free (j*8);have z1:=(Vb.out.grow YW).free (j*8+1);have z2:=(Vb.out.grow YW).free (j*8+2);have z3:=(Vb.out.grow YW).free (j*8+3);have z4:=(Vb.out.grow YW).free (j*8+4);have z5:=(Vb.out.grow YW).free (j*8+5);have z6:=(Vb.out.grow YW).free (j*8+6);have z7:=(Vb.out.grow YW).free (j*8+7);simp only[List.getD_cons_zero,List.getD_cons_succ,Nat.add_zero]at o0 o1 o2 o3 o4 o5 o6 o7;have Ob:=Lib.hid YW;have HMZ:=Lib.hid PA;clear PA YW)
  all_goals
   have YW:=Ob.out;obtain⟨zp,TL,Ya,XK⟩:=HMZ.out.done
   replace XK:∀b,b∈zp->W3.heap.size<=b:=λb hb=>by
    have h1:W3.heap.size+2<=b:=XK b hb;omega
   obtain⟨ZN,X1,e2,e3,NZ,N0,oa⟩:=Of.out;have Wg:=Vb.out.grow YW;rw[List.append_assoc]at Wg;have R4:=Wg.setmid (j:=0) (by simp) (.int .i64 v0);have Zd:=R4.setmid (j:=1) (by simp) (.int .i64 v1);have Y2:=Zd.setmid (j:=2) (by simp) (.int .i64 v2);have R5:=Y2.setmid (j:=3) (by simp) (.int .i64 v3);have R6:=R5.setmid (j:=4) (by simp) (.int .i64 v4);have R7:=R6.setmid (j:=5) (by simp) (.int .i64 v5);have R8:=R7.setmid (j:=6) (by simp) (.int .u16 v6);have TR:=R8.setmid (j:=7) (by simp) (.slice A7 L.length c7);simp only[HL.out,Nat.add_zero,List.cons_append,List.nil_append,List.set_cons_zero,List.set_cons_succ]at TR
   have hset:∀x,x≠ql->((((((((w4.setCell ⟨ql,j*8,none⟩ (.int .i64 v0)).setCell ⟨ql,j*8+1,none⟩ (.int .i64 v1)).setCell ⟨ql,j*8+2,none⟩ (.int .i64 v2)).setCell ⟨ql,j*8+3,none⟩ (.int .i64 v3)).setCell ⟨ql,j*8+4,none⟩ (.int .i64 v4)).setCell ⟨ql,j*8+5,none⟩ (.int .i64 v5)).setCell ⟨ql,j*8+6,none⟩ (.int .u16 v6)).setCell ⟨ql,j*8+7,none⟩ (.slice A7 L.length c7)).heap[x]?=w4.heap[x]?:=λx hx=>by simp only[bQ _ _ _ hx]
   have YX:W3.grownBy ((((((((w4.setCell ⟨ql,j*8,none⟩ (.int .i64 v0)).setCell ⟨ql,j*8+1,none⟩ (.int .i64 v1)).setCell ⟨ql,j*8+2,none⟩ (.int .i64 v2)).setCell ⟨ql,j*8+3,none⟩ (.int .i64 v3)).setCell ⟨ql,j*8+4,none⟩ (.int .i64 v4)).setCell ⟨ql,j*8+5,none⟩ (.int .i64 v5)).setCell ⟨ql,j*8+6,none⟩ (.int .u16 v6)).setCell ⟨ql,j*8+7,none⟩ (.slice A7 L.length c7)) (some ql):=(grown_set (p:=⟨ql,j*8+7,none⟩) (grown_set (p:=⟨ql,j*8+6,none⟩) (grown_set (p:=⟨ql,j*8+5,none⟩) (grown_set (p:=⟨ql,j*8+4,none⟩) (grown_set (p:=⟨ql,j*8+3,none⟩) (grown_set (p:=⟨ql,j*8+2,none⟩) (grown_set (p:=⟨ql,j*8+1,none⟩) (grown_set (p:=⟨ql,j*8,none⟩) (lS (row:=some ql) YW) (.inl rfl) _) (.inl rfl) _) (.inl rfl) _) (.inl rfl) _) (.inl rfl) _) (.inl rfl) _) (.inl rfl) _) (.inl rfl) _);have hw3:=Ob.out.size;have UM:=Ye.out.size;have Pk:=Vo.out.size;have Pd:∀x,x∈fp->x≠ql:=λx hx e=>(List.nodup_append.1 ZN).2.2 x hx ql (by rw[e2];simp) e
   have Qt:(ql::(g1++g2++g3)).Nodup:=by
    have:=(List.nodup_append.1 ZN).2.1;rw[e2,e3]at this;exact this
   have Qs:∀x,x∈g1++g2++g3->x≠ql/\x<W3.heap.size:=λx hx=>⟨λe=>(List.nodup_cons.1 Qt).1 (e▸hx),by
    have h1:x∈gp:=by rw[e2,e3];exact List.mem_cons_of_mem _ hx
    have h2:=HOB.out.live x h1
    omega⟩
   have Yl:∀x,x<w2.heap.size->x≠ql->((((((((w4.setCell ⟨ql,j*8,none⟩ (.int .i64 v0)).setCell ⟨ql,j*8+1,none⟩ (.int .i64 v1)).setCell ⟨ql,j*8+2,none⟩ (.int .i64 v2)).setCell ⟨ql,j*8+3,none⟩ (.int .i64 v3)).setCell ⟨ql,j*8+4,none⟩ (.int .i64 v4)).setCell ⟨ql,j*8+5,none⟩ (.int .i64 v5)).setCell ⟨ql,j*8+6,none⟩ (.int .u16 v6)).setCell ⟨ql,j*8+7,none⟩ (.slice A7 L.length c7)).heap[x]?=w2.heap[x]?:=λx h1 h2=>by
    rw[hset x h2,Ob.out.block x (by omega) (by simp),Vo.out.block x h1 (by simp)]
   have S9:=Lib.hid (show KA C (T.set j (v0,v1,v2,v3,v4,v5,v6,L)) w q7 (.slice A5 C.length c5) (.slice (some ⟨ql,0,none⟩) T.length cl) ((((((((w4.setCell ⟨ql,j*8,none⟩ (.int .i64 v0)).setCell ⟨ql,j*8+1,none⟩ (.int .i64 v1)).setCell ⟨ql,j*8+2,none⟩ (.int .i64 v2)).setCell ⟨ql,j*8+3,none⟩ (.int .i64 v3)).setCell ⟨ql,j*8+4,none⟩ (.int .i64 v4)).setCell ⟨ql,j*8+5,none⟩ (.int .i64 v5)).setCell ⟨ql,j*8+6,none⟩ (.int .u16 v6)).setCell ⟨ql,j*8+7,none⟩ (.slice A7 L.length c7))from by
    have hs0':=HS.out;have US:∀x,x∈gp->w1.heap.size+2<=x:=λx hx=>X1 x (List.mem_append_right _ hx)
    have hin:∀x,x∈g1++g2++g3->x∈gp:=λx hx=>by rw[e2,e3];exact List.mem_cons_of_mem _ hx
    refine⟨fw QL.out YX λk e=>by injection e with e;omega,((Wf.out.grow Ye.out).grow YW).keep (hset _ (by omega)),(QI.out.grow YW).keep (hset _ (by omega)),?_,?_⟩
    ·exact((oa.keep λx hx=>Yl x (by have:=oa.live x hx;omega) (Pd x hx)).reads).sub λx hx=>by have:=X1 x (List.mem_append_left _ hx);omega
    ·have hown:OSl rVw 54 (((((((((w4.setCell ⟨ql,j*8,none⟩ (.int .i64 v0)).setCell ⟨ql,j*8+1,none⟩ (.int .i64 v1)).setCell ⟨ql,j*8+2,none⟩ (.int .i64 v2)).setCell ⟨ql,j*8+3,none⟩ (.int .i64 v3)).setCell ⟨ql,j*8+4,none⟩ (.int .i64 v4)).setCell ⟨ql,j*8+5,none⟩ (.int .i64 v5)).setCell ⟨ql,j*8+6,none⟩ (.int .u16 v6)).setCell ⟨ql,j*8+7,none⟩ (.slice A7 L.length c7))) (ql::(g1++zp++g3)) (T.set j (v0,v1,v2,v3,v4,v5,v6,L)) (.slice (some ⟨ql,0,none⟩) T.length cl):=by
      refine⟨by rw[List.length_set];exact T9,.inr ⟨ql,cl,d1++vwC (v0,v1,v2,v3,v4,v5,v6,L) (.slice A7 L.length c7)++d3,g1++zp++g3,by rw[List.length_set],rfl,by rw[List.length_set];exact l1,l2,by simpa[vwC]using TR,jb.join hj (NZ.keep λx hx=>Yl x (by have:=NZ.live x hx;omega) (Qs x (by simp[hx])).1) (Ip (TL.keep λx hx=>hset x (by have:=XK x hx;omega))) (N0.keep λx hx=>Yl x (by have:=N0.live x hx;omega) (Qs x (by simp[hx])).1)⟩⟩
     exact hown.reads.sub λx hx=>by
      rcases List.mem_cons.1 hx with rfl|hx
      ·omega
      ·rcases List.mem_append.1 hx with hx|hx
       ·rcases List.mem_append.1 hx with hx|hx
        ·have:=US x (hin x (by simp[hx]));omega
        ·have:=XK x hx;omega
       ·have:=US x (hin x (by simp[hx]));omega)
   clear R4 Zd Y2 R5 R6 R7 R8 TR hset YX TL Ya XK Wg
   go_wp2_with fail
   go_meet
   exact S9.out
 case rest=>
  have HD:=Lib.hid hcut;have j0:=hcut.st.cell 0;have j1:=hcut.st.cell 1;have r0:=hcut.res.cell 0;have r1:=hcut.res.cell 1;have f0:=hcut.res.free 0;have f1:=hcut.res.free 1;have r2:=hcut.res.hi;simp only[List.getElem?_cons_zero,List.getElem?_cons_succ]at j0 j1 r0 r1;clear hcut m1
  go_wp2_with fail
  refine bodyPost_ret (v:=.tuple #[.agg #[.slice A5 C.length c5,.slice (some ⟨ql,0,none⟩) T.length cl],.int .i64 0]) (by simp[results,Try.results36,go_sem,r0,r1,r2]) rfl ?_;exact HD.out.ret
def BK(v:Value)(w:World)(e:Ending)(w':World):Prop:=e=.returned v/\w.grownBy w' none
theorem LR(A:Option Addr)(n c:Nat)(i:Int)(w:World)(h:32<i):Calls Try.prog 62 #[.slice A n c,.int .i64 i] w (BK (.slice none 0 0) w):=by
 have h0:¬i<0:=by omega
 go_enter Try.func62,Try.ntmps62
 go_wp2_with fail
 go_ret
 exact⟨rfl,aY _ _⟩
theorem wO{b o o' n n' c c':Nat}(h1:o=o')(h2:n=n')(h3:c=c'):Ending.returned (.slice (some ⟨b,o,none⟩) n c)=.returned (.slice (some ⟨b,o',none⟩) n' c'):=by rw[h1,h2,h3]
theorem zb(b o n c:Nat)(j:Nat)(w:World)(h:j<=32)(hn:8*j<n)(hc:n<=c)(hm:n<=1099511627776):Calls Try.prog 62 #[.slice (some ⟨b,o,none⟩) n c,.int .i64 j] w (BK (.slice (some ⟨b,o+8*j*4,none⟩) (min 8 (n-8*j)) (c-8*j)) w):=by
 have h0:¬(j:Int)<0:=by omega
 have h1:¬(32:Int)<(j:Int):=by omega
 have h2:¬(n:Int)<=(j:Int)*8:=by omega
 have h3:(j:Int)*8<(n:Int):=by omega
 go_enter Try.func62,Try.ntmps62
 go_wp2_with fail
 all_goals
  go_ret
  refine⟨?_,aY _ _⟩;exact wO (by omega) (by omega) (by omega)
theorem ES(b o n c:Nat)(j:Nat)(w:World)(h:j<=32)(hn:8*j<n)(hc:n<=c)(hm:n<=1099511627776):Calls Try.prog 62 #[.slice (some ⟨b,o,none⟩) n c,.int .i64 j] w λe w'=>e=.returned (.slice (some ⟨b,o+8*j*4,none⟩) (min 8 (n-8*j)) (c-8*j))/\w'=w:=by
 have h0:¬(j:Int)<0:=by omega
 have h1:¬(32:Int)<(j:Int):=by omega
 have h2:¬(n:Int)<=(j:Int)*8:=by omega
 have h3:(j:Int)*8<(n:Int):=by omega
 go_enter Try.func62,Try.ntmps62
 go_wp2_with fail
 all_goals
  go_ret
  refine⟨?_,rfl⟩;exact wO (by omega) (by omega) (by omega)
set_option maxRecDepth 100000 in
set_option maxHeartbeats 4000000 in
theorem Eg(F:Nat->Prop)(C:List (List Cn4))(T:List Vw8)(k j:Nat)(cells:List Cn4)(v0 v1 v2 v3 v4 v5 v6:Int)(L:List Cn4)(U V Y Z:Value)(w:World)(fe:Int)
 (hu:RSl rCs w F C U)(hv:RSl rVw w F T V)(hy:RSl rCn w F cells Y)(hz:RSl rCn w F L Z)
 (ZR:∀w',w.grownBy w' none->Calls Try.prog 53 #[.agg #[U,V],.agg #[.int .i64 k,.int .i64 j]] w' λe w2=>e=.returned (.int .i64 fe)/\w'.grownBy w2 none)
 (eb:Bool)(Zz:∀w',w.grownBy w' none->Calls Try.prog 63 #[.agg #[.int .i64 v0,.int .i64 v1,.int .i64 v2,.int .i64 v3,.int .i64 v4,.int .i64 v5,.int .u16 v6,Z]] w' λe w2=>e=.returned (.bool eb)/\w'.grownBy w2 none)(h0:fe=0)(hk:k<C.length)(hj:j<=32)(XD:8*j<C[k].length)(hc:cells.length≠min 8 (C[k].length-8*j)):
 Calls Try.prog 36 #[.agg #[U,V],.agg #[.int .i64 k,.int .i64 j,Y,.int .i64 v0,.int .i64 v1,.int .i64 v2,.int .i64 v3,.int .i64 v4,.int .i64 v5,.int .u16 v6,Z]] w (λe w'=>e=.returned (.tuple #[.agg #[.slice none 0 0,.slice none 0 0],.int .i64 5])/\w.grownBy w' none):=by
 subst h0;have Hc:=Lib.hid hc;clear hc;have HU:=Lib.hid hu;have HV:=Lib.hid hv;have HY:=Lib.hid hy;have HZ:=Lib.hid hz;obtain⟨A1,c1,rfl,_,_,TZ⟩:=hu.size_eq;obtain⟨A2,c2,rfl,_,_,T9⟩:=hv.size_eq;obtain⟨A3,c3,rfl,_,_,hcl⟩:=hy.size_eq;obtain⟨A4,c4,rfl,_,_,T7⟩:=hz.size_eq;have HF:=Lib.hid ZR;clear hu hv hy hz ZR
 go_enter Try.func36,Try.ntmps36
 go_upto_region 1 with fail
 have Zj:w.grownBy (((w.alloc (.cells #[.slice A1 C.length c1,.slice A2 T.length c2] 25)).alloc (.cells #[.int .i64 k,.int .i64 j,.slice A3 cells.length c3,.int .i64 v0,.int .i64 v1,.int .i64 v2,.int .i64 v3,.int .i64 v4,.int .i64 v5,.int .u16 v6,.slice A4 L.length c4] 58)).alloc (.cells #[.slice none 0 0,.slice none 0 0] 25)) none:=aW (aW (aW (aY w none) _) _) _;have Z':Bk (((w.alloc (.cells #[.slice A1 C.length c1,.slice A2 T.length c2] 25)).alloc (.cells #[.int .i64 k,.int .i64 j,.slice A3 cells.length c3,.int .i64 v0,.int .i64 v1,.int .i64 v2,.int .i64 v3,.int .i64 v4,.int .i64 v5,.int .u16 v6,.slice A4 L.length c4] 58)).alloc (.cells #[.slice none 0 0,.slice none 0 0] 25)) w.heap.size 25 [.slice A1 C.length c1,.slice A2 T.length c2]:=(Bk.new.grow (aW (aY _ _) _)).grow (aW (aY _ _) _)
 have Z9:Bk (((w.alloc (.cells #[.slice A1 C.length c1,.slice A2 T.length c2] 25)).alloc (.cells #[.int .i64 k,.int .i64 j,.slice A3 cells.length c3,.int .i64 v0,.int .i64 v1,.int .i64 v2,.int .i64 v3,.int .i64 v4,.int .i64 v5,.int .u16 v6,.slice A4 L.length c4] 58)).alloc (.cells #[.slice none 0 0,.slice none 0 0] 25)) (w.heap.size+1) 58 [.int .i64 k,.int .i64 j,.slice A3 cells.length c3,.int .i64 v0,.int .i64 v1,.int .i64 v2,.int .i64 v3,.int .i64 v4,.int .i64 v5,.int .u16 v6,.slice A4 L.length c4]:=by
  have h:=(Bk.new (w:=w.alloc (.cells #[.slice A1 C.length c1,.slice A2 T.length c2] 25)) (t:=58) (vs:=[.int .i64 k,.int .i64 j,.slice A3 cells.length c3,.int .i64 v0,.int .i64 v1,.int .i64 v2,.int .i64 v3,.int .i64 v4,.int .i64 v5,.int .u16 v6,.slice A4 L.length c4])).grow (aW (aY _ _) (.cells #[.slice none 0 0,.slice none 0 0] 25));simpa using h
 have ZO:Bk (((w.alloc (.cells #[.slice A1 C.length c1,.slice A2 T.length c2] 25)).alloc (.cells #[.int .i64 k,.int .i64 j,.slice A3 cells.length c3,.int .i64 v0,.int .i64 v1,.int .i64 v2,.int .i64 v3,.int .i64 v4,.int .i64 v5,.int .u16 v6,.slice A4 L.length c4] 58)).alloc (.cells #[.slice none 0 0,.slice none 0 0] 25)) (w.heap.size+2) 25 [.slice none 0 0,.slice none 0 0]:=by
  have h:=Bk.new (w:=(w.alloc (.cells #[.slice A1 C.length c1,.slice A2 T.length c2] 25)).alloc (.cells #[.int .i64 k,.int .i64 j,.slice A3 cells.length c3,.int .i64 v0,.int .i64 v1,.int .i64 v2,.int .i64 v3,.int .i64 v4,.int .i64 v5,.int .u16 v6,.slice A4 L.length c4] 58)) (t:=25) (vs:=[.slice none 0 0,.slice none 0 0]);simpa using h
 have hsz:(((w.alloc (.cells #[.slice A1 C.length c1,.slice A2 T.length c2] 25)).alloc (.cells #[.int .i64 k,.int .i64 j,.slice A3 cells.length c3,.int .i64 v0,.int .i64 v1,.int .i64 v2,.int .i64 v3,.int .i64 v4,.int .i64 v5,.int .u16 v6,.slice A4 L.length c4] 58)).alloc (.cells #[.slice none 0 0,.slice none 0 0] 25)).heap.size=w.heap.size+3:=by simp
 generalize((w.alloc (.cells #[.slice A1 C.length c1,.slice A2 T.length c2] 25)).alloc (.cells #[.int .i64 k,.int .i64 j,.slice A3 cells.length c3,.int .i64 v0,.int .i64 v1,.int .i64 v2,.int .i64 v3,.int .i64 v4,.int .i64 v5,.int .u16 v6,.slice A4 L.length c4] 58)).alloc (.cells #[.slice none 0 0,.slice none 0 0] 25)=W at *;have a20:=Z'.cell 0;have a21:=Z'.cell 1;have Xj:=Z9.cell 0;have Xk:=Z9.cell 1;simp only[List.getElem?_cons_zero,List.getElem?_cons_succ]at a20 a21 Xj Xk
 go_wp2_with fail
 refine(HF.out W Zj).mono ?_;rintro e w1 ⟨rfl,Z0⟩;have Xz:=Lib.hid (be Zj Z0);have Zd:=Z0.size;have Z':=Z'.grow Z0;have Z9:=Z9.grow Z0;have ZO:=ZO.grow Z0;have W':=Z'.cell 0;have X7:=Z'.cell 1;have Yg:=Z9.cell 0;have Xx:=Z9.cell 1;have Yo:=Z9.cell 2;have WK:=Z9.cell 3;have WL:=Z9.cell 4;have WM:=Z9.cell 5;have WN:=Z9.cell 6;have WO:=Z9.cell 7;have WP:=Z9.cell 8;have WQ:=Z9.cell 9;have YK:=Z9.cell 10;have Y5:=ZO.cell 0;have Y6:=ZO.cell 1;have WS:=ZO.free 0;have f41:=ZO.free 1;have q4:=ZO.hi;simp only[List.getElem?_cons_zero,List.getElem?_cons_succ]at W' X7 Yg Xx Yo WK WL WM WN WO WP WQ YK Y5 Y6;have Xb:=Lib.hid Z';have Zb:=Lib.hid Z9;have Wf:=Lib.hid ZO;have HS:=Lib.hid hsz;clear Z' Z9 ZO Zj Z0 HF a20 a21 Xj Xk
 have Rx:((k:Int)==-1)=false:=by simp
 have VM:¬(k:Int)=-1:=by omega
 have HE:=Lib.hid (λW hg=>Zz W hg);clear Zz;obtain⟨bR,oR,cR,ds,Q2,Nf,SO,_,Q0,T8⟩:=(HU.out.grow Xz.out).at_ hk
 injection Q2 with Vx Q3 Vy
 subst Vx;subst Vy;obtain⟨hdr,rfl,ZP⟩:=Q0;have WC:=T8 0 _ rfl;rw[show oR+(k*rCs.size+0)=oR+k by rw[show rCs.size=1 from rfl,Nat.mul_one,Nat.add_zero]]at WC;obtain⟨AK,cK,rfl,Vt,T6,Vu⟩:=ZP.size_eq;have QX:=ZP;obtain⟨bK,oK,E',xs,QY,_,_,_,_,_⟩:=ZP.at_ (k:=8*j) XD
 injection QY with Vv QZ Vw
 subst Vv;subst Vw;obtain⟨N,hN⟩:∃N,N=C[k].length:=⟨_,rfl⟩;rw[<- hN]at XD Vt Vu WC;have Xc:=Lib.hid hN;clear hN QX ZP T8
 have y1:(0:Int)<=(k:Int):=by omega
 have y2:(k:Int)<(C.length:Int):=by omega
 have y3:(k:Int).toNat=k:=by omega
 obtain⟨n,hn⟩:∃n,n=min 8 (N-8*j):=⟨_,rfl⟩;have Hn:=Lib.hid hn;have HJ:=Lib.hid (And.intro hj (And.intro XD (And.intro Vt Vu)));clear hn hj XD Vt T6 Vu hcl VM
 go_upto_region 10 with fail
 have Nj:((cells.length:Int) != (n:Int))=true:=by
  have h1:=Hc.out;rw[<- Xc.out,<- Hn.out]at h1;simp;omega
 clear Y5 Y6 WS f41 q4;have Uw:=Lib.hid WC;clear WC
 refine gK (λw'=>w1.grownBy w' none) (λ_ _=>True)
  [bD (.pointer (some ⟨w.heap.size+1,2,none⟩)),bD (.slice A3 cells.length c3),bD (.int .i64 cells.length),bD (.pointer (some ⟨w.heap.size,0,none⟩)),bD (.slice (some ⟨bR,oR,none⟩) C.length c1),bD (.pointer (some ⟨w.heap.size+1,0,none⟩)),bD (.pointer (some ⟨w.heap.size+1,0,none⟩)),bD (.int .i64 k),bD (.pointer (some ⟨bR,oR+k,none⟩)),bD (.slice (some ⟨bK,oK,none⟩) N cK),bD (.pointer (some ⟨w.heap.size+1,0,none⟩)),bD (.pointer (some ⟨w.heap.size+1,1,none⟩)),bD (.int .i64 j),bD (.slice (some ⟨bK,oK+8*j*4,none⟩) n (cK-8*j)),bD (.int .i64 n),bD (.bool true),bD (.bool true),bD (undef),bD (undef),bD (undef),bD (undef),bD (.bool true)]
  78 (by kernel_rfl) rfl (by kernel_rfl) (cg (aY _ _)) (λ_=>trivial) ?_ ?_ ?_
 ·exact⟨bD.kept,bD.kept,bD.kept,bD.kept,bD.kept,bD.kept,bD.kept,bD.kept,bD.kept,bD.kept,bD.kept,bD.kept,bD.kept,bD.kept,bD.kept,bD.kept,bD.kept,bD.kept,bD.kept,bD.kept,bD.kept,bD.kept,trivial⟩
 ·refine aU ?_ (aU ?_ (aU ?_ (aU ?_ (aU ?_ (aU ?_ (aU ?_ (aU ?_ (aU ?_ (aU ?_ (aU ?_ (aU ?_ (aU ?_ (aU ?_ (aU ?_ (aU ?_ (aU ?_ (aU ?_ (aU ?_ (aU ?_ (aU ?_ (aU ?_ mz)))))))))))))))))))))
  ·refine ba rfl λf ZM hb H=>?_;have e3:f 3=_:=H 3 (by decide);clear H;have Z7:=Lib.hid hb;clear hb
   go_simp
   exact⟨Z7.out,trivial,rfl⟩
  ·refine ba rfl λf ZM hb H=>?_;have MI:f 38=_:=H 38 (by decide);clear H;have Z7:=Lib.hid hb;have QT:=(Zb.out.grow hb).cell 2;simp only[List.getElem?_cons_zero,List.getElem?_cons_succ]at QT;clear hb
   go_simp
   exact⟨Z7.out,trivial,rfl⟩
  ·refine ba rfl λf ZM hb H=>?_;have MJ:f 39=_:=H 39 (by decide);clear H;have Z7:=Lib.hid hb;clear hb
   go_simp
   exact⟨Z7.out,trivial,rfl⟩
  ·refine ba rfl λf ZM hb H=>?_;have e2:f 2=_:=H 2 (by decide);clear H;have Z7:=Lib.hid hb;clear hb
   go_simp
   exact⟨Z7.out,trivial,rfl⟩
  ·refine ba rfl λf ZM hb H=>?_;have ML:f 41=_:=H 41 (by decide);clear H;have Z7:=Lib.hid hb;have QQ:=(Xb.out.grow hb).cell 0;simp only[List.getElem?_cons_zero]at QQ;clear hb
   go_simp
   exact⟨Z7.out,trivial,rfl⟩
  ·refine ba rfl λf ZM hb H=>?_;have e3:f 3=_:=H 3 (by decide);clear H;have Z7:=Lib.hid hb;clear hb
   go_simp
   exact⟨Z7.out,trivial,rfl⟩
  ·refine ba rfl λf ZM hb H=>?_;have MN:f 43=_:=H 43 (by decide);clear H;have Z7:=Lib.hid hb;clear hb
   go_simp
   exact⟨Z7.out,trivial,rfl⟩
  ·refine ba rfl λf ZM hb H=>?_;have MO:f 44=_:=H 44 (by decide);clear H;have Z7:=Lib.hid hb;have QR:=(Zb.out.grow hb).cell 0;simp only[List.getElem?_cons_zero,List.getElem?_cons_succ]at QR;clear hb
   go_simp
   exact⟨Z7.out,trivial,rfl⟩
  ·refine ba rfl λf ZM hb H=>?_;have MM:f 42=_:=H 42 (by decide);have MP:f 45=_:=H 45 (by decide);clear H;have Z7:=Lib.hid hb;clear hb
   go_simp
   exact⟨Z7.out,trivial,rfl⟩
  ·refine ba rfl λf ZM hb H=>?_;have MQ:f 46=_:=H 46 (by decide);clear H;have Z7:=Lib.hid hb
   have ch:ZM.cell? ⟨bR,oR+k,none⟩=some (.slice (some ⟨bK,oK,none⟩) N cK):=by rw[World.cell?_of_block (hb.block bR (World.block_lt_of_cell? _ _ Uw.out) (by simp))];exact Uw.out
   clear hb
   go_simp
   exact⟨Z7.out,trivial,rfl⟩
  ·refine ba rfl λf ZM hb H=>?_;have e3:f 3=_:=H 3 (by decide);clear H;have Z7:=Lib.hid hb;clear hb
   go_simp
   exact⟨Z7.out,trivial,rfl⟩
  ·refine ba rfl λf ZM hb H=>?_;have MS:f 48=_:=H 48 (by decide);clear H;have Z7:=Lib.hid hb;clear hb
   go_simp
   exact⟨Z7.out,trivial,rfl⟩
  ·refine ba rfl λf ZM hb H=>?_;have MT:f 49=_:=H 49 (by decide);clear H;have Z7:=Lib.hid hb;have QS:=(Zb.out.grow hb).cell 1;simp only[List.getElem?_cons_zero,List.getElem?_cons_succ]at QS;clear hb
   go_simp
   exact⟨Z7.out,trivial,rfl⟩
  ·refine ba rfl λf ZM hb H=>?_;have MR:f 47=_:=H 47 (by decide);have MU:f 50=_:=H 50 (by decide);clear H;have Z7:=Lib.hid hb;clear hb
   go_simp
   refine(zb bK oK N cK j _ HJ.out.1 HJ.out.2.1 HJ.out.2.2.1 HJ.out.2.2.2).mono ?_;rw[<- Hn.out];rintro e w5 ⟨rfl,Xp⟩;exact⟨_,rfl,be Z7.out Xp,trivial,rfl⟩
  ·refine ba rfl λf ZM hb H=>?_;have MV:f 51=_:=H 51 (by decide);clear H;have Z7:=Lib.hid hb;clear hb
   go_simp
   exact⟨Z7.out,trivial,rfl⟩
  ·refine ba rfl λf ZM hb H=>?_;have MK:f 40=_:=H 40 (by decide);have MW:f 52=_:=H 52 (by decide);clear H;have Z7:=Lib.hid hb;clear hb
   go_simp
   exact⟨Z7.out,trivial,rfl⟩
  ·refine ba rfl λf ZM hb H=>?_;have MX:f 53=_:=H 53 (by decide);clear H;have Z7:=Lib.hid hb;clear hb
   go_simp
   exact⟨Z7.out,trivial,rfl⟩
  ·exact oB _ _ _ rfl rfl λf ZM hb H=>⟨H 54 (by decide),rfl⟩
  ·exact oB _ _ _ rfl rfl λf ZM hb H=>⟨H 54 (by decide),rfl⟩
  ·exact oB _ _ _ rfl rfl λf ZM hb H=>⟨H 54 (by decide),rfl⟩
  ·exact oB _ _ _ rfl rfl λf ZM hb H=>⟨H 54 (by decide),rfl⟩
  ·refine ba rfl λf ZM hb H=>?_;have MY:f 54=_:=H 54 (by decide);have MZ:f 58=_:=H 58 (by decide);clear H;have Z7:=Lib.hid hb;clear hb
   go_simp
   exact⟨Z7.out,trivial,rfl⟩
 ·intro f w9 hb hE;simp only[fO,Act.put,yL,List.setIfInBounds_toArray,List.set_cons_succ,List.set_cons_zero];have QV:f 59=.bool true:=hE.2.2.2.2.2.2.2.2.2.2.2.2.2.2.2.2.2.2.2.2.2.1;clear hE;have ZF:=hb;clear hb;rw[QV];have ZO:=Wf.out.grow ZF;have Y5:=ZO.cell 0;have Y6:=ZO.cell 1;have WS:=ZO.free 0;have f41:=ZO.free 1;have q4:=ZO.hi;simp only[List.getElem?_cons_zero,List.getElem?_cons_succ]at Y5 Y6
  go_wp2_with fail
  refine bodyPost_ret (v:=.tuple #[.agg #[.slice none 0 0,.slice none 0 0],.int .i64 5]) (by simp[results,Try.results36,go_sem,Y5,Y6,q4]) rfl ?_;exact⟨rfl,grown_set (grown_set (be Xz.out ZF) (.inr (by dsimp only;omega)) _) (.inr (by dsimp only;omega)) _⟩
set_option maxRecDepth 100000 in
set_option maxHeartbeats 4000000 in
theorem Ef(F:Nat->Prop)(C:List (List Cn4))(T:List Vw8)(k j:Nat)(cells:List Cn4)(v0 v1 v2 v3 v4 v5 v6:Int)(L:List Cn4)(U V Y Z:Value)(w:World)(fe:Int)
 (hu:RSl rCs w F C U)(hv:RSl rVw w F T V)(hy:RSl rCn w F cells Y)(hz:RSl rCn w F L Z)
 (ZR:∀w',w.grownBy w' none->Calls Try.prog 53 #[.agg #[U,V],.agg #[.int .i64 k,.int .i64 j]] w' λe w2=>e=.returned (.int .i64 fe)/\w'.grownBy w2 none)
 (eb:Bool)(Zz:∀w',w.grownBy w' none->Calls Try.prog 63 #[.agg #[.int .i64 v0,.int .i64 v1,.int .i64 v2,.int .i64 v3,.int .i64 v4,.int .i64 v5,.int .u16 v6,Z]] w' λe w2=>e=.returned (.bool eb)/\w'.grownBy w2 none)(h0:fe=0)(hk:k<C.length)(hj:j<=32)(XD:8*j<C[k].length)(hc:cells.length=min 8 (C[k].length-8*j))(he:eb=false):
 Calls Try.prog 36 #[.agg #[U,V],.agg #[.int .i64 k,.int .i64 j,Y,.int .i64 v0,.int .i64 v1,.int .i64 v2,.int .i64 v3,.int .i64 v4,.int .i64 v5,.int .u16 v6,Z]] w (λe w'=>e=.returned (.tuple #[.agg #[.slice none 0 0,.slice none 0 0],.int .i64 5])/\w.grownBy w' none):=by
 subst h0;subst he;have Hc:=Lib.hid hc;clear hc;have HU:=Lib.hid hu;have HV:=Lib.hid hv;have HY:=Lib.hid hy;have HZ:=Lib.hid hz;obtain⟨A1,c1,rfl,_,_,TZ⟩:=hu.size_eq;obtain⟨A2,c2,rfl,_,_,T9⟩:=hv.size_eq;obtain⟨A3,c3,rfl,_,_,hcl⟩:=hy.size_eq;obtain⟨A4,c4,rfl,_,_,T7⟩:=hz.size_eq;have HF:=Lib.hid ZR;clear hu hv hy hz ZR
 go_enter Try.func36,Try.ntmps36
 go_upto_region 1 with fail
 have Zj:w.grownBy (((w.alloc (.cells #[.slice A1 C.length c1,.slice A2 T.length c2] 25)).alloc (.cells #[.int .i64 k,.int .i64 j,.slice A3 cells.length c3,.int .i64 v0,.int .i64 v1,.int .i64 v2,.int .i64 v3,.int .i64 v4,.int .i64 v5,.int .u16 v6,.slice A4 L.length c4] 58)).alloc (.cells #[.slice none 0 0,.slice none 0 0] 25)) none:=aW (aW (aW (aY w none) _) _) _;have Z':Bk (((w.alloc (.cells #[.slice A1 C.length c1,.slice A2 T.length c2] 25)).alloc (.cells #[.int .i64 k,.int .i64 j,.slice A3 cells.length c3,.int .i64 v0,.int .i64 v1,.int .i64 v2,.int .i64 v3,.int .i64 v4,.int .i64 v5,.int .u16 v6,.slice A4 L.length c4] 58)).alloc (.cells #[.slice none 0 0,.slice none 0 0] 25)) w.heap.size 25 [.slice A1 C.length c1,.slice A2 T.length c2]:=(Bk.new.grow (aW (aY _ _) _)).grow (aW (aY _ _) _)
 have Z9:Bk (((w.alloc (.cells #[.slice A1 C.length c1,.slice A2 T.length c2] 25)).alloc (.cells #[.int .i64 k,.int .i64 j,.slice A3 cells.length c3,.int .i64 v0,.int .i64 v1,.int .i64 v2,.int .i64 v3,.int .i64 v4,.int .i64 v5,.int .u16 v6,.slice A4 L.length c4] 58)).alloc (.cells #[.slice none 0 0,.slice none 0 0] 25)) (w.heap.size+1) 58 [.int .i64 k,.int .i64 j,.slice A3 cells.length c3,.int .i64 v0,.int .i64 v1,.int .i64 v2,.int .i64 v3,.int .i64 v4,.int .i64 v5,.int .u16 v6,.slice A4 L.length c4]:=by
  have h:=(Bk.new (w:=w.alloc (.cells #[.slice A1 C.length c1,.slice A2 T.length c2] 25)) (t:=58) (vs:=[.int .i64 k,.int .i64 j,.slice A3 cells.length c3,.int .i64 v0,.int .i64 v1,.int .i64 v2,.int .i64 v3,.int .i64 v4,.int .i64 v5,.int .u16 v6,.slice A4 L.length c4])).grow (aW (aY _ _) (.cells #[.slice none 0 0,.slice none 0 0] 25));simpa using h
 have ZO:Bk (((w.alloc (.cells #[.slice A1 C.length c1,.slice A2 T.length c2] 25)).alloc (.cells #[.int .i64 k,.int .i64 j,.slice A3 cells.length c3,.int .i64 v0,.int .i64 v1,.int .i64 v2,.int .i64 v3,.int .i64 v4,.int .i64 v5,.int .u16 v6,.slice A4 L.length c4] 58)).alloc (.cells #[.slice none 0 0,.slice none 0 0] 25)) (w.heap.size+2) 25 [.slice none 0 0,.slice none 0 0]:=by
  have h:=Bk.new (w:=(w.alloc (.cells #[.slice A1 C.length c1,.slice A2 T.length c2] 25)).alloc (.cells #[.int .i64 k,.int .i64 j,.slice A3 cells.length c3,.int .i64 v0,.int .i64 v1,.int .i64 v2,.int .i64 v3,.int .i64 v4,.int .i64 v5,.int .u16 v6,.slice A4 L.length c4] 58)) (t:=25) (vs:=[.slice none 0 0,.slice none 0 0]);simpa using h
 have hsz:(((w.alloc (.cells #[.slice A1 C.length c1,.slice A2 T.length c2] 25)).alloc (.cells #[.int .i64 k,.int .i64 j,.slice A3 cells.length c3,.int .i64 v0,.int .i64 v1,.int .i64 v2,.int .i64 v3,.int .i64 v4,.int .i64 v5,.int .u16 v6,.slice A4 L.length c4] 58)).alloc (.cells #[.slice none 0 0,.slice none 0 0] 25)).heap.size=w.heap.size+3:=by simp
 generalize((w.alloc (.cells #[.slice A1 C.length c1,.slice A2 T.length c2] 25)).alloc (.cells #[.int .i64 k,.int .i64 j,.slice A3 cells.length c3,.int .i64 v0,.int .i64 v1,.int .i64 v2,.int .i64 v3,.int .i64 v4,.int .i64 v5,.int .u16 v6,.slice A4 L.length c4] 58)).alloc (.cells #[.slice none 0 0,.slice none 0 0] 25)=W at *;have a20:=Z'.cell 0;have a21:=Z'.cell 1;have Xj:=Z9.cell 0;have Xk:=Z9.cell 1;simp only[List.getElem?_cons_zero,List.getElem?_cons_succ]at a20 a21 Xj Xk
 go_wp2_with fail
 refine(HF.out W Zj).mono ?_;rintro e w1 ⟨rfl,Z0⟩;have Xz:=Lib.hid (be Zj Z0);have Zd:=Z0.size;have Z':=Z'.grow Z0;have Z9:=Z9.grow Z0;have ZO:=ZO.grow Z0;have W':=Z'.cell 0;have X7:=Z'.cell 1;have Yg:=Z9.cell 0;have Xx:=Z9.cell 1;have Yo:=Z9.cell 2;have WK:=Z9.cell 3;have WL:=Z9.cell 4;have WM:=Z9.cell 5;have WN:=Z9.cell 6;have WO:=Z9.cell 7;have WP:=Z9.cell 8;have WQ:=Z9.cell 9;have YK:=Z9.cell 10;have Y5:=ZO.cell 0;have Y6:=ZO.cell 1;have WS:=ZO.free 0;have f41:=ZO.free 1;have q4:=ZO.hi;simp only[List.getElem?_cons_zero,List.getElem?_cons_succ]at W' X7 Yg Xx Yo WK WL WM WN WO WP WQ YK Y5 Y6;have Xb:=Lib.hid Z';have Zb:=Lib.hid Z9;have Wf:=Lib.hid ZO;have HS:=Lib.hid hsz;clear Z' Z9 ZO Zj Z0 HF a20 a21 Xj Xk
 have Rx:((k:Int)==-1)=false:=by simp
 have VM:¬(k:Int)=-1:=by omega
 have HE:=Lib.hid (λW hg=>Zz W hg);clear Zz;obtain⟨bR,oR,cR,ds,Q2,Nf,SO,_,Q0,T8⟩:=(HU.out.grow Xz.out).at_ hk
 injection Q2 with Vx Q3 Vy
 subst Vx;subst Vy;obtain⟨hdr,rfl,ZP⟩:=Q0;have WC:=T8 0 _ rfl;rw[show oR+(k*rCs.size+0)=oR+k by rw[show rCs.size=1 from rfl,Nat.mul_one,Nat.add_zero]]at WC;obtain⟨AK,cK,rfl,Vt,T6,Vu⟩:=ZP.size_eq;have QX:=ZP;obtain⟨bK,oK,E',xs,QY,_,_,_,_,_⟩:=ZP.at_ (k:=8*j) XD
 injection QY with Vv QZ Vw
 subst Vv;subst Vw;obtain⟨N,hN⟩:∃N,N=C[k].length:=⟨_,rfl⟩;rw[<- hN]at XD Vt Vu WC;have Xc:=Lib.hid hN;clear hN QX ZP T8
 have y1:(0:Int)<=(k:Int):=by omega
 have y2:(k:Int)<(C.length:Int):=by omega
 have y3:(k:Int).toNat=k:=by omega
 obtain⟨n,hn⟩:∃n,n=min 8 (N-8*j):=⟨_,rfl⟩;have Hn:=Lib.hid hn;have HJ:=Lib.hid (And.intro hj (And.intro XD (And.intro Vt Vu)));clear hn hj XD Vt T6 Vu hcl VM
 go_upto_region 10 with fail
 have Nj:((cells.length:Int) != (n:Int))=false:=by
  have h1:=Hc.out;rw[<- Xc.out,<- Hn.out]at h1;simp;omega
 clear Y5 Y6 WS f41 q4;have Uw:=Lib.hid WC;clear WC
 refine gK (λw'=>w1.grownBy w' none) (λ_ _=>True)
  [bD (.pointer (some ⟨w.heap.size+1,2,none⟩)),bD (.slice A3 cells.length c3),bD (.int .i64 cells.length),bD (.pointer (some ⟨w.heap.size,0,none⟩)),bD (.slice (some ⟨bR,oR,none⟩) C.length c1),bD (.pointer (some ⟨w.heap.size+1,0,none⟩)),bD (.pointer (some ⟨w.heap.size+1,0,none⟩)),bD (.int .i64 k),bD (.pointer (some ⟨bR,oR+k,none⟩)),bD (.slice (some ⟨bK,oK,none⟩) N cK),bD (.pointer (some ⟨w.heap.size+1,0,none⟩)),bD (.pointer (some ⟨w.heap.size+1,1,none⟩)),bD (.int .i64 j),bD (.slice (some ⟨bK,oK+8*j*4,none⟩) n (cK-8*j)),bD (.int .i64 n),bD (.bool false),bD (.bool false),bD (.pointer (some ⟨w.heap.size+1,3,none⟩)),bD (.agg #[.int .i64 v0,.int .i64 v1,.int .i64 v2,.int .i64 v3,.int .i64 v4,.int .i64 v5,.int .u16 v6,.slice A4 L.length c4]),bD (.bool false),bD (.bool true),bD (.bool true)]
  78 (by kernel_rfl) rfl (by kernel_rfl) (cg (aY _ _)) (λ_=>trivial) ?_ ?_ ?_
 ·exact⟨bD.kept,bD.kept,bD.kept,bD.kept,bD.kept,bD.kept,bD.kept,bD.kept,bD.kept,bD.kept,bD.kept,bD.kept,bD.kept,bD.kept,bD.kept,bD.kept,bD.kept,bD.kept,bD.kept,bD.kept,bD.kept,bD.kept,trivial⟩
 ·refine aU ?_ (aU ?_ (aU ?_ (aU ?_ (aU ?_ (aU ?_ (aU ?_ (aU ?_ (aU ?_ (aU ?_ (aU ?_ (aU ?_ (aU ?_ (aU ?_ (aU ?_ (aU ?_ (aU ?_ (aU ?_ (aU ?_ (aU ?_ (aU ?_ (aU ?_ mz)))))))))))))))))))))
  ·refine ba rfl λf ZM hb H=>?_;have e3:f 3=_:=H 3 (by decide);clear H;have Z7:=Lib.hid hb;clear hb
   go_simp
   exact⟨Z7.out,trivial,rfl⟩
  ·refine ba rfl λf ZM hb H=>?_;have MI:f 38=_:=H 38 (by decide);clear H;have Z7:=Lib.hid hb;have QT:=(Zb.out.grow hb).cell 2;simp only[List.getElem?_cons_zero,List.getElem?_cons_succ]at QT;clear hb
   go_simp
   exact⟨Z7.out,trivial,rfl⟩
  ·refine ba rfl λf ZM hb H=>?_;have MJ:f 39=_:=H 39 (by decide);clear H;have Z7:=Lib.hid hb;clear hb
   go_simp
   exact⟨Z7.out,trivial,rfl⟩
  ·refine ba rfl λf ZM hb H=>?_;have e2:f 2=_:=H 2 (by decide);clear H;have Z7:=Lib.hid hb;clear hb
   go_simp
   exact⟨Z7.out,trivial,rfl⟩
  ·refine ba rfl λf ZM hb H=>?_;have ML:f 41=_:=H 41 (by decide);clear H;have Z7:=Lib.hid hb;have QQ:=(Xb.out.grow hb).cell 0;simp only[List.getElem?_cons_zero]at QQ;clear hb
   go_simp
   exact⟨Z7.out,trivial,rfl⟩
  ·refine ba rfl λf ZM hb H=>?_;have e3:f 3=_:=H 3 (by decide);clear H;have Z7:=Lib.hid hb;clear hb
   go_simp
   exact⟨Z7.out,trivial,rfl⟩
  ·refine ba rfl λf ZM hb H=>?_;have MN:f 43=_:=H 43 (by decide);clear H;have Z7:=Lib.hid hb;clear hb
   go_simp
   exact⟨Z7.out,trivial,rfl⟩
  ·refine ba rfl λf ZM hb H=>?_;have MO:f 44=_:=H 44 (by decide);clear H;have Z7:=Lib.hid hb;have QR:=(Zb.out.grow hb).cell 0;simp only[List.getElem?_cons_zero,List.getElem?_cons_succ]at QR;clear hb
   go_simp
   exact⟨Z7.out,trivial,rfl⟩
  ·refine ba rfl λf ZM hb H=>?_;have MM:f 42=_:=H 42 (by decide);have MP:f 45=_:=H 45 (by decide);clear H;have Z7:=Lib.hid hb;clear hb
   go_simp
   exact⟨Z7.out,trivial,rfl⟩
  ·refine ba rfl λf ZM hb H=>?_;have MQ:f 46=_:=H 46 (by decide);clear H;have Z7:=Lib.hid hb
   have ch:ZM.cell? ⟨bR,oR+k,none⟩=some (.slice (some ⟨bK,oK,none⟩) N cK):=by rw[World.cell?_of_block (hb.block bR (World.block_lt_of_cell? _ _ Uw.out) (by simp))];exact Uw.out
   clear hb
   go_simp
   exact⟨Z7.out,trivial,rfl⟩
  ·refine ba rfl λf ZM hb H=>?_;have e3:f 3=_:=H 3 (by decide);clear H;have Z7:=Lib.hid hb;clear hb
   go_simp
   exact⟨Z7.out,trivial,rfl⟩
  ·refine ba rfl λf ZM hb H=>?_;have MS:f 48=_:=H 48 (by decide);clear H;have Z7:=Lib.hid hb;clear hb
   go_simp
   exact⟨Z7.out,trivial,rfl⟩
  ·refine ba rfl λf ZM hb H=>?_;have MT:f 49=_:=H 49 (by decide);clear H;have Z7:=Lib.hid hb;have QS:=(Zb.out.grow hb).cell 1;simp only[List.getElem?_cons_zero,List.getElem?_cons_succ]at QS;clear hb
   go_simp
   exact⟨Z7.out,trivial,rfl⟩
  ·refine ba rfl λf ZM hb H=>?_;have MR:f 47=_:=H 47 (by decide);have MU:f 50=_:=H 50 (by decide);clear H;have Z7:=Lib.hid hb;clear hb
   go_simp
   refine(zb bK oK N cK j _ HJ.out.1 HJ.out.2.1 HJ.out.2.2.1 HJ.out.2.2.2).mono ?_;rw[<- Hn.out];rintro e w5 ⟨rfl,Xp⟩;exact⟨_,rfl,be Z7.out Xp,trivial,rfl⟩
  ·refine ba rfl λf ZM hb H=>?_;have MV:f 51=_:=H 51 (by decide);clear H;have Z7:=Lib.hid hb;clear hb
   go_simp
   exact⟨Z7.out,trivial,rfl⟩
  ·refine ba rfl λf ZM hb H=>?_;have MK:f 40=_:=H 40 (by decide);have MW:f 52=_:=H 52 (by decide);clear H;have Z7:=Lib.hid hb;clear hb
   go_simp
   exact⟨Z7.out,trivial,rfl⟩
  ·refine ba rfl λf ZM hb H=>?_;have MX:f 53=_:=H 53 (by decide);clear H;have Z7:=Lib.hid hb;clear hb
   go_simp
   exact⟨Z7.out,trivial,rfl⟩
  ·refine fP _ _ _ rfl rfl λf ZM hb H=>⟨H 54 (by decide),?_⟩;have e3:f 3=_:=H 3 (by decide);clear H;have Z7:=Lib.hid hb;clear hb
   go_simp
   exact⟨Z7.out,trivial,rfl⟩
  ·refine fP _ _ _ rfl rfl λf ZM hb H=>⟨H 54 (by decide),?_⟩;have e55:f 55=_:=H 55 (by decide);clear H;have Z7:=Lib.hid hb;have Oq:=(Zb.out.grow hb).cell 3;have Os:=(Zb.out.grow hb).cell 4;have Ot:=(Zb.out.grow hb).cell 5;have Ou:=(Zb.out.grow hb).cell 6;have Ov:=(Zb.out.grow hb).cell 7;have Ow:=(Zb.out.grow hb).cell 8;have Ox:=(Zb.out.grow hb).cell 9;have Tc:=(Zb.out.grow hb).cell 10;simp only[List.getElem?_cons_zero,List.getElem?_cons_succ]at Oq Os Ot Ou Ov Ow Ox Tc;clear hb
   go_simp
   exact⟨Z7.out,trivial,rfl⟩
  ·refine fP _ _ _ rfl rfl λf ZM hb H=>⟨H 54 (by decide),?_⟩;have e56:f 56=_:=H 56 (by decide);clear H;have Z7:=Lib.hid hb;clear hb
   go_simp
   refine(HE.out _ (be Xz.out Z7.out)).mono ?_;rintro e w6 ⟨rfl,Pg⟩;exact⟨_,rfl,be Z7.out Pg,trivial,rfl⟩
  ·refine fP _ _ _ rfl rfl λf ZM hb H=>⟨H 54 (by decide),?_⟩;have e57:f 57=_:=H 57 (by decide);clear H;have Z7:=Lib.hid hb;clear hb
   go_simp
   exact⟨Z7.out,trivial,rfl⟩
  ·refine ba rfl λf ZM hb H=>?_;have MY:f 54=_:=H 54 (by decide);have MZ:f 58=_:=H 58 (by decide);clear H;have Z7:=Lib.hid hb;clear hb
   go_simp
   exact⟨Z7.out,trivial,rfl⟩
 ·intro f w9 hb hE;simp only[fO,Act.put,yL,List.setIfInBounds_toArray,List.set_cons_succ,List.set_cons_zero];have QV:f 59=.bool true:=hE.2.2.2.2.2.2.2.2.2.2.2.2.2.2.2.2.2.2.2.2.2.1;clear hE;have ZF:=hb;clear hb;rw[QV];have ZO:=Wf.out.grow ZF;have Y5:=ZO.cell 0;have Y6:=ZO.cell 1;have WS:=ZO.free 0;have f41:=ZO.free 1;have q4:=ZO.hi;simp only[List.getElem?_cons_zero,List.getElem?_cons_succ]at Y5 Y6
  go_wp2_with fail
  refine bodyPost_ret (v:=.tuple #[.agg #[.slice none 0 0,.slice none 0 0],.int .i64 5]) (by simp[results,Try.results36,go_sem,Y5,Y6,q4]) rfl ?_;exact⟨rfl,grown_set (grown_set (be Xz.out ZF) (.inr (by dsimp only;omega)) _) (.inr (by dsimp only;omega)) _⟩
section
variable {P:Program} {ops:Array Oper} {rest:List Oper} {o:Oper} {a:Act} {Q:Exit->Act->World->Prop} {w:World}
theorem o8(k:Nat)(Yj:o.guard=none)(d s:Operand)(t e:TypeId)(ho:o.op=.call { callee:=.builtin .copy,args:=#[d,s],argTypes:=#[t,t] })
 (hu:P.underlying t=some (.slice e))(hsz:(P.info? e).map (·.size)=some k)(g off Xl UA:Nat)(hd:a.eval d=.slice (some ⟨g,off,none⟩) Xl UA)(ad:Addr)(Zv Yu:Nat)(hs:a.eval s=.slice (some ad) Zv Yu)
 (cur:Array Value)(t':TypeId)(cs:List Value)(hg:w.heap[g]?=some (.cells cur t' (0,0)))(hn:cs.length=Nat.min Zv Xl*k)
 (Yn:∀j v,cs[j]?=some v->w.cell? (ad.add j)=some v)(hfit:off+cs.length<=cur.size)(h1:∀v∈cs,v.oneCell'=true)
 (h:wpList P ops Q rest (a.put o.dst (goInt (Nat.min Zv Xl))) (w.setRow g (cur.toList.take off++cs++cur.toList.drop (off+cs.length)).toArray)):wpList P ops Q (o::rest) a w:=by
 refine wpList_plain Yj λK hK=>?_;have hrun:=sW (P:=P) k w t t o.type e g off Xl UA ad Zv Yu cur t' cs hu hsz hg hn Yn hfit h1;unfold Oper.wp;simp[execOp,ho,resolve,invoke,builtin,hs,hd,hrun,Result.andThen];simp only[List.append_assoc]at h;exact hK _ _ h
end
def cnC(c:Cn4):List Value:=[.int .u8 c.1,.int .u16 c.2.1,.int .i64 c.2.2.1,.int .i64 c.2.2.2]
def cnL(xs:List Cn4):List Value:=(xs.map cnC).flatten
theorem wg(xs ys:List Cn4):cnL (xs++ys)=cnL xs++cnL ys:=by simp[cnL]
theorem nE(xs:List Cn4):(cnL xs).length=xs.length*4:=by
 induction xs with
 |nil=>rfl
 |cons x xs ih=>
  have:cnL (x::xs)=cnC x++cnL xs:=rfl;rw[this,List.length_append,ih,oLC];simp[cnC];omega
theorem HW(xs:List Cn4)(n:Nat):(cnL xs).take (n*4)=cnL (xs.take n):=by
 by_cases h:n<=xs.length
 ·have h2:cnL xs=cnL (xs.take n)++cnL (xs.drop n):=by rw[<- wg,List.take_append_drop]
  rw[h2];exact List.take_left' (by rw[nE,oLT,Nat.min_eq_left h])
 ·rw[List.take_of_length_le (by rw[nE];omega),List.take_of_length_le (by omega)]
theorem H3(xs:List Cn4)(n:Nat):(cnL xs).drop (n*4)=cnL (xs.drop n):=by
 by_cases h:n<=xs.length
 ·have h2:cnL xs=cnL (xs.take n)++cnL (xs.drop n):=by rw[<- wg,List.take_append_drop]
  rw[h2];exact List.drop_left' (by rw[nE,oLT,Nat.min_eq_left h])
 ·rw[List.drop_of_length_le (by rw[nE];omega),List.drop_of_length_le (by omega)];rfl
theorem J3(xs:List Cn4):∀v∈cnL xs,v.oneCell'=true:=by
 intro v hv;obtain⟨l,hl,hv⟩:=List.mem_flatten.1 hv;obtain⟨c,_,rfl⟩:=List.mem_map.1 hl;simp only[cnC,List.mem_cons,List.not_mem_nil,or_false]at hv
 rcases hv with rfl|rfl|rfl|rfl<;>rfl
theorem yV{w:World}{F:Nat->Prop}:∀{xs:List Cn4}{cs:List Value},eJ rCn w F xs cs->cs=cnL xs
 | [],_,h=>h
 |x::r,_,⟨c,d,e,h1,h2⟩=>by rw[e,Ly h1,yV h2];rfl
theorem EW{w:World}:∀{xs:List Cn4}{fp:List Nat}{cs:List Value},jb rCn w fp xs cs->fp=[]
 | [],_,_,h=>h.2
 |x::r,_,_,⟨c,d,f,g,_,e',h1,h2⟩=>by
  obtain⟨_,_,f1,f2,_,e1,⟨rfl,_⟩,_,_,f3,f4,_,e2,⟨rfl,_⟩,_,_,f5,f6,_,e3,⟨rfl,_⟩,⟨rfl,_⟩⟩:=h1;rw[e',e1,e2,e3,EW h2];rfl
theorem FO(w:World):∀(xs:List Cn4),jb rCn w [] xs (cnL xs)
 | []=>⟨rfl,rfl⟩
 |x::r=>⟨cnC x,cnL r,[],[],rfl,rfl,zL (Mc (w:=w) (F:=λ_=>True) x) w,FO w r⟩
theorem yQ(w:World)(q:Nat)(cs:Array Value):(w.setRow q cs).heap.size=w.heap.size:=by simp[World.setRow]
def jl(row:List Cn4)(j:Nat)(cells:List Cn4):List Cn4:=row.take (8*j)++cells++row.drop (8*j+cells.length)
theorem Ch{row cells:List Cn4}{j:Nat}(h:8*j+cells.length<=row.length):(jl row j cells).length=row.length:=by
 simp[jl];omega
set_option maxRecDepth 100000 in
set_option maxHeartbeats 4000000 in
theorem Ei(F:Nat->Prop)(C:List (List Cn4))(T:List Vw8)(k j:Nat)(cells:List Cn4)(v0 v1 v2 v3 v4 v5 v6:Int)(L:List Cn4)(U V Y Z:Value)(w:World)(fe:Int)
 (hu:RSl rCs w F C U)(hv:RSl rVw w F T V)(hy:RSl rCn w F cells Y)(hz:RSl rCn w F L Z)
 (ZR:∀w',w.grownBy w' none->Calls Try.prog 53 #[.agg #[U,V],.agg #[.int .i64 k,.int .i64 j]] w' λe w2=>e=.returned (.int .i64 fe)/\w'.grownBy w2 none)
 (eb:Bool)(Zz:∀w',w.grownBy w' none->Calls Try.prog 63 #[.agg #[.int .i64 v0,.int .i64 v1,.int .i64 v2,.int .i64 v3,.int .i64 v4,.int .i64 v5,.int .u16 v6,Z]] w' λe w2=>e=.returned (.bool eb)/\w'.grownBy w2 none)(h0:fe=0)(hk:k<C.length)(hj:j<=32)(XD:8*j<C[k].length)(hc:cells.length=min 8 (C[k].length-8*j))(he:eb=true):
 Calls Try.prog 36 #[.agg #[U,V],.agg #[.int .i64 k,.int .i64 j,Y,.int .i64 v0,.int .i64 v1,.int .i64 v2,.int .i64 v3,.int .i64 v4,.int .i64 v5,.int .u16 v6,Z]] w (BJ (C.set k (jl C[k] j cells)) T w):=by
 subst h0;subst he;have Hc:=Lib.hid hc;clear hc;have HU:=Lib.hid hu;have HV:=Lib.hid hv;have HY:=Lib.hid hy;have HZ:=Lib.hid hz;obtain⟨A1,c1,rfl,_,_,TZ⟩:=hu.size_eq;obtain⟨A2,c2,rfl,_,_,T9⟩:=hv.size_eq;obtain⟨A3,c3,rfl,_,_,hcl⟩:=hy.size_eq;obtain⟨A4,c4,rfl,_,_,T7⟩:=hz.size_eq;have HF:=Lib.hid ZR;clear hu hv hy hz ZR
 go_enter Try.func36,Try.ntmps36
 go_upto_region 1 with fail
 have Zj:w.grownBy (((w.alloc (.cells #[.slice A1 C.length c1,.slice A2 T.length c2] 25)).alloc (.cells #[.int .i64 k,.int .i64 j,.slice A3 cells.length c3,.int .i64 v0,.int .i64 v1,.int .i64 v2,.int .i64 v3,.int .i64 v4,.int .i64 v5,.int .u16 v6,.slice A4 L.length c4] 58)).alloc (.cells #[.slice none 0 0,.slice none 0 0] 25)) none:=aW (aW (aW (aY w none) _) _) _;have Z':Bk (((w.alloc (.cells #[.slice A1 C.length c1,.slice A2 T.length c2] 25)).alloc (.cells #[.int .i64 k,.int .i64 j,.slice A3 cells.length c3,.int .i64 v0,.int .i64 v1,.int .i64 v2,.int .i64 v3,.int .i64 v4,.int .i64 v5,.int .u16 v6,.slice A4 L.length c4] 58)).alloc (.cells #[.slice none 0 0,.slice none 0 0] 25)) w.heap.size 25 [.slice A1 C.length c1,.slice A2 T.length c2]:=(Bk.new.grow (aW (aY _ _) _)).grow (aW (aY _ _) _)
 have Z9:Bk (((w.alloc (.cells #[.slice A1 C.length c1,.slice A2 T.length c2] 25)).alloc (.cells #[.int .i64 k,.int .i64 j,.slice A3 cells.length c3,.int .i64 v0,.int .i64 v1,.int .i64 v2,.int .i64 v3,.int .i64 v4,.int .i64 v5,.int .u16 v6,.slice A4 L.length c4] 58)).alloc (.cells #[.slice none 0 0,.slice none 0 0] 25)) (w.heap.size+1) 58 [.int .i64 k,.int .i64 j,.slice A3 cells.length c3,.int .i64 v0,.int .i64 v1,.int .i64 v2,.int .i64 v3,.int .i64 v4,.int .i64 v5,.int .u16 v6,.slice A4 L.length c4]:=by
  have h:=(Bk.new (w:=w.alloc (.cells #[.slice A1 C.length c1,.slice A2 T.length c2] 25)) (t:=58) (vs:=[.int .i64 k,.int .i64 j,.slice A3 cells.length c3,.int .i64 v0,.int .i64 v1,.int .i64 v2,.int .i64 v3,.int .i64 v4,.int .i64 v5,.int .u16 v6,.slice A4 L.length c4])).grow (aW (aY _ _) (.cells #[.slice none 0 0,.slice none 0 0] 25));simpa using h
 have ZO:Bk (((w.alloc (.cells #[.slice A1 C.length c1,.slice A2 T.length c2] 25)).alloc (.cells #[.int .i64 k,.int .i64 j,.slice A3 cells.length c3,.int .i64 v0,.int .i64 v1,.int .i64 v2,.int .i64 v3,.int .i64 v4,.int .i64 v5,.int .u16 v6,.slice A4 L.length c4] 58)).alloc (.cells #[.slice none 0 0,.slice none 0 0] 25)) (w.heap.size+2) 25 [.slice none 0 0,.slice none 0 0]:=by
  have h:=Bk.new (w:=(w.alloc (.cells #[.slice A1 C.length c1,.slice A2 T.length c2] 25)).alloc (.cells #[.int .i64 k,.int .i64 j,.slice A3 cells.length c3,.int .i64 v0,.int .i64 v1,.int .i64 v2,.int .i64 v3,.int .i64 v4,.int .i64 v5,.int .u16 v6,.slice A4 L.length c4] 58)) (t:=25) (vs:=[.slice none 0 0,.slice none 0 0]);simpa using h
 have hsz:(((w.alloc (.cells #[.slice A1 C.length c1,.slice A2 T.length c2] 25)).alloc (.cells #[.int .i64 k,.int .i64 j,.slice A3 cells.length c3,.int .i64 v0,.int .i64 v1,.int .i64 v2,.int .i64 v3,.int .i64 v4,.int .i64 v5,.int .u16 v6,.slice A4 L.length c4] 58)).alloc (.cells #[.slice none 0 0,.slice none 0 0] 25)).heap.size=w.heap.size+3:=by simp
 generalize((w.alloc (.cells #[.slice A1 C.length c1,.slice A2 T.length c2] 25)).alloc (.cells #[.int .i64 k,.int .i64 j,.slice A3 cells.length c3,.int .i64 v0,.int .i64 v1,.int .i64 v2,.int .i64 v3,.int .i64 v4,.int .i64 v5,.int .u16 v6,.slice A4 L.length c4] 58)).alloc (.cells #[.slice none 0 0,.slice none 0 0] 25)=W at *;have a20:=Z'.cell 0;have a21:=Z'.cell 1;have Xj:=Z9.cell 0;have Xk:=Z9.cell 1;simp only[List.getElem?_cons_zero,List.getElem?_cons_succ]at a20 a21 Xj Xk
 go_wp2_with fail
 refine(HF.out W Zj).mono ?_;rintro e w1 ⟨rfl,Z0⟩;have Xz:=Lib.hid (be Zj Z0);have Zd:=Z0.size;have Z':=Z'.grow Z0;have Z9:=Z9.grow Z0;have ZO:=ZO.grow Z0;have W':=Z'.cell 0;have X7:=Z'.cell 1;have Yg:=Z9.cell 0;have Xx:=Z9.cell 1;have Yo:=Z9.cell 2;have WK:=Z9.cell 3;have WL:=Z9.cell 4;have WM:=Z9.cell 5;have WN:=Z9.cell 6;have WO:=Z9.cell 7;have WP:=Z9.cell 8;have WQ:=Z9.cell 9;have YK:=Z9.cell 10;have Y5:=ZO.cell 0;have Y6:=ZO.cell 1;have WS:=ZO.free 0;have f41:=ZO.free 1;have q4:=ZO.hi;simp only[List.getElem?_cons_zero,List.getElem?_cons_succ]at W' X7 Yg Xx Yo WK WL WM WN WO WP WQ YK Y5 Y6;have Xb:=Lib.hid Z';have Zb:=Lib.hid Z9;have Wf:=Lib.hid ZO;have HS:=Lib.hid hsz;clear Z' Z9 ZO Zj Z0 HF a20 a21 Xj Xk
 have Rx:((k:Int)==-1)=false:=by simp
 have VM:¬(k:Int)=-1:=by omega
 have HE:=Lib.hid (λW hg=>Zz W hg);clear Zz;obtain⟨bR,oR,cR,ds,Q2,Nf,SO,_,Q0,T8⟩:=(HU.out.grow Xz.out).at_ hk
 injection Q2 with Vx Q3 Vy
 subst Vx;subst Vy;obtain⟨hdr,rfl,ZP⟩:=Q0;have WC:=T8 0 _ rfl;rw[show oR+(k*rCs.size+0)=oR+k by rw[show rCs.size=1 from rfl,Nat.mul_one,Nat.add_zero]]at WC;obtain⟨AK,cK,rfl,Vt,T6,Vu⟩:=ZP.size_eq;have QX:=ZP;obtain⟨bK,oK,E',xs,QY,_,_,_,_,_⟩:=ZP.at_ (k:=8*j) XD
 injection QY with Vv QZ Vw
 subst Vv;subst Vw;obtain⟨N,hN⟩:∃N,N=C[k].length:=⟨_,rfl⟩;rw[<- hN]at XD Vt Vu WC;have Xc:=Lib.hid hN;clear hN QX ZP T8
 have y1:(0:Int)<=(k:Int):=by omega
 have y2:(k:Int)<(C.length:Int):=by omega
 have y3:(k:Int).toNat=k:=by omega
 obtain⟨n,hn⟩:∃n,n=min 8 (N-8*j):=⟨_,rfl⟩;have Hn:=Lib.hid hn;have HJ:=Lib.hid (And.intro hj (And.intro XD (And.intro Vt Vu)));clear hn hj XD Vt T6 Vu hcl VM
 go_upto_region 10 with fail
 have HK:=Lib.hid hk
 have Nj:((cells.length:Int) != (n:Int))=false:=by
  have h1:=Hc.out;rw[<- Xc.out,<- Hn.out]at h1;simp;omega
 clear Y5 Y6 WS f41 q4;have Uw:=Lib.hid WC;clear WC
 refine gK (λw'=>w1.grownBy w' none) (λ_ _=>True)
  [bD (.pointer (some ⟨w.heap.size+1,2,none⟩)),bD (.slice A3 cells.length c3),bD (.int .i64 cells.length),bD (.pointer (some ⟨w.heap.size,0,none⟩)),bD (.slice (some ⟨bR,oR,none⟩) C.length c1),bD (.pointer (some ⟨w.heap.size+1,0,none⟩)),bD (.pointer (some ⟨w.heap.size+1,0,none⟩)),bD (.int .i64 k),bD (.pointer (some ⟨bR,oR+k,none⟩)),bD (.slice (some ⟨bK,oK,none⟩) N cK),bD (.pointer (some ⟨w.heap.size+1,0,none⟩)),bD (.pointer (some ⟨w.heap.size+1,1,none⟩)),bD (.int .i64 j),bD (.slice (some ⟨bK,oK+8*j*4,none⟩) n (cK-8*j)),bD (.int .i64 n),bD (.bool false),bD (.bool false),bD (.pointer (some ⟨w.heap.size+1,3,none⟩)),bD (.agg #[.int .i64 v0,.int .i64 v1,.int .i64 v2,.int .i64 v3,.int .i64 v4,.int .i64 v5,.int .u16 v6,.slice A4 L.length c4]),bD (.bool true),bD (.bool false),bD (.bool false)]
  78 (by kernel_rfl) rfl (by kernel_rfl) (cg (aY _ _)) (λ_=>trivial) ?_ ?_ ?_
 ·exact⟨bD.kept,bD.kept,bD.kept,bD.kept,bD.kept,bD.kept,bD.kept,bD.kept,bD.kept,bD.kept,bD.kept,bD.kept,bD.kept,bD.kept,bD.kept,bD.kept,bD.kept,bD.kept,bD.kept,bD.kept,bD.kept,bD.kept,trivial⟩
 ·refine aU ?_ (aU ?_ (aU ?_ (aU ?_ (aU ?_ (aU ?_ (aU ?_ (aU ?_ (aU ?_ (aU ?_ (aU ?_ (aU ?_ (aU ?_ (aU ?_ (aU ?_ (aU ?_ (aU ?_ (aU ?_ (aU ?_ (aU ?_ (aU ?_ (aU ?_ mz)))))))))))))))))))))
  ·refine ba rfl λf ZM hb H=>?_;have e3:f 3=_:=H 3 (by decide);clear H;have Z7:=Lib.hid hb;clear hb
   go_simp
   exact⟨Z7.out,trivial,rfl⟩
  ·refine ba rfl λf ZM hb H=>?_;have MI:f 38=_:=H 38 (by decide);clear H;have Z7:=Lib.hid hb;have QT:=(Zb.out.grow hb).cell 2;simp only[List.getElem?_cons_zero,List.getElem?_cons_succ]at QT;clear hb
   go_simp
   exact⟨Z7.out,trivial,rfl⟩
  ·refine ba rfl λf ZM hb H=>?_;have MJ:f 39=_:=H 39 (by decide);clear H;have Z7:=Lib.hid hb;clear hb
   go_simp
   exact⟨Z7.out,trivial,rfl⟩
  ·refine ba rfl λf ZM hb H=>?_;have e2:f 2=_:=H 2 (by decide);clear H;have Z7:=Lib.hid hb;clear hb
   go_simp
   exact⟨Z7.out,trivial,rfl⟩
  ·refine ba rfl λf ZM hb H=>?_;have ML:f 41=_:=H 41 (by decide);clear H;have Z7:=Lib.hid hb;have QQ:=(Xb.out.grow hb).cell 0;simp only[List.getElem?_cons_zero]at QQ;clear hb
   go_simp
   exact⟨Z7.out,trivial,rfl⟩
  ·refine ba rfl λf ZM hb H=>?_;have e3:f 3=_:=H 3 (by decide);clear H;have Z7:=Lib.hid hb;clear hb
   go_simp
   exact⟨Z7.out,trivial,rfl⟩
  ·refine ba rfl λf ZM hb H=>?_;have MN:f 43=_:=H 43 (by decide);clear H;have Z7:=Lib.hid hb;clear hb
   go_simp
   exact⟨Z7.out,trivial,rfl⟩
  ·refine ba rfl λf ZM hb H=>?_;have MO:f 44=_:=H 44 (by decide);clear H;have Z7:=Lib.hid hb;have QR:=(Zb.out.grow hb).cell 0;simp only[List.getElem?_cons_zero,List.getElem?_cons_succ]at QR;clear hb
   go_simp
   exact⟨Z7.out,trivial,rfl⟩
  ·refine ba rfl λf ZM hb H=>?_;have MM:f 42=_:=H 42 (by decide);have MP:f 45=_:=H 45 (by decide);clear H;have Z7:=Lib.hid hb;clear hb
   go_simp
   exact⟨Z7.out,trivial,rfl⟩
  ·refine ba rfl λf ZM hb H=>?_;have MQ:f 46=_:=H 46 (by decide);clear H;have Z7:=Lib.hid hb
   have ch:ZM.cell? ⟨bR,oR+k,none⟩=some (.slice (some ⟨bK,oK,none⟩) N cK):=by rw[World.cell?_of_block (hb.block bR (World.block_lt_of_cell? _ _ Uw.out) (by simp))];exact Uw.out
   clear hb
   go_simp
   exact⟨Z7.out,trivial,rfl⟩
  ·refine ba rfl λf ZM hb H=>?_;have e3:f 3=_:=H 3 (by decide);clear H;have Z7:=Lib.hid hb;clear hb
   go_simp
   exact⟨Z7.out,trivial,rfl⟩
  ·refine ba rfl λf ZM hb H=>?_;have MS:f 48=_:=H 48 (by decide);clear H;have Z7:=Lib.hid hb;clear hb
   go_simp
   exact⟨Z7.out,trivial,rfl⟩
  ·refine ba rfl λf ZM hb H=>?_;have MT:f 49=_:=H 49 (by decide);clear H;have Z7:=Lib.hid hb;have QS:=(Zb.out.grow hb).cell 1;simp only[List.getElem?_cons_zero,List.getElem?_cons_succ]at QS;clear hb
   go_simp
   exact⟨Z7.out,trivial,rfl⟩
  ·refine ba rfl λf ZM hb H=>?_;have MR:f 47=_:=H 47 (by decide);have MU:f 50=_:=H 50 (by decide);clear H;have Z7:=Lib.hid hb;clear hb
   go_simp
   refine(zb bK oK N cK j _ HJ.out.1 HJ.out.2.1 HJ.out.2.2.1 HJ.out.2.2.2).mono ?_;rw[<- Hn.out];rintro e w5 ⟨rfl,Xp⟩;exact⟨_,rfl,be Z7.out Xp,trivial,rfl⟩
  ·refine ba rfl λf ZM hb H=>?_;have MV:f 51=_:=H 51 (by decide);clear H;have Z7:=Lib.hid hb;clear hb
   go_simp
   exact⟨Z7.out,trivial,rfl⟩
  ·refine ba rfl λf ZM hb H=>?_;have MK:f 40=_:=H 40 (by decide);have MW:f 52=_:=H 52 (by decide);clear H;have Z7:=Lib.hid hb;clear hb
   go_simp
   exact⟨Z7.out,trivial,rfl⟩
  ·refine ba rfl λf ZM hb H=>?_;have MX:f 53=_:=H 53 (by decide);clear H;have Z7:=Lib.hid hb;clear hb
   go_simp
   exact⟨Z7.out,trivial,rfl⟩
  ·refine fP _ _ _ rfl rfl λf ZM hb H=>⟨H 54 (by decide),?_⟩;have e3:f 3=_:=H 3 (by decide);clear H;have Z7:=Lib.hid hb;clear hb
   go_simp
   exact⟨Z7.out,trivial,rfl⟩
  ·refine fP _ _ _ rfl rfl λf ZM hb H=>⟨H 54 (by decide),?_⟩;have e55:f 55=_:=H 55 (by decide);clear H;have Z7:=Lib.hid hb;have Oq:=(Zb.out.grow hb).cell 3;have Os:=(Zb.out.grow hb).cell 4;have Ot:=(Zb.out.grow hb).cell 5;have Ou:=(Zb.out.grow hb).cell 6;have Ov:=(Zb.out.grow hb).cell 7;have Ow:=(Zb.out.grow hb).cell 8;have Ox:=(Zb.out.grow hb).cell 9;have Tc:=(Zb.out.grow hb).cell 10;simp only[List.getElem?_cons_zero,List.getElem?_cons_succ]at Oq Os Ot Ou Ov Ow Ox Tc;clear hb
   go_simp
   exact⟨Z7.out,trivial,rfl⟩
  ·refine fP _ _ _ rfl rfl λf ZM hb H=>⟨H 54 (by decide),?_⟩;have e56:f 56=_:=H 56 (by decide);clear H;have Z7:=Lib.hid hb;clear hb
   go_simp
   refine(HE.out _ (be Xz.out Z7.out)).mono ?_;rintro e w6 ⟨rfl,Pg⟩;exact⟨_,rfl,be Z7.out Pg,trivial,rfl⟩
  ·refine fP _ _ _ rfl rfl λf ZM hb H=>⟨H 54 (by decide),?_⟩;have e57:f 57=_:=H 57 (by decide);clear H;have Z7:=Lib.hid hb;clear hb
   go_simp
   exact⟨Z7.out,trivial,rfl⟩
  ·refine ba rfl λf ZM hb H=>?_;have MY:f 54=_:=H 54 (by decide);have MZ:f 58=_:=H 58 (by decide);clear H;have Z7:=Lib.hid hb;clear hb
   go_simp
   exact⟨Z7.out,trivial,rfl⟩
 ·intro f w9 hb hE;simp only[fO,Act.put,yL,List.setIfInBounds_toArray,List.set_cons_succ,List.set_cons_zero];have QV:f 59=.bool false:=hE.2.2.2.2.2.2.2.2.2.2.2.2.2.2.2.2.2.2.2.2.2.1;clear hE;have ZF:=hb;clear hb;rw[QV];have Oe:=Lib.hid (be Xz.out ZF);have W':=(Xb.out.grow ZF).cell 0;have X7:=(Xb.out.grow ZF).cell 1;simp only[List.getElem?_cons_zero,List.getElem?_cons_succ]at W' X7;have Zb:=Lib.hid (Zb.out.grow ZF);have Wf:=Lib.hid (Wf.out.grow ZF);have PP:=ZF.size;clear ZF Uw
  go_wp2_with fail
  refine(lT F C T _ _ w9 (HU.out.grow Oe.out) (HV.out.grow Oe.out)).mono ?_;rintro e w2 ⟨a,b,fp,gp,rfl,oa,ob,ZN,X1,ZH⟩;obtain⟨A6,c6,rfl⟩:=ob.shape;have HOA:=Lib.hid oa;obtain⟨hbA,⟨e1,e2,_⟩|⟨ql,cl,cs,g,rfl,e2,l1,l2,hV,hO⟩⟩:=oa
  ·rw[e2]at y2;simp at y2;omega
  obtain⟨g1,g2,g3,d1,d2,d3,e3,e4,l3,o1,o2,o3⟩:=hO.split HK.out;obtain⟨hdr,rfl,Qc⟩:=o2;obtain⟨OX,⟨_,e5,_⟩|⟨qK,TY,xs,g4,rfl,e6,m1,m2,OR,OQ⟩⟩:=Qc
  ·have h1:=Xc.out;have h2:=HJ.out.2.1;rw[e5]at h1;simp at h1;omega
  have YW:=EW OQ;subst YW;have P2:=yV (OQ.reads);subst P2;rw[<- Xc.out]at e4;rw[e4,List.append_assoc]at hV;have Yy:w2.grownBy (w2.alloc (.cells #[.slice (some ⟨ql,0,none⟩) C.length cl,.slice A6 T.length c6] 25)) none:=aW (aY _ _) _;have V9:Bk (w2.alloc (.cells #[.slice (some ⟨ql,0,none⟩) C.length cl,.slice A6 T.length c6] 25)) w2.heap.size 25 [.slice (some ⟨ql,0,none⟩) C.length cl,.slice A6 T.length c6]:=Bk.new;have UL:=be Oe.out (be ZH Yy);have Z9:=(Zb.out.grow ZH).grow Yy;have Wf:=Lib.hid ((Wf.out.grow ZH).grow Yy);have Y2:=ZH.size;have PL:=X1 ql (by rw[e2];simp)
  have NE:qK∈fp:=by rw[e2,e3,e6];simp
  have NF:=X1 qK (List.mem_append_left _ NE);have R0:=hV.hi;have NG:=OR.hi
  have hnq:qK≠ql:=λe=>by
   have h1:=(List.nodup_append.1 ZN).1;rw[e2,e3,e6]at h1;exact(List.nodup_cons.1 h1).1 (by rw[<- e];simp)
  have Of:=Lib.hid (And.intro ZN (And.intro X1 (And.intro e2 (And.intro e3 (And.intro e6 (And.intro o1 (And.intro o3 ob)))))));have r6:=Lib.hid (hV.grow Yy);have HVK:=Lib.hid (OR.grow Yy);have HL:=Lib.hid (show d1.length=k from by rw[l3];exact Nat.mul_one k);have QL:=Lib.hid UL;have Vo:=Lib.hid Yy;have d6:=Lib.hid (show N<=TY from by rw[Xc.out];exact m1);have Hm2:=Lib.hid m2;clear W' X7 ZN X1 e2 e3 e4 e6 o1 o3 ob l3 hO OQ hV OR hbA OX m1 m2 NE ZH Xb Zb
  go_upto_region 13 with fail
  generalize w2.alloc (.cells #[.slice (some ⟨ql,0,none⟩) C.length cl,.slice A6 T.length c6] 25)=W3 at *;generalize hq7:w2.heap.size=q7 at *;have Zb:=Lib.hid Z9;have QI:=Lib.hid V9;have n0:=V9.cell 0;have Yg:=Z9.cell 0;have Xx:=Z9.cell 1;have Yo:=Z9.cell 2;simp only[List.getElem?_cons_zero,List.getElem?_cons_succ]at n0 Yg Xx Yo
  have nk:W3.cell? ⟨ql,k,none⟩=some (.slice (some ⟨qK,0,none⟩) N TY):=by
   have h:=r6.out.mid (j:=0) (u:=.slice (some ⟨qK,0,none⟩) N TY) rfl;rw[HL.out,Nat.add_zero]at h;exact h
  have VH:0<cells.length:=by
   have h1:=Hc.out;have h2:=HJ.out.2.1;rw[<- Xc.out]at h1;omega
  rcases(HY.out.grow QL.out).cells with⟨h0,_⟩|⟨ad,cc,ys,hye,P6,NV,NW⟩
  ·rw[h0]at VH;cases VH
  injection hye with P4 hye2 P5
  subst P4;subst P5;have Yb:=yV NW;subst Yb;have HYC:=Lib.hid NV;have Ta:=Lib.hid (show cells.length=n from by have h1:=Hc.out;rw[<- Xc.out,<- Hn.out]at h1;exact h1);clear NV P6 NW Z9 V9 Yy UL VH
  have j2:(j:Int).toNat=j:=by omega
  have j3:(0:Int)<=(j:Int):=by omega
  go_cut []from 63 to 77 (λwx=>KA (C.set k (jl C[k] j cells)) T w q7 (.slice (some ⟨ql,0,none⟩) C.length cl) (.slice A6 T.length c6) wx)
  case first=>
   go_still_tail 13,(by kernel_rfl)
   still_call (ES qK 0 N TY j _ HJ.out.1 HJ.out.2.1 d6.out HJ.out.2.2.2)
   rw[<- Hn.out]
   repeat still_step
   refine wpStill_nil ?_;obtain⟨cur,v1,v2,v3⟩:=HVK.out.eq
   have SR:(cnL cells).length=n*4:=by rw[nE,Ta.out]
   have hr4:rCn.size=4:=rfl
   have Sv:(cnL C[k]).length=N*4:=by rw[nE];exact congrArg (· * 4) Xc.out.symm
   have h8n:8*j+n<=N:=by
    have h1:=Hn.out;have h2:=HJ.out.2.1;omega
   have hNK:=d6.out;change wpList _ _ _ _ _ W3.drew;refine o8 4 rfl (.tmp 73) (.tmp 75) 51 61 rfl Try.underlying51 (by kernel_rfl) qK (8*j*4) n (TY-8*j) rfl ad cells.length c3 rfl cur 61 (cnL cells) v1 ?c1 ?c2 ?c3 (J3 _) ?_
   case c1=>rw[Ta.out,SR];simp
   case c2=>exact λj u hu=>HYC.out j u hu
   case c3=>rw[SR,v2,hr4];omega
   have hL:=wq (e:=61) (w:=W3.drew) (cs:=cnL cells) (o:=8*j*4) v1 v2 v3 (by rw[SR];exact Nat.le_trans (by omega) (Nat.le_of_eq Sv.symm))
   have ZP:(cnL C[k]).take (8*j*4)++cnL cells++(cnL C[k]).drop (8*j*4+(cnL cells).length)=cnL (jl C[k] j cells):=by
    have e2:8*j*4+(cnL cells).length=(8*j+cells.length)*4:=by rw[nE];omega
    rw[e2,HW,H3,jl,wg,wg]
   have OP:lr 61 (W3.drew.setRow qK (cur.toList.take (8*j*4)++cnL cells++cur.toList.drop (8*j*4+(cnL cells).length)).toArray) qK (TY*rCn.size) (cnL (jl C[k] j cells)):=by rw[<- ZP];exact hL
   obtain⟨WF,Q4⟩:∃WF,WF=(W3.drew.setRow qK (cur.toList.take (8*j*4)++cnL cells++cur.toList.drop (8*j*4+(cnL cells).length)).toArray):=⟨_,rfl⟩;rw[<- Q4]at OP⊢
   have hset:∀x,x≠qK->WF.heap[x]?=W3.heap[x]?:=λx hx=>by rw[Q4];exact setRow_other W3.drew qK x _ hx
   have hsz:WF.heap.size=W3.heap.size:=by rw[Q4];exact yQ W3.drew qK _
   have TO:WF.os=W3.os/\WF.tape=W3.tape/\WF.output=W3.output:=by rw[Q4];exact⟨rfl,rfl,rfl⟩
   clear Q4;have YX:W3.grownBy WF (some qK):=⟨TO.1,TO.2.1,TO.2.2,Nat.le_of_eq hsz.symm,λx _ hx=>hset x (λe=>hx (by rw[e]))⟩
   have S9:=Lib.hid (show KA (C.set k (jl C[k] j cells)) T w q7 (.slice (some ⟨ql,0,none⟩) C.length cl) (.slice A6 T.length c6) WF from by
    obtain⟨ZN,X1,e2,e3,e6,o1,o3,ob⟩:=Of.out;have Pk:=Vo.out.size;have hlen:=Ch (row:=C[k]) (j:=j) (cells:=cells) (by rw[Ta.out];exact Nat.le_trans h8n (Nat.le_of_eq Xc.out));have VN:(jl C[k] j cells).length=N:=hlen.trans Xc.out.symm;have US:∀x,x∈fp->w9.heap.size+2<=x:=λx hx=>X1 x (List.mem_append_left _ hx);have Nn:=(List.nodup_append.1 ZN).1
    have Qt:(ql::(g1++(qK :: [])++g3)).Nodup:=by rw[e2,e3,e6]at Nn;exact Nn
    have hin:∀x,x∈g1++(qK :: [])++g3->x∈fp:=λx hx=>by rw[e2,e3,e6];exact List.mem_cons_of_mem _ hx
    have Z0:∀x,x∈g1->x≠qK:=λx hx e=>by
     have h1:=(List.nodup_cons.1 Qt).2;rw[List.append_assoc]at h1;exact(List.nodup_append.1 h1).2.2 x hx qK (by simp) e
    have Pf:∀x,x∈g3->x≠qK:=λx hx e=>by
     have h1:=(List.nodup_cons.1 Qt).2;exact(List.nodup_append.1 h1).2.2 qK (by simp) x hx e.symm
    have Pl:∀x,x∈gp->x≠qK:=λx hx e=>(List.nodup_append.1 ZN).2.2 qK (hin qK (by simp)) x hx e.symm
    have XJ:∀x,x<w2.heap.size->x≠qK->WF.heap[x]?=w2.heap[x]?:=λx h1 h2=>by rw[hset x h2,Vo.out.block x h1 (by simp)]
    have hss:=HS.out;refine⟨fw QL.out YX λk e=>by injection e with e;omega,Wf.out.keep (hset _ (by omega)),QI.out.keep (hset _ (by omega)),?_,?_⟩
    ·have hown:OSl rCs 51 WF (ql::(g1++(qK :: [])++g3)) (C.set k (jl C[k] j cells)) (.slice (some ⟨ql,0,none⟩) C.length cl):=by
      refine⟨by rw[List.length_set];exact TZ,.inr ⟨ql,cl,d1++[.slice (some ⟨qK,0,none⟩) N TY]++d3,g1++(qK :: [])++g3,by rw[List.length_set],rfl,by rw[List.length_set];exact l1,l2,?_,jb.join HK.out (o1.keep λx hx=>XJ x (o1.live x hx) (Z0 x hx)) ⟨_,rfl,?_⟩ (o3.keep λx hx=>XJ x (o3.live x hx) (Pf x hx))⟩⟩
      ·rw[List.append_assoc];exact r6.out.keep (hset ql (λe=>hnq e.symm))
      ·refine⟨by rw[VN];exact HJ.out.2.2.2,.inr ⟨qK,TY,cnL (jl C[k] j cells),[],by rw[VN],rfl,by rw[VN];exact hNK,Hm2.out,OP,FO _ _⟩⟩
     exact hown.reads.sub λx hx=>by
      rcases List.mem_cons.1 hx with rfl|hx
      ·omega
      ·have:=US x (hin x hx);omega
    ·exact((ob.keep λx hx=>XJ x (ob.live x hx) (Pl x hx)).reads).sub λx hx=>by have:=X1 x (List.mem_append_right _ hx);omega)
   clear hset hsz YX hL OP ZP TO
   go_wp2_with fail
   go_meet
   exact S9.out
  case rest=>
   have HD:=Lib.hid hcut;have j0:=hcut.st.cell 0;have j1:=hcut.st.cell 1;have r0:=hcut.res.cell 0;have r1:=hcut.res.cell 1;have f0:=hcut.res.free 0;have f1:=hcut.res.free 1;have r2:=hcut.res.hi;simp only[List.getElem?_cons_zero,List.getElem?_cons_succ]at j0 j1 r0 r1;clear hcut n0 nk Yg Xx Yo
   go_wp2_with fail
   refine bodyPost_ret (v:=.tuple #[.agg #[.slice (some ⟨ql,0,none⟩) C.length cl,.slice A6 T.length c6],.int .i64 0]) (by simp[results,Try.results36,go_sem,r0,r1,r2]) rfl ?_;exact HD.out.ret
inductive LJ (w:World)(F:Nat->Prop):TV->Value->Prop
 |im {c:List (List TV)} {x:Value} (h:fm w F (.sl c) x):LJ w F (.sl c) x
 |v {x:Value} (h:ew x=true):LJ w F (.v x) x
 |fn {f:FuncId}:LJ w F (.fn f []) (.func (.func f) #[] #[])
 |ag {l:List TV} {cs:Array Value} (hl:cs.size=l.length) (h:∀j (hj:j<l.length),∃x,l[j]=.v x/\cs.getD j undef=x):LJ w F (.agg l) (.agg cs)
def Fh:TV->Bool
 |.v _=>true
 |_=>false
def xq:TV->Bool
 |.sl _=>true
 |.v _=>true
 |.fn _ []=>true
 |.agg l=>l.all Fh
 |_=>false
def Kp(P:Program)(f:FuncId)(vals:List TV)(c:List (List TV)):Prop:=
 ∀(asq:List Value)(w:World)(F:Nat->Prop),asq.length=vals.length->(∀j (h:j<vals.length)(h':j<asq.length),LJ w F vals[j] asq[j])->
  Calls P f asq.toArray w λe w2=>∃x,e=.returned x/\Below w.heap.size w w2/\fm w2 (λk=>F k\/w.heap.size<=k) (.sl c) x
def IE(R:FuncId->List TV->Option (List (List TV))):cj:=λf vals pts=>
 match pts with
 | []=>if vals.all xq then(R f vals).map λc=>(⟨[.sl c],[.one]⟩,[])else none
 |_=>none
theorem K9{P:Program}{R:FuncId->List TV->Option (List (List TV))}(hR:∀f vals c,R f vals=some c->gA P f/\Kp P f vals c):ee P (IE R):=by
 intro f vals pts res Zs h
 cases pts with
 |cons _ _=>simp[IE]at h
 |nil=>
  simp only[IE]at h;split at h
  case isFalse=>simp at h
  rename_i ZW;simp only[List.all_eq_true]at ZW
  obtain⟨c,hc,he⟩:∃c,R f vals=some c/\(⟨[.sl c],[.one]⟩,[])=(res,Zs):=by
   cases hr:R f vals with
   |none=>simp[hr]at h
   |some c=>exact⟨c,rfl,by simpa[hr]using h⟩
  injection he with e1 e2
  subst e1 e2;obtain⟨Y9,TH⟩:=hR f vals c hc;refine⟨Y9,vals.length,Nat.le_refl _,λM asq w G hal hN QD YA hI=>?_⟩;subst QD
  have Sk:asq.toArray++Array.replicate (vals.length-asq.length) undef=asq.toArray:=by rw[hal];simp
  rw[Sk]at hI
  have hst:∀j,(mkSt vals []).t j=vals.getD j .dead:=by
   intro j;simp[St.t,mkSt,jo]
  refine(TH asq M.w0 (G.F M.A) hal λj hj ZT=>?_).mono λe w2 ⟨x,VI,hb,Wk⟩=>?_
  ·have ht:=hI.tmr j;rw[hst]at ht
   have e1:vals.getD j .dead=vals[j]:=by simp[hj]
   have e2:asq.toArray.getD j undef=asq[j]:=by simp[Array.getD_eq_getD_getElem?,ZT]
   rw[e1,e2]at ht;have ha:=ZW _ (List.getElem_mem hj);revert ht ha;generalize vals[j]=t;generalize asq[j]=y;intro ht ha
   cases ht with
   |v h=>exact .v h
   |sl h=>exact .im h
   | @fn f l xs hl h=>
    cases l with
    |nil=>
     have:xs=#[]:=Array.eq_empty_of_size_eq_zero (by simpa using hl);subst this;exact .fn
    |cons _ _=>simp[xq]at ha
   | @agg l cs hl h=>
    refine .ag hl λj hj=>?_;have h1:Fh l[j]=true:=List.all_eq_true.1 ha _ (List.getElem_mem hj);have h2:=h j hj;revert h1 h2;generalize l[j]=t;intro h1 h2
    cases t with
    |v x=>exact⟨x,rfl,by cases h2;rfl⟩
    |_=>simp[Fh]at h1
   |_=>simp[xq]at ha
  ·obtain⟨ZJ,_⟩:=hI.grow (w':=w2) (λk hk=>hb.block k hk) hb.size hb.os hb.tape hb.output
   have hF:∀k,G.F M.A k\/M.w0.heap.size<=k->G.F M.A k:=by
    rintro k (hk|hk)
    ·exact hk
    ·refine⟨M.hA k hk,λr o hφ=>?_,λr b o n hβ e=>?_⟩
     ·have:=hI.core.live hφ;omega
     ·subst e;have:=hI.core.boxlt hβ;omega
   obtain⟨G',hg⟩:=ZJ.addHand (Wk.frame (F':=G.F M.A) (λ_ _ _=>rfl) λk hk _=>hF k hk).toOwn;refine⟨x,mkSt vals [],VI,.inl ⟨[x],asq.toArray,G',rfl,hg.1,λj hj=>?_⟩,rfl⟩
   have:j=0:=by simpa using hj
   subst this;exact .inl rfl
theorem u5{E:Env}{T:FuncId->Option TFn}{B:cj}{c:Ctr}(hT:T c.f=none)(hB:jL B c):Lvl E T B 1 c:=by
 intro k _ h o x ho hx
 have e:runF E T B (NN+k) c.f=B c.f:=by
  obtain⟨n,hn⟩:∃n,NN+k=n+1:=⟨NN-1+k,by have:0<NN:=(by decide);omega⟩;rw[hn];funext vals pts;simp only[runF,yJ,hT]
 rw[e];exact hB h o x ho hx
abbrev PID:=Int×Int
def cH(a b:PID):Bool:=if(a.1==-1) != (b.1==-1)then b.1==-1 else decide (a.1<b.1)||(a.1==b.1&&decide (a.2<b.2))
def tp:List PID->PID->List PID
 | [],x=>[x]
 |y::r,x=>if cH y x then y::tp r x else if y=x then y::r else x::y::r
def kx(l:List PID):List PID:=l.foldl tp []
def pM(x:PID):List TV:=[.v (.int .i64 x.1),.v (.int .i64 x.2)]
def II:List (List TV)->Option (List PID)
 | []=>some []
 |e::r=>match e with
  | [.v (.int .i64 a),.v (.int .i64 b)]=>(II r).map ((a,b) :: ·)
  |_=>none
def zU:List (List TV)->Option (List (List PID))
 | []=>some []
 |e::r=>match e with
  | [.sl c]=>(II c).bind λl=>(zU r).map (l :: ·)
  |_=>none
theorem vV:∀l:List PID,II (l.map pM)=some l
 | []=>rfl
 |x::r=>by simp[II,pM,vV r]
theorem zT:∀{c:List (List TV)}{l:List PID},II c=some l->c=l.map pM
 | [],l,h=>by simp only[II,oSJ]at h;subst h;rfl
 |e::r,l,h=>by
  simp only[II]at h;split at h
  ·obtain⟨l',h1,rfl⟩:=Option.map_eq_some_iff.1 h;rw[zT h1];rfl
  ·simp at h
theorem Bz:∀{c:List (List TV)}{l:List (List PID)},zU c=some l->c=l.map λx=>[TV.sl (x.map pM)]
 | [],l,h=>by simp only[zU,oSJ]at h;subst h;rfl
 |e::r,l,h=>by
  simp only[zU]at h;split at h
  ·rename_i c;obtain⟨x,h1,h2⟩:=Option.bind_eq_some_iff.1 h;obtain⟨l',h3,rfl⟩:=Option.map_eq_some_iff.1 h2;rw[Bz h3,zT h1];rfl
  ·simp at h
theorem xZ:∀l:List (List PID),zU (l.map λx=>[TV.sl (x.map pM)])=some l
 | []=>rfl
 |x::r=>by simp[zU,vV,xZ r]
end Go.Proofs.Ytbdhpgelkfncpaa
namespace Go.Proofs.Ytbdhpgelkfncpaa
open Go.RowKit Go.Sort
def GW(W w':World):Prop:=∃q os,w'=grow (W.drewN q) os
theorem GW.refl(W:World):GW W W:=⟨0,#[],by rw[grow_empty];rfl⟩
theorem GW.trans{a b c:World}(h:GW a b)(h':GW b c):GW a c:=by
 obtain⟨q,os,rfl⟩:=h;obtain⟨p,N2,rfl⟩:=h';exact⟨q+p,os++N2,by show grow (grow ((a.drewN q).drewN p) os) N2=_;rw[grow_grow,World.drewN_drewN]⟩
theorem GW.alloc(W:World)(o:Obj):GW W (W.alloc o):=⟨0,#[o],by rw[alloc_eq_grow];rfl⟩
theorem GW.drew(W:World):GW W W.drew:=⟨1,#[],by rw[grow_empty];rfl⟩
def mH(r:Int):Int:=if r=-1 then 1 else 0
def uy(x y:Int):Int:=if x<y then -1 else if y<x then 1 else 0
def orI(a b c:Int):Int:=if a=0 then(if b=0 then c else b)else a
def Bb(x y:PID):Int:=orI (uy (mH x.1) (mH y.1)) (uy x.1 y.1) (uy x.2 y.2)
theorem Bf(x:PID)(W:World):Calls Try.prog 72 #[.agg #[.int .i64 x.1,.int .i64 x.2]] W λe w'=>e=.returned (.int .i64 (mH x.1))/\GW W w':=by
 by_cases h:x.1=-1
 ·go_enter Try.func72,Try.ntmps72
  go_wp2
  go_ret
  exact⟨by simp[mH,h],GW.alloc _ _⟩
 ·go_enter Try.func72,Try.ntmps72
  go_wp2
  go_ret
  exact⟨by simp[mH,h],GW.alloc _ _⟩
theorem Af(x y:Int)(W:World):Calls Try.prog 71 #[.int .i64 x,.int .i64 y] W λe w'=>e=.returned (.int .i64 (uy x y))/\GW W w':=by
 by_cases h:x<y
 ·go_enter Try.func71,Try.ntmps71
  go_wp2
  go_ret
  exact⟨by simp[uy,h],GW.refl _⟩
 ·by_cases h2:y<x
  ·go_enter Try.func71,Try.ntmps71
   go_wp2
   go_ret
   exact⟨by simp[uy,h,h2],GW.refl _⟩
  ·go_enter Try.func71,Try.ntmps71
   go_wp2
   go_ret
   exact⟨by unfold uy;rw[oIN (by omega),oIN (by omega)];rfl,GW.refl _⟩
theorem K3(a b c:Int)(k:Nat)(W:World)(h0:W.cell? ⟨k,0,none⟩=some (.int .i64 a))(h1:W.cell? ⟨k,1,none⟩=some (.int .i64 b))(h2:W.cell? ⟨k,2,none⟩=some (.int .i64 c)):
 Calls Try.prog 70 #[.slice (some ⟨k,0,none⟩) 3 3] W λe w'=>e=.returned (.int .i64 (orI a b c))/\GW W w':=by
 by_cases ha:a=0
 ·by_cases hb:b=0
  ·by_cases hc:c=0
   ·go_enter Try.func70,Try.ntmps70
    go_wp2
    refine wp_loop_rounds 4 ?_;rw[rounds_succ]
    go_wp2
    rw[rounds_succ]
    go_wp2
    rw[rounds_succ]
    go_wp2
    rw[rounds_succ]
    go_wp2
    go_ret
    exact⟨by simp[orI,ha,hb,hc],GW.refl _⟩
   ·go_enter Try.func70,Try.ntmps70
    go_wp2
    refine wp_loop_rounds 4 ?_;rw[rounds_succ]
    go_wp2
    rw[rounds_succ]
    go_wp2
    rw[rounds_succ]
    go_wp2
    go_ret
    exact⟨by simp[orI,ha,hb],GW.refl _⟩
  ·go_enter Try.func70,Try.ntmps70
   go_wp2
   refine wp_loop_rounds 4 ?_;rw[rounds_succ]
   go_wp2
   rw[rounds_succ]
   go_wp2
   go_ret
   exact⟨by simp[orI,ha,hb],GW.refl _⟩
 ·go_enter Try.func70,Try.ntmps70
  go_wp2
  refine wp_loop_rounds 4 ?_;rw[rounds_succ]
  go_wp2
  go_ret
  exact⟨by simp[orI,ha],GW.refl _⟩
def LW(a b c:Int)(v:Value)(w:World):Prop:=∃k,v=.slice (some ⟨k,0,none⟩) 3 3/\w.cell? ⟨k,0,none⟩=some (.int .i64 a)/\w.cell? ⟨k,1,none⟩=some (.int .i64 b)/\w.cell? ⟨k,2,none⟩=some (.int .i64 c)
theorem rkw{w w':World}(h:GW w w'):RK (λ_=>False) w w':=by
 obtain⟨q,os,rfl⟩:=h;refine⟨by simp[grow],λb hb _=>?_⟩;show(w.heap++os)[b]?=_;rw[Array.getElem?_append_left hb]
theorem Aj{w:World}{b o:Nat}{v:Value}(h:w.cell? ⟨b,o,none⟩=some v):b<w.heap.size:=World.block_lt_of_cell? w _ h
theorem Ev{a b c:Int}(w w':World)(u:Value)(h:RK (λ_=>False) w w')(hs:LW a b c u w):LW a b c u w':=by
 obtain⟨k,h1,h2,h3,h4⟩:=hs;have hk:=Aj h2;exact⟨k,h1,by rw[h.cell hk id];exact h2,by rw[h.cell hk id];exact h3,by rw[h.cell hk id];exact h4⟩
theorem GR(a b c:Int)(w:World)(t:TypeId):LW a b c (.slice (some ⟨w.heap.size,0,none⟩) 3 3) (w.alloc (.cells #[.int .i64 a,.int .i64 b,.int .i64 c] t)):=by
 refine⟨_,rfl,?_,?_,?_⟩<;>rw[World.cell?_alloc_new]<;>rfl
theorem uC{W w':World}{a b c d:Value}{t t':TypeId}(h:GW ((W.alloc (.cells #[a,b] t)).alloc (.cells #[c,d] t')) w'):
 w'.cell? ⟨W.heap.size,0,none⟩=some a/\w'.cell? ⟨W.heap.size,1,none⟩=some b/\w'.cell? ⟨W.heap.size+1,0,none⟩=some c/\w'.cell? ⟨W.heap.size+1,1,none⟩=some d:=by
 have hk:=rkw h
 have e1:∀o v,(W.alloc (.cells #[a,b] t)).cell? ⟨W.heap.size,o,none⟩=some v->w'.cell? ⟨W.heap.size,o,none⟩=some v:=λo v hv=>by
  rw[hk.cell (by simp;omega) id,World.cell?_of_block (heap_alloc_old _ _ (by simp))];exact hv
 have e2:∀o v,((W.alloc (.cells #[a,b] t)).alloc (.cells #[c,d] t')).cell? ⟨W.heap.size+1,o,none⟩=some v->w'.cell? ⟨W.heap.size+1,o,none⟩=some v:=λo v hv=>by
  rw[hk.cell (by simp) id];exact hv
 have hs:W.heap.size+1=(W.alloc (.cells #[a,b] t)).heap.size:=by simp
 refine⟨e1 _ _ ?_,e1 _ _ ?_,e2 _ _ ?_,e2 _ _ ?_⟩
 ·rw[World.cell?_alloc_new];rfl
 ·rw[World.cell?_alloc_new];rfl
 ·rw[hs,World.cell?_alloc_new];rfl
 ·rw[hs,World.cell?_alloc_new];rfl
set_option maxHeartbeats 4000000 in
set_option maxRecDepth 100000 in
theorem EY(x y:PID)(W:World):Calls Try.prog 45 #[.agg #[.int .i64 x.1,.int .i64 x.2],.agg #[.int .i64 y.1,.int .i64 y.2]] W λe w'=>e=.returned (.int .i64 (Bb x y))/\GW W w':=by
 go_enter Try.func45,Try.ntmps45
 go_wp2_with fail
 refine gK (λw'=>GW ((W.alloc (.cells #[.int .i64 x.1,.int .i64 x.2] 56)).alloc (.cells #[.int .i64 y.1,.int .i64 y.2] 56)) w') (RK λ_=>False)
  [bD (.agg #[.int .i64 x.1,.int .i64 x.2]),bD (.int .i64 (mH x.1)),bD (.agg #[.int .i64 y.1,.int .i64 y.2]),bD (.int .i64 (mH y.1)),bD (.int .i64 (uy (mH x.1) (mH y.1))),bD (.pointer (some ⟨W.heap.size,0,none⟩)),bD (.int .i64 x.1),bD (.pointer (some ⟨W.heap.size+1,0,none⟩)),bD (.int .i64 y.1),bD (.int .i64 (uy x.1 y.1)),bD (.pointer (some ⟨W.heap.size,1,none⟩)),bD (.int .i64 x.2),bD (.pointer (some ⟨W.heap.size+1,1,none⟩)),bD (.int .i64 y.2),bD (.int .i64 (uy x.2 y.2)),LW (uy (mH x.1) (mH y.1)) (uy x.1 y.1) (uy x.2 y.2),bD (.int .i64 (Bb x y)),bD (.int .i64 (Bb x y))]
  22 (by kernel_rfl) rfl (by kernel_rfl) (GW.drew _) (λ_=>RK.refl _ _) ?_ ?_ ?_
 ·exact⟨bD.kept,bD.kept,bD.kept,bD.kept,bD.kept,bD.kept,bD.kept,bD.kept,bD.kept,bD.kept,bD.kept,bD.kept,bD.kept,bD.kept,bD.kept,Ev,bD.kept,bD.kept,trivial⟩
 ·refine aU ?_ (aU ?_ (aU ?_ (aU ?_ (aU ?_ (aU ?_ (aU ?_ (aU ?_ (aU ?_ (aU ?_ (aU ?_ (aU ?_ (aU ?_ (aU ?_ (aU ?_ (aU ?_ (aU ?_ (aU ?_ mz)))))))))))))))))
  ·refine ba rfl λf w1 hb H=>?_;have e2:f 2=_:=H 2 (by decide);clear H;have hc:=uC hb;obtain⟨c0,c1,c2,c3⟩:=hc;have HB:=Lib.hid hb;clear hb
   go_simp
   exact⟨HB.out,RK.refl _ _,rfl⟩
  ·refine ba rfl λf w1 hb H=>?_;have e5:f 5=_:=H 5 (by decide);clear H;have HB:=Lib.hid hb;clear hb
   go_simp
   refine(Bf x w1).mono ?_;rintro e w2 ⟨rfl,hg⟩;exact⟨_,rfl,HB.out.trans hg,rkw hg,rfl⟩
  ·refine ba rfl λf w1 hb H=>?_;have e3:f 3=_:=H 3 (by decide);clear H;have hc:=uC hb;obtain⟨c0,c1,c2,c3⟩:=hc;have HB:=Lib.hid hb;clear hb
   go_simp
   exact⟨HB.out,RK.refl _ _,rfl⟩
  ·refine ba rfl λf w1 hb H=>?_;have e7:f 7=_:=H 7 (by decide);clear H;have HB:=Lib.hid hb;clear hb
   go_simp
   refine(Bf y w1).mono ?_;rintro e w2 ⟨rfl,hg⟩;exact⟨_,rfl,HB.out.trans hg,rkw hg,rfl⟩
  ·refine ba rfl λf w1 hb H=>?_;have e6:f 6=_:=H 6 (by decide);have e8:f 8=_:=H 8 (by decide);clear H;have HB:=Lib.hid hb;clear hb
   go_simp
   refine(Af _ _ w1).mono ?_;rintro e w2 ⟨rfl,hg⟩;exact⟨_,rfl,HB.out.trans hg,rkw hg,rfl⟩
  ·refine ba rfl λf w1 hb H=>?_;have e2:f 2=_:=H 2 (by decide);clear H;have HB:=Lib.hid hb;clear hb
   go_simp
   exact⟨HB.out,RK.refl _ _,rfl⟩
  ·refine ba rfl λf w1 hb H=>?_;have e10:f 10=_:=H 10 (by decide);clear H;have hc:=uC hb;obtain⟨c0,c1,c2,c3⟩:=hc;have HB:=Lib.hid hb;clear hb
   go_simp
   exact⟨HB.out,RK.refl _ _,rfl⟩
  ·refine ba rfl λf w1 hb H=>?_;have e3:f 3=_:=H 3 (by decide);clear H;have HB:=Lib.hid hb;clear hb
   go_simp
   exact⟨HB.out,RK.refl _ _,rfl⟩
  ·refine ba rfl λf w1 hb H=>?_;have e12:f 12=_:=H 12 (by decide);clear H;have hc:=uC hb;obtain⟨c0,c1,c2,c3⟩:=hc;have HB:=Lib.hid hb;clear hb
   go_simp
   exact⟨HB.out,RK.refl _ _,rfl⟩
  ·refine ba rfl λf w1 hb H=>?_;have e11:f 11=_:=H 11 (by decide);have Lk:f 13=_:=H 13 (by decide);clear H;have HB:=Lib.hid hb;clear hb
   go_simp
   refine(Af _ _ w1).mono ?_;rintro e w2 ⟨rfl,hg⟩;exact⟨_,rfl,HB.out.trans hg,rkw hg,rfl⟩
  ·refine ba rfl λf w1 hb H=>?_;have e2:f 2=_:=H 2 (by decide);clear H;have HB:=Lib.hid hb;clear hb
   go_simp
   exact⟨HB.out,RK.refl _ _,rfl⟩
  ·refine ba rfl λf w1 hb H=>?_;have e15:f 15=_:=H 15 (by decide);clear H;have hc:=uC hb;obtain⟨c0,c1,c2,c3⟩:=hc;have HB:=Lib.hid hb;clear hb
   go_simp
   exact⟨HB.out,RK.refl _ _,rfl⟩
  ·refine ba rfl λf w1 hb H=>?_;have e3:f 3=_:=H 3 (by decide);clear H;have HB:=Lib.hid hb;clear hb
   go_simp
   exact⟨HB.out,RK.refl _ _,rfl⟩
  ·refine ba rfl λf w1 hb H=>?_;have e17:f 17=_:=H 17 (by decide);clear H;have hc:=uC hb;obtain⟨c0,c1,c2,c3⟩:=hc;have HB:=Lib.hid hb;clear hb
   go_simp
   exact⟨HB.out,RK.refl _ _,rfl⟩
  ·refine ba rfl λf w1 hb H=>?_;have e16:f 16=_:=H 16 (by decide);have e18:f 18=_:=H 18 (by decide);clear H;have HB:=Lib.hid hb;clear hb
   go_simp
   refine(Af _ _ w1).mono ?_;rintro e w2 ⟨rfl,hg⟩;exact⟨_,rfl,HB.out.trans hg,rkw hg,rfl⟩
  ·refine ba rfl λf w1 hb H=>?_;have e9:f 9=_:=H 9 (by decide);have e14:f 14=_:=H 14 (by decide);have e19:f 19=_:=H 19 (by decide);clear H;have HB:=Lib.hid hb;clear hb
   go_simp
   exact⟨HB.out.trans (GW.alloc _ _),rkw (GW.alloc _ _),GR _ _ _ _ _⟩
  ·refine ba rfl λf w1 hb H=>?_;have s20:=H 20 (by decide);clear H;obtain⟨k,s20a,Qe,Qf,Qg⟩:=s20;have HB:=Lib.hid hb;clear hb
   go_simp
   refine(K3 _ _ _ k w1 Qe Qf Qg).mono ?_;rintro e w2 ⟨rfl,hg⟩;exact⟨_,rfl,HB.out.trans hg,rkw hg,rfl⟩
  ·refine ba rfl λf w1 hb H=>?_;have e21:f 21=_:=H 21 (by decide);clear H;have HB:=Lib.hid hb;clear hb
   go_simp
   exact⟨HB.out,RK.refl _ _,rfl⟩
 ·intro f w9 hb hE;simp only[fO,Act.put,yL,List.setIfInBounds_toArray,List.set_cons_succ,List.set_cons_zero]
  have e4:f 4=.int .i64 (Bb x y):=by
   simp only[KD,BT,bD]at hE;simp[hE]
  rw[e4];clear hE e4
  go_wp2
  go_ret
  exact⟨rfl,((GW.alloc _ _).trans (GW.alloc _ _)).trans hb⟩
end Go.Proofs.Ytbdhpgelkfncpaa
namespace Go.Proofs.Ytbdhpgelkfncpaa
open Go.RowKit Go.Sort Go.Lib
def hJ(x:PID):List Value:=[.int .i64 x.1,.int .i64 x.2]
theorem K0(x y:PID)(w:World):Sem.run Try.prog (binOp .eql 56 (.agg #[.int .i64 x.1,.int .i64 x.2]) (.agg #[.int .i64 y.1,.int .i64 y.2])) w=.ok (.bool (decide (x=y))) w:=by
 have u3:=Try.underlying3;have a3:=Try.isAgg3;have z3:=Try.sizeOf3
 have hS:Try.prog.underlying 56=some (.struct (Try.prog.fieldsOf 56)):=by kernel_rfl
 have hp:Try.prog.stoodInHeld 56=false:=by kernel_rfl
 rw[run_eql_struct,show(10000:Nat)=9999+1 from rfl,run_equalIn_agg w 9999 56 _ _ hS hp];simp only[Program.fieldsOf,Try.underlying56]
 go_simp
 by_cases h1:x.fst=y.fst<;>by_cases h2:x.snd=y.snd<;>simp[h1,h2,Prod.ext_iff]
theorem dw{W:World}{Zo off:Nat}{d:Array PID}(h:HoldsK hJ 2 W Zo off d){i:Nat}(hi:i<d.size):
 W.cell? ⟨Zo,off+i*2,none⟩=some (.int .i64 d[i]!.1)/\W.cell? ⟨Zo,off+i*2+1,none⟩=some (.int .i64 d[i]!.2)/\W.frozen? ⟨Zo,off+i*2,none⟩=false/\W.frozen? ⟨Zo,off+i*2+1,none⟩=false:=by
 have h0:=h.cell hi (c:=0) (by omega);have h1:=h.cell hi (c:=1) (by omega);exact⟨by simpa[hJ]using h0.1,by simpa[hJ]using h1.1,by simpa using h0.2,by simpa using h1.2⟩
theorem KP{w wr:World}{n Zo off:Nat}{dk:Array PID}{i:Nat}(hi:i<dk.size)(S2:wr=putRowK hJ 2 (Sort.ahead w n) Zo off dk)(x:PID):
 ((wr.drew.setCell ⟨Zo,off+i*2,none⟩ (.int .i64 x.1)).setCell ⟨Zo,off+i*2+1,none⟩ (.int .i64 x.2))=putRowK hJ 2 (Sort.ahead w (n+1)) Zo off (dk.setIfInBounds i x):=by
 subst S2
 have hb:i*2+(hJ x).length<=(flatK hJ 2 dk).size:=by simp[hJ];omega
 have e:=setCells_putRow (Sort.ahead w (n+1)) Zo off (hJ x) (i*2) (flatK hJ 2 dk) hb
 have e2:setMany (flatK hJ 2 dk) (i*2) (hJ x)=flatK hJ 2 (dk.setIfInBounds i x):=by
  refine ext_get! (by simp) λt ht=>?_
  have YQ:t<dk.size*2:=by simpa using ht
  rw[get_setMany _ _ _ t (by simpa using YQ),get_flatK _ _ _ t YQ,get_flatK _ _ _ t (by simpa using YQ)]
  have hq:t/2<dk.size:=by omega
  by_cases a:t/2=i
  ·rw[oIP (by simp[hJ];omega)]
   have:t-i*2=t%2:=by omega
   rw[this,a];simp[show i<dk.size from hi]
  ·rw[oIN (by simp[hJ];omega)];simp[Array.getElem!_eq_getD,Array.getD,hq,Array.getElem_setIfInBounds,Ne.symm a]
 rw[e2]at e;exact e
structure dE (b:Nat)(w w':World):Prop where
 os:w'.os=w.os
 tape:w'.tape=w.tape
 output:w'.output=w.output
 size:w'.heap.size=w.heap.size
 block:∀k,k≠b->w'.heap[k]?=w.heap[k]?
theorem dE.set(b o:Nat)(w:World)(v:Value):dE b w (w.setCell ⟨b,o,none⟩ v):=⟨rfl,rfl,rfl,by simp,λk hk=>Below.heap_setCell w _ v k hk⟩
theorem dE.refl(b:Nat)(w:World):dE b w w:=⟨rfl,rfl,rfl,rfl,λ_ _=>rfl⟩
theorem dE.trans{b:Nat}{w w' Xa:World}(h:dE b w w')(h':dE b w' Xa):dE b w Xa:=
 ⟨h'.os.trans h.os,h'.tape.trans h.tape,h'.output.trans h.output,h'.size.trans h.size,λk hk=>(h'.block k hk).trans (h.block k hk)⟩
theorem dE.setCells(b:Nat):∀(vs:List Value)(o:Nat)(w:World),dE b w (w.setCells b o vs)
 | [],_,_=>dE.refl _ _
 |v::r,o,w=>(dE.set b o w v).trans (dE.setCells b r (o+1) _)
theorem dE.ahead(b:Nat)(w:World)(n:Nat):dE b w (Sort.ahead w n):=⟨rfl,rfl,rfl,rfl,λ_ _=>rfl⟩
theorem dE.drewN(b:Nat)(w:World)(n:Nat):dE b w (w.drewN n):=⟨rfl,rfl,rfl,rfl,λ_ _=>rfl⟩
theorem dE.putRow(b off:Nat)(w:World)(d:Array PID):dE b w (putRowK hJ 2 w b off d):=by
 unfold putRowK Go.Sort.putRow mapBlock;exact⟨rfl,rfl,rfl,by simp,λk hk=>by simp[Array.getElem?_modify,Ne.symm hk]⟩
def lf(w:World)(b off:Nat)(l:List PID):Prop:=∀i (h:i<l.length),w.cell? ⟨b,off+i*2,none⟩=some (.int .i64 l[i].1)/\w.cell? ⟨b,off+i*2+1,none⟩=some (.int .i64 l[i].2)
theorem L0(x y:PID)(w:World):Sem.run Try.prog (binOp .neq 56 (.agg #[.int .i64 x.1,.int .i64 x.2]) (.agg #[.int .i64 y.1,.int .i64 y.2])) w=.ok (.bool (!decide (x=y))) w:=by
 have h:=K0 x y w;rw[run_eql_struct]at h;rw[run_neq_struct];revert h
 cases(Op.equalIn 10000 56 (.agg #[.int .i64 x.1,.int .i64 x.2]) (.agg #[.int .i64 y.1,.int .i64 y.2])).run Try.prog w with
 |ok b w'=>intro h;simp only[Result.andThen_ok]at h⊢;injection h with h1 h2;injection h1 with h1;rw[h1,h2]
 |_=>intro h;simp[Result.andThen]at h
theorem G6(op:BinOp)(a b:Operand)(x y:PID)(w:World):Sem.run Try.prog (eqGuard op 56 a b (.agg #[.int .i64 x.1,.int .i64 x.2]) (.agg #[.int .i64 y.1,.int .i64 y.2])) w=.ok () w:=
 (GuardAt.agg (P:=Try.prog) (T:=56) (λx:PID=>#[.int .i64 x.1,.int .i64 x.2]) (by kernel_rfl)) op a b x y w
theorem io(b:Nat):∀(vs:List Value)(o:Nat){w:World}{j:Nat},j<o->(w.setCells b o vs).cell? ⟨b,j,none⟩=w.cell? ⟨b,j,none⟩
 | [],_,_,_,_=>rfl
 |v::r,o,w,j,h=>by
  show((w.setCell ⟨b,o,none⟩ v).setCells b (o+1) r).cell? _=_;rw[io b r (o+1) (by omega)];refine World.cell?_setCell_other (h:=?_) ..
  intro e;injection e with _ e _;omega
theorem C9(w:World)(ty:TypeId)(b o n c:Nat)(hn:0<n)(hc:∀j,j<n*2->(w.cell? ⟨b,o+j,none⟩).isSome=true/\w.frozen? ⟨b,o+j,none⟩=false):
 (Builtin.clear_ #[68] ty #[.slice (some ⟨b,o,none⟩) n c]).run Try.prog w=.ok (.tuple #[]) (w.setCells b o (List.replicate (n*2) (.int .i64 0))):=by
 have Xw:(Builtin.zeroCells #[.int .i64 0,.int .i64 0] n).toList=List.replicate (n*2) (.int .i64 0):=by
  simp[Builtin.zeroCells];apply List.ext_getElem
  ·simp
  ·intro i h1 h2;simp only[List.getElem_map,List.getElem_replicate]
   rcases Nat.mod_two_eq_zero_or_one i with e|e<;>simp[e]
 have hst:=run_storeCells_cells (P:=Try.prog) b o (List.replicate (n*2) (.int .i64 0)) 0 w (λj hj=>by simpa using(hc j (by simpa using hj)).1) (λj hj=>by simpa using(hc j (by simpa using hj)).2) (by intro v YB;rw[List.eq_of_mem_replicate YB];rfl);simp only[Nat.add_zero]at hst;obtain⟨m,rfl⟩:∃m,n=m+1:=⟨n-1,by omega⟩;have hv:∀w,(zeroValue 56).run Try.prog w=.ok (.agg #[.int .i64 0,.int .i64 0]) w:=Try.zeroValue56;simp[Builtin.clear_,run_underlying Try.underlying68,hv,Value.cells,Xw,hst]
def Kl(w w':World)(Zo off:Nat)(d:Array PID):Prop:=lf w' Zo off (compactUpTo d d.size)/\dE Zo w w'
theorem xu{w:World}{Zo off:Nat}{d:Array PID}(h:HoldsK hJ 2 w Zo off d){l:List PID}(hl:l.length<=d.size)(he:∀i (h:i<l.length),l[i]=d[i]!):lf w Zo off l:=λi hi=>by
 have:=dw h (i:=i) (by omega);rw[he i hi];exact⟨this.1,this.2.1⟩
set_option maxHeartbeats 8000000 in
set_option maxRecDepth 1000000 in
theorem z8(Zo off cap:Nat)(d:Array PID)(w:World)(hH:HoldsK hJ 2 w Zo off d)(hcap:d.size<=cap)(hsz:d.size<=4611686018427387904):
 Calls Try.prog 79 #[.slice (some ⟨Zo,off,none⟩) d.size cap] w λe w'=>e=.returned (.slice (some ⟨Zo,off,none⟩) (compactUpTo d d.size).length cap)/\Kl w w' Zo off d:=by
 have mixed:Try.prog.follows .mixedOrders=true:=by kernel_rfl
 have heq':=λx y w=>K0 x y w;have hne':=λx y w=>L0 x y w;have hgd':=λop a b x y w=>G6 op a b x y w
 have same:∀q,(∀j,j<d.size->keeps d j=true)->(compactUpTo d d.size).length=d.size/\Kl w (w.drewN q) Zo off d:=by
  intro q ZW
  have e:compactUpTo d d.size=d.toList:=by rw[compactUpTo_all d _ ZW,range_map_get]
  refine⟨by rw[e];simp,?_,dE.drewN _ _ _⟩;rw[e]
  exact xu (d:=d) (holdsK_ahead hJ 2 w q Zo off d hH) (by simp) λi hi=>by simp at hi;simp[hi]
 have HS:Aside (∀q,(∀j,j<d.size->keeps d j=true)->(compactUpTo d d.size).length=d.size/\Kl w (w.drewN q) Zo off d):=same;clear same;by_cases h2:d.size<2
 ·have HH:Aside (HoldsK hJ 2 w Zo off d):=hH;clear hH
  go_enter Try.func79,Try.ntmps79
  go_wp2
  go_ret
  obtain⟨e1,e2⟩:=HS.out 0 (λj hj=>keeps_lt_one d j (by omega));exact⟨by rw[e1];rfl,e2⟩
 ·go_enter Try.func79,Try.ntmps79
  go_wp2
  go_loopg [3] d.size (λg s3 wr=>∃k q:Nat,1<=k/\k<=d.size/\d.size-k<=g/\s3=.int .i64 k/\wr=w.drewN q/\∀j,j<k->keeps d j=true)
  case atStart=>exact⟨1,0,Nat.le_refl _,by omega,by omega,rfl,rfl,keeps_lt_one d⟩
  case round=>
   obtain⟨k,q,Yf,hk,hg,rfl,rfl,ZW⟩:=hrel;by_cases hlt:k<d.size
   ·obtain⟨c1,Oo,f1,f1'⟩:=dw hH hlt;obtain⟨c0,CB,f0,f0'⟩:=dw hH (i:=k-1) (by omega);have A:Aside (∀j,j<k->keeps d j=true):=ZW;have HH:Aside (HoldsK hJ 2 w Zo off d):=hH;clear ZW hH;generalize hx:d[k]! = x at c1 Oo;generalize hy:d[k-1]! = y at c0 CB;have B:Aside (d[k]! = x/\d[k-1]! = y):=⟨hx,hy⟩;clear hx hy;by_cases hdup:x=y
    ·subst hdup
     go_wp2_with fail
     go_region_o
     go_wp2
     clear c0 c1 CB Oo f0 f1 f0' f1'
     go_loopg [3,5] d.size (λg s3 s5 wr=>∃(kk k2 q2:Nat)(dk:Array PID),s3=.int .i64 kk/\s5=.int .i64 k2/\1<=k2/\k+k2<=d.size/\d.size-(k+k2)<=g/\wr=putRowK hJ 2 (Sort.ahead w q2) Zo off dk/\CompInv d (k+k2) kk dk)
     case atStart=>exact⟨k,1,q+1,d,rfl,rfl,Nat.le_refl _,by omega,by omega,(putRowK_self hJ 2 (Sort.ahead w (q+1)) Zo off d (holdsK_ahead hJ 2 w (q+1) Zo off d HH.out)).symm,CompInv.start A.out (keeps_neg (by omega) (by rw[B.out.1,B.out.2]))⟩
     case round=>
      obtain⟨kk,k2,q2,dk,rfl,rfl,h1,YO,ZH,S2,hI⟩:=hrel;have hkk:=hI.lt;have hds:=hI.size
      have Tm:HoldsK hJ 2 wr Zo off dk:=by rw[S2];exact holdsK_putRowK hJ 2 _ Zo off d dk (holdsK_ahead hJ 2 w q2 Zo off d HH.out) hds
      have W2:Aside (wr=putRowK hJ 2 (Sort.ahead w q2) Zo off dk):=S2;have I2:Aside (CompInv d (k+k2) kk dk):=hI;clear S2;by_cases hlt2:k+k2<d.size
      ·obtain⟨cm,I',_,_⟩:=dw Tm (i:=k+k2) (by omega);obtain⟨cp,J',_,_⟩:=dw Tm (i:=k+k2-1) (by omega);obtain⟨ck,ck',fk,fk'⟩:=dw Tm (i:=kk) (by omega);rw[hI.high (k+k2) (by omega),show off+(k+k2)*2=off+k*2+k2*2 by omega]at cm I';rw[hI.high (k+k2-1) (by omega),show off+(k+k2-1)*2=off+k*2+(k2-1)*2 by omega]at cp J';clear Tm hI;generalize hu:d[k+k2]! = u at cm I';generalize hv:d[k+k2-1]! = v at cp J';generalize dk[kk]! = old at ck ck';have C:Aside (d[k+k2]! = u/\d[k+k2-1]! = v):=⟨hu,hv⟩;clear hu hv;by_cases huv:u=v
       ·subst huv
        go_wp2_with fail
        go_region_o
        go_wp2
        go_roundg (d.size-(k+(k2+1)))
        case measure=>omega
        case rel=>exact⟨kk,k2+1,q2+1,dk,rfl,by go_num,by omega,by omega,Nat.le_refl _,by rw[W2.out];rfl,I2.out.skip (keeps_neg (by omega) (by rw[C.out.1,C.out.2]))⟩
       ·go_wp2_with fail
        go_region_o
        go_wp2
        go_roundg (d.size-(k+(k2+1)))
        case measure=>omega
        case rel=>exact⟨kk+1,k2+1,q2+1,dk.setIfInBounds kk u,by go_num,by go_num,by omega,by omega,Nat.le_refl _,KP (by omega) W2.out u,by have:=I2.out.keep hlt2 (keeps_pos (by rw[C.out.1,C.out.2];exact huv));rwa [C.out.1]at this⟩
      ·have WV:k+k2=d.size:=by omega
       have hcl:∀ty,(Builtin.clear_ #[68] ty #[.slice (some ⟨Zo,off+kk*2,none⟩) (d.size-kk) (cap-kk)]).run Try.prog wr=.ok (.tuple #[]) (wr.setCells Zo (off+kk*2) (List.replicate ((d.size-kk)*2) (.int .i64 0))):=λty=>C9 wr ty Zo (off+kk*2) (d.size-kk) (cap-kk) (by omega) λj hj=>by
        have h:=dw Tm (i:=kk+j/2) (by omega);rcases Nat.mod_two_eq_zero_or_one j with e|e
        ·rw[show off+kk*2+j=off+(kk+j/2)*2 by omega];exact⟨by rw[h.1];rfl,h.2.2.1⟩
        ·rw[show off+kk*2+j=off+(kk+j/2)*2+1 by omega];exact⟨by rw[h.2.1];rfl,h.2.2.2⟩
       have HK:=Lib.hid Tm;clear Tm hI
       go_wp2
       go_ret
       have hI:=I2.out;rw[WV]at hI;have hl:=hI.len;refine⟨by rw[hl];rfl,λi hi=>?_,?_⟩
       ·rw[hl]at hi;have X1:=hI.low i hi;obtain⟨g1,g2,_,_⟩:=dw HK.out (i:=i) (by omega)
        have e:(compactUpTo d d.size)[i]'(by rw[hl];exact hi)=dk[i]!:=by
         have:=oGS X1;exact this.2
        rw[e];exact⟨by rw[io _ _ _ (by omega)];exact g1,by rw[io _ _ _ (by omega)];exact g2⟩
       ·rw[W2.out];exact((dE.ahead _ _ _).trans (dE.putRow _ _ _ _)).trans (dE.setCells _ _ _ _)
    ·go_wp2_with fail
     go_region_o
     go_wp2
     go_roundg (d.size-(k+1))
     case measure=>omega
     case rel=>
      refine⟨k+1,q+1,by omega,by omega,Nat.le_refl _,by go_num,rfl,λj hj=>?_⟩;by_cases e:j=k
      ·subst e;exact keeps_pos (by rw[B.out.1,B.out.2];exact hdup)
      ·exact A.out j (by omega)
   ·have:k=d.size:=by omega
    subst this;have HH:Aside (HoldsK hJ 2 w Zo off d):=hH;clear hH
    go_wp2
    go_ret
    obtain⟨e1,e2⟩:=HS.out q ZW;exact⟨by rw[e1];rfl,e2⟩
theorem km(a b:PID):cH a b=true↔(a.1≠-1/\b.1=-1)\/((a.1=-1↔b.1=-1)/\(a.1<b.1\/a.1=b.1/\a.2<b.2)):=by
 unfold cH;by_cases h1:a.1=-1<;>by_cases h2:b.1=-1<;>simp[h1,h2,oBF]
theorem fR(a:PID):cH a a=false:=by
 rw[<- Bool.not_eq_true,km];omega
theorem kQ{a b c:PID}(h1:cH a b=true)(h2:cH b c=true):cH a c=true:=by
 rw[km]at *;omega
theorem sK{a b:PID}(h1:cH a b=false)(h2:cH b a=false):a=b:=by
 rw[<- Bool.not_eq_true,km]at *
 have e1:a.1=b.1:=by omega
 have e2:a.2=b.2:=by omega
 exact Prod.ext e1 e2
theorem An{a b:PID}(h1:cH a b=true):cH b a=false:=by
 rw[<- Bool.not_eq_true];intro h2;have:=kQ h1 h2;rw[fR]at this;cases this
theorem ux(a b:Int):(a<b/\uy a b=-1)\/(a=b/\uy a b=0)\/(b<a/\uy a b=1):=by
 unfold uy;by_cases h:a<b
 ·exact .inl ⟨h,oIP h⟩
 ·rw[oIN h];by_cases h2:b<a
  ·exact .inr (.inr ⟨h2,oIP h2⟩)
  ·exact .inr (.inl ⟨by omega,oIN h2⟩)
theorem rJ(a:Int):(a=-1/\mH a=1)\/(a≠-1/\mH a=0):=by
 unfold mH;by_cases h:a=-1
 ·exact .inl ⟨h,oIP h⟩
 ·exact .inr ⟨h,oIN h⟩
theorem kB(x y:PID):ltOf Bb x y=cH x y:=by
 rw[Bool.eq_iff_iff,km];unfold ltOf Bb;rw[decide_eq_true_iff]
 rcases rJ x.1 with⟨h1,e1⟩|⟨h1,e1⟩<;>rcases rJ y.1 with⟨h2,e2⟩|⟨h2,e2⟩<;>rw[e1,e2]<;>rcases ux x.1 y.1 with⟨h3,e3⟩|⟨h3,e3⟩|⟨h3,e3⟩<;>rw[e3] <;>
  rcases ux x.2 y.2 with⟨h4,e4⟩|⟨h4,e4⟩|⟨h4,e4⟩<;>rw[e4]<;>simp only[orI,uy]<;>simp<;>omega
theorem I0:SWO (ltOf Bb) where
 irrefl x:=by rw[kB];exact fR x
 trans x y z h1 h2:=by rw[kB]at *;exact kQ h1 h2
 ntrans x y z h1 h2:=by
  rw[kB]at *;rw[<- Bool.not_eq_true,km]at *;omega
abbrev Asc(l:List PID):Prop:=l.Pairwise λa b=>cH a b=true
theorem uE:∀{a b:List PID},Asc a->Asc b->(∀x,x∈a↔x∈b)->a=b
 | [],[],_,_,_=>rfl
 | [],y::b,_,_,h=>by have:=(h y).2 (by simp);simp at this
 |x::a,[],_,_,h=>by have:=(h x).1 (by simp);simp at this
 |x::a,y::b,ha,hb,h=>by
  have Ww:=List.pairwise_cons.1 ha;have YN:=List.pairwise_cons.1 hb
  have e:x=y:=by
   have h1:=(h x).1 (by simp);have h2:=(h y).2 (by simp);rcases List.mem_cons.1 h1 with e|h1
   ·exact e
   ·rcases List.mem_cons.1 h2 with e|h2
    ·exact e.symm
    ·have g1:=YN.1 x h1;have g2:=Ww.1 y h2;rw[An g1]at g2;cases g2
  subst e;rw[uE Ww.2 YN.2 λz=>?_];constructor
  ·intro hz
   rcases List.mem_cons.1 ((h z).1 (by simp[hz]))with e|h1
   ·subst e;have:=Ww.1 z hz;rw[fR]at this;cases this
   ·exact h1
  ·intro hz
   rcases List.mem_cons.1 ((h z).2 (by simp[hz]))with e|h1
   ·subst e;have:=YN.1 z hz;rw[fR]at this;cases this
   ·exact h1
theorem vn(x z:PID):∀{l:List PID},z∈tp l x↔z=x\/z∈l
 | []=>by simp[tp]
 |y::r=>by
  unfold tp;split
  ·rw[List.mem_cons,vn x z,List.mem_cons];constructor
   ·rintro(h|h|h)<;>simp[h]
   ·rintro(h|h|h)<;>simp[h]
  ·split
   ·rename_i e;subst e;simp
   ·simp
theorem zw(x:PID):∀{l:List PID},Asc l->Asc (tp l x)
 | [],_=>by simp[tp]
 |y::r,h=>by
  have h':=List.pairwise_cons.1 h;unfold tp;split
  ·rename_i hy;refine List.pairwise_cons.2 ⟨λz hz=>?_,zw x h'.2⟩
   rcases(vn x z).1 hz with rfl|hz
   ·exact hy
   ·exact h'.1 z hz
  ·rename_i hy;split
   ·exact h
   ·rename_i hne
    have S4:cH x y=true:=by
     rw[<- Bool.not_eq_false];intro e;exact hne (sK (by simpa using hy) e)
    refine List.pairwise_cons.2 ⟨λz hz=>?_,h⟩;rcases List.mem_cons.1 hz with rfl|hz
    ·exact S4
    ·exact kQ S4 (h'.1 z hz)
theorem xM(l:List PID):∀{a:List PID},Asc a->Asc (l.foldl tp a)/\∀z,z∈l.foldl tp a↔z∈l\/z∈a:=by
 induction l with
 |nil=>intro a h;exact⟨h,λz=>by simp⟩
 |cons x l ih=>
  intro a h;obtain⟨h1,h2⟩:=ih (zw x h);refine⟨h1,λz=>?_⟩;rw[List.foldl_cons,h2,vn,List.mem_cons];constructor
  ·rintro(h|h|h)<;>simp[h]
  ·rintro((h|h)|h)<;>simp[h]
theorem DF(l:List PID):Asc (kx l):=(xM l (a:=[]) List.Pairwise.nil).1
theorem wC(l:List PID)(z:PID):z∈kx l↔z∈l:=by
 rw[kx,(xM l (a:=[]) List.Pairwise.nil).2];simp
theorem Gq{l m:List PID}(h:Asc m)(hm:∀z,z∈m↔z∈l):kx l=m:=uE (DF l) h λz=>(wC l z).trans (hm z).symm
theorem tP(d:Array PID)(hs:∀i,i+1<d.size->cH d[i+1]! d[i]! = false):∀m,m<=d.size ->
 Asc (compactUpTo d m)/\(∀z,z∈compactUpTo d m↔∃i,i<m/\z=d[i]!)/\(0<m->∀z∈compactUpTo d m,z=d[m-1]!\/cH z d[m-1]! = true):=by
 intro m
 induction m with
 |zero=>intro _;refine⟨by simp[compactUpTo],λz=>by simp[compactUpTo],λh=>by omega⟩
 |succ m ih=>
  intro hm;obtain⟨h1,h2,h3⟩:=ih (by omega);rw[compactUpTo_succ];by_cases h0:m=0
  ·subst h0;have:keeps d 0=true:=keeps_lt_one d 0 (by omega);rw[this];refine⟨by simp[compactUpTo],λz=>?_,λ_ z hz=>?_⟩
   ·simp only[compactUpTo,List.range_zero,List.filter_nil,List.map_nil,if_true,List.nil_append,List.mem_singleton];constructor
    ·intro e;exact⟨0,by omega,e⟩
    ·rintro⟨i,hi,e⟩;rw[e];congr 1;omega
   ·simp[compactUpTo]at hz;exact .inl hz
  ·have Tj:=h3 (by omega);have NJ:=hs (m-1) (by omega);rw[show m-1+1=m by omega]at NJ;by_cases e:d[m]! = d[m-1]!
   ·rw[keeps_neg (by omega) e];simp only[Bool.false_eq_true,if_false,List.append_nil];refine⟨h1,λz=>?_,λ_ z hz=>?_⟩
    ·rw[h2];constructor
     ·rintro⟨i,hi,hz⟩;exact⟨i,by omega,hz⟩
     ·rintro⟨i,hi,hz⟩;by_cases hi2:i=m
      ·subst hi2;exact⟨i-1,by omega,by rw[hz,e]⟩
      ·exact⟨i,by omega,hz⟩
    ·rw[Nat.add_sub_cancel,e];exact Tj z hz
   ·rw[keeps_pos e];simp only[if_true]
    have hlt:cH d[m-1]! d[m]! = true:=by
     rw[<- Bool.not_eq_false];intro g;exact e (sK NJ g)
    have ZW:∀z∈compactUpTo d m,cH z d[m]! = true:=λz hz=>by
     rcases Tj z hz with g|g
     ·rw[g];exact hlt
     ·exact kQ g hlt
    refine⟨List.pairwise_append.2 ⟨h1,by simp,λa ha b hb=>?_⟩,λz=>?_,λ_ z hz=>?_⟩
    ·rw[List.mem_singleton.1 hb];exact ZW a ha
    ·rw[List.mem_append,h2,List.mem_singleton];constructor
     ·rintro(⟨i,hi,hz⟩|hz)
      ·exact⟨i,by omega,hz⟩
      ·exact⟨m,by omega,hz⟩
     ·rintro⟨i,hi,hz⟩;by_cases hi2:i=m
      ·subst hi2;exact .inr hz
      ·exact .inl ⟨i,by omega,hz⟩
    ·rw[Nat.add_sub_cancel];rcases List.mem_append.1 hz with hz|hz
     ·exact .inr (ZW z hz)
     ·exact .inl (List.mem_singleton.1 hz)
theorem wc{l:List PID}{d:Array PID}(hp:∀z,z∈d.toList↔z∈l)(hs:∀i,i+1<d.size->cH d[i+1]! d[i]! = false):compactUpTo d d.size=kx l:=by
 obtain⟨h1,h2,_⟩:=tP d hs d.size (Nat.le_refl _);refine(Gq h1 λz=>?_).symm;rw[h2,<- hp];constructor
 ·rintro⟨i,hi,e⟩;rw[e];simp[hi]
 ·intro hz;obtain⟨i,hi,e⟩:=List.getElem_of_mem hz
  have ZK:i<d.size:=by simpa using hi
  exact⟨i,ZK,by rw[<- e];simp[ZK]⟩
end Go.Proofs.Ytbdhpgelkfncpaa
namespace Go.Proofs.Ytbdhpgelkfncpaa
open Go.Shelf
def yK:Go.Shelf.Ren:=⟨λ|6=>78|15=>90|14=>89|28=>101|29=>102|20=>93|21=>94|22=>95|23=>96|24=>97|25=>98|26=>99|27=>100|46=>103|47=>104|48=>105|49=>106|50=>107|57=>108|n=>n,λ|22=>68|24=>56|25=>84|3=>3|39=>117|0=>0|53=>129|55=>131|4=>4|46=>122|45=>121|50=>126|5=>5|9=>9|66=>132|70=>136|76=>138|77=>139|n=>n,λ|n=>n⟩
theorem DD:Go.Proofs.SlLaysF0.n6 Try.prog yK:={
 mixed:=by kernel_rfl
 f6:=⟨Try.f78.name,by decide,Try.func78.trans (congrArg some (by kernel_rfl))⟩
 f14:=⟨Try.f89.name,by decide,Try.func89.trans (congrArg some (by kernel_rfl))⟩
 f15:=Try.func90.trans (congrArg some (by kernel_rfl))
 f20:=⟨Try.f93.name,by decide,Try.func93.trans (congrArg some (by kernel_rfl))⟩
 f21:=⟨Try.f94.name,by decide,Try.func94.trans (congrArg some (by kernel_rfl))⟩
 f22:=⟨Try.f95.name,by decide,Try.func95.trans (congrArg some (by kernel_rfl))⟩
 f23:=⟨Try.f96.name,by decide,Try.func96.trans (congrArg some (by kernel_rfl))⟩
 f24:=⟨Try.f97.name,by decide,Try.func97.trans (congrArg some (by kernel_rfl))⟩
 f25:=⟨Try.f98.name,by decide,Try.func98.trans (congrArg some (by kernel_rfl))⟩
 f26:=⟨Try.f99.name,by decide,Try.func99.trans (congrArg some (by kernel_rfl))⟩
 f27:=⟨Try.f100.name,by decide,Try.func100.trans (congrArg some (by kernel_rfl))⟩
 f28:=Try.func101.trans (congrArg some (by kernel_rfl))
 f29:=Try.func102.trans (congrArg some (by kernel_rfl))
 f46:=⟨Try.f103.name,by decide,Try.func103.trans (congrArg some (by kernel_rfl))⟩
 f47:=Try.func104.trans (congrArg some (by kernel_rfl))
 f48:=Try.func105.trans (congrArg some (by kernel_rfl))
 f49:=⟨Try.f106.name,by decide,Try.func106.trans (congrArg some (by kernel_rfl))⟩
 f50:=⟨Try.f107.name,by decide,Try.func107.trans (congrArg some (by kernel_rfl))⟩
 f57:=⟨Try.f108.name,by decide,Try.func108.trans (congrArg some (by kernel_rfl))⟩
 t0:=Try.underlying0
 a0:=Try.isAgg0
 z0:=Try.sizeOf0
 v0:=Try.zeroValue0
 t3:=Try.underlying3
 a3:=Try.isAgg3
 z3:=Try.sizeOf3
 v3:=Try.zeroValue3
 t4:=Try.underlying4
 a4:=Try.isAgg4
 z4:=Try.sizeOf4
 v4:=Try.zeroValue4
 t5:=Try.underlying5
 a5:=Try.isAgg5
 z5:=Try.sizeOf5
 v5:=Try.zeroValue5
 t9:=Try.underlying9
 a9:=Try.isAgg9
 z9:=Try.sizeOf9
 v9:=Try.zeroValue9
 t22:=Try.underlying68
 a22:=Try.isAgg68
 z22:=Try.sizeOf68
 v22:=Try.zeroValue68
 t25:=Try.underlying84
 a25:=Try.isAgg84
 z25:=Try.sizeOf84
 v25:=Try.zeroValue84
 t39:=Try.underlying117
 a39:=Try.isAgg117
 z39:=Try.sizeOf117
 v39:=Try.zeroValue117
 t45:=Try.underlying121
 a45:=Try.isAgg121
 z45:=Try.sizeOf121
 v45:=Try.zeroValue121
 t46:=Try.underlying122
 a46:=Try.isAgg122
 z46:=Try.sizeOf122
 v46:=Try.zeroValue122
 t50:=Try.underlying126
 a50:=Try.isAgg126
 z50:=Try.sizeOf126
 v50:=Try.zeroValue126
 t53:=Try.underlying129
 a53:=Try.isAgg129
 z53:=Try.sizeOf129
 v53:=Try.zeroValue129
 t55:=Try.underlying131
 a55:=Try.isAgg131
 z55:=Try.sizeOf131
 v55:=Try.zeroValue131
 t66:=Try.underlying132
 a66:=Try.isAgg132
 z66:=Try.sizeOf132
 v66:=Try.zeroValue132
 t70:=Try.underlying136
 a70:=Try.isAgg136
 z70:=Try.sizeOf136
 v70:=Try.zeroValue136
 t76:=Try.underlying138
 a76:=Try.isAgg138
 z76:=Try.sizeOf138
 v76:=Try.zeroValue138
 t77:=Try.underlying139
 a77:=Try.isAgg139
 z77:=Try.sizeOf139
 v77:=Try.zeroValue139 }
def yg:Go.Shelf.Ren:=⟨λ|41=>77|n=>n,λ|22=>68|23=>56|4=>4|n=>n,λ|n=>n⟩
theorem BB:Go.Proofs.SlLaysE0.n41 Try.prog yg:={
 mixed:=by kernel_rfl
 f41:=⟨Try.f77.name,by decide,Try.func77.trans (congrArg some (by kernel_rfl))⟩
 t4:=Try.underlying4
 a4:=Try.isAgg4
 z4:=Try.sizeOf4
 v4:=Try.zeroValue4
 t22:=Try.underlying68
 a22:=Try.isAgg68
 z22:=Try.sizeOf68
 v22:=Try.zeroValue68 }
end Go.Proofs.Ytbdhpgelkfncpaa
namespace Go.Proofs.Ytbdhpgelkfncpaa
open Go.RowKit Go.Sort Go.Lib
theorem yc(p:Option Addr)(cap:Nat)(w:World):Calls Try.prog 79 #[.slice p 0 cap] w λe w'=>e=.returned (.slice p 0 cap)/\w'=w:=by
 go_enter Try.func79,Try.ntmps79
 go_wp2
 go_ret
 exact⟨rfl,rfl⟩
theorem DC(p:Option Addr)(cap:Nat)(fv:Value)(w:World):Calls Try.prog 78 #[.slice p 0 cap,fv] w λe w'=>e=.returned (.tuple #[])/\w'=w:=
 AnyF.slices_SortFunc_none DD p cap fv w
theorem Gp(Zo cap:Nat)(d:Array PID)(w:World)(hH:HoldsK hJ 2 w Zo 0 d)(UF:Zo<w.heap.size)(hsz:d.size<4611686018427387904):
 Calls Try.prog 78 #[.slice (some ⟨Zo,0,none⟩) d.size cap,.func (.func 45) #[] #[]] w λe w'=>
  e=.returned (.tuple #[])/\∃d' n os,PermIn 0 d.size d d'/\SortedIn (ltOf Bb) 0 d.size d'/\w'=sortWorldK hJ 2 w Zo 0 n d' os:=by
 have eg:∀args w,(callFunc 45 args).run Try.prog w=.ok (.enter 45 args) w:=i8 Try.func45 (by kernel_rfl) rfl;have O5:CmpLays Try.prog 45 #[] hJ 2 Bb Zo 0 d.size w:=λ_ _ _ _ x y=>EY x y _;exact AnyQ.slices_SortFunc DD 2 Try.isAgg56 Try.sizeOf56 hJ (λ_=>rfl) (λx v hv=>by simp[hJ]at hv;rcases hv with rfl|rfl<;>rfl) Bb I0 45 #[] Zo 0 cap d w eg O5 hH UF hsz
theorem qO:∃i z,Try.prog.info? 56=some i/\i.zero=some z/\i.size=2/\i.bytes=16/\z.cells.size=2:=by
 have h:(match Try.prog.info? 56 with|some i=>(match i.zero with|some z=>decide (i.size=2)&&decide (i.bytes=16)&&decide (z.cells.size=2)|none=>false)|none=>false)=true:=by kernel_rfl
 revert h
 cases Try.prog.info? 56 with
 |none=>intro h;cases h
 |some i=>
  intro h;simp only at h
  cases hz:i.zero with
  |none=>rw[hz]at h;cases h
  |some z=>
   rw[hz]at h;simp only[oBA,oDE]at h;exact⟨i,z,rfl,hz,h.1.1,h.1.2,h.2⟩
def ii(l:List PID):List Value:=l.flatMap hJ
theorem r8(l:List PID):(ii l).length=l.length*2:=by
 induction l with
 |nil=>rfl
 |cons x l ih=>simp[ii,hJ]at ih⊢;omega
theorem r9:∀(l:List PID)(i:Nat)(h:i<l.length),(ii l)[i*2]?=some (.int .i64 l[i].1)/\(ii l)[i*2+1]?=some (.int .i64 l[i].2)
 |x::l,0,_=>⟨rfl,rfl⟩
 |x::l,i+1,h=>by
  have:=r9 l i (by simpa using h);have e:ii (x::l)=.int .i64 x.1 :: .int .i64 x.2::ii l:=rfl;rw[e,show(i+1)*2=i*2+1+1 by omega];simpa using this
theorem xS(l:List PID):∀u∈ii l,u.oneCell'=true:=by
 intro u hu;simp[ii,hJ]at hu;obtain⟨_,_,_,h|h⟩:=hu<;>rw[h]<;>rfl
theorem sa{w:World}{b o:Nat}{l:List PID}(h:lf w b o l):∀j u,(ii l)[j]?=some u->w.cell? ⟨b,o+j,none⟩=some u:=by
 intro j u hu
 have hj:j<l.length*2:=by rw[<- r8];exact(oGS hu).1
 have hi:j/2<l.length:=by omega
 have g:=r9 l (j/2) hi;have hc:=h (j/2) hi;rcases Nat.mod_two_eq_zero_or_one j with e|e
 ·rw[show j=j/2*2 by omega]at hu⊢;rw[g.1]at hu
  injection hu with hu
  rw[<- hu];exact hc.1
 ·rw[show j=j/2*2+1 by omega]at hu⊢;rw[g.2]at hu
  injection hu with hu
  rw[<- hu,<- Nat.add_assoc];exact hc.2
theorem uo{w:World}{g cap:Nat}{cur:Array Value}{e:TypeId}{l:List PID}(hg:w.heap[g]?=some (.cells cur e (0,0)))(hcur:cur.size=cap*2)(hl:l.length<=cap)(ht:cur.toList.take (l.length*2)=ii l):HoldsK hJ 2 w g 0 l.toArray:=by
 intro j hj;rw[size_flatK]at hj
 have ZT:j<l.length*2:=by simpa using hj
 rw[Nat.zero_add,get_flatK _ _ _ _ hj,cell_of_row w g j cur e (0,0) hg]
 have hi:j/2<l.length:=by omega
 have e1:(ii l)[j]?=cur.toList[j]?:=by rw[<- ht,List.getElem?_take_of_lt ZT]
 have e2:cur[j]?=cur.toList[j]?:=by simp
 have gg:=r9 l (j/2) hi
 have e3:l.toArray[j/2]! = l[j/2]:=by simp[hi]
 refine⟨?_,?_⟩
 ·rw[e2,<- e1,e3];rcases Nat.mod_two_eq_zero_or_one j with e|e
  ·rw[e];have:=gg.1;rw[show j/2*2=j by omega]at this;exact this
  ·rw[e];have:=gg.2;rw[show j/2*2+1=j by omega]at this;exact this
 ·simp[World.frozen?,hg]
theorem C7(ad:Addr)(cap:Nat)(w:World):Calls Try.prog 77 #[.slice (some ad) 0 cap] w λe w'=>Below w.heap.size w w'/\∃p,e=.returned (.slice p 0 0):=by
 obtain⟨i,z,hi,_⟩:=qO;have q:∀(w:World)(a:Option Addr)(n c n' c':Nat),(binOp .eql 68 (.slice a n c) (.slice none n' c')).run Try.prog w=.ok (.bool a.isNone) w:=λw a n c n' c'=>Lib.run_eql_slice_nil w _ _ a n c n' c' Try.underlying68;have hz:∀(w:World)(ty:TypeId)(s:Option Addr),(Builtin.append_ #[68,68] ty #[.slice s 0 0,.slice (some ad) 0 cap]).run Try.prog w=.ok (.slice s 0 0) w:=λw ty s=>gd w 68 ty 56 i Try.underlying68 hi s 0 0 (Nat.le_refl _) (some ad) cap;clear hi
 go_enter Try.func77,Try.ntmps77
 go_wp2
 go_ret
 exact⟨Below.alloc (Below.refl _ _) (Nat.le_refl _) _,_,rfl⟩
theorem FQ(l:List PID)(a:Option Addr)(cap:Nat)(w:World)(ha:l≠[]->∃b o,a=some ⟨b,o,none⟩/\lf w b o l)(hl:l.length<=1099511627776):
 Calls Try.prog 77 #[.slice a l.length cap] w λe w'=>Below w.heap.size w w'/\((l=[]/\∃p,e=.returned (.slice p 0 0))\/
  ∃g c,e=.returned (.slice (some ⟨g,0,none⟩) l.length c)/\w.heap.size<=g/\g<w'.heap.size/\l.length<=c/\c<=maxLen/\HoldsK hJ 2 w' g 0 l.toArray):=by
 obtain⟨i,z,hi,hz,hsz,YE,Zg⟩:=qO
 have ZQ:∀b o,a=some ⟨b,o,none⟩->(∀j u,(ii l)[j]?=some u->w.cell? ⟨b,o+j,none⟩=some u)->Calls Try.prog 77 #[.slice a l.length cap] w λe w'=>Below w.heap.size w w'/\((l=[]/\∃p,e=.returned (.slice p 0 0))\/
  ∃g c,e=.returned (.slice (some ⟨g,0,none⟩) l.length c)/\w.heap.size<=g/\g<w'.heap.size/\l.length<=c/\c<=maxLen/\HoldsK hJ 2 w' g 0 l.toArray):=by
  rintro b o rfl hc;have h:=AnyE.slices_Clone BB i z 2 16 hi hz hsz YE Zg (by omega) Try.sizeOf56 b o l.length cap (ii l) w (r8 l) (by unfold maxLen;omega) (by omega) hc (xS l);refine h.mono λe w' ⟨v',he,hown,_,hb⟩=>⟨hb,?_⟩
  rcases hown.2 with⟨rfl,hn⟩|⟨g,c,cur,rfl,hg,YX,hcap,hmax,hcur,Zx⟩
  ·exact .inl ⟨oEN hn,none,he⟩
  ·exact .inr ⟨g,c,he,hg,(Array.getElem?_eq_some_iff.1 YX).1,hcap,hmax,uo YX hcur hcap Zx⟩
 by_cases hn:l=[]
 ·subst hn
  cases a with
  |none=>exact(AnyE.slices_Clone_nil BB 0 cap w).mono λe w' ⟨he,hw⟩=>by subst hw;exact⟨Below.refl _ _,.inl ⟨rfl,none,he⟩⟩
  |some ad=>exact(C7 ad cap w).mono λe w' ⟨hb,h⟩=>⟨hb,.inl ⟨rfl,h⟩⟩
 ·obtain⟨b,o,e,hh⟩:=ha hn;exact ZQ b o e (sa hh)
theorem sI{w w' Xa:World}{g:Nat}(hb:Below w.heap.size w w')(hg:w.heap.size<=g)(h:dE g w' Xa):Below w.heap.size w Xa:=
 ⟨h.os.trans hb.os,h.tape.trans hb.tape,h.output.trans hb.output,by rw[h.size];exact hb.size,λk hk=>(h.block k (by omega)).trans (hb.block k hk)⟩
theorem Dg{w w':World}{g n:Nat}{d:Array PID}{os:Array Obj}(hb:Below w.heap.size w w')(hg:w.heap.size<=g):Below w.heap.size w (sortWorldK hJ 2 w' g 0 n d os):=by
 have h1:dE g w' (putRowK hJ 2 (Sort.ahead w' n) g 0 d):=(dE.ahead g w' n).trans (dE.putRow g 0 _ d);have h2:=sI hb hg h1;have e:sortWorldK hJ 2 w' g 0 n d os=grow (putRowK hJ 2 (Sort.ahead w' n) g 0 d) os:=rfl;rw[e];refine⟨h2.os,h2.tape,h2.output,Nat.le_trans h2.size (by simp[grow]),λk hk=>?_⟩;rw[<- h2.block k hk];show(_++os)[k]?=_;exact Array.getElem?_append_left (Nat.lt_of_lt_of_le hk h2.size)
theorem CI{w':World}{g n:Nat}{d d':Array PID}{os:Array Obj}(h:HoldsK hJ 2 w' g 0 d)(hg:g<w'.heap.size)(hs:d'.size=d.size):HoldsK hJ 2 (sortWorldK hJ 2 w' g 0 n d' os) g 0 d':=by
 have e:sortWorldK hJ 2 w' g 0 n d' os=grow (putRowK hJ 2 (Sort.ahead w' n) g 0 d') os:=rfl;rw[e];exact holdsK_grow hJ 2 _ os g 0 d' (by unfold putRowK;simpa using hg) (holdsK_putRowK hJ 2 _ g 0 d d' (holdsK_ahead hJ 2 w' n g 0 d h) hs)
theorem zu(x:PID):∀l:List PID,(tp l x).length<=l.length+1
 | []=>by simp[tp]
 |y::r=>by
  unfold tp;split
  ·have:=zu x r;simp;omega
  ·split<;>simp
theorem DE(l:List PID):(kx l).length<=l.length:=by
 have ZQ:∀(l a:List PID),(l.foldl tp a).length<=a.length+l.length:=by
  intro l
  induction l with
  |nil=>intro a;simp
  |cons x l ih=>
   intro a;have h1:=ih (tp a x);have h2:=zu x a;simp only[List.foldl_cons,oLC];omega
 have:=ZQ l [];simpa[kx]using this
def LH(w w':World)(e:Ending)(m:List PID):Prop:=Below w.heap.size w w'/\((m=[]/\∃p,e=.returned (.slice p 0 0))\/∃g c,e=.returned (.slice (some ⟨g,0,none⟩) m.length c)/\w.heap.size<=g/\m.length<=c/\c<=maxLen/\lf w' g 0 m)
set_option maxHeartbeats 2000000 in
theorem BY(l:List PID)(a:Option Addr)(cap:Nat)(w:World)(ha:l≠[]->∃b o,a=some ⟨b,o,none⟩/\lf w b o l)(hl:l.length<=1099511627776):
 Calls Try.prog 56 #[.func (.func 45) #[] #[],.slice a l.length cap] w λe w'=>LH w w' e (kx l):=by
 have VG:=FQ l a cap w ha hl
 have VD:(l.length:Nat)<4611686018427387904:=by omega
 clear ha
 go_enter Try.func56,Try.ntmps56
 go_wp2_with fail
 refine VG.mono ?_;rintro e w1 ⟨ZX,⟨rfl,p,rfl⟩|⟨g,c,rfl,hg,Z0,hc,hmax,hK⟩⟩
 ·go_wp2_with fail
  refine(DC p 0 _ w1).mono ?_;rintro e w2 ⟨rfl,rfl⟩
  go_wp2_with fail
  refine(yc p 0 w2).mono ?_;rintro e w3 ⟨rfl,rfl⟩
  go_wp2
  go_ret
  exact⟨ZX,.inl ⟨rfl,p,rfl⟩⟩
 ·have HB:=Lib.hid ZX;have HK:=Lib.hid hK;clear ZX hK VG
  go_wp2_with fail
  have hs:=Gp g c l.toArray w1 HK.out Z0 (by simpa using VD);refine hs.mono ?_;rintro e w2 ⟨rfl,d',n,os,hp,NI,rfl⟩
  have hsz:d'.size=l.length:=by simpa using hp.1
  have T6:=CI (os:=os) (n:=n) HK.out Z0 hp.1
  have ZB:∀z,z∈d'.toList↔z∈l:=λz=>by
   have:=hp.2.2.mem_iff (a:=z);simpa[Array.extract_eq_self_of_le,hsz]using this
  have YJ:∀i,i+1<d'.size->cH d'[i+1]! d'[i]! = false:=λi hi=>by
   rw[<- kB];exact NI i (i+1) (by omega) (by omega) (by rw[List.size_toArray];omega)
  have HC:=Lib.hid (z8 g 0 c d' (sortWorldK hJ 2 w1 g 0 n d' os) T6 (by omega) (by omega));have Xb:=Lib.hid (Dg (n:=n) (d:=d') (os:=os) HB.out hg);have HE:=Lib.hid (wc ZB YJ);have HL:=Lib.hid hsz;clear T6 ZB YJ hp NI hs hsz
  go_wp2_with fail
  have hcc:=HC.out;rw[HL.out]at hcc;refine hcc.mono ?_;rintro e w3 ⟨rfl,Qk,hC2⟩
  go_wp2
  go_ret
  have e:compactUpTo d' l.length=kx l:=by rw[<- HL.out];exact HE.out
  have hlen:=DE l;exact⟨sI Xb.out hg hC2,.inr ⟨g,c,by rw[e];rfl,hg,by omega,hmax,by rw[<- HE.out];exact Qk⟩⟩
theorem uM:gA Try.prog 56:=i8 Try.func56 (by kernel_rfl) rfl
theorem xr{w:World}{F:Nat->Prop}{l:List PID}{x:Value}(h:fm w F (.sl (l.map pM)) x):∃a cap,x=.slice a l.length cap/\(l≠[]->∃b o,a=some ⟨b,o,none⟩/\lf w b o l):=by
 cases h with
 | @sl _ a cap sz u hsz hcap hmax hnil hcell hrec=>
  refine⟨a,cap,by simp,λhn=>?_⟩;have Z1:0<l.length:=List.length_pos_iff.2 hn
  have hz:sz=2:=by
   have:=hsz 0 (by simpa using Z1);rw[<- this];simp[pM]
  subst hz;obtain⟨b,o,e,_,_⟩:=hcell 0 0 (by simpa using Z1) (by omega);refine⟨b,o,e,λi hi=>?_⟩
  have ZK:i<(l.map pM).length:=by simpa using hi
  have cell:∀j (hj:j<2),w.cell? ⟨b,o+(i*2+j),none⟩=some (u i j):=λj hj=>by
   obtain⟨b',o',e',_,hc⟩:=hcell i j ZK hj;rw[e]at e'
   injection e' with e'
   injection e' with e1 e2
   subst e1;subst e2;exact hc
  have g0:=hrec i 0 ZK (by simp[pM]);have g1:=hrec i 1 ZK (by simp[pM]);have c0:=cell 0 (by omega);have c1:=cell 1 (by omega);revert g0 g1 c0 c1;generalize u i 0=u0;generalize u i 1=u1;intro g0 g1 c0 c1;simp only[List.getElem_map,pM,List.getElem_cons_zero,List.getElem_cons_succ]at g0 g1;cases g0;cases g1;exact⟨by rw[<- c0];congr 2,by rw[<- c1];congr 2⟩
theorem Eu{w:World}{F:Nat->Prop}{l:List PID}{g c:Nat}(h:lf w g 0 l)(hl:l.length<=c)(hm:c<=maxLen)(hF:F g):fm w F (.sl (l.map pM)) (.slice (some ⟨g,0,none⟩) l.length c):=by
 have ZQ:=fm.sl (w:=w) (F:=F) (c:=l.map pM) (a:=some ⟨g,0,none⟩) (cap:=c) 2 (λi j=>if j=0 then .int .i64 (l.getD i (0,0)).1 else .int .i64 (l.getD i (0,0)).2) (λi hi=>by simp[pM]) (by simpa using hl) hm (λe=>by simp at e) (λi j hi hj=>?_) (λi j hi hj=>?_)
 ·rw[List.length_map]at ZQ;exact ZQ
 ·have ZK:i<l.length:=by simpa using hi
  have hh:=h i ZK;refine⟨g,0,rfl,hF,?_⟩
  have e:l.getD i (0,0)=l[i]:=by simp[ZK]
  rw[e];rcases Nat.lt_or_ge 0 j with h0|h0
  ·have:j=1:=by omega
   subst this;rw[oIN (by omega),<- hh.2,Nat.add_assoc]
  ·have:j=0:=by omega
   subst this;rw[oIP rfl,<- hh.1];congr 2
 ·have ZK:i<l.length:=by simpa using hi
  have e:l.getD i (0,0)=l[i]:=by simp[ZK]
  simp only[List.getElem_map,pM,oLC,List.length_nil]at hj⊢;rw[e];rcases Nat.lt_or_ge 0 j with h0|h0
  ·have:j=1:=by omega
   subst this;exact .v rfl
  ·have:j=0:=by omega
   subst this;exact .v rfl
theorem AZ{w w':World}{e:Ending}{m:List PID}{F:Nat->Prop}(h:LH w w' e m):∃x,e=.returned x/\Below w.heap.size w w'/\fm w' (λk=>F k\/w.heap.size<=k) (.sl (m.map pM)) x:=by
 obtain⟨hb,⟨rfl,p,he⟩|⟨g,c,he,hg,hl,hm,hh⟩⟩:=h
 ·exact⟨_,he,hb,.sl (c:=[]) 2 (λ_ _=>undef) (λi h=>by simp at h) (Nat.le_refl _) (Nat.zero_le _) (λ_=>rfl) (λi j h=>by simp at h) (λi j h=>by simp at h)⟩
 ·exact⟨_,he,hb,Eu hh hl hm (.inr hg)⟩
theorem BX(l:List PID)(hl:l.length<=1099511627776):Kp Try.prog 56 [.fn 45 [],.sl (l.map pM)] ((kx l).map pM):=by
 intro avs w F hal ha
 match avs,hal with
 | [x,y],_=>
  have h0:=ha 0 (by simp) (by simp);have h1:=ha 1 (by simp) (by simp);simp only[List.getElem_cons_zero,List.getElem_cons_succ]at h0 h1;cases h0
  cases h1 with
  |im h1=>
   obtain⟨a,cap,rfl,hh⟩:=xr h1;exact(BY l a cap w hh hl).mono λe w' h=>AZ h
theorem lG{P:Program}{w:World}(t it ty e:TypeId)(i:TypeInfo)(z:Value)(ht:P.underlying t=some (.slice e))(hit:P.underlying it=some (.int .i64))(hi:P.info? e=some i)(hz:i.zero=some z)(Z1:0<i.size)
 (n:Nat)(h0:0<n)(OH:n<=1099511627776)(h48:n*i.bytes<=140737488355328):
 (Builtin.append_ #[t,it] ty #[.slice none 0 0,.int .i64 n]).run P w =
  .ok (.slice (some ⟨w.heap.size,0,none⟩) n (grownCap w n 0 e)) (w.drew.alloc (.cells (Builtin.zeroCells z.cells n++Builtin.zeroCells z.cells (grownCap w n 0 e-n)) e)):=by
 have hn:n≠0:=by omega
 have OK:¬(9223372036854775807<(n:Int)):=by omega
 have hw:IntKind.i64.wrap (n:Int)=(n:Int):=wrap_i64 (by omega) (by omega)
 have TK:¬((n:Int)<0):=by omega
 have OW:¬((281474976710656:Int)<(n:Int)*(i.bytes:Int)):=by
  have e:(n:Int)*(i.bytes:Int)=((n*i.bytes:Nat):Int):=by simp
  rw[e];omega
 have OI:¬(281474976710656<Builtin.nextslicecap n 0*i.bytes):=by rw[nextslicecap_zero h0];omega
 have hm:n*i.size≠0:=by have:=Nat.mul_pos h0 Z1;omega
 have hsz:i.size≠0:=by omega
 simp[Builtin.append_,run_underlying ht,run_underlying hit,asInt,asIntOf,sizeOf,typeInfo,zeroValue,hi,hz,Builtin.lenOf,hn,OK,OI,Question.forced,run_firstCells_none,newRow,grownCap,asInt,hw,TK,OW,hm,hsz]
theorem gB{P:Program}{ops:Array Oper}{rest:List Oper}{o:Oper}{a:Act}{Q:Exit->Act->World->Prop}{w:World}{t it:TypeId}(Yj:o.guard=none)(s x:Operand)(ho:o.op=.call { callee:=.builtin .append,args:=#[s,x],argTypes:=#[t,it] })
 {vs vx v':Value}{w':World}(hs:a.eval s=vs)(hx:a.eval x=vx)(hrun:(Builtin.append_ #[t,it] o.type #[vs,vx]).run P w=.ok v' w')(h:wpList P ops Q rest (a.put o.dst v') w'):wpList P ops Q (o::rest) a w:=by
 refine wpList_plain Yj λK hK=>?_;unfold Oper.wp;simp[execOp,ho,resolve,invoke,builtin,hs,hx,hrun,Result.andThen];exact hK _ _ h
theorem Dh{B:Nat}{a w:World}(h:Below B a w):Below B a w.drew:=⟨h.os,h.tape,h.output,h.size,h.block⟩
theorem Hp(n:Nat)(w:World)(hn:n<=1099511627776):Calls Try.prog 80 #[.slice none 0 0,.int .i64 n] w λe w'=>Below w.heap.size w w'/\∃v,e=.returned v/\w'.ownsRow w.heap.size 56 2 v 0 []:=by
 obtain⟨i,z,hi,hz,hsz,YE,Zg⟩:=qO;by_cases h0:n=0
 ·subst h0;clear hi hz hsz YE Zg
  go_enter Try.func80,Try.ntmps80
  go_wp2
  go_ret
  exact⟨Below.refl _ _,_,rfl,rfl,.inl ⟨rfl,rfl⟩⟩
 ·have hz0:∀(w:World)(ty:TypeId),(Builtin.append_ #[68,3] ty #[.slice none 0 0,.int .i64 n]).run Try.prog w=.ok (.slice (some ⟨w.heap.size,0,none⟩) n (grownCap w n 0 56)) (w.drew.alloc (.cells (Builtin.zeroCells z.cells n++Builtin.zeroCells z.cells (grownCap w n 0 56-n)) 56)):=λw ty=>
   lG 68 3 ty 56 i z Try.underlying68 Try.underlying3 hi hz (by omega) n (by omega) hn (by rw[YE];omega)
  have hge:n<=grownCap w n 0 56:=grownCap_ge w n 0 _;have YO:grownCap w n 0 56<=maxLen:=grownCap_le_maxLen w n 0 _ (by unfold maxLen;omega);obtain⟨zc,Xw⟩:∃zc,zc=z.cells:=⟨_,rfl⟩;rw[<- Xw]at hz0 Zg;have HZ:=Lib.hid Zg;clear Xw hi hz hsz YE Zg
  go_enter Try.func80,Try.ntmps80
  go_wp2_with (at_builtin;refine gB rfl _ _ rfl rfl rfl (hz0 _ _) ?_)
  go_ret
  have XW:(Builtin.zeroCells zc n++Builtin.zeroCells zc (grownCap w n 0 56-n)).size=grownCap w n 0 56*2:=by
   rw[Array.size_append,size_zeroCells,size_zeroCells,HZ.out,<- Nat.add_mul];congr 1;omega
  refine⟨Dh (Below.alloc (Below.refl _ _) (Nat.le_refl _) _),_,rfl,rfl,.inr ⟨w.heap.size,_,_,rfl,Nat.le_refl _,heap_alloc_new w _,Nat.zero_le _,YO,XW,by simp⟩⟩
theorem ru{P:Program}{w:World}{t e:TypeId}(i:TypeInfo)(z:Value)(size bytes:Nat)(hu:P.underlying t=some (.slice e))(hi:P.info? e=some i)(hz:i.zero=some z)(Y3:i.size=size)(YE:i.bytes=bytes)(Zg:z.cells.size=size)(Z1:0<size)
 (ty:TypeId)(base:Nat)(v:Value)(n:Nat)(xs:List Value)(hown:w.ownsRow base e size v n xs)
 (ad:Addr)(m c:Nat)(news:List Value)(hl:news.length=m*size)(Zn:∀(j:Nat) u,news[j]?=some u->w.cell? (ad.add j)=some u)(h1:∀u∈news,u.oneCell'=true)
 (Tk:n+m<=maxLen)(YR:(n+m)*bytes<=140737488355328)(ZE:base<=w.heap.size):
 ∃v' w',(Builtin.append_ #[t,t] ty #[v,.slice (some ad) m c]).run P w=.ok v' w'/\w'.ownsRow base e size v' (n+m) (xs++news)/\w.grownBy w' v.ownBlock:=by
 rcases hown.2 with⟨rfl,hn⟩|⟨g,cap,cur,rfl,hb,YX,hcap,hmax,hsz,Zx⟩
 ·subst hn;have hx:xs=[]:=oEN (by simpa using hown.1);subst hx;obtain⟨v',w',hr,ZZ,hg,_⟩:=run_append_own (P:=P) w w.heap.size t ty e i z size bytes hu hi hz Y3 YE Zg Z1 (.slice none 0 0) 0 [] ⟨by simp,.inl ⟨rfl,rfl⟩⟩ ad m c news hl Zn h1 Tk YR (Nat.le_refl _);refine⟨v',w',hr,⟨ZZ.1,?_⟩,hg⟩;rcases ZZ.2 with h|⟨g,cap,cur,e1,e2,e3⟩
  ·exact .inl h
  ·exact .inr ⟨g,cap,cur,e1,Nat.le_trans ZE e2,e3⟩
 ·rcases Nat.lt_or_ge cap (n+m)with hlt|hge
  ·have hc:=@World.ownsRow.cells w base e size _ n xs hown;obtain⟨v',w',hr,ZZ,hg⟩:=run_append_arg_grows (P:=P) w t ty e i z size bytes hu hi hz Y3 YE Zg Z1 ⟨g,0,none⟩ n cap xs hown.1 (hc rfl) ad m c news hl Zn hlt Tk YR;refine⟨v',w',hr,⟨ZZ.1,?_⟩,⟨hg.os,hg.tape,hg.output,hg.size,λk hk _=>hg.block k hk (by simp)⟩⟩;rcases ZZ.2 with h|⟨g,cap,cur,e1,e2,e3⟩
   ·exact .inl h
   ·exact .inr ⟨g,cap,cur,e1,Nat.le_trans ZE e2,e3⟩
  ·obtain⟨w',hr,ZZ,hg⟩:=run_append_own_spare (P:=P) w base t ty e i size hu hi Y3 g n cap xs hown ad m c news hl Zn h1 hge;exact⟨_,w',hr,ZZ,hg⟩
theorem JA{w:World}(ty:TypeId)(base:Nat)(v:Value)(xs l:List PID)(hown:w.ownsRow base 56 2 v xs.length (ii xs))(ZE:base<=w.heap.size)(a:Option Addr)(cap:Nat)(ha:l≠[]->∃b o,a=some ⟨b,o,none⟩/\lf w b o l)(hlen:xs.length+l.length<=1099511627776):
 ∃v' w',(Builtin.append_ #[68,68] ty #[v,.slice a l.length cap]).run Try.prog w=.ok v' w'/\w'.ownsRow base 56 2 v' (xs++l).length (ii (xs++l))/\w.heap.size<=w'.heap.size/\w'.os=w.os/\w'.tape=w.tape/\w'.output=w.output/\∀k,k<base->w'.heap[k]?=w.heap[k]?:=by
 obtain⟨i,z,hi,hz,hsz,YE,Zg⟩:=qO
 have e:ii (xs++l)=ii xs++ii l:=by simp[ii]
 by_cases hl:l=[]
 ·subst hl
  rcases hown.2 with⟨rfl,hn⟩|⟨g,c,cur,rfl,hb,YX,hcap,hmax,Wm,Zx⟩
  ·rw[hn]at hown;refine⟨_,w,gd w _ ty 56 i Try.underlying68 hi none 0 0 (Nat.le_refl _) a cap,by rw[List.append_nil,hn];exact hown,Nat.le_refl _,rfl,rfl,rfl,λ_ _=>rfl⟩
  ·exact⟨_,w,gd w _ ty 56 i Try.underlying68 hi _ _ c hcap a cap,by rw[List.append_nil];exact hown,Nat.le_refl _,rfl,rfl,rfl,λ_ _=>rfl⟩
 ·obtain⟨b,o,rfl,hh⟩:=ha hl;obtain⟨v',w',hr,ZZ,hg⟩:=ru i z 2 16 Try.underlying68 hi hz hsz YE Zg (by omega) ty base v xs.length (ii xs) hown ⟨b,o,none⟩ l.length cap (ii l) (r8 l) (λj u hu=>by rw[cr];exact sa hh j u hu) (xS l) (by unfold maxLen;omega) (by omega) ZE;refine⟨v',w',hr,by rw[List.length_append,e];exact ZZ,hg.size,hg.os,hg.tape,hg.output,λk hk=>hg.block k (by omega) λe2=>?_⟩
  rcases hown.2 with⟨rfl,_⟩|⟨g,c,cur,rfl,hb,_⟩
  ·simp[Value.ownBlock]at e2
  ·simp only[Value.ownBlock,oSJ]at e2;omega
def Kk(w:World)(b o:Nat)(ls:List (List PID)):Prop:=∀i (h:i<ls.length),∃ai ci,w.cell? ⟨b,o+i,none⟩=some (.slice ai ls[i].length ci)/\(ls[i]≠[]->∃b' o',ai=some ⟨b',o',none⟩/\lf w b' o' ls[i])
theorem xQ{ls:List (List PID)}{i:Nat}(h:i<ls.length):(ls.take (i+1)).flatten=(ls.take i).flatten++ls[i]:=by
 rw[<- List.take_append_getElem h,List.flatten_append];simp only[List.flatten_cons,List.flatten_nil,List.append_nil]
theorem zK{ls:List (List PID)}(i:Nat):(ls.take i).flatten.length<=ls.flatten.length:=by
 have:ls.flatten=(ls.take i).flatten++(ls.drop i).flatten:=by rw[<- List.flatten_append,List.take_append_drop]
 rw[this,List.length_append];omega
theorem Ak{w w':World}(h:Below w.heap.size w w'){b o:Nat}{l:List PID}(hh:lf w b o l):lf w' b o l:=λi hi=>by
 obtain⟨h1,h2⟩:=hh i hi;have hb:=Aj h1;exact⟨by rw[World.cell?_of_block (h.block b hb)];exact h1,by rw[World.cell?_of_block (h.block b hb)];exact h2⟩
theorem yn{B q:Nat}{w w1:World}(h:Below B (w.drewN q) w1):Below B w w1:=⟨h.os,h.tape,h.output,h.size,h.block⟩
set_option maxHeartbeats 4000000 in
theorem C5(ls:List (List PID))(b o cap:Nat)(w:World)(hr:Kk w b o ls)(hlen:ls.flatten.length<=1099511627776)(hm:ls.length<=1099511627776):
 Calls Try.prog 57 #[.slice (some ⟨b,o,none⟩) ls.length cap] w λe w'=>Below w.heap.size w w'/\∃v,e=.returned v/\w'.ownsRow w.heap.size 56 2 v ls.flatten.length (ii ls.flatten):=by
 have mixed:Try.prog.follows .mixedOrders=true:=by kernel_rfl
 have HR:Aside (Kk w b o ls):=hr;clear hr
 go_enter Try.func57,Try.ntmps57
 go_wp2
 go_loopg [3,11] ls.length (λg s3 s11 wr=>∃i q:Nat,i<=ls.length/\ls.length-i<=g/\s3=.int .i64 ((ls.take i).flatten.length:Nat)/\s11=.int .i64 i/\wr=w.drewN q)
 case atStart=>exact⟨0,0,by omega,by omega,rfl,rfl,rfl⟩
 case round=>
  obtain⟨i,q,hi,hg,rfl,rfl,rfl⟩:=hrel;have YO:=zK (ls:=ls) i;by_cases hlt:i<ls.length
  ·obtain⟨ai,ci,hc,_⟩:=HR.out i hlt;have UR:=zK (ls:=ls) (i+1)
   have Ue:(ls.take (i+1)).flatten.length=(ls.take i).flatten.length+ls[i].length:=by rw[xQ hlt,List.length_append]
   generalize hk:ls[i].length=k at hc Ue;generalize hn:(ls.take i).flatten.length=n at YO Ue;have HF:Aside ((ls.take (i+1)).flatten.length=n+k/\(ls.take (i+1)).flatten.length<=ls.flatten.length):=⟨Ue,UR⟩
   have hnk:n+k<=1099511627776:=by omega
   clear Ue UR hk hn YO
   go_wp2
   go_roundg (ls.length-(i+1))
   case measure=>omega
   case rel=>exact⟨i+1,q,by omega,Nat.le_refl _,by rw[HF.out.1];go_num,by go_num,rfl⟩
  ·have X0:i=ls.length:=by omega
   subst X0;rw[List.take_length]at YO⊢;generalize hn:ls.flatten.length=n at YO hlen⊢;have HN:Aside (ls.flatten.length=n):=hn;clear hn YO
   go_wp2_with fail
   refine(Hp n _ hlen).mono ?_;rintro e w1 ⟨ZX,v,rfl,hown⟩;have HB:Aside (Below w.heap.size w w1/\w1.ownsRow w.heap.size 56 2 v 0 []):=⟨yn ZX,hown⟩;clear ZX hown
   go_wp2
   go_loopg [6,27] ls.length (λg s6 s27 wr=>∃j:Nat,j<=ls.length/\ls.length-j<=g/\s27=.int .i64 j/\Below w.heap.size w wr/\wr.ownsRow w.heap.size 56 2 s6 (ls.take j).flatten.length (ii (ls.take j).flatten))
   case atStart=>exact⟨0,by omega,by omega,rfl,HB.out.1,HB.out.2⟩
   case round=>
    obtain⟨j,hj,ZH,rfl,Z',hown⟩:=hrel;by_cases hlt2:j<ls.length
    ·obtain⟨ai,ci,hc,ZP⟩:=HR.out j hlt2
     have Ze:wr.cell? ⟨b,o+j,none⟩=some (.slice ai ls[j].length ci):=by rw[World.cell?_of_block (Z'.block b (Aj hc))];exact hc
     have UR:=zK (ls:=ls) (j+1);have Ue:=xQ hlt2
     have hsz:(ls.take j).flatten.length+ls[j].length<=1099511627776:=by
      have:(ls.take (j+1)).flatten.length=(ls.take j).flatten.length+ls[j].length:=by rw[Ue,List.length_append]
      have:=HN.out;omega
     obtain⟨v',w',hrun,ZZ,Y3,TO,Us,UW,UF⟩:=JA (w:=wr) 68 w.heap.size _ (ls.take j).flatten ls[j] hown Z'.size ai ci (λhne=>by
      obtain⟨b',o',e1,e2⟩:=ZP hne
      exact⟨b',o',e1,Ak Z' e2⟩) hsz
     rw[<- Ue]at ZZ;have HO:Aside (w'.ownsRow w.heap.size 56 2 v' (ls.take (j+1)).flatten.length (ii (ls.take (j+1)).flatten)/\Below w.heap.size w w'):=⟨ZZ,⟨TO.trans Z'.os,Us.trans Z'.tape,UW.trans Z'.output,Nat.le_trans Z'.size Y3,λk hk=>(UF k hk).trans (Z'.block k hk)⟩⟩;generalize ls[j].length=m at Ze hrun;clear ZZ TO Us UW UF Y3 ZP hown Z' hc Ue hsz UR
     go_wp2_with (at_builtin;refine gB rfl _ _ rfl rfl rfl hrun ?_)
     go_roundg (ls.length-(j+1))
     case measure=>omega
     case rel=>exact⟨j+1,by omega,Nat.le_refl _,by go_num,HO.out.2,HO.out.1⟩
    ·have hjl:j=ls.length:=by omega
     subst hjl;rw[List.take_length]at hown;have HO:Aside (Below w.heap.size w wr/\wr.ownsRow w.heap.size 56 2 u6 ls.flatten.length (ii ls.flatten)):=⟨Z',hown⟩;clear Z' hown
     go_wp2
     go_ret
     exact⟨HO.out.1,_,rfl,HO.out.2⟩
theorem zZ(a:Option Addr)(cap:Nat)(w:World):Calls Try.prog 57 #[.slice a 0 cap] w λe w'=>Below w.heap.size w w'/\e=.returned (.slice none 0 0):=by
 have mixed:Try.prog.follows .mixedOrders=true:=by kernel_rfl
 go_enter Try.func57,Try.ntmps57
 go_wp2
 refine wp_loop_rounds 1 ?_;rw[rounds_succ]
 go_wp2
 refine wp_loop_rounds 1 ?_;rw[rounds_succ]
 go_wp2
 go_ret
 exact⟨Below.refl _ _,rfl⟩
theorem wb:gA Try.prog 57:=i8 Try.func57 (by kernel_rfl) rfl
theorem C4(ls:List (List PID))(hl:ls.flatten.length<=1099511627776)(hm:ls.length<=1099511627776):Kp Try.prog 57 [.sl (ls.map λx=>[TV.sl (x.map pM)])] (ls.flatten.map pM):=by
 intro avs w F hal ha
 match avs,hal with
 | [x],_=>
  have h0:=ha 0 (by simp) (by simp);simp only[List.getElem_cons_zero]at h0
  cases h0 with
  |im h0=>
   cases h0 with
   | @sl _ a cap sz u hsz hcap hmax hnil hcell hrec=>
    have RB:(ls.map λx=>[TV.sl (x.map pM)]).length=ls.length:=by simp
    rw[RB]at hcap⊢;by_cases hn:ls=[]
    ·subst hn;exact(zZ a cap w).mono λe w' ⟨hb,he⟩=>⟨_,he,hb,.sl (c:=[]) 2 (λ_ _=>undef) (λi h=>by simp at h) (Nat.le_refl _) (Nat.zero_le _) (λ_=>rfl) (λi j h=>by simp at h) (λi j h=>by simp at h)⟩
    ·have Z1:0<ls.length:=List.length_pos_iff.2 hn
     have hz:sz=1:=by
      have:=hsz 0 (by simpa using Z1);rw[<- this];simp
     subst hz;obtain⟨b,o,e,_,_⟩:=hcell 0 0 (by simpa using Z1) (by omega);subst e
     have R2:Kk w b o ls:=λi hi=>by
      obtain⟨b',o',e',_,hc⟩:=hcell i 0 (by simpa using hi) (by omega)
      injection e' with e'
      injection e' with e1 e2
      subst e1;subst e2;have hr:=hrec i 0 (by simpa using hi) (by simp);simp only[List.getElem_map,List.getElem_cons_zero]at hr;obtain⟨ai,ci,hu,hh⟩:=xr hr;exact⟨ai,ci,by rw[<- hu,<- hc];congr 2;omega,hh⟩
     refine(C5 ls b o cap w R2 hl hm).mono λe w' ⟨hb,v,he,hown⟩=>?_;refine AZ ⟨hb,?_⟩
     rcases hown.2 with⟨rfl,h0⟩|⟨g,c,cur,rfl,hg,YX,Wz,VP,hcur,Zx⟩
     ·exact .inl ⟨oEN h0,none,he⟩
     ·have hK:=uo YX hcur Wz Zx;exact .inr ⟨g,c,he,hg,Wz,VP,xu hK (by simp) λi hi=>by rw[getElem!_pos _ i (by simpa using hi)];simp⟩
end Go.Proofs.Ytbdhpgelkfncpaa
namespace Go.Proofs.Ytbdhpgelkfncpaa
end Go.Proofs.Ytbdhpgelkfncpaa
namespace Go.Proofs.Ytbdhpgelkfncpaa
open Go.RowKit
def Kv:FuncId->List TV->Option (List (List TV)):=λf vals=>
 if f=56 then(match vals with
  | [.fn g [],.sl c]=>if g=45 then(II c).bind λl=>if l.length<=1099511627776 then some ((kx l).map pM)else none else none
  |_=>none)
 else if f=57 then(match vals with
  | [.sl c]=>(zU c).bind λl=>if l.flatten.length<=1099511627776/\l.length<=1099511627776 then some (l.flatten.map pM)else none
  |_=>none)
 else none
def mu:cj:=IE Kv
theorem Fb:ee Try.prog mu:=K9 λf vals c h=>by
 unfold Kv at h;split at h
 ·rename_i e;subst e;split at h
  ·split at h
   ·rename_i g c0 e;subst e;obtain⟨l,h1,h2⟩:=Option.bind_eq_some_iff.1 h;split at h2
    ·rename_i hl
     injection h2 with h2
     subst h2;rw[zT h1];exact⟨uM,BX l hl⟩
    ·cases h2
   ·cases h
  ·cases h
 ·split at h
  ·rename_i e;subst e;split at h
   ·obtain⟨l,h1,h2⟩:=Option.bind_eq_some_iff.1 h;split at h2
    ·rename_i hl
     injection h2 with h2
     subst h2;rw[Bz h1];exact⟨wb,C4 l hl.1 hl.2⟩
    ·cases h2
   ·cases h
  ·cases h
def dq(a0:List PID):Option (List PID×Unit):=if a0.length<=1099511627776 then some (kx a0,())else none
def dl(a0:List (List PID)):Option (List PID×Unit):=if a0.flatten.length<=1099511627776/\a0.length<=1099511627776 then some (a0.flatten,())else none
theorem kC{id:Nat}:jL mu ⟨56,id,[.fn 45 [],shU (.row false (.pair (.int .i64) (.int .i64)))],[],[⟨[shU (.row false (.pair (.int .i64) (.int .i64)))],[.one],[]⟩],λh=>dq h.1⟩:=by
 rintro⟨l,h⟩ o x ho hx;have ho:(if List.length l<=1099511627776 then some (kx l,())else none)=some o:=ho;split at ho
 case isFalse=>cases ho
 rename_i hl
 injection ho with ho
 subst ho;cases hx;show IE Kv 56 [.fn 45 [],.sl (l.map pM)] []=some (⟨[.sl ((kx l).map pM)],[.one]⟩,[]);simp[IE,Kv,xq,vV,hl]
theorem jZ{id:Nat}:jL mu ⟨57,id,[shU (.row false (.row false (.pair (.int .i64) (.int .i64))))],[],[⟨[shU (.row false (.pair (.int .i64) (.int .i64)))],[.one],[]⟩],λh=>dl h.1⟩:=by
 rintro⟨l,h⟩ o x ho hx;have ho:(if(List.flatten l).length<=1099511627776/\List.length l<=1099511627776 then some (List.flatten l,())else none)=some o:=ho;split at ho
 case isFalse=>cases ho
 rename_i hl
 injection ho with ho
 subst ho;cases hx;show IE Kv 57 [.sl (l.map λx=>[TV.sl (x.map pM)])] []=some (⟨[.sl (l.flatten.map pM)],[.one]⟩,[]);unfold IE;rw[oIP (by simp[xq])];unfold Kv;rw[oIN (by decide),oIP rfl];simp only[xZ,oBS,oIP hl,oMS]
end Go.Proofs.Ytbdhpgelkfncpaa
namespace Go.Proofs.Ytbdhpgelkfncpaa
open Go.RowKit Go.Sort Go.Lib
def LK(w:World)(e:Ending)(w':World):Prop:=∃v,e=.returned v/\w.grownBy w' none/\Mk rPg 58 w.heap.size w' (λ_=>False) v []
theorem CL(n:Nat)(w:World)(hn:n<=1099511627776):Calls Try.prog 55 #[.slice none 0 0,.int .i64 n] w (LK w):=by
 obtain⟨i,z,hi,hz,hsz,YE,Zg⟩:=LP.info;by_cases h0:n=0
 ·subst h0;clear hi hz hsz YE Zg
  go_enter Try.func55,Try.ntmps55
  go_wp2
  go_ret
  exact⟨_,rfl,aY _ _,Mk.nil _ _ _ _ _⟩
 ·have hz0:∀(w:World)(ty:TypeId),(Builtin.append_ #[26,3] ty #[.slice none 0 0,.int .i64 n]).run Try.prog w=.ok (.slice (some ⟨w.heap.size,0,none⟩) n (grownCap w n 0 58)) (w.drew.alloc (.cells (Builtin.zeroCells z.cells n++Builtin.zeroCells z.cells (grownCap w n 0 58-n)) 58)):=λw ty=>
   lG 26 3 ty 58 i z Try.underlying26 Try.underlying3 hi hz (by rw[hsz];exact rPg.pos) n (by omega) hn (by rw[YE];omega)
  have hge:n<=grownCap w n 0 58:=grownCap_ge w n 0 _;have YO:grownCap w n 0 58<=maxLen:=grownCap_le_maxLen w n 0 _ (by unfold maxLen;omega);obtain⟨zc,Xw⟩:∃zc,zc=z.cells:=⟨_,rfl⟩;rw[<- Xw]at hz0 Zg;have HZ:=Lib.hid Zg;clear Xw hi hz hsz YE Zg
  go_enter Try.func55,Try.ntmps55
  go_wp2_with (at_builtin;refine gB rfl _ _ rfl rfl rfl (hz0 _ _) ?_)
  go_ret
  have XW:(Builtin.zeroCells zc n++Builtin.zeroCells zc (grownCap w n 0 58-n)).size=grownCap w n 0 58*rPg.size:=by
   rw[Array.size_append,size_zeroCells,size_zeroCells,HZ.out,<- Nat.add_mul];congr 1;omega
  exact⟨_,rfl,aW (cg (aY w none)) _,[],⟨rfl,.inr ⟨w.heap.size,_,_,rfl,Nat.le_refl _,heap_alloc_new w _,Nat.zero_le _,YO,XW,by simp⟩⟩,by simp,rfl⟩
def F9(F:Nat->Prop)(xs:List iM)(w:World)(e:Ending)(w':World):Prop:=
 ∃v,e=.returned v/\Mk rPg 58 w.heap.size w' F v xs/\w.grownBy w' none
set_option maxHeartbeats 4000000 in
theorem yb(F:Nat->Prop)(xs ys:List iM)(b cap:Nat)(V1 V2:Value)(w:World)(hb:Bk w b 26 [V1,V2])(h1:RSl rPg w F xs V1)(h2:RSl rPg w F ys V2)(hlen:xs.length+ys.length<=1099511627776):
 Calls Try.prog 32 #[.slice (some ⟨b,0,none⟩) 2 cap] w (F9 (λk=>F k/\k<w.heap.size) (xs++ys) w):=by
 have HB:=Lib.hid hb;have H1:=Lib.hid h1;have H2:=Lib.hid h2;obtain⟨A1,c1,rfl,_⟩:=h1.size_eq;obtain⟨A2,c2,rfl,_⟩:=h2.size_eq;have k0:=hb.cell 0;have k1:=hb.cell 1;simp only[List.getElem?_cons_zero,List.getElem?_cons_succ]at k0 k1;obtain⟨n1,XE⟩:∃n,n=xs.length:=⟨_,rfl⟩;obtain⟨n2,Vi⟩:∃n,n=ys.length:=⟨_,rfl⟩;rw[<- XE,<- Vi]at hlen;rw[<- XE]at k0;rw[<- Vi]at k1;have HN:=Lib.hid (And.intro XE Vi);clear hb h1 h2 XE Vi
 go_enter Try.func32,Try.ntmps32
 go_wp2_with fail
 go_loopw [3,11] (λs i wr=>(i=.int .i64 0/\s=.int .i64 0\/i=.int .i64 1/\s=.int .i64 n1\/i=.int .i64 2/\s=.int .i64 ((n1+n2:Nat):Int))/\w=wr) (λ_ i _=>2-(intOf i).toNat)
 case atStart=>exact⟨.inl ⟨rfl,rfl⟩,rfl⟩
 case round=>
  obtain⟨hi,rfl⟩:=hrel
  rcases hi with⟨rfl,rfl⟩|⟨rfl,rfl⟩|⟨rfl,rfl⟩
  ·go_wp2_with fail
   go_roundw
   case rel=>exact⟨.inr (.inl ⟨by go_num,by go_num⟩),by first|rfl|trivial⟩
   case measure=>simp[intOf]
  ·have Z1:¬((n1:Int)+(n2:Int)<0):=by omega
   go_wp2_with fail
   go_roundw
   case rel=>exact⟨.inr (.inr ⟨by go_num,by go_num⟩),by first|rfl|trivial⟩
   case measure=>simp[intOf]
  ·go_wp2_with fail
   refine(CL (n1+n2) _ hlen).mono ?_;rintro e w3 ⟨v,rfl,UL,YP⟩;obtain⟨A3,c3,rfl⟩:=YP.shape;have HG:=Lib.hid UL;have HM:=Lib.hid (YP.subG (G':=λk=>F k/\k<w.heap.size) λ_ h=>h.elim);clear YP UL
   go_wp2_with fail
   clear k0 k1
   go_loopw [6,27] (λs i wy=>(i=.int .i64 0/\Mk rPg 58 w.heap.size wy (λk=>F k/\k<w.heap.size) s []\/i=.int .i64 1/\Mk rPg 58 w.heap.size wy (λk=>F k/\k<w.heap.size) s xs\/i=.int .i64 2/\Mk rPg 58 w.heap.size wy (λk=>F k/\k<w.heap.size) s (xs++ys))/\w.grownBy wy none) (λ_ i _=>2-(intOf i).toNat)
   case atStart=>exact⟨.inl ⟨rfl,HM.out⟩,HG.out⟩
   case round=>
    obtain⟨hi,hg⟩:=hrel
    rcases hi with⟨rfl,hm⟩|⟨rfl,hm⟩|⟨rfl,hm⟩
    ·have hB:=HB.out.grow hg;have k0:=hB.cell 0;have k1:=hB.cell 1;simp only[List.getElem?_cons_zero,List.getElem?_cons_succ]at k0 k1;rw[<- HN.out.1]at k0;rw[<- HN.out.2]at k1;obtain⟨A6,c6,rfl⟩:=hm.shape;have Ux:=Lib.hid hm;have S6:=Lib.hid hg;have PR:=hg.size;clear hm hg hB
     go_wp2_with (at_builtin;go_loud (refine iQ (R:=rPg) rfl _ _ LP (by decide) rfl w.heap.size (λk=>F k/\k<w.heap.size) _ [] rfl Ux.out PR (.slice A1 n1 c1) xs rfl ?c3 ?c4 ?c5 ?_))
     case c3=>exact((by rw[HN.out.1];exact H1.out.live.grow S6.out:RSl rPg wr (λk=>F k/\k<w.heap.size) xs (.slice A1 n1 c1))).sub λk hk=>⟨hk,λe=>by have:=(Ux.out.row k e.symm).1;have:=hk.2;omega⟩
     case c4=>
      intro c' e;obtain⟨_,_,_,e2,_,_,_,PB,_⟩:=H1.out
      injection e2 with e3 e4 e5
      injection e with e6 e7 e8
      rw[<- e8,e5];exact PB (e3.symm.trans e6)
     case c5=>(try simp only[List.length_nil]);have:=HN.out;omega
     intro v' w' WZ UK;obtain⟨A7,c7,rfl⟩:=WZ.shape;have Uy:=Lib.hid WZ;have Oc:=Lib.hid (show w.grownBy w' none from fw S6.out UK λk e=>(Ux.out.row k e).1);clear WZ UK
     go_wp2_with fail
     go_roundw
     case rel=>exact⟨.inr (.inl ⟨by go_num,by simpa using Uy.out⟩),Oc.out⟩
     case measure=>simp[intOf]
    ·have hB:=HB.out.grow hg;have k0:=hB.cell 0;have k1:=hB.cell 1;simp only[List.getElem?_cons_zero,List.getElem?_cons_succ]at k0 k1;rw[<- HN.out.1]at k0;rw[<- HN.out.2]at k1;obtain⟨A6,c6,rfl⟩:=hm.shape;have Ux:=Lib.hid hm;have S6:=Lib.hid hg;have PR:=hg.size;clear hm hg hB
     go_wp2_with (at_builtin;go_loud (refine iQ (R:=rPg) rfl _ _ LP (by decide) rfl w.heap.size (λk=>F k/\k<w.heap.size) _ xs rfl Ux.out PR (.slice A2 n2 c2) ys rfl ?c3 ?c4 ?c5 ?_))
     case c3=>exact((by rw[HN.out.2];exact H2.out.live.grow S6.out:RSl rPg wr (λk=>F k/\k<w.heap.size) ys (.slice A2 n2 c2))).sub λk hk=>⟨hk,λe=>by have:=(Ux.out.row k e.symm).1;have:=hk.2;omega⟩
     case c4=>
      intro c' e;obtain⟨_,_,_,e2,_,_,_,PB,_⟩:=H2.out
      injection e2 with e3 e4 e5
      injection e with e6 e7 e8
      rw[<- e8,e5];exact PB (e3.symm.trans e6)
     case c5=>(try simp only[List.length_nil]);have:=HN.out;omega
     intro v' w' WZ UK;obtain⟨A7,c7,rfl⟩:=WZ.shape;have Uy:=Lib.hid WZ;have Oc:=Lib.hid (show w.grownBy w' none from fw S6.out UK λk e=>(Ux.out.row k e).1);clear WZ UK
     go_wp2_with fail
     go_roundw
     case rel=>exact⟨.inr (.inr ⟨by go_num,Uy.out⟩),Oc.out⟩
     case measure=>simp[intOf]
    ·have Ux:=Lib.hid hm;have S6:=Lib.hid hg;obtain⟨A6,c6,rfl⟩:=hm.shape;clear hm hg
     go_wp2_with fail
     go_ret
     exact⟨_,rfl,Ux.out,S6.out⟩
end Go.Proofs.Ytbdhpgelkfncpaa
namespace Go.Proofs.Ytbdhpgelkfncpaa
open Go.RowKit Go.Maps
theorem GZ:(match Try.prog.underlying 56 with|some (.array _ _)|some (.struct _)=>true|_=>false)=true:=by kernel_rfl
set_option maxRecDepth 100000 in
theorem wT:Keyed Try.prog 56:=Keyed.of_law (deep_law_gate (by kernel_rfl) (of_decide_eq_true (by kernel_rfl)) (of_decide_eq_true (by kernel_rfl)) (by kernel_rfl) GZ)
theorem Cm:∃f g:Field,Try.prog.underlying 56=some (.struct #[f,g])/\f.type=3/\g.type=3/\f.offset=0/\g.offset=1/\(f.name != "_")=true/\(g.name != "_")=true:=by
 have h:(match Try.prog.underlying 56 with|some (.struct fs)=>(match fs.toList with | [f,g]=>decide (f.type=3)&&decide (g.type=3)&&decide (f.offset=0)&&decide (g.offset=1)&&(f.name != "_")&&(g.name != "_")|_=>false)|_=>false)=true:=by kernel_rfl
 revert h;split
 ·rename_i fs hu;split
  ·rename_i f g Rl;intro h;simp only[oBA,oDE]at h;obtain⟨⟨⟨⟨⟨h1,h2⟩,h3⟩,h4⟩,h5⟩,h6⟩:=h;refine⟨f,g,?_,h1,h2,h3,h4,h5,h6⟩;rw[hu];have:fs=#[f,g]:=Array.ext' (by simpa using Rl);rw[this]
  ·intro h;cases h
 ·intro h;cases h
def Kw(a b:Int):Lit:=.string (keyBytes [.int .i64 a,.int .i64 b])
set_option maxRecDepth 100000 in
theorem xe{a b:Int}(ha:(Lit.int .i64 a).wf=true)(hb:(Lit.int .i64 b).wf=true):keyOf Try.prog 56 (.agg #[.int .i64 a,.int .i64 b])=some (Kw a b):=by
 obtain⟨f,g,hu,h1,h2,h3,h4,h5,h6⟩:=Cm
 have hk:Try.prog.keyType 56=true:=by kernel_rfl
 have hc:Try.prog.cellsOf 56=2:=by kernel_rfl
 have hci:Try.prog.cellsOf 3=1:=by kernel_rfl
 have hi:Try.prog.underlying 3=some (.int .i64):=Try.underlying3
 have hsz:∃n,Try.prog.types.size=n+1:=by
  have h:(0<Try.prog.types.size):=of_decide_eq_true (by kernel_rfl);exact⟨_,(Nat.succ_pred_eq_of_pos h).symm⟩
 obtain⟨n,hn⟩:=hsz
 have ZA:∀(m:Nat)(z:Int),(Lit.int .i64 z).wf=true->Try.prog.keyLits (m+1) 3 [.int .i64 z]=some [.int .i64 z]:=λm z hz=>by
  simp[Program.keyLits,hi,hz]
 have hl:Try.prog.keyLits (n+1+1) 56 [.int .i64 a,.int .i64 b]=some [.int .i64 a,.int .i64 b]:=by
  unfold Program.keyLits;simp[hu,hc,h5,h6,h1,h2,h3,h4,hci,ZA n a ha,ZA n b hb]
 unfold keyOf;simp[hu,hk,hn,Value.formed,hc,Value.cells,hl,Kw]
theorem JS{a b c d:Int}(ha:(Lit.int .i64 a).wf=true)(hb:(Lit.int .i64 b).wf=true)(hc:(Lit.int .i64 c).wf=true)(hd:(Lit.int .i64 d).wf=true)(h:Kw a b=Kw c d):a=c/\b=d:=by
 injection h with h
 have h2:=keyBytes_inj (l:=[.int .i64 a,.int .i64 b]) (l':=[.int .i64 c,.int .i64 d]) ⟨rfl,rfl,trivial⟩ (by simp[Lit.keyWf,ha,hb]) (by simp[Lit.keyWf,hc,hd]) h
 injection h2 with h3 h4
 injection h3 with _ h3
 injection h4 with h4
 injection h4 with _ h4
 exact⟨h3,h4⟩
noncomputable def rdP (L:List Value)(v:Value):Option (DataW Unit×List MemPlace):=
 @dite _ (∃i:Nat,L[i]?=some v) (Classical.propDecidable _) (λh=>some (.lit (.int .i64 (Classical.choose h:Nat)),[])) (λ_=>none)
theorem yX{L:List Value}{v:Value}(h:v∈L):∃i:Nat,rdP L v=some (.lit (.int .i64 i),[])/\L[i]?=some v:=by
 have hx:∃i:Nat,L[i]?=some v:=List.getElem?_of_mem h;exact⟨Classical.choose hx,by unfold rdP;rw[dif_pos hx],Classical.choose_spec hx⟩
theorem JH{L:List Value}{v:Value}{i:Nat}{ps:List MemPlace}(h:rdP L v=some (.lit (.int .i64 i),ps)):L[i]?=some v:=by
 unfold rdP at h;split at h
 ·rename_i hx
  injection h with h
  injection h with h _
  injection h with h
  injection h with _ h
  have h2:=Classical.choose_spec hx
  have e:Classical.choose hx=i:=by omega
  rw[e]at h2;exact h2
 ·cases h
def zPg:Value:=.agg #[.int .i64 0,.int .i64 0,.slice none 0 0,.int .i64 0,.int .i64 0,.int .i64 0,.int .i64 0,.int .i64 0,.int .i64 0,.int .u16 0,.slice none 0 0]
noncomputable def rdD (L:List Value)(v:Value):DataW Unit:=((rdP L v).map (·.1)).getD .nil
def PMp(w:World)(L:List Value)(b n:Nat)(f:Int×Int->Value):Prop:=
 ∃D,w.ownsMap Try.prog 56 (rdP L) b n D/\∀a c:Int,(Lit.int .i64 a).wf=true->(Lit.int .i64 c).wf=true->∃i:Nat,D.atKey (Kw a c) (rdD L zPg)=.lit (.int .i64 i)/\L[i]?=some (f (a,c))
theorem Ez{L:List Value}{v:Value}(h:v∈L):∃i:Nat,rdD L v=.lit (.int .i64 i)/\L[i]?=some v:=by
 obtain⟨i,h1,h2⟩:=yX h;exact⟨i,by unfold rdD;rw[h1];rfl,h2⟩
theorem IT(w:World){L:List Value}(hz:zPg∈L):PMp (w.alloc (.map #[] 0)) L w.heap.size 0 λ_=>zPg:=
 ⟨_,World.ownsMap_made _ _ _ _,λ_ _ _ _=>by
  obtain⟨i,h1,h2⟩:=Ez hz
  exact⟨i,h1,h2⟩⟩
theorem PMp.kept{w w':World}{L:List Value}{b n:Nat}{f:Int×Int->Value}{row:Option Nat}(h:PMp w L b n f)(hg:w.grownBy w' row)(hne:some b≠row):PMp w' L b n f:=
 let ⟨D,h1,h2⟩:=h;⟨D,h1.kept hg hne,h2⟩
theorem PMp.lt{w:World}{L:List Value}{b n:Nat}{f:Int×Int->Value}(h:PMp w L b n f):b<w.heap.size:=let ⟨_,h1,_⟩:=h;h1.lt
theorem IU(w:World):(zeroValue 58).run Try.prog w=.ok zPg w:=by unfold zPg;kernel_rfl
set_option maxRecDepth 100000 in
theorem PMp.lookup{w:World}{L:List Value}{b n:Nat}{f:Int×Int->Value}(h:PMp w L b n f)(hz:zPg∈L){a c:Int}(ha:(Lit.int .i64 a).wf=true)(hc:(Lit.int .i64 c).wf=true):
 (Instr.lookup 74 (.map (some b)) (.agg #[.int .i64 a,.int .i64 c]) false).run Try.prog w=.ok (f (a,c)) w:=by
 obtain⟨D,h1,h2⟩:=h;obtain⟨i0,z1,z2⟩:=yX hz;obtain⟨v,ps,hr,hv⟩:=h1.lookup (t:=74) wT Try.underlying74 (IU w) z1 (xe ha hc);obtain⟨i,h3,h4⟩:=h2 a c ha hc
 have e:rdD L zPg=.lit (.int .i64 i0):=by unfold rdD;rw[z1];rfl
 rw[e]at h3;rw[h3]at hv;have h5:=JH hv;rw[h4]at h5
 injection h5 with h5
 rw[hr,h5]
set_option maxRecDepth 100000 in
theorem PMp.update{w:World}{L:List Value}{b n:Nat}{f:Int×Int->Value}(h:PMp w L b n f)(hn:n<9223372036854775807){a c:Int}(ha:(Lit.int .i64 a).wf=true)(hc:(Lit.int .i64 c).wf=true){v:Value}(hv:v∈L):
 ∃w',(Instr.mapUpdate 74 (.map (some b)) (.agg #[.int .i64 a,.int .i64 c]) v).run Try.prog w=.ok () w'/\PMp w' L b (n+1) (λx=>if x=(a,c)then v else f x)/\w.grownBy w' (some b):=by
 obtain⟨D,h1,h2⟩:=h;obtain⟨i,z1,z2⟩:=yX hv;obtain⟨w',hr,h3,hg⟩:=h1.update (t:=74) wT Try.underlying74 (by unfold maxLen;omega) (xe ha hc) z1;refine⟨w',hr,⟨_,h3,λa' c' Ww XA=>?_⟩,hg⟩;by_cases e:(a',c')=(a,c)
 ·injection e with e1 e2
  subst e1;subst e2;refine⟨i,?_,by simpa using z2⟩;exact atKey_put_same h1.isMap (by unfold Kw;trivial) _ _
 ·simp only[oIN e];rw[atKey_put_other (λh=>e (by obtain⟨e1,e2⟩:=JS Ww XA ha hc h;rw[e1,e2]))];exact h2 a' c' Ww XA
def Ik(c:Int)(w:World)(e:Ending)(w':World):Prop:=e=.returned (.tuple #[.agg #[.int .i64 0,.int .i64 0,.slice none 0 0],.int .i64 c])/\w.grownBy w' none
def Gd(x:Value)(c:Int)(w:World):Prop:=∀w',w.grownBy w' none->Calls Try.prog 24 #[x] w' λe w2=>e=.returned (.int .i64 c)/\w'.grownBy w2 none
structure MgS (w:World)(xf xt yf yt:Int)(X Y:Value)(q6:Nat)(wr:World):Prop where
 grown:w.grownBy wr none
 b2:Bk wr w.heap.size 28 [.int .i64 xf,.int .i64 xt,X]
 b3:Bk wr (w.heap.size+1) 28 [.int .i64 yf,.int .i64 yt,Y]
 b4:Bk wr (w.heap.size+1+1) 28 [.int .i64 0,.int .i64 0,.slice none 0 0]
 b6:Bk wr q6 28 [.int .i64 xf,.int .i64 xt,X,.int .i64 yf,.int .i64 yt,Y]
theorem MgS.grow{w wr w':World}{xf xt yf yt:Int}{X Y:Value}{q6:Nat}(h:MgS w xf xt yf yt X Y q6 wr)(hg:wr.grownBy w' none):MgS w xf xt yf yt X Y q6 w':=⟨be h.grown hg,h.b2.grow hg,h.b3.grow hg,h.b4.grow hg,h.b6.grow hg⟩
theorem MgS.err{w wr:World}{xf xt yf yt:Int}{X Y:Value}{q6:Nat}(h:MgS w xf xt yf yt X Y q6 wr)(a b d:Value):w.grownBy (((wr.setCell ⟨w.heap.size+1+1,0,none⟩ a).setCell ⟨w.heap.size+1+1,1,none⟩ b).setCell ⟨w.heap.size+1+1,2,none⟩ d) none:=
 grown_set (grown_set (grown_set h.grown (.inr (by dsimp only;omega)) _) (.inr (by dsimp only;omega)) _) (.inr (by dsimp only;omega)) _
set_option maxRecDepth 100000 in
set_option maxHeartbeats 4000000 in
theorem E5(A1 A2:Option Addr)(n1 n2 c1 c2:Nat)(xf xt yf yt:Int)(w:World)(cd ce:Int)
 (Tt:Gd (.agg #[.int .i64 xf,.int .i64 xt,.slice A1 n1 c1]) cd w)(Tv:Gd (.agg #[.int .i64 yf,.int .i64 yt,.slice A2 n2 c2]) ce w)(r:Int)
 (hr:(cd≠0/\r=cd)\/(cd=0/\ce≠0/\r=ce)\/(cd=0/\ce=0/\xt≠yf/\r=35)):
 Calls Try.prog 16 #[.agg #[.int .i64 xf,.int .i64 xt,.slice A1 n1 c1],.agg #[.int .i64 yf,.int .i64 yt,.slice A2 n2 c2]] w (Ik r w):=by
 have QK:=Lib.hid Tt;have SF:=Lib.hid Tv;have HR:=Lib.hid hr;clear Tt Tv hr
 go_enter Try.func16,Try.ntmps16
 go_upto_region 2 with fail
 have Q1:MgS w xf xt yf yt (.slice A1 n1 c1) (.slice A2 n2 c2) (w.heap.size+1+1+1) ((((w.alloc (.cells #[.int .i64 xf,.int .i64 xt,.slice A1 n1 c1] 28)).alloc (.cells #[.int .i64 yf,.int .i64 yt,.slice A2 n2 c2] 28)).alloc (.cells #[.int .i64 0,.int .i64 0,.slice none 0 0] 28)).alloc (.cells #[.int .i64 xf,.int .i64 xt,.slice A1 n1 c1,.int .i64 yf,.int .i64 yt,.slice A2 n2 c2] 28)):=by
  have e1:(w.alloc (.cells #[.int .i64 xf,.int .i64 xt,.slice A1 n1 c1] 28)).heap.size=w.heap.size+1:=by simp
  have e2:((w.alloc (.cells #[.int .i64 xf,.int .i64 xt,.slice A1 n1 c1] 28)).alloc (.cells #[.int .i64 yf,.int .i64 yt,.slice A2 n2 c2] 28)).heap.size=w.heap.size+1+1:=by simp
  have e3:(((w.alloc (.cells #[.int .i64 xf,.int .i64 xt,.slice A1 n1 c1] 28)).alloc (.cells #[.int .i64 yf,.int .i64 yt,.slice A2 n2 c2] 28)).alloc (.cells #[.int .i64 0,.int .i64 0,.slice none 0 0] 28)).heap.size=w.heap.size+1+1+1:=by simp
  have g1:w.grownBy (w.alloc (.cells #[.int .i64 xf,.int .i64 xt,.slice A1 n1 c1] 28)) none:=aW (aY _ _) _;have b2:Bk (w.alloc (.cells #[.int .i64 xf,.int .i64 xt,.slice A1 n1 c1] 28)) w.heap.size 28 [.int .i64 xf,.int .i64 xt,.slice A1 n1 c1]:=Bk.new;have g2:(w.alloc (.cells #[.int .i64 xf,.int .i64 xt,.slice A1 n1 c1] 28)).grownBy ((w.alloc (.cells #[.int .i64 xf,.int .i64 xt,.slice A1 n1 c1] 28)).alloc (.cells #[.int .i64 yf,.int .i64 yt,.slice A2 n2 c2] 28)) none:=aW (aY _ _) _;have b3:Bk ((w.alloc (.cells #[.int .i64 xf,.int .i64 xt,.slice A1 n1 c1] 28)).alloc (.cells #[.int .i64 yf,.int .i64 yt,.slice A2 n2 c2] 28)) (w.alloc (.cells #[.int .i64 xf,.int .i64 xt,.slice A1 n1 c1] 28)).heap.size 28 [.int .i64 yf,.int .i64 yt,.slice A2 n2 c2]:=Bk.new;have g3:((w.alloc (.cells #[.int .i64 xf,.int .i64 xt,.slice A1 n1 c1] 28)).alloc (.cells #[.int .i64 yf,.int .i64 yt,.slice A2 n2 c2] 28)).grownBy (((w.alloc (.cells #[.int .i64 xf,.int .i64 xt,.slice A1 n1 c1] 28)).alloc (.cells #[.int .i64 yf,.int .i64 yt,.slice A2 n2 c2] 28)).alloc (.cells #[.int .i64 0,.int .i64 0,.slice none 0 0] 28)) none:=aW (aY _ _) _;have b4:Bk (((w.alloc (.cells #[.int .i64 xf,.int .i64 xt,.slice A1 n1 c1] 28)).alloc (.cells #[.int .i64 yf,.int .i64 yt,.slice A2 n2 c2] 28)).alloc (.cells #[.int .i64 0,.int .i64 0,.slice none 0 0] 28)) ((w.alloc (.cells #[.int .i64 xf,.int .i64 xt,.slice A1 n1 c1] 28)).alloc (.cells #[.int .i64 yf,.int .i64 yt,.slice A2 n2 c2] 28)).heap.size 28 [.int .i64 0,.int .i64 0,.slice none 0 0]:=Bk.new;have g4:(((w.alloc (.cells #[.int .i64 xf,.int .i64 xt,.slice A1 n1 c1] 28)).alloc (.cells #[.int .i64 yf,.int .i64 yt,.slice A2 n2 c2] 28)).alloc (.cells #[.int .i64 0,.int .i64 0,.slice none 0 0] 28)).grownBy ((((w.alloc (.cells #[.int .i64 xf,.int .i64 xt,.slice A1 n1 c1] 28)).alloc (.cells #[.int .i64 yf,.int .i64 yt,.slice A2 n2 c2] 28)).alloc (.cells #[.int .i64 0,.int .i64 0,.slice none 0 0] 28)).alloc (.cells #[.int .i64 xf,.int .i64 xt,.slice A1 n1 c1,.int .i64 yf,.int .i64 yt,.slice A2 n2 c2] 28)) none:=aW (aY _ _) _;have b6:Bk ((((w.alloc (.cells #[.int .i64 xf,.int .i64 xt,.slice A1 n1 c1] 28)).alloc (.cells #[.int .i64 yf,.int .i64 yt,.slice A2 n2 c2] 28)).alloc (.cells #[.int .i64 0,.int .i64 0,.slice none 0 0] 28)).alloc (.cells #[.int .i64 xf,.int .i64 xt,.slice A1 n1 c1,.int .i64 yf,.int .i64 yt,.slice A2 n2 c2] 28)) (((w.alloc (.cells #[.int .i64 xf,.int .i64 xt,.slice A1 n1 c1] 28)).alloc (.cells #[.int .i64 yf,.int .i64 yt,.slice A2 n2 c2] 28)).alloc (.cells #[.int .i64 0,.int .i64 0,.slice none 0 0] 28)).heap.size 28 [.int .i64 xf,.int .i64 xt,.slice A1 n1 c1,.int .i64 yf,.int .i64 yt,.slice A2 n2 c2]:=Bk.new;rw[e1]at b3;rw[e2]at b4;rw[e3]at b6;exact⟨be (be (be g1 g2) g3) g4,((b2.grow g2).grow g3).grow g4,(b3.grow g3).grow g4,b4.grow g4,b6⟩
 generalize(((w.alloc (.cells #[.int .i64 xf,.int .i64 xt,.slice A1 n1 c1] 28)).alloc (.cells #[.int .i64 yf,.int .i64 yt,.slice A2 n2 c2] 28)).alloc (.cells #[.int .i64 0,.int .i64 0,.slice none 0 0] 28)).alloc (.cells #[.int .i64 xf,.int .i64 xt,.slice A1 n1 c1,.int .i64 yf,.int .i64 yt,.slice A2 n2 c2] 28)=W at *;have QN:=Lib.hid Q1;clear Q1
 go_loopw [20] (λi wr=>(i=.int .i64 0\/(i=.int .i64 1/\cd=0)\/(i=.int .i64 2/\cd=0/\ce=0))/\MgS w xf xt yf yt (.slice A1 n1 c1) (.slice A2 n2 c2) (w.heap.size+1+1+1) wr) (λi _=>2-(intOf i).toNat)
 case atStart=>exact⟨.inl rfl,QN.out⟩
 case round=>
  obtain⟨hi,hS⟩:=hrel;have HS:=Lib.hid hS;have U4:=hS.b6.cell 0;have U5:=hS.b6.cell 1;have U6:=hS.b6.cell 2;have U7:=hS.b6.cell 3;have U8:=hS.b6.cell 4;have U9:=hS.b6.cell 5;simp only[List.getElem?_cons_zero,List.getElem?_cons_succ]at U4 U5 U6 U7 U8 U9;clear hS QN;rcases hi with rfl|⟨rfl,Wy⟩|⟨rfl,Wy,Zp⟩
  ·go_wp2_with fail
   refine(QK.out _ (be HS.out.grown (aW (aY _ _) _))).mono ?_;rintro e w5 ⟨rfl,Xp⟩;have Yh:=Lib.hid ((HS.out.grow (aW (aY wr none) (.cells #[.int .i64 xf,.int .i64 xt,.slice A1 n1 c1] 28))).grow Xp);clear Xp U4 U5 U6 U7 U8 U9;by_cases hc:cd=0
   ·have UG:(cd != 0)=false:=by simp[hc]
    have Hc:=Lib.hid hc;clear hc
    go_wp2_with fail
    go_roundw
    case rel=>exact⟨.inr (.inl ⟨by go_num,Hc.out⟩),Yh.out⟩
    case measure=>simp[intOf]
   ·have UG:(cd != 0)=true:=by simp[hc]
    have Y5:=Yh.out.b4.cell 0;have Y6:=Yh.out.b4.cell 1;have V3:=Yh.out.b4.cell 2;have WS:=Yh.out.b4.free 0;have f41:=Yh.out.b4.free 1;have OC:=Yh.out.b4.free 2;have q4:=Yh.out.b4.hi;simp only[List.getElem?_cons_zero,List.getElem?_cons_succ]at Y5 Y6 V3;have Hc:=Lib.hid hc;clear hc
    go_wp2_with fail
    refine bodyPost_ret (v:=.tuple #[.agg #[.int .i64 0,.int .i64 0,.slice none 0 0],.int .i64 cd]) (by simp[results,Try.results16,go_sem,Y5,Y6,V3,q4]) rfl ?_
    have hr:r=cd:=by
     rcases HR.out with⟨h1,h2⟩|⟨h1,h2,h3⟩|⟨h1,h2,h3,h4⟩
     all_goals first|exact h2|exact h3|exact absurd h1 Hc.out|exact absurd h2 Hc.out|exact absurd QJ.out h1|exact absurd h1 (λh=>Hc.out h)
    rw[hr];exact⟨rfl,Yh.out.err _ _ _⟩
  ·have QJ:=Lib.hid Wy;clear Wy
   go_wp2_with fail
   refine(SF.out _ (be HS.out.grown (aW (aY _ _) _))).mono ?_;rintro e w5 ⟨rfl,Xp⟩;have Yh:=Lib.hid ((HS.out.grow (aW (aY wr none) (.cells #[.int .i64 yf,.int .i64 yt,.slice A2 n2 c2] 28))).grow Xp);clear Xp U4 U5 U6 U7 U8 U9;by_cases hc:ce=0
   ·have UG:(ce != 0)=false:=by simp[hc]
    have Hc:=Lib.hid hc;clear hc
    go_wp2_with fail
    go_roundw
    case rel=>exact⟨.inr (.inr ⟨by go_num,QJ.out,Hc.out⟩),Yh.out⟩
    case measure=>simp[intOf]
   ·have UG:(ce != 0)=true:=by simp[hc]
    have Y5:=Yh.out.b4.cell 0;have Y6:=Yh.out.b4.cell 1;have V3:=Yh.out.b4.cell 2;have WS:=Yh.out.b4.free 0;have f41:=Yh.out.b4.free 1;have OC:=Yh.out.b4.free 2;have q4:=Yh.out.b4.hi;simp only[List.getElem?_cons_zero,List.getElem?_cons_succ]at Y5 Y6 V3;have Hc:=Lib.hid hc;clear hc
    go_wp2_with fail
    refine bodyPost_ret (v:=.tuple #[.agg #[.int .i64 0,.int .i64 0,.slice none 0 0],.int .i64 ce]) (by simp[results,Try.results16,go_sem,Y5,Y6,V3,q4]) rfl ?_
    have hr:r=ce:=by
     rcases HR.out with⟨h1,h2⟩|⟨h1,h2,h3⟩|⟨h1,h2,h3,h4⟩
     all_goals first|exact h2|exact h3|exact absurd h1 Hc.out|exact absurd h2 Hc.out|exact absurd QJ.out h1|exact absurd h1 (λh=>Hc.out h)
    rw[hr];exact⟨rfl,Yh.out.err _ _ _⟩
  ·have X7:=HS.out.b2.cell 1;have Yg:=HS.out.b3.cell 0;have Y5:=HS.out.b4.cell 0;have Y6:=HS.out.b4.cell 1;have V3:=HS.out.b4.cell 2;have WS:=HS.out.b4.free 0;have f41:=HS.out.b4.free 1;have OC:=HS.out.b4.free 2;have q4:=HS.out.b4.hi;simp only[List.getElem?_cons_zero,List.getElem?_cons_succ]at X7 Yg Y5 Y6 V3
   have hne:xt≠yf/\r=35:=by
    rcases HR.out with⟨h1,h2⟩|⟨h1,h2,h3⟩|⟨h1,h2,h3,h4⟩
    ·exact absurd Wy h1
    ·exact absurd Zp h2
    ·exact⟨h3,h4⟩
   obtain⟨hne,rfl⟩:=hne
   have hnb:(xt != yf)=true:=by simp[hne]
   clear hne Wy Zp U4 U5 U6 U7 U8 U9
   go_wp2_with fail
   refine bodyPost_ret (v:=.tuple #[.agg #[.int .i64 0,.int .i64 0,.slice none 0 0],.int .i64 35]) (by simp[results,Try.results16,go_sem,Y5,Y6,V3,q4]) rfl ?_;exact⟨rfl,HS.out.err _ _ _⟩
end Go.Proofs.Ytbdhpgelkfncpaa
