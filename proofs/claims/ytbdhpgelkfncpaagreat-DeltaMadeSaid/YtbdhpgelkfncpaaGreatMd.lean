/- Part of the proof; no condition. -/
import Derived.Test.YtbdhpgelkfncpaaGreatMc
import Derived.Laws.AppendOwnNone
import Derived.Deep.DeepAppendRoom
import Derived.ArgAppend
import Derived.Orders
import Derived.Deep.RegionWith
import Derived.Outline
import Derived.Deep.DeepCutAuto
import Derived.RegionTactic
import Derived.BigRegion
import Derived.StillTailTactics
import Derived.Test.YtbdhpgelkfncpaaGreatProg
import Derived.WalkKit
import Derived.WalkSpells
import Derived.Handy
import Derived.Sort.Grow
import Derived.Shelf.GgSortFunc.RowK
import Derived.Shelf.SlicesQ.Reverse
import Derived.Lib.SlicesCompact
import Derived.Lib.SliceRun
import Derived.Laws.StructEq
import Derived.Deep.LoopGhost
import Derived.Deep.Draws
import Derived.Sort.WalkB12
import Derived.Shelf.RegionOpenPlain
import Derived.Shelf.SlSortCmp.WholeK
import Derived.Shelf.SlSortCmp.NoneTotal
import Derived.Shelf.SlicesE.Clone
import Derived.Ground.SlgnProg
import Derived.Maps.Own
import Derived.Maps.OwnOps
import Derived.Maps.Views
import Derived.DeepKeys5
import Derived.ChangeKeys
set_option linter.unusedVariables false
set_option linter.unusedSimpArgs false
namespace Go.Proofs.YtbdhpgelkfncpaaGreat
open Go.RowKit
structure Rp (α:Type) where
 size:Nat
 rep:World->(Nat->Prop)->α->List Value->Prop
 own:World->List Nat->α->List Value->Prop
 pos:0<size
 len:∀{w F a cs},rep w F a cs->cs.length=size
 one:∀{w F a cs},rep w F a cs->∀v∈cs,v.oneCell'=true
 keep:∀{w w' F a cs},rep w F a cs->gH F w w'->rep w' F a cs
 sub:∀{w F G a cs},rep w F a cs->(∀k,F k->G k)->rep w G a cs
 live:∀{w F a cs},rep w F a cs->rep w (λk=>F k/\k<w.heap.size) a cs
 okeep:∀{w w' fp a cs},own w fp a cs->(∀k,k∈fp->w'.heap[k]?=w.heap[k]?)->own w' fp a cs
 olive:∀{w fp a cs},own w fp a cs->∀k,k∈fp->k<w.heap.size
 reads:∀{w fp a cs},own w fp a cs->rep w (λk=>k∈fp) a cs
def ND(k:IntKind):Rp Int where
 size:=1
 rep _ _ a cs:=cs=[.int k a]/\(Lit.int k a).wf=true
 own _ fp a cs:=fp=[]/\cs=[.int k a]/\(Lit.int k a).wf=true
 pos:=by decide
 len:=λh=>by rw[h.1];rfl
 one:=λh=>by rw[h.1];simp[Value.oneCell']
 keep:=λh _=>h
 sub:=λh _=>h
 live:=λh=>h
 okeep:=λh _=>h
 olive:=λh k hk=>by rw[h.1]at hk;simp at hk
 reads:=λh=>h.2
def nc{α β:Type}(R:Rp α)(S:Rp β):Rp (α×β) where
 size:=R.size+S.size
 rep w F p cs:=∃c d,cs=c++d/\R.rep w F p.1 c/\S.rep w F p.2 d
 own w fp p cs:=∃c d f g,cs=c++d/\fp=f++g/\R.own w f p.1 c/\S.own w g p.2 d
 pos:=by have:=R.pos;omega
 len:=λ⟨c,d,e,h1,h2⟩=>by rw[e,List.length_append,R.len h1,S.len h2]
 one:=λ⟨c,d,e,h1,h2⟩ v hv=>by
  rw[e,List.mem_append]at hv;rcases hv with hv|hv
  ·exact R.one h1 v hv
  ·exact S.one h2 v hv
 keep:=λ⟨c,d,e,h1,h2⟩ ha=>⟨c,d,e,R.keep h1 ha,S.keep h2 ha⟩
 sub:=λ⟨c,d,e,h1,h2⟩ hs=>⟨c,d,e,R.sub h1 hs,S.sub h2 hs⟩
 live:=λ⟨c,d,e,h1,h2⟩=>⟨c,d,e,R.live h1,S.live h2⟩
 okeep:=λ⟨c,d,f,g,e,e',h1,h2⟩ hk=>⟨c,d,f,g,e,e',R.okeep h1 λk h=>hk k (by rw[e'];exact List.mem_append_left _ h),S.okeep h2 λk h=>hk k (by rw[e'];exact List.mem_append_right _ h)⟩
 olive:=λ⟨c,d,f,g,e,e',h1,h2⟩ k hk=>by
  rw[e',List.mem_append]at hk;rcases hk with hk|hk
  ·exact R.olive h1 k hk
  ·exact S.olive h2 k hk
 reads:=λ⟨c,d,f,g,e,e',h1,h2⟩=>⟨c,d,e,R.sub (R.reads h1) λk h=>by rw[e'];exact List.mem_append_left _ h,S.sub (S.reads h2) λk h=>by rw[e'];exact List.mem_append_right _ h⟩
section
variable {α:Type} (R:Rp α)
def eZ(w:World)(F:Nat->Prop):List α->List Value->Prop
 | [],cs=>cs=[]
 |x::r,cs=>∃c d,cs=c++d/\R.rep w F x c/\eZ w F r d
def jp(w:World):List Nat->List α->List Value->Prop
 |fp,[],cs=>cs=[]/\fp=[]
 |fp,x::r,cs=>∃c d f g,cs=c++d/\fp=f++g/\R.own w f x c/\jp w g r d
variable {R}
theorem eZ.len{w:World}{F:Nat->Prop}:∀{xs:List α}{cs:List Value},eZ R w F xs cs->cs.length=xs.length*R.size
 | [],_,h=>by rw[show _=[]from h];simp
 |x::r,_,⟨c,d,e,h1,h2⟩=>by rw[e,List.length_append,R.len h1,eZ.len h2,oLC,Nat.succ_mul,Nat.add_comm]
theorem eZ.one{w:World}{F:Nat->Prop}:∀{xs:List α}{cs:List Value},eZ R w F xs cs->∀v∈cs,v.oneCell'=true
 | [],_,h,v,hv=>by rw[show _=[]from h]at hv;simp at hv
 |x::r,_,⟨c,d,e,h1,h2⟩,v,hv=>by
  rw[e,List.mem_append]at hv;rcases hv with hv|hv
  ·exact R.one h1 v hv
  ·exact eZ.one h2 v hv
theorem eZ.keep{w w':World}{F:Nat->Prop}(ha:gH F w w'):∀{xs:List α}{cs:List Value},eZ R w F xs cs->eZ R w' F xs cs
 | [],_,h=>h
 |x::r,_,⟨c,d,e,h1,h2⟩=>⟨c,d,e,R.keep h1 ha,eZ.keep ha h2⟩
theorem eZ.sub{w:World}{F G:Nat->Prop}(hs:∀k,F k->G k):∀{xs:List α}{cs:List Value},eZ R w F xs cs->eZ R w G xs cs
 | [],_,h=>h
 |x::r,_,⟨c,d,e,h1,h2⟩=>⟨c,d,e,R.sub h1 hs,eZ.sub hs h2⟩
theorem eZ.live{w:World}{F:Nat->Prop}:∀{xs:List α}{cs:List Value},eZ R w F xs cs->eZ R w (λk=>F k/\k<w.heap.size) xs cs
 | [],_,h=>h
 |x::r,_,⟨c,d,e,h1,h2⟩=>⟨c,d,e,R.live h1,eZ.live h2⟩
theorem eZ.append{w:World}{F:Nat->Prop}:∀{xs ys:List α}{cs ds:List Value},eZ R w F xs cs->eZ R w F ys ds->eZ R w F (xs++ys) (cs++ds)
 | [],_,_,_,h,h'=>by rw[show _=[]from h];simpa using h'
 |x::r,_,_,ds,⟨c,d,e,h1,h2⟩,h'=>⟨c,d++ds,by rw[e,List.append_assoc],h1,eZ.append h2 h'⟩
theorem eZ.single{w:World}{F:Nat->Prop}{x:α}{c:List Value}(h:R.rep w F x c):eZ R w F [x] c:=⟨c,[],by simp,h,rfl⟩
theorem eZ.at_{w:World}{F:Nat->Prop}:∀{xs:List α}{cs:List Value},eZ R w F xs cs->∀{k:Nat}(hk:k<xs.length),∃c,R.rep w F xs[k] c/\∀(j:Nat) u,c[j]?=some u->cs[k*R.size+j]?=some u
 |x :: r,_,⟨c,d,e,h1,h2⟩,0,_=>⟨c,h1,λj u hj=>by
    have hlt:j<c.length:=(oGS hj).1
    rw[e,Nat.zero_mul,Nat.zero_add,List.getElem?_append_left hlt];exact hj⟩
 |x::r,_,⟨c,d,e,h1,h2⟩,k+1,hk=>by
  obtain⟨c',h3,h4⟩:=eZ.at_ h2 (k:=k) (by simpa using hk);refine⟨c',h3,λj u hj=>?_⟩;rw[e,List.getElem?_append_right (by rw[R.len h1,Nat.succ_mul];omega),R.len h1,show(k+1)*R.size+j-R.size=k*R.size+j by rw[Nat.succ_mul];omega];exact h4 j u hj
theorem eZ.take{w:World}{F:Nat->Prop}:∀{xs:List α}{cs:List Value},eZ R w F xs cs->∀(n:Nat),eZ R w F (xs.take n) (cs.take (n*R.size))
 | [],_,h,n=>by rw[show _=[]from h];simp[eZ]
 |x::r,_,_,0=>by simp[eZ]
 |x::r,_,⟨c,d,e,h1,h2⟩,n+1=>by
  refine⟨c,d.take (n*R.size),?_,h1,eZ.take h2 n⟩;rw[e,List.take_append,List.take_of_length_le (by rw[R.len h1,Nat.succ_mul];omega),R.len h1,show(n+1)*R.size-R.size=n*R.size by rw[Nat.succ_mul];omega]
theorem eZ.drop{w:World}{F:Nat->Prop}:∀{xs:List α}{cs:List Value},eZ R w F xs cs->∀(n:Nat),eZ R w F (xs.drop n) (cs.drop (n*R.size))
 | [],_,h,n=>by rw[show _=[]from h];simp[eZ]
 |x::r,_,h,0=>by simpa using h
 |x::r,_,⟨c,d,e,h1,h2⟩,n+1=>by
  have e0:c.drop ((n+1)*R.size)=[]:=List.drop_of_length_le (by rw[R.len h1,Nat.succ_mul];omega);rw[e,List.drop_append,e0,R.len h1,show(n+1)*R.size-R.size=n*R.size by rw[Nat.succ_mul];omega];simpa using eZ.drop h2 n
theorem jp.keep{w w':World}:∀{xs:List α}{fp:List Nat}{cs:List Value},jp R w fp xs cs->(∀k,k∈fp->w'.heap[k]?=w.heap[k]?)->jp R w' fp xs cs
 | [],_,_,h,_=>h
 |x::r,_,_,⟨c,d,f,g,e,e',h1,h2⟩,hk=>⟨c,d,f,g,e,e',R.okeep h1 λk h=>hk k (by rw[e'];exact List.mem_append_left _ h),jp.keep h2 λk h=>hk k (by rw[e'];exact List.mem_append_right _ h)⟩
theorem jp.live{w:World}:∀{xs:List α}{fp:List Nat}{cs:List Value},jp R w fp xs cs->∀k,k∈fp->k<w.heap.size
 | [],_,_,h,k,hk=>by rw[h.2]at hk;simp at hk
 |x::r,_,_,⟨c,d,f,g,e,e',h1,h2⟩,k,hk=>by
  rw[e',List.mem_append]at hk;rcases hk with hk|hk
  ·exact R.olive h1 k hk
  ·exact jp.live h2 k hk
theorem jp.reads{w:World}:∀{xs:List α}{fp:List Nat}{cs:List Value},jp R w fp xs cs->eZ R w (λk=>k∈fp) xs cs
 | [],_,_,h=>h.1
 |x::r,_,_,⟨c,d,f,g,e,e',h1,h2⟩=>⟨c,d,e,R.sub (R.reads h1) λk h=>by rw[e'];exact List.mem_append_left _ h,eZ.sub (λk h=>by rw[e'];exact List.mem_append_right _ h) (jp.reads h2)⟩
theorem jp.append{w:World}:∀{xs ys:List α}{fp gp:List Nat}{cs ds:List Value},jp R w fp xs cs->jp R w gp ys ds->jp R w (fp++gp) (xs++ys) (cs++ds)
 | [],_,_,_,_,_,h,h'=>by obtain⟨rfl,rfl⟩:=h;simpa using h'
 |x::r,_,_,gp,_,ds,⟨c,d,f,g,e,e',h1,h2⟩,h'=>⟨c,d++ds,f,g++gp,by rw[e,List.append_assoc],by rw[e',List.append_assoc],h1,jp.append h2 h'⟩
theorem jp.single{w:World}{fp:List Nat}{x:α}{c:List Value}(h:R.own w fp x c):jp R w fp [x] c:=⟨c,[],fp,[],by simp,by simp,h,rfl,rfl⟩
theorem jp.len{w:World}{xs:List α}{fp:List Nat}{cs:List Value}(h:jp R w fp xs cs):cs.length=xs.length*R.size:=(jp.reads h).len
theorem jp.split{w:World}:∀{xs:List α}{fp:List Nat}{cs:List Value},jp R w fp xs cs->∀{k:Nat}(hk:k<xs.length),
 ∃f1 f f2 c1 c c2,fp=f1++f++f2/\cs=c1++c++c2/\c1.length=k*R.size/\jp R w f1 (xs.take k) c1/\R.own w f xs[k] c/\jp R w f2 (xs.drop (k+1)) c2
 |x::r,_,_,⟨c,d,f,g,e,e',h1,h2⟩,0,_=>⟨[],f,g,[],c,d,by simpa using e',by simpa using e,by simp,⟨rfl,rfl⟩,h1,h2⟩
 |x::r,_,_,⟨c,d,f,g,e,e',h1,h2⟩,k+1,hk=>by
  obtain⟨f1,f',f2,c1,c',c2,e1,e2,e3,h3,h4,h5⟩:=jp.split h2 (k:=k) (by simpa using hk);exact⟨f++f1,f',f2,c++c1,c',c2,by rw[e',e1];simp,by rw[e,e2];simp,by rw[List.length_append,e3,R.len (R.reads h1),Nat.succ_mul,Nat.add_comm],⟨c,c1,f,f1,rfl,rfl,h1,h3⟩,h4,h5⟩
theorem jp.join{w:World}{xs:List α}{k:Nat}(hk:k<xs.length){f1 f f2:List Nat}{c1 c c2:List Value}{y:α}(h1:jp R w f1 (xs.take k) c1)(h:R.own w f y c)(h2:jp R w f2 (xs.drop (k+1)) c2):
 jp R w (f1++f++f2) (xs.set k y) (c1++c++c2):=by
 rw[List.set_eq_take_append_cons_drop,oIP hk,List.append_assoc,List.append_assoc];exact jp.append h1 ⟨c,c2,f,f2,rfl,rfl,h,h2⟩
variable (R)
def RSl(w:World)(F:Nat->Prop)(xs:List α)(v:Value):Prop:=
 ∃A c cs,v=.slice A xs.length c/\xs.length<=c/\c<=9223372036854775807/\xs.length<=1099511627776/\(A=none->c=0)/\Row w F A cs/\eZ R w F xs cs
def OSl(e:TypeId)(w:World)(fp:List Nat)(xs:List α)(v:Value):Prop:=
 xs.length<=1099511627776/\((v=.slice none 0 0/\xs=[]/\fp=[])\/
  ∃q c cs g,v=.slice (some ⟨q,0,none⟩) xs.length c/\fp=q::g/\xs.length<=c/\c<=9223372036854775807/\lN e w q (c*R.size) cs/\jp R w g xs cs)
variable {R}
theorem RSl.keep{w w':World}{F:Nat->Prop}{xs:List α}{v:Value}(h:RSl R w F xs v)(ha:gH F w w'):RSl R w' F xs v:=
 let ⟨A,c,cs,e,h1,h2,h3,h4,h5,h6⟩:=h;⟨A,c,cs,e,h1,h2,h3,h4,h5.keep ha,h6.keep ha⟩
theorem RSl.sub{w:World}{F G:Nat->Prop}{xs:List α}{v:Value}(h:RSl R w F xs v)(hs:∀k,F k->G k):RSl R w G xs v:=
 let ⟨A,c,cs,e,h1,h2,h3,h4,h5,h6⟩:=h;⟨A,c,cs,e,h1,h2,h3,h4,h5.sub hs,h6.sub hs⟩
theorem RSl.live{w:World}{F:Nat->Prop}{xs:List α}{v:Value}(h:RSl R w F xs v):RSl R w (λk=>F k/\k<w.heap.size) xs v:=
 let ⟨A,c,cs,e,h1,h2,h3,h4,h5,h6⟩:=h;⟨A,c,cs,e,h1,h2,h3,h4,λi hi=>by
  obtain⟨b,off,e,hF,hc⟩:=h5 i hi
  exact⟨b,off,e,⟨hF,World.block_lt_of_cell? w _ hc⟩,hc⟩,h6.live⟩
theorem lN.row'{e:TypeId}{w:World}{q n:Nat}{vs:List Value}(h:lN e w q n vs):Row w (λk=>k=q) (some ⟨q,0,none⟩) vs:=by
 intro i hi;exact⟨q,0,rfl,rfl,by rw[Nat.zero_add,h.cell hi]⟩
theorem OSl.keep{e:TypeId}{w w':World}{fp:List Nat}{xs:List α}{v:Value}(h:OSl R e w fp xs v)(hk:∀k,k∈fp->w'.heap[k]?=w.heap[k]?):OSl R e w' fp xs v:=by
 obtain⟨hb,h|⟨q,c,cs,g,e1,e2,h1,h2,h3,h4⟩⟩:=h
 ·exact⟨hb,.inl h⟩
 ·exact⟨hb,.inr ⟨q,c,cs,g,e1,e2,h1,h2,h3.keep (hk q (by rw[e2];simp)),h4.keep λk h=>hk k (by rw[e2];simp[h])⟩⟩
theorem OSl.live{e:TypeId}{w:World}{fp:List Nat}{xs:List α}{v:Value}(h:OSl R e w fp xs v):∀k,k∈fp->k<w.heap.size:=by
 obtain⟨hb,⟨_,_,rfl⟩|⟨q,c,cs,g,e1,rfl,h1,h2,h3,h4⟩⟩:=h
 ·simp
 ·intro k hk;rcases List.mem_cons.1 hk with rfl|hk
  ·exact h3.hi
  ·exact h4.live k hk
theorem OSl.reads{e:TypeId}{w:World}{fp:List Nat}{xs:List α}{v:Value}(h:OSl R e w fp xs v):RSl R w (λk=>k∈fp) xs v:=by
 obtain⟨hb,⟨rfl,rfl,rfl⟩|⟨q,c,cs,g,rfl,rfl,h1,h2,h3,h4⟩⟩:=h
 ·exact⟨none,0,[],rfl,Nat.le_refl _,by omega,hb,λ_=>rfl,Row.nil _ _ _,rfl⟩
 ·exact⟨_,c,cs,rfl,h1,h2,hb,λh=>by simp at h,h3.row'.sub λk hk=>by simp[hk],h4.reads.sub λk hk=>by simp[hk]⟩
end
def LQ{α:Type}(e:TypeId)(R:Rp α):Rp (List α) where
 size:=1
 rep w F xs cs:=∃v,cs=[v]/\RSl R w F xs v
 own w fp xs cs:=∃v,cs=[v]/\OSl R e w fp xs v
 pos:=by decide
 len:=λ⟨v,e,_⟩=>by rw[e];rfl
 one:=λ⟨v,e,A,c,cs,e2,_⟩=>by rw[e,e2];simp[Value.oneCell']
 keep:=λ⟨v,e,h⟩ ha=>⟨v,e,h.keep ha⟩
 sub:=λ⟨v,e,h⟩ hs=>⟨v,e,h.sub hs⟩
 live:=λ⟨v,e,h⟩=>⟨v,e,h.live⟩
 okeep:=λ⟨v,e,h⟩ hk=>⟨v,e,h.keep hk⟩
 olive:=λ⟨v,e,h⟩=>h.live
 reads:=λ⟨v,e,h⟩=>⟨v,e,h.reads⟩
section
variable {α:Type} {R:Rp α}
def Le(F:Nat->Prop)(w:World):Prop:=∀k,w.heap.size<=k->F k
theorem Le.grow{F:Nat->Prop}{w w':World}(h:Le F w)(hg:w.heap.size<=w'.heap.size):Le F w':=λk hk=>h k (Nat.le_trans hg hk)
theorem RSl.grow{w w':World}{F:Nat->Prop}{xs:List α}{v:Value}(h:RSl R w F xs v)(hg:w.grownBy w' none):RSl R w' F xs v:=
 (h.live.keep (w':=w') λk hk=>hg.block k hk.2 (by simp)).sub λk hk=>hk.1
theorem Rp.grow(R:Rp α){w w':World}{F:Nat->Prop}{x:α}{cs:List Value}(h:R.rep w F x cs)(hg:w.grownBy w' none):R.rep w' F x cs:=
 R.sub (R.keep (R.live h) (w':=w') λk hk=>hg.block k hk.2 (by simp)) λk hk=>hk.1
theorem jp.grow{w w':World}{fp:List Nat}{xs:List α}{cs:List Value}(h:jp R w fp xs cs)(hg:w.grownBy w' none):jp R w' fp xs cs:=h.keep λk hk=>hg.block k (h.live k hk) (by simp)
theorem eZ.grow{w w':World}{F:Nat->Prop}{xs:List α}{cs:List Value}(h:eZ R w F xs cs)(hg:w.grownBy w' none):eZ R w' F xs cs:=
 (eZ.keep (w':=w') (λk hk=>hg.block k hk.2 (by simp)) h.live).sub λk hk=>hk.1
theorem OSl.grow{e:TypeId}{w w':World}{fp:List Nat}{xs:List α}{v:Value}(h:OSl R e w fp xs v)(hg:w.grownBy w' none):OSl R e w' fp xs v:=h.keep λk hk=>hg.block k (h.live k hk) (by simp)
theorem RSl.nil(w:World)(F:Nat->Prop):RSl R w F [] (.slice none 0 0):=⟨none,0,[],rfl,Nat.le_refl _,by omega,by simp,λ_=>rfl,Row.nil _ _ _,rfl⟩
theorem RSl.at_{w:World}{F:Nat->Prop}{xs:List α}{v:Value}(h:RSl R w F xs v){k:Nat}(hk:k<xs.length):
 ∃b off c cs,v=.slice (some ⟨b,off,none⟩) xs.length c/\xs.length<=c/\c<=9223372036854775807/\F b/\R.rep w F xs[k] cs/\∀(j:Nat) u,cs[j]?=some u->w.cell? ⟨b,off+(k*R.size+j),none⟩=some u:=by
 obtain⟨A,c,cs,rfl,h1,h2,h3,h4,h5,h6⟩:=h;obtain⟨d,hd,hj⟩:=h6.at_ hk;have Q8:=R.len hd;have hp:=R.pos;have h0:d[0]?=some d[0]:=oGE (by omega);have h7:=hj 0 _ h0;obtain⟨h8,_⟩:=oGS h7;obtain⟨b,off,rfl,hF,_⟩:=h5 _ h8;refine⟨b,off,c,d,rfl,h1,h2,hF,hd,λj u hu=>?_⟩;obtain⟨h9,ZI⟩:=oGS (hj j u hu);obtain⟨b',U1,e,_,hc⟩:=h5 _ h9
 injection e with e;injection e with e1 e2;subst e1;subst e2
 rw[hc,ZI]
theorem RSl.size_eq{w:World}{F:Nat->Prop}{xs:List α}{v:Value}(h:RSl R w F xs v):
 ∃A c,v=.slice A xs.length c/\xs.length<=c/\c<=9223372036854775807/\xs.length<=1099511627776:=
 let ⟨A,c,_,e,h1,h2,h3,_⟩:=h;⟨A,c,e,h1,h2,h3⟩
theorem RSl.cells{w:World}{F:Nat->Prop}{xs:List α}{v:Value}(h:RSl R w F xs v):
 (xs=[]/\∃A c,v=.slice A 0 c/\(A=none->c=0))\/∃ad c cs,v=.slice (some ad) xs.length c/\cs.length=xs.length*R.size/\(∀(j:Nat) u,cs[j]?=some u->w.cell? (ad.add j)=some u)/\eZ R w F xs cs:=by
 obtain⟨A,c,cs,rfl,h1,h2,h3,h4,h5,h6⟩:=h;by_cases hx:xs=[]
 ·subst hx;exact .inl ⟨rfl,A,c,rfl,h4⟩
 ·refine .inr ?_;have hl:=h6.len;have hp:0<xs.length*R.size:=Nat.mul_pos (List.length_pos_iff.2 hx) R.pos;obtain⟨b,off,rfl,_,_⟩:=h5 0 (by omega);refine⟨_,c,cs,rfl,hl,λj u hu=>?_,h6⟩;obtain⟨h9,ZI⟩:=oGS hu;obtain⟨b',U1,e,_,hc⟩:=h5 _ h9
  injection e with e;injection e with e1 e2;subst e1;subst e2
  rw[show(⟨b,off,none⟩:Addr).add j=⟨b,off+j,none⟩ by simp[Addr.add],hc,ZI]
def Mk(R:Rp α)(e:TypeId)(base:Nat)(w:World)(G:Nat->Prop)(v:Value)(xs:List α):Prop:=
 ∃cs,w.ownsRow base e R.size v xs.length cs/\xs.length<=1099511627776/\eZ R w (λk=>G k/\some k≠v.ownBlock) xs cs
def MkO(R:Rp α)(e:TypeId)(base:Nat)(w:World)(fp:List Nat)(v:Value)(xs:List α):Prop:=
 ∃cs,w.ownsRow base e R.size v xs.length cs/\xs.length<=1099511627776/\jp R w fp xs cs/\fp.Nodup/\∀k,k∈fp->base<=k/\some k≠v.ownBlock
theorem Mk.nil(R:Rp α)(e:TypeId)(base:Nat)(w:World)(G:Nat->Prop):Mk R e base w G (.slice none 0 0) []:=⟨[],World.ownsRow_nil _ _ _ _,by simp,rfl⟩
theorem MkO.nil(R:Rp α)(e:TypeId)(base:Nat)(w:World):MkO R e base w [] (.slice none 0 0) []:=⟨[],World.ownsRow_nil _ _ _ _,by simp,⟨rfl,rfl⟩,List.nodup_nil,by simp⟩
theorem Mk.grow{e:TypeId}{base:Nat}{w w':World}{G:Nat->Prop}{v:Value}{xs:List α}(h:Mk R e base w G v xs)(hg:w.grownBy w' none):Mk R e base w' G v xs:=by
 obtain⟨cs,h1,h2,h3⟩:=h;refine⟨cs,h1.kept hg ?_,h2,(eZ.keep (w':=w') (λk hk=>hg.block k hk.2 (by simp)) h3.live).sub λk hk=>hk.1⟩;cases hv:v.ownBlock
 ·exact .inl rfl
 ·exact .inr (by simp)
theorem MkO.grow{e:TypeId}{base:Nat}{w w':World}{fp:List Nat}{v:Value}{xs:List α}(h:MkO R e base w fp v xs)(hg:w.grownBy w' none):MkO R e base w' fp v xs:=by
 obtain⟨cs,h1,h2,h3,h4,h5⟩:=h;refine⟨cs,h1.kept hg ?_,h2,h3.keep λk hk=>hg.block k (h3.live k hk) (by simp),h4,h5⟩;cases hv:v.ownBlock
 ·exact .inl rfl
 ·exact .inr (by simp)
theorem Mk.done{e:TypeId}{base:Nat}{w:World}{F G:Nat->Prop}{v:Value}{xs:List α}(h:Mk R e base w G v xs)(hF:∀k,base<=k->F k)(hG:∀k,G k->F k):RSl R w F xs v:=by
 obtain⟨cs,h1,h2,h3⟩:=h;have hlt:=h1.lt;have hc:=@World.ownsRow.cells w base e R.size v xs.length cs h1
 rcases h1.2 with⟨rfl,hn⟩|⟨g,cap,cur,rfl,hb,YT,hcap,hmax,hsz,Zx⟩
 ·have hx:xs=[]:=oEN hn;subst hx;exact RSl.nil _ _
 ·refine⟨_,cap,cs,rfl,hcap,by simpa[maxLen]using hmax,h2,by simp,λi hi=>⟨g,0,rfl,hF g hb,?_⟩,h3.sub λk hk=>hG k hk.1⟩;have:=hc rfl i _ (oGE hi);rw[show(⟨g,0+i,none⟩:Addr)=(⟨g,0,none⟩:Addr).add i from by unfold Addr.add;split<;>simp_all];exact this
theorem MkO.done{e:TypeId}{base:Nat}{w:World}{fp:List Nat}{v:Value}{xs:List α}(h:MkO R e base w fp v xs):
 ∃gp,OSl R e w gp xs v/\gp.Nodup/\∀k,k∈gp->base<=k:=by
 obtain⟨cs,h1,h2,h3,h4,h5⟩:=h
 rcases h1.2 with⟨rfl,hn⟩|⟨g,cap,cur,rfl,hb,YT,hcap,hmax,hsz,Zx⟩
 ·have hx:xs=[]:=oEN hn;subst hx;exact⟨[],⟨h2,.inl ⟨rfl,rfl,rfl⟩⟩,List.nodup_nil,by simp⟩
 ·refine⟨g::fp,⟨h2,.inr ⟨g,cap,cs,fp,rfl,rfl,hcap,by simpa[maxLen]using hmax,⟨cur,YT,hsz,by rw[h1.1];exact Zx⟩,h3⟩⟩,?_,?_⟩
  ·refine List.nodup_cons.2 ⟨λhm=>(h5 g hm).2 rfl,h4⟩
  ·intro k hk;rcases List.mem_cons.1 hk with rfl|hk
   ·exact hb
   ·exact(h5 k hk).1
theorem Mk.shape{e:TypeId}{base:Nat}{w:World}{G:Nat->Prop}{v:Value}{xs:List α}(h:Mk R e base w G v xs):∃A c,v=.slice A xs.length c:=by
 obtain⟨cs,h1,h2,h3⟩:=h
 rcases h1.2 with⟨rfl,hn⟩|⟨g,cap,cur,rfl,_⟩
 ·rw[hn];exact⟨_,_,rfl⟩
 ·exact⟨_,_,rfl⟩
theorem MkO.shape{e:TypeId}{base:Nat}{w:World}{fp:List Nat}{v:Value}{xs:List α}(h:MkO R e base w fp v xs):∃A c,v=.slice A xs.length c:=by
 obtain⟨cs,h1,h2,h3⟩:=h
 rcases h1.2 with⟨rfl,hn⟩|⟨g,cap,cur,rfl,_⟩
 ·rw[hn];exact⟨_,_,rfl⟩
 ·exact⟨_,_,rfl⟩
theorem OSl.shape{e:TypeId}{w:World}{fp:List Nat}{v:Value}{xs:List α}(h:OSl R e w fp xs v):∃A c,v=.slice A xs.length c:=by
 obtain⟨hb,⟨rfl,rfl,rfl⟩|⟨q,c,cs,g,rfl,rfl,h1,h2,h3,h4⟩⟩:=h
 ·exact⟨_,_,rfl⟩
 ·exact⟨_,_,rfl⟩
end
structure SlT (P:Program)(t e:TypeId)(size bytes:Nat):Prop where
 under:P.underlying t=some (.slice e)
 info:∃i z,P.info? e=some i/\i.zero=some z/\i.size=size/\i.bytes=bytes/\z.cells.size=size
 pos:0<size
section
variable {P:Program} {w:World} {t e:TypeId} {size bytes:Nat}
theorem nz(T:SlT P t e size bytes)(ty:TypeId)(base:Nat)(v:Value)(n:Nat)(xs:List Value)(hown:w.ownsRow base e size v n xs)
 (ad:Addr)(m c:Nat)(news:List Value)(hl:news.length=m*size)(Zn:∀(j:Nat) u,news[j]?=some u->w.cell? (ad.add j)=some u)(h1:∀u∈news,u.oneCell'=true)
 (Tb:n+m<=maxLen)(YM:(n+m)*bytes<=140737488355328)(ZE:base<=w.heap.size):
 ∃v' w',(Builtin.append_ #[t,t] ty #[v,.slice (some ad) m c]).run P w=.ok v' w'/\w'.ownsRow base e size v' (n+m) (xs++news)/\w.grownBy w' v.ownBlock /\
  (v'.ownBlock=v.ownBlock\/∀k,v'.ownBlock=some k->w.heap.size<=k):=by
 obtain⟨i,z,hi,hz,Y0,Yz,Zg⟩:=T.info
 rcases hown.2 with⟨rfl,hn⟩|⟨g,cap,cur,rfl,hb,YT,hcap,hmax,hsz,Zx⟩
 ·subst hn;have hx:xs=[]:=oEN (by simpa using hown.1);subst hx;obtain⟨v',w',hr,ZZ,hg,_⟩:=run_append_own (P:=P) w w.heap.size t ty e i z size bytes T.under hi hz Y0 Yz Zg T.pos (.slice none 0 0) 0 [] ⟨by simp,.inl ⟨rfl,rfl⟩⟩ ad m c news hl Zn h1 Tb YM (Nat.le_refl _);refine⟨v',w',hr,?_,hg,.inr λk hk=>(ZZ.lt k hk).1⟩;refine⟨ZZ.1,?_⟩;rcases ZZ.2 with h|⟨g,cap,cur,e1,e2,e3⟩
  ·exact .inl h
  ·exact .inr ⟨g,cap,cur,e1,Nat.le_trans ZE e2,e3⟩
 ·rcases Nat.lt_or_ge cap (n+m)with hlt|hge
  ·have hc:=@World.ownsRow.cells w base e size _ n xs hown;obtain⟨v',w',hr,ZZ,hg⟩:=run_append_arg_grows (P:=P) w t ty e i z size bytes T.under hi hz Y0 Yz Zg T.pos ⟨g,0,none⟩ n cap xs hown.1 (hc rfl) ad m c news hl Zn hlt Tb YM;refine⟨v',w',hr,⟨ZZ.1,?_⟩,ml hg,.inr λk hk=>(ZZ.lt k hk).1⟩;rcases ZZ.2 with h|⟨g,cap,cur,e1,e2,e3⟩
   ·exact .inl h
   ·exact .inr ⟨g,cap,cur,e1,Nat.le_trans ZE e2,e3⟩
  ·obtain⟨w',hr,ZZ,hg⟩:=run_append_own_spare (P:=P) w base t ty e i size T.under hi Y0 g n cap xs hown ad m c news hl Zn h1 hge;exact⟨_,w',hr,ZZ,hg,.inl rfl⟩
end
section
variable {P:Program} {ops:Array Oper} {rest:List Oper} {o:Oper} {a:Act} {Q:Exit->Act->World->Prop} {w:World} {t e:TypeId} {size bytes:Nat} {α:Type} {R:Rp α}
theorem j8(Ye:o.guard=none)(s x:Operand)(T:SlT P t e size bytes)(ho:o.op=.call { callee:=.builtin .append,args:=#[s,x],argTypes:=#[t,t] })
 (base:Nat)(v:Value)(n:Nat)(xs:List Value)(hs:a.eval s=v)(hown:w.ownsRow base e size v n xs)
 (ad:Addr)(m c:Nat)(news:List Value)(hx:a.eval x=.slice (some ad) m c)(hl:news.length=m*size)(Zn:∀(j:Nat) u,news[j]?=some u->w.cell? (ad.add j)=some u)(h1:∀u∈news,u.oneCell'=true)
 (Tb:n+m<=maxLen)(YM:(n+m)*bytes<=140737488355328)(ZE:base<=w.heap.size)
 (h:∀v' w',w'.ownsRow base e size v' (n+m) (xs++news)->w.grownBy w' v.ownBlock->(v'.ownBlock=v.ownBlock\/∀k,v'.ownBlock=some k->w.heap.size<=k)->wpList P ops Q rest (a.put o.dst v') w'):wpList P ops Q (o::rest) a w:=by
 refine wpList_plain Ye λK hK=>?_;obtain⟨v',w',hrun,h2,h3,h4⟩:=nz (P:=P) (w:=w) T o.type base v n xs hown ad m c news hl Zn h1 Tb YM ZE;unfold Oper.wp;simp[execOp,ho,resolve,invoke,builtin,hs,hx,hrun,Result.andThen];exact hK _ _ (h v' w' h2 h3 h4)
theorem r8{n:Nat}(h:n<=2199023255552):n<=maxLen:=by simp only[maxLen];omega
theorem wX{n b:Nat}(h:n<=1099511627776)(hb:b<=128):n*b<=140737488355328:=Nat.le_trans (Nat.mul_le_mul h hb) (by decide)
theorem i8(Ye:o.guard=none)(s x:Operand)(T:SlT P t e R.size bytes)(Yz:bytes<=128)(ho:o.op=.call { callee:=.builtin .append,args:=#[s,x],argTypes:=#[t,t] })
 (base:Nat)(G:Nat->Prop)(v:Value)(xs:List α)(hs:a.eval s=v)(hown:Mk R e base w G v xs)(ZE:base<=w.heap.size)
 (u:Value)(ys:List α)(hx:a.eval x=u)(Yi:RSl R w (λk=>G k/\some k≠v.ownBlock) ys u)(hnil:∀c,u=.slice none 0 c->c=0)(hlen:xs.length+ys.length<=1099511627776)
 (h:∀v' w',Mk R e base w' G v' (xs++ys)->w.grownBy w' v.ownBlock->wpList P ops Q rest (a.put o.dst v') w'):wpList P ops Q (o::rest) a w:=by
 obtain⟨cs,h1,h2,h3⟩:=hown;obtain⟨i,z,hi,hz,Y0,hb,Zg⟩:=T.info;obtain⟨A,c,ds,rfl,g1,g2,g3,g4,g5,g6⟩:=Yi
 cases A with
 |none=>
  have hy:ys=[]:=by
   have hl:=g6.len;by_cases hy:ys=[]
   ·exact hy
   ·have hp:0<ys.length*R.size:=Nat.mul_pos (List.length_pos_iff.2 hy) R.pos;obtain⟨_,_,e,_⟩:=g5 0 (by omega);simp at e
  subst hy;have hc:=g4 rfl;subst hc;refine wpList_append_own_none Ye s x t ho base e i R.size T.under hi v xs.length cs hs h1 hx ?_;refine h v w ⟨cs,by simpa using h1,by simpa using h2,by simpa using h3⟩ (bg _ _)
 |some ad=>
  have hcell:∀(j:Nat) u,ds[j]?=some u->w.cell? (ad.add j)=some u:=λj u hu=>by
   obtain⟨h9,ZI⟩:=oGS hu;obtain⟨b',U1,e,_,hc⟩:=g5 _ h9
   injection e with e;subst e
   rw[show(⟨b',U1,none⟩:Addr).add j=⟨b',U1+j,none⟩ by simp[Addr.add],hc,ZI]
  refine j8 Ye s x T ho base v xs.length cs hs h1 ad ys.length c ds hx g6.len hcell g6.one (r8 (by omega)) (wX hlen Yz) ZE ?_;intro v' w' ZZ hg WU;refine h v' w' ⟨cs++ds,by rw[List.length_append];exact ZZ,by simpa using hlen,?_⟩ hg;have ZW:=(eZ.append h3 g6).live;refine(eZ.keep (w':=w') (λk hk=>hg.block k hk.2 hk.1.2) ZW).sub λk hk=>⟨hk.1.1,?_⟩;rcases WU with e|WU
  ·rw[e];exact hk.1.2
  ·intro e;have:=WU k e.symm;omega
theorem RSl.one{w:World}{F:Nat->Prop}{x:α}{cs:List Value}{b:Nat}(h:R.rep w F x cs)(hF:F b)(hc:∀(j:Nat) u,cs[j]?=some u->w.cell? ⟨b,j,none⟩=some u):RSl R w F [x] (.slice (some ⟨b,0,none⟩) 1 1):=
 ⟨some ⟨b,0,none⟩,1,cs,rfl,Nat.le_refl _,by omega,by simp,by simp,λi hi=>⟨b,0,rfl,hF,by rw[Nat.zero_add];exact hc i _ (oGE hi)⟩,eZ.single h⟩
theorem xk(Ye:o.guard=none)(s x:Operand)(T:SlT P t e R.size bytes)(Yz:bytes<=128)(ho:o.op=.call { callee:=.builtin .append,args:=#[s,x],argTypes:=#[t,t] })
 (base:Nat)(G:Nat->Prop)(v:Value)(xs:List α)(hs:a.eval s=v)(hown:Mk R e base w G v xs)(ZE:base<=w.heap.size)
 (b:Nat)(y:α)(cs:List Value)(hx:a.eval x=.slice (some ⟨b,0,none⟩) 1 1)(hy:R.rep w (λk=>G k/\some k≠v.ownBlock) y cs)(hc:∀(j:Nat) u,cs[j]?=some u->w.cell? ⟨b,j,none⟩=some u)
 (hlen:xs.length+1<=1099511627776)
 (h:∀v' w',Mk R e base w' G v' (xs++[y])->w.grownBy w' v.ownBlock->wpList P ops Q rest (a.put o.dst v') w'):wpList P ops Q (o::rest) a w:=by
 obtain⟨ds,h1,h2,h3⟩:=hown
 have hcell:∀(j:Nat) u,cs[j]?=some u->w.cell? ((⟨b,0,none⟩:Addr).add j)=some u:=λj u hu=>by
  rw[show(⟨b,0,none⟩:Addr).add j=⟨b,j,none⟩ by unfold Addr.add;split<;>simp_all];exact hc j u hu
 refine j8 Ye s x T ho base v xs.length ds hs h1 ⟨b,0,none⟩ 1 1 cs hx (by rw[R.len hy];simp) hcell (R.one hy) (r8 (by omega)) (wX hlen Yz) ZE ?_;intro v' w' ZZ hg WU;refine h v' w' ⟨ds++cs,by rw[List.length_append];exact ZZ,by simpa using hlen,?_⟩ hg;have ZW:=(eZ.append h3 (eZ.single hy)).live;refine(eZ.keep (w':=w') (λk hk=>hg.block k hk.2 hk.1.2) ZW).sub λk hk=>⟨hk.1.1,?_⟩;rcases WU with e|WU
 ·rw[e];exact hk.1.2
 ·intro e;have:=WU k e.symm;omega
end
theorem fN{a b c:World}{row:Option Nat}(h:a.grownBy b none)(h':b.grownBy c row)(hr:∀k,row=some k->a.heap.size<=k):a.grownBy c none:=
 ⟨h'.os.trans h.os,h'.tape.trans h.tape,h'.output.trans h.output,Nat.le_trans h.size h'.size,λk hk _=>(h'.block k (Nat.lt_of_lt_of_le hk h.size) (λe=>by have:=hr k e.symm;omega)).trans (h.block k hk (by simp))⟩
theorem MkO.row{α:Type}{R:Rp α}{e:TypeId}{base:Nat}{w:World}{fp:List Nat}{v:Value}{xs:List α}(h:MkO R e base w fp v xs):∀k,v.ownBlock=some k->base<=k/\k<w.heap.size:=
 let ⟨_,h1,_⟩:=h;h1.lt
theorem Mk.row{α:Type}{R:Rp α}{e:TypeId}{base:Nat}{w:World}{G:Nat->Prop}{v:Value}{xs:List α}(h:Mk R e base w G v xs):∀k,v.ownBlock=some k->base<=k/\k<w.heap.size:=
 let ⟨_,h1,_⟩:=h;h1.lt
theorem MkO.live{α:Type}{R:Rp α}{e:TypeId}{base:Nat}{w:World}{fp:List Nat}{v:Value}{xs:List α}(h:MkO R e base w fp v xs):∀k,k∈fp->k<w.heap.size:=
 let ⟨_,_,_,h3,_⟩:=h;h3.live
theorem MkO.above{α:Type}{R:Rp α}{e:TypeId}{base:Nat}{w w':World}{fp:List Nat}{v:Value}{xs:List α}(h:MkO R e base w fp v xs)(hk:∀k,base<=k->k<w.heap.size->w'.heap[k]?=w.heap[k]?):MkO R e base w' fp v xs:=by
 obtain⟨cs,h1,h2,h3,h4,h5⟩:=h;refine⟨cs,⟨h1.1,?_⟩,h2,h3.keep λk YX=>hk k (h5 k YX).1 (h3.live k YX),h4,h5⟩;rcases h1.2 with h|⟨g,cap,cur,e1,hb,YT,h⟩
 ·exact .inl h
 ·exact .inr ⟨g,cap,cur,e1,hb,by rw[hk g hb (Array.getElem?_eq_some_iff.1 YT).1];exact YT,h⟩
theorem MkO.setBelow{α:Type}{R:Rp α}{e:TypeId}{base:Nat}{w:World}{fp:List Nat}{v:Value}{xs:List α}(h:MkO R e base w fp v xs){p:Addr}(hp:p.block<base)(u:Value):MkO R e base (w.setCell p u) fp v xs:=
 h.above λk hk _=>Below.heap_setCell w p u k (by omega)
theorem Mk.setBelow{α:Type}{R:Rp α}{e:TypeId}{base:Nat}{w:World}{G:Nat->Prop}{v:Value}{xs:List α}(h:Mk R e base w G v xs){p:Addr}(hp:p.block<base)(hG:¬G p.block)(u:Value):Mk R e base (w.setCell p u) G v xs:=by
 obtain⟨cs,h1,h2,h3⟩:=h;refine⟨cs,⟨h1.1,?_⟩,h2,eZ.keep (λk hk=>Below.heap_setCell w p u k (by rintro rfl;exact hG hk.1)) h3⟩;rcases h1.2 with h|⟨g,cap,cur,e1,hb,YT,h⟩
 ·exact .inl h
 ·exact .inr ⟨g,cap,cur,e1,hb,by rw[Below.heap_setCell w p u g (by omega)];exact YT,h⟩
theorem lN.setmid{e:TypeId}{w:World}{q n:Nat}{c1 d:List Value}(h:lN e w q n (c1++d)){j:Nat}(hj:j<d.length)(v:Value):lN e (w.setCell ⟨q,c1.length+j,none⟩ v) q n (c1++d.set j v):=by
 have:=h.set (j:=c1.length+j) v (by rw[List.length_append];omega)
 rwa [List.set_append_right _ _ (by omega),show c1.length+j-c1.length=j by omega]at this
theorem IW{w:World}{cs:Array Value}{t:TypeId}{q j:Nat}{u:Value}(hq:q=w.heap.size)(h:cs.toList[j]?=some u):(w.alloc (.cells cs t)).cell? ⟨q,j,none⟩=some u:=by
 subst hq;rw[World.cell?_alloc_new];simpa using h
theorem vu(w:World)(p:Addr)(v:Value):(w.setCell p v).heap.size=w.heap.size:=by simp[World.setCell]
theorem zL(w:World)(cur:Array Value)(cap:Nat)(xs:List Value){base e size:Nat}(hb:base<=w.heap.size)(hx:cur.toList=xs)(hs:cur.size=cap*size)(hm:cap<=maxLen):
 (w.alloc (.cells cur e)).ownsRow base e size (.slice (some ⟨w.heap.size,0,none⟩) cap cap) cap xs:=by
 subst hx;exact⟨by simpa using hs,.inr ⟨w.heap.size,cap,cur,rfl,hb,heap_alloc_new w _,Nat.le_refl _,hm,hs,by rw[<- hs,<- Array.length_toList,List.take_length]⟩⟩
section
variable {P:Program} {w:World} {t e:TypeId} {bytes:Nat} {α:Type} {R:Rp α}
end
def Rp.flat{α:Type}(R:Rp α):Prop:=∀{w F a cs},R.rep w F a cs->∀w',R.own w' [] a cs
theorem sG{α β:Type}{R:Rp α}{S:Rp β}(h:R.flat)(h':S.flat):(nc R S).flat:=λ⟨c,d,e,h1,h2⟩ w'=>⟨c,d,[],[],e,rfl,h h1 w',h' h2 w'⟩
theorem eZ.flat{α:Type}{R:Rp α}(hR:R.flat){w:World}{F:Nat->Prop}(w':World):∀{xs:List α}{cs:List Value},eZ R w F xs cs->jp R w' [] xs cs
 | [],_,h=>⟨h,rfl⟩
 |x::r,_,⟨c,d,e,h1,h2⟩=>⟨c,d,[],[],e,rfl,hR h1 w',eZ.flat hR w' h2⟩
theorem Mk.own{α:Type}{R:Rp α}(hR:R.flat){e:TypeId}{base:Nat}{w:World}{G:Nat->Prop}{v:Value}{xs:List α}(h:Mk R e base w G v xs):MkO R e base w [] v xs:=
 let ⟨cs,h1,h2,h3⟩:=h;⟨cs,h1,h2,h3.flat hR w,List.nodup_nil,by simp⟩
def mG(w:World)(F:Nat->Prop):List TV->List Value->Prop
 | [],vs=>vs=[]
 |t::ts,vs=>∃v r,vs=v::r/\fI w F t v/\mG w F ts r
theorem mG.len{w:World}{F:Nat->Prop}:∀{ts:List TV}{vs:List Value},mG w F ts vs->vs.length=ts.length
 | [],_,h=>by rw[show _=[]from h];rfl
 |_::_,_,⟨v,r,e,_,h⟩=>by rw[e,oLC,mG.len h,oLC]
theorem mG.app{w:World}{F:Nat->Prop}:∀{ts us:List TV}{vs xs:List Value},mG w F ts vs->mG w F us xs->mG w F (ts++us) (vs++xs)
 | [],_,_,_,h,h'=>by rw[show _=[]from h];exact h'
 |_::_,_,_,_,⟨v,r,e,h1,h2⟩,h'=>⟨v,_,by rw[e];rfl,h1,mG.app h2 h'⟩
theorem mG.split{w:World}{F:Nat->Prop}:∀{ts us:List TV}{vs:List Value},mG w F (ts++us) vs->∃a b,vs=a++b/\mG w F ts a/\mG w F us b
 | [],_,vs,h=>⟨[],vs,rfl,rfl,h⟩
 |_::_,_,_,⟨v,r,e,h1,h2⟩=>by
  obtain⟨a,b,rfl,h3,h4⟩:=mG.split h2;exact⟨v::a,b,by rw[e];rfl,⟨v,a,rfl,h1,h3⟩,h4⟩
theorem mG.get{w:World}{F:Nat->Prop}:∀{ts:List TV}{vs:List Value},mG w F ts vs->∀j (h:j<ts.length),fI w F ts[j] (vs.getD j undef)
 |_::_,_,⟨v,r,e,h1,_⟩,0,_=>by rw[e];exact h1
 |_::ts,_,⟨v,r,e,_,h2⟩,j+1,h=>by rw[e];exact mG.get h2 j (by simpa using h)
theorem mG.of{w:World}{F:Nat->Prop}:∀{ts:List TV}{vs:List Value},ts.length=vs.length->(∀j (h:j<ts.length),fI w F ts[j] (vs.getD j undef))->mG w F ts vs
 | [],[],_,_=>rfl
 |t::ts,v::vs,hl,h=>⟨v,vs,rfl,h 0 (by simp),mG.of (by simpa using hl) λj hj=>by have:=h (j+1) (by simpa using hj);simpa using this⟩
 | [],_::_,hl,_=>by simp at hl
 |_::_,[],hl,_=>by simp at hl
theorem mG.frame{w w':World}{F F':Nat->Prop}(hw:∀k,F k->k<w.heap.size->w'.heap[k]?=w.heap[k]?)(hF:∀k,F k->k<w.heap.size->F' k):∀{ts:List TV}{vs:List Value},mG w F ts vs->mG w' F' ts vs
 | [],_,h=>h
 |_::_,_,⟨v,r,e,h1,h2⟩=>⟨v,r,e,h1.frame hw hF,mG.frame hw hF h2⟩
def rI(k:IntKind):Rp Int where
 size:=1
 rep _ _ a cs:=cs=[.int k a]
 own _ fp a cs:=fp=[]/\cs=[.int k a]
 pos:=by decide
 len:=λh=>by rw[h];rfl
 one:=λh=>by rw[h];simp[Value.oneCell']
 keep:=λh _=>h
 sub:=λh _=>h
 live:=λh=>h
 okeep:=λh _=>h
 olive:=λh k hk=>by rw[h.1]at hk;simp at hk
 reads:=λh=>h.2
theorem Cc(k:IntKind):(rI k).flat:=λh _=>⟨rfl,h⟩
structure RIm {α:Type}(R:Rp α)(e:α->List TV)(Bd:α->Prop):Prop where
 toI:∀{w:World}{F:Nat->Prop}{a:α}{cs:List Value},R.rep w F a cs->mG w F (e a) cs
 of:∀{w:World}{F:Nat->Prop}{a:α}{cs:List Value},mG w F (e a) cs->Bd a->R.rep w F a cs
 len:∀a,(e a).length=R.size
theorem nR(k:IntKind):RIm (rI k) (λa=>[.v (.int k a)]) λ_=>True:=
 ⟨λh=>⟨_,[],h,.v rfl,rfl⟩,λ⟨v,r,e,h1,h2⟩ _=>by
  have h2:r=[]:=h2;subst h2;cases h1
  exact e,λ_=>rfl⟩
theorem eW{α β:Type}{R:Rp α}{S:Rp β}{e:α->List TV}{f:β->List TV}{A:α->Prop}{B:β->Prop}(h:RIm R e A)(h':RIm S f B):RIm (nc R S) (λp=>e p.1++f p.2) λp=>A p.1/\B p.2:=
 ⟨λ⟨c,d,e1,h1,h2⟩=>by rw[e1];exact(h.toI h1).app (h'.toI h2),λh1 hb=>by
  obtain⟨a,b,rfl,h2,h3⟩:=h1.split
  exact⟨a,b,rfl,h.of h2 hb.1,h'.of h3 hb.2⟩,λp=>by rw[List.length_append,h.len,h'.len];rfl⟩
theorem F8{α:Type}{R:Rp α}{e:α->List TV}{A:α->Prop}(h:RIm R e A){w:World}{F:Nat->Prop}:∀{xs:List α}{cs:List Value},mG w F (xs.map e).flatten cs->(∀x∈xs,A x)->eZ R w F xs cs
 | [],_,h,_=>h
 |_::_,_,h1,hA=>by
  obtain⟨a,b,rfl,h2,h3⟩:=mG.split (by simpa using h1);exact⟨a,b,rfl,h.of h2 (hA _ (by simp)),F8 h (by simpa using h3) λx hx=>hA x (by simp[hx])⟩
theorem ox{α:Type}{R:Rp α}{e:α->List TV}{A:α->Prop}(h:RIm R e A){w:World}{F:Nat->Prop}{xs:List α}{v:Value}(hs:RSl R w F xs v):fI w F (.sl (xs.map e)) v:=by
 obtain⟨a,c,cs,rfl,h1,h2,h3,h4,h5,h6⟩:=hs;have hl:=h6.len
 have ZQ:fI w F (.sl (xs.map e)) (.slice a (xs.map e).length c):=by
  refine .sl R.size (λi j=>cs.getD (i*R.size+j) undef) (λi hi=>by simp[h.len]) (by simpa using h1) (by unfold maxLen;exact h2) h4 (λi j hi hj=>?_) (λi j hi hj=>?_)
  ·have ZM:i<xs.length:=by simpa using hi
   have hlt:i*R.size+j<cs.length:=by
    rw[hl]
    calc i*R.size+j<i*R.size+R.size:=by omega
     _=(i+1)*R.size:=by rw[Nat.succ_mul]
     _<=xs.length*R.size:=Nat.mul_le_mul_right _ ZM
   obtain⟨b,off,e1,hF,hc⟩:=h5 _ hlt;exact⟨b,off,e1,hF,by rw[hc];simp[oGD,hlt]⟩
  ·have ZM:i<xs.length:=by simpa using hi
   obtain⟨d,hd,XD⟩:=h6.at_ ZM;have hrel:=h.toI hd
   have ZT:j<(e xs[i]).length:=by simpa using hj
   have hg:=hrel.get j ZT;have Q8:=R.len hd
   have hjd:j<d.length:=by rw[Q8,<- h.len xs[i]];exact ZT
   have e2:=XD j d[j] (oGE hjd)
   have e3:cs.getD (i*R.size+j) undef=d.getD j undef:=by
    rw[oGD,oGD,e2,oGE hjd]
   rw[e3];simpa using hg
 simpa using ZQ
theorem uU{α:Type}{R:Rp α}{e:α->List TV}{A:α->Prop}(h:RIm R e A){w:World}{F:Nat->Prop}{xs:List α}{v:Value}(hs:fI w F (.sl (xs.map e)) v)(hx:∀x∈xs,A x)(hm:xs.length<=1099511627776):RSl R w F xs v:=by
 generalize hc:xs.map e=c at hs
 cases hs with
 | @sl _ a cap sz u hsz hcap hmax hnil hcell hrec=>
  have hl:c.length=xs.length:=by rw[<- hc];simp
  by_cases h0:xs=[]
  ·subst h0
   have:c=[]:=by rw[<- hc];rfl
   subst this;exact⟨a,cap,[],rfl,Nat.zero_le _,by simpa[maxLen]using hmax,by simp,hnil,λi hi=>by simp at hi,rfl⟩
  ·have Z1:0<xs.length:=List.length_pos_iff.2 h0
   have hz:sz=R.size:=by
    rw[<- hsz 0 (by omega)];simp[<- hc,h.len]
   subst hz;obtain⟨cs,XK⟩:∃cs:List Value,cs=((List.range xs.length).map λi=>(List.range R.size).map (u i)).flatten:=⟨_,rfl⟩
   have ZP:∀n,n<=xs.length->mG w F (((xs.drop n).map e).flatten) (((List.range' n (xs.length-n)).map λi=>(List.range R.size).map (u i)).flatten):=by
    intro n
    induction hk:xs.length-n generalizing n with
    |zero=>
     intro hn;rw[List.drop_of_length_le (by omega)];rfl
    |succ k ih=>
     intro hn
     have hlt:n<xs.length:=by omega
     rw[List.drop_eq_getElem_cons hlt,List.range'_succ];simp only[List.map_cons,List.flatten_cons];refine mG.app (mG.of (by simp[h.len]) λj hj=>?_) (ih (n+1) (by omega) (by omega))
     have XD:j<R.size:=by rw[<- h.len xs[n]];exact hj
     have Va:n<c.length:=by omega
     have e1:c[n]=e xs[n]:=by simp[<- hc]
     have:=hrec n j Va (by rw[e1];exact hj)
     have e2:(c[n])[j]'(by rw[e1];exact hj)=(e xs[n])[j]:=by simp[e1]
     rw[e2]at this;simpa[oGD,XD]using this
   have hR:eZ R w F xs cs:=by
    have:=ZP 0 (Nat.zero_le _);rw[List.drop_zero,Nat.sub_zero,<- List.range_eq_range',<- XK]at this;exact F8 h this hx
   rw[hl];refine⟨a,cap,cs,rfl,by rw[<- hl];exact hcap,by simpa[maxLen]using hmax,hm,hnil,λk hk=>?_,hR⟩;have hcl:=hR.len
   have YY:k/R.size<xs.length:=by
    rw[Nat.div_lt_iff_lt_mul R.pos];omega
   have YN:k%R.size<R.size:=Nat.mod_lt _ R.pos
   have e0:k/R.size*R.size+k%R.size=k:=by rw[Nat.mul_comm];exact Nat.div_add_mod _ _
   obtain⟨b,o,e1,hF,hcc⟩:=hcell (k/R.size) (k%R.size) (by omega) YN;refine⟨b,o,e1,hF,?_⟩;rw[e0]at hcc;rw[hcc];have h2:=g9 (c:=(List.range xs.length).map λi=>(List.range R.size).map (u i)) (sz:=R.size) (λi h=>by simp) (i:=k/R.size) (j:=k%R.size) (by simpa using YY) (by simpa using YN);rw[e0,<- XK,oGE hk]at h2
   injection h2 with h2
   rw[h2];simp
theorem Ic{α:Type}{R:Rp α}{e:α->List TV}{A:α->Prop}(t:TypeId)(h:RIm R e A):RIm (LQ t R) (λxs=>[.sl (xs.map e)]) λxs=>xs.length<=1099511627776/\∀x∈xs,A x:=
 ⟨λ⟨v,e1,h1⟩=>by rw[e1];exact⟨v,[],rfl,ox h h1,rfl⟩,λ⟨v,r,e1,h1,h2⟩ hb=>by
  have h2:r=[]:=h2;subst h2
  exact⟨v,e1,uU h h1 hb.2 hb.1⟩,λ_=>rfl⟩
def Bk(w:World)(q t:Nat)(vs:List Value):Prop:=w.heap[q]?=some (.cells vs.toArray t (0,0))
theorem Bk.hi{w:World}{q t:Nat}{vs:List Value}(h:Bk w q t vs):q<w.heap.size:=(Array.getElem?_eq_some_iff.1 h).1
theorem Bk.keep{w w':World}{q t:Nat}{vs:List Value}(h:Bk w q t vs)(hh:w'.heap[q]?=w.heap[q]?):Bk w' q t vs:=hh.trans h
theorem Bk.grow{w w':World}{q t:Nat}{vs:List Value}(h:Bk w q t vs)(hg:w.grownBy w' none):Bk w' q t vs:=h.keep (hg.block _ h.hi (by simp))
theorem Bk.cell{w:World}{q t:Nat}{vs:List Value}(h:Bk w q t vs)(j:Nat):w.cell? ⟨q,j,none⟩=vs[j]?:=by
 rw[cell_of_row _ _ _ _ _ _ h];simp
theorem Bk.free{w:World}{q t:Nat}{vs:List Value}(h:Bk w q t vs)(j:Nat):w.frozen? ⟨q,j,none⟩=false:=frozen_of_row _ _ _ _ _ h
theorem Bk.new{w:World}{t:Nat}{vs:List Value}:Bk (w.alloc (.cells vs.toArray t)) w.heap.size t vs:=heap_alloc_new w _
theorem Bk.set{w:World}{q t:Nat}{vs:List Value}(h:Bk w q t vs)(j:Nat)(v:Value):Bk (w.setCell ⟨q,j,none⟩ v) q t (vs.set j v):=by
 unfold Bk;rw[heap_setCell_same _ _ _ _ _ _ h];simp
theorem Bk.other{w:World}{q t q' j:Nat}{vs:List Value}(h:Bk w q t vs)(hne:q≠q')(v:Value):Bk (w.setCell ⟨q',j,none⟩ v) q t vs:=by
 unfold Bk;rw[heap_setCell_other _ _ _ _ hne];exact h
theorem Bk.drew{w:World}{q t:Nat}{vs:List Value}(h:Bk w q t vs):Bk w.drew q t vs:=h
abbrev Cn4:=Int×Int×Int×Int
abbrev Vw8:=Int×Int×Int×Int×Int×Int×Int×List Cn4
abbrev i4:=Int×Int×List Cn4×Vw8
abbrev cCn:CT:=.pair (.int .u8) (.pair (.int .u16) (.pair (.int .i64) (.int .i64)))
abbrev cCs:CT:=.row false cCn
abbrev cVw:CT:=.pair (.int .i64) (.pair (.int .i64) (.pair (.int .i64) (.pair (.int .i64) (.pair (.int .i64) (.pair (.int .i64) (.pair (.int .u16) cCs))))))
abbrev cPg:CT:=.pair (.int .i64) (.pair (.int .i64) (.pair cCs cVw))
def rCn:Rp Cn4:=nc (rI .u8) (nc (rI .u16) (nc (rI .i64) (rI .i64)))
def rCs:Rp (List Cn4):=LQ 50 rCn
def rVw:Rp Vw8:=nc (rI .i64) (nc (rI .i64) (nc (rI .i64) (nc (rI .i64) (nc (rI .i64) (nc (rI .i64) (nc (rI .u16) rCs))))))
def rPg:Rp i4:=nc (rI .i64) (nc (rI .i64) (nc rCs rVw))
def Lh{α:Type}(l:List α):Prop:=l.length<=1099511627776
def VwB(v:Vw8):Prop:=Lh v.2.2.2.2.2.2.2
def PgB(p:i4):Prop:=Lh p.2.2.1/\VwB p.2.2.2
theorem AE:rCn.flat:=sG (Cc _) (sG (Cc _) (sG (Cc _) (Cc _)))
theorem RIm.weak{α:Type}{R:Rp α}{e e':α->List TV}{A B:α->Prop}(h:RIm R e A)(he:∀a,e' a=e a)(hB:∀a,B a->A a):RIm R e' B:=by
 have:e'=e:=funext he;subst this;exact⟨h.toI,λh1 hb=>h.of h1 (hB _ hb),h.len⟩
theorem Jp:RIm rCn (enc cCn) λ_=>True:=(eW (nR _) (eW (nR _) (eW (nR _) (nR _)))).weak (λ_=>rfl) λ_ _=>⟨trivial,trivial,trivial,trivial⟩
theorem xD:RIm rCs (enc cCs) Lh:=(Ic 50 Jp).weak (λ_=>rfl) λ_ h=>⟨h,λ_ _=>trivial⟩
theorem BM:RIm rVw (enc cVw) VwB:=(eW (nR _) (eW (nR _) (eW (nR _) (eW (nR _) (eW (nR _) (eW (nR _) (eW (nR _) xD))))))).weak (λ_=>rfl) λ_ h=>⟨trivial,trivial,trivial,trivial,trivial,trivial,trivial,h⟩
theorem rT:RIm rPg (enc cPg) PgB:=(eW (nR _) (eW (nR _) (eW xD BM))).weak (λ_=>rfl) λ_ h=>⟨trivial,trivial,h.1,h.2⟩
theorem No:SlT Tryz.prog 43 50 rCn.size 24:=
 ⟨by kernel_rfl,by
  have h:(Tryz.prog.info? 50).map (λi=>(i.zero,i.size,i.bytes))=some (some (.agg #[.int .u8 0,.int .u16 0,.int .i64 0,.int .i64 0]),4,24):=by kernel_rfl
  obtain⟨i,hi,hz,hs,hb⟩:=info_parts h
  exact⟨i,_,hi,hz,hs,hb,rfl⟩,rCn.pos⟩
theorem Nm:SlT Tryz.prog 27 43 rCs.size 24:=
 ⟨by kernel_rfl,by
  have h:(Tryz.prog.info? 43).map (λi=>(i.zero,i.size,i.bytes))=some (some (.slice none 0 0),1,24):=by kernel_rfl
  obtain⟨i,hi,hz,hs,hb⟩:=info_parts h
  exact⟨i,_,hi,hz,hs,hb,rfl⟩,rCs.pos⟩
theorem Nl:SlT Tryz.prog 28 46 rVw.size 80:=
 ⟨by kernel_rfl,by
  have h:(Tryz.prog.info? 46).map (λi=>(i.zero,i.size,i.bytes))=some (some (.agg #[.int .i64 0,.int .i64 0,.int .i64 0,.int .i64 0,.int .i64 0,.int .i64 0,.int .u16 0,.slice none 0 0]),8,80):=by kernel_rfl
  obtain⟨i,hi,hz,hs,hb⟩:=info_parts h
  exact⟨i,_,hi,hz,hs,hb,rfl⟩,rVw.pos⟩
theorem MK:SlT Tryz.prog 34 48 rPg.size 120:=
 ⟨by kernel_rfl,by
  have h:(Tryz.prog.info? 48).map (λi=>(i.zero,i.size,i.bytes))=some (some (.agg #[.int .i64 0,.int .i64 0,.slice none 0 0,.int .i64 0,.int .i64 0,.int .i64 0,.int .i64 0,.int .i64 0,.int .i64 0,.int .u16 0,.slice none 0 0]),11,120):=by kernel_rfl
  obtain⟨i,hi,hz,hs,hb⟩:=info_parts h
  exact⟨i,_,hi,hz,hs,hb,rfl⟩,rPg.pos⟩
def w8{α:Type}(R:Rp α)(e:TypeId)(F:Nat->Prop)(xs:List α)(w:World)(r:Ending)(w':World):Prop:=
 ∃v,r=.returned v/\Mk R e w.heap.size w' F v xs/\w.grownBy w' none
set_option maxHeartbeats 1000000 in
theorem sZ(F:Nat->Prop)(xs:List Cn4)(v:Value)(w:World)(h:RSl rCn w F xs v):
 Calls Tryz.prog 59 #[v] w (w8 rCn 50 F xs w):=by
 have H:=Lib.hid h;obtain⟨A,c,cs,rfl,h1,h2,h3,h4,h5,h6⟩:=h
 cases A with
 |none=>
  have hx:xs=[]:=by
   by_cases hx:xs=[]
   ·exact hx
   ·obtain⟨b,off,c',U5,e,_⟩:=H.out.at_ (List.length_pos_iff.2 hx);cases e
  subst hx;have hc:=h4 rfl;subst hc;clear h4 h5 h6 h1 h2 h3;have hq:=λ(w:World)=>Lib.run_eql_slice_nil (P:=Tryz.prog) w 43 50 none 0 0 0 0 (by kernel_rfl)
  go_enter Tryz.func59,Tryz.ntmps59
  go_wp2_with fail
  go_ret
  exact⟨_,rfl,Mk.nil _ _ _ _ _,bg _ _⟩
 |some ad=>
  clear h4 h5 h6 h1 h2;have hq:=λ(w:World)=>Lib.run_eql_slice_nil (P:=Tryz.prog) w 43 50 (some ad) xs.length c 0 0 (by kernel_rfl)
  go_enter Tryz.func59,Tryz.ntmps59
  go_wp2_with (at_builtin;go_loud (refine i8 (R:=rCn) rfl _ _ No (by decide) rfl w.heap.size F (.slice (some ⟨w.heap.size,0,none⟩) 0 0) [] rfl ?c1 ?c2 (.slice (some ad) xs.length c) xs rfl ?c3 ?c4 ?c5 ?_))
  case c1=>exact⟨[],zL w #[] 0 [] (Nat.le_refl _) rfl (by simp) (by decide),by simp,rfl⟩
  case c2=>simp
  case c3=>exact(H.out.live.keep (w':=w.alloc (.cells #[] 50)) λk hk=>heap_alloc_old _ _ hk.2).sub λk hk=>⟨hk.1,λe=>by injection e with e;have:=hk.2;exact absurd e (by show ¬ _=w.heap.size;omega)⟩
  case c4=>intro c' e;cases e
  case c5=>simpa using h3
  intro v' w' YK hg;have HM:=Lib.hid YK;have HG:=Lib.hid hg;clear YK hg
  go_wp2_with fail
  go_ret
  exact⟨_,rfl,HM.out,fN (bf (bg w none) _) HG.out λk e=>by injection e with e;rw[<- e];exact Nat.le_refl _⟩
set_option maxHeartbeats 1000000 in
theorem Be(F:Nat->Prop)(xs:List (List Cn4))(v:Value)(w:World)(h:RSl rCs w F xs v):
 Calls Tryz.prog 57 #[v] w (w8 rCs 43 F xs w):=by
 have H:=Lib.hid h;obtain⟨A,c,cs,rfl,h1,h2,h3,h4,h5,h6⟩:=h
 cases A with
 |none=>
  have hx:xs=[]:=by
   by_cases hx:xs=[]
   ·exact hx
   ·obtain⟨b,off,c',U5,e,_⟩:=H.out.at_ (List.length_pos_iff.2 hx);cases e
  subst hx;have hc:=h4 rfl;subst hc;clear h4 h5 h6 h1 h2 h3;have hq:=λ(w:World)=>Lib.run_eql_slice_nil (P:=Tryz.prog) w 27 43 none 0 0 0 0 (by kernel_rfl)
  go_enter Tryz.func57,Tryz.ntmps57
  go_wp2_with fail
  go_ret
  exact⟨_,rfl,Mk.nil _ _ _ _ _,bg _ _⟩
 |some ad=>
  clear h4 h5 h6 h1 h2;have hq:=λ(w:World)=>Lib.run_eql_slice_nil (P:=Tryz.prog) w 27 43 (some ad) xs.length c 0 0 (by kernel_rfl)
  go_enter Tryz.func57,Tryz.ntmps57
  go_wp2_with (at_builtin;go_loud (refine i8 (R:=rCs) rfl _ _ Nm (by decide) rfl w.heap.size F (.slice (some ⟨w.heap.size,0,none⟩) 0 0) [] rfl ?c1 ?c2 (.slice (some ad) xs.length c) xs rfl ?c3 ?c4 ?c5 ?_))
  case c1=>exact⟨[],zL w #[] 0 [] (Nat.le_refl _) rfl (by simp) (by decide),by simp,rfl⟩
  case c2=>simp
  case c3=>exact(H.out.live.keep (w':=w.alloc (.cells #[] 43)) λk hk=>heap_alloc_old _ _ hk.2).sub λk hk=>⟨hk.1,λe=>by injection e with e;have:=hk.2;exact absurd e (by show ¬ _=w.heap.size;omega)⟩
  case c4=>intro c' e;cases e
  case c5=>simpa using h3
  intro v' w' YK hg;have HM:=Lib.hid YK;have HG:=Lib.hid hg;clear YK hg
  go_wp2_with fail
  go_ret
  exact⟨_,rfl,HM.out,fN (bf (bg w none) _) HG.out λk e=>by injection e with e;rw[<- e];exact Nat.le_refl _⟩
set_option maxHeartbeats 1000000 in
theorem Bc(F:Nat->Prop)(xs:List Vw8)(v:Value)(w:World)(h:RSl rVw w F xs v):
 Calls Tryz.prog 58 #[v] w (w8 rVw 46 F xs w):=by
 have H:=Lib.hid h;obtain⟨A,c,cs,rfl,h1,h2,h3,h4,h5,h6⟩:=h
 cases A with
 |none=>
  have hx:xs=[]:=by
   by_cases hx:xs=[]
   ·exact hx
   ·obtain⟨b,off,c',U5,e,_⟩:=H.out.at_ (List.length_pos_iff.2 hx);cases e
  subst hx;have hc:=h4 rfl;subst hc;clear h4 h5 h6 h1 h2 h3;have hq:=λ(w:World)=>Lib.run_eql_slice_nil (P:=Tryz.prog) w 28 46 none 0 0 0 0 (by kernel_rfl)
  go_enter Tryz.func58,Tryz.ntmps58
  go_wp2_with fail
  go_ret
  exact⟨_,rfl,Mk.nil _ _ _ _ _,bg _ _⟩
 |some ad=>
  clear h4 h5 h6 h1 h2;have hq:=λ(w:World)=>Lib.run_eql_slice_nil (P:=Tryz.prog) w 28 46 (some ad) xs.length c 0 0 (by kernel_rfl)
  go_enter Tryz.func58,Tryz.ntmps58
  go_wp2_with (at_builtin;go_loud (refine i8 (R:=rVw) rfl _ _ Nl (by decide) rfl w.heap.size F (.slice (some ⟨w.heap.size,0,none⟩) 0 0) [] rfl ?c1 ?c2 (.slice (some ad) xs.length c) xs rfl ?c3 ?c4 ?c5 ?_))
  case c1=>exact⟨[],zL w #[] 0 [] (Nat.le_refl _) rfl (by simp) (by decide),by simp,rfl⟩
  case c2=>simp
  case c3=>exact(H.out.live.keep (w':=w.alloc (.cells #[] 46)) λk hk=>heap_alloc_old _ _ hk.2).sub λk hk=>⟨hk.1,λe=>by injection e with e;have:=hk.2;exact absurd e (by show ¬ _=w.heap.size;omega)⟩
  case c4=>intro c' e;cases e
  case c5=>simpa using h3
  intro v' w' YK hg;have HM:=Lib.hid YK;have HG:=Lib.hid hg;clear YK hg
  go_wp2_with fail
  go_ret
  exact⟨_,rfl,HM.out,fN (bf (bg w none) _) HG.out λk e=>by injection e with e;rw[<- e];exact Nat.le_refl _⟩
def DI(f:Nat->Value):Operand->Value
 |.tmp t=>f t
 |.const v=>v
 |.global g=>.pointer (some ⟨g,0,none⟩)
 |.func f=>.func (.func f) #[] #[]
def zB(f:Nat->Value):Option Tmp->Value
 |some t=>f t
 |none=>undef
def CI(f:Nat->Value)(o:Oper):Value:=
 match o.dst with
 |some t=>f t
 |none=>match o.op with
  |.store _ (.tmp t) _=>f t
  |_=>undef
def se(f:Nat->Value)(o:Oper)(v:Value):Value:=
 match o.dst with
 |some _=>v
 |none=>CI f o
def jL(o:Oper)(j:Nat):Bool:=o.after.toList.any λe=>e.on==j&&Region.binds .any e
def lr(l:List Oper)(t:Tmp):Option Nat:=l.findIdx? λo=>o.dst==some t
def vk(l:List Oper)(old:Nat->Value)(Ss:List (Value->World->Prop))(o:Oper)(f:Nat->Value)(w:World)(t:Tmp):Prop:=
 match lr l t with
 |none=>f t=old t
 |some j=>if jL o j then(Ss.getD j λ_ _=>False) (f t) w else f t=old t
def tI(l:List Oper)(f:Nat->Value)(o:Oper):Bool:=
 match o.guard with
 |none=>true
 |some (j,b)=>match(l[j]?).bind (·.dst)with
  |some d=>(match f d with|.bool c=>c==b|_=>false)
  |none=>false
def mL(P:Program)(S2:Value->World->Prop):Result Next->Prop
 |.ok (.value v) w'=>S2 v w'
 |.ok .skip w'=>S2 undef w'
 |.ok (.enter f args) w'=>Calls P f args w' λe WZ=>∃v,e=.returned v/\S2 v WZ
 |_=>False
def Ja(base:World->Prop)(R:World->World->Prop)(s:Value->World->Prop)(w:World)(v:Value)(w':World):Prop:=base w'/\R w w'/\s v w'
def Lw(P:Program)(l:List Oper)(old:Nat->Value)(base:World->Prop)(R:World->World->Prop)(Ss:List (Value->World->Prop))(o:Oper)(s:Value->World->Prop):Prop:=
 ∀(f:Nat->Value)(w:World),base w->(∀t∈o.looksAt l.toArray,vk l old Ss o f w t)->
  if tI l f o=true then mL P (λv w'=>Ja base R s w (se f o v) w') ((execOp (DI f) o).run P w)else s (se f o undef) w
def pG(P:Program)(l:List Oper)(old:Nat->Value)(base:World->Prop)(R:World->World->Prop)(Ss:List (Value->World->Prop)):List Oper->List (Value->World->Prop)->Prop
 | [],[]=>True
 |o::r,s::rs=>Lw P l old base R Ss o s/\pG P l old base R Ss r rs
 |_,_=>False
def Li(R:World->World->Prop):List (Value->World->Prop)->Prop
 | []=>True
 |s::r=>(∀w w' u,R w w'->s u w->s u w')/\Li R r
def gc(f:Nat->Value):List Oper->Act->Act
 | [],a=>a
 |o::r,a=>gc f r (a.put o.dst (zB f o.dst))
def Lv(f:Nat->Value)(w:World):List Oper->List (Value->World->Prop)->Prop
 |o::r,s::rs=>s (CI f o) w/\Lv f w r rs
 |_,_=>True
def zN(l:List Oper)(n:Nat):Bool:=
 (l.zipIdx.all λ(o,k)=>
  (match o.dst with|some d=>lr l d==some k&&decide (d<n)|none=>true) &&
  (o.after.all λe=>!Region.binds .any e||decide (e.on<k)) &&
  (o.looksAt l.toArray).all λt=>match lr l t with
   |none=>true
   |some j=>jL o j||jL (l.getD j default) k) &&
 (l.all λo=>match o.dst,o.op with
  |none,.store _ (.tmp t) _=>(match lr l t with|none=>true|some j=>jL o j)
  |_,_=>true) &&
 l.all λo=>match o.guard with
  |none=>true
  |some (j,_)=>match(l[j]?).bind (·.dst)with|some d=>(o.looksAt l.toArray).contains d|none=>false
section
variable {P:Program} {l:List Oper} {a0:Act} {base:World->Prop} {R:World->World->Prop} {Ss:List (Value->World->Prop)}
structure JJ (l:List Oper)(a0:Act)(base:World->Prop)(Ss:List (Value->World->Prop))(listed:Array Bool)(a:Act)(w:World):Prop where
 base_:base w
 defers:a.defers=a0.defers
 lsize:listed.size=l.length
 asize:a.tmps.size=a0.tmps.size
 old:∀t,(∀(j:Nat) o,l[j]?=some o->o.dst=some t->listed.getD j true=false)->a.tmps.getD t undef=a0.tmps.getD t undef
 says:∀(j:Nat) o s,l[j]?=some o->Ss[j]?=some s->listed.getD j false=true->s (CI (λt=>a.tmps.getD t undef) o) w
 down:∀(j:Nat) o,l[j]?=some o->listed.getD j false=true->∀e∈o.after,Region.binds .any e=true->listed.getD e.on false=true
theorem I6(a:Act):a.eval=DI λt=>a.tmps.getD t undef:=by funext x;cases x<;>rfl
theorem pG.at_{lo:List Oper}{ls:List (Value->World->Prop)}:∀{o:Oper}{k:Nat},pG P l (λt=>a0.tmps.getD t undef) base R Ss lo ls->lo[k]?=some o->∃s,ls[k]?=some s/\Lw P l (λt=>a0.tmps.getD t undef) base R Ss o s:=by
 induction lo generalizing ls with
 |nil=>intro o k _ h;simp at h
 |cons x r ih=>
  intro o k hd h
  match ls,hd with
  |s::rs,hd=>
   cases k with
   |zero=>simp at h;subst h;exact⟨s,rfl,hd.1⟩
   |succ k=>simpa using ih hd.2 (by simpa using h)
theorem Li.at_:∀{ls:List (Value->World->Prop)}{k:Nat}{s:Value->World->Prop},Li R ls->ls[k]?=some s->∀w w' u,R w w'->s u w->s u w'
 | [],_,_,_,h=>by simp at h
 |x::r,0,s,hk,h=>by simp at h;subst h;exact hk.1
 |x::r,k+1,s,hk,h=>Li.at_ hk.2 (by simpa using h)
theorem zr{t:Tmp}{j:Nat}(h:lr l t=some j):∃o,l[j]?=some o/\o.dst=some t:=by
 unfold lr at h;rw[List.findIdx?_eq_some_iff_getElem]at h;obtain⟨hj,h1,_⟩:=h;exact⟨l[j],oGE hj,by simpa using h1⟩
theorem zt{t:Tmp}(h:lr l t=none):∀(j:Nat) o,l[j]?=some o->o.dst≠some t:=by
 unfold lr at h;rw[List.findIdx?_eq_none_iff]at h;intro j o hj e;have:=h o (List.mem_of_getElem? hj);simp[e]at this
theorem mM{n:Nat}(h:zN l n=true){k:Nat}{o:Oper}(hk:l[k]?=some o):
 (∀d,o.dst=some d->lr l d=some k/\d<n)/\(∀e∈o.after,Region.binds .any e=true->e.on<k)/\
 (∀t∈o.looksAt l.toArray,∀j,lr l t=some j->jL o j=true\/jL (l.getD j default) k=true)/\
 (∀y t x,o.dst=none->o.op=.store y (.tmp t) x->∀j,lr l t=some j->jL o j=true)/\
 (∀j b,o.guard=some (j,b)->∃d,(l[j]?).bind (·.dst)=some d/\d∈o.looksAt l.toArray):=by
 simp only[zN,oBA,List.all_eq_true]at h;obtain⟨⟨h1,hst⟩,h2⟩:=h
 have hm:(o,k)∈l.zipIdx:=by rw[List.mem_zipIdx_iff_getElem?];simpa using hk
 have h3:=h1 _ hm;simp only[oBA,List.all_eq_true]at h3;obtain⟨⟨h4,h5⟩,h6⟩:=h3;refine⟨λd hd=>?_,λe he hb=>?_,λt ht j hj=>?_,λy t x hd hop j hw=>?_,λj b hg=>?_⟩
 ·rw[hd]at h4;simpa using h4
 ·have:=(Array.all_eq_true_iff_forall_mem.1 h5) e he;simpa[hb]using this
 ·have:=h6 t ht;rw[hj]at this;simpa using this
 ·have:=hst o (List.mem_of_getElem? hk);rw[hd,hop]at this;simp only[hw]at this;exact this
 ·have:=h2 o (List.mem_of_getElem? hk);rw[hg]at this;simp only at this
  cases hd:(l[j]?).bind (·.dst)with
  |none=>rw[hd]at this;simp at this
  |some d=>rw[hd]at this;exact⟨d,rfl,by simpa using this⟩
theorem r7{o:Oper}{j:Nat}(h:jL o j=true):∃e∈o.after,e.on=j/\Region.binds .any e=true:=by
 unfold jL at h;rw[List.any_eq_true]at h;obtain⟨e,he,hx⟩:=h;simp only[oBA,beq_iff_eq]at hx;exact⟨e,by simpa using he,hx.1,hx.2⟩
theorem oY{listed:Array Bool}{i j:Nat}{b:Bool}(hi:i<listed.size):(listed.setIfInBounds i true).getD j b=if i=j then true else listed.getD j b:=by
 by_cases e:i=j
 ·subst e;simp[Array.getD,hi]
 ·simp only[oIN e];simp only[Array.getD,Array.size_setIfInBounds];split
  ·exact Array.getElem_setIfInBounds_ne _ e
  ·rfl
theorem oZ{a:Act}{d t:Nat}{v:Value}(hd:d<a.tmps.size):(a.put (some d) v).tmps.getD t undef=if d=t then v else a.tmps.getD t undef:=by
 unfold Act.put;by_cases e:d=t
 ·subst e;simp[Array.getD,hd]
 ·simp only[oIN e];simp only[Array.getD,Array.size_setIfInBounds];split
  ·exact Array.getElem_setIfInBounds_ne _ e
  ·rfl
theorem JJ.step(SD:∀w,R w w)(hB:zN l a0.tmps.size=true)(hD:pG P l (λt=>a0.tmps.getD t undef) base R Ss l Ss)(hK:Li R Ss){listed:Array Bool}{a:Act}{w:World}{Q:Exit->Act->World->Prop}(h:JJ l a0 base Ss listed a w){i:Nat}(hi:i∈Region.ready .any l.toArray listed):
 wpOp P l.toArray Q i (λa' w'=>JJ l a0 base Ss (listed.setIfInBounds i true) a' w') a w:=by
 obtain⟨V6,o,ho,YW⟩:=mem_ready.1 hi
 have Y7:l[i]?=some o:=by simpa using ho
 have XR:i<listed.size:=by rw[h.lsize];exact(oGS Y7).1
 obtain⟨ZX,Z',Z9,hbs,ZO⟩:=mM hB Y7;obtain⟨s,hs,Q9⟩:=hD.at_ Y7
 have Zx:∀t∈o.looksAt l.toArray,vk l (λt=>a0.tmps.getD t undef) Ss o (λt=>a.tmps.getD t undef) w t:=by
  intro t ht;unfold vk
  cases hw:lr l t with
  |none=>exact h.old t λj o' hj hd=>absurd hd (zt hw j o' hj)
  |some j=>
   obtain⟨oj,Yk,T5⟩:=zr hw;by_cases hwt:jL o j=true
   ·simp only[hwt,if_true];obtain⟨e,he,RH,TZ⟩:=r7 hwt
    have T8:listed.getD j false=true:=by rw[<- RH];exact YW e he TZ
    obtain⟨sj,UR,_⟩:=hD.at_ Yk;have:=h.says j oj sj Yk UR T8;simpa[List.getD,UR,CI,T5]using this
   ·simp only[hwt];refine h.old t λj' o' ZT hd'=>?_
    have hjj:j'=j:=by
     have:=((mM hB ZT).1 t hd').1
     rw[hw]at this;injection this with this;exact this.symm
    subst hjj;rcases Z9 t ht j' hw with h'|h'
    ·exact absurd h' hwt
    ·have e:l.getD j' default=oj:=by simp[List.getD,Yk]
     rw[e]at h';obtain⟨ed,OY,RH,TZ⟩:=r7 h'
     cases hl:listed.getD j' true with
     |false=>rfl
     |true=>
      exfalso
      have hjl:j'<listed.size:=by rw[h.lsize];exact(oGS Yk).1
      have X5:listed.getD j' false=true:=by simpa[Array.getD,hjl]using hl
      have:=h.down j' oj Yk X5 ed OY TZ;rw[RH]at this;simp[Array.getD,XR]at this V6;rw[this]at V6;cases V6
 have UA:=Q9 (λt=>a.tmps.getD t undef) w h.base_ Zx
 have Sg:Region.wanted o (yielded l.toArray a.tmps)=tI l (λt=>a.tmps.getD t undef) o:=by
  unfold Region.wanted tI
  cases hg:o.guard with
  |none=>rfl
  |some p=>
   obtain⟨j,b⟩:=p;obtain⟨d,hd,_⟩:=ZO j b hg
   have Q8:d<a.tmps.size:=by
    rw[h.asize];obtain⟨oj,Yk,T5⟩:=Option.bind_eq_some_iff.1 hd;exact((mM hB Yk).1 d T5).2
   have hy:yielded l.toArray a.tmps j=(match a.tmps.getD d undef with|.bool c=>some c|_=>none):=by
    unfold yielded
    have e:(l.toArray[j]?).bind (·.dst)=some d:=by simpa using hd
    rw[e];simp only[oBS];rw[Array.getElem?_eq_getElem Q8];simp only[Array.getD,Q8,dif_pos,Array.getInternal_eq_getElem];cases a.tmps[d]<;>rfl
   simp only[hd];rw[hy];cases a.tmps.getD d undef<;>simp
 have WA:∀v w',Ja base R s w (se (λt=>a.tmps.getD t undef) o v) w'->JJ l a0 base Ss (listed.setIfInBounds i true) (a.put o.dst v) w':=by
  intro v w' ⟨hb,hR,SQ⟩
  have hsz:(a.put o.dst v).tmps.size=a.tmps.size:=by unfold Act.put;split<;>simp
  refine⟨hb,by rw[<- h.defers];unfold Act.put;split<;>rfl,by simpa using h.lsize,hsz.trans h.asize,λt ht=>?_,λj oj sj Yk UR T8=>?_,λj oj Yk T8 e he TZ=>?_⟩
  ·have hti:o.dst≠some t:=λe=>by
    have:=ht i o Y7 e;rw[oY XR]at this;simp at this
   have ZD:=h.old t λj oj Yk T5=>by
    have:=ht j oj Yk T5;rw[oY XR]at this;split at this
    ·cases this
    ·exact this
   rw[<- ZD]
   cases hd:o.dst with
   |none=>rfl
   |some d=>rw[oZ (by rw[h.asize];exact(ZX d hd).2),oIN (by rintro rfl;exact hti hd)]
  ·by_cases e:i=j
   ·subst e
    rw[Y7]at Yk;injection Yk with Yk;subst Yk
    rw[hs]at UR;injection UR with UR;subst UR
    cases hd:o.dst with
    |none=>
     have e1:(a.put none v).tmps=a.tmps:=rfl
     have e2:se (λt=>a.tmps.getD t undef) o v=CI (λt=>a.tmps.getD t undef) o:=by unfold se;rw[hd]
     rw[e1,<- e2];exact SQ
    |some d=>
     have e2:se (λt=>a.tmps.getD t undef) o v=v:=by unfold se;rw[hd]
     have e3:CI (λt=>(a.put (some d) v).tmps.getD t undef) o=v:=by
      unfold CI;rw[hd];simp only;rw[oZ (by rw[h.asize];exact(ZX d hd).2),oIP rfl]
     rw[e3,<- e2];exact SQ
   ·rw[oY XR,oIN e]at T8;have ZD:=hK.at_ UR w w' _ hR (h.says j oj sj Yk UR T8)
    have YC:∀t,o.dst≠some t->(a.put o.dst v).tmps.getD t undef=a.tmps.getD t undef:=λt ht=>by
     cases hd:o.dst with
     |none=>rfl
     |some d'=>rw[oZ (by rw[h.asize];exact(ZX d' hd).2),oIN (by rintro rfl;exact ht hd)]
    have PI:CI (λt=>(a.put o.dst v).tmps.getD t undef) oj=CI (λt=>a.tmps.getD t undef) oj:=by
     unfold CI
     cases T5:oj.dst with
     |some d=>
      refine YC d λhd=>?_;have h1:=(ZX d hd).1;have h2:=((mM hB Yk).1 d T5).1;rw[h1]at h2
      injection h2 with h2
      exact e h2
     |none=>
      cases hop:oj.op with
      |store y t x=>
       cases t with
       |tmp t=>
        refine YC t λhd=>?_;have h1:=(ZX t hd).1;have h2:=(mM hB Yk).2.2.2.1 y t x T5 hop i h1;obtain⟨ed,OY,RH,TZ⟩:=r7 h2;have:=h.down j oj Yk T8 ed OY TZ;rw[RH]at this;simp[Array.getD,XR]at this V6;rw[this]at V6;cases V6
       |const _=>rfl
       |global _=>rfl
       |func _=>rfl
      |_=>rfl
    rw[PI];exact ZD
  ·rw[oY XR];split
   ·rfl
   ·by_cases e':i=j
    ·subst e'
     rw[Y7]at Yk;injection Yk with Yk;subst Yk
     exact YW e he TZ
    ·rw[oY XR,oIN e']at T8;exact h.down j oj Yk T8 e he TZ
 unfold wpOp;simp only[ho];rw[Sg];by_cases hw:tI l (λt=>a.tmps.getD t undef) o=true
 ·rw[oIP hw]at UA⊢;refine .inl ?_;unfold Oper.wp;rw[I6];generalize(execOp (DI λt=>a.tmps.getD t undef) o).run P w=r at UA
  cases r with
  |ok n w'=>
   cases n<;>simp only[mL]at UA<;>simp only[Oper.upon]
   case value v=>exact WA v w' UA
   case skip=>exact WA undef w' UA
   case enter fn args=>exact UA.mono λe WZ ⟨v,he,hp⟩=>by subst he;exact WA v WZ hp
  |halt x w'=>simp only[mL]at UA
 ·rw[oIN hw]at UA⊢;exact WA undef w ⟨h.base_,SD w,UA⟩
theorem vi{n:Nat}(hB:zN l n=true){listed:Array Bool}(hs:listed.size=l.length)(hr:Region.ready .any l.toArray listed=[]):∀(k:Nat),k<l.length->listed.getD k false=true:=by
 intro k
 induction k using Nat.strongRecOn with
 |_ k ih=>
  intro hk
  cases hl:listed.getD k false with
  |true=>rfl
  |false=>
   exfalso;have ho:l[k]?=some l[k]:=oGE hk
   have:k∈Region.ready .any l.toArray listed:=by
    refine mem_ready.2 ⟨?_,l[k],by simp,λe he hb=>?_⟩
    ·have:k<listed.size:=by omega
     simpa[Array.getD,this]using hl
    ·have:=(mM hB ho).2.1 e he hb;exact ih e.on this (by omega)
   rw[hr]at this;cases this
theorem uD(SD:∀w,R w w)(hB:zN l a0.tmps.size=true)(hD:pG P l (λt=>a0.tmps.getD t undef) base R Ss l Ss)(hK:Li R Ss){Q:Exit->Act->World->Prop}
 (WP:∀listed a w,(∀k,k<l.length->listed.getD k false=true)->JJ l a0 base Ss listed a w->Q .normal a w):
 ∀(XA:Nat)(listed:Array Bool)(a:Act)(w:World),JJ l a0 base Ss listed a w->(∃c:List Bool,c.length=l.length/\listed.toList=c/\c.count false=XA)->wpAny P .any l.toArray Q XA listed a w
 |0,listed,a,w,h,⟨c,Zp,Ze,U7⟩=>by
  have hr:Region.ready .any l.toArray listed=[]:=by
   rw[List.eq_nil_iff_forall_not_mem];intro i hi;have V6:=(mem_ready.1 hi).1
   have XR:i<listed.size:=by
    rcases Nat.lt_or_ge i listed.size with h'|h'
    ·exact h'
    ·simp[Array.getD,Nat.not_lt.2 h']at V6
   have:false∈c:=by
    rw[<- Ze]
    have h1:listed[i]=false:=by simpa[Array.getD,XR]using V6
    rw[<- h1];simp
   exact absurd (List.count_pos_iff.2 this) (by omega)
  exact⟨hr,WP _ _ _ (vi hB h.lsize hr) h⟩
 |XA+1,listed,a,w,h,⟨c,Zp,Ze,U7⟩=>by
  refine⟨λhr=>WP _ _ _ (vi hB h.lsize hr) h,λi hi=>?_⟩;refine wpOp_mono (λa' w' h'=>uD SD hB hD hK WP XA _ a' w' h' ?_) (h.step SD hB hD hK hi);have V6:=(mem_ready.1 hi).1
  have XR:i<listed.size:=by
   rcases Nat.lt_or_ge i listed.size with h'|h'
   ·exact h'
   ·simp[Array.getD,Nat.not_lt.2 h']at V6
  have h1:listed[i]=false:=by simpa[Array.getD,XR]using V6
  refine⟨_,?_,rfl,?_⟩
  ·simp;have:=h.lsize;omega
  ·rw[Array.toList_setIfInBounds,List.count_set (by simpa using XR)];subst Ze;rw[U7];simp[h1]
theorem Gs{f:Nat->Value}{w:World}:∀{lo:List Oper}{ls:List (Value->World->Prop)},(∀(k:Nat) o s,lo[k]?=some o->ls[k]?=some s->s (CI f o) w)->Lv f w lo ls
 | [],_,_=>by unfold Lv;trivial
 |_::_,[],_=>by unfold Lv;trivial
 |o::r,s::rs,h=>⟨h 0 o s rfl rfl,Gs λk o' s' h1 h2=>h (k+1) o' s' (by simpa using h1) (by simpa using h2)⟩
theorem rU(f:Nat->Value):∀(lo:List Oper)(a:Act),(gc f lo a).tmps.size=a.tmps.size
 | [],_=>rfl
 |o::r,a=>by
  rw[gc,rU f r];unfold Act.put;split<;>simp
theorem oz(f:Nat->Value):∀(lo:List Oper)(a:Act),(gc f lo a).defers=a.defers
 | [],_=>rfl
 |o::r,a=>by
  rw[gc,oz f r];unfold Act.put;split<;>rfl
theorem rV(f:Nat->Value):∀(lo:List Oper)(a:Act)(t:Nat),t<a.tmps.size ->
 (gc f lo a).tmps.getD t undef=f t/\(∃o∈lo,o.dst=some t)\/(gc f lo a).tmps.getD t undef=a.tmps.getD t undef/\∀o∈lo,o.dst≠some t
 | [],_,_,_=>.inr ⟨rfl,by simp⟩
 |o::r,a,t,ht=>by
  have hsz:(a.put o.dst (zB f o.dst)).tmps.size=a.tmps.size:=by unfold Act.put;split<;>simp
  rcases rV f r (a.put o.dst (zB f o.dst)) t (by rw[hsz];exact ht)with⟨h1,o',h2,h3⟩|⟨h1,h2⟩
  ·exact .inl ⟨h1,o',List.mem_cons_of_mem _ h2,h3⟩
  ·by_cases hd:o.dst=some t
   ·refine .inl ⟨?_,o,List.mem_cons_self ..,hd⟩;rw[gc,h1,hd,oZ ht,oIP rfl];rfl
   ·refine .inr ⟨?_,λo' Y7=>?_⟩
    ·rw[gc,h1]
     cases hd':o.dst with
     |none=>rfl
     |some d=>
      by_cases hds:d<a.tmps.size
      ·rw[oZ hds,oIN (by rintro rfl;exact hd hd')]
      ·unfold Act.put;simp[Array.setIfInBounds,hds]
    ·rcases List.mem_cons.1 Y7 with rfl|h'
     ·exact hd
     ·exact h2 o' h'
theorem hJ{id:Nat}{w0:World}{Q:Exit->Act->World->Prop}(base:World->Prop)(R:World->World->Prop)(Ss:List (Value->World->Prop))
 (n:Nat)(hm:P.follows .mixedOrders=true)(hn:a0.tmps.size=n)(Qb:zN l n=true)(h0:base w0.drew)(SD:∀w,R w w)(hK:Li R Ss)
 (hD:pG P l (λt=>a0.tmps.getD t undef) base R Ss l Ss)
 (WP:∀f w,base w->Lv f w l Ss->Q .normal (gc f l a0) w):(Code.region id l.toArray true).wp P Q a0 w0:=by
 have hB:zN l a0.tmps.size=true:=by rw[hn];exact Qb
 refine wp_region_any hm ?_;refine uD (a0:=a0) (R:=R) (Ss:=Ss) SD hB hD hK (λlisted a w hl h=>?_) _ _ _ _ (?_:JJ l a0 base Ss _ _ _) ⟨_,?_,rfl,?_⟩
 ·have e:a=gc (λt=>a.tmps.getD t undef) l a0:=by
   have hd:a.defers=(gc (λt=>a.tmps.getD t undef) l a0).defers:=by rw[oz,h.defers]
   have ht:a.tmps=(gc (λt=>a.tmps.getD t undef) l a0).tmps:=by
    refine Array.ext (by rw[rU,h.asize]) λi h1 h2=>?_
    have hi0:i<a0.tmps.size:=by rw[<- h.asize];exact h1
    have e1:a.tmps[i]=a.tmps.getD i undef:=by simp[Array.getD,h1]
    have e2:(gc (λt=>a.tmps.getD t undef) l a0).tmps[i]=(gc (λt=>a.tmps.getD t undef) l a0).tmps.getD i undef:=by rw[Array.getD,dif_pos h2];rfl
    rw[e1,e2]
    rcases rV (λt=>a.tmps.getD t undef) l a0 i hi0 with⟨h3,_⟩|⟨h3,h4⟩
    ·exact h3.symm
    ·rw[h3];exact h.old i λj o ho hd=>absurd hd (h4 o (List.mem_of_getElem? ho))
   cases a;cases hp:gc (λt=>Array.getD _ t undef) l a0;simp only[hp]at hd ht;subst hd;subst ht
   simp_all
  rw[e];exact WP _ w h.base_ (Gs λk o s ho hs=>h.says k o s ho hs (hl k (oGS ho).1))
 ·exact⟨h0,rfl,by simp,rfl,λ_ _=>rfl,λj o s ho hs hl=>by simp[Array.getD]at hl,λj o ho hl=>by simp[Array.getD]at hl⟩
 ·simp
 ·simp[List.count_replicate]
end
theorem bd{P:Program}{l:List Oper}{old:Nat->Value}{base:World->Prop}{R:World->World->Prop}{Ss:List (Value->World->Prop)}{o:Oper}{r:List Oper}{s:Value->World->Prop}{rs:List (Value->World->Prop)}
 (h:Lw P l old base R Ss o s)(h':pG P l old base R Ss r rs):pG P l old base R Ss (o::r) (s::rs):=⟨h,h'⟩
theorem bi{P:Program}{l:List Oper}{old:Nat->Value}{base:World->Prop}{R:World->World->Prop}{Ss:List (Value->World->Prop)}{o:Oper}{s:Value->World->Prop}(hg:o.guard=none)
 (h:∀(f:Nat->Value)(w:World),base w->(∀t∈o.looksAt l.toArray,vk l old Ss o f w t)->mL P (λv w'=>Ja base R s w (se f o v) w') ((execOp (DI f) o).run P w)):Lw P l old base R Ss o s:=by
 intro f w hb H
 have:tI l f o=true:=by unfold tI;rw[hg]
 rw[oIP this];exact h f w hb H
theorem gd{P:Program}{l:List Oper}{old:Nat->Value}{base:World->Prop}{R:World->World->Prop}{Ss:List (Value->World->Prop)}{o:Oper}{s:Value->World->Prop}(j:Nat)(b:Bool)(d:Nat)(hg:o.guard=some (j,b))(hd:(l[j]?).bind (·.dst)=some d)
 (h:∀(f:Nat->Value)(w:World),base w->(∀t∈o.looksAt l.toArray,vk l old Ss o f w t)->f d=.bool b/\mL P (λv w'=>Ja base R s w (se f o v) w') ((execOp (DI f) o).run P w)):Lw P l old base R Ss o s:=by
 intro f w hb H;obtain⟨h1,h2⟩:=h f w hb H
 have:tI l f o=true:=by unfold tI;rw[hg];simp only[hd,h1,beq_self_eq_true]
 rw[oIP this];exact h2
theorem pb{P:Program}{l:List Oper}{old:Nat->Value}{base:World->Prop}{R:World->World->Prop}{Ss:List (Value->World->Prop)}{o:Oper}{s:Value->World->Prop}(j:Nat)(b:Bool)(d:Nat)(hg:o.guard=some (j,b))(hd:(l[j]?).bind (·.dst)=some d)
 (h:∀(f:Nat->Value)(w:World),base w->(∀t∈o.looksAt l.toArray,vk l old Ss o f w t)->f d=.bool (!b)/\s (se f o undef) w):Lw P l old base R Ss o s:=by
 intro f w hb H;obtain⟨h1,h2⟩:=h f w hb H
 have:tI l f o=false:=by unfold tI;rw[hg];simp only[hd,h1];cases b<;>rfl
 rw[this];exact h2
theorem mV{P:Program}{l:List Oper}{old:Nat->Value}{base:World->Prop}{R:World->World->Prop}{Ss:List (Value->World->Prop)}:pG P l old base R Ss [] []:=trivial
def RK(X:Nat->Prop)(w w':World):Prop:=w.heap.size<=w'.heap.size/\∀b,b<w.heap.size->¬X b->w'.heap[b]?=w.heap[b]?
theorem RK.refl(X:Nat->Prop)(w:World):RK X w w:=⟨Nat.le_refl _,λ_ _ _=>rfl⟩
theorem RK.alloc(X:Nat->Prop)(w:World)(o:Obj):RK X w (w.alloc o):=⟨by simp,λ_ hb _=>heap_alloc_old _ _ hb⟩
theorem RK.grown{X:Nat->Prop}{w w':World}{g:Nat}(h:w.grownBy w' (some g))(hg:X g):RK X w w':=⟨h.size,λb hb hx=>h.block b hb (by rintro e;injection e with e;subst e;exact hx hg)⟩
theorem RK.set{X:Nat->Prop}{w w1:World}{p:Addr}(h:RK X w w1)(hp:X p.block)(u:Value):RK X w (w1.setCell p u):=
 ⟨by simpa[World.setCell]using h.1,λb hb hx=>(Below.heap_setCell w1 p u b (by rintro rfl;exact hx hp)).trans (h.2 b hb hx)⟩
theorem RK.cell{X:Nat->Prop}{w w':World}(h:RK X w w'){b o:Nat}(hb:b<w.heap.size)(hx:¬X b):w'.cell? ⟨b,o,none⟩=w.cell? ⟨b,o,none⟩:=World.cell?_of_block (h.2 b hb hx)
def RD(X:Nat->Prop)(D:World->Prop)(w w':World):Prop:=RK X w w'/\(D w->D w')
theorem RD.refl(X:Nat->Prop)(D:World->Prop)(w:World):RD X D w w:=⟨RK.refl X w,id⟩
def bN(u:Value)(v:Value)(_:World):Prop:=v=u
def Nf(k:IntKind)(lo hi:Int)(v:Value)(_:World):Prop:=∃n:Int,lo<=n/\n<=hi/\v=.int k n
theorem bN.kept{x:Value}{R:World->World->Prop}(w w':World)(u:Value)(_:R w w')(h:bN x u w):bN x u w':=h
theorem Nf.kept{k:IntKind}{lo hi:Int}{R:World->World->Prop}(w w':World)(u:Value)(_:R w w')(h:Nf k lo hi u w):Nf k lo hi u w':=h
attribute [go_sem] DI mL se CI
section
variable {N:Nat} {t:TypeId} {z:List Value} {Good:List Value->World->Prop}
def Br(t:TypeId)(Good:List Value->World->Prop)(q:Nat)(w:World):Prop:=∃vs,Bk w q t vs/\Good vs w
def RZ(N:Nat)(t:TypeId)(z:List Value)(Good:List Value->World->Prop)(w w':World):Prop:=
 w.heap.size<=w'.heap.size/\(∀k,k<w.heap.size->(k<N\/∀cs,w.heap[k]?≠some (.cells cs t (0,0)))->w'.heap[k]?=w.heap[k]?)/\
 (∀k,N<=k->Bk w k t z->Bk w' k t z\/Br t Good k w')/\∀k,N<=k->Br t Good k w->Br t Good k w'
def Lj(t:TypeId)(N:Nat)(Good:List Value->World->Prop):Prop:=∀vs w w',w.heap.size<=w'.heap.size->(∀k,k<w.heap.size->(k<N\/∀cs,w.heap[k]?≠some (.cells cs t (0,0)))->w'.heap[k]?=w.heap[k]?)->Good vs w->Good vs w'
theorem RZ.refl(w:World):RZ N t z Good w w:=⟨Nat.le_refl _,λ_ _ _=>rfl,λ_ _ h=>.inl h,λ_ _ h=>h⟩
theorem RZ.grown(hG:Lj t N Good){w w':World}(h:w.grownBy w' none):RZ N t z Good w w':=
 ⟨h.size,λk hk _=>h.block k hk (by simp),λk _ hb=>.inl (hb.grow h),λk _ ⟨vs,h1,h2⟩=>⟨vs,h1.grow h,hG _ _ _ h.size (λk hk _=>h.block k hk (by simp)) h2⟩⟩
def GU(N:Nat)(t:TypeId)(z:List Value)(Good:List Value->World->Prop)(v:Value)(w:World):Prop:=∃q,v=.pointer (some ⟨q,0,none⟩)/\N<=q/\(Bk w q t z\/Br t Good q w)
def La(N:Nat)(t:TypeId)(Good:List Value->World->Prop)(v:Value)(w:World):Prop:=∃q,v=.pointer (some ⟨q,0,none⟩)/\N<=q/\Br t Good q w
theorem GU.kept(w w':World)(v:Value)(hr:RZ N t z Good w w')(h:GU N t z Good v w):GU N t z Good v w':=by
 obtain⟨q,e,hq,h|h⟩:=h
 ·exact⟨q,e,hq,hr.2.2.1 q hq h⟩
 ·exact⟨q,e,hq,.inr (hr.2.2.2 q hq h)⟩
theorem La.kept(w w':World)(v:Value)(hr:RZ N t z Good w w')(h:La N t Good v w):La N t Good v w':=
 let ⟨q,e,hq,h⟩:=h;⟨q,e,hq,hr.2.2.2 q hq h⟩
theorem GU.new(hG:Lj t N Good){w:World}(hN:N<=w.heap.size):GU N t z Good (.pointer (some ⟨w.heap.size,0,none⟩)) (w.alloc (.cells z.toArray t)):=⟨_,rfl,hN,.inl Bk.new⟩
theorem RZ.put(hG:Lj t N Good){w w':World}{q:Nat}{us vs:List Value}(hq:N<=q)(h:Bk w q t us)(hs:w.heap.size=w'.heap.size)(hk:∀k,k≠q->w'.heap[k]?=w.heap[k]?)(hv:Bk w' q t vs)(hg:Good vs w):RZ N t z Good w w'/\Br t Good q w':=by
 have Yg:∀k,k<w.heap.size->(k<N\/∀cs,w.heap[k]?≠some (.cells cs t (0,0)))->w'.heap[k]?=w.heap[k]?:=λk _ hc=>hk k (by
  rintro rfl;rcases hc with hc|hc
  ·omega
  ·exact hc _ h)
 have h1:Br t Good q w':=⟨vs,hv,hG _ _ _ (Nat.le_of_eq hs) Yg hg⟩;refine⟨⟨Nat.le_of_eq hs,Yg,λk _ hb=>?_,λk _ hb=>?_⟩,h1⟩
 ·by_cases e:k=q
  ·subst e;exact .inr h1
  ·exact .inl (hb.keep (hk k e))
 ·by_cases e:k=q
  ·subst e;exact h1
  ·obtain⟨us',g1,g2⟩:=hb;exact⟨us',g1.keep (hk k e),hG _ _ _ (Nat.le_of_eq hs) Yg g2⟩
theorem CG{w:World}{q t:Nat}{x y:Value}(h:Bk w q t [x,y])(a b:Value):Bk ((w.setCell ⟨q,0,none⟩ a).setCell ⟨q,1,none⟩ b) q t [a,b]:=(h.set 0 a).set 1 b
theorem zq{α:Type}{R:Rp α}{e:TypeId}(hne:e≠t){base:Nat}{G:Nat->Prop}(hG:∀k,G k->k<N){v:Value}{xs:List α}{w w':World}(hs:w.heap.size<=w'.heap.size)
 (hr:∀k,k<w.heap.size->(k<N\/∀cs,w.heap[k]?≠some (.cells cs t (0,0)))->w'.heap[k]?=w.heap[k]?)(h:Mk R e base w G v xs):Mk R e base w' G v xs:=by
 obtain⟨cs,h1,h2,h3⟩:=h;refine⟨cs,⟨h1.1,?_⟩,h2,(eZ.keep (w':=w') (λk hk=>hr k hk.2 (.inl (hG k hk.1.1))) h3.live).sub λk hk=>hk.1⟩;rcases h1.2 with h|⟨g,cap,cur,e1,hb,YT,h⟩
 ·exact .inl h
 ·refine .inr ⟨g,cap,cur,e1,hb,?_,h⟩;rw[hr g (Array.getElem?_eq_some_iff.1 YT).1 (.inr λcs hz=>?_)]
  ·exact YT
  ·have e:=Option.some.inj (YT.symm.trans hz)
   injection e with _ e;exact hne e
end
def SMk{α:Type}(R:Rp α)(e:TypeId)(base:Nat)(G:Nat->Prop)(xs:List α)(v:Value)(w:World):Prop:=Mk R e base w G v xs
theorem SMk.kept{α:Type}{R:Rp α}{e t:TypeId}{N base:Nat}{z:List Value}{Good:List Value->World->Prop}{G:Nat->Prop}{xs:List α}(hne:e≠t)(hG:∀k,G k->k<N)(w w':World)(v:Value)(hr:RZ N t z Good w w')(h:SMk R e base G xs v w):SMk R e base G xs v w':=
 zq hne hG hr.1 hr.2.1 h
theorem Mk.base{α:Type}{R:Rp α}{e:TypeId}{base base':Nat}{w:World}{G:Nat->Prop}{v:Value}{xs:List α}(h:Mk R e base w G v xs)(hb:base'<=base):Mk R e base' w G v xs:=by
 obtain⟨cs,h1,h2⟩:=h;refine⟨cs,⟨h1.1,?_⟩,h2⟩;rcases h1.2 with h|⟨g,cap,cur,e1,ZX,h⟩
 ·exact .inl h
 ·exact .inr ⟨g,cap,cur,e1,Nat.le_trans hb ZX,h⟩
theorem Mv{w:World}{F:Nat->Prop}{c:Cn4}{cs:List Value}(h:rCn.rep w F c cs):cs=[.int .u8 c.1,.int .u16 c.2.1,.int .i64 c.2.2.1,.int .i64 c.2.2.2]:=by
 obtain⟨a,b,rfl,rfl,a2,b2,rfl,rfl,a3,b3,rfl,rfl,rfl⟩:=h;rfl
theorem Na{w:World}{F:Nat->Prop}(c:Cn4):rCn.rep w F c [.int .u8 c.1,.int .u16 c.2.1,.int .i64 c.2.2.1,.int .i64 c.2.2.2]:=⟨[_],_,rfl,rfl,[_],_,rfl,rfl,[_],_,rfl,rfl,rfl⟩
def vwC(v:Vw8)(y:Value):List Value:=[.int .i64 v.1,.int .i64 v.2.1,.int .i64 v.2.2.1,.int .i64 v.2.2.2.1,.int .i64 v.2.2.2.2.1,.int .i64 v.2.2.2.2.2.1,.int .u16 v.2.2.2.2.2.2.1,y]
theorem Jh{w:World}{F:Nat->Prop}{v:Vw8}{cs:List Value}(h:rVw.rep w F v cs):∃y,cs=vwC v y/\RSl rCn w F v.2.2.2.2.2.2.2 y:=by
 obtain⟨_,_,rfl,rfl,_,_,rfl,rfl,_,_,rfl,rfl,_,_,rfl,rfl,_,_,rfl,rfl,_,_,rfl,rfl,_,_,rfl,rfl,y,rfl,hy⟩:=h;exact⟨y,rfl,hy⟩
theorem MU{w:World}{F:Nat->Prop}{v:Vw8}{y:Value}(h:RSl rCn w F v.2.2.2.2.2.2.2 y):rVw.rep w F v (vwC v y):=
 ⟨[_],_,rfl,rfl,[_],_,rfl,rfl,[_],_,rfl,rfl,[_],_,rfl,rfl,[_],_,rfl,rfl,[_],_,rfl,rfl,[_],_,rfl,rfl,y,rfl,h⟩
theorem Jg{w:World}{fp:List Nat}{v:Vw8}{y:Value}(h:OSl rCn 50 w fp v.2.2.2.2.2.2.2 y):rVw.own w fp v (vwC v y):=
 ⟨[_],_,[],fp,rfl,rfl,⟨rfl,rfl⟩,[_],_,[],fp,rfl,rfl,⟨rfl,rfl⟩,[_],_,[],fp,rfl,rfl,⟨rfl,rfl⟩,[_],_,[],fp,rfl,rfl,⟨rfl,rfl⟩,[_],_,[],fp,rfl,rfl,⟨rfl,rfl⟩,[_],_,[],fp,rfl,rfl,⟨rfl,rfl⟩,[_],_,[],fp,rfl,rfl,⟨rfl,rfl⟩,y,rfl,h⟩
theorem b8(w:World)(j:Nat)(v:Value){k q:Nat}(h:k≠q):(w.setCell ⟨q,j,none⟩ v).heap[k]?=w.heap[k]?:=heap_setCell_other _ _ _ _ h
theorem MkO.base'{α:Type}{R:Rp α}{e:TypeId}{base base':Nat}{w:World}{fp:List Nat}{v:Value}{xs:List α}(h:MkO R e base w fp v xs)(hb:base'<=base):MkO R e base' w fp v xs:=by
 obtain⟨cs,h1,h2,h3,h4,h5⟩:=h;refine⟨cs,⟨h1.1,?_⟩,h2,h3,h4,λk hk=>⟨Nat.le_trans hb (h5 k hk).1,(h5 k hk).2⟩⟩;rcases h1.2 with h|⟨g,cap,cur,e1,ZX,h⟩
 ·exact .inl h
 ·exact .inr ⟨g,cap,cur,e1,Nat.le_trans hb ZX,h⟩
def K7(v:Vw8)(w:World)(e:Ending)(w':World):Prop:=
 ∃y,e=.returned (.agg (vwC v y).toArray)/\MkO rCn 50 (w.heap.size+2) w' [] y v.2.2.2.2.2.2.2/\w.grownBy w' none
set_option maxHeartbeats 1000000 in
theorem uo(F:Nat->Prop)(v:Vw8)(y:Value)(w:World)(h:RSl rCn w F v.2.2.2.2.2.2.2 y):
 Calls Tryz.prog 60 #[.agg (vwC v y).toArray] w (K7 v w):=by
 obtain⟨v0,v1,v2,v3,v4,v5,v6,L⟩:=v;have H:=Lib.hid h;obtain⟨A,c,rfl,_⟩:=h.size_eq;clear h;unfold vwC at *;dsimp only at *
 go_enter Tryz.func60,Tryz.ntmps60
 go_wp2_with fail
 have Zj:w.grownBy ((w.alloc (.cells #[.int .i64 v0,.int .i64 v1,.int .i64 v2,.int .i64 v3,.int .i64 v4,.int .i64 v5,.int .u16 v6,.slice A L.length c] 46)).alloc (.cells #[.int .i64 0,.int .i64 0,.int .i64 0,.int .i64 0,.int .i64 0,.int .i64 0,.int .u16 0,.slice none 0 0] 46)) none:=bf (bf (bg w none) _) _;have ZX:Bk ((w.alloc (.cells #[.int .i64 v0,.int .i64 v1,.int .i64 v2,.int .i64 v3,.int .i64 v4,.int .i64 v5,.int .u16 v6,.slice A L.length c] 46)).alloc (.cells #[.int .i64 0,.int .i64 0,.int .i64 0,.int .i64 0,.int .i64 0,.int .i64 0,.int .u16 0,.slice none 0 0] 46)) w.heap.size 46 [.int .i64 v0,.int .i64 v1,.int .i64 v2,.int .i64 v3,.int .i64 v4,.int .i64 v5,.int .u16 v6,.slice A L.length c]:=Bk.new.grow (bf (bg _ _) _)
 have Z':Bk ((w.alloc (.cells #[.int .i64 v0,.int .i64 v1,.int .i64 v2,.int .i64 v3,.int .i64 v4,.int .i64 v5,.int .u16 v6,.slice A L.length c] 46)).alloc (.cells #[.int .i64 0,.int .i64 0,.int .i64 0,.int .i64 0,.int .i64 0,.int .i64 0,.int .u16 0,.slice none 0 0] 46)) (w.heap.size+1) 46 [.int .i64 0,.int .i64 0,.int .i64 0,.int .i64 0,.int .i64 0,.int .i64 0,.int .u16 0,.slice none 0 0]:=by
  have:=Bk.new (w:=w.alloc (.cells #[.int .i64 v0,.int .i64 v1,.int .i64 v2,.int .i64 v3,.int .i64 v4,.int .i64 v5,.int .u16 v6,.slice A L.length c] 46)) (t:=46) (vs:=[.int .i64 0,.int .i64 0,.int .i64 0,.int .i64 0,.int .i64 0,.int .i64 0,.int .u16 0,.slice none 0 0]);simpa using this
 have hsz:((w.alloc (.cells #[.int .i64 v0,.int .i64 v1,.int .i64 v2,.int .i64 v3,.int .i64 v4,.int .i64 v5,.int .u16 v6,.slice A L.length c] 46)).alloc (.cells #[.int .i64 0,.int .i64 0,.int .i64 0,.int .i64 0,.int .i64 0,.int .i64 0,.int .u16 0,.slice none 0 0] 46)).heap.size=w.heap.size+2:=by simp
 generalize(w.alloc (.cells #[.int .i64 v0,.int .i64 v1,.int .i64 v2,.int .i64 v3,.int .i64 v4,.int .i64 v5,.int .u16 v6,.slice A L.length c] 46)).alloc (.cells #[.int .i64 0,.int .i64 0,.int .i64 0,.int .i64 0,.int .i64 0,.int .i64 0,.int .u16 0,.slice none 0 0] 46)=W at *;refine(sZ F L _ W (H.out.grow Zj)).mono ?_;rintro e w3 ⟨y,rfl,YK,hg⟩;obtain⟨A',c',rfl⟩:=YK.shape;have ZX:=ZX.grow hg;have Z':=Z'.grow hg;have HG:=Lib.hid (bl Zj hg);have HS:=Lib.hid hsz;have HM:=Lib.hid (YK.own AE);have k0:=ZX.cell 0;have k1:=ZX.cell 1;have k2:=ZX.cell 2;have k3:=ZX.cell 3;have k4:=ZX.cell 4;have k5:=ZX.cell 5;have k6:=ZX.cell 6;have k7:=ZX.cell 7;have f7:=ZX.free 7;have j0:=Z'.cell 0;have j1:=Z'.cell 1;have j2:=Z'.cell 2;have j3:=Z'.cell 3;have j4:=Z'.cell 4;have j5:=Z'.cell 5;have j6:=Z'.cell 6;have j7:=Z'.cell 7;have g0:=Z'.free 0;have g1:=Z'.free 1;have g2:=Z'.free 2;have g3:=Z'.free 3;have g4:=Z'.free 4;have g5:=Z'.free 5;have g6:=Z'.free 6;have g7:=Z'.free 7;simp only[List.getElem?_cons_zero,List.getElem?_cons_succ]at k0 k1 k2 k3 k4 k5 k6 k7 j0 j1 j2 j3 j4 j5 j6 j7;have Yh:=Z'.hi;have W7:=ZX.hi;clear ZX Z' hg Zj YK hsz
 go_wp2_with fail
 refine bodyPost_ret (v:=.agg #[.int .i64 v0,.int .i64 v1,.int .i64 v2,.int .i64 v3,.int .i64 v4,.int .i64 v5,.int .u16 v6,.slice A' L.length c']) (by simp[results,Tryz.results60,go_sem,j0,j1,j2,j3,j4,j5,j6,j7,Yh]) rfl ?_;refine⟨_,rfl,(HM.out.base' (Nat.le_of_eq HS.out.symm)).above λk hk _=>?_,?_⟩
 ·have:∀j,j<2->k≠w.heap.size+j:=λj hj=>by omega
  have e0:=this 0 (by omega);have e1:=this 1 (by omega);rw[Nat.add_zero]at e0;simp only[b8 _ _ _ e0,b8 _ _ _ e1]
 ·refine grown_set (grown_set (grown_set (grown_set (grown_set (grown_set (grown_set (grown_set (grown_set HG.out (.inr ?_) _) (.inr ?_) _) (.inr ?_) _) (.inr ?_) _) (.inr ?_) _) (.inr ?_) _) (.inr ?_) _) (.inr ?_) _) (.inr ?_) _
  all_goals (dsimp only;omega)
theorem pe(F:Nat->Prop)(v0 v1 v2 v3 v4 v5 v6:Int)(L:List Cn4)(y:Value)(w:World)(h:RSl rCn w F L y):
 Calls Tryz.prog 60 #[.agg #[.int .i64 v0,.int .i64 v1,.int .i64 v2,.int .i64 v3,.int .i64 v4,.int .i64 v5,.int .u16 v6,y]] w λe w'=>
  ∃z,e=.returned (.agg #[.int .i64 v0,.int .i64 v1,.int .i64 v2,.int .i64 v3,.int .i64 v4,.int .i64 v5,.int .u16 v6,z])/\MkO rCn 50 (w.heap.size+2) w' [] z L/\w.grownBy w' none:=uo F (v0,v1,v2,v3,v4,v5,v6,L) y w h
section
variable {α:Type} {R:Rp α} {e:TypeId} {w w':World} {F:Nat->Prop} {N N9:Nat} {b:Value} {xs:List α} {k:Nat}
def xd(R:Rp α)(e:TypeId)(w:World)(F:Nat->Prop)(N N9:Nat)(b:Value)(xs:List α)(k:Nat):Prop:=
 (b=.slice none 0 0/\xs=[])\/∃ql cl c1 c2 fp,b=.slice (some ⟨ql,0,none⟩) xs.length cl/\xs.length<=cl/\cl<=9223372036854775807/\lN e w ql (cl*R.size) (c1++c2)/\
  jp R w fp (xs.take k) c1/\eZ R w F (xs.drop k) c2/\fp.Nodup/\(∀x,x∈fp->N9<=x)/\N<=ql/\ql<N9
theorem xd.start(h:Mk R e N w F b xs)(hN:w.heap.size<=N9):xd R e w F N N9 b xs 0:=by
 obtain⟨cs,h1,h2,h3⟩:=h
 rcases h1.2 with⟨e1,e2⟩|⟨g,cap,cur,e1,YI,YT,hcap,hmax,hsz,Zx⟩
 ·exact .inl ⟨e1,oEN e2⟩
 ·exact .inr ⟨g,cap,[],cs,[],e1,hcap,by simpa[maxLen]using hmax,⟨cur,YT,hsz,by rw[List.nil_append,h1.1];exact Zx⟩,by simp[jp],by simpa using h3.sub λx hx=>hx.1,List.nodup_nil,by simp,YI,Nat.lt_of_lt_of_le (Array.getElem?_eq_some_iff.1 YT).1 hN⟩
theorem xd.keep(h:xd R e w F N N9 b xs k)(hk:∀x,x<w.heap.size->(F x\/some x=b.ownBlock\/N9<=x)->w'.heap[x]?=w.heap[x]?):xd R e w' F N N9 b xs k:=by
 rcases h with h|⟨ql,cl,c1,c2,fp,rfl,h1,h2,hV,hO,hR,ZN,hfp,W7,Yh⟩
 ·exact .inl h
 ·refine .inr ⟨ql,cl,c1,c2,fp,rfl,h1,h2,hV.keep (hk ql hV.hi (.inr (.inl rfl))),hO.keep λx hx=>hk x (hO.live x hx) (.inr (.inr (hfp x hx))),?_,ZN,hfp,W7,Yh⟩;exact(eZ.keep (w':=w') (λx hx=>hk x hx.2 (.inl hx.1)) hR.live).sub λx hx=>hx.1
theorem xd.done(h:xd R e w F N N9 b xs xs.length)(hl:xs.length<=1099511627776):∃gp,OSl R e w gp xs b/\gp.Nodup/\∀x,x∈gp->N<=x/\(some x=b.ownBlock\/N9<=x):=by
 rcases h with⟨e1,e2⟩|⟨ql,cl,c1,c2,fp,rfl,h1,h2,hV,hO,hR,ZN,hfp,W7,Yh⟩
 ·exact⟨[],⟨hl,.inl ⟨e1,e2,rfl⟩⟩,List.nodup_nil,by simp⟩
 ·rw[List.take_of_length_le (Nat.le_refl _)]at hO;rw[List.drop_of_length_le (Nat.le_refl _)]at hR;have Ze:c2=[]:=hR;subst Ze;rw[List.append_nil]at hV;refine⟨ql::fp,⟨hl,.inr ⟨ql,cl,c1,fp,rfl,rfl,h1,h2,hV,hO⟩⟩,List.nodup_cons.2 ⟨λhm=>by have:=hfp ql hm;omega,ZN⟩,λx hx=>?_⟩;rcases List.mem_cons.1 hx with rfl|hx
  ·exact⟨W7,.inl rfl⟩
  ·exact⟨by have:=hfp x hx;omega,.inr (hfp x hx)⟩
structure nL (R:Rp α)(e:TypeId)(w:World)(F:Nat->Prop)(N N9:Nat)(b:Value)(xs:List α)(k ql cl:Nat)(x:α)(c1 d1 d2:List Value)(fp:List Nat):Prop where
 hb:b=.slice (some ⟨ql,0,none⟩) xs.length cl
 l1:xs.length<=cl
 l2:cl<=9223372036854775807
 buf:lN e w ql (cl*R.size) (c1++(d1++d2))
 own:jp R w fp (xs.take k) c1
 rep:R.rep w F x d1
 reps:eZ R w F (xs.drop (k+1)) d2
 nd:fp.Nodup
 fp9:∀x,x∈fp->N9<=x
 ql1:N<=ql
 ql2:ql<N9
 len:c1.length=k*R.size
 tk:xs.take (k+1)=xs.take k++[x]
theorem xd.at_(h:xd R e w F N N9 b xs k)(hlt:k<xs.length):∃ql cl c1 d1 d2 fp,nL R e w F N N9 b xs k ql cl xs[k] c1 d1 d2 fp:=by
 rcases h with⟨_,e1⟩|⟨ql,cl,c1,c2,fp,e1,h1,h2,hV,hO,hR,ZN,hfp,W7,Yh⟩
 ·rw[e1]at hlt;simp at hlt
 ·rw[List.drop_eq_getElem_cons hlt]at hR;obtain⟨d1,d2,rfl,hx,SE⟩:=hR;exact⟨ql,cl,c1,d1,d2,fp,e1,h1,h2,hV,hO,hx,SE,ZN,hfp,W7,Yh,by rw[hO.len,oLT,Nat.min_eq_left (by omega)],List.take_succ_eq_append_getElem hlt⟩
theorem nL.cell{ql cl:Nat}{x:α}{c1 d1 d2:List Value}{fp:List Nat}(h:nL R e w F N N9 b xs k ql cl x c1 d1 d2 fp){j:Nat}{u:Value}(hj:d1[j]?=some u):w.cell? ⟨ql,k*R.size+j,none⟩=some u:=by
 rw[<- h.len];refine h.buf.mid (j:=j) ?_;rw[List.getElem?_append_left (oGS hj).1];exact hj
theorem nL.grow{ql cl:Nat}{x:α}{c1 d1 d2:List Value}{fp:List Nat}(h:nL R e w F N N9 b xs k ql cl x c1 d1 d2 fp)(hg:w.grownBy w' none):nL R e w' F N N9 b xs k ql cl x c1 d1 d2 fp:=
 ⟨h.hb,h.l1,h.l2,h.buf.grow hg,h.own.grow hg,R.grow h.rep hg,h.reps.grow hg,h.nd,h.fp9,h.ql1,h.ql2,h.len,h.tk⟩
theorem nL.step{ql cl:Nat}{x:α}{c1 d1 d2 d1':List Value}{fp gp:List Nat}(h:nL R e w F N N9 b xs k ql cl x c1 d1 d2 fp)(hF:∀j,F j->j<N)(hw:∀j,j<w.heap.size->j≠ql->w'.heap[j]?=w.heap[j]?)(h9:N9<=w.heap.size)
 (hV:lN e w' ql (cl*R.size) (c1++(d1'++d2)))(ho:R.own w' gp x d1')(ZN:gp.Nodup)(SI:∀j,j∈gp->w.heap.size<=j):xd R e w' F N N9 b xs (k+1):=by
 refine .inr ⟨ql,cl,c1++d1',d2,fp++gp,h.hb,h.l1,h.l2,by simpa using hV,?_,?_,?_,?_,h.ql1,h.ql2⟩
 ·rw[h.tk];exact(h.own.keep λj hj=>hw j (h.own.live j hj) (by have:=h.fp9 j hj;have:=h.ql2;omega)).append (jp.single ho)
 ·exact(eZ.keep (w':=w') (λj hj=>hw j hj.2 (by have:=hF j hj.1;have:=h.ql1;omega)) h.reps.live).sub λj hj=>hj.1
 ·exact List.nodup_append.2 ⟨h.nd,ZN,λa ha c hc e=>by have:=h.own.live a ha;have:=SI c hc;omega⟩
 ·intro j hj;rcases List.mem_append.1 hj with hj|hj
  ·exact h.fp9 j hj
  ·have:=SI j hj;omega
end
structure StC (C:List (List Cn4))(T:List Vw8)(w:World)(F:Nat->Prop)(N q1 N9:Nat)(a b:Value)(i k:Nat)(wr:World):Prop where
 grown:w.grownBy wr none
 size:N9<=wr.heap.size
 res:Bk wr (q1+1) 30 [.slice none 0 0,.slice none 0 0]
 out:Bk wr q1 30 [a,b]
 rg:xd rCs 43 wr F N N9 a C i
 ts:xd rVw 46 wr F N N9 b T k
 ne:∀x,some x=a.ownBlock->some x≠b.ownBlock
 hq:q1+2=N
 hN:N<=N9
 hw:w.heap.size<=q1
 hF:∀x,F x->x<q1
theorem StC.stepR{C:List (List Cn4)}{T:List Vw8}{w wr w':World}{F:Nat->Prop}{N q1 N9:Nat}{a b:Value}{i k ql cl:Nat}{x:List Cn4}{c1 d1 d2 d1':List Value}{fp gp:List Nat}(h:StC C T w F N q1 N9 a b i k wr)
 (hA:nL rCs 43 wr F N N9 a C i ql cl x c1 d1 d2 fp)(hg:wr.grownBy w' (some ql))(hV:lN 43 w' ql (cl*rCs.size) (c1++(d1'++d2)))(ho:rCs.own w' gp x d1')(ZN:gp.Nodup)(SI:∀j,j∈gp->wr.heap.size<=j):StC C T w F N q1 N9 a b (i+1) k w':=by
 have hw:∀j,j<wr.heap.size->j≠ql->w'.heap[j]?=wr.heap[j]?:=λj h1 h2=>hg.block j h1 (λe=>by injection e with e;exact h2 e);have h1:=hA.ql1;have h2:=hA.ql2;have h3:=h.hq;have h4:=h.hN;have h5:=h.hw
 have hb:some ql=a.ownBlock:=by rw[hA.hb];rfl
 refine⟨fN h.grown hg λe e'=>by injection e' with e';omega,by have:=h.size;have:=hg.size;omega,h.res.keep (hw _ h.res.hi (by omega)),h.out.keep (hw _ h.out.hi (by omega)),hA.step (λj hj=>by have:=h.hF j hj;omega) hw h.size hV ho ZN SI,h.ts.keep λj hj hc=>hw j hj ?_,h.ne,h.hq,h.hN,h.hw,h.hF⟩;rintro rfl;rcases hc with hc|hc|hc
 ·have:=h.hF j hc;omega
 ·exact h.ne j hb hc
 ·omega
theorem xd.raise{α:Type}{R:Rp α}{e:TypeId}{w:World}{F:Nat->Prop}{N N9 M9:Nat}{b:Value}{xs:List α}(h:xd R e w F N N9 b xs 0)(YJ:N9<=M9):xd R e w F N M9 b xs 0:=by
 rcases h with h|⟨ql,cl,c1,c2,fp,h1,h2,h3,hV,hO,hR,ZN,hfp,W7,Yh⟩
 ·exact .inl h
 ·have e0:fp=[]:=by simpa[jp]using hO.2
  subst e0;exact .inr ⟨ql,cl,c1,c2,[],h1,h2,h3,hV,hO,hR,ZN,by simp,W7,Nat.lt_of_lt_of_le Yh YJ⟩
structure StD (C:List (List Cn4))(T:List Vw8)(w:World)(F:Nat->Prop)(N q1 M9:Nat)(a b:Value)(k:Nat)(wr:World):Prop where
 grown:w.grownBy wr none
 size:M9<=wr.heap.size
 res:Bk wr (q1+1) 30 [.slice none 0 0,.slice none 0 0]
 out:Bk wr q1 30 [a,b]
 rg:∃fp,OSl rCs 43 wr fp C a/\fp.Nodup/\∀x,x∈fp->N<=x/\x<M9/\some x≠b.ownBlock
 ts:xd rVw 46 wr F N M9 b T k
 hq:q1+2=N
 hN:N<=M9
 hw:w.heap.size<=q1
 hF:∀x,F x->x<q1
theorem StC.second{C:List (List Cn4)}{T:List Vw8}{w wr:World}{F:Nat->Prop}{N q1 N9:Nat}{a b:Value}(h:StC C T w F N q1 N9 a b C.length 0 wr)(hl:C.length<=1099511627776):StD C T w F N q1 wr.heap.size a b 0 wr:=by
 obtain⟨fp,h1,h2,h3⟩:=h.rg.done hl;refine⟨h.grown,Nat.le_refl _,h.res,h.out,⟨fp,h1,h2,λx hx=>⟨(h3 x hx).1,h1.live x hx,λe=>?_⟩⟩,h.ts.raise h.size,h.hq,Nat.le_trans h.hN h.size,h.hw,h.hF⟩
 rcases(h3 x hx).2 with h4|h4
 ·exact h.ne x h4 e
 ·rcases h.ts with⟨e1,_⟩|⟨ql,cl,c1,c2,gp,e1,_,_,_,_,_,_,_,_,Yh⟩
  ·rw[e1]at e;cases e
  ·rw[e1]at e
   injection e with e
   have e:x=ql:=e;omega
theorem StD.stepT{C:List (List Cn4)}{T:List Vw8}{w wr w':World}{F:Nat->Prop}{N q1 M9:Nat}{a b:Value}{k ql cl:Nat}{x:Vw8}{c1 d1 d2 d1':List Value}{fp gp:List Nat}(h:StD C T w F N q1 M9 a b k wr)
 (hA:nL rVw 46 wr F N M9 b T k ql cl x c1 d1 d2 fp)(hg:wr.grownBy w' (some ql))(hV:lN 46 w' ql (cl*rVw.size) (c1++(d1'++d2)))(ho:rVw.own w' gp x d1')(ZN:gp.Nodup)(SI:∀j,j∈gp->wr.heap.size<=j):StD C T w F N q1 M9 a b (k+1) w':=by
 have hw:∀j,j<wr.heap.size->j≠ql->w'.heap[j]?=wr.heap[j]?:=λj h1 h2=>hg.block j h1 (λe=>by injection e with e;exact h2 e);have h1:=hA.ql1;have h2:=hA.ql2;have h3:=h.hq;have h4:=h.hN;have h5:=h.hw
 have hb:some ql=b.ownBlock:=by rw[hA.hb];rfl
 refine⟨fN h.grown hg λe e'=>by injection e' with e';omega,by have:=h.size;have:=hg.size;omega,h.res.keep (hw _ h.res.hi (by omega)),h.out.keep (hw _ h.out.hi (by omega)),?_,hA.step (λj hj=>by have:=h.hF j hj;omega) hw h.size hV ho ZN SI,h.hq,h.hN,h.hw,h.hF⟩;obtain⟨fp,r1,r2,r3⟩:=h.rg;exact⟨fp,r1.keep λj hj=>hw j (r1.live j hj) (λe=>(r3 j hj).2.2 (by rw[e];exact hb)),r2,r3⟩
theorem Mk.subG{α:Type}{R:Rp α}{e:TypeId}{base:Nat}{w:World}{G G':Nat->Prop}{v:Value}{xs:List α}(h:Mk R e base w G v xs)(hG:∀k,G k->G' k):Mk R e base w G' v xs:=
 let ⟨cs,h1,h2,h3⟩:=h;⟨cs,h1,h2,h3.sub λk hk=>⟨hG k hk.1,hk.2⟩⟩
def I7(C:List (List Cn4))(T:List Vw8)(w:World)(e:Ending)(w':World):Prop:=
 ∃a b fp gp,e=.returned (.agg #[a,b])/\OSl rCs 43 w' fp C a/\OSl rVw 46 w' gp T b/\(fp++gp).Nodup/\(∀x,x∈fp++gp->w.heap.size+2<=x)/\w.grownBy w' none
set_option maxRecDepth 100000 in
set_option maxHeartbeats 4000000 in
theorem mn(F:Nat->Prop)(C:List (List Cn4))(T:List Vw8)(u v:Value)(w:World)(hu:RSl rCs w F C u)(hv:RSl rVw w F T v):
 Calls Tryz.prog 33 #[.agg #[u,v]] w (I7 C T w):=by
 have HU:=Lib.hid hu;have HV:=Lib.hid hv;obtain⟨A1,c1,rfl,_,_,TP⟩:=hu.size_eq;obtain⟨A2,c2,rfl,_,_,TY⟩:=hv.size_eq;clear hu hv
 go_enter Tryz.func33,Tryz.ntmps33
 go_upto_region 1 with fail
 have Zj:w.grownBy ((w.alloc (.cells #[.slice A1 C.length c1,.slice A2 T.length c2] 30)).alloc (.cells #[.slice none 0 0,.slice none 0 0] 30)) none:=bf (bf (bg w none) _) _;have ZX:Bk ((w.alloc (.cells #[.slice A1 C.length c1,.slice A2 T.length c2] 30)).alloc (.cells #[.slice none 0 0,.slice none 0 0] 30)) w.heap.size 30 [.slice A1 C.length c1,.slice A2 T.length c2]:=Bk.new.grow (bf (bg _ _) _)
 have Z':Bk ((w.alloc (.cells #[.slice A1 C.length c1,.slice A2 T.length c2] 30)).alloc (.cells #[.slice none 0 0,.slice none 0 0] 30)) (w.heap.size+1) 30 [.slice none 0 0,.slice none 0 0]:=by
  have:=Bk.new (w:=w.alloc (.cells #[.slice A1 C.length c1,.slice A2 T.length c2] 30)) (t:=30) (vs:=[.slice none 0 0,.slice none 0 0]);simpa using this
 have hN:w.heap.size+2=((w.alloc (.cells #[.slice A1 C.length c1,.slice A2 T.length c2] 30)).alloc (.cells #[.slice none 0 0,.slice none 0 0] 30)).heap.size:=by simp
 generalize(w.alloc (.cells #[.slice A1 C.length c1,.slice A2 T.length c2] 30)).alloc (.cells #[.slice none 0 0,.slice none 0 0] 30)=W at *;have HG0:=Lib.hid Zj;have U2:=Lib.hid ZX;have W1:=Lib.hid Z';have W4:=Lib.hid hN;have HU0:=Lib.hid (HU.out.live.grow Zj);have HV0:=Lib.hid (HV.out.live.grow Zj);have k0:=ZX.cell 0;have k1:=ZX.cell 1;have f0:=ZX.free 0;have f1:=ZX.free 1;simp only[List.getElem?_cons_zero,List.getElem?_cons_succ]at k0 k1;clear Zj ZX Z' HU HV
 go_cut []from 7 to 15 (λwx=>∃(A3:Option Addr)(c3:Nat)(A4:Option Addr)(c4 N9:Nat),StC C T w (λk=>F k/\k<w.heap.size) W.heap.size w.heap.size N9 (.slice A3 C.length c3) (.slice A4 T.length c4) 0 0 wx)
 case first=>
  go_region_with (first
   |(go_at_call 57;refine(Be (λk=>F k/\k<w.heap.size) C _ _ (HU0.out.grow (cD (bg _ _)))).mono ?_;rintro e w3 ⟨a,rfl,T9,UD⟩;obtain⟨A3,c3,rfl⟩:=T9.shape;have UD:=bl (cD (bg W none)) UD;have m0:=(U2.out.grow UD).cell 0;have m1:=(U2.out.grow UD).cell 1;have n0:=(U2.out.grow UD).free 0;have n1:=(U2.out.grow UD).free 1;simp only[List.getElem?_cons_zero,List.getElem?_cons_succ]at m0 m1;have Ya:=Lib.hid UD;have HMA:=Lib.hid T9;clear T9 UD)
   |(go_at_call 58;refine(Bc (λk=>F k/\k<w.heap.size) T _ _ (HV0.out.grow Ya.out)).mono ?_;rintro e w4 ⟨b,rfl,SN,T7⟩;obtain⟨A4,c4,rfl⟩:=SN.shape;have p0:=((U2.out.grow Ya.out).grow T7).cell 0;have p1:=((U2.out.grow Ya.out).grow T7).cell 1;have r0:=((U2.out.grow Ya.out).grow T7).free 0;have r1:=((U2.out.grow Ya.out).grow T7).free 1;simp only[List.getElem?_cons_zero,List.getElem?_cons_succ]at p0 p1;have N0:=Lib.hid T7;have HMB:=Lib.hid SN;clear SN T7))
  all_goals
   have HS:=Lib.hid (show StC C T w (λk=>F k/\k<w.heap.size) W.heap.size w.heap.size w4.heap.size (.slice A3 C.length c3) (.slice A4 T.length c4) 0 0 ((w4.setCell ⟨w.heap.size,0,none⟩ (.slice A3 C.length c3)).setCell ⟨w.heap.size,1,none⟩ (.slice A4 T.length c4))from by
    have h1:=W4.out;have h2:=Ya.out.size;have h3:=N0.out.size;have YS:=bl Ya.out N0.out
    have hx:∀x,x≠w.heap.size->((w4.setCell ⟨w.heap.size,0,none⟩ (.slice A3 C.length c3)).setCell ⟨w.heap.size,1,none⟩ (.slice A4 T.length c4)).heap[x]?=w4.heap[x]?:=λx hx=>by rw[b8 _ _ _ hx,b8 _ _ _ hx]
    have T9:Mk rCs 43 W.heap.size w4 (λk=>F k/\k<w.heap.size) (.slice A3 C.length c3) C:=HMA.out.grow N0.out;have SN:Mk rVw 46 w3.heap.size w4 (λk=>F k/\k<w.heap.size) (.slice A4 T.length c4) T:=HMB.out;have Rw:Mk rVw 46 W.heap.size w4 (λk=>F k/\k<w.heap.size) (.slice A4 T.length c4) T:=SN.base h2;refine⟨grown_set (grown_set (bl HG0.out YS) (.inr (Nat.le_refl _)) _) (.inr (Nat.le_refl _)) _,by rw[vu,vu];exact Nat.le_refl _,((W1.out.grow YS).other (by omega) _).other (by omega) _,CG (U2.out.grow YS) _ _,?_,?_,?_,by omega,by omega,Nat.le_refl _,λx h=>h.2⟩
    ·refine(xd.start T9 (Nat.le_refl _)).keep λx _ hc=>hx x ?_;rcases hc with hc|hc|hc
     ·have:=hc.2;omega
     ·have:=(T9.row x hc.symm).1;omega
     ·omega
    ·refine(xd.start Rw (Nat.le_refl _)).keep λx _ hc=>hx x ?_;rcases hc with hc|hc|hc
     ·have:=hc.2;omega
     ·have:=(Rw.row x hc.symm).1;omega
     ·omega
    ·intro x e1 e2;have r1:=(HMA.out.row x e1.symm).2;have r2:=(SN.row x e2.symm).1
     omega)
   go_wp2_with fail
   go_meet
   exact⟨A3,c3,A4,c4,w4.heap.size,HS.out⟩
 case rest=>
  obtain⟨A3,c3,A4,c4,N9,hS⟩:=hcut;have HS:=Lib.hid hS;clear hS HU0 HV0 U2 W1 HG0 W4 k0 k1 f0 f1;generalize W.heap.size=N at *;have k0:=HS.out.out.cell 0;simp only[List.getElem?_cons_zero,List.getElem?_cons_succ]at k0
  go_wp2_with fail
  generalize hae:Value.slice A3 C.length c3=a at *;generalize hbe:Value.slice A4 T.length c4=b at *;have Hae:=Lib.hid hae;have QI:=Lib.hid hbe;clear hae hbe k0
  go_loopw [18] (λi wr=>∃k:Nat,k<=C.length/\i=.int .i64 k/\StC C T w (λk=>F k/\k<w.heap.size) N w.heap.size N9 a b k 0 wr) (λi _=>C.length-(intOf i).toNat)
  case atStart=>exact⟨0,Nat.zero_le _,rfl,HS.out⟩
  case round=>
   obtain⟨k,hk,rfl,hst⟩:=hrel;have HN:=Lib.hid hst;clear hst HS;by_cases hlt:k<C.length
   ·obtain⟨ql,cl,d0,d1,d2,fp,hA⟩:=HN.out.rg.at_ hlt;generalize C[k]=x at hA;obtain⟨v,rfl,hv⟩:=hA.rep;obtain⟨LA,lc,rfl,_,_,TW⟩:=hv.size_eq;have Wr:=hA.hb;subst Wr;have HA:=Lib.hid hA;have HV:=Lib.hid hv
    have g0:wr.cell? ⟨ql,k,none⟩=some (.slice LA x.length lc):=by
     have:=hA.cell (j:=0) rfl;rw[show k*rCs.size+0=k from Nat.mul_one k]at this;exact this
    have gf:=hA.buf.free k;have k0:=HN.out.out.cell 0;have kq:=hA.ql1;have kn:=HN.out.hq
    have hqd:¬ql=w.heap.size:=by omega
    have Py:¬w.heap.size=ql:=by omega
    simp only[List.getElem?_cons_zero,List.getElem?_cons_succ]at k0
    have x2:(0:Int)<=(k:Int):=by omega
    have x3:(k:Int)<(C.length:Int):=by omega
    have x5:(k:Int).toNat=k:=by omega
    have hcap:=hA.l1;clear hA hv kq kn
    go_upto_region 5 with fail
    go_region_with (go_at_call 59;refine(sZ (λk=>F k/\k<w.heap.size) x _ _ (HV.out.grow (cD (bg _ _)))).mono ?_;rintro e w6 ⟨y,rfl,Tz,U9⟩;obtain⟨A6,c6,rfl⟩:=Tz.shape;have U9:=bl (cD (bg wr none)) U9;have m0:=(HN.out.out.grow U9).cell 0;simp only[List.getElem?_cons_zero,List.getElem?_cons_succ]at m0;have mf:=(HA.out.buf.grow U9).free k;(have mc:w6.cell? ⟨ql,k,none⟩=some (.slice LA x.length lc):=(by(have:=(HA.out.grow U9).cell (j:=0) rfl;rw[show k*rCs.size+0=k from Nat.mul_one k]at this;exact this)));have SY:=Lib.hid U9;have N7:=Lib.hid (Tz.own AE);clear Tz U9)
    all_goals
     obtain⟨gp,TD,X6,X7⟩:=N7.out.done;replace X7:∀b,b∈gp->wr.heap.size<=b:=X7;have NI:=(HA.out.grow SY.out).buf.setmid (j:=0) (by simp) (.slice A6 x.length c6);have hA6:=HA.out.len;have Z6:rCs.size=1:=rfl;rw[hA6,Z6,Nat.mul_one,Nat.add_zero]at NI;have hql1:=HA.out.ql1;have ZE:=SY.out.size;have S0:=Lib.hid (HN.out.stepR (d1':=[.slice A6 x.length c6]) HA.out (grown_set (p:=⟨ql,k,none⟩) (ml (row:=some ql) SY.out) (.inl rfl) (.slice A6 x.length c6)) (by rw[Z6];exact NI) ⟨_,rfl,TD.keep λb hb=>b8 _ _ _ (by have:=X7 b hb;have:=HA.out.buf.hi;omega)⟩ X6 X7)
     go_wp2_with fail
     go_roundw
     case rel=>exact⟨k+1,by omega,by go_num,S0.out⟩
     case measure=>simp[intOf];omega
   ·have Pj:k=C.length:=by omega
    subst Pj;have k1:=HN.out.out.cell 1;simp only[List.getElem?_cons_zero,List.getElem?_cons_succ]at k1;clear hlt;rw[<- QI.out]at k1
    go_upto_region 8 with fail
    rw[QI.out]at k1;rw[QI.out];clear k1;have HN:=Lib.hid (HN.out.second TP);generalize wr.heap.size=M9 at HN
    go_loopw [33] (λi wr=>∃k:Nat,k<=T.length/\i=.int .i64 k/\StD C T w (λk=>F k/\k<w.heap.size) N w.heap.size M9 a b k wr) (λi _=>T.length-(intOf i).toNat)
    case atStart=>exact⟨0,Nat.zero_le _,rfl,HN.out⟩
    case round=>
     obtain⟨k,hk,rfl,hst⟩:=hrel;have HN:=Lib.hid hst;clear hst;by_cases hlt:k<T.length
     ·obtain⟨ql,cl,d0,d1,d2,fp,hA⟩:=HN.out.ts.at_ hlt;generalize T[k]=x at hA;obtain⟨v,rfl,hv⟩:=Jh hA.rep;obtain⟨LA,lc,rfl,_,_,TW⟩:=hv.size_eq;have Wr:=hA.hb;subst Wr;have HA:=Lib.hid hA;have HV:=Lib.hid hv;obtain⟨v0,v1,v2,v3,v4,v5,v6,L⟩:=x;have e8:∀j,k*rVw.size+j=k*8+j:=λj=>rfl;have g0:=hA.cell (j:=0) rfl;have g1:=hA.cell (j:=1) rfl;have g2:=hA.cell (j:=2) rfl;have g3:=hA.cell (j:=3) rfl;have g4:=hA.cell (j:=4) rfl;have g5:=hA.cell (j:=5) rfl;have g6:=hA.cell (j:=6) rfl;have g7:=hA.cell (j:=7) rfl;simp only[e8,Nat.add_zero]at g0 g1 g2 g3 g4 g5 g6 g7;have kq:=hA.ql1;have kn:=HN.out.hq
      have hqd:¬ql=w.heap.size:=by omega
      have Py:¬w.heap.size=ql:=by omega
      have x2:(0:Int)<=(k:Int):=by omega
      have x3:(k:Int)<(T.length:Int):=by omega
      have x5:(k:Int).toNat=k:=by omega
      have hcap:=hA.l1;dsimp only at HV TW⊢;have Yt:wr.grownBy (wr.alloc (.cells #[.int .i64 v0,.int .i64 v1,.int .i64 v2,.int .i64 v3,.int .i64 v4,.int .i64 v5,.int .u16 v6,.slice LA L.length lc] 46)) none:=bf (bg _ _) _;have U6:Bk (wr.alloc (.cells #[.int .i64 v0,.int .i64 v1,.int .i64 v2,.int .i64 v3,.int .i64 v4,.int .i64 v5,.int .u16 v6,.slice LA L.length lc] 46)) wr.heap.size 46 [.int .i64 v0,.int .i64 v1,.int .i64 v2,.int .i64 v3,.int .i64 v4,.int .i64 v5,.int .u16 v6,.slice LA L.length lc]:=Bk.new;clear hA hv kq kn
      go_upto_region 10 with fail
      generalize wr.alloc (.cells #[.int .i64 v0,.int .i64 v1,.int .i64 v2,.int .i64 v3,.int .i64 v4,.int .i64 v5,.int .u16 v6,.slice LA L.length lc] 46)=W6 at *;have Ya:=Lib.hid Yt;have HB6:=Lib.hid U6;have k1:=(HN.out.out.grow Yt).cell 1;have y0:=U6.cell 0;have y1:=U6.cell 1;have y2:=U6.cell 2;have y3:=U6.cell 3;have y4:=U6.cell 4;have y5:=U6.cell 5;have y6:=U6.cell 6;have y7:=U6.cell 7;simp only[List.getElem?_cons_zero,List.getElem?_cons_succ]at k1 y0 y1 y2 y3 y4 y5 y6 y7;clear Yt U6 g0 g1 g2 g3 g4 g5 g6 g7
      go_region_with (go_at_call 60;refine(pe (λk=>F k/\k<w.heap.size) v0 v1 v2 v3 v4 v5 v6 L _ _ ((HV.out.grow Ya.out).grow (cD (bg _ _)))).mono ?_;rintro e w7 ⟨y,rfl,Tz,U9⟩;obtain⟨A7,c7,rfl⟩:=Tz.shape;have XC:=bl Ya.out (bl (cD (bg W6 none)) U9);have m1:=(HN.out.out.grow XC).cell 1;simp only[List.getElem?_cons_zero,List.getElem?_cons_succ]at m1;have o0:=(HA.out.grow XC).cell (j:=0) rfl;have o1:=(HA.out.grow XC).cell (j:=1) rfl;have o2:=(HA.out.grow XC).cell (j:=2) rfl;have o3:=(HA.out.grow XC).cell (j:=3) rfl;have o4:=(HA.out.grow XC).cell (j:=4) rfl;have o5:=(HA.out.grow XC).cell (j:=5) rfl;have o6:=(HA.out.grow XC).cell (j:=6) rfl;have o7:=(HA.out.grow XC).cell (j:=7) rfl;have z0:=(HA.out.buf.grow XC).free (k*8+0);have z1:=(HA.out.buf.grow XC).free (k*8+1);have z2:=(HA.out.buf.grow XC).free (k*8+2);have z3:=(HA.out.buf.grow XC).free (k*8+3);have z4:=(HA.out.buf.grow XC).free (k*8+4);have z5:=(HA.out.buf.grow XC).free (k*8+5);have z6:=(HA.out.buf.grow XC).free (k*8+6);have z7:=(HA.out.buf.grow XC).free (k*8+7);simp only[e8,Nat.add_zero]at o0 o1 o2 o3 o4 o5 o6 o7 z0 z1 z2 z3 z4 z5 z6 z7;have SY:=Lib.hid XC;have N7:=Lib.hid Tz;clear Tz U9 XC)
      all_goals
       obtain⟨gp,TD,X6,X7⟩:=N7.out.done
       replace X7:∀b,b∈gp->wr.heap.size+1<=b:=λb hb=>by
        have h1:W6.heap.size+2<=b:=X7 b hb;have h2:=Ya.out.size;omega
       have Wa:=(HA.out.buf.grow SY.out);have hl:=HA.out.len;have hr8:rVw.size=8:=rfl;rw[hr8]at hl;have RW:=Wa.setmid (j:=0) (by simp[vwC]) (.int .i64 v0);have Zd:=RW.setmid (j:=1) (by simp[vwC]) (.int .i64 v1);have YZ:=Zd.setmid (j:=2) (by simp[vwC]) (.int .i64 v2);have TI:=YZ.setmid (j:=3) (by simp[vwC]) (.int .i64 v3);have RX:=TI.setmid (j:=4) (by simp[vwC]) (.int .i64 v4);have RY:=RX.setmid (j:=5) (by simp[vwC]) (.int .i64 v5);have R0:=RY.setmid (j:=6) (by simp[vwC]) (.int .u16 v6);have TJ:=R0.setmid (j:=7) (by simp[vwC]) (.slice A7 L.length c7);simp only[hl,Nat.add_zero,vwC,List.cons_append,List.nil_append,List.set_cons_zero,List.set_cons_succ]at TJ;have hgw:=SY.out.size
       have hset:∀x,x≠ql->((((((((w7.setCell ⟨ql,k*8,none⟩ (.int .i64 v0)).setCell ⟨ql,k*8+1,none⟩ (.int .i64 v1)).setCell ⟨ql,k*8+2,none⟩ (.int .i64 v2)).setCell ⟨ql,k*8+3,none⟩ (.int .i64 v3)).setCell ⟨ql,k*8+4,none⟩ (.int .i64 v4)).setCell ⟨ql,k*8+5,none⟩ (.int .i64 v5)).setCell ⟨ql,k*8+6,none⟩ (.int .u16 v6)).setCell ⟨ql,k*8+7,none⟩ (.slice A7 L.length c7)).heap[x]?=w7.heap[x]?:=λx hx=>by simp only[b8 _ _ _ hx]
       have YT:wr.grownBy ((((((((w7.setCell ⟨ql,k*8,none⟩ (.int .i64 v0)).setCell ⟨ql,k*8+1,none⟩ (.int .i64 v1)).setCell ⟨ql,k*8+2,none⟩ (.int .i64 v2)).setCell ⟨ql,k*8+3,none⟩ (.int .i64 v3)).setCell ⟨ql,k*8+4,none⟩ (.int .i64 v4)).setCell ⟨ql,k*8+5,none⟩ (.int .i64 v5)).setCell ⟨ql,k*8+6,none⟩ (.int .u16 v6)).setCell ⟨ql,k*8+7,none⟩ (.slice A7 L.length c7)) (some ql):=
        grown_set (p:=⟨ql,k*8+7,none⟩) (grown_set (p:=⟨ql,k*8+6,none⟩) (grown_set (p:=⟨ql,k*8+5,none⟩) (grown_set (p:=⟨ql,k*8+4,none⟩) (grown_set (p:=⟨ql,k*8+3,none⟩) (grown_set (p:=⟨ql,k*8+2,none⟩) (grown_set (p:=⟨ql,k*8+1,none⟩) (grown_set (p:=⟨ql,k*8,none⟩) (ml (row:=some ql) SY.out) (.inl rfl) _) (.inl rfl) _) (.inl rfl) _) (.inl rfl) _) (.inl rfl) _) (.inl rfl) _) (.inl rfl) _) (.inl rfl) _
       have RS:=HA.out.buf.hi;have S0:=Lib.hid (HN.out.stepT (d1':=vwC (v0,v1,v2,v3,v4,v5,v6,L) (.slice A7 L.length c7)) HA.out YT (by simpa[vwC]using TJ) (Jg (TD.keep λb hb=>hset b (by have:=X7 b hb;omega))) X6 (λb hb=>by have:=X7 b hb;omega));clear RW Zd YZ TI RX RY R0 TJ hset YT TD X6 X7 Wa
       go_wp2_with fail
       go_roundw
       case rel=>exact⟨k+1,by omega,by go_num,S0.out⟩
       case measure=>simp[intOf];omega
     ·have Pj:k=T.length:=by omega
      subst Pj;have j0:=HN.out.out.cell 0;have j1:=HN.out.out.cell 1;have r2:=HN.out.res.hi;have r0:=HN.out.res.cell 0;have r1:=HN.out.res.cell 1;have f0:=HN.out.res.free 0;have f1:=HN.out.res.free 1;simp only[List.getElem?_cons_zero,List.getElem?_cons_succ]at j0 j1 r0 r1;have ea:=Hae.out;have eb:=QI.out;subst ea;subst eb;clear Hae QI
      go_wp2_with fail
      refine bodyPost_ret (v:=.agg #[.slice A3 C.length c3,.slice A4 T.length c4]) (by simp[results,Tryz.results33,go_sem,r0,r1,r2]) rfl ?_;obtain⟨fp,o1,o2,o3⟩:=HN.out.rg;obtain⟨gp,p1,p2,p3⟩:=HN.out.ts.done TY;have hqN:=HN.out.hq;have hNM:=HN.out.hN;refine⟨_,_,fp,gp,rfl,o1.keep λb hb=>?_,p1.keep λb hb=>?_,List.nodup_append.2 ⟨o2,p2,λx hx y hy e=>?_⟩,λx hx=>?_,grown_set (grown_set HN.out.grown (.inr (Nat.le_succ _)) _) (.inr (Nat.le_succ _)) _⟩
      ·have h1:=(o3 b hb).1
       have h2:b≠w.heap.size+1:=by omega
       rw[b8 _ _ _ h2,b8 _ _ _ h2]
      ·have h1:=(p3 b hb).1
       have h2:b≠w.heap.size+1:=by omega
       rw[b8 _ _ _ h2,b8 _ _ _ h2]
      ·subst e
       rcases(p3 x hy).2 with h|h
       ·exact(o3 x hx).2.2 h
       ·have:=(o3 x hx).2.1;omega
      ·rcases List.mem_append.1 hx with h|h
       ·have:=(o3 x h).1;omega
       ·have:=(p3 x h).1;omega
set_option maxRecDepth 100000 in
set_option maxHeartbeats 4000000 in
theorem H5(F:Nat->Prop)(C:List (List Cn4))(T:List Vw8)(r i:Int)(cells:List Cn4)(v0 v1 v2 v3 v4 v5 v6:Int)(L:List Cn4)(U V Y Z:Value)(w:World)(fe:Int)
 (hu:RSl rCs w F C U)(hv:RSl rVw w F T V)(hy:RSl rCn w F cells Y)(hz:RSl rCn w F L Z)
 (ZR:∀w',w.grownBy w' none->Calls Tryz.prog 55 #[.agg #[U,V],.agg #[.int .i64 r,.int .i64 i]] w' λe w2=>e=.returned (.int .i64 fe)/\w'.grownBy w2 none)(hne:(fe != 0)=true):
 Calls Tryz.prog 34 #[.agg #[U,V],.agg #[.int .i64 r,.int .i64 i,Y,.int .i64 v0,.int .i64 v1,.int .i64 v2,.int .i64 v3,.int .i64 v4,.int .i64 v5,.int .u16 v6,Z]] w (λe w'=>e=.returned (.tuple #[.agg #[.slice none 0 0,.slice none 0 0],.int .i64 fe])/\w.grownBy w' none):=by
 have HU:=Lib.hid hu;have HV:=Lib.hid hv;have HY:=Lib.hid hy;have HZ:=Lib.hid hz;obtain⟨A1,c1,rfl,_,_,TP⟩:=hu.size_eq;obtain⟨A2,c2,rfl,_,_,TY⟩:=hv.size_eq;obtain⟨A3,c3,rfl,_,_,hcl⟩:=hy.size_eq;obtain⟨A4,c4,rfl,_,_,TW⟩:=hz.size_eq;have HF:=Lib.hid ZR;clear hu hv hy hz ZR
 go_enter Tryz.func34,Tryz.ntmps34
 go_upto_region 1 with fail
 have Zj:w.grownBy (((w.alloc (.cells #[.slice A1 C.length c1,.slice A2 T.length c2] 30)).alloc (.cells #[.int .i64 r,.int .i64 i,.slice A3 cells.length c3,.int .i64 v0,.int .i64 v1,.int .i64 v2,.int .i64 v3,.int .i64 v4,.int .i64 v5,.int .u16 v6,.slice A4 L.length c4] 48)).alloc (.cells #[.slice none 0 0,.slice none 0 0] 30)) none:=bf (bf (bf (bg w none) _) _) _;have Z':Bk (((w.alloc (.cells #[.slice A1 C.length c1,.slice A2 T.length c2] 30)).alloc (.cells #[.int .i64 r,.int .i64 i,.slice A3 cells.length c3,.int .i64 v0,.int .i64 v1,.int .i64 v2,.int .i64 v3,.int .i64 v4,.int .i64 v5,.int .u16 v6,.slice A4 L.length c4] 48)).alloc (.cells #[.slice none 0 0,.slice none 0 0] 30)) w.heap.size 30 [.slice A1 C.length c1,.slice A2 T.length c2]:=(Bk.new.grow (bf (bg _ _) _)).grow (bf (bg _ _) _)
 have Z9:Bk (((w.alloc (.cells #[.slice A1 C.length c1,.slice A2 T.length c2] 30)).alloc (.cells #[.int .i64 r,.int .i64 i,.slice A3 cells.length c3,.int .i64 v0,.int .i64 v1,.int .i64 v2,.int .i64 v3,.int .i64 v4,.int .i64 v5,.int .u16 v6,.slice A4 L.length c4] 48)).alloc (.cells #[.slice none 0 0,.slice none 0 0] 30)) (w.heap.size+1) 48 [.int .i64 r,.int .i64 i,.slice A3 cells.length c3,.int .i64 v0,.int .i64 v1,.int .i64 v2,.int .i64 v3,.int .i64 v4,.int .i64 v5,.int .u16 v6,.slice A4 L.length c4]:=by
  have h:=(Bk.new (w:=w.alloc (.cells #[.slice A1 C.length c1,.slice A2 T.length c2] 30)) (t:=48) (vs:=[.int .i64 r,.int .i64 i,.slice A3 cells.length c3,.int .i64 v0,.int .i64 v1,.int .i64 v2,.int .i64 v3,.int .i64 v4,.int .i64 v5,.int .u16 v6,.slice A4 L.length c4])).grow (bf (bg _ _) (.cells #[.slice none 0 0,.slice none 0 0] 30));simpa using h
 have ZO:Bk (((w.alloc (.cells #[.slice A1 C.length c1,.slice A2 T.length c2] 30)).alloc (.cells #[.int .i64 r,.int .i64 i,.slice A3 cells.length c3,.int .i64 v0,.int .i64 v1,.int .i64 v2,.int .i64 v3,.int .i64 v4,.int .i64 v5,.int .u16 v6,.slice A4 L.length c4] 48)).alloc (.cells #[.slice none 0 0,.slice none 0 0] 30)) (w.heap.size+2) 30 [.slice none 0 0,.slice none 0 0]:=by
  have h:=Bk.new (w:=(w.alloc (.cells #[.slice A1 C.length c1,.slice A2 T.length c2] 30)).alloc (.cells #[.int .i64 r,.int .i64 i,.slice A3 cells.length c3,.int .i64 v0,.int .i64 v1,.int .i64 v2,.int .i64 v3,.int .i64 v4,.int .i64 v5,.int .u16 v6,.slice A4 L.length c4] 48)) (t:=30) (vs:=[.slice none 0 0,.slice none 0 0]);simpa using h
 have hsz:(((w.alloc (.cells #[.slice A1 C.length c1,.slice A2 T.length c2] 30)).alloc (.cells #[.int .i64 r,.int .i64 i,.slice A3 cells.length c3,.int .i64 v0,.int .i64 v1,.int .i64 v2,.int .i64 v3,.int .i64 v4,.int .i64 v5,.int .u16 v6,.slice A4 L.length c4] 48)).alloc (.cells #[.slice none 0 0,.slice none 0 0] 30)).heap.size=w.heap.size+3:=by simp
 generalize((w.alloc (.cells #[.slice A1 C.length c1,.slice A2 T.length c2] 30)).alloc (.cells #[.int .i64 r,.int .i64 i,.slice A3 cells.length c3,.int .i64 v0,.int .i64 v1,.int .i64 v2,.int .i64 v3,.int .i64 v4,.int .i64 v5,.int .u16 v6,.slice A4 L.length c4] 48)).alloc (.cells #[.slice none 0 0,.slice none 0 0] 30)=W at *;have a20:=Z'.cell 0;have a21:=Z'.cell 1;have Xc:=Z9.cell 0;have Xd:=Z9.cell 1;simp only[List.getElem?_cons_zero,List.getElem?_cons_succ]at a20 a21 Xc Xd
 go_wp2_with fail
 refine(HF.out W Zj).mono ?_;rintro e w1 ⟨rfl,Z0⟩;have Xt:=Lib.hid (bl Zj Z0);have Zd:=Z0.size;have Z':=Z'.grow Z0;have Z9:=Z9.grow Z0;have ZO:=ZO.grow Z0;have WY:=Z'.cell 0;have X0:=Z'.cell 1;have Yb:=Z9.cell 0;have Xr:=Z9.cell 1;have Yj:=Z9.cell 2;have WD:=Z9.cell 3;have WE:=Z9.cell 4;have WG:=Z9.cell 5;have WH:=Z9.cell 6;have WI:=Z9.cell 7;have WJ:=Z9.cell 8;have WK:=Z9.cell 9;have YF:=Z9.cell 10;have Y5:=ZO.cell 0;have Y6:=ZO.cell 1;have WM:=ZO.free 0;have f41:=ZO.free 1;have q4:=ZO.hi;simp only[List.getElem?_cons_zero,List.getElem?_cons_succ]at WY X0 Yb Xr Yj WD WE WG WH WI WJ WK YF Y5 Y6;have W1:=Lib.hid Z';have Zb:=Lib.hid Z9;have V9:=Lib.hid ZO;have HS:=Lib.hid hsz;clear Z' Z9 ZO Zj Z0 HF a20 a21 Xc Xd
 go_wp2_with fail
 refine bodyPost_ret (v:=.tuple #[.agg #[.slice none 0 0,.slice none 0 0],.int .i64 fe]) (by simp[results,Tryz.results34,go_sem,Y5,Y6,q4]) rfl ?_;exact⟨rfl,grown_set (grown_set Xt.out (.inr (by dsimp only;omega)) _) (.inr (by dsimp only;omega)) _⟩
set_option maxRecDepth 100000 in
set_option maxHeartbeats 4000000 in
theorem E3(F:Nat->Prop)(C:List (List Cn4))(T:List Vw8)(r i:Int)(cells:List Cn4)(v0 v1 v2 v3 v4 v5 v6:Int)(L:List Cn4)(U V Y Z:Value)(w:World)(fe:Int)
 (hu:RSl rCs w F C U)(hv:RSl rVw w F T V)(hy:RSl rCn w F cells Y)(hz:RSl rCn w F L Z)
 (ZR:∀w',w.grownBy w' none->Calls Tryz.prog 55 #[.agg #[U,V],.agg #[.int .i64 r,.int .i64 i]] w' λe w2=>e=.returned (.int .i64 fe)/\w'.grownBy w2 none)(h0:fe=0)(hr:r=-1)(hc:0<cells.length):
 Calls Tryz.prog 34 #[.agg #[U,V],.agg #[.int .i64 r,.int .i64 i,Y,.int .i64 v0,.int .i64 v1,.int .i64 v2,.int .i64 v3,.int .i64 v4,.int .i64 v5,.int .u16 v6,Z]] w (λe w'=>e=.returned (.tuple #[.agg #[.slice none 0 0,.slice none 0 0],.int .i64 5])/\w.grownBy w' none):=by
 subst h0;subst hr;have HU:=Lib.hid hu;have HV:=Lib.hid hv;have HY:=Lib.hid hy;have HZ:=Lib.hid hz;obtain⟨A1,c1,rfl,_,_,TP⟩:=hu.size_eq;obtain⟨A2,c2,rfl,_,_,TY⟩:=hv.size_eq;obtain⟨A3,c3,rfl,_,_,hcl⟩:=hy.size_eq;obtain⟨A4,c4,rfl,_,_,TW⟩:=hz.size_eq;have HF:=Lib.hid ZR;clear hu hv hy hz ZR
 go_enter Tryz.func34,Tryz.ntmps34
 go_upto_region 1 with fail
 have Zj:w.grownBy (((w.alloc (.cells #[.slice A1 C.length c1,.slice A2 T.length c2] 30)).alloc (.cells #[.int .i64 (-1),.int .i64 i,.slice A3 cells.length c3,.int .i64 v0,.int .i64 v1,.int .i64 v2,.int .i64 v3,.int .i64 v4,.int .i64 v5,.int .u16 v6,.slice A4 L.length c4] 48)).alloc (.cells #[.slice none 0 0,.slice none 0 0] 30)) none:=bf (bf (bf (bg w none) _) _) _;have Z':Bk (((w.alloc (.cells #[.slice A1 C.length c1,.slice A2 T.length c2] 30)).alloc (.cells #[.int .i64 (-1),.int .i64 i,.slice A3 cells.length c3,.int .i64 v0,.int .i64 v1,.int .i64 v2,.int .i64 v3,.int .i64 v4,.int .i64 v5,.int .u16 v6,.slice A4 L.length c4] 48)).alloc (.cells #[.slice none 0 0,.slice none 0 0] 30)) w.heap.size 30 [.slice A1 C.length c1,.slice A2 T.length c2]:=(Bk.new.grow (bf (bg _ _) _)).grow (bf (bg _ _) _)
 have Z9:Bk (((w.alloc (.cells #[.slice A1 C.length c1,.slice A2 T.length c2] 30)).alloc (.cells #[.int .i64 (-1),.int .i64 i,.slice A3 cells.length c3,.int .i64 v0,.int .i64 v1,.int .i64 v2,.int .i64 v3,.int .i64 v4,.int .i64 v5,.int .u16 v6,.slice A4 L.length c4] 48)).alloc (.cells #[.slice none 0 0,.slice none 0 0] 30)) (w.heap.size+1) 48 [.int .i64 (-1),.int .i64 i,.slice A3 cells.length c3,.int .i64 v0,.int .i64 v1,.int .i64 v2,.int .i64 v3,.int .i64 v4,.int .i64 v5,.int .u16 v6,.slice A4 L.length c4]:=by
  have h:=(Bk.new (w:=w.alloc (.cells #[.slice A1 C.length c1,.slice A2 T.length c2] 30)) (t:=48) (vs:=[.int .i64 (-1),.int .i64 i,.slice A3 cells.length c3,.int .i64 v0,.int .i64 v1,.int .i64 v2,.int .i64 v3,.int .i64 v4,.int .i64 v5,.int .u16 v6,.slice A4 L.length c4])).grow (bf (bg _ _) (.cells #[.slice none 0 0,.slice none 0 0] 30));simpa using h
 have ZO:Bk (((w.alloc (.cells #[.slice A1 C.length c1,.slice A2 T.length c2] 30)).alloc (.cells #[.int .i64 (-1),.int .i64 i,.slice A3 cells.length c3,.int .i64 v0,.int .i64 v1,.int .i64 v2,.int .i64 v3,.int .i64 v4,.int .i64 v5,.int .u16 v6,.slice A4 L.length c4] 48)).alloc (.cells #[.slice none 0 0,.slice none 0 0] 30)) (w.heap.size+2) 30 [.slice none 0 0,.slice none 0 0]:=by
  have h:=Bk.new (w:=(w.alloc (.cells #[.slice A1 C.length c1,.slice A2 T.length c2] 30)).alloc (.cells #[.int .i64 (-1),.int .i64 i,.slice A3 cells.length c3,.int .i64 v0,.int .i64 v1,.int .i64 v2,.int .i64 v3,.int .i64 v4,.int .i64 v5,.int .u16 v6,.slice A4 L.length c4] 48)) (t:=30) (vs:=[.slice none 0 0,.slice none 0 0]);simpa using h
 have hsz:(((w.alloc (.cells #[.slice A1 C.length c1,.slice A2 T.length c2] 30)).alloc (.cells #[.int .i64 (-1),.int .i64 i,.slice A3 cells.length c3,.int .i64 v0,.int .i64 v1,.int .i64 v2,.int .i64 v3,.int .i64 v4,.int .i64 v5,.int .u16 v6,.slice A4 L.length c4] 48)).alloc (.cells #[.slice none 0 0,.slice none 0 0] 30)).heap.size=w.heap.size+3:=by simp
 generalize((w.alloc (.cells #[.slice A1 C.length c1,.slice A2 T.length c2] 30)).alloc (.cells #[.int .i64 (-1),.int .i64 i,.slice A3 cells.length c3,.int .i64 v0,.int .i64 v1,.int .i64 v2,.int .i64 v3,.int .i64 v4,.int .i64 v5,.int .u16 v6,.slice A4 L.length c4] 48)).alloc (.cells #[.slice none 0 0,.slice none 0 0] 30)=W at *;have a20:=Z'.cell 0;have a21:=Z'.cell 1;have Xc:=Z9.cell 0;have Xd:=Z9.cell 1;simp only[List.getElem?_cons_zero,List.getElem?_cons_succ]at a20 a21 Xc Xd
 go_wp2_with fail
 refine(HF.out W Zj).mono ?_;rintro e w1 ⟨rfl,Z0⟩;have Xt:=Lib.hid (bl Zj Z0);have Zd:=Z0.size;have Z':=Z'.grow Z0;have Z9:=Z9.grow Z0;have ZO:=ZO.grow Z0;have WY:=Z'.cell 0;have X0:=Z'.cell 1;have Yb:=Z9.cell 0;have Xr:=Z9.cell 1;have Yj:=Z9.cell 2;have WD:=Z9.cell 3;have WE:=Z9.cell 4;have WG:=Z9.cell 5;have WH:=Z9.cell 6;have WI:=Z9.cell 7;have WJ:=Z9.cell 8;have WK:=Z9.cell 9;have YF:=Z9.cell 10;have Y5:=ZO.cell 0;have Y6:=ZO.cell 1;have WM:=ZO.free 0;have f41:=ZO.free 1;have q4:=ZO.hi;simp only[List.getElem?_cons_zero,List.getElem?_cons_succ]at WY X0 Yb Xr Yj WD WE WG WH WI WJ WK YF Y5 Y6;have W1:=Lib.hid Z';have Zb:=Lib.hid Z9;have V9:=Lib.hid ZO;have HS:=Lib.hid hsz;clear Z' Z9 ZO Zj Z0 HF a20 a21 Xc Xd
 have Xu:(0:Int)<(cells.length:Int):=by omega
 go_wp2_with fail
 refine bodyPost_ret (v:=.tuple #[.agg #[.slice none 0 0,.slice none 0 0],.int .i64 5]) (by simp[results,Tryz.results34,go_sem,Y5,Y6,q4]) rfl ?_;exact⟨rfl,grown_set (grown_set Xt.out (.inr (by dsimp only;omega)) _) (.inr (by dsimp only;omega)) _⟩
structure Ls (C:List (List Cn4))(T:List Vw8)(w:World)(q7:Nat)(a b:Value)(wx:World):Prop where
 grown:w.grownBy wx none
 res:Bk wx (w.heap.size+1+1) 30 [.slice none 0 0,.slice none 0 0]
 st:Bk wx q7 30 [a,b]
 ra:RSl rCs wx (λk=>w.heap.size+3<=k) C a
 rb:RSl rVw wx (λk=>w.heap.size+3<=k) T b
def Cx(C:List (List Cn4))(T:List Vw8)(w:World)(e:Ending)(w':World):Prop:=
 ∃a b,e=.returned (.tuple #[.agg #[a,b],.int .i64 0])/\RSl rCs w' (λk=>w.heap.size<=k) C a/\RSl rVw w' (λk=>w.heap.size<=k) T b/\w.grownBy w' none
theorem Ls.ret{C:List (List Cn4)}{T:List Vw8}{w wx:World}{q7:Nat}{a b x y:Value}(h:Ls C T w q7 a b wx):Cx C T w (.returned (.tuple #[.agg #[a,b],.int .i64 0])) ((wx.setCell ⟨w.heap.size+1+1,0,none⟩ x).setCell ⟨w.heap.size+1+1,1,none⟩ y):=by
 have hk:∀k,w.heap.size+3<=k->((wx.setCell ⟨w.heap.size+1+1,0,none⟩ x).setCell ⟨w.heap.size+1+1,1,none⟩ y).heap[k]?=wx.heap[k]?:=λk hk=>by
  have h2:k≠w.heap.size+1+1:=by omega
  rw[b8 _ _ _ h2,b8 _ _ _ h2]
 refine⟨a,b,rfl,(h.ra.keep hk).sub λk hk=>by omega,(h.rb.keep hk).sub λk hk=>by omega,grown_set (grown_set h.grown (.inr (by dsimp only;omega)) _) (.inr (by dsimp only;omega)) _⟩
set_option maxRecDepth 100000 in
set_option maxHeartbeats 4000000 in
theorem CY(F:Nat->Prop)(C:List (List Cn4))(T:List Vw8)(j:Nat)(cells:List Cn4)(v0 v1 v2 v3 v4 v5 v6:Int)(L:List Cn4)(U V Y Z:Value)(w:World)(fe:Int)
 (hu:RSl rCs w F C U)(hv:RSl rVw w F T V)(hy:RSl rCn w F cells Y)(hz:RSl rCn w F L Z)
 (ZR:∀w',w.grownBy w' none->Calls Tryz.prog 55 #[.agg #[U,V],.agg #[.int .i64 (-1),.int .i64 j]] w' λe w2=>e=.returned (.int .i64 fe)/\w'.grownBy w2 none)(h0:fe=0)(hc:cells.length=0)(hj:j<T.length):
 Calls Tryz.prog 34 #[.agg #[U,V],.agg #[.int .i64 (-1),.int .i64 j,Y,.int .i64 v0,.int .i64 v1,.int .i64 v2,.int .i64 v3,.int .i64 v4,.int .i64 v5,.int .u16 v6,Z]] w (Cx C (T.set j (v0,v1,v2,v3,v4,v5,v6,L)) w):=by
 subst h0;have Hc:=Lib.hid hc;clear hc;have HU:=Lib.hid hu;have HV:=Lib.hid hv;have HY:=Lib.hid hy;have HZ:=Lib.hid hz;obtain⟨A1,c1,rfl,_,_,TP⟩:=hu.size_eq;obtain⟨A2,c2,rfl,_,_,TY⟩:=hv.size_eq;obtain⟨A3,c3,rfl,_,_,hcl⟩:=hy.size_eq;obtain⟨A4,c4,rfl,_,_,TW⟩:=hz.size_eq;have HF:=Lib.hid ZR;clear hu hv hy hz ZR
 go_enter Tryz.func34,Tryz.ntmps34
 go_upto_region 1 with fail
 have Zj:w.grownBy (((w.alloc (.cells #[.slice A1 C.length c1,.slice A2 T.length c2] 30)).alloc (.cells #[.int .i64 (-1),.int .i64 j,.slice A3 cells.length c3,.int .i64 v0,.int .i64 v1,.int .i64 v2,.int .i64 v3,.int .i64 v4,.int .i64 v5,.int .u16 v6,.slice A4 L.length c4] 48)).alloc (.cells #[.slice none 0 0,.slice none 0 0] 30)) none:=bf (bf (bf (bg w none) _) _) _;have Z':Bk (((w.alloc (.cells #[.slice A1 C.length c1,.slice A2 T.length c2] 30)).alloc (.cells #[.int .i64 (-1),.int .i64 j,.slice A3 cells.length c3,.int .i64 v0,.int .i64 v1,.int .i64 v2,.int .i64 v3,.int .i64 v4,.int .i64 v5,.int .u16 v6,.slice A4 L.length c4] 48)).alloc (.cells #[.slice none 0 0,.slice none 0 0] 30)) w.heap.size 30 [.slice A1 C.length c1,.slice A2 T.length c2]:=(Bk.new.grow (bf (bg _ _) _)).grow (bf (bg _ _) _)
 have Z9:Bk (((w.alloc (.cells #[.slice A1 C.length c1,.slice A2 T.length c2] 30)).alloc (.cells #[.int .i64 (-1),.int .i64 j,.slice A3 cells.length c3,.int .i64 v0,.int .i64 v1,.int .i64 v2,.int .i64 v3,.int .i64 v4,.int .i64 v5,.int .u16 v6,.slice A4 L.length c4] 48)).alloc (.cells #[.slice none 0 0,.slice none 0 0] 30)) (w.heap.size+1) 48 [.int .i64 (-1),.int .i64 j,.slice A3 cells.length c3,.int .i64 v0,.int .i64 v1,.int .i64 v2,.int .i64 v3,.int .i64 v4,.int .i64 v5,.int .u16 v6,.slice A4 L.length c4]:=by
  have h:=(Bk.new (w:=w.alloc (.cells #[.slice A1 C.length c1,.slice A2 T.length c2] 30)) (t:=48) (vs:=[.int .i64 (-1),.int .i64 j,.slice A3 cells.length c3,.int .i64 v0,.int .i64 v1,.int .i64 v2,.int .i64 v3,.int .i64 v4,.int .i64 v5,.int .u16 v6,.slice A4 L.length c4])).grow (bf (bg _ _) (.cells #[.slice none 0 0,.slice none 0 0] 30));simpa using h
 have ZO:Bk (((w.alloc (.cells #[.slice A1 C.length c1,.slice A2 T.length c2] 30)).alloc (.cells #[.int .i64 (-1),.int .i64 j,.slice A3 cells.length c3,.int .i64 v0,.int .i64 v1,.int .i64 v2,.int .i64 v3,.int .i64 v4,.int .i64 v5,.int .u16 v6,.slice A4 L.length c4] 48)).alloc (.cells #[.slice none 0 0,.slice none 0 0] 30)) (w.heap.size+2) 30 [.slice none 0 0,.slice none 0 0]:=by
  have h:=Bk.new (w:=(w.alloc (.cells #[.slice A1 C.length c1,.slice A2 T.length c2] 30)).alloc (.cells #[.int .i64 (-1),.int .i64 j,.slice A3 cells.length c3,.int .i64 v0,.int .i64 v1,.int .i64 v2,.int .i64 v3,.int .i64 v4,.int .i64 v5,.int .u16 v6,.slice A4 L.length c4] 48)) (t:=30) (vs:=[.slice none 0 0,.slice none 0 0]);simpa using h
 have hsz:(((w.alloc (.cells #[.slice A1 C.length c1,.slice A2 T.length c2] 30)).alloc (.cells #[.int .i64 (-1),.int .i64 j,.slice A3 cells.length c3,.int .i64 v0,.int .i64 v1,.int .i64 v2,.int .i64 v3,.int .i64 v4,.int .i64 v5,.int .u16 v6,.slice A4 L.length c4] 48)).alloc (.cells #[.slice none 0 0,.slice none 0 0] 30)).heap.size=w.heap.size+3:=by simp
 generalize((w.alloc (.cells #[.slice A1 C.length c1,.slice A2 T.length c2] 30)).alloc (.cells #[.int .i64 (-1),.int .i64 j,.slice A3 cells.length c3,.int .i64 v0,.int .i64 v1,.int .i64 v2,.int .i64 v3,.int .i64 v4,.int .i64 v5,.int .u16 v6,.slice A4 L.length c4] 48)).alloc (.cells #[.slice none 0 0,.slice none 0 0] 30)=W at *;have a20:=Z'.cell 0;have a21:=Z'.cell 1;have Xc:=Z9.cell 0;have Xd:=Z9.cell 1;simp only[List.getElem?_cons_zero,List.getElem?_cons_succ]at a20 a21 Xc Xd
 go_wp2_with fail
 refine(HF.out W Zj).mono ?_;rintro e w1 ⟨rfl,Z0⟩;have Xt:=Lib.hid (bl Zj Z0);have Zd:=Z0.size;have Z':=Z'.grow Z0;have Z9:=Z9.grow Z0;have ZO:=ZO.grow Z0;have WY:=Z'.cell 0;have X0:=Z'.cell 1;have Yb:=Z9.cell 0;have Xr:=Z9.cell 1;have Yj:=Z9.cell 2;have WD:=Z9.cell 3;have WE:=Z9.cell 4;have WG:=Z9.cell 5;have WH:=Z9.cell 6;have WI:=Z9.cell 7;have WJ:=Z9.cell 8;have WK:=Z9.cell 9;have YF:=Z9.cell 10;have Y5:=ZO.cell 0;have Y6:=ZO.cell 1;have WM:=ZO.free 0;have f41:=ZO.free 1;have q4:=ZO.hi;simp only[List.getElem?_cons_zero,List.getElem?_cons_succ]at WY X0 Yb Xr Yj WD WE WG WH WI WJ WK YF Y5 Y6;have W1:=Lib.hid Z';have Zb:=Lib.hid Z9;have V9:=Lib.hid ZO;have HS:=Lib.hid hsz;clear Z' Z9 ZO Zj Z0 HF a20 a21 Xc Xd
 have Xu:¬(0:Int)<(cells.length:Int):=by have:=Hc.out;omega
 go_wp2_with fail
 refine(mn F C T _ _ w1 (HU.out.grow Xt.out) (HV.out.grow Xt.out)).mono ?_;rintro e w2 ⟨a,b,fp,gp,rfl,oa,ob,ZN,XT,ZH⟩;obtain⟨A5,c5,rfl⟩:=oa.shape;have HOB:=Lib.hid ob;obtain⟨hb,⟨e1,e2,_⟩|⟨ql,cl,cs,g,rfl,e2,l1,l2,hV,hO⟩⟩:=ob
 ·rw[e2]at hj;cases hj
 obtain⟨g1,g2,g3,d1,d2,d3,e3,e4,l3,o1,o2,o3⟩:=hO.split hj;have hd2:=rVw.len (rVw.reads o2)
 obtain⟨x0,x1,x2,x3,x4,x5,x6,x7,rfl⟩:∃x0 x1 x2 x3 x4 x5 x6 x7,d2=[x0,x1,x2,x3,x4,x5,x6,x7]:=by
  match d2,hd2 with
  | [x0,x1,x2,x3,x4,x5,x6,x7],_=>exact⟨_,_,_,_,_,_,_,_,rfl⟩
 have Yt:w2.grownBy (w2.alloc (.cells #[.slice A5 C.length c5,.slice (some ⟨ql,0,none⟩) T.length cl] 30)) none:=bf (bg _ _) _;have V3:Bk (w2.alloc (.cells #[.slice A5 C.length c5,.slice (some ⟨ql,0,none⟩) T.length cl] 30)) w2.heap.size 30 [.slice A5 C.length c5,.slice (some ⟨ql,0,none⟩) T.length cl]:=Bk.new;have UC:=bl (bl Xt.out ZH) Yt;have Z9:=(Zb.out.grow ZH).grow Yt;have YZ:=ZH.size;have Pz:=XT ql (by rw[e2];simp);have RS:=hV.hi;have N3:=Lib.hid (And.intro ZN (And.intro XT (And.intro e2 (And.intro e3 (And.intro o1 (And.intro o3 oa))))));rw[e4]at hV;have U3:=Lib.hid (hV.grow Yt);have HL:=Lib.hid (show d1.length=j*8 from l3);have QE:=Lib.hid UC;have Ya:=Lib.hid (bl ZH Yt);have Vg:=Lib.hid Yt;clear WY X0 Yb Xr Yj WD WE WG WH WI WJ WK YF Y5 Y6 WM f41 ZN XT e3 e4 o1 o2 o3 oa hd2 l3 hO hV hb
 go_upto_region 8 with fail
 generalize w2.alloc (.cells #[.slice A5 C.length c5,.slice (some ⟨ql,0,none⟩) T.length cl] 30)=W3 at *;generalize hq7:w2.heap.size=q7 at *;have Zb:=Lib.hid Z9;have QB:=Lib.hid V3;have m1:=V3.cell 1;have Yb:=Z9.cell 0;have Xr:=Z9.cell 1;have Yj:=Z9.cell 2;have WD:=Z9.cell 3;have WE:=Z9.cell 4;have WG:=Z9.cell 5;have WH:=Z9.cell 6;have WI:=Z9.cell 7;have WJ:=Z9.cell 8;have WK:=Z9.cell 9;have YF:=Z9.cell 10;simp only[List.getElem?_cons_zero,List.getElem?_cons_succ]at m1 Yb Xr Yj WD WE WG WH WI WJ WK YF
 have x2':(0:Int)<=(j:Int):=by omega
 have x3':(j:Int)<(T.length:Int):=by omega
 have x5':(j:Int).toNat=j:=by omega
 have HC:=Lib.hid (show ∀(w':World),W3.grownBy w' none->∀n,n<8->w'.cell? ⟨ql,j*8+n,none⟩=some ([x0,x1,x2,x3,x4,x5,x6,x7].getD n undef)from λw' hg n hn=>by
  have h:=(U3.out.grow hg);rw[List.append_assoc]at h
  have h2:=h.mid (j:=n) (u:=[x0,x1,x2,x3,x4,x5,x6,x7].getD n undef) (by
   rw[List.getElem?_append_left (by simpa using hn)]
   have Wf:n=0\/n=1\/n=2\/n=3\/n=4\/n=5\/n=6\/n=7:=by omega
   rcases Wf with rfl|rfl|rfl|rfl|rfl|rfl|rfl|rfl<;>rfl)
  rw[HL.out]at h2
  exact h2)
 clear Z9 V3 Yt UC
 go_cut []from 28 to 37 (λwx=>Ls C (T.set j (v0,v1,v2,v3,v4,v5,v6,L)) w q7 (.slice A5 C.length c5) (.slice (some ⟨ql,0,none⟩) T.length cl) wx)
 case first=>
  go_region_with (go_at_call 60;refine(pe F v0 v1 v2 v3 v4 v5 v6 L _ _ ((HZ.out.grow QE.out).grow (cD (bg _ _)))).mono ?_;rintro e w4 ⟨z,rfl,Pp,YS⟩;obtain⟨A7,c7,rfl⟩:=Pp.shape;have YS:=bl (cD (bg W3 none)) YS;have n1:=(QB.out.grow YS).cell 1;have n3:=(Zb.out.grow YS).cell 1;simp only[List.getElem?_cons_zero,List.getElem?_cons_succ]at n1 n3;have o0:=HC.out w4 YS 0 (by decide);have o1:=HC.out w4 YS 1 (by decide);have o2:=HC.out w4 YS 2 (by decide);have o3:=HC.out w4 YS 3 (by decide);have o4:=HC.out w4 YS 4 (by decide);have o5:=HC.out w4 YS 5 (by decide);have o6:=HC.out w4 YS 6 (by decide);have o7:=HC.out w4 YS 7 (by decide);have z0:=(U3.out.grow YS).free (j*8);have z1:=(U3.out.grow YS).free (j*8+1);have z2:=(U3.out.grow YS).free (j*8+2);have z3:=(U3.out.grow YS).free (j*8+3);have z4:=(U3.out.grow YS).free (j*8+4);have z5:=(U3.out.grow YS).free (j*8+5);have z6:=(U3.out.grow YS).free (j*8+6);have z7:=(U3.out.grow YS).free (j*8+7);simp only[List.getD_cons_zero,List.getD_cons_succ,Nat.add_zero]at o0 o1 o2 o3 o4 o5 o6 o7;have NY:=Lib.hid YS;have HMZ:=Lib.hid Pp;clear Pp YS)
  all_goals
   have YS:=NY.out;obtain⟨zp,TD,X6,X7⟩:=HMZ.out.done
   replace X7:∀b,b∈zp->W3.heap.size<=b:=λb hb=>by
    have h1:W3.heap.size+2<=b:=X7 b hb;omega
   obtain⟨ZN,XT,e2,e3,NO,NP,oa⟩:=N3.out;have Wa:=U3.out.grow YS;rw[List.append_assoc]at Wa;have RW:=Wa.setmid (j:=0) (by simp) (.int .i64 v0);have Zd:=RW.setmid (j:=1) (by simp) (.int .i64 v1);have YZ:=Zd.setmid (j:=2) (by simp) (.int .i64 v2);have TI:=YZ.setmid (j:=3) (by simp) (.int .i64 v3);have RX:=TI.setmid (j:=4) (by simp) (.int .i64 v4);have RY:=RX.setmid (j:=5) (by simp) (.int .i64 v5);have R0:=RY.setmid (j:=6) (by simp) (.int .u16 v6);have TJ:=R0.setmid (j:=7) (by simp) (.slice A7 L.length c7);simp only[HL.out,Nat.add_zero,List.cons_append,List.nil_append,List.set_cons_zero,List.set_cons_succ]at TJ
   have hset:∀x,x≠ql->((((((((w4.setCell ⟨ql,j*8,none⟩ (.int .i64 v0)).setCell ⟨ql,j*8+1,none⟩ (.int .i64 v1)).setCell ⟨ql,j*8+2,none⟩ (.int .i64 v2)).setCell ⟨ql,j*8+3,none⟩ (.int .i64 v3)).setCell ⟨ql,j*8+4,none⟩ (.int .i64 v4)).setCell ⟨ql,j*8+5,none⟩ (.int .i64 v5)).setCell ⟨ql,j*8+6,none⟩ (.int .u16 v6)).setCell ⟨ql,j*8+7,none⟩ (.slice A7 L.length c7)).heap[x]?=w4.heap[x]?:=λx hx=>by simp only[b8 _ _ _ hx]
   have YT:W3.grownBy ((((((((w4.setCell ⟨ql,j*8,none⟩ (.int .i64 v0)).setCell ⟨ql,j*8+1,none⟩ (.int .i64 v1)).setCell ⟨ql,j*8+2,none⟩ (.int .i64 v2)).setCell ⟨ql,j*8+3,none⟩ (.int .i64 v3)).setCell ⟨ql,j*8+4,none⟩ (.int .i64 v4)).setCell ⟨ql,j*8+5,none⟩ (.int .i64 v5)).setCell ⟨ql,j*8+6,none⟩ (.int .u16 v6)).setCell ⟨ql,j*8+7,none⟩ (.slice A7 L.length c7)) (some ql):=(grown_set (p:=⟨ql,j*8+7,none⟩) (grown_set (p:=⟨ql,j*8+6,none⟩) (grown_set (p:=⟨ql,j*8+5,none⟩) (grown_set (p:=⟨ql,j*8+4,none⟩) (grown_set (p:=⟨ql,j*8+3,none⟩) (grown_set (p:=⟨ql,j*8+2,none⟩) (grown_set (p:=⟨ql,j*8+1,none⟩) (grown_set (p:=⟨ql,j*8,none⟩) (ml (row:=some ql) YS) (.inl rfl) _) (.inl rfl) _) (.inl rfl) _) (.inl rfl) _) (.inl rfl) _) (.inl rfl) _) (.inl rfl) _) (.inl rfl) _);have hw3:=NY.out.size;have UD:=Ya.out.size;have O':=Vg.out.size;have O3:∀x,x∈fp->x≠ql:=λx hx e=>(List.nodup_append.1 ZN).2.2 x hx ql (by rw[e2];simp) e
   have Ql:(ql::(g1++g2++g3)).Nodup:=by
    have:=(List.nodup_append.1 ZN).2.1;rw[e2,e3]at this;exact this
   have Qk:∀x,x∈g1++g2++g3->x≠ql/\x<W3.heap.size:=λx hx=>⟨λe=>(List.nodup_cons.1 Ql).1 (e▸hx),by
    have h1:x∈gp:=by rw[e2,e3];exact List.mem_cons_of_mem _ hx
    have h2:=HOB.out.live x h1
    omega⟩
   have Yg:∀x,x<w2.heap.size->x≠ql->((((((((w4.setCell ⟨ql,j*8,none⟩ (.int .i64 v0)).setCell ⟨ql,j*8+1,none⟩ (.int .i64 v1)).setCell ⟨ql,j*8+2,none⟩ (.int .i64 v2)).setCell ⟨ql,j*8+3,none⟩ (.int .i64 v3)).setCell ⟨ql,j*8+4,none⟩ (.int .i64 v4)).setCell ⟨ql,j*8+5,none⟩ (.int .i64 v5)).setCell ⟨ql,j*8+6,none⟩ (.int .u16 v6)).setCell ⟨ql,j*8+7,none⟩ (.slice A7 L.length c7)).heap[x]?=w2.heap[x]?:=λx h1 h2=>by
    rw[hset x h2,NY.out.block x (by omega) (by simp),Vg.out.block x h1 (by simp)]
   have S0:=Lib.hid (show Ls C (T.set j (v0,v1,v2,v3,v4,v5,v6,L)) w q7 (.slice A5 C.length c5) (.slice (some ⟨ql,0,none⟩) T.length cl) ((((((((w4.setCell ⟨ql,j*8,none⟩ (.int .i64 v0)).setCell ⟨ql,j*8+1,none⟩ (.int .i64 v1)).setCell ⟨ql,j*8+2,none⟩ (.int .i64 v2)).setCell ⟨ql,j*8+3,none⟩ (.int .i64 v3)).setCell ⟨ql,j*8+4,none⟩ (.int .i64 v4)).setCell ⟨ql,j*8+5,none⟩ (.int .i64 v5)).setCell ⟨ql,j*8+6,none⟩ (.int .u16 v6)).setCell ⟨ql,j*8+7,none⟩ (.slice A7 L.length c7))from by
    have hs0':=HS.out;have UJ:∀x,x∈gp->w1.heap.size+2<=x:=λx hx=>XT x (List.mem_append_right _ hx)
    have hin:∀x,x∈g1++g2++g3->x∈gp:=λx hx=>by rw[e2,e3];exact List.mem_cons_of_mem _ hx
    refine⟨fN QE.out YT λk e=>by injection e with e;omega,((V9.out.grow Ya.out).grow YS).keep (hset _ (by omega)),(QB.out.grow YS).keep (hset _ (by omega)),?_,?_⟩
    ·exact((oa.keep λx hx=>Yg x (by have:=oa.live x hx;omega) (O3 x hx)).reads).sub λx hx=>by have:=XT x (List.mem_append_left _ hx);omega
    ·have hown:OSl rVw 46 (((((((((w4.setCell ⟨ql,j*8,none⟩ (.int .i64 v0)).setCell ⟨ql,j*8+1,none⟩ (.int .i64 v1)).setCell ⟨ql,j*8+2,none⟩ (.int .i64 v2)).setCell ⟨ql,j*8+3,none⟩ (.int .i64 v3)).setCell ⟨ql,j*8+4,none⟩ (.int .i64 v4)).setCell ⟨ql,j*8+5,none⟩ (.int .i64 v5)).setCell ⟨ql,j*8+6,none⟩ (.int .u16 v6)).setCell ⟨ql,j*8+7,none⟩ (.slice A7 L.length c7))) (ql::(g1++zp++g3)) (T.set j (v0,v1,v2,v3,v4,v5,v6,L)) (.slice (some ⟨ql,0,none⟩) T.length cl):=by
      refine⟨by rw[List.length_set];exact TY,.inr ⟨ql,cl,d1++vwC (v0,v1,v2,v3,v4,v5,v6,L) (.slice A7 L.length c7)++d3,g1++zp++g3,by rw[List.length_set],rfl,by rw[List.length_set];exact l1,l2,by simpa[vwC]using TJ,jp.join hj (NO.keep λx hx=>Yg x (by have:=NO.live x hx;omega) (Qk x (by simp[hx])).1) (Jg (TD.keep λx hx=>hset x (by have:=X7 x hx;omega))) (NP.keep λx hx=>Yg x (by have:=NP.live x hx;omega) (Qk x (by simp[hx])).1)⟩⟩
     exact hown.reads.sub λx hx=>by
      rcases List.mem_cons.1 hx with rfl|hx
      ·omega
      ·rcases List.mem_append.1 hx with hx|hx
       ·rcases List.mem_append.1 hx with hx|hx
        ·have:=UJ x (hin x (by simp[hx]));omega
        ·have:=X7 x hx;omega
       ·have:=UJ x (hin x (by simp[hx]));omega)
   clear RW Zd YZ TI RX RY R0 TJ hset YT TD X6 X7 Wa
   go_wp2_with fail
   go_meet
   exact S0.out
 case rest=>
  have HD:=Lib.hid hcut;have j0:=hcut.st.cell 0;have j1:=hcut.st.cell 1;have r0:=hcut.res.cell 0;have r1:=hcut.res.cell 1;have f0:=hcut.res.free 0;have f1:=hcut.res.free 1;have r2:=hcut.res.hi;simp only[List.getElem?_cons_zero,List.getElem?_cons_succ]at j0 j1 r0 r1;clear hcut m1
  go_wp2_with fail
  refine bodyPost_ret (v:=.tuple #[.agg #[.slice A5 C.length c5,.slice (some ⟨ql,0,none⟩) T.length cl],.int .i64 0]) (by simp[results,Tryz.results34,go_sem,r0,r1,r2]) rfl ?_;exact HD.out.ret
def Cy(v:Value)(w:World)(e:Ending)(w':World):Prop:=e=.returned v/\w.grownBy w' none
theorem MM(A:Option Addr)(n c:Nat)(i:Int)(w:World)(h:32<i):Calls Tryz.prog 61 #[.slice A n c,.int .i64 i] w (Cy (.slice none 0 0) w):=by
 have h0:¬i<0:=by omega
 go_enter Tryz.func61,Tryz.ntmps61
 go_wp2_with fail
 go_ret
 exact⟨rfl,bg _ _⟩
theorem xE{b o o' n n' c c':Nat}(h1:o=o')(h2:n=n')(h3:c=c'):Ending.returned (.slice (some ⟨b,o,none⟩) n c)=.returned (.slice (some ⟨b,o',none⟩) n' c'):=by rw[h1,h2,h3]
theorem zU(b o n c:Nat)(j:Nat)(w:World)(h:j<=32)(hn:8*j<n)(hc:n<=c)(hm:n<=1099511627776):Calls Tryz.prog 61 #[.slice (some ⟨b,o,none⟩) n c,.int .i64 j] w (Cy (.slice (some ⟨b,o+8*j*4,none⟩) (min 8 (n-8*j)) (c-8*j)) w):=by
 have h0:¬(j:Int)<0:=by omega
 have h1:¬(32:Int)<(j:Int):=by omega
 have h2:¬(n:Int)<=(j:Int)*8:=by omega
 have h3:(j:Int)*8<(n:Int):=by omega
 go_enter Tryz.func61,Tryz.ntmps61
 go_wp2_with fail
 all_goals
  go_ret
  refine⟨?_,bg _ _⟩;exact xE (by omega) (by omega) (by omega)
theorem FD(b o n c:Nat)(j:Nat)(w:World)(h:j<=32)(hn:8*j<n)(hc:n<=c)(hm:n<=1099511627776):Calls Tryz.prog 61 #[.slice (some ⟨b,o,none⟩) n c,.int .i64 j] w λe w'=>e=.returned (.slice (some ⟨b,o+8*j*4,none⟩) (min 8 (n-8*j)) (c-8*j))/\w'=w:=by
 have h0:¬(j:Int)<0:=by omega
 have h1:¬(32:Int)<(j:Int):=by omega
 have h2:¬(n:Int)<=(j:Int)*8:=by omega
 have h3:(j:Int)*8<(n:Int):=by omega
 go_enter Tryz.func61,Tryz.ntmps61
 go_wp2_with fail
 all_goals
  go_ret
  refine⟨?_,rfl⟩;exact xE (by omega) (by omega) (by omega)
set_option maxRecDepth 100000 in
set_option maxHeartbeats 4000000 in
theorem E2(F:Nat->Prop)(C:List (List Cn4))(T:List Vw8)(k j:Nat)(cells:List Cn4)(v0 v1 v2 v3 v4 v5 v6:Int)(L:List Cn4)(U V Y Z:Value)(w:World)(fe:Int)
 (hu:RSl rCs w F C U)(hv:RSl rVw w F T V)(hy:RSl rCn w F cells Y)(hz:RSl rCn w F L Z)
 (ZR:∀w',w.grownBy w' none->Calls Tryz.prog 55 #[.agg #[U,V],.agg #[.int .i64 k,.int .i64 j]] w' λe w2=>e=.returned (.int .i64 fe)/\w'.grownBy w2 none)
 (eb:Bool)(Zy:∀w',w.grownBy w' none->Calls Tryz.prog 62 #[.agg #[.int .i64 v0,.int .i64 v1,.int .i64 v2,.int .i64 v3,.int .i64 v4,.int .i64 v5,.int .u16 v6,Z]] w' λe w2=>e=.returned (.bool eb)/\w'.grownBy w2 none)(h0:fe=0)(hk:k<C.length)(hj:j<=32)(Xx:8*j<C[k].length)(hc:cells.length≠min 8 (C[k].length-8*j)):
 Calls Tryz.prog 34 #[.agg #[U,V],.agg #[.int .i64 k,.int .i64 j,Y,.int .i64 v0,.int .i64 v1,.int .i64 v2,.int .i64 v3,.int .i64 v4,.int .i64 v5,.int .u16 v6,Z]] w (λe w'=>e=.returned (.tuple #[.agg #[.slice none 0 0,.slice none 0 0],.int .i64 5])/\w.grownBy w' none):=by
 subst h0;have Hc:=Lib.hid hc;clear hc;have HU:=Lib.hid hu;have HV:=Lib.hid hv;have HY:=Lib.hid hy;have HZ:=Lib.hid hz;obtain⟨A1,c1,rfl,_,_,TP⟩:=hu.size_eq;obtain⟨A2,c2,rfl,_,_,TY⟩:=hv.size_eq;obtain⟨A3,c3,rfl,_,_,hcl⟩:=hy.size_eq;obtain⟨A4,c4,rfl,_,_,TW⟩:=hz.size_eq;have HF:=Lib.hid ZR;clear hu hv hy hz ZR
 go_enter Tryz.func34,Tryz.ntmps34
 go_upto_region 1 with fail
 have Zj:w.grownBy (((w.alloc (.cells #[.slice A1 C.length c1,.slice A2 T.length c2] 30)).alloc (.cells #[.int .i64 k,.int .i64 j,.slice A3 cells.length c3,.int .i64 v0,.int .i64 v1,.int .i64 v2,.int .i64 v3,.int .i64 v4,.int .i64 v5,.int .u16 v6,.slice A4 L.length c4] 48)).alloc (.cells #[.slice none 0 0,.slice none 0 0] 30)) none:=bf (bf (bf (bg w none) _) _) _;have Z':Bk (((w.alloc (.cells #[.slice A1 C.length c1,.slice A2 T.length c2] 30)).alloc (.cells #[.int .i64 k,.int .i64 j,.slice A3 cells.length c3,.int .i64 v0,.int .i64 v1,.int .i64 v2,.int .i64 v3,.int .i64 v4,.int .i64 v5,.int .u16 v6,.slice A4 L.length c4] 48)).alloc (.cells #[.slice none 0 0,.slice none 0 0] 30)) w.heap.size 30 [.slice A1 C.length c1,.slice A2 T.length c2]:=(Bk.new.grow (bf (bg _ _) _)).grow (bf (bg _ _) _)
 have Z9:Bk (((w.alloc (.cells #[.slice A1 C.length c1,.slice A2 T.length c2] 30)).alloc (.cells #[.int .i64 k,.int .i64 j,.slice A3 cells.length c3,.int .i64 v0,.int .i64 v1,.int .i64 v2,.int .i64 v3,.int .i64 v4,.int .i64 v5,.int .u16 v6,.slice A4 L.length c4] 48)).alloc (.cells #[.slice none 0 0,.slice none 0 0] 30)) (w.heap.size+1) 48 [.int .i64 k,.int .i64 j,.slice A3 cells.length c3,.int .i64 v0,.int .i64 v1,.int .i64 v2,.int .i64 v3,.int .i64 v4,.int .i64 v5,.int .u16 v6,.slice A4 L.length c4]:=by
  have h:=(Bk.new (w:=w.alloc (.cells #[.slice A1 C.length c1,.slice A2 T.length c2] 30)) (t:=48) (vs:=[.int .i64 k,.int .i64 j,.slice A3 cells.length c3,.int .i64 v0,.int .i64 v1,.int .i64 v2,.int .i64 v3,.int .i64 v4,.int .i64 v5,.int .u16 v6,.slice A4 L.length c4])).grow (bf (bg _ _) (.cells #[.slice none 0 0,.slice none 0 0] 30));simpa using h
 have ZO:Bk (((w.alloc (.cells #[.slice A1 C.length c1,.slice A2 T.length c2] 30)).alloc (.cells #[.int .i64 k,.int .i64 j,.slice A3 cells.length c3,.int .i64 v0,.int .i64 v1,.int .i64 v2,.int .i64 v3,.int .i64 v4,.int .i64 v5,.int .u16 v6,.slice A4 L.length c4] 48)).alloc (.cells #[.slice none 0 0,.slice none 0 0] 30)) (w.heap.size+2) 30 [.slice none 0 0,.slice none 0 0]:=by
  have h:=Bk.new (w:=(w.alloc (.cells #[.slice A1 C.length c1,.slice A2 T.length c2] 30)).alloc (.cells #[.int .i64 k,.int .i64 j,.slice A3 cells.length c3,.int .i64 v0,.int .i64 v1,.int .i64 v2,.int .i64 v3,.int .i64 v4,.int .i64 v5,.int .u16 v6,.slice A4 L.length c4] 48)) (t:=30) (vs:=[.slice none 0 0,.slice none 0 0]);simpa using h
 have hsz:(((w.alloc (.cells #[.slice A1 C.length c1,.slice A2 T.length c2] 30)).alloc (.cells #[.int .i64 k,.int .i64 j,.slice A3 cells.length c3,.int .i64 v0,.int .i64 v1,.int .i64 v2,.int .i64 v3,.int .i64 v4,.int .i64 v5,.int .u16 v6,.slice A4 L.length c4] 48)).alloc (.cells #[.slice none 0 0,.slice none 0 0] 30)).heap.size=w.heap.size+3:=by simp
 generalize((w.alloc (.cells #[.slice A1 C.length c1,.slice A2 T.length c2] 30)).alloc (.cells #[.int .i64 k,.int .i64 j,.slice A3 cells.length c3,.int .i64 v0,.int .i64 v1,.int .i64 v2,.int .i64 v3,.int .i64 v4,.int .i64 v5,.int .u16 v6,.slice A4 L.length c4] 48)).alloc (.cells #[.slice none 0 0,.slice none 0 0] 30)=W at *;have a20:=Z'.cell 0;have a21:=Z'.cell 1;have Xc:=Z9.cell 0;have Xd:=Z9.cell 1;simp only[List.getElem?_cons_zero,List.getElem?_cons_succ]at a20 a21 Xc Xd
 go_wp2_with fail
 refine(HF.out W Zj).mono ?_;rintro e w1 ⟨rfl,Z0⟩;have Xt:=Lib.hid (bl Zj Z0);have Zd:=Z0.size;have Z':=Z'.grow Z0;have Z9:=Z9.grow Z0;have ZO:=ZO.grow Z0;have WY:=Z'.cell 0;have X0:=Z'.cell 1;have Yb:=Z9.cell 0;have Xr:=Z9.cell 1;have Yj:=Z9.cell 2;have WD:=Z9.cell 3;have WE:=Z9.cell 4;have WG:=Z9.cell 5;have WH:=Z9.cell 6;have WI:=Z9.cell 7;have WJ:=Z9.cell 8;have WK:=Z9.cell 9;have YF:=Z9.cell 10;have Y5:=ZO.cell 0;have Y6:=ZO.cell 1;have WM:=ZO.free 0;have f41:=ZO.free 1;have q4:=ZO.hi;simp only[List.getElem?_cons_zero,List.getElem?_cons_succ]at WY X0 Yb Xr Yj WD WE WG WH WI WJ WK YF Y5 Y6;have W1:=Lib.hid Z';have Zb:=Lib.hid Z9;have V9:=Lib.hid ZO;have HS:=Lib.hid hsz;clear Z' Z9 ZO Zj Z0 HF a20 a21 Xc Xd
 have Rr:((k:Int)==-1)=false:=by simp
 have VE:¬(k:Int)=-1:=by omega
 have HE:=Lib.hid (λW hg=>Zy W hg);clear Zy;obtain⟨bR,oR,cR,ds,QW,hR1,SE,_,QU,TX⟩:=(HU.out.grow Xt.out).at_ hk
 injection QW with Vo QX Vp
 subst Vo;subst Vp;obtain⟨hdr,rfl,ZP⟩:=QU;have Ww:=TX 0 _ rfl;rw[show oR+(k*rCs.size+0)=oR+k by rw[show rCs.size=1 from rfl,Nat.mul_one,Nat.add_zero]]at Ww;obtain⟨AK,cK,rfl,Vk,TU,Vl⟩:=ZP.size_eq;have QR:=ZP;obtain⟨bK,oK,cK',xs,QS,_,_,_,_,_⟩:=ZP.at_ (k:=8*j) Xx
 injection QS with Vm QT Vn
 subst Vm;subst Vn;obtain⟨N,hN⟩:∃N,N=C[k].length:=⟨_,rfl⟩;rw[<- hN]at Xx Vk Vl Ww;have W4:=Lib.hid hN;clear hN QR ZP TX
 have y1:(0:Int)<=(k:Int):=by omega
 have y2:(k:Int)<(C.length:Int):=by omega
 have y3:(k:Int).toNat=k:=by omega
 obtain⟨n,hn⟩:∃n,n=min 8 (N-8*j):=⟨_,rfl⟩;have Hn:=Lib.hid hn;have HJ:=Lib.hid (And.intro hj (And.intro Xx (And.intro Vk Vl)));clear hn hj Xx Vk TU Vl hcl VE
 go_upto_region 10 with fail
 have hcn:((cells.length:Int) != (n:Int))=true:=by
  have h1:=Hc.out;rw[<- W4.out,<- Hn.out]at h1;simp;omega
 clear Y5 Y6 WM f41 q4;have Un:=Lib.hid Ww;clear Ww
 refine hJ (λw'=>w1.grownBy w' none) (λ_ _=>True)
  [bN (.pointer (some ⟨w.heap.size+1,2,none⟩)),bN (.slice A3 cells.length c3),bN (.int .i64 cells.length),bN (.pointer (some ⟨w.heap.size,0,none⟩)),bN (.slice (some ⟨bR,oR,none⟩) C.length c1),bN (.pointer (some ⟨w.heap.size+1,0,none⟩)),bN (.pointer (some ⟨w.heap.size+1,0,none⟩)),bN (.int .i64 k),bN (.pointer (some ⟨bR,oR+k,none⟩)),bN (.slice (some ⟨bK,oK,none⟩) N cK),bN (.pointer (some ⟨w.heap.size+1,0,none⟩)),bN (.pointer (some ⟨w.heap.size+1,1,none⟩)),bN (.int .i64 j),bN (.slice (some ⟨bK,oK+8*j*4,none⟩) n (cK-8*j)),bN (.int .i64 n),bN (.bool true),bN (.bool true),bN (undef),bN (undef),bN (undef),bN (undef),bN (.bool true)]
  78 (by kernel_rfl) rfl (by kernel_rfl) (cD (bg _ _)) (λ_=>trivial) ?_ ?_ ?_
 ·exact⟨bN.kept,bN.kept,bN.kept,bN.kept,bN.kept,bN.kept,bN.kept,bN.kept,bN.kept,bN.kept,bN.kept,bN.kept,bN.kept,bN.kept,bN.kept,bN.kept,bN.kept,bN.kept,bN.kept,bN.kept,bN.kept,bN.kept,trivial⟩
 ·refine bd ?_ (bd ?_ (bd ?_ (bd ?_ (bd ?_ (bd ?_ (bd ?_ (bd ?_ (bd ?_ (bd ?_ (bd ?_ (bd ?_ (bd ?_ (bd ?_ (bd ?_ (bd ?_ (bd ?_ (bd ?_ (bd ?_ (bd ?_ (bd ?_ (bd ?_ mV)))))))))))))))))))))
  ·refine bi rfl λf ZL hb H=>?_;have e3:f 3=_:=H 3 (by decide);clear H;have Z7:=Lib.hid hb;clear hb
   go_simp
   exact⟨Z7.out,trivial,rfl⟩
  ·refine bi rfl λf ZL hb H=>?_;have e38:f 38=_:=H 38 (by decide);clear H;have Z7:=Lib.hid hb;have QM:=(Zb.out.grow hb).cell 2;simp only[List.getElem?_cons_zero,List.getElem?_cons_succ]at QM;clear hb
   go_simp
   exact⟨Z7.out,trivial,rfl⟩
  ·refine bi rfl λf ZL hb H=>?_;have e39:f 39=_:=H 39 (by decide);clear H;have Z7:=Lib.hid hb;clear hb
   go_simp
   exact⟨Z7.out,trivial,rfl⟩
  ·refine bi rfl λf ZL hb H=>?_;have e2:f 2=_:=H 2 (by decide);clear H;have Z7:=Lib.hid hb;clear hb
   go_simp
   exact⟨Z7.out,trivial,rfl⟩
  ·refine bi rfl λf ZL hb H=>?_;have e41:f 41=_:=H 41 (by decide);clear H;have Z7:=Lib.hid hb;have QJ:=(W1.out.grow hb).cell 0;simp only[List.getElem?_cons_zero]at QJ;clear hb
   go_simp
   exact⟨Z7.out,trivial,rfl⟩
  ·refine bi rfl λf ZL hb H=>?_;have e3:f 3=_:=H 3 (by decide);clear H;have Z7:=Lib.hid hb;clear hb
   go_simp
   exact⟨Z7.out,trivial,rfl⟩
  ·refine bi rfl λf ZL hb H=>?_;have e43:f 43=_:=H 43 (by decide);clear H;have Z7:=Lib.hid hb;clear hb
   go_simp
   exact⟨Z7.out,trivial,rfl⟩
  ·refine bi rfl λf ZL hb H=>?_;have e44:f 44=_:=H 44 (by decide);clear H;have Z7:=Lib.hid hb;have QK:=(Zb.out.grow hb).cell 0;simp only[List.getElem?_cons_zero,List.getElem?_cons_succ]at QK;clear hb
   go_simp
   exact⟨Z7.out,trivial,rfl⟩
  ·refine bi rfl λf ZL hb H=>?_;have e42:f 42=_:=H 42 (by decide);have e45:f 45=_:=H 45 (by decide);clear H;have Z7:=Lib.hid hb;clear hb
   go_simp
   exact⟨Z7.out,trivial,rfl⟩
  ·refine bi rfl λf ZL hb H=>?_;have e46:f 46=_:=H 46 (by decide);clear H;have Z7:=Lib.hid hb
   have ch:ZL.cell? ⟨bR,oR+k,none⟩=some (.slice (some ⟨bK,oK,none⟩) N cK):=by rw[World.cell?_of_block (hb.block bR (World.block_lt_of_cell? _ _ Un.out) (by simp))];exact Un.out
   clear hb
   go_simp
   exact⟨Z7.out,trivial,rfl⟩
  ·refine bi rfl λf ZL hb H=>?_;have e3:f 3=_:=H 3 (by decide);clear H;have Z7:=Lib.hid hb;clear hb
   go_simp
   exact⟨Z7.out,trivial,rfl⟩
  ·refine bi rfl λf ZL hb H=>?_;have e48:f 48=_:=H 48 (by decide);clear H;have Z7:=Lib.hid hb;clear hb
   go_simp
   exact⟨Z7.out,trivial,rfl⟩
  ·refine bi rfl λf ZL hb H=>?_;have e49:f 49=_:=H 49 (by decide);clear H;have Z7:=Lib.hid hb;have QL:=(Zb.out.grow hb).cell 1;simp only[List.getElem?_cons_zero,List.getElem?_cons_succ]at QL;clear hb
   go_simp
   exact⟨Z7.out,trivial,rfl⟩
  ·refine bi rfl λf ZL hb H=>?_;have e47:f 47=_:=H 47 (by decide);have e50:f 50=_:=H 50 (by decide);clear H;have Z7:=Lib.hid hb;clear hb
   go_simp
   refine(zU bK oK N cK j _ HJ.out.1 HJ.out.2.1 HJ.out.2.2.1 HJ.out.2.2.2).mono ?_;rw[<- Hn.out];rintro e w5 ⟨rfl,Xi⟩;exact⟨_,rfl,bl Z7.out Xi,trivial,rfl⟩
  ·refine bi rfl λf ZL hb H=>?_;have e51:f 51=_:=H 51 (by decide);clear H;have Z7:=Lib.hid hb;clear hb
   go_simp
   exact⟨Z7.out,trivial,rfl⟩
  ·refine bi rfl λf ZL hb H=>?_;have e40:f 40=_:=H 40 (by decide);have e52:f 52=_:=H 52 (by decide);clear H;have Z7:=Lib.hid hb;clear hb
   go_simp
   exact⟨Z7.out,trivial,rfl⟩
  ·refine bi rfl λf ZL hb H=>?_;have e53:f 53=_:=H 53 (by decide);clear H;have Z7:=Lib.hid hb;clear hb
   go_simp
   exact⟨Z7.out,trivial,rfl⟩
  ·exact pb _ _ _ rfl rfl λf ZL hb H=>⟨H 54 (by decide),rfl⟩
  ·exact pb _ _ _ rfl rfl λf ZL hb H=>⟨H 54 (by decide),rfl⟩
  ·exact pb _ _ _ rfl rfl λf ZL hb H=>⟨H 54 (by decide),rfl⟩
  ·exact pb _ _ _ rfl rfl λf ZL hb H=>⟨H 54 (by decide),rfl⟩
  ·refine bi rfl λf ZL hb H=>?_;have e54:f 54=_:=H 54 (by decide);have e58:f 58=_:=H 58 (by decide);clear H;have Z7:=Lib.hid hb;clear hb
   go_simp
   exact⟨Z7.out,trivial,rfl⟩
 ·intro f w9 hb hE;simp only[gc,Act.put,zB,List.setIfInBounds_toArray,List.set_cons_succ,List.set_cons_zero];have QP:f 59=.bool true:=hE.2.2.2.2.2.2.2.2.2.2.2.2.2.2.2.2.2.2.2.2.2.1;clear hE;have ZF:=hb;clear hb;rw[QP];have ZO:=V9.out.grow ZF;have Y5:=ZO.cell 0;have Y6:=ZO.cell 1;have WM:=ZO.free 0;have f41:=ZO.free 1;have q4:=ZO.hi;simp only[List.getElem?_cons_zero,List.getElem?_cons_succ]at Y5 Y6
  go_wp2_with fail
  refine bodyPost_ret (v:=.tuple #[.agg #[.slice none 0 0,.slice none 0 0],.int .i64 5]) (by simp[results,Tryz.results34,go_sem,Y5,Y6,q4]) rfl ?_;exact⟨rfl,grown_set (grown_set (bl Xt.out ZF) (.inr (by dsimp only;omega)) _) (.inr (by dsimp only;omega)) _⟩
set_option maxRecDepth 100000 in
set_option maxHeartbeats 4000000 in
theorem E1(F:Nat->Prop)(C:List (List Cn4))(T:List Vw8)(k j:Nat)(cells:List Cn4)(v0 v1 v2 v3 v4 v5 v6:Int)(L:List Cn4)(U V Y Z:Value)(w:World)(fe:Int)
 (hu:RSl rCs w F C U)(hv:RSl rVw w F T V)(hy:RSl rCn w F cells Y)(hz:RSl rCn w F L Z)
 (ZR:∀w',w.grownBy w' none->Calls Tryz.prog 55 #[.agg #[U,V],.agg #[.int .i64 k,.int .i64 j]] w' λe w2=>e=.returned (.int .i64 fe)/\w'.grownBy w2 none)
 (eb:Bool)(Zy:∀w',w.grownBy w' none->Calls Tryz.prog 62 #[.agg #[.int .i64 v0,.int .i64 v1,.int .i64 v2,.int .i64 v3,.int .i64 v4,.int .i64 v5,.int .u16 v6,Z]] w' λe w2=>e=.returned (.bool eb)/\w'.grownBy w2 none)(h0:fe=0)(hk:k<C.length)(hj:j<=32)(Xx:8*j<C[k].length)(hc:cells.length=min 8 (C[k].length-8*j))(he:eb=false):
 Calls Tryz.prog 34 #[.agg #[U,V],.agg #[.int .i64 k,.int .i64 j,Y,.int .i64 v0,.int .i64 v1,.int .i64 v2,.int .i64 v3,.int .i64 v4,.int .i64 v5,.int .u16 v6,Z]] w (λe w'=>e=.returned (.tuple #[.agg #[.slice none 0 0,.slice none 0 0],.int .i64 5])/\w.grownBy w' none):=by
 subst h0;subst he;have Hc:=Lib.hid hc;clear hc;have HU:=Lib.hid hu;have HV:=Lib.hid hv;have HY:=Lib.hid hy;have HZ:=Lib.hid hz;obtain⟨A1,c1,rfl,_,_,TP⟩:=hu.size_eq;obtain⟨A2,c2,rfl,_,_,TY⟩:=hv.size_eq;obtain⟨A3,c3,rfl,_,_,hcl⟩:=hy.size_eq;obtain⟨A4,c4,rfl,_,_,TW⟩:=hz.size_eq;have HF:=Lib.hid ZR;clear hu hv hy hz ZR
 go_enter Tryz.func34,Tryz.ntmps34
 go_upto_region 1 with fail
 have Zj:w.grownBy (((w.alloc (.cells #[.slice A1 C.length c1,.slice A2 T.length c2] 30)).alloc (.cells #[.int .i64 k,.int .i64 j,.slice A3 cells.length c3,.int .i64 v0,.int .i64 v1,.int .i64 v2,.int .i64 v3,.int .i64 v4,.int .i64 v5,.int .u16 v6,.slice A4 L.length c4] 48)).alloc (.cells #[.slice none 0 0,.slice none 0 0] 30)) none:=bf (bf (bf (bg w none) _) _) _;have Z':Bk (((w.alloc (.cells #[.slice A1 C.length c1,.slice A2 T.length c2] 30)).alloc (.cells #[.int .i64 k,.int .i64 j,.slice A3 cells.length c3,.int .i64 v0,.int .i64 v1,.int .i64 v2,.int .i64 v3,.int .i64 v4,.int .i64 v5,.int .u16 v6,.slice A4 L.length c4] 48)).alloc (.cells #[.slice none 0 0,.slice none 0 0] 30)) w.heap.size 30 [.slice A1 C.length c1,.slice A2 T.length c2]:=(Bk.new.grow (bf (bg _ _) _)).grow (bf (bg _ _) _)
 have Z9:Bk (((w.alloc (.cells #[.slice A1 C.length c1,.slice A2 T.length c2] 30)).alloc (.cells #[.int .i64 k,.int .i64 j,.slice A3 cells.length c3,.int .i64 v0,.int .i64 v1,.int .i64 v2,.int .i64 v3,.int .i64 v4,.int .i64 v5,.int .u16 v6,.slice A4 L.length c4] 48)).alloc (.cells #[.slice none 0 0,.slice none 0 0] 30)) (w.heap.size+1) 48 [.int .i64 k,.int .i64 j,.slice A3 cells.length c3,.int .i64 v0,.int .i64 v1,.int .i64 v2,.int .i64 v3,.int .i64 v4,.int .i64 v5,.int .u16 v6,.slice A4 L.length c4]:=by
  have h:=(Bk.new (w:=w.alloc (.cells #[.slice A1 C.length c1,.slice A2 T.length c2] 30)) (t:=48) (vs:=[.int .i64 k,.int .i64 j,.slice A3 cells.length c3,.int .i64 v0,.int .i64 v1,.int .i64 v2,.int .i64 v3,.int .i64 v4,.int .i64 v5,.int .u16 v6,.slice A4 L.length c4])).grow (bf (bg _ _) (.cells #[.slice none 0 0,.slice none 0 0] 30));simpa using h
 have ZO:Bk (((w.alloc (.cells #[.slice A1 C.length c1,.slice A2 T.length c2] 30)).alloc (.cells #[.int .i64 k,.int .i64 j,.slice A3 cells.length c3,.int .i64 v0,.int .i64 v1,.int .i64 v2,.int .i64 v3,.int .i64 v4,.int .i64 v5,.int .u16 v6,.slice A4 L.length c4] 48)).alloc (.cells #[.slice none 0 0,.slice none 0 0] 30)) (w.heap.size+2) 30 [.slice none 0 0,.slice none 0 0]:=by
  have h:=Bk.new (w:=(w.alloc (.cells #[.slice A1 C.length c1,.slice A2 T.length c2] 30)).alloc (.cells #[.int .i64 k,.int .i64 j,.slice A3 cells.length c3,.int .i64 v0,.int .i64 v1,.int .i64 v2,.int .i64 v3,.int .i64 v4,.int .i64 v5,.int .u16 v6,.slice A4 L.length c4] 48)) (t:=30) (vs:=[.slice none 0 0,.slice none 0 0]);simpa using h
 have hsz:(((w.alloc (.cells #[.slice A1 C.length c1,.slice A2 T.length c2] 30)).alloc (.cells #[.int .i64 k,.int .i64 j,.slice A3 cells.length c3,.int .i64 v0,.int .i64 v1,.int .i64 v2,.int .i64 v3,.int .i64 v4,.int .i64 v5,.int .u16 v6,.slice A4 L.length c4] 48)).alloc (.cells #[.slice none 0 0,.slice none 0 0] 30)).heap.size=w.heap.size+3:=by simp
 generalize((w.alloc (.cells #[.slice A1 C.length c1,.slice A2 T.length c2] 30)).alloc (.cells #[.int .i64 k,.int .i64 j,.slice A3 cells.length c3,.int .i64 v0,.int .i64 v1,.int .i64 v2,.int .i64 v3,.int .i64 v4,.int .i64 v5,.int .u16 v6,.slice A4 L.length c4] 48)).alloc (.cells #[.slice none 0 0,.slice none 0 0] 30)=W at *;have a20:=Z'.cell 0;have a21:=Z'.cell 1;have Xc:=Z9.cell 0;have Xd:=Z9.cell 1;simp only[List.getElem?_cons_zero,List.getElem?_cons_succ]at a20 a21 Xc Xd
 go_wp2_with fail
 refine(HF.out W Zj).mono ?_;rintro e w1 ⟨rfl,Z0⟩;have Xt:=Lib.hid (bl Zj Z0);have Zd:=Z0.size;have Z':=Z'.grow Z0;have Z9:=Z9.grow Z0;have ZO:=ZO.grow Z0;have WY:=Z'.cell 0;have X0:=Z'.cell 1;have Yb:=Z9.cell 0;have Xr:=Z9.cell 1;have Yj:=Z9.cell 2;have WD:=Z9.cell 3;have WE:=Z9.cell 4;have WG:=Z9.cell 5;have WH:=Z9.cell 6;have WI:=Z9.cell 7;have WJ:=Z9.cell 8;have WK:=Z9.cell 9;have YF:=Z9.cell 10;have Y5:=ZO.cell 0;have Y6:=ZO.cell 1;have WM:=ZO.free 0;have f41:=ZO.free 1;have q4:=ZO.hi;simp only[List.getElem?_cons_zero,List.getElem?_cons_succ]at WY X0 Yb Xr Yj WD WE WG WH WI WJ WK YF Y5 Y6;have W1:=Lib.hid Z';have Zb:=Lib.hid Z9;have V9:=Lib.hid ZO;have HS:=Lib.hid hsz;clear Z' Z9 ZO Zj Z0 HF a20 a21 Xc Xd
 have Rr:((k:Int)==-1)=false:=by simp
 have VE:¬(k:Int)=-1:=by omega
 have HE:=Lib.hid (λW hg=>Zy W hg);clear Zy;obtain⟨bR,oR,cR,ds,QW,hR1,SE,_,QU,TX⟩:=(HU.out.grow Xt.out).at_ hk
 injection QW with Vo QX Vp
 subst Vo;subst Vp;obtain⟨hdr,rfl,ZP⟩:=QU;have Ww:=TX 0 _ rfl;rw[show oR+(k*rCs.size+0)=oR+k by rw[show rCs.size=1 from rfl,Nat.mul_one,Nat.add_zero]]at Ww;obtain⟨AK,cK,rfl,Vk,TU,Vl⟩:=ZP.size_eq;have QR:=ZP;obtain⟨bK,oK,cK',xs,QS,_,_,_,_,_⟩:=ZP.at_ (k:=8*j) Xx
 injection QS with Vm QT Vn
 subst Vm;subst Vn;obtain⟨N,hN⟩:∃N,N=C[k].length:=⟨_,rfl⟩;rw[<- hN]at Xx Vk Vl Ww;have W4:=Lib.hid hN;clear hN QR ZP TX
 have y1:(0:Int)<=(k:Int):=by omega
 have y2:(k:Int)<(C.length:Int):=by omega
 have y3:(k:Int).toNat=k:=by omega
 obtain⟨n,hn⟩:∃n,n=min 8 (N-8*j):=⟨_,rfl⟩;have Hn:=Lib.hid hn;have HJ:=Lib.hid (And.intro hj (And.intro Xx (And.intro Vk Vl)));clear hn hj Xx Vk TU Vl hcl VE
 go_upto_region 10 with fail
 have hcn:((cells.length:Int) != (n:Int))=false:=by
  have h1:=Hc.out;rw[<- W4.out,<- Hn.out]at h1;simp;omega
 clear Y5 Y6 WM f41 q4;have Un:=Lib.hid Ww;clear Ww
 refine hJ (λw'=>w1.grownBy w' none) (λ_ _=>True)
  [bN (.pointer (some ⟨w.heap.size+1,2,none⟩)),bN (.slice A3 cells.length c3),bN (.int .i64 cells.length),bN (.pointer (some ⟨w.heap.size,0,none⟩)),bN (.slice (some ⟨bR,oR,none⟩) C.length c1),bN (.pointer (some ⟨w.heap.size+1,0,none⟩)),bN (.pointer (some ⟨w.heap.size+1,0,none⟩)),bN (.int .i64 k),bN (.pointer (some ⟨bR,oR+k,none⟩)),bN (.slice (some ⟨bK,oK,none⟩) N cK),bN (.pointer (some ⟨w.heap.size+1,0,none⟩)),bN (.pointer (some ⟨w.heap.size+1,1,none⟩)),bN (.int .i64 j),bN (.slice (some ⟨bK,oK+8*j*4,none⟩) n (cK-8*j)),bN (.int .i64 n),bN (.bool false),bN (.bool false),bN (.pointer (some ⟨w.heap.size+1,3,none⟩)),bN (.agg #[.int .i64 v0,.int .i64 v1,.int .i64 v2,.int .i64 v3,.int .i64 v4,.int .i64 v5,.int .u16 v6,.slice A4 L.length c4]),bN (.bool false),bN (.bool true),bN (.bool true)]
  78 (by kernel_rfl) rfl (by kernel_rfl) (cD (bg _ _)) (λ_=>trivial) ?_ ?_ ?_
 ·exact⟨bN.kept,bN.kept,bN.kept,bN.kept,bN.kept,bN.kept,bN.kept,bN.kept,bN.kept,bN.kept,bN.kept,bN.kept,bN.kept,bN.kept,bN.kept,bN.kept,bN.kept,bN.kept,bN.kept,bN.kept,bN.kept,bN.kept,trivial⟩
 ·refine bd ?_ (bd ?_ (bd ?_ (bd ?_ (bd ?_ (bd ?_ (bd ?_ (bd ?_ (bd ?_ (bd ?_ (bd ?_ (bd ?_ (bd ?_ (bd ?_ (bd ?_ (bd ?_ (bd ?_ (bd ?_ (bd ?_ (bd ?_ (bd ?_ (bd ?_ mV)))))))))))))))))))))
  ·refine bi rfl λf ZL hb H=>?_;have e3:f 3=_:=H 3 (by decide);clear H;have Z7:=Lib.hid hb;clear hb
   go_simp
   exact⟨Z7.out,trivial,rfl⟩
  ·refine bi rfl λf ZL hb H=>?_;have e38:f 38=_:=H 38 (by decide);clear H;have Z7:=Lib.hid hb;have QM:=(Zb.out.grow hb).cell 2;simp only[List.getElem?_cons_zero,List.getElem?_cons_succ]at QM;clear hb
   go_simp
   exact⟨Z7.out,trivial,rfl⟩
  ·refine bi rfl λf ZL hb H=>?_;have e39:f 39=_:=H 39 (by decide);clear H;have Z7:=Lib.hid hb;clear hb
   go_simp
   exact⟨Z7.out,trivial,rfl⟩
  ·refine bi rfl λf ZL hb H=>?_;have e2:f 2=_:=H 2 (by decide);clear H;have Z7:=Lib.hid hb;clear hb
   go_simp
   exact⟨Z7.out,trivial,rfl⟩
  ·refine bi rfl λf ZL hb H=>?_;have e41:f 41=_:=H 41 (by decide);clear H;have Z7:=Lib.hid hb;have QJ:=(W1.out.grow hb).cell 0;simp only[List.getElem?_cons_zero]at QJ;clear hb
   go_simp
   exact⟨Z7.out,trivial,rfl⟩
  ·refine bi rfl λf ZL hb H=>?_;have e3:f 3=_:=H 3 (by decide);clear H;have Z7:=Lib.hid hb;clear hb
   go_simp
   exact⟨Z7.out,trivial,rfl⟩
  ·refine bi rfl λf ZL hb H=>?_;have e43:f 43=_:=H 43 (by decide);clear H;have Z7:=Lib.hid hb;clear hb
   go_simp
   exact⟨Z7.out,trivial,rfl⟩
  ·refine bi rfl λf ZL hb H=>?_;have e44:f 44=_:=H 44 (by decide);clear H;have Z7:=Lib.hid hb;have QK:=(Zb.out.grow hb).cell 0;simp only[List.getElem?_cons_zero,List.getElem?_cons_succ]at QK;clear hb
   go_simp
   exact⟨Z7.out,trivial,rfl⟩
  ·refine bi rfl λf ZL hb H=>?_;have e42:f 42=_:=H 42 (by decide);have e45:f 45=_:=H 45 (by decide);clear H;have Z7:=Lib.hid hb;clear hb
   go_simp
   exact⟨Z7.out,trivial,rfl⟩
  ·refine bi rfl λf ZL hb H=>?_;have e46:f 46=_:=H 46 (by decide);clear H;have Z7:=Lib.hid hb
   have ch:ZL.cell? ⟨bR,oR+k,none⟩=some (.slice (some ⟨bK,oK,none⟩) N cK):=by rw[World.cell?_of_block (hb.block bR (World.block_lt_of_cell? _ _ Un.out) (by simp))];exact Un.out
   clear hb
   go_simp
   exact⟨Z7.out,trivial,rfl⟩
  ·refine bi rfl λf ZL hb H=>?_;have e3:f 3=_:=H 3 (by decide);clear H;have Z7:=Lib.hid hb;clear hb
   go_simp
   exact⟨Z7.out,trivial,rfl⟩
  ·refine bi rfl λf ZL hb H=>?_;have e48:f 48=_:=H 48 (by decide);clear H;have Z7:=Lib.hid hb;clear hb
   go_simp
   exact⟨Z7.out,trivial,rfl⟩
  ·refine bi rfl λf ZL hb H=>?_;have e49:f 49=_:=H 49 (by decide);clear H;have Z7:=Lib.hid hb;have QL:=(Zb.out.grow hb).cell 1;simp only[List.getElem?_cons_zero,List.getElem?_cons_succ]at QL;clear hb
   go_simp
   exact⟨Z7.out,trivial,rfl⟩
  ·refine bi rfl λf ZL hb H=>?_;have e47:f 47=_:=H 47 (by decide);have e50:f 50=_:=H 50 (by decide);clear H;have Z7:=Lib.hid hb;clear hb
   go_simp
   refine(zU bK oK N cK j _ HJ.out.1 HJ.out.2.1 HJ.out.2.2.1 HJ.out.2.2.2).mono ?_;rw[<- Hn.out];rintro e w5 ⟨rfl,Xi⟩;exact⟨_,rfl,bl Z7.out Xi,trivial,rfl⟩
  ·refine bi rfl λf ZL hb H=>?_;have e51:f 51=_:=H 51 (by decide);clear H;have Z7:=Lib.hid hb;clear hb
   go_simp
   exact⟨Z7.out,trivial,rfl⟩
  ·refine bi rfl λf ZL hb H=>?_;have e40:f 40=_:=H 40 (by decide);have e52:f 52=_:=H 52 (by decide);clear H;have Z7:=Lib.hid hb;clear hb
   go_simp
   exact⟨Z7.out,trivial,rfl⟩
  ·refine bi rfl λf ZL hb H=>?_;have e53:f 53=_:=H 53 (by decide);clear H;have Z7:=Lib.hid hb;clear hb
   go_simp
   exact⟨Z7.out,trivial,rfl⟩
  ·refine gd _ _ _ rfl rfl λf ZL hb H=>⟨H 54 (by decide),?_⟩;have e3:f 3=_:=H 3 (by decide);clear H;have Z7:=Lib.hid hb;clear hb
   go_simp
   exact⟨Z7.out,trivial,rfl⟩
  ·refine gd _ _ _ rfl rfl λf ZL hb H=>⟨H 54 (by decide),?_⟩;have e55:f 55=_:=H 55 (by decide);clear H;have Z7:=Lib.hid hb;have Od:=(Zb.out.grow hb).cell 3;have Oe:=(Zb.out.grow hb).cell 4;have Of:=(Zb.out.grow hb).cell 5;have Og:=(Zb.out.grow hb).cell 6;have Oh:=(Zb.out.grow hb).cell 7;have Oi:=(Zb.out.grow hb).cell 8;have Oj:=(Zb.out.grow hb).cell 9;have S3:=(Zb.out.grow hb).cell 10;simp only[List.getElem?_cons_zero,List.getElem?_cons_succ]at Od Oe Of Og Oh Oi Oj S3;clear hb
   go_simp
   exact⟨Z7.out,trivial,rfl⟩
  ·refine gd _ _ _ rfl rfl λf ZL hb H=>⟨H 54 (by decide),?_⟩;have e56:f 56=_:=H 56 (by decide);clear H;have Z7:=Lib.hid hb;clear hb
   go_simp
   refine(HE.out _ (bl Xt.out Z7.out)).mono ?_;rintro e w6 ⟨rfl,O6⟩;exact⟨_,rfl,bl Z7.out O6,trivial,rfl⟩
  ·refine gd _ _ _ rfl rfl λf ZL hb H=>⟨H 54 (by decide),?_⟩;have e57:f 57=_:=H 57 (by decide);clear H;have Z7:=Lib.hid hb;clear hb
   go_simp
   exact⟨Z7.out,trivial,rfl⟩
  ·refine bi rfl λf ZL hb H=>?_;have e54:f 54=_:=H 54 (by decide);have e58:f 58=_:=H 58 (by decide);clear H;have Z7:=Lib.hid hb;clear hb
   go_simp
   exact⟨Z7.out,trivial,rfl⟩
 ·intro f w9 hb hE;simp only[gc,Act.put,zB,List.setIfInBounds_toArray,List.set_cons_succ,List.set_cons_zero];have QP:f 59=.bool true:=hE.2.2.2.2.2.2.2.2.2.2.2.2.2.2.2.2.2.2.2.2.2.1;clear hE;have ZF:=hb;clear hb;rw[QP];have ZO:=V9.out.grow ZF;have Y5:=ZO.cell 0;have Y6:=ZO.cell 1;have WM:=ZO.free 0;have f41:=ZO.free 1;have q4:=ZO.hi;simp only[List.getElem?_cons_zero,List.getElem?_cons_succ]at Y5 Y6
  go_wp2_with fail
  refine bodyPost_ret (v:=.tuple #[.agg #[.slice none 0 0,.slice none 0 0],.int .i64 5]) (by simp[results,Tryz.results34,go_sem,Y5,Y6,q4]) rfl ?_;exact⟨rfl,grown_set (grown_set (bl Xt.out ZF) (.inr (by dsimp only;omega)) _) (.inr (by dsimp only;omega)) _⟩
section
variable {P:Program} {ops:Array Oper} {rest:List Oper} {o:Oper} {a:Act} {Q:Exit->Act->World->Prop} {w:World}
theorem pI(k:Nat)(Ye:o.guard=none)(d s:Operand)(t e:TypeId)(ho:o.op=.call { callee:=.builtin .copy,args:=#[d,s],argTypes:=#[t,t] })
 (hu:P.underlying t=some (.slice e))(hsz:(P.info? e).map (·.size)=some k)(g off Xe Ur:Nat)(hd:a.eval d=.slice (some ⟨g,off,none⟩) Xe Ur)(ad:Addr)(Zv Yp:Nat)(hs:a.eval s=.slice (some ad) Zv Yp)
 (cur:Array Value)(t':TypeId)(cs:List Value)(hg:w.heap[g]?=some (.cells cur t' (0,0)))(hn:cs.length=Nat.min Zv Xe*k)
 (Yi:∀j v,cs[j]?=some v->w.cell? (ad.add j)=some v)(hfit:off+cs.length<=cur.size)(h1:∀v∈cs,v.oneCell'=true)
 (h:wpList P ops Q rest (a.put o.dst (goInt (Nat.min Zv Xe))) (w.setRow g (cur.toList.take off++cs++cur.toList.drop (off+cs.length)).toArray)):wpList P ops Q (o::rest) a w:=by
 refine wpList_plain Ye λK hK=>?_;have hrun:=tK (P:=P) k w t t o.type e g off Xe Ur ad Zv Yp cur t' cs hu hsz hg hn Yi hfit h1;unfold Oper.wp;simp[execOp,ho,resolve,invoke,builtin,hs,hd,hrun,Result.andThen];simp only[List.append_assoc]at h;exact hK _ _ h
end
def cnC(c:Cn4):List Value:=[.int .u8 c.1,.int .u16 c.2.1,.int .i64 c.2.2.1,.int .i64 c.2.2.2]
def cnL(xs:List Cn4):List Value:=(xs.map cnC).flatten
theorem wT(xs ys:List Cn4):cnL (xs++ys)=cnL xs++cnL ys:=by simp[cnL]
theorem n9(xs:List Cn4):(cnL xs).length=xs.length*4:=by
 induction xs with
 |nil=>rfl
 |cons x xs ih=>
  have:cnL (x::xs)=cnC x++cnL xs:=rfl;rw[this,List.length_append,ih,oLC];simp[cnC];omega
theorem IT(xs:List Cn4)(n:Nat):(cnL xs).take (n*4)=cnL (xs.take n):=by
 by_cases h:n<=xs.length
 ·have h2:cnL xs=cnL (xs.take n)++cnL (xs.drop n):=by rw[<- wT,List.take_append_drop]
  rw[h2];exact List.take_left' (by rw[n9,oLT,Nat.min_eq_left h])
 ·rw[List.take_of_length_le (by rw[n9];omega),List.take_of_length_le (by omega)]
theorem IU(xs:List Cn4)(n:Nat):(cnL xs).drop (n*4)=cnL (xs.drop n):=by
 by_cases h:n<=xs.length
 ·have h2:cnL xs=cnL (xs.take n)++cnL (xs.drop n):=by rw[<- wT,List.take_append_drop]
  rw[h2];exact List.drop_left' (by rw[n9,oLT,Nat.min_eq_left h])
 ·rw[List.drop_of_length_le (by rw[n9];omega),List.drop_of_length_le (by omega)];rfl
theorem KW(xs:List Cn4):∀v∈cnL xs,v.oneCell'=true:=by
 intro v hv;obtain⟨l,hl,hv⟩:=List.mem_flatten.1 hv;obtain⟨c,_,rfl⟩:=List.mem_map.1 hl;simp only[cnC,List.mem_cons,List.not_mem_nil,or_false]at hv
 rcases hv with rfl|rfl|rfl|rfl<;>rfl
theorem zM{w:World}{F:Nat->Prop}:∀{xs:List Cn4}{cs:List Value},eZ rCn w F xs cs->cs=cnL xs
 | [],_,h=>h
 |x::r,_,⟨c,d,e,h1,h2⟩=>by rw[e,Mv h1,zM h2];rfl
theorem FH{w:World}:∀{xs:List Cn4}{fp:List Nat}{cs:List Value},jp rCn w fp xs cs->fp=[]
 | [],_,_,h=>h.2
 |x::r,_,_,⟨c,d,f,g,_,e',h1,h2⟩=>by
  obtain⟨_,_,f1,f2,_,e1,⟨rfl,_⟩,_,_,f3,f4,_,e2,⟨rfl,_⟩,_,_,f5,f6,_,e3,⟨rfl,_⟩,⟨rfl,_⟩⟩:=h1;rw[e',e1,e2,e3,FH h2];rfl
theorem Gz(w:World):∀(xs:List Cn4),jp rCn w [] xs (cnL xs)
 | []=>⟨rfl,rfl⟩
 |x::r=>⟨cnC x,cnL r,[],[],rfl,rfl,AE (Na (w:=w) (F:=λ_=>True) x) w,Gz w r⟩
theorem zH(w:World)(q:Nat)(cs:Array Value):(w.setRow q cs).heap.size=w.heap.size:=by simp[World.setRow]
def jz(row:List Cn4)(j:Nat)(cells:List Cn4):List Cn4:=row.take (8*j)++cells++row.drop (8*j+cells.length)
theorem C9{row cells:List Cn4}{j:Nat}(h:8*j+cells.length<=row.length):(jz row j cells).length=row.length:=by
 simp[jz];omega
set_option maxRecDepth 100000 in
set_option maxHeartbeats 4000000 in
theorem E4(F:Nat->Prop)(C:List (List Cn4))(T:List Vw8)(k j:Nat)(cells:List Cn4)(v0 v1 v2 v3 v4 v5 v6:Int)(L:List Cn4)(U V Y Z:Value)(w:World)(fe:Int)
 (hu:RSl rCs w F C U)(hv:RSl rVw w F T V)(hy:RSl rCn w F cells Y)(hz:RSl rCn w F L Z)
 (ZR:∀w',w.grownBy w' none->Calls Tryz.prog 55 #[.agg #[U,V],.agg #[.int .i64 k,.int .i64 j]] w' λe w2=>e=.returned (.int .i64 fe)/\w'.grownBy w2 none)
 (eb:Bool)(Zy:∀w',w.grownBy w' none->Calls Tryz.prog 62 #[.agg #[.int .i64 v0,.int .i64 v1,.int .i64 v2,.int .i64 v3,.int .i64 v4,.int .i64 v5,.int .u16 v6,Z]] w' λe w2=>e=.returned (.bool eb)/\w'.grownBy w2 none)(h0:fe=0)(hk:k<C.length)(hj:j<=32)(Xx:8*j<C[k].length)(hc:cells.length=min 8 (C[k].length-8*j))(he:eb=true):
 Calls Tryz.prog 34 #[.agg #[U,V],.agg #[.int .i64 k,.int .i64 j,Y,.int .i64 v0,.int .i64 v1,.int .i64 v2,.int .i64 v3,.int .i64 v4,.int .i64 v5,.int .u16 v6,Z]] w (Cx (C.set k (jz C[k] j cells)) T w):=by
 subst h0;subst he;have Hc:=Lib.hid hc;clear hc;have HU:=Lib.hid hu;have HV:=Lib.hid hv;have HY:=Lib.hid hy;have HZ:=Lib.hid hz;obtain⟨A1,c1,rfl,_,_,TP⟩:=hu.size_eq;obtain⟨A2,c2,rfl,_,_,TY⟩:=hv.size_eq;obtain⟨A3,c3,rfl,_,_,hcl⟩:=hy.size_eq;obtain⟨A4,c4,rfl,_,_,TW⟩:=hz.size_eq;have HF:=Lib.hid ZR;clear hu hv hy hz ZR
 go_enter Tryz.func34,Tryz.ntmps34
 go_upto_region 1 with fail
 have Zj:w.grownBy (((w.alloc (.cells #[.slice A1 C.length c1,.slice A2 T.length c2] 30)).alloc (.cells #[.int .i64 k,.int .i64 j,.slice A3 cells.length c3,.int .i64 v0,.int .i64 v1,.int .i64 v2,.int .i64 v3,.int .i64 v4,.int .i64 v5,.int .u16 v6,.slice A4 L.length c4] 48)).alloc (.cells #[.slice none 0 0,.slice none 0 0] 30)) none:=bf (bf (bf (bg w none) _) _) _;have Z':Bk (((w.alloc (.cells #[.slice A1 C.length c1,.slice A2 T.length c2] 30)).alloc (.cells #[.int .i64 k,.int .i64 j,.slice A3 cells.length c3,.int .i64 v0,.int .i64 v1,.int .i64 v2,.int .i64 v3,.int .i64 v4,.int .i64 v5,.int .u16 v6,.slice A4 L.length c4] 48)).alloc (.cells #[.slice none 0 0,.slice none 0 0] 30)) w.heap.size 30 [.slice A1 C.length c1,.slice A2 T.length c2]:=(Bk.new.grow (bf (bg _ _) _)).grow (bf (bg _ _) _)
 have Z9:Bk (((w.alloc (.cells #[.slice A1 C.length c1,.slice A2 T.length c2] 30)).alloc (.cells #[.int .i64 k,.int .i64 j,.slice A3 cells.length c3,.int .i64 v0,.int .i64 v1,.int .i64 v2,.int .i64 v3,.int .i64 v4,.int .i64 v5,.int .u16 v6,.slice A4 L.length c4] 48)).alloc (.cells #[.slice none 0 0,.slice none 0 0] 30)) (w.heap.size+1) 48 [.int .i64 k,.int .i64 j,.slice A3 cells.length c3,.int .i64 v0,.int .i64 v1,.int .i64 v2,.int .i64 v3,.int .i64 v4,.int .i64 v5,.int .u16 v6,.slice A4 L.length c4]:=by
  have h:=(Bk.new (w:=w.alloc (.cells #[.slice A1 C.length c1,.slice A2 T.length c2] 30)) (t:=48) (vs:=[.int .i64 k,.int .i64 j,.slice A3 cells.length c3,.int .i64 v0,.int .i64 v1,.int .i64 v2,.int .i64 v3,.int .i64 v4,.int .i64 v5,.int .u16 v6,.slice A4 L.length c4])).grow (bf (bg _ _) (.cells #[.slice none 0 0,.slice none 0 0] 30));simpa using h
 have ZO:Bk (((w.alloc (.cells #[.slice A1 C.length c1,.slice A2 T.length c2] 30)).alloc (.cells #[.int .i64 k,.int .i64 j,.slice A3 cells.length c3,.int .i64 v0,.int .i64 v1,.int .i64 v2,.int .i64 v3,.int .i64 v4,.int .i64 v5,.int .u16 v6,.slice A4 L.length c4] 48)).alloc (.cells #[.slice none 0 0,.slice none 0 0] 30)) (w.heap.size+2) 30 [.slice none 0 0,.slice none 0 0]:=by
  have h:=Bk.new (w:=(w.alloc (.cells #[.slice A1 C.length c1,.slice A2 T.length c2] 30)).alloc (.cells #[.int .i64 k,.int .i64 j,.slice A3 cells.length c3,.int .i64 v0,.int .i64 v1,.int .i64 v2,.int .i64 v3,.int .i64 v4,.int .i64 v5,.int .u16 v6,.slice A4 L.length c4] 48)) (t:=30) (vs:=[.slice none 0 0,.slice none 0 0]);simpa using h
 have hsz:(((w.alloc (.cells #[.slice A1 C.length c1,.slice A2 T.length c2] 30)).alloc (.cells #[.int .i64 k,.int .i64 j,.slice A3 cells.length c3,.int .i64 v0,.int .i64 v1,.int .i64 v2,.int .i64 v3,.int .i64 v4,.int .i64 v5,.int .u16 v6,.slice A4 L.length c4] 48)).alloc (.cells #[.slice none 0 0,.slice none 0 0] 30)).heap.size=w.heap.size+3:=by simp
 generalize((w.alloc (.cells #[.slice A1 C.length c1,.slice A2 T.length c2] 30)).alloc (.cells #[.int .i64 k,.int .i64 j,.slice A3 cells.length c3,.int .i64 v0,.int .i64 v1,.int .i64 v2,.int .i64 v3,.int .i64 v4,.int .i64 v5,.int .u16 v6,.slice A4 L.length c4] 48)).alloc (.cells #[.slice none 0 0,.slice none 0 0] 30)=W at *;have a20:=Z'.cell 0;have a21:=Z'.cell 1;have Xc:=Z9.cell 0;have Xd:=Z9.cell 1;simp only[List.getElem?_cons_zero,List.getElem?_cons_succ]at a20 a21 Xc Xd
 go_wp2_with fail
 refine(HF.out W Zj).mono ?_;rintro e w1 ⟨rfl,Z0⟩;have Xt:=Lib.hid (bl Zj Z0);have Zd:=Z0.size;have Z':=Z'.grow Z0;have Z9:=Z9.grow Z0;have ZO:=ZO.grow Z0;have WY:=Z'.cell 0;have X0:=Z'.cell 1;have Yb:=Z9.cell 0;have Xr:=Z9.cell 1;have Yj:=Z9.cell 2;have WD:=Z9.cell 3;have WE:=Z9.cell 4;have WG:=Z9.cell 5;have WH:=Z9.cell 6;have WI:=Z9.cell 7;have WJ:=Z9.cell 8;have WK:=Z9.cell 9;have YF:=Z9.cell 10;have Y5:=ZO.cell 0;have Y6:=ZO.cell 1;have WM:=ZO.free 0;have f41:=ZO.free 1;have q4:=ZO.hi;simp only[List.getElem?_cons_zero,List.getElem?_cons_succ]at WY X0 Yb Xr Yj WD WE WG WH WI WJ WK YF Y5 Y6;have W1:=Lib.hid Z';have Zb:=Lib.hid Z9;have V9:=Lib.hid ZO;have HS:=Lib.hid hsz;clear Z' Z9 ZO Zj Z0 HF a20 a21 Xc Xd
 have Rr:((k:Int)==-1)=false:=by simp
 have VE:¬(k:Int)=-1:=by omega
 have HE:=Lib.hid (λW hg=>Zy W hg);clear Zy;obtain⟨bR,oR,cR,ds,QW,hR1,SE,_,QU,TX⟩:=(HU.out.grow Xt.out).at_ hk
 injection QW with Vo QX Vp
 subst Vo;subst Vp;obtain⟨hdr,rfl,ZP⟩:=QU;have Ww:=TX 0 _ rfl;rw[show oR+(k*rCs.size+0)=oR+k by rw[show rCs.size=1 from rfl,Nat.mul_one,Nat.add_zero]]at Ww;obtain⟨AK,cK,rfl,Vk,TU,Vl⟩:=ZP.size_eq;have QR:=ZP;obtain⟨bK,oK,cK',xs,QS,_,_,_,_,_⟩:=ZP.at_ (k:=8*j) Xx
 injection QS with Vm QT Vn
 subst Vm;subst Vn;obtain⟨N,hN⟩:∃N,N=C[k].length:=⟨_,rfl⟩;rw[<- hN]at Xx Vk Vl Ww;have W4:=Lib.hid hN;clear hN QR ZP TX
 have y1:(0:Int)<=(k:Int):=by omega
 have y2:(k:Int)<(C.length:Int):=by omega
 have y3:(k:Int).toNat=k:=by omega
 obtain⟨n,hn⟩:∃n,n=min 8 (N-8*j):=⟨_,rfl⟩;have Hn:=Lib.hid hn;have HJ:=Lib.hid (And.intro hj (And.intro Xx (And.intro Vk Vl)));clear hn hj Xx Vk TU Vl hcl VE
 go_upto_region 10 with fail
 have HK:=Lib.hid hk
 have hcn:((cells.length:Int) != (n:Int))=false:=by
  have h1:=Hc.out;rw[<- W4.out,<- Hn.out]at h1;simp;omega
 clear Y5 Y6 WM f41 q4;have Un:=Lib.hid Ww;clear Ww
 refine hJ (λw'=>w1.grownBy w' none) (λ_ _=>True)
  [bN (.pointer (some ⟨w.heap.size+1,2,none⟩)),bN (.slice A3 cells.length c3),bN (.int .i64 cells.length),bN (.pointer (some ⟨w.heap.size,0,none⟩)),bN (.slice (some ⟨bR,oR,none⟩) C.length c1),bN (.pointer (some ⟨w.heap.size+1,0,none⟩)),bN (.pointer (some ⟨w.heap.size+1,0,none⟩)),bN (.int .i64 k),bN (.pointer (some ⟨bR,oR+k,none⟩)),bN (.slice (some ⟨bK,oK,none⟩) N cK),bN (.pointer (some ⟨w.heap.size+1,0,none⟩)),bN (.pointer (some ⟨w.heap.size+1,1,none⟩)),bN (.int .i64 j),bN (.slice (some ⟨bK,oK+8*j*4,none⟩) n (cK-8*j)),bN (.int .i64 n),bN (.bool false),bN (.bool false),bN (.pointer (some ⟨w.heap.size+1,3,none⟩)),bN (.agg #[.int .i64 v0,.int .i64 v1,.int .i64 v2,.int .i64 v3,.int .i64 v4,.int .i64 v5,.int .u16 v6,.slice A4 L.length c4]),bN (.bool true),bN (.bool false),bN (.bool false)]
  78 (by kernel_rfl) rfl (by kernel_rfl) (cD (bg _ _)) (λ_=>trivial) ?_ ?_ ?_
 ·exact⟨bN.kept,bN.kept,bN.kept,bN.kept,bN.kept,bN.kept,bN.kept,bN.kept,bN.kept,bN.kept,bN.kept,bN.kept,bN.kept,bN.kept,bN.kept,bN.kept,bN.kept,bN.kept,bN.kept,bN.kept,bN.kept,bN.kept,trivial⟩
 ·refine bd ?_ (bd ?_ (bd ?_ (bd ?_ (bd ?_ (bd ?_ (bd ?_ (bd ?_ (bd ?_ (bd ?_ (bd ?_ (bd ?_ (bd ?_ (bd ?_ (bd ?_ (bd ?_ (bd ?_ (bd ?_ (bd ?_ (bd ?_ (bd ?_ (bd ?_ mV)))))))))))))))))))))
  ·refine bi rfl λf ZL hb H=>?_;have e3:f 3=_:=H 3 (by decide);clear H;have Z7:=Lib.hid hb;clear hb
   go_simp
   exact⟨Z7.out,trivial,rfl⟩
  ·refine bi rfl λf ZL hb H=>?_;have e38:f 38=_:=H 38 (by decide);clear H;have Z7:=Lib.hid hb;have QM:=(Zb.out.grow hb).cell 2;simp only[List.getElem?_cons_zero,List.getElem?_cons_succ]at QM;clear hb
   go_simp
   exact⟨Z7.out,trivial,rfl⟩
  ·refine bi rfl λf ZL hb H=>?_;have e39:f 39=_:=H 39 (by decide);clear H;have Z7:=Lib.hid hb;clear hb
   go_simp
   exact⟨Z7.out,trivial,rfl⟩
  ·refine bi rfl λf ZL hb H=>?_;have e2:f 2=_:=H 2 (by decide);clear H;have Z7:=Lib.hid hb;clear hb
   go_simp
   exact⟨Z7.out,trivial,rfl⟩
  ·refine bi rfl λf ZL hb H=>?_;have e41:f 41=_:=H 41 (by decide);clear H;have Z7:=Lib.hid hb;have QJ:=(W1.out.grow hb).cell 0;simp only[List.getElem?_cons_zero]at QJ;clear hb
   go_simp
   exact⟨Z7.out,trivial,rfl⟩
  ·refine bi rfl λf ZL hb H=>?_;have e3:f 3=_:=H 3 (by decide);clear H;have Z7:=Lib.hid hb;clear hb
   go_simp
   exact⟨Z7.out,trivial,rfl⟩
  ·refine bi rfl λf ZL hb H=>?_;have e43:f 43=_:=H 43 (by decide);clear H;have Z7:=Lib.hid hb;clear hb
   go_simp
   exact⟨Z7.out,trivial,rfl⟩
  ·refine bi rfl λf ZL hb H=>?_;have e44:f 44=_:=H 44 (by decide);clear H;have Z7:=Lib.hid hb;have QK:=(Zb.out.grow hb).cell 0;simp only[List.getElem?_cons_zero,List.getElem?_cons_succ]at QK;clear hb
   go_simp
   exact⟨Z7.out,trivial,rfl⟩
  ·refine bi rfl λf ZL hb H=>?_;have e42:f 42=_:=H 42 (by decide);have e45:f 45=_:=H 45 (by decide);clear H;have Z7:=Lib.hid hb;clear hb
   go_simp
   exact⟨Z7.out,trivial,rfl⟩
  ·refine bi rfl λf ZL hb H=>?_;have e46:f 46=_:=H 46 (by decide);clear H;have Z7:=Lib.hid hb
   have ch:ZL.cell? ⟨bR,oR+k,none⟩=some (.slice (some ⟨bK,oK,none⟩) N cK):=by rw[World.cell?_of_block (hb.block bR (World.block_lt_of_cell? _ _ Un.out) (by simp))];exact Un.out
   clear hb
   go_simp
   exact⟨Z7.out,trivial,rfl⟩
  ·refine bi rfl λf ZL hb H=>?_;have e3:f 3=_:=H 3 (by decide);clear H;have Z7:=Lib.hid hb;clear hb
   go_simp
   exact⟨Z7.out,trivial,rfl⟩
  ·refine bi rfl λf ZL hb H=>?_;have e48:f 48=_:=H 48 (by decide);clear H;have Z7:=Lib.hid hb;clear hb
   go_simp
   exact⟨Z7.out,trivial,rfl⟩
  ·refine bi rfl λf ZL hb H=>?_;have e49:f 49=_:=H 49 (by decide);clear H;have Z7:=Lib.hid hb;have QL:=(Zb.out.grow hb).cell 1;simp only[List.getElem?_cons_zero,List.getElem?_cons_succ]at QL;clear hb
   go_simp
   exact⟨Z7.out,trivial,rfl⟩
  ·refine bi rfl λf ZL hb H=>?_;have e47:f 47=_:=H 47 (by decide);have e50:f 50=_:=H 50 (by decide);clear H;have Z7:=Lib.hid hb;clear hb
   go_simp
   refine(zU bK oK N cK j _ HJ.out.1 HJ.out.2.1 HJ.out.2.2.1 HJ.out.2.2.2).mono ?_;rw[<- Hn.out];rintro e w5 ⟨rfl,Xi⟩;exact⟨_,rfl,bl Z7.out Xi,trivial,rfl⟩
  ·refine bi rfl λf ZL hb H=>?_;have e51:f 51=_:=H 51 (by decide);clear H;have Z7:=Lib.hid hb;clear hb
   go_simp
   exact⟨Z7.out,trivial,rfl⟩
  ·refine bi rfl λf ZL hb H=>?_;have e40:f 40=_:=H 40 (by decide);have e52:f 52=_:=H 52 (by decide);clear H;have Z7:=Lib.hid hb;clear hb
   go_simp
   exact⟨Z7.out,trivial,rfl⟩
  ·refine bi rfl λf ZL hb H=>?_;have e53:f 53=_:=H 53 (by decide);clear H;have Z7:=Lib.hid hb;clear hb
   go_simp
   exact⟨Z7.out,trivial,rfl⟩
  ·refine gd _ _ _ rfl rfl λf ZL hb H=>⟨H 54 (by decide),?_⟩;have e3:f 3=_:=H 3 (by decide);clear H;have Z7:=Lib.hid hb;clear hb
   go_simp
   exact⟨Z7.out,trivial,rfl⟩
  ·refine gd _ _ _ rfl rfl λf ZL hb H=>⟨H 54 (by decide),?_⟩;have e55:f 55=_:=H 55 (by decide);clear H;have Z7:=Lib.hid hb;have Od:=(Zb.out.grow hb).cell 3;have Oe:=(Zb.out.grow hb).cell 4;have Of:=(Zb.out.grow hb).cell 5;have Og:=(Zb.out.grow hb).cell 6;have Oh:=(Zb.out.grow hb).cell 7;have Oi:=(Zb.out.grow hb).cell 8;have Oj:=(Zb.out.grow hb).cell 9;have S3:=(Zb.out.grow hb).cell 10;simp only[List.getElem?_cons_zero,List.getElem?_cons_succ]at Od Oe Of Og Oh Oi Oj S3;clear hb
   go_simp
   exact⟨Z7.out,trivial,rfl⟩
  ·refine gd _ _ _ rfl rfl λf ZL hb H=>⟨H 54 (by decide),?_⟩;have e56:f 56=_:=H 56 (by decide);clear H;have Z7:=Lib.hid hb;clear hb
   go_simp
   refine(HE.out _ (bl Xt.out Z7.out)).mono ?_;rintro e w6 ⟨rfl,O6⟩;exact⟨_,rfl,bl Z7.out O6,trivial,rfl⟩
  ·refine gd _ _ _ rfl rfl λf ZL hb H=>⟨H 54 (by decide),?_⟩;have e57:f 57=_:=H 57 (by decide);clear H;have Z7:=Lib.hid hb;clear hb
   go_simp
   exact⟨Z7.out,trivial,rfl⟩
  ·refine bi rfl λf ZL hb H=>?_;have e54:f 54=_:=H 54 (by decide);have e58:f 58=_:=H 58 (by decide);clear H;have Z7:=Lib.hid hb;clear hb
   go_simp
   exact⟨Z7.out,trivial,rfl⟩
 ·intro f w9 hb hE;simp only[gc,Act.put,zB,List.setIfInBounds_toArray,List.set_cons_succ,List.set_cons_zero];have QP:f 59=.bool false:=hE.2.2.2.2.2.2.2.2.2.2.2.2.2.2.2.2.2.2.2.2.2.1;clear hE;have ZF:=hb;clear hb;rw[QP];have N2:=Lib.hid (bl Xt.out ZF);have WY:=(W1.out.grow ZF).cell 0;have X0:=(W1.out.grow ZF).cell 1;simp only[List.getElem?_cons_zero,List.getElem?_cons_succ]at WY X0;have Zb:=Lib.hid (Zb.out.grow ZF);have V9:=Lib.hid (V9.out.grow ZF);have PD:=ZF.size;clear ZF Un
  go_wp2_with fail
  refine(mn F C T _ _ w9 (HU.out.grow N2.out) (HV.out.grow N2.out)).mono ?_;rintro e w2 ⟨a,b,fp,gp,rfl,oa,ob,ZN,XT,ZH⟩;obtain⟨A6,c6,rfl⟩:=ob.shape;have HOA:=Lib.hid oa;obtain⟨hbA,⟨e1,e2,_⟩|⟨ql,cl,cs,g,rfl,e2,l1,l2,hV,hO⟩⟩:=oa
  ·rw[e2]at y2;simp at y2;omega
  obtain⟨g1,g2,g3,d1,d2,d3,e3,e4,l3,o1,o2,o3⟩:=hO.split HK.out;obtain⟨hdr,rfl,P2⟩:=o2;obtain⟨OM,⟨_,e5,_⟩|⟨qK,TO,xs,g4,rfl,e6,m1,m2,OG,OF⟩⟩:=P2
  ·have h1:=W4.out;have h2:=HJ.out.2.1;rw[e5]at h1;simp at h1;omega
  have YS:=FH OF;subst YS;have PR:=zM (OF.reads);subst PR;rw[<- W4.out]at e4;rw[e4,List.append_assoc]at hV;have Yt:w2.grownBy (w2.alloc (.cells #[.slice (some ⟨ql,0,none⟩) C.length cl,.slice A6 T.length c6] 30)) none:=bf (bg _ _) _;have V3:Bk (w2.alloc (.cells #[.slice (some ⟨ql,0,none⟩) C.length cl,.slice A6 T.length c6] 30)) w2.heap.size 30 [.slice (some ⟨ql,0,none⟩) C.length cl,.slice A6 T.length c6]:=Bk.new;have UC:=bl N2.out (bl ZH Yt);have Z9:=(Zb.out.grow ZH).grow Yt;have V9:=Lib.hid ((V9.out.grow ZH).grow Yt);have YZ:=ZH.size;have Pz:=XT ql (by rw[e2];simp)
  have hqK:qK∈fp:=by rw[e2,e3,e6];simp
  have hqKlo:=XT qK (List.mem_append_left _ hqK);have RS:=hV.hi;have aC:=OG.hi
  have hnq:qK≠ql:=λe=>by
   have h1:=(List.nodup_append.1 ZN).1;rw[e2,e3,e6]at h1;exact(List.nodup_cons.1 h1).1 (by rw[<- e];simp)
  have N3:=Lib.hid (And.intro ZN (And.intro XT (And.intro e2 (And.intro e3 (And.intro e6 (And.intro o1 (And.intro o3 ob)))))));have HVQ:=Lib.hid (hV.grow Yt);have HVK:=Lib.hid (OG.grow Yt);have HL:=Lib.hid (show d1.length=k from by rw[l3];exact Nat.mul_one k);have QE:=Lib.hid UC;have Vg:=Lib.hid Yt;have HNK:=Lib.hid (show N<=TO from by rw[W4.out];exact m1);have Hm2:=Lib.hid m2;clear WY X0 ZN XT e2 e3 e4 e6 o1 o3 ob l3 hO OF hV OG hbA OM m1 m2 hqK ZH W1 Zb
  go_upto_region 13 with fail
  generalize w2.alloc (.cells #[.slice (some ⟨ql,0,none⟩) C.length cl,.slice A6 T.length c6] 30)=W3 at *;generalize hq7:w2.heap.size=q7 at *;have Zb:=Lib.hid Z9;have QB:=Lib.hid V3;have n0:=V3.cell 0;have Yb:=Z9.cell 0;have Xr:=Z9.cell 1;have Yj:=Z9.cell 2;simp only[List.getElem?_cons_zero,List.getElem?_cons_succ]at n0 Yb Xr Yj
  have nk:W3.cell? ⟨ql,k,none⟩=some (.slice (some ⟨qK,0,none⟩) N TO):=by
   have h:=HVQ.out.mid (j:=0) (u:=.slice (some ⟨qK,0,none⟩) N TO) rfl;rw[HL.out,Nat.add_zero]at h;exact h
  have Vz:0<cells.length:=by
   have h1:=Hc.out;have h2:=HJ.out.2.1;rw[<- W4.out]at h1;omega
  rcases(HY.out.grow QE.out).cells with⟨h0,_⟩|⟨ad,cc,ys,hye,PV,NJ,NK⟩
  ·rw[h0]at Vz;cases Vz
  injection hye with PT hye2 PU
  subst PT;subst PU;have X8:=zM NK;subst X8;have HYC:=Lib.hid NJ;have S1:=Lib.hid (show cells.length=n from by have h1:=Hc.out;rw[<- W4.out,<- Hn.out]at h1;exact h1);clear NJ PV NK Z9 V3 Yt UC Vz
  have j2:(j:Int).toNat=j:=by omega
  have j3:(0:Int)<=(j:Int):=by omega
  go_cut []from 63 to 77 (λwx=>Ls (C.set k (jz C[k] j cells)) T w q7 (.slice (some ⟨ql,0,none⟩) C.length cl) (.slice A6 T.length c6) wx)
  case first=>
   go_still_tail 13,(by kernel_rfl)
   still_call (FD qK 0 N TO j _ HJ.out.1 HJ.out.2.1 HNK.out HJ.out.2.2.2)
   rw[<- Hn.out]
   repeat still_step
   refine wpStill_nil ?_;obtain⟨cur,v1,v2,v3⟩:=HVK.out.eq
   have SG:(cnL cells).length=n*4:=by rw[n9,S1.out]
   have hr4:rCn.size=4:=rfl
   have Qw:(cnL C[k]).length=N*4:=by rw[n9];exact congrArg (· * 4) W4.out.symm
   have h8n:8*j+n<=N:=by
    have h1:=Hn.out;have h2:=HJ.out.2.1;omega
   have hNK:=HNK.out;change wpList _ _ _ _ _ W3.drew;refine pI 4 rfl (.tmp 73) (.tmp 75) 43 50 rfl Tryz.underlying43 (by kernel_rfl) qK (8*j*4) n (TO-8*j) rfl ad cells.length c3 rfl cur 50 (cnL cells) v1 ?c1 ?c2 ?c3 (KW _) ?_
   case c1=>rw[S1.out,SG];simp
   case c2=>exact λj u hu=>HYC.out j u hu
   case c3=>rw[SG,v2,hr4];omega
   have hL:=xg (e:=50) (w:=W3.drew) (cs:=cnL cells) (o:=8*j*4) v1 v2 v3 (by rw[SG];exact Nat.le_trans (by omega) (Nat.le_of_eq Qw.symm))
   have ZP:(cnL C[k]).take (8*j*4)++cnL cells++(cnL C[k]).drop (8*j*4+(cnL cells).length)=cnL (jz C[k] j cells):=by
    have e2:8*j*4+(cnL cells).length=(8*j+cells.length)*4:=by rw[n9];omega
    rw[e2,IT,IU,jz,wT,wT]
   have OE:lN 50 (W3.drew.setRow qK (cur.toList.take (8*j*4)++cnL cells++cur.toList.drop (8*j*4+(cnL cells).length)).toArray) qK (TO*rCn.size) (cnL (jz C[k] j cells)):=by rw[<- ZP];exact hL
   obtain⟨WF,QY⟩:∃WF,WF=(W3.drew.setRow qK (cur.toList.take (8*j*4)++cnL cells++cur.toList.drop (8*j*4+(cnL cells).length)).toArray):=⟨_,rfl⟩;rw[<- QY]at OE⊢
   have hset:∀x,x≠qK->WF.heap[x]?=W3.heap[x]?:=λx hx=>by rw[QY];exact setRow_other W3.drew qK x _ hx
   have hsz:WF.heap.size=W3.heap.size:=by rw[QY];exact zH W3.drew qK _
   have TG:WF.os=W3.os/\WF.tape=W3.tape/\WF.output=W3.output:=by rw[QY];exact⟨rfl,rfl,rfl⟩
   clear QY;have YT:W3.grownBy WF (some qK):=⟨TG.1,TG.2.1,TG.2.2,Nat.le_of_eq hsz.symm,λx _ hx=>hset x (λe=>hx (by rw[e]))⟩
   have S0:=Lib.hid (show Ls (C.set k (jz C[k] j cells)) T w q7 (.slice (some ⟨ql,0,none⟩) C.length cl) (.slice A6 T.length c6) WF from by
    obtain⟨ZN,XT,e2,e3,e6,o1,o3,ob⟩:=N3.out;have O':=Vg.out.size;have hlen:=C9 (row:=C[k]) (j:=j) (cells:=cells) (by rw[S1.out];exact Nat.le_trans h8n (Nat.le_of_eq W4.out));have VF:(jz C[k] j cells).length=N:=hlen.trans W4.out.symm;have UJ:∀x,x∈fp->w9.heap.size+2<=x:=λx hx=>XT x (List.mem_append_left _ hx);have hfn:=(List.nodup_append.1 ZN).1
    have Ql:(ql::(g1++(qK :: [])++g3)).Nodup:=by rw[e2,e3,e6]at hfn;exact hfn
    have hin:∀x,x∈g1++(qK :: [])++g3->x∈fp:=λx hx=>by rw[e2,e3,e6];exact List.mem_cons_of_mem _ hx
    have Z0:∀x,x∈g1->x≠qK:=λx hx e=>by
     have h1:=(List.nodup_cons.1 Ql).2;rw[List.append_assoc]at h1;exact(List.nodup_append.1 h1).2.2 x hx qK (by simp) e
    have O5:∀x,x∈g3->x≠qK:=λx hx e=>by
     have h1:=(List.nodup_cons.1 Ql).2;exact(List.nodup_append.1 h1).2.2 qK (by simp) x hx e.symm
    have Pa:∀x,x∈gp->x≠qK:=λx hx e=>(List.nodup_append.1 ZN).2.2 qK (hin qK (by simp)) x hx e.symm
    have YN:∀x,x<w2.heap.size->x≠qK->WF.heap[x]?=w2.heap[x]?:=λx h1 h2=>by rw[hset x h2,Vg.out.block x h1 (by simp)]
    have hss:=HS.out;refine⟨fN QE.out YT λk e=>by injection e with e;omega,V9.out.keep (hset _ (by omega)),QB.out.keep (hset _ (by omega)),?_,?_⟩
    ·have hown:OSl rCs 43 WF (ql::(g1++(qK :: [])++g3)) (C.set k (jz C[k] j cells)) (.slice (some ⟨ql,0,none⟩) C.length cl):=by
      refine⟨by rw[List.length_set];exact TP,.inr ⟨ql,cl,d1++[.slice (some ⟨qK,0,none⟩) N TO]++d3,g1++(qK :: [])++g3,by rw[List.length_set],rfl,by rw[List.length_set];exact l1,l2,?_,jp.join HK.out (o1.keep λx hx=>YN x (o1.live x hx) (Z0 x hx)) ⟨_,rfl,?_⟩ (o3.keep λx hx=>YN x (o3.live x hx) (O5 x hx))⟩⟩
      ·rw[List.append_assoc];exact HVQ.out.keep (hset ql (λe=>hnq e.symm))
      ·refine⟨by rw[VF];exact HJ.out.2.2.2,.inr ⟨qK,TO,cnL (jz C[k] j cells),[],by rw[VF],rfl,by rw[VF];exact hNK,Hm2.out,OE,Gz _ _⟩⟩
     exact hown.reads.sub λx hx=>by
      rcases List.mem_cons.1 hx with rfl|hx
      ·omega
      ·have:=UJ x (hin x hx);omega
    ·exact((ob.keep λx hx=>YN x (ob.live x hx) (Pa x hx)).reads).sub λx hx=>by have:=XT x (List.mem_append_right _ hx);omega)
   clear hset hsz YT hL OE ZP TG
   go_wp2_with fail
   go_meet
   exact S0.out
  case rest=>
   have HD:=Lib.hid hcut;have j0:=hcut.st.cell 0;have j1:=hcut.st.cell 1;have r0:=hcut.res.cell 0;have r1:=hcut.res.cell 1;have f0:=hcut.res.free 0;have f1:=hcut.res.free 1;have r2:=hcut.res.hi;simp only[List.getElem?_cons_zero,List.getElem?_cons_succ]at j0 j1 r0 r1;clear hcut n0 nk Yb Xr Yj
   go_wp2_with fail
   refine bodyPost_ret (v:=.tuple #[.agg #[.slice (some ⟨ql,0,none⟩) C.length cl,.slice A6 T.length c6],.int .i64 0]) (by simp[results,Tryz.results34,go_sem,r0,r1,r2]) rfl ?_;exact HD.out.ret
inductive ME (w:World)(F:Nat->Prop):TV->Value->Prop
 |im {c:List (List TV)} {x:Value} (h:fI w F (.sl c) x):ME w F (.sl c) x
 |v {x:Value} (h:eM x=true):ME w F (.v x) x
 |fn {f:FuncId}:ME w F (.fn f []) (.func (.func f) #[] #[])
 |ag {l:List TV} {cs:Array Value} (hl:cs.size=l.length) (h:∀j (hj:j<l.length),∃x,l[j]=.v x/\cs.getD j undef=x):ME w F (.agg l) (.agg cs)
def F3:TV->Bool
 |.v _=>true
 |_=>false
def yh:TV->Bool
 |.sl _=>true
 |.v _=>true
 |.fn _ []=>true
 |.agg l=>l.all F3
 |_=>false
def Lg(P:Program)(f:FuncId)(vals:List TV)(c:List (List TV)):Prop:=
 ∀(asq:List Value)(w:World)(F:Nat->Prop),asq.length=vals.length->(∀j (h:j<vals.length)(h':j<asq.length),ME w F vals[j] asq[j])->
  Calls P f asq.toArray w λe w2=>∃x,e=.returned x/\Below w.heap.size w w2/\fI w2 (λk=>F k\/w.heap.size<=k) (.sl c) x
def Jx(R:FuncId->List TV->Option (List (List TV))):cE:=λf vals pts=>
 match pts with
 | []=>if vals.all yh then(R f vals).map λc=>(⟨[.sl c],[.one]⟩,[])else none
 |_=>none
theorem L6{P:Program}{R:FuncId->List TV->Option (List (List TV))}(hR:∀f vals c,R f vals=some c->gQ P f/\Lg P f vals c):eC P (Jx R):=by
 intro f vals pts res Zs h
 cases pts with
 |cons _ _=>simp[Jx]at h
 |nil=>
  simp only[Jx]at h;split at h
  case isFalse=>simp at h
  rename_i ZW;simp only[List.all_eq_true]at ZW
  obtain⟨c,hc,he⟩:∃c,R f vals=some c/\(⟨[.sl c],[.one]⟩,[])=(res,Zs):=by
   cases hr:R f vals with
   |none=>simp[hr]at h
   |some c=>exact⟨c,rfl,by simpa[hr]using h⟩
  injection he with e1 e2
  subst e1 e2;obtain⟨Y9,Ty⟩:=hR f vals c hc;refine⟨Y9,vals.length,Nat.le_refl _,λM asq w G hal hN Qv Yv hI=>?_⟩;subst Qv
  have R8:asq.toArray++Array.replicate (vals.length-asq.length) undef=asq.toArray:=by rw[hal];simp
  rw[R8]at hI
  have hst:∀j,(mkSt vals []).t j=vals.getD j .dead:=by
   intro j;simp[St.t,mkSt,jC]
  refine(Ty asq M.w0 (G.F M.A) hal λj hj ZT=>?_).mono λe w2 ⟨x,VA,hb,We⟩=>?_
  ·have ht:=hI.tmr j;rw[hst]at ht
   have e1:vals.getD j .dead=vals[j]:=by simp[hj]
   have e2:asq.toArray.getD j undef=asq[j]:=by simp[Array.getD_eq_getD_getElem?,ZT]
   rw[e1,e2]at ht;have ha:=ZW _ (List.getElem_mem hj);revert ht ha;generalize vals[j]=t;generalize asq[j]=y;intro ht ha
   cases ht with
   |v h=>exact .v h
   |sl h=>exact .im h
   | @fn f l xs hl h=>
    cases l with
    |nil=>
     have:xs=#[]:=Array.eq_empty_of_size_eq_zero (by simpa using hl);subst this;exact .fn
    |cons _ _=>simp[yh]at ha
   | @agg l cs hl h=>
    refine .ag hl λj hj=>?_;have h1:F3 l[j]=true:=List.all_eq_true.1 ha _ (List.getElem_mem hj);have h2:=h j hj;revert h1 h2;generalize l[j]=t;intro h1 h2
    cases t with
    |v x=>exact⟨x,rfl,by cases h2;rfl⟩
    |_=>simp[F3]at h1
   |_=>simp[yh]at ha
  ·obtain⟨ZJ,_⟩:=hI.grow (w':=w2) (λk hk=>hb.block k hk) hb.size hb.os hb.tape hb.output
   have hF:∀k,G.F M.A k\/M.w0.heap.size<=k->G.F M.A k:=by
    rintro k (hk|hk)
    ·exact hk
    ·refine⟨M.hA k hk,λr o hφ=>?_,λr b o n hβ e=>?_⟩
     ·have:=hI.core.live hφ;omega
     ·subst e;have:=hI.core.boxlt hβ;omega
   obtain⟨G',hg⟩:=ZJ.addHand (We.frame (F':=G.F M.A) (λ_ _ _=>rfl) λk hk _=>hF k hk).toOwn;refine⟨x,mkSt vals [],VA,.inl ⟨[x],asq.toArray,G',rfl,hg.1,λj hj=>?_⟩,rfl⟩
   have:j=0:=by simpa using hj
   subst this;exact .inl rfl
theorem vG{E:Env}{T:FuncId->Option TFn}{B:cE}{c:Ctr}(hT:T c.f=none)(hB:jZ B c):Lvl E T B 1 c:=by
 intro k _ h o x ho hx
 have e:runF E T B (NN+k) c.f=B c.f:=by
  obtain⟨n,hn⟩:∃n,NN+k=n+1:=⟨NN-1+k,by have:0<NN:=(by decide);omega⟩;rw[hn];funext vals pts;simp only[runF,zy,hT]
 rw[e];exact hB h o x ho hx
abbrev PID:=Int×Int
def dc(a b:PID):Bool:=if(a.1==-1) != (b.1==-1)then b.1==-1 else decide (a.1<b.1)||(a.1==b.1&&decide (a.2<b.2))
def tX:List PID->PID->List PID
 | [],x=>[x]
 |y::r,x=>if dc y x then y::tX r x else if y=x then y::r else x::y::r
def kP(l:List PID):List PID:=l.foldl tX []
def qg(x:PID):List TV:=[.v (.int .i64 x.1),.v (.int .i64 x.2)]
def JB:List (List TV)->Option (List PID)
 | []=>some []
 |e::r=>match e with
  | [.v (.int .i64 a),.v (.int .i64 b)]=>(JB r).map ((a,b) :: ·)
  |_=>none
def AQ:List (List TV)->Option (List (List PID))
 | []=>some []
 |e::r=>match e with
  | [.sl c]=>(JB c).bind λl=>(AQ r).map (l :: ·)
  |_=>none
theorem wI:∀l:List PID,JB (l.map qg)=some l
 | []=>rfl
 |x::r=>by simp[JB,qg,wI r]
theorem AP:∀{c:List (List TV)}{l:List PID},JB c=some l->c=l.map qg
 | [],l,h=>by simp only[JB,oSJ]at h;subst h;rfl
 |e::r,l,h=>by
  simp only[JB]at h;split at h
  ·obtain⟨l',h1,rfl⟩:=Option.map_eq_some_iff.1 h;rw[AP h1];rfl
  ·simp at h
theorem Ck:∀{c:List (List TV)}{l:List (List PID)},AQ c=some l->c=l.map λx=>[TV.sl (x.map qg)]
 | [],l,h=>by simp only[AQ,oSJ]at h;subst h;rfl
 |e::r,l,h=>by
  simp only[AQ]at h;split at h
  ·rename_i c;obtain⟨x,h1,h2⟩:=Option.bind_eq_some_iff.1 h;obtain⟨l',h3,rfl⟩:=Option.map_eq_some_iff.1 h2;rw[Ck h3,AP h1];rfl
  ·simp at h
theorem yR:∀l:List (List PID),AQ (l.map λx=>[TV.sl (x.map qg)])=some l
 | []=>rfl
 |x::r=>by simp[AQ,wI,yR r]
end Go.Proofs.YtbdhpgelkfncpaaGreat
namespace Go.Proofs.YtbdhpgelkfncpaaGreat
open Go.RowKit Go.Sort
def GW(W w':World):Prop:=∃q os,w'=grow (W.drewN q) os
theorem GW.refl(W:World):GW W W:=⟨0,#[],by rw[grow_empty];rfl⟩
theorem GW.trans{a b c:World}(h:GW a b)(h':GW b c):GW a c:=by
 obtain⟨q,os,rfl⟩:=h;obtain⟨p,NQ,rfl⟩:=h';exact⟨q+p,os++NQ,by show grow (grow ((a.drewN q).drewN p) os) NQ=_;rw[grow_grow,World.drewN_drewN]⟩
theorem GW.alloc(W:World)(o:Obj):GW W (W.alloc o):=⟨0,#[o],by rw[alloc_eq_grow];rfl⟩
theorem GW.drew(W:World):GW W W.drew:=⟨1,#[],by rw[grow_empty];rfl⟩
def ng(r:Int):Int:=if r=-1 then 1 else 0
def va(x y:Int):Int:=if x<y then -1 else if y<x then 1 else 0
def orI(a b c:Int):Int:=if a=0 then(if b=0 then c else b)else a
def BV(x y:PID):Int:=orI (va (ng x.1) (ng y.1)) (va x.1 y.1) (va x.2 y.2)
theorem BY(x:PID)(W:World):Calls Tryz.prog 71 #[.agg #[.int .i64 x.1,.int .i64 x.2]] W λe w'=>e=.returned (.int .i64 (ng x.1))/\GW W w':=by
 by_cases h:x.1=-1
 ·go_enter Tryz.func71,Tryz.ntmps71
  go_wp2
  go_ret
  exact⟨by simp[ng,h],GW.alloc _ _⟩
 ·go_enter Tryz.func71,Tryz.ntmps71
  go_wp2
  go_ret
  exact⟨by simp[ng,h],GW.alloc _ _⟩
theorem Bb(x y:Int)(W:World):Calls Tryz.prog 70 #[.int .i64 x,.int .i64 y] W λe w'=>e=.returned (.int .i64 (va x y))/\GW W w':=by
 by_cases h:x<y
 ·go_enter Tryz.func70,Tryz.ntmps70
  go_wp2
  go_ret
  exact⟨by simp[va,h],GW.refl _⟩
 ·by_cases h2:y<x
  ·go_enter Tryz.func70,Tryz.ntmps70
   go_wp2
   go_ret
   exact⟨by simp[va,h,h2],GW.refl _⟩
  ·go_enter Tryz.func70,Tryz.ntmps70
   go_wp2
   go_ret
   exact⟨by unfold va;rw[oIN (by omega),oIN (by omega)];rfl,GW.refl _⟩
theorem LY(a b c:Int)(k:Nat)(W:World)(h0:W.cell? ⟨k,0,none⟩=some (.int .i64 a))(h1:W.cell? ⟨k,1,none⟩=some (.int .i64 b))(h2:W.cell? ⟨k,2,none⟩=some (.int .i64 c)):
 Calls Tryz.prog 69 #[.slice (some ⟨k,0,none⟩) 3 3] W λe w'=>e=.returned (.int .i64 (orI a b c))/\GW W w':=by
 by_cases ha:a=0
 ·by_cases hb:b=0
  ·by_cases hc:c=0
   ·go_enter Tryz.func69,Tryz.ntmps69
    go_wp2
    refine wp_loop_rounds 4 ?_;rw[rounds_succ]
    go_wp2
    rw[rounds_succ]
    go_wp2
    rw[rounds_succ]
    go_wp2
    rw[rounds_succ]
    go_wp2
    go_ret
    exact⟨by simp[orI,ha,hb,hc],GW.refl _⟩
   ·go_enter Tryz.func69,Tryz.ntmps69
    go_wp2
    refine wp_loop_rounds 4 ?_;rw[rounds_succ]
    go_wp2
    rw[rounds_succ]
    go_wp2
    rw[rounds_succ]
    go_wp2
    go_ret
    exact⟨by simp[orI,ha,hb],GW.refl _⟩
  ·go_enter Tryz.func69,Tryz.ntmps69
   go_wp2
   refine wp_loop_rounds 4 ?_;rw[rounds_succ]
   go_wp2
   rw[rounds_succ]
   go_wp2
   go_ret
   exact⟨by simp[orI,ha,hb],GW.refl _⟩
 ·go_enter Tryz.func69,Tryz.ntmps69
  go_wp2
  refine wp_loop_rounds 4 ?_;rw[rounds_succ]
  go_wp2
  go_ret
  exact⟨by simp[orI,ha],GW.refl _⟩
def MR(a b c:Int)(v:Value)(w:World):Prop:=∃k,v=.slice (some ⟨k,0,none⟩) 3 3/\w.cell? ⟨k,0,none⟩=some (.int .i64 a)/\w.cell? ⟨k,1,none⟩=some (.int .i64 b)/\w.cell? ⟨k,2,none⟩=some (.int .i64 c)
theorem rkw{w w':World}(h:GW w w'):RK (λ_=>False) w w':=by
 obtain⟨q,os,rfl⟩:=h;refine⟨by simp[grow],λb hb _=>?_⟩;show(w.heap++os)[b]?=_;rw[Array.getElem?_append_left hb]
theorem Bg{w:World}{b o:Nat}{v:Value}(h:w.cell? ⟨b,o,none⟩=some v):b<w.heap.size:=World.block_lt_of_cell? w _ h
theorem Fg{a b c:Int}(w w':World)(u:Value)(h:RK (λ_=>False) w w')(hs:MR a b c u w):MR a b c u w':=by
 obtain⟨k,h1,h2,h3,h4⟩:=hs;have hk:=Bg h2;exact⟨k,h1,by rw[h.cell hk id];exact h2,by rw[h.cell hk id];exact h3,by rw[h.cell hk id];exact h4⟩
theorem Ib(a b c:Int)(w:World)(t:TypeId):MR a b c (.slice (some ⟨w.heap.size,0,none⟩) 3 3) (w.alloc (.cells #[.int .i64 a,.int .i64 b,.int .i64 c] t)):=by
 refine⟨_,rfl,?_,?_,?_⟩<;>rw[World.cell?_alloc_new]<;>rfl
theorem vf{W w':World}{a b c d:Value}{t t':TypeId}(h:GW ((W.alloc (.cells #[a,b] t)).alloc (.cells #[c,d] t')) w'):
 w'.cell? ⟨W.heap.size,0,none⟩=some a/\w'.cell? ⟨W.heap.size,1,none⟩=some b/\w'.cell? ⟨W.heap.size+1,0,none⟩=some c/\w'.cell? ⟨W.heap.size+1,1,none⟩=some d:=by
 have hk:=rkw h
 have e1:∀o v,(W.alloc (.cells #[a,b] t)).cell? ⟨W.heap.size,o,none⟩=some v->w'.cell? ⟨W.heap.size,o,none⟩=some v:=λo v hv=>by
  rw[hk.cell (by simp;omega) id,World.cell?_of_block (heap_alloc_old _ _ (by simp))];exact hv
 have e2:∀o v,((W.alloc (.cells #[a,b] t)).alloc (.cells #[c,d] t')).cell? ⟨W.heap.size+1,o,none⟩=some v->w'.cell? ⟨W.heap.size+1,o,none⟩=some v:=λo v hv=>by
  rw[hk.cell (by simp) id];exact hv
 have hs:W.heap.size+1=(W.alloc (.cells #[a,b] t)).heap.size:=by simp
 refine⟨e1 _ _ ?_,e1 _ _ ?_,e2 _ _ ?_,e2 _ _ ?_⟩
 ·rw[World.cell?_alloc_new];rfl
 ·rw[World.cell?_alloc_new];rfl
 ·rw[hs,World.cell?_alloc_new];rfl
 ·rw[hs,World.cell?_alloc_new];rfl
set_option maxHeartbeats 4000000 in
set_option maxRecDepth 100000 in
theorem FJ(x y:PID)(W:World):Calls Tryz.prog 50 #[.agg #[.int .i64 x.1,.int .i64 x.2],.agg #[.int .i64 y.1,.int .i64 y.2]] W λe w'=>e=.returned (.int .i64 (BV x y))/\GW W w':=by
 go_enter Tryz.func50,Tryz.ntmps50
 go_wp2_with fail
 refine hJ (λw'=>GW ((W.alloc (.cells #[.int .i64 x.1,.int .i64 x.2] 42)).alloc (.cells #[.int .i64 y.1,.int .i64 y.2] 42)) w') (RK λ_=>False)
  [bN (.agg #[.int .i64 x.1,.int .i64 x.2]),bN (.int .i64 (ng x.1)),bN (.agg #[.int .i64 y.1,.int .i64 y.2]),bN (.int .i64 (ng y.1)),bN (.int .i64 (va (ng x.1) (ng y.1))),bN (.pointer (some ⟨W.heap.size,0,none⟩)),bN (.int .i64 x.1),bN (.pointer (some ⟨W.heap.size+1,0,none⟩)),bN (.int .i64 y.1),bN (.int .i64 (va x.1 y.1)),bN (.pointer (some ⟨W.heap.size,1,none⟩)),bN (.int .i64 x.2),bN (.pointer (some ⟨W.heap.size+1,1,none⟩)),bN (.int .i64 y.2),bN (.int .i64 (va x.2 y.2)),MR (va (ng x.1) (ng y.1)) (va x.1 y.1) (va x.2 y.2),bN (.int .i64 (BV x y)),bN (.int .i64 (BV x y))]
  22 (by kernel_rfl) rfl (by kernel_rfl) (GW.drew _) (λ_=>RK.refl _ _) ?_ ?_ ?_
 ·exact⟨bN.kept,bN.kept,bN.kept,bN.kept,bN.kept,bN.kept,bN.kept,bN.kept,bN.kept,bN.kept,bN.kept,bN.kept,bN.kept,bN.kept,bN.kept,Fg,bN.kept,bN.kept,trivial⟩
 ·refine bd ?_ (bd ?_ (bd ?_ (bd ?_ (bd ?_ (bd ?_ (bd ?_ (bd ?_ (bd ?_ (bd ?_ (bd ?_ (bd ?_ (bd ?_ (bd ?_ (bd ?_ (bd ?_ (bd ?_ (bd ?_ mV)))))))))))))))))
  ·refine bi rfl λf w1 hb H=>?_;have e2:f 2=_:=H 2 (by decide);clear H;have hc:=vf hb;obtain⟨c0,c1,c2,c3⟩:=hc;have HB:=Lib.hid hb;clear hb
   go_simp
   exact⟨HB.out,RK.refl _ _,rfl⟩
  ·refine bi rfl λf w1 hb H=>?_;have e5:f 5=_:=H 5 (by decide);clear H;have HB:=Lib.hid hb;clear hb
   go_simp
   refine(BY x w1).mono ?_;rintro e w2 ⟨rfl,hg⟩;exact⟨_,rfl,HB.out.trans hg,rkw hg,rfl⟩
  ·refine bi rfl λf w1 hb H=>?_;have e3:f 3=_:=H 3 (by decide);clear H;have hc:=vf hb;obtain⟨c0,c1,c2,c3⟩:=hc;have HB:=Lib.hid hb;clear hb
   go_simp
   exact⟨HB.out,RK.refl _ _,rfl⟩
  ·refine bi rfl λf w1 hb H=>?_;have e7:f 7=_:=H 7 (by decide);clear H;have HB:=Lib.hid hb;clear hb
   go_simp
   refine(BY y w1).mono ?_;rintro e w2 ⟨rfl,hg⟩;exact⟨_,rfl,HB.out.trans hg,rkw hg,rfl⟩
  ·refine bi rfl λf w1 hb H=>?_;have e6:f 6=_:=H 6 (by decide);have e8:f 8=_:=H 8 (by decide);clear H;have HB:=Lib.hid hb;clear hb
   go_simp
   refine(Bb _ _ w1).mono ?_;rintro e w2 ⟨rfl,hg⟩;exact⟨_,rfl,HB.out.trans hg,rkw hg,rfl⟩
  ·refine bi rfl λf w1 hb H=>?_;have e2:f 2=_:=H 2 (by decide);clear H;have HB:=Lib.hid hb;clear hb
   go_simp
   exact⟨HB.out,RK.refl _ _,rfl⟩
  ·refine bi rfl λf w1 hb H=>?_;have e10:f 10=_:=H 10 (by decide);clear H;have hc:=vf hb;obtain⟨c0,c1,c2,c3⟩:=hc;have HB:=Lib.hid hb;clear hb
   go_simp
   exact⟨HB.out,RK.refl _ _,rfl⟩
  ·refine bi rfl λf w1 hb H=>?_;have e3:f 3=_:=H 3 (by decide);clear H;have HB:=Lib.hid hb;clear hb
   go_simp
   exact⟨HB.out,RK.refl _ _,rfl⟩
  ·refine bi rfl λf w1 hb H=>?_;have e12:f 12=_:=H 12 (by decide);clear H;have hc:=vf hb;obtain⟨c0,c1,c2,c3⟩:=hc;have HB:=Lib.hid hb;clear hb
   go_simp
   exact⟨HB.out,RK.refl _ _,rfl⟩
  ·refine bi rfl λf w1 hb H=>?_;have e11:f 11=_:=H 11 (by decide);have e13:f 13=_:=H 13 (by decide);clear H;have HB:=Lib.hid hb;clear hb
   go_simp
   refine(Bb _ _ w1).mono ?_;rintro e w2 ⟨rfl,hg⟩;exact⟨_,rfl,HB.out.trans hg,rkw hg,rfl⟩
  ·refine bi rfl λf w1 hb H=>?_;have e2:f 2=_:=H 2 (by decide);clear H;have HB:=Lib.hid hb;clear hb
   go_simp
   exact⟨HB.out,RK.refl _ _,rfl⟩
  ·refine bi rfl λf w1 hb H=>?_;have e15:f 15=_:=H 15 (by decide);clear H;have hc:=vf hb;obtain⟨c0,c1,c2,c3⟩:=hc;have HB:=Lib.hid hb;clear hb
   go_simp
   exact⟨HB.out,RK.refl _ _,rfl⟩
  ·refine bi rfl λf w1 hb H=>?_;have e3:f 3=_:=H 3 (by decide);clear H;have HB:=Lib.hid hb;clear hb
   go_simp
   exact⟨HB.out,RK.refl _ _,rfl⟩
  ·refine bi rfl λf w1 hb H=>?_;have e17:f 17=_:=H 17 (by decide);clear H;have hc:=vf hb;obtain⟨c0,c1,c2,c3⟩:=hc;have HB:=Lib.hid hb;clear hb
   go_simp
   exact⟨HB.out,RK.refl _ _,rfl⟩
  ·refine bi rfl λf w1 hb H=>?_;have e16:f 16=_:=H 16 (by decide);have e18:f 18=_:=H 18 (by decide);clear H;have HB:=Lib.hid hb;clear hb
   go_simp
   refine(Bb _ _ w1).mono ?_;rintro e w2 ⟨rfl,hg⟩;exact⟨_,rfl,HB.out.trans hg,rkw hg,rfl⟩
  ·refine bi rfl λf w1 hb H=>?_;have e9:f 9=_:=H 9 (by decide);have e14:f 14=_:=H 14 (by decide);have e19:f 19=_:=H 19 (by decide);clear H;have HB:=Lib.hid hb;clear hb
   go_simp
   exact⟨HB.out.trans (GW.alloc _ _),rkw (GW.alloc _ _),Ib _ _ _ _ _⟩
  ·refine bi rfl λf w1 hb H=>?_;have s20:=H 20 (by decide);clear H;obtain⟨k,s20a,P4,P5,P6⟩:=s20;have HB:=Lib.hid hb;clear hb
   go_simp
   refine(LY _ _ _ k w1 P4 P5 P6).mono ?_;rintro e w2 ⟨rfl,hg⟩;exact⟨_,rfl,HB.out.trans hg,rkw hg,rfl⟩
  ·refine bi rfl λf w1 hb H=>?_;have e21:f 21=_:=H 21 (by decide);clear H;have HB:=Lib.hid hb;clear hb
   go_simp
   exact⟨HB.out,RK.refl _ _,rfl⟩
 ·intro f w9 hb hE;simp only[gc,Act.put,zB,List.setIfInBounds_toArray,List.set_cons_succ,List.set_cons_zero]
  have e4:f 4=.int .i64 (BV x y):=by
   simp only[Lv,CI,bN]at hE;simp[hE]
  rw[e4];clear hE e4
  go_wp2
  go_ret
  exact⟨rfl,((GW.alloc _ _).trans (GW.alloc _ _)).trans hb⟩
end Go.Proofs.YtbdhpgelkfncpaaGreat
namespace Go.Proofs.YtbdhpgelkfncpaaGreat
open Go.RowKit Go.Sort Go.Lib
def iB(x:PID):List Value:=[.int .i64 x.1,.int .i64 x.2]
theorem LU(x y:PID)(w:World):Sem.run Tryz.prog (binOp .eql 42 (.agg #[.int .i64 x.1,.int .i64 x.2]) (.agg #[.int .i64 y.1,.int .i64 y.2])) w=.ok (.bool (decide (x=y))) w:=by
 have u3:=Tryz.underlying3;have a3:=Tryz.isAgg3;have z3:=Tryz.sizeOf3
 have hS:Tryz.prog.underlying 42=some (.struct (Tryz.prog.fieldsOf 42)):=by kernel_rfl
 have hp:Tryz.prog.stoodInHeld 42=false:=by kernel_rfl
 rw[run_eql_struct,show(10000:Nat)=9999+1 from rfl,run_equalIn_agg w 9999 42 _ _ hS hp];simp only[Program.fieldsOf,Tryz.underlying42]
 go_simp
 by_cases h1:x.fst=y.fst<;>by_cases h2:x.snd=y.snd<;>simp[h1,h2,Prod.ext_iff]
theorem dI{W:World}{Zo off:Nat}{d:Array PID}(h:HoldsK iB 2 W Zo off d){i:Nat}(hi:i<d.size):
 W.cell? ⟨Zo,off+i*2,none⟩=some (.int .i64 d[i]!.1)/\W.cell? ⟨Zo,off+i*2+1,none⟩=some (.int .i64 d[i]!.2)/\W.frozen? ⟨Zo,off+i*2,none⟩=false/\W.frozen? ⟨Zo,off+i*2+1,none⟩=false:=by
 have h0:=h.cell hi (c:=0) (by omega);have h1:=h.cell hi (c:=1) (by omega);exact⟨by simpa[iB]using h0.1,by simpa[iB]using h1.1,by simpa using h0.2,by simpa using h1.2⟩
theorem LJ{w wr:World}{n Zo off:Nat}{dk:Array PID}{i:Nat}(hi:i<dk.size)(SS:wr=putRowK iB 2 (Sort.ahead w n) Zo off dk)(x:PID):
 ((wr.drew.setCell ⟨Zo,off+i*2,none⟩ (.int .i64 x.1)).setCell ⟨Zo,off+i*2+1,none⟩ (.int .i64 x.2))=putRowK iB 2 (Sort.ahead w (n+1)) Zo off (dk.setIfInBounds i x):=by
 subst SS
 have hb:i*2+(iB x).length<=(flatK iB 2 dk).size:=by simp[iB];omega
 have e:=setCells_putRow (Sort.ahead w (n+1)) Zo off (iB x) (i*2) (flatK iB 2 dk) hb
 have e2:setMany (flatK iB 2 dk) (i*2) (iB x)=flatK iB 2 (dk.setIfInBounds i x):=by
  refine ext_get! (by simp) λt ht=>?_
  have YL:t<dk.size*2:=by simpa using ht
  rw[get_setMany _ _ _ t (by simpa using YL),get_flatK _ _ _ t YL,get_flatK _ _ _ t (by simpa using YL)]
  have hq:t/2<dk.size:=by omega
  by_cases a:t/2=i
  ·rw[oIP (by simp[iB];omega)]
   have:t-i*2=t%2:=by omega
   rw[this,a];simp[show i<dk.size from hi]
  ·rw[oIN (by simp[iB];omega)];simp[Array.getElem!_eq_getD,Array.getD,hq,Array.getElem_setIfInBounds,Ne.symm a]
 rw[e2]at e;exact e
structure dR (b:Nat)(w w':World):Prop where
 os:w'.os=w.os
 tape:w'.tape=w.tape
 output:w'.output=w.output
 size:w'.heap.size=w.heap.size
 block:∀k,k≠b->w'.heap[k]?=w.heap[k]?
theorem dR.set(b o:Nat)(w:World)(v:Value):dR b w (w.setCell ⟨b,o,none⟩ v):=⟨rfl,rfl,rfl,by simp,λk hk=>Below.heap_setCell w _ v k hk⟩
theorem dR.refl(b:Nat)(w:World):dR b w w:=⟨rfl,rfl,rfl,rfl,λ_ _=>rfl⟩
theorem dR.trans{b:Nat}{w w' WZ:World}(h:dR b w w')(h':dR b w' WZ):dR b w WZ:=
 ⟨h'.os.trans h.os,h'.tape.trans h.tape,h'.output.trans h.output,h'.size.trans h.size,λk hk=>(h'.block k hk).trans (h.block k hk)⟩
theorem dR.setCells(b:Nat):∀(vs:List Value)(o:Nat)(w:World),dR b w (w.setCells b o vs)
 | [],_,_=>dR.refl _ _
 |v::r,o,w=>(dR.set b o w v).trans (dR.setCells b r (o+1) _)
theorem dR.ahead(b:Nat)(w:World)(n:Nat):dR b w (Sort.ahead w n):=⟨rfl,rfl,rfl,rfl,λ_ _=>rfl⟩
theorem dR.drewN(b:Nat)(w:World)(n:Nat):dR b w (w.drewN n):=⟨rfl,rfl,rfl,rfl,λ_ _=>rfl⟩
theorem dR.putRow(b off:Nat)(w:World)(d:Array PID):dR b w (putRowK iB 2 w b off d):=by
 unfold putRowK Go.Sort.putRow mapBlock;exact⟨rfl,rfl,rfl,by simp,λk hk=>by simp[Array.getElem?_modify,Ne.symm hk]⟩
def lE(w:World)(b off:Nat)(l:List PID):Prop:=∀i (h:i<l.length),w.cell? ⟨b,off+i*2,none⟩=some (.int .i64 l[i].1)/\w.cell? ⟨b,off+i*2+1,none⟩=some (.int .i64 l[i].2)
theorem MV(x y:PID)(w:World):Sem.run Tryz.prog (binOp .neq 42 (.agg #[.int .i64 x.1,.int .i64 x.2]) (.agg #[.int .i64 y.1,.int .i64 y.2])) w=.ok (.bool (!decide (x=y))) w:=by
 have h:=LU x y w;rw[run_eql_struct]at h;rw[run_neq_struct];revert h
 cases(Op.equalIn 10000 42 (.agg #[.int .i64 x.1,.int .i64 x.2]) (.agg #[.int .i64 y.1,.int .i64 y.2])).run Tryz.prog w with
 |ok b w'=>intro h;simp only[Result.andThen_ok]at h⊢;injection h with h1 h2;injection h1 with h1;rw[h1,h2]
 |_=>intro h;simp[Result.andThen]at h
theorem Ij(op:BinOp)(a b:Operand)(x y:PID)(w:World):Sem.run Tryz.prog (eqGuard op 42 a b (.agg #[.int .i64 x.1,.int .i64 x.2]) (.agg #[.int .i64 y.1,.int .i64 y.2])) w=.ok () w:=
 (GuardAt.agg (P:=Tryz.prog) (T:=42) (λx:PID=>#[.int .i64 x.1,.int .i64 x.2]) (by kernel_rfl)) op a b x y w
theorem iG(b:Nat):∀(vs:List Value)(o:Nat){w:World}{j:Nat},j<o->(w.setCells b o vs).cell? ⟨b,j,none⟩=w.cell? ⟨b,j,none⟩
 | [],_,_,_,_=>rfl
 |v::r,o,w,j,h=>by
  show((w.setCell ⟨b,o,none⟩ v).setCells b (o+1) r).cell? _=_;rw[iG b r (o+1) (by omega)];refine World.cell?_setCell_other (h:=?_) ..
  intro e;injection e with _ e _;omega
theorem DV(w:World)(ty:TypeId)(b o n c:Nat)(hn:0<n)(hc:∀j,j<n*2->(w.cell? ⟨b,o+j,none⟩).isSome=true/\w.frozen? ⟨b,o+j,none⟩=false):
 (Builtin.clear_ #[62] ty #[.slice (some ⟨b,o,none⟩) n c]).run Tryz.prog w=.ok (.tuple #[]) (w.setCells b o (List.replicate (n*2) (.int .i64 0))):=by
 have Xp:(Builtin.zeroCells #[.int .i64 0,.int .i64 0] n).toList=List.replicate (n*2) (.int .i64 0):=by
  simp[Builtin.zeroCells];apply List.ext_getElem
  ·simp
  ·intro i h1 h2;simp only[List.getElem_map,List.getElem_replicate]
   rcases Nat.mod_two_eq_zero_or_one i with e|e<;>simp[e]
 have hst:=run_storeCells_cells (P:=Tryz.prog) b o (List.replicate (n*2) (.int .i64 0)) 0 w (λj hj=>by simpa using(hc j (by simpa using hj)).1) (λj hj=>by simpa using(hc j (by simpa using hj)).2) (by intro v Yw;rw[List.eq_of_mem_replicate Yw];rfl);simp only[Nat.add_zero]at hst;obtain⟨m,rfl⟩:∃m,n=m+1:=⟨n-1,by omega⟩;have hv:∀w,(zeroValue 42).run Tryz.prog w=.ok (.agg #[.int .i64 0,.int .i64 0]) w:=Tryz.zeroValue42;simp[Builtin.clear_,run_underlying Tryz.underlying62,hv,Value.cells,Xp,hst]
def Lc(w w':World)(Zo off:Nat)(d:Array PID):Prop:=lE w' Zo off (compactUpTo d d.size)/\dR Zo w w'
theorem yj{w:World}{Zo off:Nat}{d:Array PID}(h:HoldsK iB 2 w Zo off d){l:List PID}(hl:l.length<=d.size)(he:∀i (h:i<l.length),l[i]=d[i]!):lE w Zo off l:=λi hi=>by
 have:=dI h (i:=i) (by omega);rw[he i hi];exact⟨this.1,this.2.1⟩
set_option maxHeartbeats 8000000 in
set_option maxRecDepth 1000000 in
theorem AY(Zo off cap:Nat)(d:Array PID)(w:World)(hH:HoldsK iB 2 w Zo off d)(hcap:d.size<=cap)(hsz:d.size<=4611686018427387904):
 Calls Tryz.prog 78 #[.slice (some ⟨Zo,off,none⟩) d.size cap] w λe w'=>e=.returned (.slice (some ⟨Zo,off,none⟩) (compactUpTo d d.size).length cap)/\Lc w w' Zo off d:=by
 have mixed:Tryz.prog.follows .mixedOrders=true:=by kernel_rfl
 have heq':=λx y w=>LU x y w;have hne':=λx y w=>MV x y w;have hgd':=λop a b x y w=>Ij op a b x y w
 have same:∀q,(∀j,j<d.size->keeps d j=true)->(compactUpTo d d.size).length=d.size/\Lc w (w.drewN q) Zo off d:=by
  intro q ZW
  have e:compactUpTo d d.size=d.toList:=by rw[compactUpTo_all d _ ZW,range_map_get]
  refine⟨by rw[e];simp,?_,dR.drewN _ _ _⟩;rw[e]
  exact yj (d:=d) (holdsK_ahead iB 2 w q Zo off d hH) (by simp) λi hi=>by simp at hi;simp[hi]
 have HS:Aside (∀q,(∀j,j<d.size->keeps d j=true)->(compactUpTo d d.size).length=d.size/\Lc w (w.drewN q) Zo off d):=same;clear same;by_cases h2:d.size<2
 ·have HH:Aside (HoldsK iB 2 w Zo off d):=hH;clear hH
  go_enter Tryz.func78,Tryz.ntmps78
  go_wp2
  go_ret
  obtain⟨e1,e2⟩:=HS.out 0 (λj hj=>keeps_lt_one d j (by omega));exact⟨by rw[e1];rfl,e2⟩
 ·go_enter Tryz.func78,Tryz.ntmps78
  go_wp2
  go_loopg [3] d.size (λg s3 wr=>∃k q:Nat,1<=k/\k<=d.size/\d.size-k<=g/\s3=.int .i64 k/\wr=w.drewN q/\∀j,j<k->keeps d j=true)
  case atStart=>exact⟨1,0,Nat.le_refl _,by omega,by omega,rfl,rfl,keeps_lt_one d⟩
  case round=>
   obtain⟨k,q,YY,hk,hg,rfl,rfl,ZW⟩:=hrel;by_cases hlt:k<d.size
   ·obtain⟨c1,Oc,f1,f1'⟩:=dI hH hlt;obtain⟨c0,c0',f0,f0'⟩:=dI hH (i:=k-1) (by omega);have A:Aside (∀j,j<k->keeps d j=true):=ZW;have HH:Aside (HoldsK iB 2 w Zo off d):=hH;clear ZW hH;generalize hx:d[k]! = x at c1 Oc;generalize hy:d[k-1]! = y at c0 c0';have B:Aside (d[k]! = x/\d[k-1]! = y):=⟨hx,hy⟩;clear hx hy;by_cases hdup:x=y
    ·subst hdup
     go_wp2_with fail
     go_region_o
     go_wp2
     clear c0 c1 c0' Oc f0 f1 f0' f1'
     go_loopg [3,5] d.size (λg s3 s5 wr=>∃(kk k2 q2:Nat)(dk:Array PID),s3=.int .i64 kk/\s5=.int .i64 k2/\1<=k2/\k+k2<=d.size/\d.size-(k+k2)<=g/\wr=putRowK iB 2 (Sort.ahead w q2) Zo off dk/\CompInv d (k+k2) kk dk)
     case atStart=>exact⟨k,1,q+1,d,rfl,rfl,Nat.le_refl _,by omega,by omega,(putRowK_self iB 2 (Sort.ahead w (q+1)) Zo off d (holdsK_ahead iB 2 w (q+1) Zo off d HH.out)).symm,CompInv.start A.out (keeps_neg (by omega) (by rw[B.out.1,B.out.2]))⟩
     case round=>
      obtain⟨kk,k2,q2,dk,rfl,rfl,h1,YJ,ZH,SS,hI⟩:=hrel;have hkk:=hI.lt;have hds:=hI.size
      have Td:HoldsK iB 2 wr Zo off dk:=by rw[SS];exact holdsK_putRowK iB 2 _ Zo off d dk (holdsK_ahead iB 2 w q2 Zo off d HH.out) hds
      have W2:Aside (wr=putRowK iB 2 (Sort.ahead w q2) Zo off dk):=SS;have I2:Aside (CompInv d (k+k2) kk dk):=hI;clear SS;by_cases hlt2:k+k2<d.size
      ·obtain⟨cm,cm',_,_⟩:=dI Td (i:=k+k2) (by omega);obtain⟨cp,cp',_,_⟩:=dI Td (i:=k+k2-1) (by omega);obtain⟨ck,ck',fk,fk'⟩:=dI Td (i:=kk) (by omega);rw[hI.high (k+k2) (by omega),show off+(k+k2)*2=off+k*2+k2*2 by omega]at cm cm';rw[hI.high (k+k2-1) (by omega),show off+(k+k2-1)*2=off+k*2+(k2-1)*2 by omega]at cp cp';clear Td hI;generalize hu:d[k+k2]! = u at cm cm';generalize hv:d[k+k2-1]! = v at cp cp';generalize dk[kk]! = old at ck ck';have C:Aside (d[k+k2]! = u/\d[k+k2-1]! = v):=⟨hu,hv⟩;clear hu hv;by_cases huv:u=v
       ·subst huv
        go_wp2_with fail
        go_region_o
        go_wp2
        go_roundg (d.size-(k+(k2+1)))
        case measure=>omega
        case rel=>exact⟨kk,k2+1,q2+1,dk,rfl,by go_num,by omega,by omega,Nat.le_refl _,by rw[W2.out];rfl,I2.out.skip (keeps_neg (by omega) (by rw[C.out.1,C.out.2]))⟩
       ·go_wp2_with fail
        go_region_o
        go_wp2
        go_roundg (d.size-(k+(k2+1)))
        case measure=>omega
        case rel=>exact⟨kk+1,k2+1,q2+1,dk.setIfInBounds kk u,by go_num,by go_num,by omega,by omega,Nat.le_refl _,LJ (by omega) W2.out u,by have:=I2.out.keep hlt2 (keeps_pos (by rw[C.out.1,C.out.2];exact huv));rwa [C.out.1]at this⟩
      ·have WP:k+k2=d.size:=by omega
       have hcl:∀ty,(Builtin.clear_ #[62] ty #[.slice (some ⟨Zo,off+kk*2,none⟩) (d.size-kk) (cap-kk)]).run Tryz.prog wr=.ok (.tuple #[]) (wr.setCells Zo (off+kk*2) (List.replicate ((d.size-kk)*2) (.int .i64 0))):=λty=>DV wr ty Zo (off+kk*2) (d.size-kk) (cap-kk) (by omega) λj hj=>by
        have h:=dI Td (i:=kk+j/2) (by omega);rcases Nat.mod_two_eq_zero_or_one j with e|e
        ·rw[show off+kk*2+j=off+(kk+j/2)*2 by omega];exact⟨by rw[h.1];rfl,h.2.2.1⟩
        ·rw[show off+kk*2+j=off+(kk+j/2)*2+1 by omega];exact⟨by rw[h.2.1];rfl,h.2.2.2⟩
       have HK:=Lib.hid Td;clear Td hI
       go_wp2
       go_ret
       have hI:=I2.out;rw[WP]at hI;have hl:=hI.len;refine⟨by rw[hl];rfl,λi hi=>?_,?_⟩
       ·rw[hl]at hi;have XT:=hI.low i hi;obtain⟨g1,g2,_,_⟩:=dI HK.out (i:=i) (by omega)
        have e:(compactUpTo d d.size)[i]'(by rw[hl];exact hi)=dk[i]!:=by
         have:=oGS XT;exact this.2
        rw[e];exact⟨by rw[iG _ _ _ (by omega)];exact g1,by rw[iG _ _ _ (by omega)];exact g2⟩
       ·rw[W2.out];exact((dR.ahead _ _ _).trans (dR.putRow _ _ _ _)).trans (dR.setCells _ _ _ _)
    ·go_wp2_with fail
     go_region_o
     go_wp2
     go_roundg (d.size-(k+1))
     case measure=>omega
     case rel=>
      refine⟨k+1,q+1,by omega,by omega,Nat.le_refl _,by go_num,rfl,λj hj=>?_⟩;by_cases e:j=k
      ·subst e;exact keeps_pos (by rw[B.out.1,B.out.2];exact hdup)
      ·exact A.out j (by omega)
   ·have:k=d.size:=by omega
    subst this;have HH:Aside (HoldsK iB 2 w Zo off d):=hH;clear hH
    go_wp2
    go_ret
    obtain⟨e1,e2⟩:=HS.out q ZW;exact⟨by rw[e1];rfl,e2⟩
theorem kE(a b:PID):dc a b=true↔(a.1≠-1/\b.1=-1)\/((a.1=-1↔b.1=-1)/\(a.1<b.1\/a.1=b.1/\a.2<b.2)):=by
 unfold dc;by_cases h1:a.1=-1<;>by_cases h2:b.1=-1<;>simp[h1,h2,oBF]
theorem gi(a:PID):dc a a=false:=by
 rw[<- Bool.not_eq_true,kE];omega
theorem lk{a b c:PID}(h1:dc a b=true)(h2:dc b c=true):dc a c=true:=by
 rw[kE]at *;omega
theorem tB{a b:PID}(h1:dc a b=false)(h2:dc b a=false):a=b:=by
 rw[<- Bool.not_eq_true,kE]at *
 have e1:a.1=b.1:=by omega
 have e2:a.2=b.2:=by omega
 exact Prod.ext e1 e2
theorem Bl{a b:PID}(h1:dc a b=true):dc b a=false:=by
 rw[<- Bool.not_eq_true];intro h2;have:=lk h1 h2;rw[gi]at this;cases this
theorem u9(a b:Int):(a<b/\va a b=-1)\/(a=b/\va a b=0)\/(b<a/\va a b=1):=by
 unfold va;by_cases h:a<b
 ·exact .inl ⟨h,oIP h⟩
 ·rw[oIN h];by_cases h2:b<a
  ·exact .inr (.inr ⟨h2,oIP h2⟩)
  ·exact .inr (.inl ⟨by omega,oIN h2⟩)
theorem sb(a:Int):(a=-1/\ng a=1)\/(a≠-1/\ng a=0):=by
 unfold ng;by_cases h:a=-1
 ·exact .inl ⟨h,oIP h⟩
 ·exact .inr ⟨h,oIN h⟩
theorem kT(x y:PID):ltOf BV x y=dc x y:=by
 rw[Bool.eq_iff_iff,kE];unfold ltOf BV;rw[decide_eq_true_iff]
 rcases sb x.1 with⟨h1,e1⟩|⟨h1,e1⟩<;>rcases sb y.1 with⟨h2,e2⟩|⟨h2,e2⟩<;>rw[e1,e2]<;>rcases u9 x.1 y.1 with⟨h3,e3⟩|⟨h3,e3⟩|⟨h3,e3⟩<;>rw[e3] <;>
  rcases u9 x.2 y.2 with⟨h4,e4⟩|⟨h4,e4⟩|⟨h4,e4⟩<;>rw[e4]<;>simp only[orI,va]<;>simp<;>omega
theorem JU:SWO (ltOf BV) where
 irrefl x:=by rw[kT];exact gi x
 trans x y z h1 h2:=by rw[kT]at *;exact lk h1 h2
 ntrans x y z h1 h2:=by
  rw[kT]at *;rw[<- Bool.not_eq_true,kE]at *;omega
abbrev Asc(l:List PID):Prop:=l.Pairwise λa b=>dc a b=true
theorem vh:∀{a b:List PID},Asc a->Asc b->(∀x,x∈a↔x∈b)->a=b
 | [],[],_,_,_=>rfl
 | [],y::b,_,_,h=>by have:=(h y).2 (by simp);simp at this
 |x::a,[],_,_,h=>by have:=(h x).1 (by simp);simp at this
 |x::a,y::b,ha,hb,h=>by
  have Wq:=List.pairwise_cons.1 ha;have YI:=List.pairwise_cons.1 hb
  have e:x=y:=by
   have h1:=(h x).1 (by simp);have h2:=(h y).2 (by simp);rcases List.mem_cons.1 h1 with e|h1
   ·exact e
   ·rcases List.mem_cons.1 h2 with e|h2
    ·exact e.symm
    ·have g1:=YI.1 x h1;have g2:=Wq.1 y h2;rw[Bl g1]at g2;cases g2
  subst e;rw[vh Wq.2 YI.2 λz=>?_];constructor
  ·intro hz
   rcases List.mem_cons.1 ((h z).1 (by simp[hz]))with e|h1
   ·subst e;have:=Wq.1 z hz;rw[gi]at this;cases this
   ·exact h1
  ·intro hz
   rcases List.mem_cons.1 ((h z).2 (by simp[hz]))with e|h1
   ·subst e;have:=YI.1 z hz;rw[gi]at this;cases this
   ·exact h1
theorem vW(x z:PID):∀{l:List PID},z∈tX l x↔z=x\/z∈l
 | []=>by simp[tX]
 |y::r=>by
  unfold tX;split
  ·rw[List.mem_cons,vW x z,List.mem_cons];constructor
   ·rintro(h|h|h)<;>simp[h]
   ·rintro(h|h|h)<;>simp[h]
  ·split
   ·rename_i e;subst e;simp
   ·simp
theorem Al(x:PID):∀{l:List PID},Asc l->Asc (tX l x)
 | [],_=>by simp[tX]
 |y::r,h=>by
  have h':=List.pairwise_cons.1 h;unfold tX;split
  ·rename_i hy;refine List.pairwise_cons.2 ⟨λz hz=>?_,Al x h'.2⟩
   rcases(vW x z).1 hz with rfl|hz
   ·exact hy
   ·exact h'.1 z hz
  ·rename_i hy;split
   ·exact h
   ·rename_i hne
    have SU:dc x y=true:=by
     rw[<- Bool.not_eq_false];intro e;exact hne (tB (by simpa using hy) e)
    refine List.pairwise_cons.2 ⟨λz hz=>?_,h⟩;rcases List.mem_cons.1 hz with rfl|hz
    ·exact SU
    ·exact lk SU (h'.1 z hz)
theorem yE(l:List PID):∀{a:List PID},Asc a->Asc (l.foldl tX a)/\∀z,z∈l.foldl tX a↔z∈l\/z∈a:=by
 induction l with
 |nil=>intro a h;exact⟨h,λz=>by simp⟩
 |cons x l ih=>
  intro a h;obtain⟨h1,h2⟩:=ih (Al x h);refine⟨h1,λz=>?_⟩;rw[List.foldl_cons,h2,vW,List.mem_cons];constructor
  ·rintro(h|h|h)<;>simp[h]
  ·rintro((h|h)|h)<;>simp[h]
theorem Et(l:List PID):Asc (kP l):=(yE l (a:=[]) List.Pairwise.nil).1
theorem xq(l:List PID)(z:PID):z∈kP l↔z∈l:=by
 rw[kP,(yE l (a:=[]) List.Pairwise.nil).2];simp
theorem Hj{l m:List PID}(h:Asc m)(hm:∀z,z∈m↔z∈l):kP l=m:=vh (Et l) h λz=>(xq l z).trans (hm z).symm
theorem up(d:Array PID)(hs:∀i,i+1<d.size->dc d[i+1]! d[i]! = false):∀m,m<=d.size ->
 Asc (compactUpTo d m)/\(∀z,z∈compactUpTo d m↔∃i,i<m/\z=d[i]!)/\(0<m->∀z∈compactUpTo d m,z=d[m-1]!\/dc z d[m-1]! = true):=by
 intro m
 induction m with
 |zero=>intro _;refine⟨by simp[compactUpTo],λz=>by simp[compactUpTo],λh=>by omega⟩
 |succ m ih=>
  intro hm;obtain⟨h1,h2,h3⟩:=ih (by omega);rw[compactUpTo_succ];by_cases h0:m=0
  ·subst h0;have:keeps d 0=true:=keeps_lt_one d 0 (by omega);rw[this];refine⟨by simp[compactUpTo],λz=>?_,λ_ z hz=>?_⟩
   ·simp only[compactUpTo,List.range_zero,List.filter_nil,List.map_nil,if_true,List.nil_append,List.mem_singleton];constructor
    ·intro e;exact⟨0,by omega,e⟩
    ·rintro⟨i,hi,e⟩;rw[e];congr 1;omega
   ·simp[compactUpTo]at hz;exact .inl hz
  ·have Ta:=h3 (by omega);have qN:=hs (m-1) (by omega);rw[show m-1+1=m by omega]at qN;by_cases e:d[m]! = d[m-1]!
   ·rw[keeps_neg (by omega) e];simp only[Bool.false_eq_true,if_false,List.append_nil];refine⟨h1,λz=>?_,λ_ z hz=>?_⟩
    ·rw[h2];constructor
     ·rintro⟨i,hi,hz⟩;exact⟨i,by omega,hz⟩
     ·rintro⟨i,hi,hz⟩;by_cases hi2:i=m
      ·subst hi2;exact⟨i-1,by omega,by rw[hz,e]⟩
      ·exact⟨i,by omega,hz⟩
    ·rw[Nat.add_sub_cancel,e];exact Ta z hz
   ·rw[keeps_pos e];simp only[if_true]
    have hlt:dc d[m-1]! d[m]! = true:=by
     rw[<- Bool.not_eq_false];intro g;exact e (tB qN g)
    have ZW:∀z∈compactUpTo d m,dc z d[m]! = true:=λz hz=>by
     rcases Ta z hz with g|g
     ·rw[g];exact hlt
     ·exact lk g hlt
    refine⟨List.pairwise_append.2 ⟨h1,by simp,λa ha b hb=>?_⟩,λz=>?_,λ_ z hz=>?_⟩
    ·rw[List.mem_singleton.1 hb];exact ZW a ha
    ·rw[List.mem_append,h2,List.mem_singleton];constructor
     ·rintro(⟨i,hi,hz⟩|hz)
      ·exact⟨i,by omega,hz⟩
      ·exact⟨m,by omega,hz⟩
     ·rintro⟨i,hi,hz⟩;by_cases hi2:i=m
      ·subst hi2;exact .inr hz
      ·exact .inl ⟨i,by omega,hz⟩
    ·rw[Nat.add_sub_cancel];rcases List.mem_append.1 hz with hz|hz
     ·exact .inr (ZW z hz)
     ·exact .inl (List.mem_singleton.1 hz)
theorem wQ{l:List PID}{d:Array PID}(hp:∀z,z∈d.toList↔z∈l)(hs:∀i,i+1<d.size->dc d[i+1]! d[i]! = false):compactUpTo d d.size=kP l:=by
 obtain⟨h1,h2,_⟩:=up d hs d.size (Nat.le_refl _);refine(Hj h1 λz=>?_).symm;rw[h2,<- hp];constructor
 ·rintro⟨i,hi,e⟩;rw[e];simp[hi]
 ·intro hz;obtain⟨i,hi,e⟩:=List.getElem_of_mem hz
  have ZM:i<d.size:=by simpa using hi
  exact⟨i,ZM,by rw[<- e];simp[ZM]⟩
end Go.Proofs.YtbdhpgelkfncpaaGreat
namespace Go.Proofs.YtbdhpgelkfncpaaGreat
open Go.Shelf
def zA:Go.Shelf.Ren:=⟨λ|6=>77|15=>87|14=>86|28=>98|29=>99|20=>90|21=>91|22=>92|23=>93|24=>94|25=>95|26=>96|27=>97|46=>100|47=>101|48=>102|49=>103|50=>104|57=>105|n=>n,λ|22=>62|24=>42|25=>90|3=>3|39=>116|0=>0|53=>128|55=>130|4=>4|46=>121|45=>120|50=>125|5=>5|9=>9|66=>131|70=>135|76=>137|77=>138|n=>n,λ|n=>n⟩
theorem Er:Go.Proofs.SlLaysF0.n6 Tryz.prog zA:={
 mixed:=by kernel_rfl
 f6:=⟨Tryz.f77.name,by decide,Tryz.func77.trans (congrArg some (by kernel_rfl))⟩
 f14:=⟨Tryz.f86.name,by decide,Tryz.func86.trans (congrArg some (by kernel_rfl))⟩
 f15:=Tryz.func87.trans (congrArg some (by kernel_rfl))
 f20:=⟨Tryz.f90.name,by decide,Tryz.func90.trans (congrArg some (by kernel_rfl))⟩
 f21:=⟨Tryz.f91.name,by decide,Tryz.func91.trans (congrArg some (by kernel_rfl))⟩
 f22:=⟨Tryz.f92.name,by decide,Tryz.func92.trans (congrArg some (by kernel_rfl))⟩
 f23:=⟨Tryz.f93.name,by decide,Tryz.func93.trans (congrArg some (by kernel_rfl))⟩
 f24:=⟨Tryz.f94.name,by decide,Tryz.func94.trans (congrArg some (by kernel_rfl))⟩
 f25:=⟨Tryz.f95.name,by decide,Tryz.func95.trans (congrArg some (by kernel_rfl))⟩
 f26:=⟨Tryz.f96.name,by decide,Tryz.func96.trans (congrArg some (by kernel_rfl))⟩
 f27:=⟨Tryz.f97.name,by decide,Tryz.func97.trans (congrArg some (by kernel_rfl))⟩
 f28:=Tryz.func98.trans (congrArg some (by kernel_rfl))
 f29:=Tryz.func99.trans (congrArg some (by kernel_rfl))
 f46:=⟨Tryz.f100.name,by decide,Tryz.func100.trans (congrArg some (by kernel_rfl))⟩
 f47:=Tryz.func101.trans (congrArg some (by kernel_rfl))
 f48:=Tryz.func102.trans (congrArg some (by kernel_rfl))
 f49:=⟨Tryz.f103.name,by decide,Tryz.func103.trans (congrArg some (by kernel_rfl))⟩
 f50:=⟨Tryz.f104.name,by decide,Tryz.func104.trans (congrArg some (by kernel_rfl))⟩
 f57:=⟨Tryz.f105.name,by decide,Tryz.func105.trans (congrArg some (by kernel_rfl))⟩
 t0:=Tryz.underlying0
 a0:=Tryz.isAgg0
 z0:=Tryz.sizeOf0
 v0:=Tryz.zeroValue0
 t3:=Tryz.underlying3
 a3:=Tryz.isAgg3
 z3:=Tryz.sizeOf3
 v3:=Tryz.zeroValue3
 t4:=Tryz.underlying4
 a4:=Tryz.isAgg4
 z4:=Tryz.sizeOf4
 v4:=Tryz.zeroValue4
 t5:=Tryz.underlying5
 a5:=Tryz.isAgg5
 z5:=Tryz.sizeOf5
 v5:=Tryz.zeroValue5
 t9:=Tryz.underlying9
 a9:=Tryz.isAgg9
 z9:=Tryz.sizeOf9
 v9:=Tryz.zeroValue9
 t22:=Tryz.underlying62
 a22:=Tryz.isAgg62
 z22:=Tryz.sizeOf62
 v22:=Tryz.zeroValue62
 t25:=Tryz.underlying90
 a25:=Tryz.isAgg90
 z25:=Tryz.sizeOf90
 v25:=Tryz.zeroValue90
 t39:=Tryz.underlying116
 a39:=Tryz.isAgg116
 z39:=Tryz.sizeOf116
 v39:=Tryz.zeroValue116
 t45:=Tryz.underlying120
 a45:=Tryz.isAgg120
 z45:=Tryz.sizeOf120
 v45:=Tryz.zeroValue120
 t46:=Tryz.underlying121
 a46:=Tryz.isAgg121
 z46:=Tryz.sizeOf121
 v46:=Tryz.zeroValue121
 t50:=Tryz.underlying125
 a50:=Tryz.isAgg125
 z50:=Tryz.sizeOf125
 v50:=Tryz.zeroValue125
 t53:=Tryz.underlying128
 a53:=Tryz.isAgg128
 z53:=Tryz.sizeOf128
 v53:=Tryz.zeroValue128
 t55:=Tryz.underlying130
 a55:=Tryz.isAgg130
 z55:=Tryz.sizeOf130
 v55:=Tryz.zeroValue130
 t66:=Tryz.underlying131
 a66:=Tryz.isAgg131
 z66:=Tryz.sizeOf131
 v66:=Tryz.zeroValue131
 t70:=Tryz.underlying135
 a70:=Tryz.isAgg135
 z70:=Tryz.sizeOf135
 v70:=Tryz.zeroValue135
 t76:=Tryz.underlying137
 a76:=Tryz.isAgg137
 z76:=Tryz.sizeOf137
 v76:=Tryz.zeroValue137
 t77:=Tryz.underlying138
 a77:=Tryz.isAgg138
 z77:=Tryz.sizeOf138
 v77:=Tryz.zeroValue138 }
def yX:Go.Shelf.Ren:=⟨λ|41=>76|n=>n,λ|22=>62|23=>42|4=>4|n=>n,λ|n=>n⟩
theorem Cm:Go.Proofs.SlLaysE0.n41 Tryz.prog yX:={
 mixed:=by kernel_rfl
 f41:=⟨Tryz.f76.name,by decide,Tryz.func76.trans (congrArg some (by kernel_rfl))⟩
 t4:=Tryz.underlying4
 a4:=Tryz.isAgg4
 z4:=Tryz.sizeOf4
 v4:=Tryz.zeroValue4
 t22:=Tryz.underlying62
 a22:=Tryz.isAgg62
 z22:=Tryz.sizeOf62
 v22:=Tryz.zeroValue62 }
end Go.Proofs.YtbdhpgelkfncpaaGreat
namespace Go.Proofs.YtbdhpgelkfncpaaGreat
open Go.RowKit Go.Sort Go.Lib
theorem yU(p:Option Addr)(cap:Nat)(w:World):Calls Tryz.prog 78 #[.slice p 0 cap] w λe w'=>e=.returned (.slice p 0 cap)/\w'=w:=by
 go_enter Tryz.func78,Tryz.ntmps78
 go_wp2
 go_ret
 exact⟨rfl,rfl⟩
theorem Ep(p:Option Addr)(cap:Nat)(fv:Value)(w:World):Calls Tryz.prog 77 #[.slice p 0 cap,fv] w λe w'=>e=.returned (.tuple #[])/\w'=w:=
 AnyF.slices_SortFunc_none Er p cap fv w
theorem Hi(Zo cap:Nat)(d:Array PID)(w:World)(hH:HoldsK iB 2 w Zo 0 d)(Uw:Zo<w.heap.size)(hsz:d.size<4611686018427387904):
 Calls Tryz.prog 77 #[.slice (some ⟨Zo,0,none⟩) d.size cap,.func (.func 50) #[] #[]] w λe w'=>
  e=.returned (.tuple #[])/\∃d' n os,PermIn 0 d.size d d'/\SortedIn (ltOf BV) 0 d.size d'/\w'=sortWorldK iB 2 w Zo 0 n d' os:=by
 have eg:∀args w,(callFunc 50 args).run Tryz.prog w=.ok (.enter 50 args) w:=jm Tryz.func50 (by kernel_rfl) rfl;have OU:CmpLays Tryz.prog 50 #[] iB 2 BV Zo 0 d.size w:=λ_ _ _ _ x y=>FJ x y _;exact AnyQ.slices_SortFunc Er 2 Tryz.isAgg42 Tryz.sizeOf42 iB (λ_=>rfl) (λx v hv=>by simp[iB]at hv;rcases hv with rfl|rfl<;>rfl) BV JU 50 #[] Zo 0 cap d w eg OU hH Uw hsz
theorem rp:∃i z,Tryz.prog.info? 42=some i/\i.zero=some z/\i.size=2/\i.bytes=16/\z.cells.size=2:=by
 have h:(match Tryz.prog.info? 42 with|some i=>(match i.zero with|some z=>decide (i.size=2)&&decide (i.bytes=16)&&decide (z.cells.size=2)|none=>false)|none=>false)=true:=by kernel_rfl
 revert h
 cases Tryz.prog.info? 42 with
 |none=>intro h;cases h
 |some i=>
  intro h;simp only at h
  cases hz:i.zero with
  |none=>rw[hz]at h;cases h
  |some z=>
   rw[hz]at h;simp only[oBA,oDE]at h;exact⟨i,z,rfl,hz,h.1.1,h.1.2,h.2⟩
def iE(l:List PID):List Value:=l.flatMap iB
theorem sH(l:List PID):(iE l).length=l.length*2:=by
 induction l with
 |nil=>rfl
 |cons x l ih=>simp[iE,iB]at ih⊢;omega
theorem sI:∀(l:List PID)(i:Nat)(h:i<l.length),(iE l)[i*2]?=some (.int .i64 l[i].1)/\(iE l)[i*2+1]?=some (.int .i64 l[i].2)
 |x::l,0,_=>⟨rfl,rfl⟩
 |x::l,i+1,h=>by
  have:=sI l i (by simpa using h);have e:iE (x::l)=.int .i64 x.1 :: .int .i64 x.2::iE l:=rfl;rw[e,show(i+1)*2=i*2+1+1 by omega];simpa using this
theorem yK(l:List PID):∀u∈iE l,u.oneCell'=true:=by
 intro u hu;simp[iE,iB]at hu;obtain⟨_,_,_,h|h⟩:=hu<;>rw[h]<;>rfl
theorem sJ{w:World}{b o:Nat}{l:List PID}(h:lE w b o l):∀j u,(iE l)[j]?=some u->w.cell? ⟨b,o+j,none⟩=some u:=by
 intro j u hu
 have hj:j<l.length*2:=by rw[<- sH];exact(oGS hu).1
 have hi:j/2<l.length:=by omega
 have g:=sI l (j/2) hi;have hc:=h (j/2) hi;rcases Nat.mod_two_eq_zero_or_one j with e|e
 ·rw[show j=j/2*2 by omega]at hu⊢;rw[g.1]at hu
  injection hu with hu
  rw[<- hu];exact hc.1
 ·rw[show j=j/2*2+1 by omega]at hu⊢;rw[g.2]at hu
  injection hu with hu
  rw[<- hu,<- Nat.add_assoc];exact hc.2
theorem uV{w:World}{g cap:Nat}{cur:Array Value}{e:TypeId}{l:List PID}(hg:w.heap[g]?=some (.cells cur e (0,0)))(hcur:cur.size=cap*2)(hl:l.length<=cap)(ht:cur.toList.take (l.length*2)=iE l):HoldsK iB 2 w g 0 l.toArray:=by
 intro j hj;rw[size_flatK]at hj
 have ZT:j<l.length*2:=by simpa using hj
 rw[Nat.zero_add,get_flatK _ _ _ _ hj,cell_of_row w g j cur e (0,0) hg]
 have hi:j/2<l.length:=by omega
 have e1:(iE l)[j]?=cur.toList[j]?:=by rw[<- ht,List.getElem?_take_of_lt ZT]
 have e2:cur[j]?=cur.toList[j]?:=by simp
 have gg:=sI l (j/2) hi
 have e3:l.toArray[j/2]! = l[j/2]:=by simp[hi]
 refine⟨?_,?_⟩
 ·rw[e2,<- e1,e3];rcases Nat.mod_two_eq_zero_or_one j with e|e
  ·rw[e];have:=gg.1;rw[show j/2*2=j by omega]at this;exact this
  ·rw[e];have:=gg.2;rw[show j/2*2+1=j by omega]at this;exact this
 ·simp[World.frozen?,hg]
theorem DT(ad:Addr)(cap:Nat)(w:World):Calls Tryz.prog 76 #[.slice (some ad) 0 cap] w λe w'=>Below w.heap.size w w'/\∃p,e=.returned (.slice p 0 0):=by
 obtain⟨i,z,hi,_⟩:=rp;have q:∀(w:World)(a:Option Addr)(n c n' c':Nat),(binOp .eql 62 (.slice a n c) (.slice none n' c')).run Tryz.prog w=.ok (.bool a.isNone) w:=λw a n c n' c'=>Lib.run_eql_slice_nil w _ _ a n c n' c' Tryz.underlying62;have hz:∀(w:World)(ty:TypeId)(s:Option Addr),(Builtin.append_ #[62,62] ty #[.slice s 0 0,.slice (some ad) 0 cap]).run Tryz.prog w=.ok (.slice s 0 0) w:=λw ty s=>gy w 62 ty 42 i Tryz.underlying62 hi s 0 0 (Nat.le_refl _) (some ad) cap;clear hi
 go_enter Tryz.func76,Tryz.ntmps76
 go_wp2
 go_ret
 exact⟨Below.alloc (Below.refl _ _) (Nat.le_refl _) _,_,rfl⟩
theorem GA(l:List PID)(a:Option Addr)(cap:Nat)(w:World)(ha:l≠[]->∃b o,a=some ⟨b,o,none⟩/\lE w b o l)(hl:l.length<=1099511627776):
 Calls Tryz.prog 76 #[.slice a l.length cap] w λe w'=>Below w.heap.size w w'/\((l=[]/\∃p,e=.returned (.slice p 0 0))\/
  ∃g c,e=.returned (.slice (some ⟨g,0,none⟩) l.length c)/\w.heap.size<=g/\g<w'.heap.size/\l.length<=c/\c<=maxLen/\HoldsK iB 2 w' g 0 l.toArray):=by
 obtain⟨i,z,hi,hz,hsz,Yz,Zg⟩:=rp
 have ZQ:∀b o,a=some ⟨b,o,none⟩->(∀j u,(iE l)[j]?=some u->w.cell? ⟨b,o+j,none⟩=some u)->Calls Tryz.prog 76 #[.slice a l.length cap] w λe w'=>Below w.heap.size w w'/\((l=[]/\∃p,e=.returned (.slice p 0 0))\/
  ∃g c,e=.returned (.slice (some ⟨g,0,none⟩) l.length c)/\w.heap.size<=g/\g<w'.heap.size/\l.length<=c/\c<=maxLen/\HoldsK iB 2 w' g 0 l.toArray):=by
  rintro b o rfl hc;have h:=AnyE.slices_Clone Cm i z 2 16 hi hz hsz Yz Zg (by omega) Tryz.sizeOf42 b o l.length cap (iE l) w (sH l) (by unfold maxLen;omega) (by omega) hc (yK l);refine h.mono λe w' ⟨v',he,hown,_,hb⟩=>⟨hb,?_⟩
  rcases hown.2 with⟨rfl,hn⟩|⟨g,c,cur,rfl,hg,YT,hcap,hmax,hcur,Zx⟩
  ·exact .inl ⟨oEN hn,none,he⟩
  ·exact .inr ⟨g,c,he,hg,(Array.getElem?_eq_some_iff.1 YT).1,hcap,hmax,uV YT hcur hcap Zx⟩
 by_cases hn:l=[]
 ·subst hn
  cases a with
  |none=>exact(AnyE.slices_Clone_nil Cm 0 cap w).mono λe w' ⟨he,hw⟩=>by subst hw;exact⟨Below.refl _ _,.inl ⟨rfl,none,he⟩⟩
  |some ad=>exact(DT ad cap w).mono λe w' ⟨hb,h⟩=>⟨hb,.inl ⟨rfl,h⟩⟩
 ·obtain⟨b,o,e,hh⟩:=ha hn;exact ZQ b o e (sJ hh)
theorem tz{w w' WZ:World}{g:Nat}(hb:Below w.heap.size w w')(hg:w.heap.size<=g)(h:dR g w' WZ):Below w.heap.size w WZ:=
 ⟨h.os.trans hb.os,h.tape.trans hb.tape,h.output.trans hb.output,by rw[h.size];exact hb.size,λk hk=>(h.block k (by omega)).trans (hb.block k hk)⟩
theorem D2{w w':World}{g n:Nat}{d:Array PID}{os:Array Obj}(hb:Below w.heap.size w w')(hg:w.heap.size<=g):Below w.heap.size w (sortWorldK iB 2 w' g 0 n d os):=by
 have h1:dR g w' (putRowK iB 2 (Sort.ahead w' n) g 0 d):=(dR.ahead g w' n).trans (dR.putRow g 0 _ d);have h2:=tz hb hg h1;have e:sortWorldK iB 2 w' g 0 n d os=grow (putRowK iB 2 (Sort.ahead w' n) g 0 d) os:=rfl;rw[e];refine⟨h2.os,h2.tape,h2.output,Nat.le_trans h2.size (by simp[grow]),λk hk=>?_⟩;rw[<- h2.block k hk];show(_++os)[k]?=_;exact Array.getElem?_append_left (Nat.lt_of_lt_of_le hk h2.size)
theorem Dz{w':World}{g n:Nat}{d d':Array PID}{os:Array Obj}(h:HoldsK iB 2 w' g 0 d)(hg:g<w'.heap.size)(hs:d'.size=d.size):HoldsK iB 2 (sortWorldK iB 2 w' g 0 n d' os) g 0 d':=by
 have e:sortWorldK iB 2 w' g 0 n d' os=grow (putRowK iB 2 (Sort.ahead w' n) g 0 d') os:=rfl;rw[e];exact holdsK_grow iB 2 _ os g 0 d' (by unfold putRowK;simpa using hg) (holdsK_putRowK iB 2 _ g 0 d d' (holdsK_ahead iB 2 w' n g 0 d h) hs)
theorem Ak(x:PID):∀l:List PID,(tX l x).length<=l.length+1
 | []=>by simp[tX]
 |y::r=>by
  unfold tX;split
  ·have:=Ak x r;simp;omega
  ·split<;>simp
theorem Es(l:List PID):(kP l).length<=l.length:=by
 have ZQ:∀(l a:List PID),(l.foldl tX a).length<=a.length+l.length:=by
  intro l
  induction l with
  |nil=>intro a;simp
  |cons x l ih=>
   intro a;have h1:=ih (tX a x);have h2:=Ak x a;simp only[List.foldl_cons,oLC];omega
 have:=ZQ l [];simpa[kP]using this
def MD(w w':World)(e:Ending)(m:List PID):Prop:=Below w.heap.size w w'/\((m=[]/\∃p,e=.returned (.slice p 0 0))\/∃g c,e=.returned (.slice (some ⟨g,0,none⟩) m.length c)/\w.heap.size<=g/\m.length<=c/\c<=maxLen/\lE w' g 0 m)
set_option maxHeartbeats 2000000 in
theorem CO(l:List PID)(a:Option Addr)(cap:Nat)(w:World)(ha:l≠[]->∃b o,a=some ⟨b,o,none⟩/\lE w b o l)(hl:l.length<=1099511627776):
 Calls Tryz.prog 67 #[.func (.func 50) #[] #[],.slice a l.length cap] w λe w'=>MD w w' e (kP l):=by
 have Vy:=GA l a cap w ha hl
 have Vv:(l.length:Nat)<4611686018427387904:=by omega
 clear ha
 go_enter Tryz.func67,Tryz.ntmps67
 go_wp2_with fail
 refine Vy.mono ?_;rintro e w1 ⟨ZX,⟨rfl,p,rfl⟩|⟨g,c,rfl,hg,Z0,hc,hmax,hK⟩⟩
 ·go_wp2_with fail
  refine(Ep p 0 _ w1).mono ?_;rintro e w2 ⟨rfl,rfl⟩
  go_wp2_with fail
  refine(yU p 0 w2).mono ?_;rintro e w3 ⟨rfl,rfl⟩
  go_wp2
  go_ret
  exact⟨ZX,.inl ⟨rfl,p,rfl⟩⟩
 ·have HB:=Lib.hid ZX;have HK:=Lib.hid hK;clear ZX hK Vy
  go_wp2_with fail
  have hs:=Hi g c l.toArray w1 HK.out Z0 (by simpa using Vv);refine hs.mono ?_;rintro e w2 ⟨rfl,d',n,os,hp,p',rfl⟩
  have hsz:d'.size=l.length:=by simpa using hp.1
  have TU:=Dz (os:=os) (n:=n) HK.out Z0 hp.1
  have ZA:∀z,z∈d'.toList↔z∈l:=λz=>by
   have:=hp.2.2.mem_iff (a:=z);simpa[Array.extract_eq_self_of_le,hsz]using this
  have YE:∀i,i+1<d'.size->dc d'[i+1]! d'[i]! = false:=λi hi=>by
   rw[<- kT];exact p' i (i+1) (by omega) (by omega) (by rw[List.size_toArray];omega)
  have HC:=Lib.hid (AY g 0 c d' (sortWorldK iB 2 w1 g 0 n d' os) TU (by omega) (by omega));have W1:=Lib.hid (D2 (n:=n) (d:=d') (os:=os) HB.out hg);have HE:=Lib.hid (wQ ZA YE);have HL:=Lib.hid hsz;clear TU ZA YE hp p' hs hsz
  go_wp2_with fail
  have hcc:=HC.out;rw[HL.out]at hcc;refine hcc.mono ?_;rintro e w3 ⟨rfl,Qc,hC2⟩
  go_wp2
  go_ret
  have e:compactUpTo d' l.length=kP l:=by rw[<- HL.out];exact HE.out
  have hlen:=Es l;exact⟨tz W1.out hg hC2,.inr ⟨g,c,by rw[e];rfl,hg,by omega,hmax,by rw[<- HE.out];exact Qc⟩⟩
theorem vo:gQ Tryz.prog 67:=jm Tryz.func67 (by kernel_rfl) rfl
theorem yi{w:World}{F:Nat->Prop}{l:List PID}{x:Value}(h:fI w F (.sl (l.map qg)) x):∃a cap,x=.slice a l.length cap/\(l≠[]->∃b o,a=some ⟨b,o,none⟩/\lE w b o l):=by
 cases h with
 | @sl _ a cap sz u hsz hcap hmax hnil hcell hrec=>
  refine⟨a,cap,by simp,λhn=>?_⟩;have Z1:0<l.length:=List.length_pos_iff.2 hn
  have hz:sz=2:=by
   have:=hsz 0 (by simpa using Z1);rw[<- this];simp[qg]
  subst hz;obtain⟨b,o,e,_,_⟩:=hcell 0 0 (by simpa using Z1) (by omega);refine⟨b,o,e,λi hi=>?_⟩
  have ZM:i<(l.map qg).length:=by simpa using hi
  have cell:∀j (hj:j<2),w.cell? ⟨b,o+(i*2+j),none⟩=some (u i j):=λj hj=>by
   obtain⟨b',o',e',_,hc⟩:=hcell i j ZM hj;rw[e]at e'
   injection e' with e'
   injection e' with e1 e2
   subst e1;subst e2;exact hc
  have g0:=hrec i 0 ZM (by simp[qg]);have g1:=hrec i 1 ZM (by simp[qg]);have c0:=cell 0 (by omega);have c1:=cell 1 (by omega);revert g0 g1 c0 c1;generalize u i 0=u0;generalize u i 1=u1;intro g0 g1 c0 c1;simp only[List.getElem_map,qg,List.getElem_cons_zero,List.getElem_cons_succ]at g0 g1;cases g0;cases g1;exact⟨by rw[<- c0];congr 2,by rw[<- c1];congr 2⟩
theorem Ff{w:World}{F:Nat->Prop}{l:List PID}{g c:Nat}(h:lE w g 0 l)(hl:l.length<=c)(hm:c<=maxLen)(hF:F g):fI w F (.sl (l.map qg)) (.slice (some ⟨g,0,none⟩) l.length c):=by
 have ZQ:=fI.sl (w:=w) (F:=F) (c:=l.map qg) (a:=some ⟨g,0,none⟩) (cap:=c) 2 (λi j=>if j=0 then .int .i64 (l.getD i (0,0)).1 else .int .i64 (l.getD i (0,0)).2) (λi hi=>by simp[qg]) (by simpa using hl) hm (λe=>by simp at e) (λi j hi hj=>?_) (λi j hi hj=>?_)
 ·rw[List.length_map]at ZQ;exact ZQ
 ·have ZM:i<l.length:=by simpa using hi
  have hh:=h i ZM;refine⟨g,0,rfl,hF,?_⟩
  have e:l.getD i (0,0)=l[i]:=by simp[ZM]
  rw[e];rcases Nat.lt_or_ge 0 j with h0|h0
  ·have:j=1:=by omega
   subst this;rw[oIN (by omega),<- hh.2,Nat.add_assoc]
  ·have:j=0:=by omega
   subst this;rw[oIP rfl,<- hh.1];congr 2
 ·have ZM:i<l.length:=by simpa using hi
  have e:l.getD i (0,0)=l[i]:=by simp[ZM]
  simp only[List.getElem_map,qg,oLC,List.length_nil]at hj⊢;rw[e];rcases Nat.lt_or_ge 0 j with h0|h0
  ·have:j=1:=by omega
   subst this;exact .v rfl
  ·have:j=0:=by omega
   subst this;exact .v rfl
theorem BR{w w':World}{e:Ending}{m:List PID}{F:Nat->Prop}(h:MD w w' e m):∃x,e=.returned x/\Below w.heap.size w w'/\fI w' (λk=>F k\/w.heap.size<=k) (.sl (m.map qg)) x:=by
 obtain⟨hb,⟨rfl,p,he⟩|⟨g,c,he,hg,hl,hm,hh⟩⟩:=h
 ·exact⟨_,he,hb,.sl (c:=[]) 2 (λ_ _=>undef) (λi h=>by simp at h) (Nat.le_refl _) (Nat.zero_le _) (λ_=>rfl) (λi j h=>by simp at h) (λi j h=>by simp at h)⟩
 ·exact⟨_,he,hb,Ff hh hl hm (.inr hg)⟩
theorem CN(l:List PID)(hl:l.length<=1099511627776):Lg Tryz.prog 67 [.fn 50 [],.sl (l.map qg)] ((kP l).map qg):=by
 intro avs w F hal ha
 match avs,hal with
 | [x,y],_=>
  have h0:=ha 0 (by simp) (by simp);have h1:=ha 1 (by simp) (by simp);simp only[List.getElem_cons_zero,List.getElem_cons_succ]at h0 h1;cases h0
  cases h1 with
  |im h1=>
   obtain⟨a,cap,rfl,hh⟩:=yi h1;exact(CO l a cap w hh hl).mono λe w' h=>BR h
theorem lW{P:Program}{w:World}(t it ty e:TypeId)(i:TypeInfo)(z:Value)(ht:P.underlying t=some (.slice e))(hit:P.underlying it=some (.int .i64))(hi:P.info? e=some i)(hz:i.zero=some z)(Z1:0<i.size)
 (n:Nat)(h0:0<n)(Ov:n<=1099511627776)(h48:n*i.bytes<=140737488355328):
 (Builtin.append_ #[t,it] ty #[.slice none 0 0,.int .i64 n]).run P w =
  .ok (.slice (some ⟨w.heap.size,0,none⟩) n (grownCap w n 0 e)) (w.drew.alloc (.cells (Builtin.zeroCells z.cells n++Builtin.zeroCells z.cells (grownCap w n 0 e-n)) e)):=by
 have hn:n≠0:=by omega
 have Oy:¬(9223372036854775807<(n:Int)):=by omega
 have hw:IntKind.i64.wrap (n:Int)=(n:Int):=wrap_i64 (by omega) (by omega)
 have TC:¬((n:Int)<0):=by omega
 have OL:¬((281474976710656:Int)<(n:Int)*(i.bytes:Int)):=by
  have e:(n:Int)*(i.bytes:Int)=((n*i.bytes:Nat):Int):=by simp
  rw[e];omega
 have Ow:¬(281474976710656<Builtin.nextslicecap n 0*i.bytes):=by rw[nextslicecap_zero h0];omega
 have hm:n*i.size≠0:=by have:=Nat.mul_pos h0 Z1;omega
 have hsz:i.size≠0:=by omega
 simp[Builtin.append_,run_underlying ht,run_underlying hit,asInt,asIntOf,sizeOf,typeInfo,zeroValue,hi,hz,Builtin.lenOf,hn,Oy,Ow,Question.forced,run_firstCells_none,newRow,grownCap,asInt,hw,TC,OL,hm,hsz]
theorem gR{P:Program}{ops:Array Oper}{rest:List Oper}{o:Oper}{a:Act}{Q:Exit->Act->World->Prop}{w:World}{t it:TypeId}(Ye:o.guard=none)(s x:Operand)(ho:o.op=.call { callee:=.builtin .append,args:=#[s,x],argTypes:=#[t,it] })
 {vs vx v':Value}{w':World}(hs:a.eval s=vs)(hx:a.eval x=vx)(hrun:(Builtin.append_ #[t,it] o.type #[vs,vx]).run P w=.ok v' w')(h:wpList P ops Q rest (a.put o.dst v') w'):wpList P ops Q (o::rest) a w:=by
 refine wpList_plain Ye λK hK=>?_;unfold Oper.wp;simp[execOp,ho,resolve,invoke,builtin,hs,hx,hrun,Result.andThen];exact hK _ _ h
theorem D3{B:Nat}{a w:World}(h:Below B a w):Below B a w.drew:=⟨h.os,h.tape,h.output,h.size,h.block⟩
theorem IE(n:Nat)(w:World)(hn:n<=1099511627776):Calls Tryz.prog 79 #[.slice none 0 0,.int .i64 n] w λe w'=>Below w.heap.size w w'/\∃v,e=.returned v/\w'.ownsRow w.heap.size 42 2 v 0 []:=by
 obtain⟨i,z,hi,hz,hsz,Yz,Zg⟩:=rp;by_cases h0:n=0
 ·subst h0;clear hi hz hsz Yz Zg
  go_enter Tryz.func79,Tryz.ntmps79
  go_wp2
  go_ret
  exact⟨Below.refl _ _,_,rfl,rfl,.inl ⟨rfl,rfl⟩⟩
 ·have hz0:∀(w:World)(ty:TypeId),(Builtin.append_ #[62,3] ty #[.slice none 0 0,.int .i64 n]).run Tryz.prog w=.ok (.slice (some ⟨w.heap.size,0,none⟩) n (grownCap w n 0 42)) (w.drew.alloc (.cells (Builtin.zeroCells z.cells n++Builtin.zeroCells z.cells (grownCap w n 0 42-n)) 42)):=λw ty=>
   lW 62 3 ty 42 i z Tryz.underlying62 Tryz.underlying3 hi hz (by omega) n (by omega) hn (by rw[Yz];omega)
  have hge:n<=grownCap w n 0 42:=grownCap_ge w n 0 _;have YJ:grownCap w n 0 42<=maxLen:=grownCap_le_maxLen w n 0 _ (by unfold maxLen;omega);obtain⟨zc,Xp⟩:∃zc,zc=z.cells:=⟨_,rfl⟩;rw[<- Xp]at hz0 Zg;have HZ:=Lib.hid Zg;clear Xp hi hz hsz Yz Zg
  go_enter Tryz.func79,Tryz.ntmps79
  go_wp2_with (at_builtin;refine gR rfl _ _ rfl rfl rfl (hz0 _ _) ?_)
  go_ret
  have XK:(Builtin.zeroCells zc n++Builtin.zeroCells zc (grownCap w n 0 42-n)).size=grownCap w n 0 42*2:=by
   rw[Array.size_append,size_zeroCells,size_zeroCells,HZ.out,<- Nat.add_mul];congr 1;omega
  refine⟨D3 (Below.alloc (Below.refl _ _) (Nat.le_refl _) _),_,rfl,rfl,.inr ⟨w.heap.size,_,_,rfl,Nat.le_refl _,heap_alloc_new w _,Nat.zero_le _,YJ,XK,by simp⟩⟩
theorem rS{P:Program}{w:World}{t e:TypeId}(i:TypeInfo)(z:Value)(size bytes:Nat)(hu:P.underlying t=some (.slice e))(hi:P.info? e=some i)(hz:i.zero=some z)(Y0:i.size=size)(Yz:i.bytes=bytes)(Zg:z.cells.size=size)(Z1:0<size)
 (ty:TypeId)(base:Nat)(v:Value)(n:Nat)(xs:List Value)(hown:w.ownsRow base e size v n xs)
 (ad:Addr)(m c:Nat)(news:List Value)(hl:news.length=m*size)(Zn:∀(j:Nat) u,news[j]?=some u->w.cell? (ad.add j)=some u)(h1:∀u∈news,u.oneCell'=true)
 (Tb:n+m<=maxLen)(YM:(n+m)*bytes<=140737488355328)(ZE:base<=w.heap.size):
 ∃v' w',(Builtin.append_ #[t,t] ty #[v,.slice (some ad) m c]).run P w=.ok v' w'/\w'.ownsRow base e size v' (n+m) (xs++news)/\w.grownBy w' v.ownBlock:=by
 rcases hown.2 with⟨rfl,hn⟩|⟨g,cap,cur,rfl,hb,YT,hcap,hmax,hsz,Zx⟩
 ·subst hn;have hx:xs=[]:=oEN (by simpa using hown.1);subst hx;obtain⟨v',w',hr,ZZ,hg,_⟩:=run_append_own (P:=P) w w.heap.size t ty e i z size bytes hu hi hz Y0 Yz Zg Z1 (.slice none 0 0) 0 [] ⟨by simp,.inl ⟨rfl,rfl⟩⟩ ad m c news hl Zn h1 Tb YM (Nat.le_refl _);refine⟨v',w',hr,⟨ZZ.1,?_⟩,hg⟩;rcases ZZ.2 with h|⟨g,cap,cur,e1,e2,e3⟩
  ·exact .inl h
  ·exact .inr ⟨g,cap,cur,e1,Nat.le_trans ZE e2,e3⟩
 ·rcases Nat.lt_or_ge cap (n+m)with hlt|hge
  ·have hc:=@World.ownsRow.cells w base e size _ n xs hown;obtain⟨v',w',hr,ZZ,hg⟩:=run_append_arg_grows (P:=P) w t ty e i z size bytes hu hi hz Y0 Yz Zg Z1 ⟨g,0,none⟩ n cap xs hown.1 (hc rfl) ad m c news hl Zn hlt Tb YM;refine⟨v',w',hr,⟨ZZ.1,?_⟩,⟨hg.os,hg.tape,hg.output,hg.size,λk hk _=>hg.block k hk (by simp)⟩⟩;rcases ZZ.2 with h|⟨g,cap,cur,e1,e2,e3⟩
   ·exact .inl h
   ·exact .inr ⟨g,cap,cur,e1,Nat.le_trans ZE e2,e3⟩
  ·obtain⟨w',hr,ZZ,hg⟩:=run_append_own_spare (P:=P) w base t ty e i size hu hi Y0 g n cap xs hown ad m c news hl Zn h1 hge;exact⟨_,w',hr,ZZ,hg⟩
theorem Ku{w:World}(ty:TypeId)(base:Nat)(v:Value)(xs l:List PID)(hown:w.ownsRow base 42 2 v xs.length (iE xs))(ZE:base<=w.heap.size)(a:Option Addr)(cap:Nat)(ha:l≠[]->∃b o,a=some ⟨b,o,none⟩/\lE w b o l)(hlen:xs.length+l.length<=1099511627776):
 ∃v' w',(Builtin.append_ #[62,62] ty #[v,.slice a l.length cap]).run Tryz.prog w=.ok v' w'/\w'.ownsRow base 42 2 v' (xs++l).length (iE (xs++l))/\w.heap.size<=w'.heap.size/\w'.os=w.os/\w'.tape=w.tape/\w'.output=w.output/\∀k,k<base->w'.heap[k]?=w.heap[k]?:=by
 obtain⟨i,z,hi,hz,hsz,Yz,Zg⟩:=rp
 have e:iE (xs++l)=iE xs++iE l:=by simp[iE]
 by_cases hl:l=[]
 ·subst hl
  rcases hown.2 with⟨rfl,hn⟩|⟨g,c,cur,rfl,hb,YT,hcap,hmax,Wh,Zx⟩
  ·rw[hn]at hown;refine⟨_,w,gy w _ ty 42 i Tryz.underlying62 hi none 0 0 (Nat.le_refl _) a cap,by rw[List.append_nil,hn];exact hown,Nat.le_refl _,rfl,rfl,rfl,λ_ _=>rfl⟩
  ·exact⟨_,w,gy w _ ty 42 i Tryz.underlying62 hi _ _ c hcap a cap,by rw[List.append_nil];exact hown,Nat.le_refl _,rfl,rfl,rfl,λ_ _=>rfl⟩
 ·obtain⟨b,o,rfl,hh⟩:=ha hl;obtain⟨v',w',hr,ZZ,hg⟩:=rS i z 2 16 Tryz.underlying62 hi hz hsz Yz Zg (by omega) ty base v xs.length (iE xs) hown ⟨b,o,none⟩ l.length cap (iE l) (sH l) (λj u hu=>by rw[cH];exact sJ hh j u hu) (yK l) (by unfold maxLen;omega) (by omega) ZE;refine⟨v',w',hr,by rw[List.length_append,e];exact ZZ,hg.size,hg.os,hg.tape,hg.output,λk hk=>hg.block k (by omega) λe2=>?_⟩
  rcases hown.2 with⟨rfl,_⟩|⟨g,c,cur,rfl,hb,_⟩
  ·simp[Value.ownBlock]at e2
  ·simp only[Value.ownBlock,oSJ]at e2;omega
def Lb(w:World)(b o:Nat)(ls:List (List PID)):Prop:=∀i (h:i<ls.length),∃ai ci,w.cell? ⟨b,o+i,none⟩=some (.slice ai ls[i].length ci)/\(ls[i]≠[]->∃b' o',ai=some ⟨b',o',none⟩/\lE w b' o' ls[i])
theorem yI{ls:List (List PID)}{i:Nat}(h:i<ls.length):(ls.take (i+1)).flatten=(ls.take i).flatten++ls[i]:=by
 rw[<- List.take_append_getElem h,List.flatten_append];simp only[List.flatten_cons,List.flatten_nil,List.append_nil]
theorem AD{ls:List (List PID)}(i:Nat):(ls.take i).flatten.length<=ls.flatten.length:=by
 have:ls.flatten=(ls.take i).flatten++(ls.drop i).flatten:=by rw[<- List.flatten_append,List.take_append_drop]
 rw[this,List.length_append];omega
theorem Bh{w w':World}(h:Below w.heap.size w w'){b o:Nat}{l:List PID}(hh:lE w b o l):lE w' b o l:=λi hi=>by
 obtain⟨h1,h2⟩:=hh i hi;have hb:=Bg h1;exact⟨by rw[World.cell?_of_block (h.block b hb)];exact h1,by rw[World.cell?_of_block (h.block b hb)];exact h2⟩
theorem zf{B q:Nat}{w w1:World}(h:Below B (w.drewN q) w1):Below B w w1:=⟨h.os,h.tape,h.output,h.size,h.block⟩
set_option maxHeartbeats 4000000 in
theorem DR(ls:List (List PID))(b o cap:Nat)(w:World)(hr:Lb w b o ls)(hlen:ls.flatten.length<=1099511627776)(hm:ls.length<=1099511627776):
 Calls Tryz.prog 68 #[.slice (some ⟨b,o,none⟩) ls.length cap] w λe w'=>Below w.heap.size w w'/\∃v,e=.returned v/\w'.ownsRow w.heap.size 42 2 v ls.flatten.length (iE ls.flatten):=by
 have mixed:Tryz.prog.follows .mixedOrders=true:=by kernel_rfl
 have HR:Aside (Lb w b o ls):=hr;clear hr
 go_enter Tryz.func68,Tryz.ntmps68
 go_wp2
 go_loopg [3,11] ls.length (λg s3 s11 wr=>∃i q:Nat,i<=ls.length/\ls.length-i<=g/\s3=.int .i64 ((ls.take i).flatten.length:Nat)/\s11=.int .i64 i/\wr=w.drewN q)
 case atStart=>exact⟨0,0,by omega,by omega,rfl,rfl,rfl⟩
 case round=>
  obtain⟨i,q,hi,hg,rfl,rfl,rfl⟩:=hrel;have YJ:=AD (ls:=ls) i;by_cases hlt:i<ls.length
  ·obtain⟨ai,ci,hc,_⟩:=HR.out i hlt;have UI:=AD (ls:=ls) (i+1)
   have T6:(ls.take (i+1)).flatten.length=(ls.take i).flatten.length+ls[i].length:=by rw[yI hlt,List.length_append]
   generalize hk:ls[i].length=k at hc T6;generalize hn:(ls.take i).flatten.length=n at YJ T6;have HF:Aside ((ls.take (i+1)).flatten.length=n+k/\(ls.take (i+1)).flatten.length<=ls.flatten.length):=⟨T6,UI⟩
   have hnk:n+k<=1099511627776:=by omega
   clear T6 UI hk hn YJ
   go_wp2
   go_roundg (ls.length-(i+1))
   case measure=>omega
   case rel=>exact⟨i+1,q,by omega,Nat.le_refl _,by rw[HF.out.1];go_num,by go_num,rfl⟩
  ·have XR:i=ls.length:=by omega
   subst XR;rw[List.take_length]at YJ⊢;generalize hn:ls.flatten.length=n at YJ hlen⊢;have HN:Aside (ls.flatten.length=n):=hn;clear hn YJ
   go_wp2_with fail
   refine(IE n _ hlen).mono ?_;rintro e w1 ⟨ZX,v,rfl,hown⟩;have HB:Aside (Below w.heap.size w w1/\w1.ownsRow w.heap.size 42 2 v 0 []):=⟨zf ZX,hown⟩;clear ZX hown
   go_wp2
   go_loopg [6,27] ls.length (λg s6 s27 wr=>∃j:Nat,j<=ls.length/\ls.length-j<=g/\s27=.int .i64 j/\Below w.heap.size w wr/\wr.ownsRow w.heap.size 42 2 s6 (ls.take j).flatten.length (iE (ls.take j).flatten))
   case atStart=>exact⟨0,by omega,by omega,rfl,HB.out.1,HB.out.2⟩
   case round=>
    obtain⟨j,hj,ZH,rfl,Z',hown⟩:=hrel;by_cases hlt2:j<ls.length
    ·obtain⟨ai,ci,hc,ZP⟩:=HR.out j hlt2
     have Ze:wr.cell? ⟨b,o+j,none⟩=some (.slice ai ls[j].length ci):=by rw[World.cell?_of_block (Z'.block b (Bg hc))];exact hc
     have UI:=AD (ls:=ls) (j+1);have T6:=yI hlt2
     have hsz:(ls.take j).flatten.length+ls[j].length<=1099511627776:=by
      have:(ls.take (j+1)).flatten.length=(ls.take j).flatten.length+ls[j].length:=by rw[T6,List.length_append]
      have:=HN.out;omega
     obtain⟨v',w',hrun,ZZ,Y0,TG,Uj,UM,Uw⟩:=Ku (w:=wr) 62 w.heap.size _ (ls.take j).flatten ls[j] hown Z'.size ai ci (λhne=>by
      obtain⟨b',o',e1,e2⟩:=ZP hne
      exact⟨b',o',e1,Bh Z' e2⟩) hsz
     rw[<- T6]at ZZ;have HO:Aside (w'.ownsRow w.heap.size 42 2 v' (ls.take (j+1)).flatten.length (iE (ls.take (j+1)).flatten)/\Below w.heap.size w w'):=⟨ZZ,⟨TG.trans Z'.os,Uj.trans Z'.tape,UM.trans Z'.output,Nat.le_trans Z'.size Y0,λk hk=>(Uw k hk).trans (Z'.block k hk)⟩⟩;generalize ls[j].length=m at Ze hrun;clear ZZ TG Uj UM Uw Y0 ZP hown Z' hc T6 hsz UI
     go_wp2_with (at_builtin;refine gR rfl _ _ rfl rfl rfl hrun ?_)
     go_roundg (ls.length-(j+1))
     case measure=>omega
     case rel=>exact⟨j+1,by omega,Nat.le_refl _,by go_num,HO.out.2,HO.out.1⟩
    ·have hjl:j=ls.length:=by omega
     subst hjl;rw[List.take_length]at hown;have HO:Aside (Below w.heap.size w wr/\wr.ownsRow w.heap.size 42 2 u6 ls.flatten.length (iE ls.flatten)):=⟨Z',hown⟩;clear Z' hown
     go_wp2
     go_ret
     exact⟨HO.out.1,_,rfl,HO.out.2⟩
theorem AX(a:Option Addr)(cap:Nat)(w:World):Calls Tryz.prog 68 #[.slice a 0 cap] w λe w'=>Below w.heap.size w w'/\e=.returned (.slice none 0 0):=by
 have mixed:Tryz.prog.follows .mixedOrders=true:=by kernel_rfl
 go_enter Tryz.func68,Tryz.ntmps68
 go_wp2
 refine wp_loop_rounds 1 ?_;rw[rounds_succ]
 go_wp2
 refine wp_loop_rounds 1 ?_;rw[rounds_succ]
 go_wp2
 go_ret
 exact⟨Below.refl _ _,rfl⟩
theorem wP:gQ Tryz.prog 68:=jm Tryz.func68 (by kernel_rfl) rfl
theorem DQ(ls:List (List PID))(hl:ls.flatten.length<=1099511627776)(hm:ls.length<=1099511627776):Lg Tryz.prog 68 [.sl (ls.map λx=>[TV.sl (x.map qg)])] (ls.flatten.map qg):=by
 intro avs w F hal ha
 match avs,hal with
 | [x],_=>
  have h0:=ha 0 (by simp) (by simp);simp only[List.getElem_cons_zero]at h0
  cases h0 with
  |im h0=>
   cases h0 with
   | @sl _ a cap sz u hsz hcap hmax hnil hcell hrec=>
    have Rv:(ls.map λx=>[TV.sl (x.map qg)]).length=ls.length:=by simp
    rw[Rv]at hcap⊢;by_cases hn:ls=[]
    ·subst hn;exact(AX a cap w).mono λe w' ⟨hb,he⟩=>⟨_,he,hb,.sl (c:=[]) 2 (λ_ _=>undef) (λi h=>by simp at h) (Nat.le_refl _) (Nat.zero_le _) (λ_=>rfl) (λi j h=>by simp at h) (λi j h=>by simp at h)⟩
    ·have Z1:0<ls.length:=List.length_pos_iff.2 hn
     have hz:sz=1:=by
      have:=hsz 0 (by simpa using Z1);rw[<- this];simp
     subst hz;obtain⟨b,o,e,_,_⟩:=hcell 0 0 (by simpa using Z1) (by omega);subst e
     have RU:Lb w b o ls:=λi hi=>by
      obtain⟨b',o',e',_,hc⟩:=hcell i 0 (by simpa using hi) (by omega)
      injection e' with e'
      injection e' with e1 e2
      subst e1;subst e2;have hr:=hrec i 0 (by simpa using hi) (by simp);simp only[List.getElem_map,List.getElem_cons_zero]at hr;obtain⟨ai,ci,hu,hh⟩:=yi hr;exact⟨ai,ci,by rw[<- hu,<- hc];congr 2;omega,hh⟩
     refine(DR ls b o cap w RU hl hm).mono λe w' ⟨hb,v,he,hown⟩=>?_;refine BR ⟨hb,?_⟩
     rcases hown.2 with⟨rfl,h0⟩|⟨g,c,cur,rfl,hg,YT,Wt,VH,hcur,Zx⟩
     ·exact .inl ⟨oEN h0,none,he⟩
     ·have hK:=uV YT hcur Wt Zx;exact .inr ⟨g,c,he,hg,Wt,VH,yj hK (by simp) λi hi=>by rw[getElem!_pos _ i (by simpa using hi)];simp⟩
end Go.Proofs.YtbdhpgelkfncpaaGreat
namespace Go.Proofs.YtbdhpgelkfncpaaGreat
end Go.Proofs.YtbdhpgelkfncpaaGreat
namespace Go.Proofs.YtbdhpgelkfncpaaGreat
open Go.RowKit
def Ln:FuncId->List TV->Option (List (List TV)):=λf vals=>
 if f=67 then(match vals with
  | [.fn g [],.sl c]=>if g=50 then(JB c).bind λl=>if l.length<=1099511627776 then some ((kP l).map qg)else none else none
  |_=>none)
 else if f=68 then(match vals with
  | [.sl c]=>(AQ c).bind λl=>if l.flatten.length<=1099511627776/\l.length<=1099511627776 then some (l.flatten.map qg)else none
  |_=>none)
 else none
def mS:cE:=Jx Ln
theorem FX:eC Tryz.prog mS:=L6 λf vals c h=>by
 unfold Ln at h;split at h
 ·rename_i e;subst e;split at h
  ·split at h
   ·rename_i g c0 e;subst e;obtain⟨l,h1,h2⟩:=Option.bind_eq_some_iff.1 h;split at h2
    ·rename_i hl
     injection h2 with h2
     subst h2;rw[AP h1];exact⟨vo,CN l hl⟩
    ·cases h2
   ·cases h
  ·cases h
 ·split at h
  ·rename_i e;subst e;split at h
   ·obtain⟨l,h1,h2⟩:=Option.bind_eq_some_iff.1 h;split at h2
    ·rename_i hl
     injection h2 with h2
     subst h2;rw[Ck h1];exact⟨wP,DQ l hl.1 hl.2⟩
    ·cases h2
   ·cases h
  ·cases h
def dF(a0:List PID):Option (List PID×Unit):=if a0.length<=1099511627776 then some (kP a0,())else none
def dA(a0:List (List PID)):Option (List PID×Unit):=if a0.flatten.length<=1099511627776/\a0.length<=1099511627776 then some (a0.flatten,())else none
theorem kU{id:Nat}:jZ mS ⟨67,id,[.fn 50 [],shU (.row false (.pair (.int .i64) (.int .i64)))],[],[⟨[shU (.row false (.pair (.int .i64) (.int .i64)))],[.one],[]⟩],λh=>dF h.1⟩:=by
 rintro⟨l,h⟩ o x ho hx;have ho:(if List.length l<=1099511627776 then some (kP l,())else none)=some o:=ho;split at ho
 case isFalse=>cases ho
 rename_i hl
 injection ho with ho
 subst ho;cases hx;show Jx Ln 67 [.fn 50 [],.sl (l.map qg)] []=some (⟨[.sl ((kP l).map qg)],[.one]⟩,[]);simp[Jx,Ln,yh,wI,hl]
theorem kv{id:Nat}:jZ mS ⟨68,id,[shU (.row false (.row false (.pair (.int .i64) (.int .i64))))],[],[⟨[shU (.row false (.pair (.int .i64) (.int .i64)))],[.one],[]⟩],λh=>dA h.1⟩:=by
 rintro⟨l,h⟩ o x ho hx;have ho:(if(List.flatten l).length<=1099511627776/\List.length l<=1099511627776 then some (List.flatten l,())else none)=some o:=ho;split at ho
 case isFalse=>cases ho
 rename_i hl
 injection ho with ho
 subst ho;cases hx;show Jx Ln 68 [.sl (l.map λx=>[TV.sl (x.map qg)])] []=some (⟨[.sl (l.flatten.map qg)],[.one]⟩,[]);unfold Jx;rw[oIP (by simp[yh])];unfold Ln;rw[oIN (by decide),oIP rfl];simp only[yR,oBS,oIP hl,oMS]
end Go.Proofs.YtbdhpgelkfncpaaGreat
namespace Go.Proofs.YtbdhpgelkfncpaaGreat
open Go.RowKit Go.Sort Go.Lib
def MF(w:World)(e:Ending)(w':World):Prop:=∃v,e=.returned v/\w.grownBy w' none/\Mk rPg 48 w.heap.size w' (λ_=>False) v []
theorem DC(n:Nat)(w:World)(hn:n<=1099511627776):Calls Tryz.prog 66 #[.slice none 0 0,.int .i64 n] w (MF w):=by
 obtain⟨i,z,hi,hz,hsz,Yz,Zg⟩:=MK.info;by_cases h0:n=0
 ·subst h0;clear hi hz hsz Yz Zg
  go_enter Tryz.func66,Tryz.ntmps66
  go_wp2
  go_ret
  exact⟨_,rfl,bg _ _,Mk.nil _ _ _ _ _⟩
 ·have hz0:∀(w:World)(ty:TypeId),(Builtin.append_ #[34,3] ty #[.slice none 0 0,.int .i64 n]).run Tryz.prog w=.ok (.slice (some ⟨w.heap.size,0,none⟩) n (grownCap w n 0 48)) (w.drew.alloc (.cells (Builtin.zeroCells z.cells n++Builtin.zeroCells z.cells (grownCap w n 0 48-n)) 48)):=λw ty=>
   lW 34 3 ty 48 i z Tryz.underlying34 Tryz.underlying3 hi hz (by rw[hsz];exact rPg.pos) n (by omega) hn (by rw[Yz];omega)
  have hge:n<=grownCap w n 0 48:=grownCap_ge w n 0 _;have YJ:grownCap w n 0 48<=maxLen:=grownCap_le_maxLen w n 0 _ (by unfold maxLen;omega);obtain⟨zc,Xp⟩:∃zc,zc=z.cells:=⟨_,rfl⟩;rw[<- Xp]at hz0 Zg;have HZ:=Lib.hid Zg;clear Xp hi hz hsz Yz Zg
  go_enter Tryz.func66,Tryz.ntmps66
  go_wp2_with (at_builtin;refine gR rfl _ _ rfl rfl rfl (hz0 _ _) ?_)
  go_ret
  have XK:(Builtin.zeroCells zc n++Builtin.zeroCells zc (grownCap w n 0 48-n)).size=grownCap w n 0 48*rPg.size:=by
   rw[Array.size_append,size_zeroCells,size_zeroCells,HZ.out,<- Nat.add_mul];congr 1;omega
  exact⟨_,rfl,bf (cD (bg w none)) _,[],⟨rfl,.inr ⟨w.heap.size,_,_,rfl,Nat.le_refl _,heap_alloc_new w _,Nat.zero_le _,YJ,XK,by simp⟩⟩,by simp,rfl⟩
def GY(F:Nat->Prop)(xs:List i4)(w:World)(e:Ending)(w':World):Prop:=
 ∃v,e=.returned v/\Mk rPg 48 w.heap.size w' F v xs/\w.grownBy w' none
set_option maxHeartbeats 4000000 in
theorem yT(F:Nat->Prop)(xs ys:List i4)(b cap:Nat)(V1 V2:Value)(w:World)(hb:Bk w b 34 [V1,V2])(h1:RSl rPg w F xs V1)(h2:RSl rPg w F ys V2)(hlen:xs.length+ys.length<=1099511627776):
 Calls Tryz.prog 45 #[.slice (some ⟨b,0,none⟩) 2 cap] w (GY (λk=>F k/\k<w.heap.size) (xs++ys) w):=by
 have HB:=Lib.hid hb;have H1:=Lib.hid h1;have H2:=Lib.hid h2;obtain⟨A1,c1,rfl,_⟩:=h1.size_eq;obtain⟨A2,c2,rfl,_⟩:=h2.size_eq;have k0:=hb.cell 0;have k1:=hb.cell 1;simp only[List.getElem?_cons_zero,List.getElem?_cons_succ]at k0 k1;obtain⟨n1,Xy⟩:∃n,n=xs.length:=⟨_,rfl⟩;obtain⟨n2,Va⟩:∃n,n=ys.length:=⟨_,rfl⟩;rw[<- Xy,<- Va]at hlen;rw[<- Xy]at k0;rw[<- Va]at k1;have HN:=Lib.hid (And.intro Xy Va);clear hb h1 h2 Xy Va
 go_enter Tryz.func45,Tryz.ntmps45
 go_wp2_with fail
 go_loopw [3,11] (λs i wr=>(i=.int .i64 0/\s=.int .i64 0\/i=.int .i64 1/\s=.int .i64 n1\/i=.int .i64 2/\s=.int .i64 ((n1+n2:Nat):Int))/\w=wr) (λ_ i _=>2-(intOf i).toNat)
 case atStart=>exact⟨.inl ⟨rfl,rfl⟩,rfl⟩
 case round=>
  obtain⟨hi,rfl⟩:=hrel
  rcases hi with⟨rfl,rfl⟩|⟨rfl,rfl⟩|⟨rfl,rfl⟩
  ·go_wp2_with fail
   go_roundw
   case rel=>exact⟨.inr (.inl ⟨by go_num,by go_num⟩),by first|rfl|trivial⟩
   case measure=>simp[intOf]
  ·have Z1:¬((n1:Int)+(n2:Int)<0):=by omega
   go_wp2_with fail
   go_roundw
   case rel=>exact⟨.inr (.inr ⟨by go_num,by go_num⟩),by first|rfl|trivial⟩
   case measure=>simp[intOf]
  ·go_wp2_with fail
   refine(DC (n1+n2) _ hlen).mono ?_;rintro e w3 ⟨v,rfl,UC,YK⟩;obtain⟨A3,c3,rfl⟩:=YK.shape;have HG:=Lib.hid UC;have HM:=Lib.hid (YK.subG (G':=λk=>F k/\k<w.heap.size) λ_ h=>h.elim);clear YK UC
   go_wp2_with fail
   clear k0 k1
   go_loopw [6,27] (λs i wy=>(i=.int .i64 0/\Mk rPg 48 w.heap.size wy (λk=>F k/\k<w.heap.size) s []\/i=.int .i64 1/\Mk rPg 48 w.heap.size wy (λk=>F k/\k<w.heap.size) s xs\/i=.int .i64 2/\Mk rPg 48 w.heap.size wy (λk=>F k/\k<w.heap.size) s (xs++ys))/\w.grownBy wy none) (λ_ i _=>2-(intOf i).toNat)
   case atStart=>exact⟨.inl ⟨rfl,HM.out⟩,HG.out⟩
   case round=>
    obtain⟨hi,hg⟩:=hrel
    rcases hi with⟨rfl,hm⟩|⟨rfl,hm⟩|⟨rfl,hm⟩
    ·have hB:=HB.out.grow hg;have k0:=hB.cell 0;have k1:=hB.cell 1;simp only[List.getElem?_cons_zero,List.getElem?_cons_succ]at k0 k1;rw[<- HN.out.1]at k0;rw[<- HN.out.2]at k1;obtain⟨A6,c6,rfl⟩:=hm.shape;have Uo:=Lib.hid hm;have SX:=Lib.hid hg;have PF:=hg.size;clear hm hg hB
     go_wp2_with (at_builtin;go_loud (refine i8 (R:=rPg) rfl _ _ MK (by decide) rfl w.heap.size (λk=>F k/\k<w.heap.size) _ [] rfl Uo.out PF (.slice A1 n1 c1) xs rfl ?c3 ?c4 ?c5 ?_))
     case c3=>exact((by rw[HN.out.1];exact H1.out.live.grow SX.out:RSl rPg wr (λk=>F k/\k<w.heap.size) xs (.slice A1 n1 c1))).sub λk hk=>⟨hk,λe=>by have:=(Uo.out.row k e.symm).1;have:=hk.2;omega⟩
     case c4=>
      intro c' e;obtain⟨_,_,_,e2,_,_,_,Pq,_⟩:=H1.out
      injection e2 with e3 e4 e5
      injection e with e6 e7 e8
      rw[<- e8,e5];exact Pq (e3.symm.trans e6)
     case c5=>(try simp only[List.length_nil]);have:=HN.out;omega
     intro v' w' WT UB;obtain⟨A7,c7,rfl⟩:=WT.shape;have Up:=Lib.hid WT;have NZ:=Lib.hid (show w.grownBy w' none from fN SX.out UB λk e=>(Uo.out.row k e).1);clear WT UB
     go_wp2_with fail
     go_roundw
     case rel=>exact⟨.inr (.inl ⟨by go_num,by simpa using Up.out⟩),NZ.out⟩
     case measure=>simp[intOf]
    ·have hB:=HB.out.grow hg;have k0:=hB.cell 0;have k1:=hB.cell 1;simp only[List.getElem?_cons_zero,List.getElem?_cons_succ]at k0 k1;rw[<- HN.out.1]at k0;rw[<- HN.out.2]at k1;obtain⟨A6,c6,rfl⟩:=hm.shape;have Uo:=Lib.hid hm;have SX:=Lib.hid hg;have PF:=hg.size;clear hm hg hB
     go_wp2_with (at_builtin;go_loud (refine i8 (R:=rPg) rfl _ _ MK (by decide) rfl w.heap.size (λk=>F k/\k<w.heap.size) _ xs rfl Uo.out PF (.slice A2 n2 c2) ys rfl ?c3 ?c4 ?c5 ?_))
     case c3=>exact((by rw[HN.out.2];exact H2.out.live.grow SX.out:RSl rPg wr (λk=>F k/\k<w.heap.size) ys (.slice A2 n2 c2))).sub λk hk=>⟨hk,λe=>by have:=(Uo.out.row k e.symm).1;have:=hk.2;omega⟩
     case c4=>
      intro c' e;obtain⟨_,_,_,e2,_,_,_,Pq,_⟩:=H2.out
      injection e2 with e3 e4 e5
      injection e with e6 e7 e8
      rw[<- e8,e5];exact Pq (e3.symm.trans e6)
     case c5=>(try simp only[List.length_nil]);have:=HN.out;omega
     intro v' w' WT UB;obtain⟨A7,c7,rfl⟩:=WT.shape;have Up:=Lib.hid WT;have NZ:=Lib.hid (show w.grownBy w' none from fN SX.out UB λk e=>(Uo.out.row k e).1);clear WT UB
     go_wp2_with fail
     go_roundw
     case rel=>exact⟨.inr (.inr ⟨by go_num,Up.out⟩),NZ.out⟩
     case measure=>simp[intOf]
    ·have Uo:=Lib.hid hm;have SX:=Lib.hid hg;obtain⟨A6,c6,rfl⟩:=hm.shape;clear hm hg
     go_wp2_with fail
     go_ret
     exact⟨_,rfl,Uo.out,SX.out⟩
end Go.Proofs.YtbdhpgelkfncpaaGreat
namespace Go.Proofs.YtbdhpgelkfncpaaGreat
open Go.RowKit Go.Maps
theorem Ii:(match Tryz.prog.underlying 42 with|some (.array _ _)|some (.struct _)=>true|_=>false)=true:=by kernel_rfl
set_option maxRecDepth 100000 in
theorem xJ:Keyed Tryz.prog 42:=Keyed.of_law (deep_law_gate (by kernel_rfl) (of_decide_eq_true (by kernel_rfl)) (of_decide_eq_true (by kernel_rfl)) (by kernel_rfl) Ii)
theorem De:∃f g:Field,Tryz.prog.underlying 42=some (.struct #[f,g])/\f.type=3/\g.type=3/\f.offset=0/\g.offset=1/\(f.name != "_")=true/\(g.name != "_")=true:=by
 have h:(match Tryz.prog.underlying 42 with|some (.struct fs)=>(match fs.toList with | [f,g]=>decide (f.type=3)&&decide (g.type=3)&&decide (f.offset=0)&&decide (g.offset=1)&&(f.name != "_")&&(g.name != "_")|_=>false)|_=>false)=true:=by kernel_rfl
 revert h;split
 ·rename_i fs hu;split
  ·rename_i f g Rf;intro h;simp only[oBA,oDE]at h;obtain⟨⟨⟨⟨⟨h1,h2⟩,h3⟩,h4⟩,h5⟩,h6⟩:=h;refine⟨f,g,?_,h1,h2,h3,h4,h5,h6⟩;rw[hu];have:fs=#[f,g]:=Array.ext' (by simpa using Rf);rw[this]
  ·intro h;cases h
 ·intro h;cases h
def Lo(a b:Int):Lit:=.string (keyBytes [.int .i64 a,.int .i64 b])
set_option maxRecDepth 100000 in
theorem xW{a b:Int}(ha:(Lit.int .i64 a).wf=true)(hb:(Lit.int .i64 b).wf=true):keyOf Tryz.prog 42 (.agg #[.int .i64 a,.int .i64 b])=some (Lo a b):=by
 obtain⟨f,g,hu,h1,h2,h3,h4,h5,h6⟩:=De
 have hk:Tryz.prog.keyType 42=true:=by kernel_rfl
 have hc:Tryz.prog.cellsOf 42=2:=by kernel_rfl
 have hci:Tryz.prog.cellsOf 3=1:=by kernel_rfl
 have hi:Tryz.prog.underlying 3=some (.int .i64):=Tryz.underlying3
 have hsz:∃n,Tryz.prog.types.size=n+1:=by
  have h:(0<Tryz.prog.types.size):=of_decide_eq_true (by kernel_rfl);exact⟨_,(Nat.succ_pred_eq_of_pos h).symm⟩
 obtain⟨n,hn⟩:=hsz
 have Zz:∀(m:Nat)(z:Int),(Lit.int .i64 z).wf=true->Tryz.prog.keyLits (m+1) 3 [.int .i64 z]=some [.int .i64 z]:=λm z hz=>by
  simp[Program.keyLits,hi,hz]
 have hl:Tryz.prog.keyLits (n+1+1) 42 [.int .i64 a,.int .i64 b]=some [.int .i64 a,.int .i64 b]:=by
  unfold Program.keyLits;simp[hu,hc,h5,h6,h1,h2,h3,h4,hci,Zz n a ha,Zz n b hb]
 unfold keyOf;simp[hu,hk,hn,Value.formed,hc,Value.cells,hl,Lo]
theorem KL{a b c d:Int}(ha:(Lit.int .i64 a).wf=true)(hb:(Lit.int .i64 b).wf=true)(hc:(Lit.int .i64 c).wf=true)(hd:(Lit.int .i64 d).wf=true)(h:Lo a b=Lo c d):a=c/\b=d:=by
 injection h with h
 have h2:=keyBytes_inj (l:=[.int .i64 a,.int .i64 b]) (l':=[.int .i64 c,.int .i64 d]) ⟨rfl,rfl,trivial⟩ (by simp[Lit.keyWf,ha,hb]) (by simp[Lit.keyWf,hc,hd]) h
 injection h2 with h3 h4
 injection h3 with _ h3
 injection h4 with h4
 injection h4 with _ h4
 exact⟨h3,h4⟩
noncomputable def rdP (L:List Value)(v:Value):Option (DataW Unit×List MemPlace):=
 @dite _ (∃i:Nat,L[i]?=some v) (Classical.propDecidable _) (λh=>some (.lit (.int .i64 (Classical.choose h:Nat)),[])) (λ_=>none)
theorem zO{L:List Value}{v:Value}(h:v∈L):∃i:Nat,rdP L v=some (.lit (.int .i64 i),[])/\L[i]?=some v:=by
 have hx:∃i:Nat,L[i]?=some v:=List.getElem?_of_mem h;exact⟨Classical.choose hx,by unfold rdP;rw[dif_pos hx],Classical.choose_spec hx⟩
theorem KB{L:List Value}{v:Value}{i:Nat}{ps:List MemPlace}(h:rdP L v=some (.lit (.int .i64 i),ps)):L[i]?=some v:=by
 unfold rdP at h;split at h
 ·rename_i hx
  injection h with h
  injection h with h _
  injection h with h
  injection h with _ h
  have h2:=Classical.choose_spec hx
  have e:Classical.choose hx=i:=by omega
  rw[e]at h2;exact h2
 ·cases h
def zPg:Value:=.agg #[.int .i64 0,.int .i64 0,.slice none 0 0,.int .i64 0,.int .i64 0,.int .i64 0,.int .i64 0,.int .i64 0,.int .i64 0,.int .u16 0,.slice none 0 0]
noncomputable def rdD (L:List Value)(v:Value):DataW Unit:=((rdP L v).map (·.1)).getD .nil
def PMp(w:World)(L:List Value)(b n:Nat)(f:Int×Int->Value):Prop:=
 ∃D,w.ownsMap Tryz.prog 42 (rdP L) b n D/\∀a c:Int,(Lit.int .i64 a).wf=true->(Lit.int .i64 c).wf=true->∃i:Nat,D.atKey (Lo a c) (rdD L zPg)=.lit (.int .i64 i)/\L[i]?=some (f (a,c))
theorem Fk{L:List Value}{v:Value}(h:v∈L):∃i:Nat,rdD L v=.lit (.int .i64 i)/\L[i]?=some v:=by
 obtain⟨i,h1,h2⟩:=zO h;exact⟨i,by unfold rdD;rw[h1];rfl,h2⟩
theorem JN(w:World){L:List Value}(hz:zPg∈L):PMp (w.alloc (.map #[] 0)) L w.heap.size 0 λ_=>zPg:=
 ⟨_,World.ownsMap_made _ _ _ _,λ_ _ _ _=>by
  obtain⟨i,h1,h2⟩:=Fk hz
  exact⟨i,h1,h2⟩⟩
theorem PMp.kept{w w':World}{L:List Value}{b n:Nat}{f:Int×Int->Value}{row:Option Nat}(h:PMp w L b n f)(hg:w.grownBy w' row)(hne:some b≠row):PMp w' L b n f:=
 let ⟨D,h1,h2⟩:=h;⟨D,h1.kept hg hne,h2⟩
theorem PMp.lt{w:World}{L:List Value}{b n:Nat}{f:Int×Int->Value}(h:PMp w L b n f):b<w.heap.size:=let ⟨_,h1,_⟩:=h;h1.lt
theorem JO(w:World):(zeroValue 48).run Tryz.prog w=.ok zPg w:=by unfold zPg;kernel_rfl
set_option maxRecDepth 100000 in
theorem PMp.lookup{w:World}{L:List Value}{b n:Nat}{f:Int×Int->Value}(h:PMp w L b n f)(hz:zPg∈L){a c:Int}(ha:(Lit.int .i64 a).wf=true)(hc:(Lit.int .i64 c).wf=true):
 (Instr.lookup 84 (.map (some b)) (.agg #[.int .i64 a,.int .i64 c]) false).run Tryz.prog w=.ok (f (a,c)) w:=by
 obtain⟨D,h1,h2⟩:=h;obtain⟨i0,z1,z2⟩:=zO hz;obtain⟨v,ps,hr,hv⟩:=h1.lookup (t:=84) xJ Tryz.underlying84 (JO w) z1 (xW ha hc);obtain⟨i,h3,h4⟩:=h2 a c ha hc
 have e:rdD L zPg=.lit (.int .i64 i0):=by unfold rdD;rw[z1];rfl
 rw[e]at h3;rw[h3]at hv;have h5:=KB hv;rw[h4]at h5
 injection h5 with h5
 rw[hr,h5]
set_option maxRecDepth 100000 in
theorem PMp.update{w:World}{L:List Value}{b n:Nat}{f:Int×Int->Value}(h:PMp w L b n f)(hn:n<9223372036854775807){a c:Int}(ha:(Lit.int .i64 a).wf=true)(hc:(Lit.int .i64 c).wf=true){v:Value}(hv:v∈L):
 ∃w',(Instr.mapUpdate 84 (.map (some b)) (.agg #[.int .i64 a,.int .i64 c]) v).run Tryz.prog w=.ok () w'/\PMp w' L b (n+1) (λx=>if x=(a,c)then v else f x)/\w.grownBy w' (some b):=by
 obtain⟨D,h1,h2⟩:=h;obtain⟨i,z1,z2⟩:=zO hv;obtain⟨w',hr,h3,hg⟩:=h1.update (t:=84) xJ Tryz.underlying84 (by unfold maxLen;omega) (xW ha hc) z1;refine⟨w',hr,⟨_,h3,λa' c' Wq Xu=>?_⟩,hg⟩;by_cases e:(a',c')=(a,c)
 ·injection e with e1 e2
  subst e1;subst e2;refine⟨i,?_,by simpa using z2⟩;exact atKey_put_same h1.isMap (by unfold Lo;trivial) _ _
 ·simp only[oIN e];rw[atKey_put_other (λh=>e (by obtain⟨e1,e2⟩:=KL Wq Xu ha hc h;rw[e1,e2]))];exact h2 a' c' Wq Xu
def Jb(c:Int)(w:World)(e:Ending)(w':World):Prop:=e=.returned (.tuple #[.agg #[.int .i64 0,.int .i64 0,.slice none 0 0],.int .i64 c])/\w.grownBy w' none
def G7(x:Value)(c:Int)(w:World):Prop:=∀w',w.grownBy w' none->Calls Tryz.prog 28 #[x] w' λe w2=>e=.returned (.int .i64 c)/\w'.grownBy w2 none
structure MgS (w:World)(xf xt yf yt:Int)(X Y:Value)(q6:Nat)(wr:World):Prop where
 grown:w.grownBy wr none
 b2:Bk wr w.heap.size 36 [.int .i64 xf,.int .i64 xt,X]
 b3:Bk wr (w.heap.size+1) 36 [.int .i64 yf,.int .i64 yt,Y]
 b4:Bk wr (w.heap.size+1+1) 36 [.int .i64 0,.int .i64 0,.slice none 0 0]
 b6:Bk wr q6 36 [.int .i64 xf,.int .i64 xt,X,.int .i64 yf,.int .i64 yt,Y]
theorem MgS.grow{w wr w':World}{xf xt yf yt:Int}{X Y:Value}{q6:Nat}(h:MgS w xf xt yf yt X Y q6 wr)(hg:wr.grownBy w' none):MgS w xf xt yf yt X Y q6 w':=⟨bl h.grown hg,h.b2.grow hg,h.b3.grow hg,h.b4.grow hg,h.b6.grow hg⟩
theorem MgS.err{w wr:World}{xf xt yf yt:Int}{X Y:Value}{q6:Nat}(h:MgS w xf xt yf yt X Y q6 wr)(a b d:Value):w.grownBy (((wr.setCell ⟨w.heap.size+1+1,0,none⟩ a).setCell ⟨w.heap.size+1+1,1,none⟩ b).setCell ⟨w.heap.size+1+1,2,none⟩ d) none:=
 grown_set (grown_set (grown_set h.grown (.inr (by dsimp only;omega)) _) (.inr (by dsimp only;omega)) _) (.inr (by dsimp only;omega)) _
set_option maxRecDepth 100000 in
set_option maxHeartbeats 4000000 in
theorem FR(A1 A2:Option Addr)(n1 n2 c1 c2:Nat)(xf xt yf yt:Int)(w:World)(cd ce:Int)
 (Tl:G7 (.agg #[.int .i64 xf,.int .i64 xt,.slice A1 n1 c1]) cd w)(Tn:G7 (.agg #[.int .i64 yf,.int .i64 yt,.slice A2 n2 c2]) ce w)(r:Int)
 (hr:(cd≠0/\r=cd)\/(cd=0/\ce≠0/\r=ce)\/(cd=0/\ce=0/\xt≠yf/\r=35)):
 Calls Tryz.prog 25 #[.agg #[.int .i64 xf,.int .i64 xt,.slice A1 n1 c1],.agg #[.int .i64 yf,.int .i64 yt,.slice A2 n2 c2]] w (Jb r w):=by
 have QD:=Lib.hid Tl;have Sv:=Lib.hid Tn;have HR:=Lib.hid hr;clear Tl Tn hr
 go_enter Tryz.func25,Tryz.ntmps25
 go_upto_region 2 with fail
 have QV:MgS w xf xt yf yt (.slice A1 n1 c1) (.slice A2 n2 c2) (w.heap.size+1+1+1) ((((w.alloc (.cells #[.int .i64 xf,.int .i64 xt,.slice A1 n1 c1] 36)).alloc (.cells #[.int .i64 yf,.int .i64 yt,.slice A2 n2 c2] 36)).alloc (.cells #[.int .i64 0,.int .i64 0,.slice none 0 0] 36)).alloc (.cells #[.int .i64 xf,.int .i64 xt,.slice A1 n1 c1,.int .i64 yf,.int .i64 yt,.slice A2 n2 c2] 36)):=by
  have e1:(w.alloc (.cells #[.int .i64 xf,.int .i64 xt,.slice A1 n1 c1] 36)).heap.size=w.heap.size+1:=by simp
  have e2:((w.alloc (.cells #[.int .i64 xf,.int .i64 xt,.slice A1 n1 c1] 36)).alloc (.cells #[.int .i64 yf,.int .i64 yt,.slice A2 n2 c2] 36)).heap.size=w.heap.size+1+1:=by simp
  have e3:(((w.alloc (.cells #[.int .i64 xf,.int .i64 xt,.slice A1 n1 c1] 36)).alloc (.cells #[.int .i64 yf,.int .i64 yt,.slice A2 n2 c2] 36)).alloc (.cells #[.int .i64 0,.int .i64 0,.slice none 0 0] 36)).heap.size=w.heap.size+1+1+1:=by simp
  have g1:w.grownBy (w.alloc (.cells #[.int .i64 xf,.int .i64 xt,.slice A1 n1 c1] 36)) none:=bf (bg _ _) _;have b2:Bk (w.alloc (.cells #[.int .i64 xf,.int .i64 xt,.slice A1 n1 c1] 36)) w.heap.size 36 [.int .i64 xf,.int .i64 xt,.slice A1 n1 c1]:=Bk.new;have g2:(w.alloc (.cells #[.int .i64 xf,.int .i64 xt,.slice A1 n1 c1] 36)).grownBy ((w.alloc (.cells #[.int .i64 xf,.int .i64 xt,.slice A1 n1 c1] 36)).alloc (.cells #[.int .i64 yf,.int .i64 yt,.slice A2 n2 c2] 36)) none:=bf (bg _ _) _;have b3:Bk ((w.alloc (.cells #[.int .i64 xf,.int .i64 xt,.slice A1 n1 c1] 36)).alloc (.cells #[.int .i64 yf,.int .i64 yt,.slice A2 n2 c2] 36)) (w.alloc (.cells #[.int .i64 xf,.int .i64 xt,.slice A1 n1 c1] 36)).heap.size 36 [.int .i64 yf,.int .i64 yt,.slice A2 n2 c2]:=Bk.new;have g3:((w.alloc (.cells #[.int .i64 xf,.int .i64 xt,.slice A1 n1 c1] 36)).alloc (.cells #[.int .i64 yf,.int .i64 yt,.slice A2 n2 c2] 36)).grownBy (((w.alloc (.cells #[.int .i64 xf,.int .i64 xt,.slice A1 n1 c1] 36)).alloc (.cells #[.int .i64 yf,.int .i64 yt,.slice A2 n2 c2] 36)).alloc (.cells #[.int .i64 0,.int .i64 0,.slice none 0 0] 36)) none:=bf (bg _ _) _;have b4:Bk (((w.alloc (.cells #[.int .i64 xf,.int .i64 xt,.slice A1 n1 c1] 36)).alloc (.cells #[.int .i64 yf,.int .i64 yt,.slice A2 n2 c2] 36)).alloc (.cells #[.int .i64 0,.int .i64 0,.slice none 0 0] 36)) ((w.alloc (.cells #[.int .i64 xf,.int .i64 xt,.slice A1 n1 c1] 36)).alloc (.cells #[.int .i64 yf,.int .i64 yt,.slice A2 n2 c2] 36)).heap.size 36 [.int .i64 0,.int .i64 0,.slice none 0 0]:=Bk.new;have g4:(((w.alloc (.cells #[.int .i64 xf,.int .i64 xt,.slice A1 n1 c1] 36)).alloc (.cells #[.int .i64 yf,.int .i64 yt,.slice A2 n2 c2] 36)).alloc (.cells #[.int .i64 0,.int .i64 0,.slice none 0 0] 36)).grownBy ((((w.alloc (.cells #[.int .i64 xf,.int .i64 xt,.slice A1 n1 c1] 36)).alloc (.cells #[.int .i64 yf,.int .i64 yt,.slice A2 n2 c2] 36)).alloc (.cells #[.int .i64 0,.int .i64 0,.slice none 0 0] 36)).alloc (.cells #[.int .i64 xf,.int .i64 xt,.slice A1 n1 c1,.int .i64 yf,.int .i64 yt,.slice A2 n2 c2] 36)) none:=bf (bg _ _) _;have b6:Bk ((((w.alloc (.cells #[.int .i64 xf,.int .i64 xt,.slice A1 n1 c1] 36)).alloc (.cells #[.int .i64 yf,.int .i64 yt,.slice A2 n2 c2] 36)).alloc (.cells #[.int .i64 0,.int .i64 0,.slice none 0 0] 36)).alloc (.cells #[.int .i64 xf,.int .i64 xt,.slice A1 n1 c1,.int .i64 yf,.int .i64 yt,.slice A2 n2 c2] 36)) (((w.alloc (.cells #[.int .i64 xf,.int .i64 xt,.slice A1 n1 c1] 36)).alloc (.cells #[.int .i64 yf,.int .i64 yt,.slice A2 n2 c2] 36)).alloc (.cells #[.int .i64 0,.int .i64 0,.slice none 0 0] 36)).heap.size 36 [.int .i64 xf,.int .i64 xt,.slice A1 n1 c1,.int .i64 yf,.int .i64 yt,.slice A2 n2 c2]:=Bk.new;rw[e1]at b3;rw[e2]at b4;rw[e3]at b6;exact⟨bl (bl (bl g1 g2) g3) g4,((b2.grow g2).grow g3).grow g4,(b3.grow g3).grow g4,b4.grow g4,b6⟩
 generalize(((w.alloc (.cells #[.int .i64 xf,.int .i64 xt,.slice A1 n1 c1] 36)).alloc (.cells #[.int .i64 yf,.int .i64 yt,.slice A2 n2 c2] 36)).alloc (.cells #[.int .i64 0,.int .i64 0,.slice none 0 0] 36)).alloc (.cells #[.int .i64 xf,.int .i64 xt,.slice A1 n1 c1,.int .i64 yf,.int .i64 yt,.slice A2 n2 c2] 36)=W at *;have QG:=Lib.hid QV;clear QV
 go_loopw [20] (λi wr=>(i=.int .i64 0\/(i=.int .i64 1/\cd=0)\/(i=.int .i64 2/\cd=0/\ce=0))/\MgS w xf xt yf yt (.slice A1 n1 c1) (.slice A2 n2 c2) (w.heap.size+1+1+1) wr) (λi _=>2-(intOf i).toNat)
 case atStart=>exact⟨.inl rfl,QG.out⟩
 case round=>
  obtain⟨hi,hS⟩:=hrel;have HS:=Lib.hid hS;have UV:=hS.b6.cell 0;have UW:=hS.b6.cell 1;have UX:=hS.b6.cell 2;have UY:=hS.b6.cell 3;have UZ:=hS.b6.cell 4;have U0:=hS.b6.cell 5;simp only[List.getElem?_cons_zero,List.getElem?_cons_succ]at UV UW UX UY UZ U0;clear hS QG;rcases hi with rfl|⟨rfl,Ws⟩|⟨rfl,Ws,Zp⟩
  ·go_wp2_with fail
   refine(QD.out _ (bl HS.out.grown (bf (bg _ _) _))).mono ?_;rintro e w5 ⟨rfl,Xi⟩;have Yc:=Lib.hid ((HS.out.grow (bf (bg wr none) (.cells #[.int .i64 xf,.int .i64 xt,.slice A1 n1 c1] 36))).grow Xi);clear Xi UV UW UX UY UZ U0;by_cases hc:cd=0
   ·have Ux:(cd != 0)=false:=by simp[hc]
    have Hc:=Lib.hid hc;clear hc
    go_wp2_with fail
    go_roundw
    case rel=>exact⟨.inr (.inl ⟨by go_num,Hc.out⟩),Yc.out⟩
    case measure=>simp[intOf]
   ·have Ux:(cd != 0)=true:=by simp[hc]
    have Y5:=Yc.out.b4.cell 0;have Y6:=Yc.out.b4.cell 1;have VT:=Yc.out.b4.cell 2;have WM:=Yc.out.b4.free 0;have f41:=Yc.out.b4.free 1;have Oq:=Yc.out.b4.free 2;have q4:=Yc.out.b4.hi;simp only[List.getElem?_cons_zero,List.getElem?_cons_succ]at Y5 Y6 VT;have Hc:=Lib.hid hc;clear hc
    go_wp2_with fail
    refine bodyPost_ret (v:=.tuple #[.agg #[.int .i64 0,.int .i64 0,.slice none 0 0],.int .i64 cd]) (by simp[results,Tryz.results25,go_sem,Y5,Y6,VT,q4]) rfl ?_
    have hr:r=cd:=by
     rcases HR.out with⟨h1,h2⟩|⟨h1,h2,h3⟩|⟨h1,h2,h3,h4⟩
     all_goals first|exact h2|exact h3|exact absurd h1 Hc.out|exact absurd h2 Hc.out|exact absurd QC.out h1|exact absurd h1 (λh=>Hc.out h)
    rw[hr];exact⟨rfl,Yc.out.err _ _ _⟩
  ·have QC:=Lib.hid Ws;clear Ws
   go_wp2_with fail
   refine(Sv.out _ (bl HS.out.grown (bf (bg _ _) _))).mono ?_;rintro e w5 ⟨rfl,Xi⟩;have Yc:=Lib.hid ((HS.out.grow (bf (bg wr none) (.cells #[.int .i64 yf,.int .i64 yt,.slice A2 n2 c2] 36))).grow Xi);clear Xi UV UW UX UY UZ U0;by_cases hc:ce=0
   ·have Ux:(ce != 0)=false:=by simp[hc]
    have Hc:=Lib.hid hc;clear hc
    go_wp2_with fail
    go_roundw
    case rel=>exact⟨.inr (.inr ⟨by go_num,QC.out,Hc.out⟩),Yc.out⟩
    case measure=>simp[intOf]
   ·have Ux:(ce != 0)=true:=by simp[hc]
    have Y5:=Yc.out.b4.cell 0;have Y6:=Yc.out.b4.cell 1;have VT:=Yc.out.b4.cell 2;have WM:=Yc.out.b4.free 0;have f41:=Yc.out.b4.free 1;have Oq:=Yc.out.b4.free 2;have q4:=Yc.out.b4.hi;simp only[List.getElem?_cons_zero,List.getElem?_cons_succ]at Y5 Y6 VT;have Hc:=Lib.hid hc;clear hc
    go_wp2_with fail
    refine bodyPost_ret (v:=.tuple #[.agg #[.int .i64 0,.int .i64 0,.slice none 0 0],.int .i64 ce]) (by simp[results,Tryz.results25,go_sem,Y5,Y6,VT,q4]) rfl ?_
    have hr:r=ce:=by
     rcases HR.out with⟨h1,h2⟩|⟨h1,h2,h3⟩|⟨h1,h2,h3,h4⟩
     all_goals first|exact h2|exact h3|exact absurd h1 Hc.out|exact absurd h2 Hc.out|exact absurd QC.out h1|exact absurd h1 (λh=>Hc.out h)
    rw[hr];exact⟨rfl,Yc.out.err _ _ _⟩
  ·have X0:=HS.out.b2.cell 1;have Yb:=HS.out.b3.cell 0;have Y5:=HS.out.b4.cell 0;have Y6:=HS.out.b4.cell 1;have VT:=HS.out.b4.cell 2;have WM:=HS.out.b4.free 0;have f41:=HS.out.b4.free 1;have Oq:=HS.out.b4.free 2;have q4:=HS.out.b4.hi;simp only[List.getElem?_cons_zero,List.getElem?_cons_succ]at X0 Yb Y5 Y6 VT
   have hne:xt≠yf/\r=35:=by
    rcases HR.out with⟨h1,h2⟩|⟨h1,h2,h3⟩|⟨h1,h2,h3,h4⟩
    ·exact absurd Ws h1
    ·exact absurd Zp h2
    ·exact⟨h3,h4⟩
   obtain⟨hne,rfl⟩:=hne
   have hnb:(xt != yf)=true:=by simp[hne]
   clear hne Ws Zp UV UW UX UY UZ U0
   go_wp2_with fail
   refine bodyPost_ret (v:=.tuple #[.agg #[.int .i64 0,.int .i64 0,.slice none 0 0],.int .i64 35]) (by simp[results,Tryz.results25,go_sem,Y5,Y6,VT,q4]) rfl ?_;exact⟨rfl,HS.out.err _ _ _⟩
end Go.Proofs.YtbdhpgelkfncpaaGreat
