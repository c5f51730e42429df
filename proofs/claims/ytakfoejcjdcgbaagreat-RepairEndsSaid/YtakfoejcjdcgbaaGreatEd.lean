/- Part of the proof; no condition. -/
import Derived.Test.YtakfoejcjdcgbaaGreatEc
import Derived.Laws.AppendOwnNone
import Derived.Deep.DeepAppendRoom
import Derived.ArgAppend
import Derived.Orders
import Derived.Deep.RegionWith
import Derived.Outline
import Derived.Deep.DeepCutAuto
import Derived.RegionTactic
import Derived.BigRegion
import Derived.StillTailTactics
import Derived.Test.YtakfoejcjdcgbaaGreatProg
import Derived.WalkKit
import Derived.WalkSpells
import Derived.Handy
import Derived.Sort.Grow
import Derived.Shelf.GgSortFunc.RowK
import Derived.Shelf.SlicesQ.Reverse
import Derived.Lib.SlicesCompact
import Derived.Lib.SliceRun
import Derived.Laws.StructEq
import Derived.Deep.LoopGhost
import Derived.Deep.Draws
import Derived.Sort.WalkB12
import Derived.Shelf.RegionOpenPlain
import Derived.Shelf.SlSortCmp.WholeK
import Derived.Shelf.SlSortCmp.NoneTotal
import Derived.Shelf.SlicesE.Clone
import Derived.Ground.SlgnProg
import Derived.KernelRfl
set_option linter.unusedVariables false
set_option linter.unusedSimpArgs false
namespace Go.Proofs.YtakfoejcjdcgbaaGreat
open Go.RowKit
structure Rp (α:Type) where
 size:Nat
 rep:World->(Nat->Prop)->α->List Value->Prop
 own:World->List Nat->α->List Value->Prop
 pos:0<size
 len:∀{w F a cs},rep w F a cs->cs.length=size
 one:∀{w F a cs},rep w F a cs->∀v∈cs,v.oneCell'=true
 keep:∀{w w' F a cs},rep w F a cs->fq F w w'->rep w' F a cs
 sub:∀{w F G a cs},rep w F a cs->(∀k,F k->G k)->rep w G a cs
 live:∀{w F a cs},rep w F a cs->rep w (λk=>F k/\k<w.heap.size) a cs
 okeep:∀{w w' fp a cs},own w fp a cs->(∀k,k∈fp->w'.heap[k]?=w.heap[k]?)->own w' fp a cs
 olive:∀{w fp a cs},own w fp a cs->∀k,k∈fp->k<w.heap.size
 reads:∀{w fp a cs},own w fp a cs->rep w (λk=>k∈fp) a cs
def Jr(k:IntKind):Rp Int where
 size:=1
 rep _ _ a cs:=cs=[.int k a]/\(Lit.int k a).wf=true
 own _ fp a cs:=fp=[]/\cs=[.int k a]/\(Lit.int k a).wf=true
 pos:=by decide
 len:=λh=>by rw[h.1];rfl
 one:=λh=>by rw[h.1];simp[Value.oneCell']
 keep:=λh _=>h
 sub:=λh _=>h
 live:=λh=>h
 okeep:=λh _=>h
 olive:=λh k hk=>by rw[h.1]at hk;simp at hk
 reads:=λh=>h.2
def ly{α β:Type}(R:Rp α)(S:Rp β):Rp (α×β) where
 size:=R.size+S.size
 rep w F p cs:=∃c d,cs=c++d/\R.rep w F p.1 c/\S.rep w F p.2 d
 own w fp p cs:=∃c d f g,cs=c++d/\fp=f++g/\R.own w f p.1 c/\S.own w g p.2 d
 pos:=by have:=R.pos;omega
 len:=λ⟨c,d,e,h1,h2⟩=>by rw[e,List.length_append,R.len h1,S.len h2]
 one:=λ⟨c,d,e,h1,h2⟩ v hv=>by
  rw[e,List.mem_append]at hv;rcases hv with hv|hv
  ·exact R.one h1 v hv
  ·exact S.one h2 v hv
 keep:=λ⟨c,d,e,h1,h2⟩ ha=>⟨c,d,e,R.keep h1 ha,S.keep h2 ha⟩
 sub:=λ⟨c,d,e,h1,h2⟩ hs=>⟨c,d,e,R.sub h1 hs,S.sub h2 hs⟩
 live:=λ⟨c,d,e,h1,h2⟩=>⟨c,d,e,R.live h1,S.live h2⟩
 okeep:=λ⟨c,d,f,g,e,e',h1,h2⟩ hk=>⟨c,d,f,g,e,e',R.okeep h1 λk h=>hk k (by rw[e'];exact List.mem_append_left _ h),S.okeep h2 λk h=>hk k (by rw[e'];exact List.mem_append_right _ h)⟩
 olive:=λ⟨c,d,f,g,e,e',h1,h2⟩ k hk=>by
  rw[e',List.mem_append]at hk;rcases hk with hk|hk
  ·exact R.olive h1 k hk
  ·exact S.olive h2 k hk
 reads:=λ⟨c,d,f,g,e,e',h1,h2⟩=>⟨c,d,e,R.sub (R.reads h1) λk h=>by rw[e'];exact List.mem_append_left _ h,S.sub (S.reads h2) λk h=>by rw[e'];exact List.mem_append_right _ h⟩
section
variable {α:Type} (R:Rp α)
def eE(w:World)(F:Nat->Prop):List α->List Value->Prop
 | [],cs=>cs=[]
 |x::r,cs=>∃c d,cs=c++d/\R.rep w F x c/\eE w F r d
def gY(w:World):List Nat->List α->List Value->Prop
 |fp,[],cs=>cs=[]/\fp=[]
 |fp,x::r,cs=>∃c d f g,cs=c++d/\fp=f++g/\R.own w f x c/\gY w g r d
variable {R}
theorem eE.len{w:World}{F:Nat->Prop}:∀{xs:List α}{cs:List Value},eE R w F xs cs->cs.length=xs.length*R.size
 | [],_,h=>by rw[show _=[]from h];simp
 |x::r,_,⟨c,d,e,h1,h2⟩=>by rw[e,List.length_append,R.len h1,eE.len h2,oLC,Nat.succ_mul,Nat.add_comm]
theorem eE.one{w:World}{F:Nat->Prop}:∀{xs:List α}{cs:List Value},eE R w F xs cs->∀v∈cs,v.oneCell'=true
 | [],_,h,v,hv=>by rw[show _=[]from h]at hv;simp at hv
 |x::r,_,⟨c,d,e,h1,h2⟩,v,hv=>by
  rw[e,List.mem_append]at hv;rcases hv with hv|hv
  ·exact R.one h1 v hv
  ·exact eE.one h2 v hv
theorem eE.keep{w w':World}{F:Nat->Prop}(ha:fq F w w'):∀{xs:List α}{cs:List Value},eE R w F xs cs->eE R w' F xs cs
 | [],_,h=>h
 |x::r,_,⟨c,d,e,h1,h2⟩=>⟨c,d,e,R.keep h1 ha,eE.keep ha h2⟩
theorem eE.sub{w:World}{F G:Nat->Prop}(hs:∀k,F k->G k):∀{xs:List α}{cs:List Value},eE R w F xs cs->eE R w G xs cs
 | [],_,h=>h
 |x::r,_,⟨c,d,e,h1,h2⟩=>⟨c,d,e,R.sub h1 hs,eE.sub hs h2⟩
theorem eE.live{w:World}{F:Nat->Prop}:∀{xs:List α}{cs:List Value},eE R w F xs cs->eE R w (λk=>F k/\k<w.heap.size) xs cs
 | [],_,h=>h
 |x::r,_,⟨c,d,e,h1,h2⟩=>⟨c,d,e,R.live h1,eE.live h2⟩
theorem eE.append{w:World}{F:Nat->Prop}:∀{xs ys:List α}{cs ds:List Value},eE R w F xs cs->eE R w F ys ds->eE R w F (xs++ys) (cs++ds)
 | [],_,_,_,h,h'=>by rw[show _=[]from h];simpa using h'
 |x::r,_,_,ds,⟨c,d,e,h1,h2⟩,h'=>⟨c,d++ds,by rw[e,List.append_assoc],h1,eE.append h2 h'⟩
theorem eE.single{w:World}{F:Nat->Prop}{x:α}{c:List Value}(h:R.rep w F x c):eE R w F [x] c:=⟨c,[],by simp,h,rfl⟩
theorem eE.at_{w:World}{F:Nat->Prop}:∀{xs:List α}{cs:List Value},eE R w F xs cs->∀{k:Nat}(hk:k<xs.length),∃c,R.rep w F xs[k] c/\∀(j:Nat) u,c[j]?=some u->cs[k*R.size+j]?=some u
 |x :: r,_,⟨c,d,e,h1,h2⟩,0,_=>⟨c,h1,λj u hj=>by
    have hlt:j<c.length:=(oGS hj).1
    rw[e,Nat.zero_mul,Nat.zero_add,List.getElem?_append_left hlt];exact hj⟩
 |x::r,_,⟨c,d,e,h1,h2⟩,k+1,hk=>by
  obtain⟨c',h3,h4⟩:=eE.at_ h2 (k:=k) (by simpa using hk);refine⟨c',h3,λj u hj=>?_⟩;rw[e,List.getElem?_append_right (by rw[R.len h1,Nat.succ_mul];omega),R.len h1,show(k+1)*R.size+j-R.size=k*R.size+j by rw[Nat.succ_mul];omega];exact h4 j u hj
theorem eE.take{w:World}{F:Nat->Prop}:∀{xs:List α}{cs:List Value},eE R w F xs cs->∀(n:Nat),eE R w F (xs.take n) (cs.take (n*R.size))
 | [],_,h,n=>by rw[show _=[]from h];simp[eE]
 |x::r,_,_,0=>by simp[eE]
 |x::r,_,⟨c,d,e,h1,h2⟩,n+1=>by
  refine⟨c,d.take (n*R.size),?_,h1,eE.take h2 n⟩;rw[e,List.take_append,List.take_of_length_le (by rw[R.len h1,Nat.succ_mul];omega),R.len h1,show(n+1)*R.size-R.size=n*R.size by rw[Nat.succ_mul];omega]
theorem eE.drop{w:World}{F:Nat->Prop}:∀{xs:List α}{cs:List Value},eE R w F xs cs->∀(n:Nat),eE R w F (xs.drop n) (cs.drop (n*R.size))
 | [],_,h,n=>by rw[show _=[]from h];simp[eE]
 |x::r,_,h,0=>by simpa using h
 |x::r,_,⟨c,d,e,h1,h2⟩,n+1=>by
  have e0:c.drop ((n+1)*R.size)=[]:=List.drop_of_length_le (by rw[R.len h1,Nat.succ_mul];omega);rw[e,List.drop_append,e0,R.len h1,show(n+1)*R.size-R.size=n*R.size by rw[Nat.succ_mul];omega];simpa using eE.drop h2 n
theorem gY.keep{w w':World}:∀{xs:List α}{fp:List Nat}{cs:List Value},gY R w fp xs cs->(∀k,k∈fp->w'.heap[k]?=w.heap[k]?)->gY R w' fp xs cs
 | [],_,_,h,_=>h
 |x::r,_,_,⟨c,d,f,g,e,e',h1,h2⟩,hk=>⟨c,d,f,g,e,e',R.okeep h1 λk h=>hk k (by rw[e'];exact List.mem_append_left _ h),gY.keep h2 λk h=>hk k (by rw[e'];exact List.mem_append_right _ h)⟩
theorem gY.live{w:World}:∀{xs:List α}{fp:List Nat}{cs:List Value},gY R w fp xs cs->∀k,k∈fp->k<w.heap.size
 | [],_,_,h,k,hk=>by rw[h.2]at hk;simp at hk
 |x::r,_,_,⟨c,d,f,g,e,e',h1,h2⟩,k,hk=>by
  rw[e',List.mem_append]at hk;rcases hk with hk|hk
  ·exact R.olive h1 k hk
  ·exact gY.live h2 k hk
theorem gY.reads{w:World}:∀{xs:List α}{fp:List Nat}{cs:List Value},gY R w fp xs cs->eE R w (λk=>k∈fp) xs cs
 | [],_,_,h=>h.1
 |x::r,_,_,⟨c,d,f,g,e,e',h1,h2⟩=>⟨c,d,e,R.sub (R.reads h1) λk h=>by rw[e'];exact List.mem_append_left _ h,eE.sub (λk h=>by rw[e'];exact List.mem_append_right _ h) (gY.reads h2)⟩
theorem gY.append{w:World}:∀{xs ys:List α}{fp gp:List Nat}{cs ds:List Value},gY R w fp xs cs->gY R w gp ys ds->gY R w (fp++gp) (xs++ys) (cs++ds)
 | [],_,_,_,_,_,h,h'=>by obtain⟨rfl,rfl⟩:=h;simpa using h'
 |x::r,_,_,gp,_,ds,⟨c,d,f,g,e,e',h1,h2⟩,h'=>⟨c,d++ds,f,g++gp,by rw[e,List.append_assoc],by rw[e',List.append_assoc],h1,gY.append h2 h'⟩
theorem gY.single{w:World}{fp:List Nat}{x:α}{c:List Value}(h:R.own w fp x c):gY R w fp [x] c:=⟨c,[],fp,[],by simp,by simp,h,rfl,rfl⟩
theorem gY.len{w:World}{xs:List α}{fp:List Nat}{cs:List Value}(h:gY R w fp xs cs):cs.length=xs.length*R.size:=(gY.reads h).len
theorem gY.split{w:World}:∀{xs:List α}{fp:List Nat}{cs:List Value},gY R w fp xs cs->∀{k:Nat}(hk:k<xs.length),
 ∃f1 f f2 c1 c c2,fp=f1++f++f2/\cs=c1++c++c2/\c1.length=k*R.size/\gY R w f1 (xs.take k) c1/\R.own w f xs[k] c/\gY R w f2 (xs.drop (k+1)) c2
 |x::r,_,_,⟨c,d,f,g,e,e',h1,h2⟩,0,_=>⟨[],f,g,[],c,d,by simpa using e',by simpa using e,by simp,⟨rfl,rfl⟩,h1,h2⟩
 |x::r,_,_,⟨c,d,f,g,e,e',h1,h2⟩,k+1,hk=>by
  obtain⟨f1,f',f2,c1,c',c2,e1,e2,e3,h3,h4,h5⟩:=gY.split h2 (k:=k) (by simpa using hk);exact⟨f++f1,f',f2,c++c1,c',c2,by rw[e',e1];simp,by rw[e,e2];simp,by rw[List.length_append,e3,R.len (R.reads h1),Nat.succ_mul,Nat.add_comm],⟨c,c1,f,f1,rfl,rfl,h1,h3⟩,h4,h5⟩
theorem gY.join{w:World}{xs:List α}{k:Nat}(hk:k<xs.length){f1 f f2:List Nat}{c1 c c2:List Value}{y:α}(h1:gY R w f1 (xs.take k) c1)(h:R.own w f y c)(h2:gY R w f2 (xs.drop (k+1)) c2):
 gY R w (f1++f++f2) (xs.set k y) (c1++c++c2):=by
 rw[List.set_eq_take_append_cons_drop,oIP hk,List.append_assoc,List.append_assoc];exact gY.append h1 ⟨c,c2,f,f2,rfl,rfl,h,h2⟩
variable (R)
def RSl(w:World)(F:Nat->Prop)(xs:List α)(v:Value):Prop:=
 ∃A c cs,v=.slice A xs.length c/\xs.length<=c/\c<=9223372036854775807/\xs.length<=1099511627776/\(A=none->c=0)/\Row w F A cs/\eE R w F xs cs
def OSl(e:TypeId)(w:World)(fp:List Nat)(xs:List α)(v:Value):Prop:=
 xs.length<=1099511627776/\((v=.slice none 0 0/\xs=[]/\fp=[])\/
  ∃q c cs g,v=.slice (some ⟨q,0,none⟩) xs.length c/\fp=q::g/\xs.length<=c/\c<=9223372036854775807/\jF e w q (c*R.size) cs/\gY R w g xs cs)
variable {R}
theorem RSl.keep{w w':World}{F:Nat->Prop}{xs:List α}{v:Value}(h:RSl R w F xs v)(ha:fq F w w'):RSl R w' F xs v:=
 let ⟨A,c,cs,e,h1,h2,h3,h4,h5,h6⟩:=h;⟨A,c,cs,e,h1,h2,h3,h4,h5.keep ha,h6.keep ha⟩
theorem RSl.sub{w:World}{F G:Nat->Prop}{xs:List α}{v:Value}(h:RSl R w F xs v)(hs:∀k,F k->G k):RSl R w G xs v:=
 let ⟨A,c,cs,e,h1,h2,h3,h4,h5,h6⟩:=h;⟨A,c,cs,e,h1,h2,h3,h4,h5.sub hs,h6.sub hs⟩
theorem RSl.live{w:World}{F:Nat->Prop}{xs:List α}{v:Value}(h:RSl R w F xs v):RSl R w (λk=>F k/\k<w.heap.size) xs v:=
 let ⟨A,c,cs,e,h1,h2,h3,h4,h5,h6⟩:=h;⟨A,c,cs,e,h1,h2,h3,h4,λi hi=>by
  obtain⟨b,off,e,hF,hc⟩:=h5 i hi
  exact⟨b,off,e,⟨hF,World.block_lt_of_cell? w _ hc⟩,hc⟩,h6.live⟩
theorem jF.row'{e:TypeId}{w:World}{q n:Nat}{vs:List Value}(h:jF e w q n vs):Row w (λk=>k=q) (some ⟨q,0,none⟩) vs:=by
 intro i hi;exact⟨q,0,rfl,rfl,by rw[Nat.zero_add,h.cell hi]⟩
theorem OSl.keep{e:TypeId}{w w':World}{fp:List Nat}{xs:List α}{v:Value}(h:OSl R e w fp xs v)(hk:∀k,k∈fp->w'.heap[k]?=w.heap[k]?):OSl R e w' fp xs v:=by
 obtain⟨hb,h|⟨q,c,cs,g,e1,e2,h1,h2,h3,h4⟩⟩:=h
 ·exact⟨hb,.inl h⟩
 ·exact⟨hb,.inr ⟨q,c,cs,g,e1,e2,h1,h2,h3.keep (hk q (by rw[e2];simp)),h4.keep λk h=>hk k (by rw[e2];simp[h])⟩⟩
theorem OSl.live{e:TypeId}{w:World}{fp:List Nat}{xs:List α}{v:Value}(h:OSl R e w fp xs v):∀k,k∈fp->k<w.heap.size:=by
 obtain⟨hb,⟨_,_,rfl⟩|⟨q,c,cs,g,e1,rfl,h1,h2,h3,h4⟩⟩:=h
 ·simp
 ·intro k hk;rcases List.mem_cons.1 hk with rfl|hk
  ·exact h3.hi
  ·exact h4.live k hk
theorem OSl.reads{e:TypeId}{w:World}{fp:List Nat}{xs:List α}{v:Value}(h:OSl R e w fp xs v):RSl R w (λk=>k∈fp) xs v:=by
 obtain⟨hb,⟨rfl,rfl,rfl⟩|⟨q,c,cs,g,rfl,rfl,h1,h2,h3,h4⟩⟩:=h
 ·exact⟨none,0,[],rfl,Nat.le_refl _,by omega,hb,λ_=>rfl,Row.nil _ _ _,rfl⟩
 ·exact⟨_,c,cs,rfl,h1,h2,hb,λh=>by simp at h,h3.row'.sub λk hk=>by simp[hk],h4.reads.sub λk hk=>by simp[hk]⟩
end
def Hu{α:Type}(e:TypeId)(R:Rp α):Rp (List α) where
 size:=1
 rep w F xs cs:=∃v,cs=[v]/\RSl R w F xs v
 own w fp xs cs:=∃v,cs=[v]/\OSl R e w fp xs v
 pos:=by decide
 len:=λ⟨v,e,_⟩=>by rw[e];rfl
 one:=λ⟨v,e,A,c,cs,e2,_⟩=>by rw[e,e2];simp[Value.oneCell']
 keep:=λ⟨v,e,h⟩ ha=>⟨v,e,h.keep ha⟩
 sub:=λ⟨v,e,h⟩ hs=>⟨v,e,h.sub hs⟩
 live:=λ⟨v,e,h⟩=>⟨v,e,h.live⟩
 okeep:=λ⟨v,e,h⟩ hk=>⟨v,e,h.keep hk⟩
 olive:=λ⟨v,e,h⟩=>h.live
 reads:=λ⟨v,e,h⟩=>⟨v,e,h.reads⟩
section
variable {α:Type} {R:Rp α}
def GK(F:Nat->Prop)(w:World):Prop:=∀k,w.heap.size<=k->F k
theorem GK.grow{F:Nat->Prop}{w w':World}(h:GK F w)(hg:w.heap.size<=w'.heap.size):GK F w':=λk hk=>h k (Nat.le_trans hg hk)
theorem RSl.grow{w w':World}{F:Nat->Prop}{xs:List α}{v:Value}(h:RSl R w F xs v)(hg:w.grownBy w' none):RSl R w' F xs v:=
 (h.live.keep (w':=w') λk hk=>hg.block k hk.2 (by simp)).sub λk hk=>hk.1
theorem Rp.grow(R:Rp α){w w':World}{F:Nat->Prop}{x:α}{cs:List Value}(h:R.rep w F x cs)(hg:w.grownBy w' none):R.rep w' F x cs:=
 R.sub (R.keep (R.live h) (w':=w') λk hk=>hg.block k hk.2 (by simp)) λk hk=>hk.1
theorem gY.grow{w w':World}{fp:List Nat}{xs:List α}{cs:List Value}(h:gY R w fp xs cs)(hg:w.grownBy w' none):gY R w' fp xs cs:=h.keep λk hk=>hg.block k (h.live k hk) (by simp)
theorem eE.grow{w w':World}{F:Nat->Prop}{xs:List α}{cs:List Value}(h:eE R w F xs cs)(hg:w.grownBy w' none):eE R w' F xs cs:=
 (eE.keep (w':=w') (λk hk=>hg.block k hk.2 (by simp)) h.live).sub λk hk=>hk.1
theorem OSl.grow{e:TypeId}{w w':World}{fp:List Nat}{xs:List α}{v:Value}(h:OSl R e w fp xs v)(hg:w.grownBy w' none):OSl R e w' fp xs v:=h.keep λk hk=>hg.block k (h.live k hk) (by simp)
theorem RSl.nil(w:World)(F:Nat->Prop):RSl R w F [] (.slice none 0 0):=⟨none,0,[],rfl,Nat.le_refl _,by omega,by simp,λ_=>rfl,Row.nil _ _ _,rfl⟩
theorem RSl.at_{w:World}{F:Nat->Prop}{xs:List α}{v:Value}(h:RSl R w F xs v){k:Nat}(hk:k<xs.length):
 ∃b off c cs,v=.slice (some ⟨b,off,none⟩) xs.length c/\xs.length<=c/\c<=9223372036854775807/\F b/\R.rep w F xs[k] cs/\∀(j:Nat) u,cs[j]?=some u->w.cell? ⟨b,off+(k*R.size+j),none⟩=some u:=by
 obtain⟨A,c,cs,rfl,h1,h2,h3,h4,h5,h6⟩:=h;obtain⟨d,hd,hj⟩:=h6.at_ hk;have Sg:=R.len hd;have hp:=R.pos;have h0:d[0]?=some d[0]:=oGE (by omega);have h7:=hj 0 _ h0;obtain⟨h8,_⟩:=oGS h7;obtain⟨b,off,rfl,hF,_⟩:=h5 _ h8;refine⟨b,off,c,d,rfl,h1,h2,hF,hd,λj u hu=>?_⟩;obtain⟨h9,ZJ⟩:=oGS (hj j u hu);obtain⟨b',Vt,e,_,hc⟩:=h5 _ h9
 injection e with e;injection e with e1 e2;subst e1;subst e2
 rw[hc,ZJ]
theorem RSl.size_eq{w:World}{F:Nat->Prop}{xs:List α}{v:Value}(h:RSl R w F xs v):
 ∃A c,v=.slice A xs.length c/\xs.length<=c/\c<=9223372036854775807/\xs.length<=1099511627776:=
 let ⟨A,c,_,e,h1,h2,h3,_⟩:=h;⟨A,c,e,h1,h2,h3⟩
theorem RSl.cells{w:World}{F:Nat->Prop}{xs:List α}{v:Value}(h:RSl R w F xs v):
 (xs=[]/\∃A c,v=.slice A 0 c/\(A=none->c=0))\/∃ad c cs,v=.slice (some ad) xs.length c/\cs.length=xs.length*R.size/\(∀(j:Nat) u,cs[j]?=some u->w.cell? (ad.add j)=some u)/\eE R w F xs cs:=by
 obtain⟨A,c,cs,rfl,h1,h2,h3,h4,h5,h6⟩:=h;by_cases hx:xs=[]
 ·subst hx;exact .inl ⟨rfl,A,c,rfl,h4⟩
 ·refine .inr ?_;have hl:=h6.len;have hp:0<xs.length*R.size:=Nat.mul_pos (List.length_pos_iff.2 hx) R.pos;obtain⟨b,off,rfl,_,_⟩:=h5 0 (by omega);refine⟨_,c,cs,rfl,hl,λj u hu=>?_,h6⟩;obtain⟨h9,ZJ⟩:=oGS hu;obtain⟨b',Vt,e,_,hc⟩:=h5 _ h9
  injection e with e;injection e with e1 e2;subst e1;subst e2
  rw[show(⟨b,off,none⟩:Addr).add j=⟨b,off+j,none⟩ by simp[Addr.add],hc,ZJ]
def Mk(R:Rp α)(e:TypeId)(base:Nat)(w:World)(G:Nat->Prop)(v:Value)(xs:List α):Prop:=
 ∃cs,w.ownsRow base e R.size v xs.length cs/\xs.length<=1099511627776/\eE R w (λk=>G k/\some k≠v.ownBlock) xs cs
def MkO(R:Rp α)(e:TypeId)(base:Nat)(w:World)(fp:List Nat)(v:Value)(xs:List α):Prop:=
 ∃cs,w.ownsRow base e R.size v xs.length cs/\xs.length<=1099511627776/\gY R w fp xs cs/\fp.Nodup/\∀k,k∈fp->base<=k/\some k≠v.ownBlock
theorem Mk.nil(R:Rp α)(e:TypeId)(base:Nat)(w:World)(G:Nat->Prop):Mk R e base w G (.slice none 0 0) []:=⟨[],World.ownsRow_nil _ _ _ _,by simp,rfl⟩
theorem MkO.nil(R:Rp α)(e:TypeId)(base:Nat)(w:World):MkO R e base w [] (.slice none 0 0) []:=⟨[],World.ownsRow_nil _ _ _ _,by simp,⟨rfl,rfl⟩,List.nodup_nil,by simp⟩
theorem Mk.grow{e:TypeId}{base:Nat}{w w':World}{G:Nat->Prop}{v:Value}{xs:List α}(h:Mk R e base w G v xs)(hg:w.grownBy w' none):Mk R e base w' G v xs:=by
 obtain⟨cs,h1,h2,h3⟩:=h;refine⟨cs,h1.kept hg ?_,h2,(eE.keep (w':=w') (λk hk=>hg.block k hk.2 (by simp)) h3.live).sub λk hk=>hk.1⟩;cases hv:v.ownBlock
 ·exact .inl rfl
 ·exact .inr (by simp)
theorem MkO.grow{e:TypeId}{base:Nat}{w w':World}{fp:List Nat}{v:Value}{xs:List α}(h:MkO R e base w fp v xs)(hg:w.grownBy w' none):MkO R e base w' fp v xs:=by
 obtain⟨cs,h1,h2,h3,h4,h5⟩:=h;refine⟨cs,h1.kept hg ?_,h2,h3.keep λk hk=>hg.block k (h3.live k hk) (by simp),h4,h5⟩;cases hv:v.ownBlock
 ·exact .inl rfl
 ·exact .inr (by simp)
theorem Mk.done{e:TypeId}{base:Nat}{w:World}{F G:Nat->Prop}{v:Value}{xs:List α}(h:Mk R e base w G v xs)(hF:∀k,base<=k->F k)(hG:∀k,G k->F k):RSl R w F xs v:=by
 obtain⟨cs,h1,h2,h3⟩:=h;have hlt:=h1.lt;have hc:=@World.ownsRow.cells w base e R.size v xs.length cs h1
 rcases h1.2 with⟨rfl,hn⟩|⟨g,cap,cur,rfl,hb,YD,hcap,hmax,hsz,Zv⟩
 ·have hx:xs=[]:=oEN hn;subst hx;exact RSl.nil _ _
 ·refine⟨_,cap,cs,rfl,hcap,by simpa[maxLen]using hmax,h2,by simp,λi hi=>⟨g,0,rfl,hF g hb,?_⟩,h3.sub λk hk=>hG k hk.1⟩;have:=hc rfl i _ (oGE hi);rw[show(⟨g,0+i,none⟩:Addr)=(⟨g,0,none⟩:Addr).add i from by unfold Addr.add;split<;>simp_all];exact this
theorem MkO.done{e:TypeId}{base:Nat}{w:World}{fp:List Nat}{v:Value}{xs:List α}(h:MkO R e base w fp v xs):
 ∃gp,OSl R e w gp xs v/\gp.Nodup/\∀k,k∈gp->base<=k:=by
 obtain⟨cs,h1,h2,h3,h4,h5⟩:=h
 rcases h1.2 with⟨rfl,hn⟩|⟨g,cap,cur,rfl,hb,YD,hcap,hmax,hsz,Zv⟩
 ·have hx:xs=[]:=oEN hn;subst hx;exact⟨[],⟨h2,.inl ⟨rfl,rfl,rfl⟩⟩,List.nodup_nil,by simp⟩
 ·refine⟨g::fp,⟨h2,.inr ⟨g,cap,cs,fp,rfl,rfl,hcap,by simpa[maxLen]using hmax,⟨cur,YD,hsz,by rw[h1.1];exact Zv⟩,h3⟩⟩,?_,?_⟩
  ·refine List.nodup_cons.2 ⟨λhm=>(h5 g hm).2 rfl,h4⟩
  ·intro k hk;rcases List.mem_cons.1 hk with rfl|hk
   ·exact hb
   ·exact(h5 k hk).1
theorem Mk.shape{e:TypeId}{base:Nat}{w:World}{G:Nat->Prop}{v:Value}{xs:List α}(h:Mk R e base w G v xs):∃A c,v=.slice A xs.length c:=by
 obtain⟨cs,h1,h2,h3⟩:=h
 rcases h1.2 with⟨rfl,hn⟩|⟨g,cap,cur,rfl,_⟩
 ·rw[hn];exact⟨_,_,rfl⟩
 ·exact⟨_,_,rfl⟩
theorem MkO.shape{e:TypeId}{base:Nat}{w:World}{fp:List Nat}{v:Value}{xs:List α}(h:MkO R e base w fp v xs):∃A c,v=.slice A xs.length c:=by
 obtain⟨cs,h1,h2,h3⟩:=h
 rcases h1.2 with⟨rfl,hn⟩|⟨g,cap,cur,rfl,_⟩
 ·rw[hn];exact⟨_,_,rfl⟩
 ·exact⟨_,_,rfl⟩
theorem OSl.shape{e:TypeId}{w:World}{fp:List Nat}{v:Value}{xs:List α}(h:OSl R e w fp xs v):∃A c,v=.slice A xs.length c:=by
 obtain⟨hb,⟨rfl,rfl,rfl⟩|⟨q,c,cs,g,rfl,rfl,h1,h2,h3,h4⟩⟩:=h
 ·exact⟨_,_,rfl⟩
 ·exact⟨_,_,rfl⟩
end
structure SlT (P:Program)(t e:TypeId)(size bytes:Nat):Prop where
 under:P.underlying t=some (.slice e)
 info:∃i z,P.info? e=some i/\i.zero=some z/\i.size=size/\i.bytes=bytes/\z.cells.size=size
 pos:0<size
section
variable {P:Program} {w:World} {t e:TypeId} {size bytes:Nat}
theorem qn(T:SlT P t e size bytes)(ty:TypeId)(base:Nat)(v:Value)(n:Nat)(xs:List Value)(hown:w.ownsRow base e size v n xs)
 (ad:Addr)(m c:Nat)(news:List Value)(hl:news.length=m*size)(Zn:∀(j:Nat) u,news[j]?=some u->w.cell? (ad.add j)=some u)(h1:∀u∈news,u.oneCell'=true)
 (T1:n+m<=maxLen)(YN:(n+m)*bytes<=140737488355328)(Zm:base<=w.heap.size):
 ∃v' w',(Builtin.append_ #[t,t] ty #[v,.slice (some ad) m c]).run P w=.ok v' w'/\w'.ownsRow base e size v' (n+m) (xs++news)/\w.grownBy w' v.ownBlock /\
  (v'.ownBlock=v.ownBlock\/∀k,v'.ownBlock=some k->w.heap.size<=k):=by
 obtain⟨i,z,hi,hz,Y1,Yb,Y4⟩:=T.info
 rcases hown.2 with⟨rfl,hn⟩|⟨g,cap,cur,rfl,hb,YD,hcap,hmax,hsz,Zv⟩
 ·subst hn;have hx:xs=[]:=oEN (by simpa using hown.1);subst hx;obtain⟨v',w',hr,ZV,hg,_⟩:=run_append_own (P:=P) w w.heap.size t ty e i z size bytes T.under hi hz Y1 Yb Y4 T.pos (.slice none 0 0) 0 [] ⟨by simp,.inl ⟨rfl,rfl⟩⟩ ad m c news hl Zn h1 T1 YN (Nat.le_refl _);refine⟨v',w',hr,?_,hg,.inr λk hk=>(ZV.lt k hk).1⟩;refine⟨ZV.1,?_⟩;rcases ZV.2 with h|⟨g,cap,cur,e1,e2,e3⟩
  ·exact .inl h
  ·exact .inr ⟨g,cap,cur,e1,Nat.le_trans Zm e2,e3⟩
 ·rcases Nat.lt_or_ge cap (n+m)with hlt|hge
  ·have hc:=@World.ownsRow.cells w base e size _ n xs hown;obtain⟨v',w',hr,ZV,hg⟩:=run_append_arg_grows (P:=P) w t ty e i z size bytes T.under hi hz Y1 Yb Y4 T.pos ⟨g,0,none⟩ n cap xs hown.1 (hc rfl) ad m c news hl Zn hlt T1 YN;refine⟨v',w',hr,⟨ZV.1,?_⟩,mr hg,.inr λk hk=>(ZV.lt k hk).1⟩;rcases ZV.2 with h|⟨g,cap,cur,e1,e2,e3⟩
   ·exact .inl h
   ·exact .inr ⟨g,cap,cur,e1,Nat.le_trans Zm e2,e3⟩
  ·obtain⟨w',hr,ZV,hg⟩:=run_append_own_spare (P:=P) w base t ty e i size T.under hi Y1 g n cap xs hown ad m c news hl Zn h1 hge;exact⟨_,w',hr,ZV,hg,.inl rfl⟩
end
section
variable {P:Program} {ops:Array Oper} {rest:List Oper} {o:Oper} {a:Act} {Q:Exit->Act->World->Prop} {w:World} {t e:TypeId} {size bytes:Nat} {α:Type} {R:Rp α}
theorem mQ(XQ:o.guard=none)(s x:Operand)(T:SlT P t e size bytes)(ho:o.op=.call { callee:=.builtin .append,args:=#[s,x],argTypes:=#[t,t] })
 (base:Nat)(v:Value)(n:Nat)(xs:List Value)(hs:a.eval s=v)(hown:w.ownsRow base e size v n xs)
 (ad:Addr)(m c:Nat)(news:List Value)(hx:a.eval x=.slice (some ad) m c)(hl:news.length=m*size)(Zn:∀(j:Nat) u,news[j]?=some u->w.cell? (ad.add j)=some u)(h1:∀u∈news,u.oneCell'=true)
 (T1:n+m<=maxLen)(YN:(n+m)*bytes<=140737488355328)(Zm:base<=w.heap.size)
 (h:∀v' w',w'.ownsRow base e size v' (n+m) (xs++news)->w.grownBy w' v.ownBlock->(v'.ownBlock=v.ownBlock\/∀k,v'.ownBlock=some k->w.heap.size<=k)->wpList P ops Q rest (a.put o.dst v') w'):wpList P ops Q (o::rest) a w:=by
 refine wpList_plain XQ λK hK=>?_;obtain⟨v',w',hrun,h2,h3,h4⟩:=qn (P:=P) (w:=w) T o.type base v n xs hown ad m c news hl Zn h1 T1 YN Zm;unfold Oper.wp;simp[execOp,ho,resolve,invoke,builtin,hs,hx,hrun,Result.andThen];exact hK _ _ (h v' w' h2 h3 h4)
theorem BO{n:Nat}(h:n<=2199023255552):n<=maxLen:=by simp only[maxLen];omega
theorem Es{n b:Nat}(h:n<=1099511627776)(hb:b<=128):n*b<=140737488355328:=Nat.le_trans (Nat.mul_le_mul h hb) (by decide)
theorem lp(XQ:o.guard=none)(s x:Operand)(T:SlT P t e R.size bytes)(Yb:bytes<=128)(ho:o.op=.call { callee:=.builtin .append,args:=#[s,x],argTypes:=#[t,t] })
 (base:Nat)(G:Nat->Prop)(v:Value)(xs:List α)(hs:a.eval s=v)(hown:Mk R e base w G v xs)(Zm:base<=w.heap.size)
 (u:Value)(ys:List α)(hx:a.eval x=u)(Yn:RSl R w (λk=>G k/\some k≠v.ownBlock) ys u)(hnil:∀c,u=.slice none 0 c->c=0)(hlen:xs.length+ys.length<=1099511627776)
 (h:∀v' w',Mk R e base w' G v' (xs++ys)->w.grownBy w' v.ownBlock->wpList P ops Q rest (a.put o.dst v') w'):wpList P ops Q (o::rest) a w:=by
 obtain⟨cs,h1,h2,h3⟩:=hown;obtain⟨i,z,hi,hz,Y1,hb,Y4⟩:=T.info;obtain⟨A,c,ds,rfl,g1,g2,g3,g4,g5,g6⟩:=Yn
 cases A with
 |none=>
  have hy:ys=[]:=by
   have hl:=g6.len;by_cases hy:ys=[]
   ·exact hy
   ·have hp:0<ys.length*R.size:=Nat.mul_pos (List.length_pos_iff.2 hy) R.pos;obtain⟨_,_,e,_⟩:=g5 0 (by omega);simp at e
  subst hy;have hc:=g4 rfl;subst hc;refine wpList_append_own_none XQ s x t ho base e i R.size T.under hi v xs.length cs hs h1 hx ?_;refine h v w ⟨cs,by simpa using h1,by simpa using h2,by simpa using h3⟩ (bf _ _)
 |some ad=>
  have hcell:∀(j:Nat) u,ds[j]?=some u->w.cell? (ad.add j)=some u:=λj u hu=>by
   obtain⟨h9,ZJ⟩:=oGS hu;obtain⟨b',Vt,e,_,hc⟩:=g5 _ h9
   injection e with e;subst e
   rw[show(⟨b',Vt,none⟩:Addr).add j=⟨b',Vt+j,none⟩ by simp[Addr.add],hc,ZJ]
  refine mQ XQ s x T ho base v xs.length cs hs h1 ad ys.length c ds hx g6.len hcell g6.one (BO (by omega)) (Es hlen Yb) Zm ?_;intro v' w' ZV hg Uj;refine h v' w' ⟨cs++ds,by rw[List.length_append];exact ZV,by simpa using hlen,?_⟩ hg;have ZO:=(eE.append h3 g6).live;refine(eE.keep (w':=w') (λk hk=>hg.block k hk.2 hk.1.2) ZO).sub λk hk=>⟨hk.1.1,?_⟩;rcases Uj with e|Uj
  ·rw[e];exact hk.1.2
  ·intro e;have:=Uj k e.symm;omega
theorem RSl.one{w:World}{F:Nat->Prop}{x:α}{cs:List Value}{b:Nat}(h:R.rep w F x cs)(hF:F b)(hc:∀(j:Nat) u,cs[j]?=some u->w.cell? ⟨b,j,none⟩=some u):RSl R w F [x] (.slice (some ⟨b,0,none⟩) 1 1):=
 ⟨some ⟨b,0,none⟩,1,cs,rfl,Nat.le_refl _,by omega,by simp,by simp,λi hi=>⟨b,0,rfl,hF,by rw[Nat.zero_add];exact hc i _ (oGE hi)⟩,eE.single h⟩
end
theorem gQ{a b c:World}{row:Option Nat}(h:a.grownBy b none)(h':b.grownBy c row)(hr:∀k,row=some k->a.heap.size<=k):a.grownBy c none:=
 ⟨h'.os.trans h.os,h'.tape.trans h.tape,h'.output.trans h.output,Nat.le_trans h.size h'.size,λk hk _=>(h'.block k (Nat.lt_of_lt_of_le hk h.size) (λe=>by have:=hr k e.symm;omega)).trans (h.block k hk (by simp))⟩
theorem MkO.row{α:Type}{R:Rp α}{e:TypeId}{base:Nat}{w:World}{fp:List Nat}{v:Value}{xs:List α}(h:MkO R e base w fp v xs):∀k,v.ownBlock=some k->base<=k/\k<w.heap.size:=
 let ⟨_,h1,_⟩:=h;h1.lt
theorem Mk.row{α:Type}{R:Rp α}{e:TypeId}{base:Nat}{w:World}{G:Nat->Prop}{v:Value}{xs:List α}(h:Mk R e base w G v xs):∀k,v.ownBlock=some k->base<=k/\k<w.heap.size:=
 let ⟨_,h1,_⟩:=h;h1.lt
theorem MkO.live{α:Type}{R:Rp α}{e:TypeId}{base:Nat}{w:World}{fp:List Nat}{v:Value}{xs:List α}(h:MkO R e base w fp v xs):∀k,k∈fp->k<w.heap.size:=
 let ⟨_,_,_,h3,_⟩:=h;h3.live
theorem MkO.above{α:Type}{R:Rp α}{e:TypeId}{base:Nat}{w w':World}{fp:List Nat}{v:Value}{xs:List α}(h:MkO R e base w fp v xs)(hk:∀k,base<=k->k<w.heap.size->w'.heap[k]?=w.heap[k]?):MkO R e base w' fp v xs:=by
 obtain⟨cs,h1,h2,h3,h4,h5⟩:=h;refine⟨cs,⟨h1.1,?_⟩,h2,h3.keep λk YQ=>hk k (h5 k YQ).1 (h3.live k YQ),h4,h5⟩;rcases h1.2 with h|⟨g,cap,cur,e1,hb,YD,h⟩
 ·exact .inl h
 ·exact .inr ⟨g,cap,cur,e1,hb,by rw[hk g hb (Array.getElem?_eq_some_iff.1 YD).1];exact YD,h⟩
theorem jF.setmid{e:TypeId}{w:World}{q n:Nat}{c1 d:List Value}(h:jF e w q n (c1++d)){j:Nat}(hj:j<d.length)(v:Value):jF e (w.setCell ⟨q,c1.length+j,none⟩ v) q n (c1++d.set j v):=by
 have:=h.set (j:=c1.length+j) v (by rw[List.length_append];omega)
 rwa [List.set_append_right _ _ (by omega),show c1.length+j-c1.length=j by omega]at this
theorem xy(w:World)(p:Addr)(v:Value):(w.setCell p v).heap.size=w.heap.size:=by simp[World.setCell]
theorem vE(w:World)(cur:Array Value)(cap:Nat)(xs:List Value){base e size:Nat}(hb:base<=w.heap.size)(hx:cur.toList=xs)(hs:cur.size=cap*size)(hm:cap<=maxLen):
 (w.alloc (.cells cur e)).ownsRow base e size (.slice (some ⟨w.heap.size,0,none⟩) cap cap) cap xs:=by
 subst hx;exact⟨by simpa using hs,.inr ⟨w.heap.size,cap,cur,rfl,hb,heap_alloc_new w _,Nat.le_refl _,hm,hs,by rw[<- hs,<- Array.length_toList,List.take_length]⟩⟩
section
variable {P:Program} {w:World} {t e:TypeId} {bytes:Nat} {α:Type} {R:Rp α}
end
def Rp.flat{α:Type}(R:Rp α):Prop:=∀{w F a cs},R.rep w F a cs->∀w',R.own w' [] a cs
theorem pI{α β:Type}{R:Rp α}{S:Rp β}(h:R.flat)(h':S.flat):(ly R S).flat:=λ⟨c,d,e,h1,h2⟩ w'=>⟨c,d,[],[],e,rfl,h h1 w',h' h2 w'⟩
theorem eE.flat{α:Type}{R:Rp α}(hR:R.flat){w:World}{F:Nat->Prop}(w':World):∀{xs:List α}{cs:List Value},eE R w F xs cs->gY R w' [] xs cs
 | [],_,h=>⟨h,rfl⟩
 |x::r,_,⟨c,d,e,h1,h2⟩=>⟨c,d,[],[],e,rfl,hR h1 w',eE.flat hR w' h2⟩
theorem Mk.own{α:Type}{R:Rp α}(hR:R.flat){e:TypeId}{base:Nat}{w:World}{G:Nat->Prop}{v:Value}{xs:List α}(h:Mk R e base w G v xs):MkO R e base w [] v xs:=
 let ⟨cs,h1,h2,h3⟩:=h;⟨cs,h1,h2,h3.flat hR w,List.nodup_nil,by simp⟩
def kU(w:World)(F:Nat->Prop):List TV->List Value->Prop
 | [],vs=>vs=[]
 |t::ts,vs=>∃v r,vs=v::r/\eO w F t v/\kU w F ts r
theorem kU.len{w:World}{F:Nat->Prop}:∀{ts:List TV}{vs:List Value},kU w F ts vs->vs.length=ts.length
 | [],_,h=>by rw[show _=[]from h];rfl
 |_::_,_,⟨v,r,e,_,h⟩=>by rw[e,oLC,kU.len h,oLC]
theorem kU.app{w:World}{F:Nat->Prop}:∀{ts us:List TV}{vs xs:List Value},kU w F ts vs->kU w F us xs->kU w F (ts++us) (vs++xs)
 | [],_,_,_,h,h'=>by rw[show _=[]from h];exact h'
 |_::_,_,_,_,⟨v,r,e,h1,h2⟩,h'=>⟨v,_,by rw[e];rfl,h1,kU.app h2 h'⟩
theorem kU.split{w:World}{F:Nat->Prop}:∀{ts us:List TV}{vs:List Value},kU w F (ts++us) vs->∃a b,vs=a++b/\kU w F ts a/\kU w F us b
 | [],_,vs,h=>⟨[],vs,rfl,rfl,h⟩
 |_::_,_,_,⟨v,r,e,h1,h2⟩=>by
  obtain⟨a,b,rfl,h3,h4⟩:=kU.split h2;exact⟨v::a,b,by rw[e];rfl,⟨v,a,rfl,h1,h3⟩,h4⟩
theorem kU.get{w:World}{F:Nat->Prop}:∀{ts:List TV}{vs:List Value},kU w F ts vs->∀j (h:j<ts.length),eO w F ts[j] (vs.getD j undef)
 |_::_,_,⟨v,r,e,h1,_⟩,0,_=>by rw[e];exact h1
 |_::ts,_,⟨v,r,e,_,h2⟩,j+1,h=>by rw[e];exact kU.get h2 j (by simpa using h)
theorem kU.of{w:World}{F:Nat->Prop}:∀{ts:List TV}{vs:List Value},ts.length=vs.length->(∀j (h:j<ts.length),eO w F ts[j] (vs.getD j undef))->kU w F ts vs
 | [],[],_,_=>rfl
 |t::ts,v::vs,hl,h=>⟨v,vs,rfl,h 0 (by simp),kU.of (by simpa using hl) λj hj=>by have:=h (j+1) (by simpa using hj);simpa using this⟩
 | [],_::_,hl,_=>by simp at hl
 |_::_,[],hl,_=>by simp at hl
theorem kU.frame{w w':World}{F F':Nat->Prop}(hw:∀k,F k->k<w.heap.size->w'.heap[k]?=w.heap[k]?)(hF:∀k,F k->k<w.heap.size->F' k):∀{ts:List TV}{vs:List Value},kU w F ts vs->kU w' F' ts vs
 | [],_,h=>h
 |_::_,_,⟨v,r,e,h1,h2⟩=>⟨v,r,e,h1.frame hw hF,kU.frame hw hF h2⟩
def rI(k:IntKind):Rp Int where
 size:=1
 rep _ _ a cs:=cs=[.int k a]
 own _ fp a cs:=fp=[]/\cs=[.int k a]
 pos:=by decide
 len:=λh=>by rw[h];rfl
 one:=λh=>by rw[h];simp[Value.oneCell']
 keep:=λh _=>h
 sub:=λh _=>h
 live:=λh=>h
 okeep:=λh _=>h
 olive:=λh k hk=>by rw[h.1]at hk;simp at hk
 reads:=λh=>h.2
theorem xW(k:IntKind):(rI k).flat:=λh _=>⟨rfl,h⟩
structure RIm {α:Type}(R:Rp α)(e:α->List TV)(Bd:α->Prop):Prop where
 toI:∀{w:World}{F:Nat->Prop}{a:α}{cs:List Value},R.rep w F a cs->kU w F (e a) cs
 of:∀{w:World}{F:Nat->Prop}{a:α}{cs:List Value},kU w F (e a) cs->Bd a->R.rep w F a cs
 len:∀a,(e a).length=R.size
theorem m6(k:IntKind):RIm (rI k) (λa=>[.v (.int k a)]) λ_=>True:=
 ⟨λh=>⟨_,[],h,.v rfl,rfl⟩,λ⟨v,r,e,h1,h2⟩ _=>by
  have h2:r=[]:=h2;subst h2;cases h1
  exact e,λ_=>rfl⟩
theorem dX{α β:Type}{R:Rp α}{S:Rp β}{e:α->List TV}{f:β->List TV}{A:α->Prop}{B:β->Prop}(h:RIm R e A)(h':RIm S f B):RIm (ly R S) (λp=>e p.1++f p.2) λp=>A p.1/\B p.2:=
 ⟨λ⟨c,d,e1,h1,h2⟩=>by rw[e1];exact(h.toI h1).app (h'.toI h2),λh1 hb=>by
  obtain⟨a,b,rfl,h2,h3⟩:=h1.split
  exact⟨a,b,rfl,h.of h2 hb.1,h'.of h3 hb.2⟩,λp=>by rw[List.length_append,h.len,h'.len];rfl⟩
theorem B6{α:Type}{R:Rp α}{e:α->List TV}{A:α->Prop}(h:RIm R e A){w:World}{F:Nat->Prop}:∀{xs:List α}{cs:List Value},kU w F (xs.map e).flatten cs->(∀x∈xs,A x)->eE R w F xs cs
 | [],_,h,_=>h
 |_::_,_,h1,hA=>by
  obtain⟨a,b,rfl,h2,h3⟩:=kU.split (by simpa using h1);exact⟨a,b,rfl,h.of h2 (hA _ (by simp)),B6 h (by simpa using h3) λx hx=>hA x (by simp[hx])⟩
theorem rp{α:Type}{R:Rp α}{e:α->List TV}{A:α->Prop}(h:RIm R e A){w:World}{F:Nat->Prop}{xs:List α}{v:Value}(hs:RSl R w F xs v):eO w F (.sl (xs.map e)) v:=by
 obtain⟨a,c,cs,rfl,h1,h2,h3,h4,h5,h6⟩:=hs;have hl:=h6.len
 have ZT:eO w F (.sl (xs.map e)) (.slice a (xs.map e).length c):=by
  refine .sl R.size (λi j=>cs.getD (i*R.size+j) undef) (λi hi=>by simp[h.len]) (by simpa using h1) (by unfold maxLen;exact h2) h4 (λi j hi hj=>?_) (λi j hi hj=>?_)
  ·have ZN:i<xs.length:=by simpa using hi
   have hlt:i*R.size+j<cs.length:=by
    rw[hl]
    calc i*R.size+j<i*R.size+R.size:=by omega
     _=(i+1)*R.size:=by rw[Nat.succ_mul]
     _<=xs.length*R.size:=Nat.mul_le_mul_right _ ZN
   obtain⟨b,off,e1,hF,hc⟩:=h5 _ hlt;exact⟨b,off,e1,hF,by rw[hc];simp[oGD,hlt]⟩
  ·have ZN:i<xs.length:=by simpa using hi
   obtain⟨d,hd,XT⟩:=h6.at_ ZN;have hrel:=h.toI hd
   have ZX:j<(e xs[i]).length:=by simpa using hj
   have hg:=hrel.get j ZX;have Sg:=R.len hd
   have OU:j<d.length:=by rw[Sg,<- h.len xs[i]];exact ZX
   have e2:=XT j d[j] (oGE OU)
   have e3:cs.getD (i*R.size+j) undef=d.getD j undef:=by
    rw[oGD,oGD,e2,oGE OU]
   rw[e3];simpa using hg
 simpa using ZT
theorem B5{α:Type}{R:Rp α}{e:α->List TV}{A:α->Prop}(h:RIm R e A){w:World}{F:Nat->Prop}{xs:List α}{v:Value}(hs:eO w F (.sl (xs.map e)) v)(hx:∀x∈xs,A x)(hm:xs.length<=1099511627776):RSl R w F xs v:=by
 generalize hc:xs.map e=c at hs
 cases hs with
 | @sl _ a cap sz u hsz hcap hmax hnil hcell hrec=>
  have hl:c.length=xs.length:=by rw[<- hc];simp
  by_cases h0:xs=[]
  ·subst h0
   have:c=[]:=by rw[<- hc];rfl
   subst this;exact⟨a,cap,[],rfl,Nat.zero_le _,by simpa[maxLen]using hmax,by simp,hnil,λi hi=>by simp at hi,rfl⟩
  ·have Z1:0<xs.length:=List.length_pos_iff.2 h0
   have hz:sz=R.size:=by
    rw[<- hsz 0 (by omega)];simp[<- hc,h.len]
   subst hz;obtain⟨cs,WG⟩:∃cs:List Value,cs=((List.range xs.length).map λi=>(List.range R.size).map (u i)).flatten:=⟨_,rfl⟩
   have ZI:∀n,n<=xs.length->kU w F (((xs.drop n).map e).flatten) (((List.range' n (xs.length-n)).map λi=>(List.range R.size).map (u i)).flatten):=by
    intro n
    induction hk:xs.length-n generalizing n with
    |zero=>
     intro hn;rw[List.drop_of_length_le (by omega)];rfl
    |succ k ih=>
     intro hn
     have hlt:n<xs.length:=by omega
     rw[List.drop_eq_getElem_cons hlt,List.range'_succ];simp only[List.map_cons,List.flatten_cons];refine kU.app (kU.of (by simp[h.len]) λj hj=>?_) (ih (n+1) (by omega) (by omega))
     have XT:j<R.size:=by rw[<- h.len xs[n]];exact hj
     have M6:n<c.length:=by omega
     have e1:c[n]=e xs[n]:=by simp[<- hc]
     have:=hrec n j M6 (by rw[e1];exact hj)
     have e2:(c[n])[j]'(by rw[e1];exact hj)=(e xs[n])[j]:=by simp[e1]
     rw[e2]at this;simpa[oGD,XT]using this
   have hR:eE R w F xs cs:=by
    have:=ZI 0 (Nat.zero_le _);rw[List.drop_zero,Nat.sub_zero,<- List.range_eq_range',<- WG]at this;exact B6 h this hx
   rw[hl];refine⟨a,cap,cs,rfl,by rw[<- hl];exact hcap,by simpa[maxLen]using hmax,hm,hnil,λk hk=>?_,hR⟩;have hcl:=hR.len
   have Y9:k/R.size<xs.length:=by
    rw[Nat.div_lt_iff_lt_mul R.pos];omega
   have hk2:k%R.size<R.size:=Nat.mod_lt _ R.pos
   have e0:k/R.size*R.size+k%R.size=k:=by rw[Nat.mul_comm];exact Nat.div_add_mod _ _
   obtain⟨b,o,e1,hF,hcc⟩:=hcell (k/R.size) (k%R.size) (by omega) hk2;refine⟨b,o,e1,hF,?_⟩;rw[e0]at hcc;rw[hcc];have h2:=gS (c:=(List.range xs.length).map λi=>(List.range R.size).map (u i)) (sz:=R.size) (λi h=>by simp) (i:=k/R.size) (j:=k%R.size) (by simpa using Y9) (by simpa using hk2);rw[e0,<- WG,oGE hk]at h2
   injection h2 with h2
   rw[h2];simp
theorem DD{α:Type}{R:Rp α}{e:α->List TV}{A:α->Prop}(t:TypeId)(h:RIm R e A):RIm (Hu t R) (λxs=>[.sl (xs.map e)]) λxs=>xs.length<=1099511627776/\∀x∈xs,A x:=
 ⟨λ⟨v,e1,h1⟩=>by rw[e1];exact⟨v,[],rfl,rp h h1,rfl⟩,λ⟨v,r,e1,h1,h2⟩ hb=>by
  have h2:r=[]:=h2;subst h2
  exact⟨v,e1,B5 h h1 hb.2 hb.1⟩,λ_=>rfl⟩
def Bk(w:World)(q t:Nat)(vs:List Value):Prop:=w.heap[q]?=some (.cells vs.toArray t (0,0))
theorem Bk.hi{w:World}{q t:Nat}{vs:List Value}(h:Bk w q t vs):q<w.heap.size:=(Array.getElem?_eq_some_iff.1 h).1
theorem Bk.keep{w w':World}{q t:Nat}{vs:List Value}(h:Bk w q t vs)(hh:w'.heap[q]?=w.heap[q]?):Bk w' q t vs:=hh.trans h
theorem Bk.grow{w w':World}{q t:Nat}{vs:List Value}(h:Bk w q t vs)(hg:w.grownBy w' none):Bk w' q t vs:=h.keep (hg.block _ h.hi (by simp))
theorem Bk.cell{w:World}{q t:Nat}{vs:List Value}(h:Bk w q t vs)(j:Nat):w.cell? ⟨q,j,none⟩=vs[j]?:=by
 rw[cell_of_row _ _ _ _ _ _ h];simp
theorem Bk.free{w:World}{q t:Nat}{vs:List Value}(h:Bk w q t vs)(j:Nat):w.frozen? ⟨q,j,none⟩=false:=frozen_of_row _ _ _ _ _ h
theorem Bk.new{w:World}{t:Nat}{vs:List Value}:Bk (w.alloc (.cells vs.toArray t)) w.heap.size t vs:=heap_alloc_new w _
theorem Bk.set{w:World}{q t:Nat}{vs:List Value}(h:Bk w q t vs)(j:Nat)(v:Value):Bk (w.setCell ⟨q,j,none⟩ v) q t (vs.set j v):=by
 unfold Bk;rw[heap_setCell_same _ _ _ _ _ _ h];simp
theorem Bk.other{w:World}{q t q' j:Nat}{vs:List Value}(h:Bk w q t vs)(hne:q≠q')(v:Value):Bk (w.setCell ⟨q',j,none⟩ v) q t vs:=by
 unfold Bk;rw[heap_setCell_other _ _ _ _ hne];exact h
theorem Bk.drew{w:World}{q t:Nat}{vs:List Value}(h:Bk w q t vs):Bk w.drew q t vs:=h
abbrev Cn4:=Int×Int×Int×Int
abbrev Vw8:=Int×Int×Int×Int×Int×Int×Int×List Cn4
abbrev Ff:=Int×Int×List Cn4×Vw8
abbrev cCn:CT:=.pair (.int .u8) (.pair (.int .u16) (.pair (.int .i64) (.int .i64)))
abbrev cCs:CT:=.row false cCn
abbrev cVw:CT:=.pair (.int .i64) (.pair (.int .i64) (.pair (.int .i64) (.pair (.int .i64) (.pair (.int .i64) (.pair (.int .i64) (.pair (.int .u16) cCs))))))
abbrev cPg:CT:=.pair (.int .i64) (.pair (.int .i64) (.pair cCs cVw))
def rCn:Rp Cn4:=ly (rI .u8) (ly (rI .u16) (ly (rI .i64) (rI .i64)))
def rCs:Rp (List Cn4):=Hu 63 rCn
def rVw:Rp Vw8:=ly (rI .i64) (ly (rI .i64) (ly (rI .i64) (ly (rI .i64) (ly (rI .i64) (ly (rI .i64) (ly (rI .u16) rCs))))))
def rPg:Rp Ff:=ly (rI .i64) (ly (rI .i64) (ly rCs rVw))
def GN{α:Type}(l:List α):Prop:=l.length<=1099511627776
def VwB(v:Vw8):Prop:=GN v.2.2.2.2.2.2.2
def PgB(p:Ff):Prop:=GN p.2.2.1/\VwB p.2.2.2
theorem wo:rCn.flat:=pI (xW _) (pI (xW _) (pI (xW _) (xW _)))
theorem RIm.weak{α:Type}{R:Rp α}{e e':α->List TV}{A B:α->Prop}(h:RIm R e A)(he:∀a,e' a=e a)(hB:∀a,B a->A a):RIm R e' B:=by
 have:e'=e:=funext he;subst this;exact⟨h.toI,λh1 hb=>h.of h1 (hB _ hb),h.len⟩
theorem ES:RIm rCn (enc cCn) λ_=>True:=(dX (m6 _) (dX (m6 _) (dX (m6 _) (m6 _)))).weak (λ_=>rfl) λ_ _=>⟨trivial,trivial,trivial,trivial⟩
theorem tU:RIm rCs (enc cCs) GN:=(DD 63 ES).weak (λ_=>rfl) λ_ h=>⟨h,λ_ _=>trivial⟩
theorem xz:RIm rVw (enc cVw) VwB:=(dX (m6 _) (dX (m6 _) (dX (m6 _) (dX (m6 _) (dX (m6 _) (dX (m6 _) (dX (m6 _) tU))))))).weak (λ_=>rfl) λ_ h=>⟨trivial,trivial,trivial,trivial,trivial,trivial,trivial,h⟩
theorem Ht:RIm rPg (enc cPg) PgB:=(dX (m6 _) (dX (m6 _) (dX tU xz))).weak (λ_=>rfl) λ_ h=>⟨trivial,trivial,h.1,h.2⟩
theorem Jd:SlT Tryz.prog 59 63 rCn.size 24:=
 ⟨by kernel_rfl,by
  have h:(Tryz.prog.info? 63).map (λi=>(i.zero,i.size,i.bytes))=some (some (.agg #[.int .u8 0,.int .u16 0,.int .i64 0,.int .i64 0]),4,24):=by kernel_rfl
  obtain⟨i,hi,hz,hs,hb⟩:=info_parts h
  exact⟨i,_,hi,hz,hs,hb,rfl⟩,rCn.pos⟩
theorem Jc:SlT Tryz.prog 26 59 rCs.size 24:=
 ⟨by kernel_rfl,by
  have h:(Tryz.prog.info? 59).map (λi=>(i.zero,i.size,i.bytes))=some (some (.slice none 0 0),1,24):=by kernel_rfl
  obtain⟨i,hi,hz,hs,hb⟩:=info_parts h
  exact⟨i,_,hi,hz,hs,hb,rfl⟩,rCs.pos⟩
theorem Jb:SlT Tryz.prog 27 73 rVw.size 80:=
 ⟨by kernel_rfl,by
  have h:(Tryz.prog.info? 73).map (λi=>(i.zero,i.size,i.bytes))=some (some (.agg #[.int .i64 0,.int .i64 0,.int .i64 0,.int .i64 0,.int .i64 0,.int .i64 0,.int .u16 0,.slice none 0 0]),8,80):=by kernel_rfl
  obtain⟨i,hi,hz,hs,hb⟩:=info_parts h
  exact⟨i,_,hi,hz,hs,hb,rfl⟩,rVw.pos⟩
def tB{α:Type}(R:Rp α)(e:TypeId)(F:Nat->Prop)(xs:List α)(w:World)(r:Ending)(w':World):Prop:=
 ∃v,r=.returned v/\Mk R e w.heap.size w' F v xs/\w.grownBy w' none
set_option maxHeartbeats 1000000 in
theorem pY(F:Nat->Prop)(xs:List Cn4)(v:Value)(w:World)(h:RSl rCn w F xs v):
 Calls Tryz.prog 66 #[v] w (tB rCn 63 F xs w):=by
 have H:=Lib.hid h;obtain⟨A,c,cs,rfl,h1,h2,h3,h4,h5,h6⟩:=h
 cases A with
 |none=>
  have hx:xs=[]:=by
   by_cases hx:xs=[]
   ·exact hx
   ·obtain⟨b,off,c',Ro,e,_⟩:=H.out.at_ (List.length_pos_iff.2 hx);cases e
  subst hx;have hc:=h4 rfl;subst hc;clear h4 h5 h6 h1 h2 h3;have hq:=λ(w:World)=>Lib.run_eql_slice_nil (P:=Tryz.prog) w 59 63 none 0 0 0 0 (by kernel_rfl)
  go_enter Tryz.func66,Tryz.ntmps66
  go_wp2_with fail
  go_ret
  exact⟨_,rfl,Mk.nil _ _ _ _ _,bf _ _⟩
 |some ad=>
  clear h4 h5 h6 h1 h2;have hq:=λ(w:World)=>Lib.run_eql_slice_nil (P:=Tryz.prog) w 59 63 (some ad) xs.length c 0 0 (by kernel_rfl)
  go_enter Tryz.func66,Tryz.ntmps66
  go_wp2_with (at_builtin;go_loud (refine lp (R:=rCn) rfl _ _ Jd (by decide) rfl w.heap.size F (.slice (some ⟨w.heap.size,0,none⟩) 0 0) [] rfl ?c1 ?c2 (.slice (some ad) xs.length c) xs rfl ?c3 ?c4 ?c5 ?_))
  case c1=>exact⟨[],vE w #[] 0 [] (Nat.le_refl _) rfl (by simp) (by decide),by simp,rfl⟩
  case c2=>simp
  case c3=>exact(H.out.live.keep (w':=w.alloc (.cells #[] 63)) λk hk=>heap_alloc_old _ _ hk.2).sub λk hk=>⟨hk.1,λe=>by injection e with e;have:=hk.2;exact absurd e (by show ¬ _=w.heap.size;omega)⟩
  case c4=>intro c' e;cases e
  case c5=>simpa using h3
  intro v' w' Wh hg;have HM:=Lib.hid Wh;have HG:=Lib.hid hg;clear Wh hg
  go_wp2_with fail
  go_ret
  exact⟨_,rfl,HM.out,gQ (be (bf w none) _) HG.out λk e=>by injection e with e;rw[<- e];exact Nat.le_refl _⟩
set_option maxHeartbeats 1000000 in
theorem wM(F:Nat->Prop)(xs:List (List Cn4))(v:Value)(w:World)(h:RSl rCs w F xs v):
 Calls Tryz.prog 64 #[v] w (tB rCs 59 F xs w):=by
 have H:=Lib.hid h;obtain⟨A,c,cs,rfl,h1,h2,h3,h4,h5,h6⟩:=h
 cases A with
 |none=>
  have hx:xs=[]:=by
   by_cases hx:xs=[]
   ·exact hx
   ·obtain⟨b,off,c',Ro,e,_⟩:=H.out.at_ (List.length_pos_iff.2 hx);cases e
  subst hx;have hc:=h4 rfl;subst hc;clear h4 h5 h6 h1 h2 h3;have hq:=λ(w:World)=>Lib.run_eql_slice_nil (P:=Tryz.prog) w 26 59 none 0 0 0 0 (by kernel_rfl)
  go_enter Tryz.func64,Tryz.ntmps64
  go_wp2_with fail
  go_ret
  exact⟨_,rfl,Mk.nil _ _ _ _ _,bf _ _⟩
 |some ad=>
  clear h4 h5 h6 h1 h2;have hq:=λ(w:World)=>Lib.run_eql_slice_nil (P:=Tryz.prog) w 26 59 (some ad) xs.length c 0 0 (by kernel_rfl)
  go_enter Tryz.func64,Tryz.ntmps64
  go_wp2_with (at_builtin;go_loud (refine lp (R:=rCs) rfl _ _ Jc (by decide) rfl w.heap.size F (.slice (some ⟨w.heap.size,0,none⟩) 0 0) [] rfl ?c1 ?c2 (.slice (some ad) xs.length c) xs rfl ?c3 ?c4 ?c5 ?_))
  case c1=>exact⟨[],vE w #[] 0 [] (Nat.le_refl _) rfl (by simp) (by decide),by simp,rfl⟩
  case c2=>simp
  case c3=>exact(H.out.live.keep (w':=w.alloc (.cells #[] 59)) λk hk=>heap_alloc_old _ _ hk.2).sub λk hk=>⟨hk.1,λe=>by injection e with e;have:=hk.2;exact absurd e (by show ¬ _=w.heap.size;omega)⟩
  case c4=>intro c' e;cases e
  case c5=>simpa using h3
  intro v' w' Wh hg;have HM:=Lib.hid Wh;have HG:=Lib.hid hg;clear Wh hg
  go_wp2_with fail
  go_ret
  exact⟨_,rfl,HM.out,gQ (be (bf w none) _) HG.out λk e=>by injection e with e;rw[<- e];exact Nat.le_refl _⟩
set_option maxHeartbeats 1000000 in
theorem wL(F:Nat->Prop)(xs:List Vw8)(v:Value)(w:World)(h:RSl rVw w F xs v):
 Calls Tryz.prog 65 #[v] w (tB rVw 73 F xs w):=by
 have H:=Lib.hid h;obtain⟨A,c,cs,rfl,h1,h2,h3,h4,h5,h6⟩:=h
 cases A with
 |none=>
  have hx:xs=[]:=by
   by_cases hx:xs=[]
   ·exact hx
   ·obtain⟨b,off,c',Ro,e,_⟩:=H.out.at_ (List.length_pos_iff.2 hx);cases e
  subst hx;have hc:=h4 rfl;subst hc;clear h4 h5 h6 h1 h2 h3;have hq:=λ(w:World)=>Lib.run_eql_slice_nil (P:=Tryz.prog) w 27 73 none 0 0 0 0 (by kernel_rfl)
  go_enter Tryz.func65,Tryz.ntmps65
  go_wp2_with fail
  go_ret
  exact⟨_,rfl,Mk.nil _ _ _ _ _,bf _ _⟩
 |some ad=>
  clear h4 h5 h6 h1 h2;have hq:=λ(w:World)=>Lib.run_eql_slice_nil (P:=Tryz.prog) w 27 73 (some ad) xs.length c 0 0 (by kernel_rfl)
  go_enter Tryz.func65,Tryz.ntmps65
  go_wp2_with (at_builtin;go_loud (refine lp (R:=rVw) rfl _ _ Jb (by decide) rfl w.heap.size F (.slice (some ⟨w.heap.size,0,none⟩) 0 0) [] rfl ?c1 ?c2 (.slice (some ad) xs.length c) xs rfl ?c3 ?c4 ?c5 ?_))
  case c1=>exact⟨[],vE w #[] 0 [] (Nat.le_refl _) rfl (by simp) (by decide),by simp,rfl⟩
  case c2=>simp
  case c3=>exact(H.out.live.keep (w':=w.alloc (.cells #[] 73)) λk hk=>heap_alloc_old _ _ hk.2).sub λk hk=>⟨hk.1,λe=>by injection e with e;have:=hk.2;exact absurd e (by show ¬ _=w.heap.size;omega)⟩
  case c4=>intro c' e;cases e
  case c5=>simpa using h3
  intro v' w' Wh hg;have HM:=Lib.hid Wh;have HG:=Lib.hid hg;clear Wh hg
  go_wp2_with fail
  go_ret
  exact⟨_,rfl,HM.out,gQ (be (bf w none) _) HG.out λk e=>by injection e with e;rw[<- e];exact Nat.le_refl _⟩
def zy(f:Nat->Value):Operand->Value
 |.tmp t=>f t
 |.const v=>v
 |.global g=>.pointer (some ⟨g,0,none⟩)
 |.func f=>.func (.func f) #[] #[]
def vq(f:Nat->Value):Option Tmp->Value
 |some t=>f t
 |none=>undef
def yA(f:Nat->Value)(o:Oper):Value:=
 match o.dst with
 |some t=>f t
 |none=>match o.op with
  |.store _ (.tmp t) _=>f t
  |_=>undef
def pz(f:Nat->Value)(o:Oper)(v:Value):Value:=
 match o.dst with
 |some _=>v
 |none=>yA f o
def ix(o:Oper)(j:Nat):Bool:=o.after.toList.any λe=>e.on==j&&Region.binds .any e
def jt(l:List Oper)(t:Tmp):Option Nat:=l.findIdx? λo=>o.dst==some t
def rR(l:List Oper)(old:Nat->Value)(Ss:List (Value->World->Prop))(o:Oper)(f:Nat->Value)(w:World)(t:Tmp):Prop:=
 match jt l t with
 |none=>f t=old t
 |some j=>if ix o j then(Ss.getD j λ_ _=>False) (f t) w else f t=old t
def qj(l:List Oper)(f:Nat->Value)(o:Oper):Bool:=
 match o.guard with
 |none=>true
 |some (j,b)=>match(l[j]?).bind (·.dst)with
  |some d=>(match f d with|.bool c=>c==b|_=>false)
  |none=>false
def kC(P:Program)(TW:Value->World->Prop):Result Next->Prop
 |.ok (.value v) w'=>TW v w'
 |.ok .skip w'=>TW undef w'
 |.ok (.enter f args) w'=>Calls P f args w' λe Xh=>∃v,e=.returned v/\TW v Xh
 |_=>False
def EF(base:World->Prop)(R:World->World->Prop)(s:Value->World->Prop)(w:World)(v:Value)(w':World):Prop:=base w'/\R w w'/\s v w'
def Ha(P:Program)(l:List Oper)(old:Nat->Value)(base:World->Prop)(R:World->World->Prop)(Ss:List (Value->World->Prop))(o:Oper)(s:Value->World->Prop):Prop:=
 ∀(f:Nat->Value)(w:World),base w->(∀t∈o.looksAt l.toArray,rR l old Ss o f w t)->
  if qj l f o=true then kC P (λv w'=>EF base R s w (pz f o v) w') ((execOp (zy f) o).run P w)else s (pz f o undef) w
def mO(P:Program)(l:List Oper)(old:Nat->Value)(base:World->Prop)(R:World->World->Prop)(Ss:List (Value->World->Prop)):List Oper->List (Value->World->Prop)->Prop
 | [],[]=>True
 |o::r,s::rs=>Ha P l old base R Ss o s/\mO P l old base R Ss r rs
 |_,_=>False
def GO(R:World->World->Prop):List (Value->World->Prop)->Prop
 | []=>True
 |s::r=>(∀w w' u,R w w'->s u w->s u w')/\GO R r
def eL(f:Nat->Value):List Oper->Act->Act
 | [],a=>a
 |o::r,a=>eL f r (a.put o.dst (vq f o.dst))
def G9(f:Nat->Value)(w:World):List Oper->List (Value->World->Prop)->Prop
 |o::r,s::rs=>s (yA f o) w/\G9 f w r rs
 |_,_=>True
def vG(l:List Oper)(n:Nat):Bool:=
 (l.zipIdx.all λ(o,k)=>
  (match o.dst with|some d=>jt l d==some k&&decide (d<n)|none=>true) &&
  (o.after.all λe=>!Region.binds .any e||decide (e.on<k)) &&
  (o.looksAt l.toArray).all λt=>match jt l t with
   |none=>true
   |some j=>ix o j||ix (l.getD j default) k) &&
 (l.all λo=>match o.dst,o.op with
  |none,.store _ (.tmp t) _=>(match jt l t with|none=>true|some j=>ix o j)
  |_,_=>true) &&
 l.all λo=>match o.guard with
  |none=>true
  |some (j,_)=>match(l[j]?).bind (·.dst)with|some d=>(o.looksAt l.toArray).contains d|none=>false
section
variable {P:Program} {l:List Oper} {a0:Act} {base:World->Prop} {R:World->World->Prop} {Ss:List (Value->World->Prop)}
structure JJ (l:List Oper)(a0:Act)(base:World->Prop)(Ss:List (Value->World->Prop))(listed:Array Bool)(a:Act)(w:World):Prop where
 base_:base w
 defers:a.defers=a0.defers
 lsize:listed.size=l.length
 asize:a.tmps.size=a0.tmps.size
 old:∀t,(∀(j:Nat) o,l[j]?=some o->o.dst=some t->listed.getD j true=false)->a.tmps.getD t undef=a0.tmps.getD t undef
 says:∀(j:Nat) o s,l[j]?=some o->Ss[j]?=some s->listed.getD j false=true->s (yA (λt=>a.tmps.getD t undef) o) w
 down:∀(j:Nat) o,l[j]?=some o->listed.getD j false=true->∀e∈o.after,Region.binds .any e=true->listed.getD e.on false=true
theorem EA(a:Act):a.eval=zy λt=>a.tmps.getD t undef:=by funext x;cases x<;>rfl
theorem mO.at_{lo:List Oper}{ls:List (Value->World->Prop)}:∀{o:Oper}{k:Nat},mO P l (λt=>a0.tmps.getD t undef) base R Ss lo ls->lo[k]?=some o->∃s,ls[k]?=some s/\Ha P l (λt=>a0.tmps.getD t undef) base R Ss o s:=by
 induction lo generalizing ls with
 |nil=>intro o k _ h;simp at h
 |cons x r ih=>
  intro o k hd h
  match ls,hd with
  |s::rs,hd=>
   cases k with
   |zero=>simp at h;subst h;exact⟨s,rfl,hd.1⟩
   |succ k=>simpa using ih hd.2 (by simpa using h)
theorem GO.at_:∀{ls:List (Value->World->Prop)}{k:Nat}{s:Value->World->Prop},GO R ls->ls[k]?=some s->∀w w' u,R w w'->s u w->s u w'
 | [],_,_,_,h=>by simp at h
 |x::r,0,s,hk,h=>by simp at h;subst h;exact hk.1
 |x::r,k+1,s,hk,h=>GO.at_ hk.2 (by simpa using h)
theorem vj{t:Tmp}{j:Nat}(h:jt l t=some j):∃o,l[j]?=some o/\o.dst=some t:=by
 unfold jt at h;rw[List.findIdx?_eq_some_iff_getElem]at h;obtain⟨hj,h1,_⟩:=h;exact⟨l[j],oGE hj,by simpa using h1⟩
theorem vk{t:Tmp}(h:jt l t=none):∀(j:Nat) o,l[j]?=some o->o.dst≠some t:=by
 unfold jt at h;rw[List.findIdx?_eq_none_iff]at h;intro j o hj e;have:=h o (List.mem_of_getElem? hj);simp[e]at this
theorem kD{n:Nat}(h:vG l n=true){k:Nat}{o:Oper}(hk:l[k]?=some o):
 (∀d,o.dst=some d->jt l d=some k/\d<n)/\(∀e∈o.after,Region.binds .any e=true->e.on<k)/\
 (∀t∈o.looksAt l.toArray,∀j,jt l t=some j->ix o j=true\/ix (l.getD j default) k=true)/\
 (∀y t x,o.dst=none->o.op=.store y (.tmp t) x->∀j,jt l t=some j->ix o j=true)/\
 (∀j b,o.guard=some (j,b)->∃d,(l[j]?).bind (·.dst)=some d/\d∈o.looksAt l.toArray):=by
 simp only[vG,oBA,List.all_eq_true]at h;obtain⟨⟨h1,hst⟩,h2⟩:=h
 have hm:(o,k)∈l.zipIdx:=by rw[List.mem_zipIdx_iff_getElem?];simpa using hk
 have h3:=h1 _ hm;simp only[oBA,List.all_eq_true]at h3;obtain⟨⟨h4,h5⟩,h6⟩:=h3;refine⟨λd hd=>?_,λe he hb=>?_,λt ht j hj=>?_,λy t x hd hop j hw=>?_,λj b hg=>?_⟩
 ·rw[hd]at h4;simpa using h4
 ·have:=(Array.all_eq_true_iff_forall_mem.1 h5) e he;simpa[hb]using this
 ·have:=h6 t ht;rw[hj]at this;simpa using this
 ·have:=hst o (List.mem_of_getElem? hk);rw[hd,hop]at this;simp only[hw]at this;exact this
 ·have:=h2 o (List.mem_of_getElem? hk);rw[hg]at this;simp only at this
  cases hd:(l[j]?).bind (·.dst)with
  |none=>rw[hd]at this;simp at this
  |some d=>rw[hd]at this;exact⟨d,rfl,by simpa using this⟩
theorem pq{o:Oper}{j:Nat}(h:ix o j=true):∃e∈o.after,e.on=j/\Region.binds .any e=true:=by
 unfold ix at h;rw[List.any_eq_true]at h;obtain⟨e,he,hx⟩:=h;simp only[oBA,beq_iff_eq]at hx;exact⟨e,by simpa using he,hx.1,hx.2⟩
theorem ms{listed:Array Bool}{i j:Nat}{b:Bool}(hi:i<listed.size):(listed.setIfInBounds i true).getD j b=if i=j then true else listed.getD j b:=by
 by_cases e:i=j
 ·subst e;simp[Array.getD,hi]
 ·simp only[oIN e];simp only[Array.getD,Array.size_setIfInBounds];split
  ·exact Array.getElem_setIfInBounds_ne _ e
  ·rfl
theorem mt{a:Act}{d t:Nat}{v:Value}(hd:d<a.tmps.size):(a.put (some d) v).tmps.getD t undef=if d=t then v else a.tmps.getD t undef:=by
 unfold Act.put;by_cases e:d=t
 ·subst e;simp[Array.getD,hd]
 ·simp only[oIN e];simp only[Array.getD,Array.size_setIfInBounds];split
  ·exact Array.getElem_setIfInBounds_ne _ e
  ·rfl
theorem JJ.step(Tu:∀w,R w w)(hB:vG l a0.tmps.size=true)(hD:mO P l (λt=>a0.tmps.getD t undef) base R Ss l Ss)(hK:GO R Ss){listed:Array Bool}{a:Act}{w:World}{Q:Exit->Act->World->Prop}(h:JJ l a0 base Ss listed a w){i:Nat}(hi:i∈Region.ready .any l.toArray listed):
 wpOp P l.toArray Q i (λa' w'=>JJ l a0 base Ss (listed.setIfInBounds i true) a' w') a w:=by
 obtain⟨Wj,o,ho,YZ⟩:=mem_ready.1 hi
 have Y5:l[i]?=some o:=by simpa using ho
 have WL:i<listed.size:=by rw[h.lsize];exact(oGS Y5).1
 obtain⟨ZZ,Z',Z8,Lx,ZP⟩:=kD hB Y5;obtain⟨s,hs,Sk⟩:=hD.at_ Y5
 have Zv:∀t∈o.looksAt l.toArray,rR l (λt=>a0.tmps.getD t undef) Ss o (λt=>a.tmps.getD t undef) w t:=by
  intro t ht;unfold rR
  cases hw:jt l t with
  |none=>exact h.old t λj o' hj hd=>absurd hd (vk hw j o' hj)
  |some j=>
   obtain⟨oj,Yq,UL⟩:=vj hw;by_cases hwt:ix o j=true
   ·simp only[hwt,if_true];obtain⟨e,he,SR,UI⟩:=pq hwt
    have UO:listed.getD j false=true:=by rw[<- SR];exact YZ e he UI
    obtain⟨sj,Vo,_⟩:=hD.at_ Yq;have:=h.says j oj sj Yq Vo UO;simpa[List.getD,Vo,yA,UL]using this
   ·simp only[hwt];refine h.old t λj' o' ZX hd'=>?_
    have hjj:j'=j:=by
     have:=((kD hB ZX).1 t hd').1
     rw[hw]at this;injection this with this;exact this.symm
    subst hjj;rcases Z8 t ht j' hw with h'|h'
    ·exact absurd h' hwt
    ·have e:l.getD j' default=oj:=by simp[List.getD,Yq]
     rw[e]at h';obtain⟨ed,Qi,SR,UI⟩:=pq h'
     cases hl:listed.getD j' true with
     |false=>rfl
     |true=>
      exfalso
      have hjl:j'<listed.size:=by rw[h.lsize];exact(oGS Yq).1
      have Yd:listed.getD j' false=true:=by simpa[Array.getD,hjl]using hl
      have:=h.down j' oj Yq Yd ed Qi UI;rw[SR]at this;simp[Array.getD,WL]at this Wj;rw[this]at Wj;cases Wj
 have Vb:=Sk (λt=>a.tmps.getD t undef) w h.base_ Zv
 have Ti:Region.wanted o (yielded l.toArray a.tmps)=qj l (λt=>a.tmps.getD t undef) o:=by
  unfold Region.wanted qj
  cases hg:o.guard with
  |none=>rfl
  |some p=>
   obtain⟨j,b⟩:=p;obtain⟨d,hd,_⟩:=ZP j b hg
   have Sg:d<a.tmps.size:=by
    rw[h.asize];obtain⟨oj,Yq,UL⟩:=Option.bind_eq_some_iff.1 hd;exact((kD hB Yq).1 d UL).2
   have hy:yielded l.toArray a.tmps j=(match a.tmps.getD d undef with|.bool c=>some c|_=>none):=by
    unfold yielded
    have e:(l.toArray[j]?).bind (·.dst)=some d:=by simpa using hd
    rw[e];simp only[oBS];rw[Array.getElem?_eq_getElem Sg];simp only[Array.getD,Sg,dif_pos,Array.getInternal_eq_getElem];cases a.tmps[d]<;>rfl
   simp only[hd];rw[hy];cases a.tmps.getD d undef<;>simp
 have WP:∀v w',EF base R s w (pz (λt=>a.tmps.getD t undef) o v) w'->JJ l a0 base Ss (listed.setIfInBounds i true) (a.put o.dst v) w':=by
  intro v w' ⟨hb,hR,Pa⟩
  have hsz:(a.put o.dst v).tmps.size=a.tmps.size:=by unfold Act.put;split<;>simp
  refine⟨hb,by rw[<- h.defers];unfold Act.put;split<;>rfl,by simpa using h.lsize,hsz.trans h.asize,λt ht=>?_,λj oj sj Yq Vo UO=>?_,λj oj Yq UO e he UI=>?_⟩
  ·have Nv:o.dst≠some t:=λe=>by
    have:=ht i o Y5 e;rw[ms WL]at this;simp at this
   have Zx:=h.old t λj oj Yq UL=>by
    have:=ht j oj Yq UL;rw[ms WL]at this;split at this
    ·cases this
    ·exact this
   rw[<- Zx]
   cases hd:o.dst with
   |none=>rfl
   |some d=>rw[mt (by rw[h.asize];exact(ZZ d hd).2),oIN (by rintro rfl;exact Nv hd)]
  ·by_cases e:i=j
   ·subst e
    rw[Y5]at Yq;injection Yq with Yq;subst Yq
    rw[hs]at Vo;injection Vo with Vo;subst Vo
    cases hd:o.dst with
    |none=>
     have e1:(a.put none v).tmps=a.tmps:=rfl
     have e2:pz (λt=>a.tmps.getD t undef) o v=yA (λt=>a.tmps.getD t undef) o:=by unfold pz;rw[hd]
     rw[e1,<- e2];exact Pa
    |some d=>
     have e2:pz (λt=>a.tmps.getD t undef) o v=v:=by unfold pz;rw[hd]
     have e3:yA (λt=>(a.put (some d) v).tmps.getD t undef) o=v:=by
      unfold yA;rw[hd];simp only;rw[mt (by rw[h.asize];exact(ZZ d hd).2),oIP rfl]
     rw[e3,<- e2];exact Pa
   ·rw[ms WL,oIN e]at UO;have Zx:=hK.at_ Vo w w' _ hR (h.says j oj sj Yq Vo UO)
    have YG:∀t,o.dst≠some t->(a.put o.dst v).tmps.getD t undef=a.tmps.getD t undef:=λt ht=>by
     cases hd:o.dst with
     |none=>rfl
     |some d'=>rw[mt (by rw[h.asize];exact(ZZ d' hd).2),oIN (by rintro rfl;exact ht hd)]
    have QW:yA (λt=>(a.put o.dst v).tmps.getD t undef) oj=yA (λt=>a.tmps.getD t undef) oj:=by
     unfold yA
     cases UL:oj.dst with
     |some d=>
      refine YG d λhd=>?_;have h1:=(ZZ d hd).1;have h2:=((kD hB Yq).1 d UL).1;rw[h1]at h2
      injection h2 with h2
      exact e h2
     |none=>
      cases hop:oj.op with
      |store y t x=>
       cases t with
       |tmp t=>
        refine YG t λhd=>?_;have h1:=(ZZ t hd).1;have h2:=(kD hB Yq).2.2.2.1 y t x UL hop i h1;obtain⟨ed,Qi,SR,UI⟩:=pq h2;have:=h.down j oj Yq UO ed Qi UI;rw[SR]at this;simp[Array.getD,WL]at this Wj;rw[this]at Wj;cases Wj
       |const _=>rfl
       |global _=>rfl
       |func _=>rfl
      |_=>rfl
    rw[QW];exact Zx
  ·rw[ms WL];split
   ·rfl
   ·by_cases e':i=j
    ·subst e'
     rw[Y5]at Yq;injection Yq with Yq;subst Yq
     exact YZ e he UI
    ·rw[ms WL,oIN e']at UO;exact h.down j oj Yq UO e he UI
 unfold wpOp;simp only[ho];rw[Ti];by_cases hw:qj l (λt=>a.tmps.getD t undef) o=true
 ·rw[oIP hw]at Vb⊢;refine .inl ?_;unfold Oper.wp;rw[EA];generalize(execOp (zy λt=>a.tmps.getD t undef) o).run P w=r at Vb
  cases r with
  |ok n w'=>
   cases n<;>simp only[kC]at Vb<;>simp only[Oper.upon]
   case value v=>exact WP v w' Vb
   case skip=>exact WP undef w' Vb
   case enter fn args=>exact Vb.mono λe Xh ⟨v,he,hp⟩=>by subst he;exact WP v Xh hp
  |halt x w'=>simp only[kC]at Vb
 ·rw[oIN hw]at Vb⊢;exact WP undef w ⟨h.base_,Tu w,Vb⟩
theorem rP{n:Nat}(hB:vG l n=true){listed:Array Bool}(hs:listed.size=l.length)(hr:Region.ready .any l.toArray listed=[]):∀(k:Nat),k<l.length->listed.getD k false=true:=by
 intro k
 induction k using Nat.strongRecOn with
 |_ k ih=>
  intro hk
  cases hl:listed.getD k false with
  |true=>rfl
  |false=>
   exfalso;have ho:l[k]?=some l[k]:=oGE hk
   have:k∈Region.ready .any l.toArray listed:=by
    refine mem_ready.2 ⟨?_,l[k],by simp,λe he hb=>?_⟩
    ·have:k<listed.size:=by omega
     simpa[Array.getD,this]using hl
    ·have:=(kD hB ho).2.1 e he hb;exact ih e.on this (by omega)
   rw[hr]at this;cases this
theorem rd(Tu:∀w,R w w)(hB:vG l a0.tmps.size=true)(hD:mO P l (λt=>a0.tmps.getD t undef) base R Ss l Ss)(hK:GO R Ss){Q:Exit->Act->World->Prop}
 (W7:∀listed a w,(∀k,k<l.length->listed.getD k false=true)->JJ l a0 base Ss listed a w->Q .normal a w):
 ∀(XK:Nat)(listed:Array Bool)(a:Act)(w:World),JJ l a0 base Ss listed a w->(∃c:List Bool,c.length=l.length/\listed.toList=c/\c.count false=XK)->wpAny P .any l.toArray Q XK listed a w
 |0,listed,a,w,h,⟨c,Y6,Y7,Tx⟩=>by
  have hr:Region.ready .any l.toArray listed=[]:=by
   rw[List.eq_nil_iff_forall_not_mem];intro i hi;have Wj:=(mem_ready.1 hi).1
   have WL:i<listed.size:=by
    rcases Nat.lt_or_ge i listed.size with h'|h'
    ·exact h'
    ·simp[Array.getD,Nat.not_lt.2 h']at Wj
   have:false∈c:=by
    rw[<- Y7]
    have h1:listed[i]=false:=by simpa[Array.getD,WL]using Wj
    rw[<- h1];simp
   exact absurd (List.count_pos_iff.2 this) (by omega)
  exact⟨hr,W7 _ _ _ (rP hB h.lsize hr) h⟩
 |XK+1,listed,a,w,h,⟨c,Y6,Y7,Tx⟩=>by
  refine⟨λhr=>W7 _ _ _ (rP hB h.lsize hr) h,λi hi=>?_⟩;refine wpOp_mono (λa' w' h'=>rd Tu hB hD hK W7 XK _ a' w' h' ?_) (h.step Tu hB hD hK hi);have Wj:=(mem_ready.1 hi).1
  have WL:i<listed.size:=by
   rcases Nat.lt_or_ge i listed.size with h'|h'
   ·exact h'
   ·simp[Array.getD,Nat.not_lt.2 h']at Wj
  have h1:listed[i]=false:=by simpa[Array.getD,WL]using Wj
  refine⟨_,?_,rfl,?_⟩
  ·simp;have:=h.lsize;omega
  ·rw[Array.toList_setIfInBounds,List.count_set (by simpa using WL)];subst Y7;rw[Tx];simp[h1]
theorem Cm{f:Nat->Value}{w:World}:∀{lo:List Oper}{ls:List (Value->World->Prop)},(∀(k:Nat) o s,lo[k]?=some o->ls[k]?=some s->s (yA f o) w)->G9 f w lo ls
 | [],_,_=>by unfold G9;trivial
 |_::_,[],_=>by unfold G9;trivial
 |o::r,s::rs,h=>⟨h 0 o s rfl rfl,Cm λk o' s' h1 h2=>h (k+1) o' s' (by simpa using h1) (by simpa using h2)⟩
theorem ph(f:Nat->Value):∀(lo:List Oper)(a:Act),(eL f lo a).tmps.size=a.tmps.size
 | [],_=>rfl
 |o::r,a=>by
  rw[eL,ph f r];unfold Act.put;split<;>simp
theorem lY(f:Nat->Value):∀(lo:List Oper)(a:Act),(eL f lo a).defers=a.defers
 | [],_=>rfl
 |o::r,a=>by
  rw[eL,lY f r];unfold Act.put;split<;>rfl
theorem pi(f:Nat->Value):∀(lo:List Oper)(a:Act)(t:Nat),t<a.tmps.size ->
 (eL f lo a).tmps.getD t undef=f t/\(∃o∈lo,o.dst=some t)\/(eL f lo a).tmps.getD t undef=a.tmps.getD t undef/\∀o∈lo,o.dst≠some t
 | [],_,_,_=>.inr ⟨rfl,by simp⟩
 |o::r,a,t,ht=>by
  have hsz:(a.put o.dst (vq f o.dst)).tmps.size=a.tmps.size:=by unfold Act.put;split<;>simp
  rcases pi f r (a.put o.dst (vq f o.dst)) t (by rw[hsz];exact ht)with⟨h1,o',h2,h3⟩|⟨h1,h2⟩
  ·exact .inl ⟨h1,o',List.mem_cons_of_mem _ h2,h3⟩
  ·by_cases hd:o.dst=some t
   ·refine .inl ⟨?_,o,List.mem_cons_self ..,hd⟩;rw[eL,h1,hd,mt ht,oIP rfl];rfl
   ·refine .inr ⟨?_,λo' Y5=>?_⟩
    ·rw[eL,h1]
     cases hd':o.dst with
     |none=>rfl
     |some d=>
      by_cases hds:d<a.tmps.size
      ·rw[mt hds,oIN (by rintro rfl;exact hd hd')]
      ·unfold Act.put;simp[Array.setIfInBounds,hds]
    ·rcases List.mem_cons.1 Y5 with rfl|h'
     ·exact hd
     ·exact h2 o' h'
theorem fM{id:Nat}{w0:World}{Q:Exit->Act->World->Prop}(base:World->Prop)(R:World->World->Prop)(Ss:List (Value->World->Prop))
 (n:Nat)(hm:P.follows .mixedOrders=true)(hn:a0.tmps.size=n)(Rr:vG l n=true)(h0:base w0.drew)(Tu:∀w,R w w)(hK:GO R Ss)
 (hD:mO P l (λt=>a0.tmps.getD t undef) base R Ss l Ss)
 (W7:∀f w,base w->G9 f w l Ss->Q .normal (eL f l a0) w):(Code.region id l.toArray true).wp P Q a0 w0:=by
 have hB:vG l a0.tmps.size=true:=by rw[hn];exact Rr
 refine wp_region_any hm ?_;refine rd (a0:=a0) (R:=R) (Ss:=Ss) Tu hB hD hK (λlisted a w hl h=>?_) _ _ _ _ (?_:JJ l a0 base Ss _ _ _) ⟨_,?_,rfl,?_⟩
 ·have e:a=eL (λt=>a.tmps.getD t undef) l a0:=by
   have hd:a.defers=(eL (λt=>a.tmps.getD t undef) l a0).defers:=by rw[lY,h.defers]
   have ht:a.tmps=(eL (λt=>a.tmps.getD t undef) l a0).tmps:=by
    refine Array.ext (by rw[ph,h.asize]) λi h1 h2=>?_
    have MS:i<a0.tmps.size:=by rw[<- h.asize];exact h1
    have e1:a.tmps[i]=a.tmps.getD i undef:=by simp[Array.getD,h1]
    have e2:(eL (λt=>a.tmps.getD t undef) l a0).tmps[i]=(eL (λt=>a.tmps.getD t undef) l a0).tmps.getD i undef:=by rw[Array.getD,dif_pos h2];rfl
    rw[e1,e2]
    rcases pi (λt=>a.tmps.getD t undef) l a0 i MS with⟨h3,_⟩|⟨h3,h4⟩
    ·exact h3.symm
    ·rw[h3];exact h.old i λj o ho hd=>absurd hd (h4 o (List.mem_of_getElem? ho))
   cases a;cases hp:eL (λt=>Array.getD _ t undef) l a0;simp only[hp]at hd ht;subst hd;subst ht
   simp_all
  rw[e];exact W7 _ w h.base_ (Cm λk o s ho hs=>h.says k o s ho hs (hl k (oGS ho).1))
 ·exact⟨h0,rfl,by simp,rfl,λ_ _=>rfl,λj o s ho hs hl=>by simp[Array.getD]at hl,λj o ho hl=>by simp[Array.getD]at hl⟩
 ·simp
 ·simp[List.count_replicate]
end
theorem aY{P:Program}{l:List Oper}{old:Nat->Value}{base:World->Prop}{R:World->World->Prop}{Ss:List (Value->World->Prop)}{o:Oper}{r:List Oper}{s:Value->World->Prop}{rs:List (Value->World->Prop)}
 (h:Ha P l old base R Ss o s)(h':mO P l old base R Ss r rs):mO P l old base R Ss (o::r) (s::rs):=⟨h,h'⟩
theorem bc{P:Program}{l:List Oper}{old:Nat->Value}{base:World->Prop}{R:World->World->Prop}{Ss:List (Value->World->Prop)}{o:Oper}{s:Value->World->Prop}(hg:o.guard=none)
 (h:∀(f:Nat->Value)(w:World),base w->(∀t∈o.looksAt l.toArray,rR l old Ss o f w t)->kC P (λv w'=>EF base R s w (pz f o v) w') ((execOp (zy f) o).run P w)):Ha P l old base R Ss o s:=by
 intro f w hb H
 have:qj l f o=true:=by unfold qj;rw[hg]
 rw[oIP this];exact h f w hb H
theorem eM{P:Program}{l:List Oper}{old:Nat->Value}{base:World->Prop}{R:World->World->Prop}{Ss:List (Value->World->Prop)}{o:Oper}{s:Value->World->Prop}(j:Nat)(b:Bool)(d:Nat)(hg:o.guard=some (j,b))(hd:(l[j]?).bind (·.dst)=some d)
 (h:∀(f:Nat->Value)(w:World),base w->(∀t∈o.looksAt l.toArray,rR l old Ss o f w t)->f d=.bool b/\kC P (λv w'=>EF base R s w (pz f o v) w') ((execOp (zy f) o).run P w)):Ha P l old base R Ss o s:=by
 intro f w hb H;obtain⟨h1,h2⟩:=h f w hb H
 have:qj l f o=true:=by unfold qj;rw[hg];simp only[hd,h1,beq_self_eq_true]
 rw[oIP this];exact h2
theorem my{P:Program}{l:List Oper}{old:Nat->Value}{base:World->Prop}{R:World->World->Prop}{Ss:List (Value->World->Prop)}{o:Oper}{s:Value->World->Prop}(j:Nat)(b:Bool)(d:Nat)(hg:o.guard=some (j,b))(hd:(l[j]?).bind (·.dst)=some d)
 (h:∀(f:Nat->Value)(w:World),base w->(∀t∈o.looksAt l.toArray,rR l old Ss o f w t)->f d=.bool (!b)/\s (pz f o undef) w):Ha P l old base R Ss o s:=by
 intro f w hb H;obtain⟨h1,h2⟩:=h f w hb H
 have:qj l f o=false:=by unfold qj;rw[hg];simp only[hd,h1];cases b<;>rfl
 rw[this];exact h2
theorem kJ{P:Program}{l:List Oper}{old:Nat->Value}{base:World->Prop}{R:World->World->Prop}{Ss:List (Value->World->Prop)}:mO P l old base R Ss [] []:=trivial
def RK(X:Nat->Prop)(w w':World):Prop:=w.heap.size<=w'.heap.size/\∀b,b<w.heap.size->¬X b->w'.heap[b]?=w.heap[b]?
theorem RK.refl(X:Nat->Prop)(w:World):RK X w w:=⟨Nat.le_refl _,λ_ _ _=>rfl⟩
theorem RK.alloc(X:Nat->Prop)(w:World)(o:Obj):RK X w (w.alloc o):=⟨by simp,λ_ hb _=>heap_alloc_old _ _ hb⟩
theorem RK.grown{X:Nat->Prop}{w w':World}{g:Nat}(h:w.grownBy w' (some g))(hg:X g):RK X w w':=⟨h.size,λb hb hx=>h.block b hb (by rintro e;injection e with e;subst e;exact hx hg)⟩
theorem RK.set{X:Nat->Prop}{w w1:World}{p:Addr}(h:RK X w w1)(hp:X p.block)(u:Value):RK X w (w1.setCell p u):=
 ⟨by simpa[World.setCell]using h.1,λb hb hx=>(Below.heap_setCell w1 p u b (by rintro rfl;exact hx hp)).trans (h.2 b hb hx)⟩
theorem RK.cell{X:Nat->Prop}{w w':World}(h:RK X w w'){b o:Nat}(hb:b<w.heap.size)(hx:¬X b):w'.cell? ⟨b,o,none⟩=w.cell? ⟨b,o,none⟩:=World.cell?_of_block (h.2 b hb hx)
def RD(X:Nat->Prop)(D:World->Prop)(w w':World):Prop:=RK X w w'/\(D w->D w')
theorem RD.refl(X:Nat->Prop)(D:World->Prop)(w:World):RD X D w w:=⟨RK.refl X w,id⟩
def bG(u:Value)(v:Value)(_:World):Prop:=v=u
def I6(k:IntKind)(lo hi:Int)(v:Value)(_:World):Prop:=∃n:Int,lo<=n/\n<=hi/\v=.int k n
theorem bG.kept{x:Value}{R:World->World->Prop}(w w':World)(u:Value)(_:R w w')(h:bG x u w):bG x u w':=h
theorem I6.kept{k:IntKind}{lo hi:Int}{R:World->World->Prop}(w w':World)(u:Value)(_:R w w')(h:I6 k lo hi u w):I6 k lo hi u w':=h
attribute [go_sem] zy kC pz yA
section
variable {N:Nat} {t:TypeId} {z:List Value} {Good:List Value->World->Prop}
def wX(t:TypeId)(Good:List Value->World->Prop)(q:Nat)(w:World):Prop:=∃vs,Bk w q t vs/\Good vs w
def RZ(N:Nat)(t:TypeId)(z:List Value)(Good:List Value->World->Prop)(w w':World):Prop:=
 w.heap.size<=w'.heap.size/\(∀k,k<w.heap.size->(k<N\/∀cs,w.heap[k]?≠some (.cells cs t (0,0)))->w'.heap[k]?=w.heap[k]?)/\
 (∀k,N<=k->Bk w k t z->Bk w' k t z\/wX t Good k w')/\∀k,N<=k->wX t Good k w->wX t Good k w'
def GR(t:TypeId)(N:Nat)(Good:List Value->World->Prop):Prop:=∀vs w w',w.heap.size<=w'.heap.size->(∀k,k<w.heap.size->(k<N\/∀cs,w.heap[k]?≠some (.cells cs t (0,0)))->w'.heap[k]?=w.heap[k]?)->Good vs w->Good vs w'
theorem RZ.refl(w:World):RZ N t z Good w w:=⟨Nat.le_refl _,λ_ _ _=>rfl,λ_ _ h=>.inl h,λ_ _ h=>h⟩
theorem RZ.grown(hG:GR t N Good){w w':World}(h:w.grownBy w' none):RZ N t z Good w w':=
 ⟨h.size,λk hk _=>h.block k hk (by simp),λk _ hb=>.inl (hb.grow h),λk _ ⟨vs,h1,h2⟩=>⟨vs,h1.grow h,hG _ _ _ h.size (λk hk _=>h.block k hk (by simp)) h2⟩⟩
def CS(N:Nat)(t:TypeId)(z:List Value)(Good:List Value->World->Prop)(v:Value)(w:World):Prop:=∃q,v=.pointer (some ⟨q,0,none⟩)/\N<=q/\(Bk w q t z\/wX t Good q w)
def GH(N:Nat)(t:TypeId)(Good:List Value->World->Prop)(v:Value)(w:World):Prop:=∃q,v=.pointer (some ⟨q,0,none⟩)/\N<=q/\wX t Good q w
theorem CS.kept(w w':World)(v:Value)(hr:RZ N t z Good w w')(h:CS N t z Good v w):CS N t z Good v w':=by
 obtain⟨q,e,hq,h|h⟩:=h
 ·exact⟨q,e,hq,hr.2.2.1 q hq h⟩
 ·exact⟨q,e,hq,.inr (hr.2.2.2 q hq h)⟩
theorem GH.kept(w w':World)(v:Value)(hr:RZ N t z Good w w')(h:GH N t Good v w):GH N t Good v w':=
 let ⟨q,e,hq,h⟩:=h;⟨q,e,hq,hr.2.2.2 q hq h⟩
theorem CS.new(hG:GR t N Good){w:World}(hN:N<=w.heap.size):CS N t z Good (.pointer (some ⟨w.heap.size,0,none⟩)) (w.alloc (.cells z.toArray t)):=⟨_,rfl,hN,.inl Bk.new⟩
theorem RZ.put(hG:GR t N Good){w w':World}{q:Nat}{us vs:List Value}(hq:N<=q)(h:Bk w q t us)(hs:w.heap.size=w'.heap.size)(hk:∀k,k≠q->w'.heap[k]?=w.heap[k]?)(hv:Bk w' q t vs)(hg:Good vs w):RZ N t z Good w w'/\wX t Good q w':=by
 have Yl:∀k,k<w.heap.size->(k<N\/∀cs,w.heap[k]?≠some (.cells cs t (0,0)))->w'.heap[k]?=w.heap[k]?:=λk _ hc=>hk k (by
  rintro rfl;rcases hc with hc|hc
  ·omega
  ·exact hc _ h)
 have h1:wX t Good q w':=⟨vs,hv,hG _ _ _ (Nat.le_of_eq hs) Yl hg⟩;refine⟨⟨Nat.le_of_eq hs,Yl,λk _ hb=>?_,λk _ hb=>?_⟩,h1⟩
 ·by_cases e:k=q
  ·subst e;exact .inr h1
  ·exact .inl (hb.keep (hk k e))
 ·by_cases e:k=q
  ·subst e;exact h1
  ·obtain⟨NW,g1,g2⟩:=hb;exact⟨NW,g1.keep (hk k e),hG _ _ _ (Nat.le_of_eq hs) Yl g2⟩
theorem yy{w:World}{q t:Nat}{x y:Value}(h:Bk w q t [x,y])(a b:Value):Bk ((w.setCell ⟨q,0,none⟩ a).setCell ⟨q,1,none⟩ b) q t [a,b]:=(h.set 0 a).set 1 b
theorem vi{α:Type}{R:Rp α}{e:TypeId}(hne:e≠t){base:Nat}{G:Nat->Prop}(hG:∀k,G k->k<N){v:Value}{xs:List α}{w w':World}(hs:w.heap.size<=w'.heap.size)
 (hr:∀k,k<w.heap.size->(k<N\/∀cs,w.heap[k]?≠some (.cells cs t (0,0)))->w'.heap[k]?=w.heap[k]?)(h:Mk R e base w G v xs):Mk R e base w' G v xs:=by
 obtain⟨cs,h1,h2,h3⟩:=h;refine⟨cs,⟨h1.1,?_⟩,h2,(eE.keep (w':=w') (λk hk=>hr k hk.2 (.inl (hG k hk.1.1))) h3.live).sub λk hk=>hk.1⟩;rcases h1.2 with h|⟨g,cap,cur,e1,hb,YD,h⟩
 ·exact .inl h
 ·refine .inr ⟨g,cap,cur,e1,hb,?_,h⟩;rw[hr g (Array.getElem?_eq_some_iff.1 YD).1 (.inr λcs hz=>?_)]
  ·exact YD
  ·have e:=Option.some.inj (YD.symm.trans hz)
   injection e with _ e;exact hne e
end
def SMk{α:Type}(R:Rp α)(e:TypeId)(base:Nat)(G:Nat->Prop)(xs:List α)(v:Value)(w:World):Prop:=Mk R e base w G v xs
theorem SMk.kept{α:Type}{R:Rp α}{e t:TypeId}{N base:Nat}{z:List Value}{Good:List Value->World->Prop}{G:Nat->Prop}{xs:List α}(hne:e≠t)(hG:∀k,G k->k<N)(w w':World)(v:Value)(hr:RZ N t z Good w w')(h:SMk R e base G xs v w):SMk R e base G xs v w':=
 vi hne hG hr.1 hr.2.1 h
theorem Mk.base{α:Type}{R:Rp α}{e:TypeId}{base base':Nat}{w:World}{G:Nat->Prop}{v:Value}{xs:List α}(h:Mk R e base w G v xs)(hb:base'<=base):Mk R e base' w G v xs:=by
 obtain⟨cs,h1,h2⟩:=h;refine⟨cs,⟨h1.1,?_⟩,h2⟩;rcases h1.2 with h|⟨g,cap,cur,e1,ZZ,h⟩
 ·exact .inl h
 ·exact .inr ⟨g,cap,cur,e1,Nat.le_trans hb ZZ,h⟩
theorem Im{w:World}{F:Nat->Prop}{c:Cn4}{cs:List Value}(h:rCn.rep w F c cs):cs=[.int .u8 c.1,.int .u16 c.2.1,.int .i64 c.2.2.1,.int .i64 c.2.2.2]:=by
 obtain⟨a,b,rfl,rfl,a2,b2,rfl,rfl,a3,b3,rfl,rfl,rfl⟩:=h;rfl
theorem I3{w:World}{F:Nat->Prop}(c:Cn4):rCn.rep w F c [.int .u8 c.1,.int .u16 c.2.1,.int .i64 c.2.2.1,.int .i64 c.2.2.2]:=⟨[_],_,rfl,rfl,[_],_,rfl,rfl,[_],_,rfl,rfl,rfl⟩
def vwC(v:Vw8)(y:Value):List Value:=[.int .i64 v.1,.int .i64 v.2.1,.int .i64 v.2.2.1,.int .i64 v.2.2.2.1,.int .i64 v.2.2.2.2.1,.int .i64 v.2.2.2.2.2.1,.int .u16 v.2.2.2.2.2.2.1,y]
theorem EL{w:World}{F:Nat->Prop}{v:Vw8}{cs:List Value}(h:rVw.rep w F v cs):∃y,cs=vwC v y/\RSl rCn w F v.2.2.2.2.2.2.2 y:=by
 obtain⟨_,_,rfl,rfl,_,_,rfl,rfl,_,_,rfl,rfl,_,_,rfl,rfl,_,_,rfl,rfl,_,_,rfl,rfl,_,_,rfl,rfl,y,rfl,hy⟩:=h;exact⟨y,rfl,hy⟩
theorem EK{w:World}{fp:List Nat}{v:Vw8}{y:Value}(h:OSl rCn 63 w fp v.2.2.2.2.2.2.2 y):rVw.own w fp v (vwC v y):=
 ⟨[_],_,[],fp,rfl,rfl,⟨rfl,rfl⟩,[_],_,[],fp,rfl,rfl,⟨rfl,rfl⟩,[_],_,[],fp,rfl,rfl,⟨rfl,rfl⟩,[_],_,[],fp,rfl,rfl,⟨rfl,rfl⟩,[_],_,[],fp,rfl,rfl,⟨rfl,rfl⟩,[_],_,[],fp,rfl,rfl,⟨rfl,rfl⟩,[_],_,[],fp,rfl,rfl,⟨rfl,rfl⟩,y,rfl,h⟩
theorem cd(w:World)(j:Nat)(v:Value){k q:Nat}(h:k≠q):(w.setCell ⟨q,j,none⟩ v).heap[k]?=w.heap[k]?:=heap_setCell_other _ _ _ _ h
theorem MkO.base'{α:Type}{R:Rp α}{e:TypeId}{base base':Nat}{w:World}{fp:List Nat}{v:Value}{xs:List α}(h:MkO R e base w fp v xs)(hb:base'<=base):MkO R e base' w fp v xs:=by
 obtain⟨cs,h1,h2,h3,h4,h5⟩:=h;refine⟨cs,⟨h1.1,?_⟩,h2,h3,h4,λk hk=>⟨Nat.le_trans hb (h5 k hk).1,(h5 k hk).2⟩⟩;rcases h1.2 with h|⟨g,cap,cur,e1,ZZ,h⟩
 ·exact .inl h
 ·exact .inr ⟨g,cap,cur,e1,Nat.le_trans hb ZZ,h⟩
def GF(v:Vw8)(w:World)(e:Ending)(w':World):Prop:=
 ∃y,e=.returned (.agg (vwC v y).toArray)/\MkO rCn 63 (w.heap.size+2) w' [] y v.2.2.2.2.2.2.2/\w.grownBy w' none
set_option maxHeartbeats 1000000 in
theorem qR(F:Nat->Prop)(v:Vw8)(y:Value)(w:World)(h:RSl rCn w F v.2.2.2.2.2.2.2 y):
 Calls Tryz.prog 67 #[.agg (vwC v y).toArray] w (GF v w):=by
 obtain⟨v0,v1,v2,v3,v4,v5,v6,L⟩:=v;have H:=Lib.hid h;obtain⟨A,c,rfl,_⟩:=h.size_eq;clear h;unfold vwC at *;dsimp only at *
 go_enter Tryz.func67,Tryz.ntmps67
 go_wp2_with fail
 have Zh:w.grownBy ((w.alloc (.cells #[.int .i64 v0,.int .i64 v1,.int .i64 v2,.int .i64 v3,.int .i64 v4,.int .i64 v5,.int .u16 v6,.slice A L.length c] 73)).alloc (.cells #[.int .i64 0,.int .i64 0,.int .i64 0,.int .i64 0,.int .i64 0,.int .i64 0,.int .u16 0,.slice none 0 0] 73)) none:=be (be (bf w none) _) _;have ZZ:Bk ((w.alloc (.cells #[.int .i64 v0,.int .i64 v1,.int .i64 v2,.int .i64 v3,.int .i64 v4,.int .i64 v5,.int .u16 v6,.slice A L.length c] 73)).alloc (.cells #[.int .i64 0,.int .i64 0,.int .i64 0,.int .i64 0,.int .i64 0,.int .i64 0,.int .u16 0,.slice none 0 0] 73)) w.heap.size 73 [.int .i64 v0,.int .i64 v1,.int .i64 v2,.int .i64 v3,.int .i64 v4,.int .i64 v5,.int .u16 v6,.slice A L.length c]:=Bk.new.grow (be (bf _ _) _)
 have Z':Bk ((w.alloc (.cells #[.int .i64 v0,.int .i64 v1,.int .i64 v2,.int .i64 v3,.int .i64 v4,.int .i64 v5,.int .u16 v6,.slice A L.length c] 73)).alloc (.cells #[.int .i64 0,.int .i64 0,.int .i64 0,.int .i64 0,.int .i64 0,.int .i64 0,.int .u16 0,.slice none 0 0] 73)) (w.heap.size+1) 73 [.int .i64 0,.int .i64 0,.int .i64 0,.int .i64 0,.int .i64 0,.int .i64 0,.int .u16 0,.slice none 0 0]:=by
  have:=Bk.new (w:=w.alloc (.cells #[.int .i64 v0,.int .i64 v1,.int .i64 v2,.int .i64 v3,.int .i64 v4,.int .i64 v5,.int .u16 v6,.slice A L.length c] 73)) (t:=73) (vs:=[.int .i64 0,.int .i64 0,.int .i64 0,.int .i64 0,.int .i64 0,.int .i64 0,.int .u16 0,.slice none 0 0]);simpa using this
 have hsz:((w.alloc (.cells #[.int .i64 v0,.int .i64 v1,.int .i64 v2,.int .i64 v3,.int .i64 v4,.int .i64 v5,.int .u16 v6,.slice A L.length c] 73)).alloc (.cells #[.int .i64 0,.int .i64 0,.int .i64 0,.int .i64 0,.int .i64 0,.int .i64 0,.int .u16 0,.slice none 0 0] 73)).heap.size=w.heap.size+2:=by simp
 generalize(w.alloc (.cells #[.int .i64 v0,.int .i64 v1,.int .i64 v2,.int .i64 v3,.int .i64 v4,.int .i64 v5,.int .u16 v6,.slice A L.length c] 73)).alloc (.cells #[.int .i64 0,.int .i64 0,.int .i64 0,.int .i64 0,.int .i64 0,.int .i64 0,.int .u16 0,.slice none 0 0] 73)=W at *;refine(pY F L _ W (H.out.grow Zh)).mono ?_;rintro e w3 ⟨y,rfl,Wh,hg⟩;obtain⟨A',c',rfl⟩:=Wh.shape;have ZZ:=ZZ.grow hg;have Z':=Z'.grow hg;have HG:=Lib.hid (bk Zh hg);have HS:=Lib.hid hsz;have HM:=Lib.hid (Wh.own wo);have k0:=ZZ.cell 0;have k1:=ZZ.cell 1;have k2:=ZZ.cell 2;have k3:=ZZ.cell 3;have k4:=ZZ.cell 4;have k5:=ZZ.cell 5;have k6:=ZZ.cell 6;have k7:=ZZ.cell 7;have f7:=ZZ.free 7;have j0:=Z'.cell 0;have j1:=Z'.cell 1;have j2:=Z'.cell 2;have j3:=Z'.cell 3;have j4:=Z'.cell 4;have j5:=Z'.cell 5;have j6:=Z'.cell 6;have j7:=Z'.cell 7;have g0:=Z'.free 0;have g1:=Z'.free 1;have g2:=Z'.free 2;have g3:=Z'.free 3;have g4:=Z'.free 4;have g5:=Z'.free 5;have g6:=Z'.free 6;have g7:=Z'.free 7;simp only[List.getElem?_cons_zero,List.getElem?_cons_succ]at k0 k1 k2 k3 k4 k5 k6 k7 j0 j1 j2 j3 j4 j5 j6 j7;have Ym:=Z'.hi;have Xm:=ZZ.hi;clear ZZ Z' hg Zh Wh hsz
 go_wp2_with fail
 refine bodyPost_ret (v:=.agg #[.int .i64 v0,.int .i64 v1,.int .i64 v2,.int .i64 v3,.int .i64 v4,.int .i64 v5,.int .u16 v6,.slice A' L.length c']) (by simp[results,Tryz.results67,go_sem,j0,j1,j2,j3,j4,j5,j6,j7,Ym]) rfl ?_;refine⟨_,rfl,(HM.out.base' (Nat.le_of_eq HS.out.symm)).above λk hk _=>?_,?_⟩
 ·have:∀j,j<2->k≠w.heap.size+j:=λj hj=>by omega
  have e0:=this 0 (by omega);have e1:=this 1 (by omega);rw[Nat.add_zero]at e0;simp only[cd _ _ _ e0,cd _ _ _ e1]
 ·refine bl (bl (bl (bl (bl (bl (bl (bl (bl HG.out (.inr ?_) _) (.inr ?_) _) (.inr ?_) _) (.inr ?_) _) (.inr ?_) _) (.inr ?_) _) (.inr ?_) _) (.inr ?_) _) (.inr ?_) _
  all_goals (dsimp only;omega)
theorem mA(F:Nat->Prop)(v0 v1 v2 v3 v4 v5 v6:Int)(L:List Cn4)(y:Value)(w:World)(h:RSl rCn w F L y):
 Calls Tryz.prog 67 #[.agg #[.int .i64 v0,.int .i64 v1,.int .i64 v2,.int .i64 v3,.int .i64 v4,.int .i64 v5,.int .u16 v6,y]] w λe w'=>
  ∃z,e=.returned (.agg #[.int .i64 v0,.int .i64 v1,.int .i64 v2,.int .i64 v3,.int .i64 v4,.int .i64 v5,.int .u16 v6,z])/\MkO rCn 63 (w.heap.size+2) w' [] z L/\w.grownBy w' none:=qR F (v0,v1,v2,v3,v4,v5,v6,L) y w h
section
variable {α:Type} {R:Rp α} {e:TypeId} {w w':World} {F:Nat->Prop} {N N9:Nat} {b:Value} {xs:List α} {k:Nat}
def tD(R:Rp α)(e:TypeId)(w:World)(F:Nat->Prop)(N N9:Nat)(b:Value)(xs:List α)(k:Nat):Prop:=
 (b=.slice none 0 0/\xs=[])\/∃ql cl c1 c2 fp,b=.slice (some ⟨ql,0,none⟩) xs.length cl/\xs.length<=cl/\cl<=9223372036854775807/\jF e w ql (cl*R.size) (c1++c2)/\
  gY R w fp (xs.take k) c1/\eE R w F (xs.drop k) c2/\fp.Nodup/\(∀x,x∈fp->N9<=x)/\N<=ql/\ql<N9
theorem tD.start(h:Mk R e N w F b xs)(hN:w.heap.size<=N9):tD R e w F N N9 b xs 0:=by
 obtain⟨cs,h1,h2,h3⟩:=h
 rcases h1.2 with⟨e1,e2⟩|⟨g,cap,cur,e1,YM,YD,hcap,hmax,hsz,Zv⟩
 ·exact .inl ⟨e1,oEN e2⟩
 ·exact .inr ⟨g,cap,[],cs,[],e1,hcap,by simpa[maxLen]using hmax,⟨cur,YD,hsz,by rw[List.nil_append,h1.1];exact Zv⟩,by simp[gY],by simpa using h3.sub λx hx=>hx.1,List.nodup_nil,by simp,YM,Nat.lt_of_lt_of_le (Array.getElem?_eq_some_iff.1 YD).1 hN⟩
theorem tD.keep(h:tD R e w F N N9 b xs k)(hk:∀x,x<w.heap.size->(F x\/some x=b.ownBlock\/N9<=x)->w'.heap[x]?=w.heap[x]?):tD R e w' F N N9 b xs k:=by
 rcases h with h|⟨ql,cl,c1,c2,fp,rfl,h1,h2,hV,hO,hR,ZQ,hfp,Xm,Ym⟩
 ·exact .inl h
 ·refine .inr ⟨ql,cl,c1,c2,fp,rfl,h1,h2,hV.keep (hk ql hV.hi (.inr (.inl rfl))),hO.keep λx hx=>hk x (hO.live x hx) (.inr (.inr (hfp x hx))),?_,ZQ,hfp,Xm,Ym⟩;exact(eE.keep (w':=w') (λx hx=>hk x hx.2 (.inl hx.1)) hR.live).sub λx hx=>hx.1
theorem tD.done(h:tD R e w F N N9 b xs xs.length)(hl:xs.length<=1099511627776):∃gp,OSl R e w gp xs b/\gp.Nodup/\∀x,x∈gp->N<=x/\(some x=b.ownBlock\/N9<=x):=by
 rcases h with⟨e1,e2⟩|⟨ql,cl,c1,c2,fp,rfl,h1,h2,hV,hO,hR,ZQ,hfp,Xm,Ym⟩
 ·exact⟨[],⟨hl,.inl ⟨e1,e2,rfl⟩⟩,List.nodup_nil,by simp⟩
 ·rw[List.take_of_length_le (Nat.le_refl _)]at hO;rw[List.drop_of_length_le (Nat.le_refl _)]at hR;have Y7:c2=[]:=hR;subst Y7;rw[List.append_nil]at hV;refine⟨ql::fp,⟨hl,.inr ⟨ql,cl,c1,fp,rfl,rfl,h1,h2,hV,hO⟩⟩,List.nodup_cons.2 ⟨λhm=>by have:=hfp ql hm;omega,ZQ⟩,λx hx=>?_⟩;rcases List.mem_cons.1 hx with rfl|hx
  ·exact⟨Xm,.inl rfl⟩
  ·exact⟨by have:=hfp x hx;omega,.inr (hfp x hx)⟩
structure lm (R:Rp α)(e:TypeId)(w:World)(F:Nat->Prop)(N N9:Nat)(b:Value)(xs:List α)(k ql cl:Nat)(x:α)(c1 d1 d2:List Value)(fp:List Nat):Prop where
 hb:b=.slice (some ⟨ql,0,none⟩) xs.length cl
 l1:xs.length<=cl
 l2:cl<=9223372036854775807
 buf:jF e w ql (cl*R.size) (c1++(d1++d2))
 own:gY R w fp (xs.take k) c1
 rep:R.rep w F x d1
 reps:eE R w F (xs.drop (k+1)) d2
 nd:fp.Nodup
 fp9:∀x,x∈fp->N9<=x
 ql1:N<=ql
 ql2:ql<N9
 len:c1.length=k*R.size
 tk:xs.take (k+1)=xs.take k++[x]
theorem tD.at_(h:tD R e w F N N9 b xs k)(hlt:k<xs.length):∃ql cl c1 d1 d2 fp,lm R e w F N N9 b xs k ql cl xs[k] c1 d1 d2 fp:=by
 rcases h with⟨_,e1⟩|⟨ql,cl,c1,c2,fp,e1,h1,h2,hV,hO,hR,ZQ,hfp,Xm,Ym⟩
 ·rw[e1]at hlt;simp at hlt
 ·rw[List.drop_eq_getElem_cons hlt]at hR;obtain⟨d1,d2,rfl,hx,Tv⟩:=hR;exact⟨ql,cl,c1,d1,d2,fp,e1,h1,h2,hV,hO,hx,Tv,ZQ,hfp,Xm,Ym,by rw[hO.len,oLT,Nat.min_eq_left (by omega)],List.take_succ_eq_append_getElem hlt⟩
theorem lm.cell{ql cl:Nat}{x:α}{c1 d1 d2:List Value}{fp:List Nat}(h:lm R e w F N N9 b xs k ql cl x c1 d1 d2 fp){j:Nat}{u:Value}(hj:d1[j]?=some u):w.cell? ⟨ql,k*R.size+j,none⟩=some u:=by
 rw[<- h.len];refine h.buf.mid (j:=j) ?_;rw[List.getElem?_append_left (oGS hj).1];exact hj
theorem lm.grow{ql cl:Nat}{x:α}{c1 d1 d2:List Value}{fp:List Nat}(h:lm R e w F N N9 b xs k ql cl x c1 d1 d2 fp)(hg:w.grownBy w' none):lm R e w' F N N9 b xs k ql cl x c1 d1 d2 fp:=
 ⟨h.hb,h.l1,h.l2,h.buf.grow hg,h.own.grow hg,R.grow h.rep hg,h.reps.grow hg,h.nd,h.fp9,h.ql1,h.ql2,h.len,h.tk⟩
theorem lm.step{ql cl:Nat}{x:α}{c1 d1 d2 d1':List Value}{fp gp:List Nat}(h:lm R e w F N N9 b xs k ql cl x c1 d1 d2 fp)(hF:∀j,F j->j<N)(hw:∀j,j<w.heap.size->j≠ql->w'.heap[j]?=w.heap[j]?)(h9:N9<=w.heap.size)
 (hV:jF e w' ql (cl*R.size) (c1++(d1'++d2)))(ho:R.own w' gp x d1')(ZQ:gp.Nodup)(TF:∀j,j∈gp->w.heap.size<=j):tD R e w' F N N9 b xs (k+1):=by
 refine .inr ⟨ql,cl,c1++d1',d2,fp++gp,h.hb,h.l1,h.l2,by simpa using hV,?_,?_,?_,?_,h.ql1,h.ql2⟩
 ·rw[h.tk];exact(h.own.keep λj hj=>hw j (h.own.live j hj) (by have:=h.fp9 j hj;have:=h.ql2;omega)).append (gY.single ho)
 ·exact(eE.keep (w':=w') (λj hj=>hw j hj.2 (by have:=hF j hj.1;have:=h.ql1;omega)) h.reps.live).sub λj hj=>hj.1
 ·exact List.nodup_append.2 ⟨h.nd,ZQ,λa ha c hc e=>by have:=h.own.live a ha;have:=TF c hc;omega⟩
 ·intro j hj;rcases List.mem_append.1 hj with hj|hj
  ·exact h.fp9 j hj
  ·have:=TF j hj;omega
end
structure StC (C:List (List Cn4))(T:List Vw8)(w:World)(F:Nat->Prop)(N q1 N9:Nat)(a b:Value)(i k:Nat)(wr:World):Prop where
 grown:w.grownBy wr none
 size:N9<=wr.heap.size
 res:Bk wr (q1+1) 29 [.slice none 0 0,.slice none 0 0]
 out:Bk wr q1 29 [a,b]
 rg:tD rCs 59 wr F N N9 a C i
 ts:tD rVw 73 wr F N N9 b T k
 ne:∀x,some x=a.ownBlock->some x≠b.ownBlock
 hq:q1+2=N
 hN:N<=N9
 hw:w.heap.size<=q1
 hF:∀x,F x->x<q1
theorem StC.stepR{C:List (List Cn4)}{T:List Vw8}{w wr w':World}{F:Nat->Prop}{N q1 N9:Nat}{a b:Value}{i k ql cl:Nat}{x:List Cn4}{c1 d1 d2 d1':List Value}{fp gp:List Nat}(h:StC C T w F N q1 N9 a b i k wr)
 (hA:lm rCs 59 wr F N N9 a C i ql cl x c1 d1 d2 fp)(hg:wr.grownBy w' (some ql))(hV:jF 59 w' ql (cl*rCs.size) (c1++(d1'++d2)))(ho:rCs.own w' gp x d1')(ZQ:gp.Nodup)(TF:∀j,j∈gp->wr.heap.size<=j):StC C T w F N q1 N9 a b (i+1) k w':=by
 have hw:∀j,j<wr.heap.size->j≠ql->w'.heap[j]?=wr.heap[j]?:=λj h1 h2=>hg.block j h1 (λe=>by injection e with e;exact h2 e);have h1:=hA.ql1;have h2:=hA.ql2;have h3:=h.hq;have h4:=h.hN;have h5:=h.hw
 have hb:some ql=a.ownBlock:=by rw[hA.hb];rfl
 refine⟨gQ h.grown hg λe e'=>by injection e' with e';omega,by have:=h.size;have:=hg.size;omega,h.res.keep (hw _ h.res.hi (by omega)),h.out.keep (hw _ h.out.hi (by omega)),hA.step (λj hj=>by have:=h.hF j hj;omega) hw h.size hV ho ZQ TF,h.ts.keep λj hj hc=>hw j hj ?_,h.ne,h.hq,h.hN,h.hw,h.hF⟩;rintro rfl;rcases hc with hc|hc|hc
 ·have:=h.hF j hc;omega
 ·exact h.ne j hb hc
 ·omega
theorem tD.raise{α:Type}{R:Rp α}{e:TypeId}{w:World}{F:Nat->Prop}{N N9 M9:Nat}{b:Value}{xs:List α}(h:tD R e w F N N9 b xs 0)(YR:N9<=M9):tD R e w F N M9 b xs 0:=by
 rcases h with h|⟨ql,cl,c1,c2,fp,h1,h2,h3,hV,hO,hR,ZQ,hfp,Xm,Ym⟩
 ·exact .inl h
 ·have e0:fp=[]:=by simpa[gY]using hO.2
  subst e0;exact .inr ⟨ql,cl,c1,c2,[],h1,h2,h3,hV,hO,hR,ZQ,by simp,Xm,Nat.lt_of_lt_of_le Ym YR⟩
structure StD (C:List (List Cn4))(T:List Vw8)(w:World)(F:Nat->Prop)(N q1 M9:Nat)(a b:Value)(k:Nat)(wr:World):Prop where
 grown:w.grownBy wr none
 size:M9<=wr.heap.size
 res:Bk wr (q1+1) 29 [.slice none 0 0,.slice none 0 0]
 out:Bk wr q1 29 [a,b]
 rg:∃fp,OSl rCs 59 wr fp C a/\fp.Nodup/\∀x,x∈fp->N<=x/\x<M9/\some x≠b.ownBlock
 ts:tD rVw 73 wr F N M9 b T k
 hq:q1+2=N
 hN:N<=M9
 hw:w.heap.size<=q1
 hF:∀x,F x->x<q1
theorem StC.second{C:List (List Cn4)}{T:List Vw8}{w wr:World}{F:Nat->Prop}{N q1 N9:Nat}{a b:Value}(h:StC C T w F N q1 N9 a b C.length 0 wr)(hl:C.length<=1099511627776):StD C T w F N q1 wr.heap.size a b 0 wr:=by
 obtain⟨fp,h1,h2,h3⟩:=h.rg.done hl;refine⟨h.grown,Nat.le_refl _,h.res,h.out,⟨fp,h1,h2,λx hx=>⟨(h3 x hx).1,h1.live x hx,λe=>?_⟩⟩,h.ts.raise h.size,h.hq,Nat.le_trans h.hN h.size,h.hw,h.hF⟩
 rcases(h3 x hx).2 with h4|h4
 ·exact h.ne x h4 e
 ·rcases h.ts with⟨e1,_⟩|⟨ql,cl,c1,c2,gp,e1,_,_,_,_,_,_,_,_,Ym⟩
  ·rw[e1]at e;cases e
  ·rw[e1]at e
   injection e with e
   have e:x=ql:=e;omega
theorem StD.stepT{C:List (List Cn4)}{T:List Vw8}{w wr w':World}{F:Nat->Prop}{N q1 M9:Nat}{a b:Value}{k ql cl:Nat}{x:Vw8}{c1 d1 d2 d1':List Value}{fp gp:List Nat}(h:StD C T w F N q1 M9 a b k wr)
 (hA:lm rVw 73 wr F N M9 b T k ql cl x c1 d1 d2 fp)(hg:wr.grownBy w' (some ql))(hV:jF 73 w' ql (cl*rVw.size) (c1++(d1'++d2)))(ho:rVw.own w' gp x d1')(ZQ:gp.Nodup)(TF:∀j,j∈gp->wr.heap.size<=j):StD C T w F N q1 M9 a b (k+1) w':=by
 have hw:∀j,j<wr.heap.size->j≠ql->w'.heap[j]?=wr.heap[j]?:=λj h1 h2=>hg.block j h1 (λe=>by injection e with e;exact h2 e);have h1:=hA.ql1;have h2:=hA.ql2;have h3:=h.hq;have h4:=h.hN;have h5:=h.hw
 have hb:some ql=b.ownBlock:=by rw[hA.hb];rfl
 refine⟨gQ h.grown hg λe e'=>by injection e' with e';omega,by have:=h.size;have:=hg.size;omega,h.res.keep (hw _ h.res.hi (by omega)),h.out.keep (hw _ h.out.hi (by omega)),?_,hA.step (λj hj=>by have:=h.hF j hj;omega) hw h.size hV ho ZQ TF,h.hq,h.hN,h.hw,h.hF⟩;obtain⟨fp,r1,r2,r3⟩:=h.rg;exact⟨fp,r1.keep λj hj=>hw j (r1.live j hj) (λe=>(r3 j hj).2.2 (by rw[e];exact hb)),r2,r3⟩
def EB(C:List (List Cn4))(T:List Vw8)(w:World)(e:Ending)(w':World):Prop:=
 ∃a b fp gp,e=.returned (.agg #[a,b])/\OSl rCs 59 w' fp C a/\OSl rVw 73 w' gp T b/\(fp++gp).Nodup/\(∀x,x∈fp++gp->w.heap.size+2<=x)/\w.grownBy w' none
set_option maxRecDepth 100000 in
set_option maxHeartbeats 4000000 in
theorem j9(F:Nat->Prop)(C:List (List Cn4))(T:List Vw8)(u v:Value)(w:World)(hu:RSl rCs w F C u)(hv:RSl rVw w F T v):
 Calls Tryz.prog 30 #[.agg #[u,v]] w (EB C T w):=by
 have HU:=Lib.hid hu;have HV:=Lib.hid hv;obtain⟨A1,c1,rfl,_,_,UA⟩:=hu.size_eq;obtain⟨A2,c2,rfl,_,_,UH⟩:=hv.size_eq;clear hu hv
 go_enter Tryz.func30,Tryz.ntmps30
 go_upto_region 1 with fail
 have Zh:w.grownBy ((w.alloc (.cells #[.slice A1 C.length c1,.slice A2 T.length c2] 29)).alloc (.cells #[.slice none 0 0,.slice none 0 0] 29)) none:=be (be (bf w none) _) _;have ZZ:Bk ((w.alloc (.cells #[.slice A1 C.length c1,.slice A2 T.length c2] 29)).alloc (.cells #[.slice none 0 0,.slice none 0 0] 29)) w.heap.size 29 [.slice A1 C.length c1,.slice A2 T.length c2]:=Bk.new.grow (be (bf _ _) _)
 have Z':Bk ((w.alloc (.cells #[.slice A1 C.length c1,.slice A2 T.length c2] 29)).alloc (.cells #[.slice none 0 0,.slice none 0 0] 29)) (w.heap.size+1) 29 [.slice none 0 0,.slice none 0 0]:=by
  have:=Bk.new (w:=w.alloc (.cells #[.slice A1 C.length c1,.slice A2 T.length c2] 29)) (t:=29) (vs:=[.slice none 0 0,.slice none 0 0]);simpa using this
 have hN:w.heap.size+2=((w.alloc (.cells #[.slice A1 C.length c1,.slice A2 T.length c2] 29)).alloc (.cells #[.slice none 0 0,.slice none 0 0] 29)).heap.size:=by simp
 generalize(w.alloc (.cells #[.slice A1 C.length c1,.slice A2 T.length c2] 29)).alloc (.cells #[.slice none 0 0,.slice none 0 0] 29)=W at *;have N0:=Lib.hid Zh;have Vu:=Lib.hid ZZ;have Xi:=Lib.hid Z';have Xj:=Lib.hid hN;have N4:=Lib.hid (HU.out.live.grow Zh);have N5:=Lib.hid (HV.out.live.grow Zh);have k0:=ZZ.cell 0;have k1:=ZZ.cell 1;have f0:=ZZ.free 0;have f1:=ZZ.free 1;simp only[List.getElem?_cons_zero,List.getElem?_cons_succ]at k0 k1;clear Zh ZZ Z' HU HV
 go_cut []from 7 to 15 (λwx=>∃(A3:Option Addr)(c3:Nat)(A4:Option Addr)(c4 N9:Nat),StC C T w (λk=>F k/\k<w.heap.size) W.heap.size w.heap.size N9 (.slice A3 C.length c3) (.slice A4 T.length c4) 0 0 wx)
 case first=>
  go_region_with (first
   |(go_at_call 64;refine(wM (λk=>F k/\k<w.heap.size) C _ _ (N4.out.grow (dn (bf _ _)))).mono ?_;rintro e w3 ⟨a,rfl,UP,Vc⟩;obtain⟨A3,c3,rfl⟩:=UP.shape;have Vc:=bk (dn (bf W none)) Vc;have m0:=(Vu.out.grow Vc).cell 0;have m1:=(Vu.out.grow Vc).cell 1;have n0:=(Vu.out.grow Vc).free 0;have n1:=(Vu.out.grow Vc).free 1;simp only[List.getElem?_cons_zero,List.getElem?_cons_succ]at m0 m1;have Wy:=Lib.hid Vc;have N2:=Lib.hid UP;clear UP Vc)
   |(go_at_call 65;refine(wL (λk=>F k/\k<w.heap.size) T _ _ (N5.out.grow Wy.out)).mono ?_;rintro e w4 ⟨b,rfl,TJ,UN⟩;obtain⟨A4,c4,rfl⟩:=TJ.shape;have p0:=((Vu.out.grow Wy.out).grow UN).cell 0;have p1:=((Vu.out.grow Wy.out).grow UN).cell 1;have r0:=((Vu.out.grow Wy.out).grow UN).free 0;have r1:=((Vu.out.grow Wy.out).grow UN).free 1;simp only[List.getElem?_cons_zero,List.getElem?_cons_succ]at p0 p1;have Pv:=Lib.hid UN;have LW:=Lib.hid TJ;clear TJ UN))
  all_goals
   have HS:=Lib.hid (show StC C T w (λk=>F k/\k<w.heap.size) W.heap.size w.heap.size w4.heap.size (.slice A3 C.length c3) (.slice A4 T.length c4) 0 0 ((w4.setCell ⟨w.heap.size,0,none⟩ (.slice A3 C.length c3)).setCell ⟨w.heap.size,1,none⟩ (.slice A4 T.length c4))from by
    have h1:=Xj.out;have h2:=Wy.out.size;have h3:=Pv.out.size;have YU:=bk Wy.out Pv.out
    have hx:∀x,x≠w.heap.size->((w4.setCell ⟨w.heap.size,0,none⟩ (.slice A3 C.length c3)).setCell ⟨w.heap.size,1,none⟩ (.slice A4 T.length c4)).heap[x]?=w4.heap[x]?:=λx hx=>by rw[cd _ _ _ hx,cd _ _ _ hx]
    have UP:Mk rCs 59 W.heap.size w4 (λk=>F k/\k<w.heap.size) (.slice A3 C.length c3) C:=N2.out.grow Pv.out;have TJ:Mk rVw 73 w3.heap.size w4 (λk=>F k/\k<w.heap.size) (.slice A4 T.length c4) T:=LW.out;have SG:Mk rVw 73 W.heap.size w4 (λk=>F k/\k<w.heap.size) (.slice A4 T.length c4) T:=TJ.base h2;refine⟨bl (bl (bk N0.out YU) (.inr (Nat.le_refl _)) _) (.inr (Nat.le_refl _)) _,by rw[xy,xy];exact Nat.le_refl _,((Xi.out.grow YU).other (by omega) _).other (by omega) _,yy (Vu.out.grow YU) _ _,?_,?_,?_,by omega,by omega,Nat.le_refl _,λx h=>h.2⟩
    ·refine(tD.start UP (Nat.le_refl _)).keep λx _ hc=>hx x ?_;rcases hc with hc|hc|hc
     ·have:=hc.2;omega
     ·have:=(UP.row x hc.symm).1;omega
     ·omega
    ·refine(tD.start SG (Nat.le_refl _)).keep λx _ hc=>hx x ?_;rcases hc with hc|hc|hc
     ·have:=hc.2;omega
     ·have:=(SG.row x hc.symm).1;omega
     ·omega
    ·intro x e1 e2;have r1:=(N2.out.row x e1.symm).2;have r2:=(TJ.row x e2.symm).1
     omega)
   go_wp2_with fail
   go_meet
   exact⟨A3,c3,A4,c4,w4.heap.size,HS.out⟩
 case rest=>
  obtain⟨A3,c3,A4,c4,N9,hS⟩:=hcut;have HS:=Lib.hid hS;clear hS N4 N5 Vu Xi N0 Xj k0 k1 f0 f1;generalize W.heap.size=N at *;have k0:=HS.out.out.cell 0;simp only[List.getElem?_cons_zero,List.getElem?_cons_succ]at k0
  go_wp2_with fail
  generalize hae:Value.slice A3 C.length c3=a at *;generalize hbe:Value.slice A4 T.length c4=b at *;have N7:=Lib.hid hae;have RL:=Lib.hid hbe;clear hae hbe k0
  go_loopw [18] (λi wr=>∃k:Nat,k<=C.length/\i=.int .i64 k/\StC C T w (λk=>F k/\k<w.heap.size) N w.heap.size N9 a b k 0 wr) (λi _=>C.length-(intOf i).toNat)
  case atStart=>exact⟨0,Nat.zero_le _,rfl,HS.out⟩
  case round=>
   obtain⟨k,hk,rfl,hst⟩:=hrel;have HN:=Lib.hid hst;clear hst HS;by_cases hlt:k<C.length
   ·obtain⟨ql,cl,d0,d1,d2,fp,hA⟩:=HN.out.rg.at_ hlt;generalize C[k]=x at hA;obtain⟨v,rfl,hv⟩:=hA.rep;obtain⟨LA,lc,rfl,_,_,UF⟩:=hv.size_eq;have WD:=hA.hb;subst WD;have HA:=Lib.hid hA;have HV:=Lib.hid hv
    have g0:wr.cell? ⟨ql,k,none⟩=some (.slice LA x.length lc):=by
     have:=hA.cell (j:=0) rfl;rw[show k*rCs.size+0=k from Nat.mul_one k]at this;exact this
    have gf:=hA.buf.free k;have k0:=HN.out.out.cell 0;have kq:=hA.ql1;have kn:=HN.out.hq
    have Nj:¬ql=w.heap.size:=by omega
    have QO:¬w.heap.size=ql:=by omega
    simp only[List.getElem?_cons_zero,List.getElem?_cons_succ]at k0
    have x2:(0:Int)<=(k:Int):=by omega
    have x3:(k:Int)<(C.length:Int):=by omega
    have x5:(k:Int).toNat=k:=by omega
    have hcap:=hA.l1;clear hA hv kq kn
    go_upto_region 5 with fail
    go_region_with (go_at_call 66;refine(pY (λk=>F k/\k<w.heap.size) x _ _ (HV.out.grow (dn (bf _ _)))).mono ?_;rintro e w6 ⟨y,rfl,Uk,Vy⟩;obtain⟨A6,c6,rfl⟩:=Uk.shape;have Vy:=bk (dn (bf wr none)) Vy;have m0:=(HN.out.out.grow Vy).cell 0;simp only[List.getElem?_cons_zero,List.getElem?_cons_succ]at m0;have mf:=(HA.out.buf.grow Vy).free k;(have mc:w6.cell? ⟨ql,k,none⟩=some (.slice LA x.length lc):=(by(have:=(HA.out.grow Vy).cell (j:=0) rfl;rw[show k*rCs.size+0=k from Nat.mul_one k]at this;exact this)));have TR:=Lib.hid Vy;have Py:=Lib.hid (Uk.own wo);clear Uk Vy)
    all_goals
     obtain⟨gp,Un,Ye,Yf⟩:=Py.out.done;replace Yf:∀b,b∈gp->wr.heap.size<=b:=Yf;have Pi:=(HA.out.grow TR.out).buf.setmid (j:=0) (by simp) (.slice A6 x.length c6);have Mn:=HA.out.len;have Z6:rCs.size=1:=rfl;rw[Mn,Z6,Nat.mul_one,Nat.add_zero]at Pi;have Nl:=HA.out.ql1;have Zm:=TR.out.size;have TS:=Lib.hid (HN.out.stepR (d1':=[.slice A6 x.length c6]) HA.out (bl (p:=⟨ql,k,none⟩) (mr (row:=some ql) TR.out) (.inl rfl) (.slice A6 x.length c6)) (by rw[Z6];exact Pi) ⟨_,rfl,Un.keep λb hb=>cd _ _ _ (by have:=Yf b hb;have:=HA.out.buf.hi;omega)⟩ Ye Yf)
     go_wp2_with fail
     go_roundw
     case rel=>exact⟨k+1,by omega,by go_num,TS.out⟩
     case measure=>simp[intOf];omega
   ·have QE:k=C.length:=by omega
    subst QE;have k1:=HN.out.out.cell 1;simp only[List.getElem?_cons_zero,List.getElem?_cons_succ]at k1;clear hlt;rw[<- RL.out]at k1
    go_upto_region 8 with fail
    rw[RL.out]at k1;rw[RL.out];clear k1;have HN:=Lib.hid (HN.out.second UA);generalize wr.heap.size=M9 at HN
    go_loopw [33] (λi wr=>∃k:Nat,k<=T.length/\i=.int .i64 k/\StD C T w (λk=>F k/\k<w.heap.size) N w.heap.size M9 a b k wr) (λi _=>T.length-(intOf i).toNat)
    case atStart=>exact⟨0,Nat.zero_le _,rfl,HN.out⟩
    case round=>
     obtain⟨k,hk,rfl,hst⟩:=hrel;have HN:=Lib.hid hst;clear hst;by_cases hlt:k<T.length
     ·obtain⟨ql,cl,d0,d1,d2,fp,hA⟩:=HN.out.ts.at_ hlt;generalize T[k]=x at hA;obtain⟨v,rfl,hv⟩:=EL hA.rep;obtain⟨LA,lc,rfl,_,_,UF⟩:=hv.size_eq;have WD:=hA.hb;subst WD;have HA:=Lib.hid hA;have HV:=Lib.hid hv;obtain⟨v0,v1,v2,v3,v4,v5,v6,L⟩:=x;have e8:∀j,k*rVw.size+j=k*8+j:=λj=>rfl;have g0:=hA.cell (j:=0) rfl;have g1:=hA.cell (j:=1) rfl;have g2:=hA.cell (j:=2) rfl;have g3:=hA.cell (j:=3) rfl;have g4:=hA.cell (j:=4) rfl;have g5:=hA.cell (j:=5) rfl;have g6:=hA.cell (j:=6) rfl;have g7:=hA.cell (j:=7) rfl;simp only[e8,Nat.add_zero]at g0 g1 g2 g3 g4 g5 g6 g7;have kq:=hA.ql1;have kn:=HN.out.hq
      have Nj:¬ql=w.heap.size:=by omega
      have QO:¬w.heap.size=ql:=by omega
      have x2:(0:Int)<=(k:Int):=by omega
      have x3:(k:Int)<(T.length:Int):=by omega
      have x5:(k:Int).toNat=k:=by omega
      have hcap:=hA.l1;dsimp only at HV UF⊢;have XI:wr.grownBy (wr.alloc (.cells #[.int .i64 v0,.int .i64 v1,.int .i64 v2,.int .i64 v3,.int .i64 v4,.int .i64 v5,.int .u16 v6,.slice LA L.length lc] 73)) none:=be (bf _ _) _;have Vw:Bk (wr.alloc (.cells #[.int .i64 v0,.int .i64 v1,.int .i64 v2,.int .i64 v3,.int .i64 v4,.int .i64 v5,.int .u16 v6,.slice LA L.length lc] 73)) wr.heap.size 73 [.int .i64 v0,.int .i64 v1,.int .i64 v2,.int .i64 v3,.int .i64 v4,.int .i64 v5,.int .u16 v6,.slice LA L.length lc]:=Bk.new;clear hA hv kq kn
      go_upto_region 10 with fail
      generalize wr.alloc (.cells #[.int .i64 v0,.int .i64 v1,.int .i64 v2,.int .i64 v3,.int .i64 v4,.int .i64 v5,.int .u16 v6,.slice LA L.length lc] 73)=W6 at *;have Wy:=Lib.hid XI;have Lb:=Lib.hid Vw;have k1:=(HN.out.out.grow XI).cell 1;have y0:=Vw.cell 0;have y1:=Vw.cell 1;have y2:=Vw.cell 2;have y3:=Vw.cell 3;have y4:=Vw.cell 4;have y5:=Vw.cell 5;have y6:=Vw.cell 6;have y7:=Vw.cell 7;simp only[List.getElem?_cons_zero,List.getElem?_cons_succ]at k1 y0 y1 y2 y3 y4 y5 y6 y7;clear XI Vw g0 g1 g2 g3 g4 g5 g6 g7
      go_region_with (go_at_call 67;refine(mA (λk=>F k/\k<w.heap.size) v0 v1 v2 v3 v4 v5 v6 L _ _ ((HV.out.grow Wy.out).grow (dn (bf _ _)))).mono ?_;rintro e w7 ⟨y,rfl,Uk,Vy⟩;obtain⟨A7,c7,rfl⟩:=Uk.shape;have XR:=bk Wy.out (bk (dn (bf W6 none)) Vy);have m1:=(HN.out.out.grow XR).cell 1;simp only[List.getElem?_cons_zero,List.getElem?_cons_succ]at m1;have o0:=(HA.out.grow XR).cell (j:=0) rfl;have o1:=(HA.out.grow XR).cell (j:=1) rfl;have o2:=(HA.out.grow XR).cell (j:=2) rfl;have o3:=(HA.out.grow XR).cell (j:=3) rfl;have o4:=(HA.out.grow XR).cell (j:=4) rfl;have o5:=(HA.out.grow XR).cell (j:=5) rfl;have o6:=(HA.out.grow XR).cell (j:=6) rfl;have o7:=(HA.out.grow XR).cell (j:=7) rfl;have z0:=(HA.out.buf.grow XR).free (k*8+0);have z1:=(HA.out.buf.grow XR).free (k*8+1);have z2:=(HA.out.buf.grow XR).free (k*8+2);have z3:=(HA.out.buf.grow XR).free (k*8+3);have z4:=(HA.out.buf.grow XR).free (k*8+4);have z5:=(HA.out.buf.grow XR).free (k*8+5);have z6:=(HA.out.buf.grow XR).free (k*8+6);have z7:=(HA.out.buf.grow XR).free (k*8+7);simp only[e8,Nat.add_zero]at o0 o1 o2 o3 o4 o5 o6 o7 z0 z1 z2 z3 z4 z5 z6 z7;have TR:=Lib.hid XR;have Py:=Lib.hid Uk;clear Uk Vy XR)
      all_goals
       obtain⟨gp,Un,Ye,Yf⟩:=Py.out.done
       replace Yf:∀b,b∈gp->wr.heap.size+1<=b:=λb hb=>by
        have h1:W6.heap.size+2<=b:=Yf b hb;have h2:=Wy.out.size;omega
       have Wo:=(HA.out.buf.grow TR.out);have hl:=HA.out.len;have No:rVw.size=8:=rfl;rw[No]at hl;have S3:=Wo.setmid (j:=0) (by simp[vwC]) (.int .i64 v0);have Za:=S3.setmid (j:=1) (by simp[vwC]) (.int .i64 v1);have YW:=Za.setmid (j:=2) (by simp[vwC]) (.int .i64 v2);have Us:=YW.setmid (j:=3) (by simp[vwC]) (.int .i64 v3);have S4:=Us.setmid (j:=4) (by simp[vwC]) (.int .i64 v4);have S5:=S4.setmid (j:=5) (by simp[vwC]) (.int .i64 v5);have S6:=S5.setmid (j:=6) (by simp[vwC]) (.int .u16 v6);have Ut:=S6.setmid (j:=7) (by simp[vwC]) (.slice A7 L.length c7);simp only[hl,Nat.add_zero,vwC,List.cons_append,List.nil_append,List.set_cons_zero,List.set_cons_succ]at Ut;have Ly:=TR.out.size
       have hset:∀x,x≠ql->((((((((w7.setCell ⟨ql,k*8,none⟩ (.int .i64 v0)).setCell ⟨ql,k*8+1,none⟩ (.int .i64 v1)).setCell ⟨ql,k*8+2,none⟩ (.int .i64 v2)).setCell ⟨ql,k*8+3,none⟩ (.int .i64 v3)).setCell ⟨ql,k*8+4,none⟩ (.int .i64 v4)).setCell ⟨ql,k*8+5,none⟩ (.int .i64 v5)).setCell ⟨ql,k*8+6,none⟩ (.int .u16 v6)).setCell ⟨ql,k*8+7,none⟩ (.slice A7 L.length c7)).heap[x]?=w7.heap[x]?:=λx hx=>by simp only[cd _ _ _ hx]
       have YD:wr.grownBy ((((((((w7.setCell ⟨ql,k*8,none⟩ (.int .i64 v0)).setCell ⟨ql,k*8+1,none⟩ (.int .i64 v1)).setCell ⟨ql,k*8+2,none⟩ (.int .i64 v2)).setCell ⟨ql,k*8+3,none⟩ (.int .i64 v3)).setCell ⟨ql,k*8+4,none⟩ (.int .i64 v4)).setCell ⟨ql,k*8+5,none⟩ (.int .i64 v5)).setCell ⟨ql,k*8+6,none⟩ (.int .u16 v6)).setCell ⟨ql,k*8+7,none⟩ (.slice A7 L.length c7)) (some ql):=
        bl (p:=⟨ql,k*8+7,none⟩) (bl (p:=⟨ql,k*8+6,none⟩) (bl (p:=⟨ql,k*8+5,none⟩) (bl (p:=⟨ql,k*8+4,none⟩) (bl (p:=⟨ql,k*8+3,none⟩) (bl (p:=⟨ql,k*8+2,none⟩) (bl (p:=⟨ql,k*8+1,none⟩) (bl (p:=⟨ql,k*8,none⟩) (mr (row:=some ql) TR.out) (.inl rfl) _) (.inl rfl) _) (.inl rfl) _) (.inl rfl) _) (.inl rfl) _) (.inl rfl) _) (.inl rfl) _) (.inl rfl) _
       have S0:=HA.out.buf.hi;have TS:=Lib.hid (HN.out.stepT (d1':=vwC (v0,v1,v2,v3,v4,v5,v6,L) (.slice A7 L.length c7)) HA.out YD (by simpa[vwC]using Ut) (EK (Un.keep λb hb=>hset b (by have:=Yf b hb;omega))) Ye (λb hb=>by have:=Yf b hb;omega));clear S3 Za YW Us S4 S5 S6 Ut hset YD Un Ye Yf Wo
       go_wp2_with fail
       go_roundw
       case rel=>exact⟨k+1,by omega,by go_num,TS.out⟩
       case measure=>simp[intOf];omega
     ·have QE:k=T.length:=by omega
      subst QE;have j0:=HN.out.out.cell 0;have j1:=HN.out.out.cell 1;have r2:=HN.out.res.hi;have r0:=HN.out.res.cell 0;have r1:=HN.out.res.cell 1;have f0:=HN.out.res.free 0;have f1:=HN.out.res.free 1;simp only[List.getElem?_cons_zero,List.getElem?_cons_succ]at j0 j1 r0 r1;have ea:=N7.out;have eb:=RL.out;subst ea;subst eb;clear N7 RL
      go_wp2_with fail
      refine bodyPost_ret (v:=.agg #[.slice A3 C.length c3,.slice A4 T.length c4]) (by simp[results,Tryz.results30,go_sem,r0,r1,r2]) rfl ?_;obtain⟨fp,o1,o2,o3⟩:=HN.out.rg;obtain⟨gp,p1,p2,p3⟩:=HN.out.ts.done UH;have LE:=HN.out.hq;have Lv:=HN.out.hN;refine⟨_,_,fp,gp,rfl,o1.keep λb hb=>?_,p1.keep λb hb=>?_,List.nodup_append.2 ⟨o2,p2,λx hx y hy e=>?_⟩,λx hx=>?_,bl (bl HN.out.grown (.inr (Nat.le_succ _)) _) (.inr (Nat.le_succ _)) _⟩
      ·have h1:=(o3 b hb).1
       have h2:b≠w.heap.size+1:=by omega
       rw[cd _ _ _ h2,cd _ _ _ h2]
      ·have h1:=(p3 b hb).1
       have h2:b≠w.heap.size+1:=by omega
       rw[cd _ _ _ h2,cd _ _ _ h2]
      ·subst e
       rcases(p3 x hy).2 with h|h
       ·exact(o3 x hx).2.2 h
       ·have:=(o3 x hx).2.1;omega
      ·rcases List.mem_append.1 hx with h|h
       ·have:=(o3 x h).1;omega
       ·have:=(p3 x h).1;omega
set_option maxRecDepth 100000 in
set_option maxHeartbeats 4000000 in
theorem Dx(F:Nat->Prop)(C:List (List Cn4))(T:List Vw8)(r i:Int)(cells:List Cn4)(v0 v1 v2 v3 v4 v5 v6:Int)(L:List Cn4)(U V Y Z:Value)(w:World)(fe:Int)
 (hu:RSl rCs w F C U)(hv:RSl rVw w F T V)(hy:RSl rCn w F cells Y)(hz:RSl rCn w F L Z)
 (ZS:∀w',w.grownBy w' none->Calls Tryz.prog 88 #[.agg #[U,V],.agg #[.int .i64 r,.int .i64 i]] w' λe w2=>e=.returned (.int .i64 fe)/\w'.grownBy w2 none)(hne:(fe != 0)=true):
 Calls Tryz.prog 54 #[.agg #[U,V],.agg #[.int .i64 r,.int .i64 i,Y,.int .i64 v0,.int .i64 v1,.int .i64 v2,.int .i64 v3,.int .i64 v4,.int .i64 v5,.int .u16 v6,Z]] w (λe w'=>e=.returned (.tuple #[.agg #[.slice none 0 0,.slice none 0 0],.int .i64 fe])/\w.grownBy w' none):=by
 have HU:=Lib.hid hu;have HV:=Lib.hid hv;have HY:=Lib.hid hy;have HZ:=Lib.hid hz;obtain⟨A1,c1,rfl,_,_,UA⟩:=hu.size_eq;obtain⟨A2,c2,rfl,_,_,UH⟩:=hv.size_eq;obtain⟨A3,c3,rfl,_,_,hcl⟩:=hy.size_eq;obtain⟨A4,c4,rfl,_,_,UF⟩:=hz.size_eq;have HF:=Lib.hid ZS;clear hu hv hy hz ZS
 go_enter Tryz.func54,Tryz.ntmps54
 go_upto_region 1 with fail
 have Zh:w.grownBy (((w.alloc (.cells #[.slice A1 C.length c1,.slice A2 T.length c2] 29)).alloc (.cells #[.int .i64 r,.int .i64 i,.slice A3 cells.length c3,.int .i64 v0,.int .i64 v1,.int .i64 v2,.int .i64 v3,.int .i64 v4,.int .i64 v5,.int .u16 v6,.slice A4 L.length c4] 75)).alloc (.cells #[.slice none 0 0,.slice none 0 0] 29)) none:=be (be (be (bf w none) _) _) _;have Z':Bk (((w.alloc (.cells #[.slice A1 C.length c1,.slice A2 T.length c2] 29)).alloc (.cells #[.int .i64 r,.int .i64 i,.slice A3 cells.length c3,.int .i64 v0,.int .i64 v1,.int .i64 v2,.int .i64 v3,.int .i64 v4,.int .i64 v5,.int .u16 v6,.slice A4 L.length c4] 75)).alloc (.cells #[.slice none 0 0,.slice none 0 0] 29)) w.heap.size 29 [.slice A1 C.length c1,.slice A2 T.length c2]:=(Bk.new.grow (be (bf _ _) _)).grow (be (bf _ _) _)
 have Z8:Bk (((w.alloc (.cells #[.slice A1 C.length c1,.slice A2 T.length c2] 29)).alloc (.cells #[.int .i64 r,.int .i64 i,.slice A3 cells.length c3,.int .i64 v0,.int .i64 v1,.int .i64 v2,.int .i64 v3,.int .i64 v4,.int .i64 v5,.int .u16 v6,.slice A4 L.length c4] 75)).alloc (.cells #[.slice none 0 0,.slice none 0 0] 29)) (w.heap.size+1) 75 [.int .i64 r,.int .i64 i,.slice A3 cells.length c3,.int .i64 v0,.int .i64 v1,.int .i64 v2,.int .i64 v3,.int .i64 v4,.int .i64 v5,.int .u16 v6,.slice A4 L.length c4]:=by
  have h:=(Bk.new (w:=w.alloc (.cells #[.slice A1 C.length c1,.slice A2 T.length c2] 29)) (t:=75) (vs:=[.int .i64 r,.int .i64 i,.slice A3 cells.length c3,.int .i64 v0,.int .i64 v1,.int .i64 v2,.int .i64 v3,.int .i64 v4,.int .i64 v5,.int .u16 v6,.slice A4 L.length c4])).grow (be (bf _ _) (.cells #[.slice none 0 0,.slice none 0 0] 29));simpa using h
 have ZP:Bk (((w.alloc (.cells #[.slice A1 C.length c1,.slice A2 T.length c2] 29)).alloc (.cells #[.int .i64 r,.int .i64 i,.slice A3 cells.length c3,.int .i64 v0,.int .i64 v1,.int .i64 v2,.int .i64 v3,.int .i64 v4,.int .i64 v5,.int .u16 v6,.slice A4 L.length c4] 75)).alloc (.cells #[.slice none 0 0,.slice none 0 0] 29)) (w.heap.size+2) 29 [.slice none 0 0,.slice none 0 0]:=by
  have h:=Bk.new (w:=(w.alloc (.cells #[.slice A1 C.length c1,.slice A2 T.length c2] 29)).alloc (.cells #[.int .i64 r,.int .i64 i,.slice A3 cells.length c3,.int .i64 v0,.int .i64 v1,.int .i64 v2,.int .i64 v3,.int .i64 v4,.int .i64 v5,.int .u16 v6,.slice A4 L.length c4] 75)) (t:=29) (vs:=[.slice none 0 0,.slice none 0 0]);simpa using h
 have hsz:(((w.alloc (.cells #[.slice A1 C.length c1,.slice A2 T.length c2] 29)).alloc (.cells #[.int .i64 r,.int .i64 i,.slice A3 cells.length c3,.int .i64 v0,.int .i64 v1,.int .i64 v2,.int .i64 v3,.int .i64 v4,.int .i64 v5,.int .u16 v6,.slice A4 L.length c4] 75)).alloc (.cells #[.slice none 0 0,.slice none 0 0] 29)).heap.size=w.heap.size+3:=by simp
 generalize((w.alloc (.cells #[.slice A1 C.length c1,.slice A2 T.length c2] 29)).alloc (.cells #[.int .i64 r,.int .i64 i,.slice A3 cells.length c3,.int .i64 v0,.int .i64 v1,.int .i64 v2,.int .i64 v3,.int .i64 v4,.int .i64 v5,.int .u16 v6,.slice A4 L.length c4] 75)).alloc (.cells #[.slice none 0 0,.slice none 0 0] 29)=W at *;have a20:=Z'.cell 0;have a21:=Z'.cell 1;have Xr:=Z8.cell 0;have Xs:=Z8.cell 1;simp only[List.getElem?_cons_zero,List.getElem?_cons_succ]at a20 a21 Xr Xs
 go_wp2_with fail
 refine(HF.out W Zh).mono ?_;rintro e w1 ⟨rfl,Z0⟩;have XG:=Lib.hid (bk Zh Z0);have Za:=Z0.size;have Z':=Z'.grow Z0;have Z8:=Z8.grow Z0;have ZP:=ZP.grow Z0;have Xf:=Z'.cell 0;have Xg:=Z'.cell 1;have XC:=Z8.cell 0;have XD:=Z8.cell 1;have XE:=Z8.cell 2;have WT:=Z8.cell 3;have WU:=Z8.cell 4;have WV:=Z8.cell 5;have WW:=Z8.cell 6;have WX:=Z8.cell 7;have WY:=Z8.cell 8;have WZ:=Z8.cell 9;have YJ:=Z8.cell 10;have Yo:=ZP.cell 0;have Yp:=ZP.cell 1;have VF:=ZP.free 0;have f41:=ZP.free 1;have q4:=ZP.hi;simp only[List.getElem?_cons_zero,List.getElem?_cons_succ]at Xf Xg XC XD XE WT WU WV WW WX WY WZ YJ Yo Yp;have Xi:=Lib.hid Z';have Zc:=Lib.hid Z8;have Wm:=Lib.hid ZP;have HS:=Lib.hid hsz;clear Z' Z8 ZP Zh Z0 HF a20 a21 Xr Xs
 go_wp2_with fail
 refine bodyPost_ret (v:=.tuple #[.agg #[.slice none 0 0,.slice none 0 0],.int .i64 fe]) (by simp[results,Tryz.results54,go_sem,Yo,Yp,q4]) rfl ?_;exact⟨rfl,bl (bl XG.out (.inr (by dsimp only;omega)) _) (.inr (by dsimp only;omega)) _⟩
set_option maxRecDepth 100000 in
set_option maxHeartbeats 4000000 in
theorem AV(F:Nat->Prop)(C:List (List Cn4))(T:List Vw8)(r i:Int)(cells:List Cn4)(v0 v1 v2 v3 v4 v5 v6:Int)(L:List Cn4)(U V Y Z:Value)(w:World)(fe:Int)
 (hu:RSl rCs w F C U)(hv:RSl rVw w F T V)(hy:RSl rCn w F cells Y)(hz:RSl rCn w F L Z)
 (ZS:∀w',w.grownBy w' none->Calls Tryz.prog 88 #[.agg #[U,V],.agg #[.int .i64 r,.int .i64 i]] w' λe w2=>e=.returned (.int .i64 fe)/\w'.grownBy w2 none)(h0:fe=0)(hr:r=-1)(hc:0<cells.length):
 Calls Tryz.prog 54 #[.agg #[U,V],.agg #[.int .i64 r,.int .i64 i,Y,.int .i64 v0,.int .i64 v1,.int .i64 v2,.int .i64 v3,.int .i64 v4,.int .i64 v5,.int .u16 v6,Z]] w (λe w'=>e=.returned (.tuple #[.agg #[.slice none 0 0,.slice none 0 0],.int .i64 5])/\w.grownBy w' none):=by
 subst h0;subst hr;have HU:=Lib.hid hu;have HV:=Lib.hid hv;have HY:=Lib.hid hy;have HZ:=Lib.hid hz;obtain⟨A1,c1,rfl,_,_,UA⟩:=hu.size_eq;obtain⟨A2,c2,rfl,_,_,UH⟩:=hv.size_eq;obtain⟨A3,c3,rfl,_,_,hcl⟩:=hy.size_eq;obtain⟨A4,c4,rfl,_,_,UF⟩:=hz.size_eq;have HF:=Lib.hid ZS;clear hu hv hy hz ZS
 go_enter Tryz.func54,Tryz.ntmps54
 go_upto_region 1 with fail
 have Zh:w.grownBy (((w.alloc (.cells #[.slice A1 C.length c1,.slice A2 T.length c2] 29)).alloc (.cells #[.int .i64 (-1),.int .i64 i,.slice A3 cells.length c3,.int .i64 v0,.int .i64 v1,.int .i64 v2,.int .i64 v3,.int .i64 v4,.int .i64 v5,.int .u16 v6,.slice A4 L.length c4] 75)).alloc (.cells #[.slice none 0 0,.slice none 0 0] 29)) none:=be (be (be (bf w none) _) _) _;have Z':Bk (((w.alloc (.cells #[.slice A1 C.length c1,.slice A2 T.length c2] 29)).alloc (.cells #[.int .i64 (-1),.int .i64 i,.slice A3 cells.length c3,.int .i64 v0,.int .i64 v1,.int .i64 v2,.int .i64 v3,.int .i64 v4,.int .i64 v5,.int .u16 v6,.slice A4 L.length c4] 75)).alloc (.cells #[.slice none 0 0,.slice none 0 0] 29)) w.heap.size 29 [.slice A1 C.length c1,.slice A2 T.length c2]:=(Bk.new.grow (be (bf _ _) _)).grow (be (bf _ _) _)
 have Z8:Bk (((w.alloc (.cells #[.slice A1 C.length c1,.slice A2 T.length c2] 29)).alloc (.cells #[.int .i64 (-1),.int .i64 i,.slice A3 cells.length c3,.int .i64 v0,.int .i64 v1,.int .i64 v2,.int .i64 v3,.int .i64 v4,.int .i64 v5,.int .u16 v6,.slice A4 L.length c4] 75)).alloc (.cells #[.slice none 0 0,.slice none 0 0] 29)) (w.heap.size+1) 75 [.int .i64 (-1),.int .i64 i,.slice A3 cells.length c3,.int .i64 v0,.int .i64 v1,.int .i64 v2,.int .i64 v3,.int .i64 v4,.int .i64 v5,.int .u16 v6,.slice A4 L.length c4]:=by
  have h:=(Bk.new (w:=w.alloc (.cells #[.slice A1 C.length c1,.slice A2 T.length c2] 29)) (t:=75) (vs:=[.int .i64 (-1),.int .i64 i,.slice A3 cells.length c3,.int .i64 v0,.int .i64 v1,.int .i64 v2,.int .i64 v3,.int .i64 v4,.int .i64 v5,.int .u16 v6,.slice A4 L.length c4])).grow (be (bf _ _) (.cells #[.slice none 0 0,.slice none 0 0] 29));simpa using h
 have ZP:Bk (((w.alloc (.cells #[.slice A1 C.length c1,.slice A2 T.length c2] 29)).alloc (.cells #[.int .i64 (-1),.int .i64 i,.slice A3 cells.length c3,.int .i64 v0,.int .i64 v1,.int .i64 v2,.int .i64 v3,.int .i64 v4,.int .i64 v5,.int .u16 v6,.slice A4 L.length c4] 75)).alloc (.cells #[.slice none 0 0,.slice none 0 0] 29)) (w.heap.size+2) 29 [.slice none 0 0,.slice none 0 0]:=by
  have h:=Bk.new (w:=(w.alloc (.cells #[.slice A1 C.length c1,.slice A2 T.length c2] 29)).alloc (.cells #[.int .i64 (-1),.int .i64 i,.slice A3 cells.length c3,.int .i64 v0,.int .i64 v1,.int .i64 v2,.int .i64 v3,.int .i64 v4,.int .i64 v5,.int .u16 v6,.slice A4 L.length c4] 75)) (t:=29) (vs:=[.slice none 0 0,.slice none 0 0]);simpa using h
 have hsz:(((w.alloc (.cells #[.slice A1 C.length c1,.slice A2 T.length c2] 29)).alloc (.cells #[.int .i64 (-1),.int .i64 i,.slice A3 cells.length c3,.int .i64 v0,.int .i64 v1,.int .i64 v2,.int .i64 v3,.int .i64 v4,.int .i64 v5,.int .u16 v6,.slice A4 L.length c4] 75)).alloc (.cells #[.slice none 0 0,.slice none 0 0] 29)).heap.size=w.heap.size+3:=by simp
 generalize((w.alloc (.cells #[.slice A1 C.length c1,.slice A2 T.length c2] 29)).alloc (.cells #[.int .i64 (-1),.int .i64 i,.slice A3 cells.length c3,.int .i64 v0,.int .i64 v1,.int .i64 v2,.int .i64 v3,.int .i64 v4,.int .i64 v5,.int .u16 v6,.slice A4 L.length c4] 75)).alloc (.cells #[.slice none 0 0,.slice none 0 0] 29)=W at *;have a20:=Z'.cell 0;have a21:=Z'.cell 1;have Xr:=Z8.cell 0;have Xs:=Z8.cell 1;simp only[List.getElem?_cons_zero,List.getElem?_cons_succ]at a20 a21 Xr Xs
 go_wp2_with fail
 refine(HF.out W Zh).mono ?_;rintro e w1 ⟨rfl,Z0⟩;have XG:=Lib.hid (bk Zh Z0);have Za:=Z0.size;have Z':=Z'.grow Z0;have Z8:=Z8.grow Z0;have ZP:=ZP.grow Z0;have Xf:=Z'.cell 0;have Xg:=Z'.cell 1;have XC:=Z8.cell 0;have XD:=Z8.cell 1;have XE:=Z8.cell 2;have WT:=Z8.cell 3;have WU:=Z8.cell 4;have WV:=Z8.cell 5;have WW:=Z8.cell 6;have WX:=Z8.cell 7;have WY:=Z8.cell 8;have WZ:=Z8.cell 9;have YJ:=Z8.cell 10;have Yo:=ZP.cell 0;have Yp:=ZP.cell 1;have VF:=ZP.free 0;have f41:=ZP.free 1;have q4:=ZP.hi;simp only[List.getElem?_cons_zero,List.getElem?_cons_succ]at Xf Xg XC XD XE WT WU WV WW WX WY WZ YJ Yo Yp;have Xi:=Lib.hid Z';have Zc:=Lib.hid Z8;have Wm:=Lib.hid ZP;have HS:=Lib.hid hsz;clear Z' Z8 ZP Zh Z0 HF a20 a21 Xr Xs
 have W5:(0:Int)<(cells.length:Int):=by omega
 go_wp2_with fail
 refine bodyPost_ret (v:=.tuple #[.agg #[.slice none 0 0,.slice none 0 0],.int .i64 5]) (by simp[results,Tryz.results54,go_sem,Yo,Yp,q4]) rfl ?_;exact⟨rfl,bl (bl XG.out (.inr (by dsimp only;omega)) _) (.inr (by dsimp only;omega)) _⟩
structure G6 (C:List (List Cn4))(T:List Vw8)(w:World)(q7:Nat)(a b:Value)(wx:World):Prop where
 grown:w.grownBy wx none
 res:Bk wx (w.heap.size+1+1) 29 [.slice none 0 0,.slice none 0 0]
 st:Bk wx q7 29 [a,b]
 ra:RSl rCs wx (λk=>w.heap.size+3<=k) C a
 rb:RSl rVw wx (λk=>w.heap.size+3<=k) T b
def yr(C:List (List Cn4))(T:List Vw8)(w:World)(e:Ending)(w':World):Prop:=
 ∃a b,e=.returned (.tuple #[.agg #[a,b],.int .i64 0])/\RSl rCs w' (λk=>w.heap.size<=k) C a/\RSl rVw w' (λk=>w.heap.size<=k) T b/\w.grownBy w' none
theorem G6.ret{C:List (List Cn4)}{T:List Vw8}{w wx:World}{q7:Nat}{a b x y:Value}(h:G6 C T w q7 a b wx):yr C T w (.returned (.tuple #[.agg #[a,b],.int .i64 0])) ((wx.setCell ⟨w.heap.size+1+1,0,none⟩ x).setCell ⟨w.heap.size+1+1,1,none⟩ y):=by
 have hk:∀k,w.heap.size+3<=k->((wx.setCell ⟨w.heap.size+1+1,0,none⟩ x).setCell ⟨w.heap.size+1+1,1,none⟩ y).heap[k]?=wx.heap[k]?:=λk hk=>by
  have h2:k≠w.heap.size+1+1:=by omega
  rw[cd _ _ _ h2,cd _ _ _ h2]
 refine⟨a,b,rfl,(h.ra.keep hk).sub λk hk=>by omega,(h.rb.keep hk).sub λk hk=>by omega,bl (bl h.grown (.inr (by dsimp only;omega)) _) (.inr (by dsimp only;omega)) _⟩
set_option maxRecDepth 100000 in
set_option maxHeartbeats 4000000 in
theorem yN(F:Nat->Prop)(C:List (List Cn4))(T:List Vw8)(j:Nat)(cells:List Cn4)(v0 v1 v2 v3 v4 v5 v6:Int)(L:List Cn4)(U V Y Z:Value)(w:World)(fe:Int)
 (hu:RSl rCs w F C U)(hv:RSl rVw w F T V)(hy:RSl rCn w F cells Y)(hz:RSl rCn w F L Z)
 (ZS:∀w',w.grownBy w' none->Calls Tryz.prog 88 #[.agg #[U,V],.agg #[.int .i64 (-1),.int .i64 j]] w' λe w2=>e=.returned (.int .i64 fe)/\w'.grownBy w2 none)(h0:fe=0)(hc:cells.length=0)(hj:j<T.length):
 Calls Tryz.prog 54 #[.agg #[U,V],.agg #[.int .i64 (-1),.int .i64 j,Y,.int .i64 v0,.int .i64 v1,.int .i64 v2,.int .i64 v3,.int .i64 v4,.int .i64 v5,.int .u16 v6,Z]] w (yr C (T.set j (v0,v1,v2,v3,v4,v5,v6,L)) w):=by
 subst h0;have Hc:=Lib.hid hc;clear hc;have HU:=Lib.hid hu;have HV:=Lib.hid hv;have HY:=Lib.hid hy;have HZ:=Lib.hid hz;obtain⟨A1,c1,rfl,_,_,UA⟩:=hu.size_eq;obtain⟨A2,c2,rfl,_,_,UH⟩:=hv.size_eq;obtain⟨A3,c3,rfl,_,_,hcl⟩:=hy.size_eq;obtain⟨A4,c4,rfl,_,_,UF⟩:=hz.size_eq;have HF:=Lib.hid ZS;clear hu hv hy hz ZS
 go_enter Tryz.func54,Tryz.ntmps54
 go_upto_region 1 with fail
 have Zh:w.grownBy (((w.alloc (.cells #[.slice A1 C.length c1,.slice A2 T.length c2] 29)).alloc (.cells #[.int .i64 (-1),.int .i64 j,.slice A3 cells.length c3,.int .i64 v0,.int .i64 v1,.int .i64 v2,.int .i64 v3,.int .i64 v4,.int .i64 v5,.int .u16 v6,.slice A4 L.length c4] 75)).alloc (.cells #[.slice none 0 0,.slice none 0 0] 29)) none:=be (be (be (bf w none) _) _) _;have Z':Bk (((w.alloc (.cells #[.slice A1 C.length c1,.slice A2 T.length c2] 29)).alloc (.cells #[.int .i64 (-1),.int .i64 j,.slice A3 cells.length c3,.int .i64 v0,.int .i64 v1,.int .i64 v2,.int .i64 v3,.int .i64 v4,.int .i64 v5,.int .u16 v6,.slice A4 L.length c4] 75)).alloc (.cells #[.slice none 0 0,.slice none 0 0] 29)) w.heap.size 29 [.slice A1 C.length c1,.slice A2 T.length c2]:=(Bk.new.grow (be (bf _ _) _)).grow (be (bf _ _) _)
 have Z8:Bk (((w.alloc (.cells #[.slice A1 C.length c1,.slice A2 T.length c2] 29)).alloc (.cells #[.int .i64 (-1),.int .i64 j,.slice A3 cells.length c3,.int .i64 v0,.int .i64 v1,.int .i64 v2,.int .i64 v3,.int .i64 v4,.int .i64 v5,.int .u16 v6,.slice A4 L.length c4] 75)).alloc (.cells #[.slice none 0 0,.slice none 0 0] 29)) (w.heap.size+1) 75 [.int .i64 (-1),.int .i64 j,.slice A3 cells.length c3,.int .i64 v0,.int .i64 v1,.int .i64 v2,.int .i64 v3,.int .i64 v4,.int .i64 v5,.int .u16 v6,.slice A4 L.length c4]:=by
  have h:=(Bk.new (w:=w.alloc (.cells #[.slice A1 C.length c1,.slice A2 T.length c2] 29)) (t:=75) (vs:=[.int .i64 (-1),.int .i64 j,.slice A3 cells.length c3,.int .i64 v0,.int .i64 v1,.int .i64 v2,.int .i64 v3,.int .i64 v4,.int .i64 v5,.int .u16 v6,.slice A4 L.length c4])).grow (be (bf _ _) (.cells #[.slice none 0 0,.slice none 0 0] 29));simpa using h
 have ZP:Bk (((w.alloc (.cells #[.slice A1 C.length c1,.slice A2 T.length c2] 29)).alloc (.cells #[.int .i64 (-1),.int .i64 j,.slice A3 cells.length c3,.int .i64 v0,.int .i64 v1,.int .i64 v2,.int .i64 v3,.int .i64 v4,.int .i64 v5,.int .u16 v6,.slice A4 L.length c4] 75)).alloc (.cells #[.slice none 0 0,.slice none 0 0] 29)) (w.heap.size+2) 29 [.slice none 0 0,.slice none 0 0]:=by
  have h:=Bk.new (w:=(w.alloc (.cells #[.slice A1 C.length c1,.slice A2 T.length c2] 29)).alloc (.cells #[.int .i64 (-1),.int .i64 j,.slice A3 cells.length c3,.int .i64 v0,.int .i64 v1,.int .i64 v2,.int .i64 v3,.int .i64 v4,.int .i64 v5,.int .u16 v6,.slice A4 L.length c4] 75)) (t:=29) (vs:=[.slice none 0 0,.slice none 0 0]);simpa using h
 have hsz:(((w.alloc (.cells #[.slice A1 C.length c1,.slice A2 T.length c2] 29)).alloc (.cells #[.int .i64 (-1),.int .i64 j,.slice A3 cells.length c3,.int .i64 v0,.int .i64 v1,.int .i64 v2,.int .i64 v3,.int .i64 v4,.int .i64 v5,.int .u16 v6,.slice A4 L.length c4] 75)).alloc (.cells #[.slice none 0 0,.slice none 0 0] 29)).heap.size=w.heap.size+3:=by simp
 generalize((w.alloc (.cells #[.slice A1 C.length c1,.slice A2 T.length c2] 29)).alloc (.cells #[.int .i64 (-1),.int .i64 j,.slice A3 cells.length c3,.int .i64 v0,.int .i64 v1,.int .i64 v2,.int .i64 v3,.int .i64 v4,.int .i64 v5,.int .u16 v6,.slice A4 L.length c4] 75)).alloc (.cells #[.slice none 0 0,.slice none 0 0] 29)=W at *;have a20:=Z'.cell 0;have a21:=Z'.cell 1;have Xr:=Z8.cell 0;have Xs:=Z8.cell 1;simp only[List.getElem?_cons_zero,List.getElem?_cons_succ]at a20 a21 Xr Xs
 go_wp2_with fail
 refine(HF.out W Zh).mono ?_;rintro e w1 ⟨rfl,Z0⟩;have XG:=Lib.hid (bk Zh Z0);have Za:=Z0.size;have Z':=Z'.grow Z0;have Z8:=Z8.grow Z0;have ZP:=ZP.grow Z0;have Xf:=Z'.cell 0;have Xg:=Z'.cell 1;have XC:=Z8.cell 0;have XD:=Z8.cell 1;have XE:=Z8.cell 2;have WT:=Z8.cell 3;have WU:=Z8.cell 4;have WV:=Z8.cell 5;have WW:=Z8.cell 6;have WX:=Z8.cell 7;have WY:=Z8.cell 8;have WZ:=Z8.cell 9;have YJ:=Z8.cell 10;have Yo:=ZP.cell 0;have Yp:=ZP.cell 1;have VF:=ZP.free 0;have f41:=ZP.free 1;have q4:=ZP.hi;simp only[List.getElem?_cons_zero,List.getElem?_cons_succ]at Xf Xg XC XD XE WT WU WV WW WX WY WZ YJ Yo Yp;have Xi:=Lib.hid Z';have Zc:=Lib.hid Z8;have Wm:=Lib.hid ZP;have HS:=Lib.hid hsz;clear Z' Z8 ZP Zh Z0 HF a20 a21 Xr Xs
 have W5:¬(0:Int)<(cells.length:Int):=by have:=Hc.out;omega
 go_wp2_with fail
 refine(j9 F C T _ _ w1 (HU.out.grow XG.out) (HV.out.grow XG.out)).mono ?_;rintro e w2 ⟨a,b,fp,gp,rfl,oa,ob,ZQ,X7,ZH⟩;obtain⟨A5,c5,rfl⟩:=oa.shape;have LY:=Lib.hid ob;obtain⟨hb,⟨e1,e2,_⟩|⟨ql,cl,cs,g,rfl,e2,l1,l2,hV,hO⟩⟩:=ob
 ·rw[e2]at hj;cases hj
 obtain⟨g1,g2,g3,d1,d2,d3,e3,e4,l3,o1,o2,o3⟩:=hO.split hj;have hd2:=rVw.len (rVw.reads o2)
 obtain⟨x0,x1,x2,x3,x4,x5,x6,x7,rfl⟩:∃x0 x1 x2 x3 x4 x5 x6 x7,d2=[x0,x1,x2,x3,x4,x5,x6,x7]:=by
  match d2,hd2 with
  | [x0,x1,x2,x3,x4,x5,x6,x7],_=>exact⟨_,_,_,_,_,_,_,_,rfl⟩
 have XI:w2.grownBy (w2.alloc (.cells #[.slice A5 C.length c5,.slice (some ⟨ql,0,none⟩) T.length cl] 29)) none:=be (bf _ _) _;have T7:Bk (w2.alloc (.cells #[.slice A5 C.length c5,.slice (some ⟨ql,0,none⟩) T.length cl] 29)) w2.heap.size 29 [.slice A5 C.length c5,.slice (some ⟨ql,0,none⟩) T.length cl]:=Bk.new;have TA:=bk (bk XG.out ZH) XI;have Z8:=(Zc.out.grow ZH).grow XI;have YW:=ZH.size;have QP:=X7 ql (by rw[e2];simp);have S0:=hV.hi;have Px:=Lib.hid (And.intro ZQ (And.intro X7 (And.intro e2 (And.intro e3 (And.intro o1 (And.intro o3 oa))))));rw[e4]at hV;have Vv:=Lib.hid (hV.grow XI);have HL:=Lib.hid (show d1.length=j*8 from l3);have RJ:=Lib.hid TA;have Wy:=Lib.hid (bk ZH XI);have VC:=Lib.hid XI;clear Xf Xg XC XD XE WT WU WV WW WX WY WZ YJ Yo Yp VF f41 ZQ X7 e3 e4 o1 o2 o3 oa hd2 l3 hO hV hb
 go_upto_region 8 with fail
 generalize w2.alloc (.cells #[.slice A5 C.length c5,.slice (some ⟨ql,0,none⟩) T.length cl] 29)=W3 at *;generalize hq7:w2.heap.size=q7 at *;have Zc:=Lib.hid Z8;have Rn:=Lib.hid T7;have m1:=T7.cell 1;have XC:=Z8.cell 0;have XD:=Z8.cell 1;have XE:=Z8.cell 2;have WT:=Z8.cell 3;have WU:=Z8.cell 4;have WV:=Z8.cell 5;have WW:=Z8.cell 6;have WX:=Z8.cell 7;have WY:=Z8.cell 8;have WZ:=Z8.cell 9;have YJ:=Z8.cell 10;simp only[List.getElem?_cons_zero,List.getElem?_cons_succ]at m1 XC XD XE WT WU WV WW WX WY WZ YJ
 have LQ:(0:Int)<=(j:Int):=by omega
 have LR:(j:Int)<(T.length:Int):=by omega
 have LS:(j:Int).toNat=j:=by omega
 have HC:=Lib.hid (show ∀(w':World),W3.grownBy w' none->∀n,n<8->w'.cell? ⟨ql,j*8+n,none⟩=some ([x0,x1,x2,x3,x4,x5,x6,x7].getD n undef)from λw' hg n hn=>by
  have h:=(Vv.out.grow hg);rw[List.append_assoc]at h
  have h2:=h.mid (j:=n) (u:=[x0,x1,x2,x3,x4,x5,x6,x7].getD n undef) (by
   rw[List.getElem?_append_left (by simpa using hn)]
   have Wr:n=0\/n=1\/n=2\/n=3\/n=4\/n=5\/n=6\/n=7:=by omega
   rcases Wr with rfl|rfl|rfl|rfl|rfl|rfl|rfl|rfl<;>rfl)
  rw[HL.out]at h2
  exact h2)
 clear Z8 T7 XI TA
 go_cut []from 28 to 37 (λwx=>G6 C (T.set j (v0,v1,v2,v3,v4,v5,v6,L)) w q7 (.slice A5 C.length c5) (.slice (some ⟨ql,0,none⟩) T.length cl) wx)
 case first=>
  go_region_with (go_at_call 67;refine(mA F v0 v1 v2 v3 v4 v5 v6 L _ _ ((HZ.out.grow RJ.out).grow (dn (bf _ _)))).mono ?_;rintro e w4 ⟨z,rfl,QH,YU⟩;obtain⟨A7,c7,rfl⟩:=QH.shape;have YU:=bk (dn (bf W3 none)) YU;have n1:=(Rn.out.grow YU).cell 1;have n3:=(Zc.out.grow YU).cell 1;simp only[List.getElem?_cons_zero,List.getElem?_cons_succ]at n1 n3;have o0:=HC.out w4 YU 0 (by decide);have o1:=HC.out w4 YU 1 (by decide);have o2:=HC.out w4 YU 2 (by decide);have o3:=HC.out w4 YU 3 (by decide);have o4:=HC.out w4 YU 4 (by decide);have o5:=HC.out w4 YU 5 (by decide);have o6:=HC.out w4 YU 6 (by decide);have o7:=HC.out w4 YU 7 (by decide);have z0:=(Vv.out.grow YU).free (j*8);have z1:=(Vv.out.grow YU).free (j*8+1);have z2:=(Vv.out.grow YU).free (j*8+2);have z3:=(Vv.out.grow YU).free (j*8+3);have z4:=(Vv.out.grow YU).free (j*8+4);have z5:=(Vv.out.grow YU).free (j*8+5);have z6:=(Vv.out.grow YU).free (j*8+6);have z7:=(Vv.out.grow YU).free (j*8+7);simp only[List.getD_cons_zero,List.getD_cons_succ,Nat.add_zero]at o0 o1 o2 o3 o4 o5 o6 o7;have Pu:=Lib.hid YU;have LX:=Lib.hid QH;clear QH YU)
  all_goals
   have YU:=Pu.out;obtain⟨zp,Un,Ye,Yf⟩:=LX.out.done
   replace Yf:∀b,b∈zp->W3.heap.size<=b:=λb hb=>by
    have h1:W3.heap.size+2<=b:=Yf b hb;omega
   obtain⟨ZQ,X7,e2,e3,Pn,Po,oa⟩:=Px.out;have Wo:=Vv.out.grow YU;rw[List.append_assoc]at Wo;have S3:=Wo.setmid (j:=0) (by simp) (.int .i64 v0);have Za:=S3.setmid (j:=1) (by simp) (.int .i64 v1);have YW:=Za.setmid (j:=2) (by simp) (.int .i64 v2);have Us:=YW.setmid (j:=3) (by simp) (.int .i64 v3);have S4:=Us.setmid (j:=4) (by simp) (.int .i64 v4);have S5:=S4.setmid (j:=5) (by simp) (.int .i64 v5);have S6:=S5.setmid (j:=6) (by simp) (.int .u16 v6);have Ut:=S6.setmid (j:=7) (by simp) (.slice A7 L.length c7);simp only[HL.out,Nat.add_zero,List.cons_append,List.nil_append,List.set_cons_zero,List.set_cons_succ]at Ut
   have hset:∀x,x≠ql->((((((((w4.setCell ⟨ql,j*8,none⟩ (.int .i64 v0)).setCell ⟨ql,j*8+1,none⟩ (.int .i64 v1)).setCell ⟨ql,j*8+2,none⟩ (.int .i64 v2)).setCell ⟨ql,j*8+3,none⟩ (.int .i64 v3)).setCell ⟨ql,j*8+4,none⟩ (.int .i64 v4)).setCell ⟨ql,j*8+5,none⟩ (.int .i64 v5)).setCell ⟨ql,j*8+6,none⟩ (.int .u16 v6)).setCell ⟨ql,j*8+7,none⟩ (.slice A7 L.length c7)).heap[x]?=w4.heap[x]?:=λx hx=>by simp only[cd _ _ _ hx]
   have YD:W3.grownBy ((((((((w4.setCell ⟨ql,j*8,none⟩ (.int .i64 v0)).setCell ⟨ql,j*8+1,none⟩ (.int .i64 v1)).setCell ⟨ql,j*8+2,none⟩ (.int .i64 v2)).setCell ⟨ql,j*8+3,none⟩ (.int .i64 v3)).setCell ⟨ql,j*8+4,none⟩ (.int .i64 v4)).setCell ⟨ql,j*8+5,none⟩ (.int .i64 v5)).setCell ⟨ql,j*8+6,none⟩ (.int .u16 v6)).setCell ⟨ql,j*8+7,none⟩ (.slice A7 L.length c7)) (some ql):=(bl (p:=⟨ql,j*8+7,none⟩) (bl (p:=⟨ql,j*8+6,none⟩) (bl (p:=⟨ql,j*8+5,none⟩) (bl (p:=⟨ql,j*8+4,none⟩) (bl (p:=⟨ql,j*8+3,none⟩) (bl (p:=⟨ql,j*8+2,none⟩) (bl (p:=⟨ql,j*8+1,none⟩) (bl (p:=⟨ql,j*8,none⟩) (mr (row:=some ql) YU) (.inl rfl) _) (.inl rfl) _) (.inl rfl) _) (.inl rfl) _) (.inl rfl) _) (.inl rfl) _) (.inl rfl) _) (.inl rfl) _);have LG:=Pu.out.size;have Vc:=Wy.out.size;have Qu:=VC.out.size;have Qn:∀x,x∈fp->x≠ql:=λx hx e=>(List.nodup_append.1 ZQ).2.2 x hx ql (by rw[e2];simp) e
   have Ry:(ql::(g1++g2++g3)).Nodup:=by
    have:=(List.nodup_append.1 ZQ).2.1;rw[e2,e3]at this;exact this
   have Rx:∀x,x∈g1++g2++g3->x≠ql/\x<W3.heap.size:=λx hx=>⟨λe=>(List.nodup_cons.1 Ry).1 (e▸hx),by
    have h1:x∈gp:=by rw[e2,e3];exact List.mem_cons_of_mem _ hx
    have h2:=LY.out.live x h1
    omega⟩
   have Yl:∀x,x<w2.heap.size->x≠ql->((((((((w4.setCell ⟨ql,j*8,none⟩ (.int .i64 v0)).setCell ⟨ql,j*8+1,none⟩ (.int .i64 v1)).setCell ⟨ql,j*8+2,none⟩ (.int .i64 v2)).setCell ⟨ql,j*8+3,none⟩ (.int .i64 v3)).setCell ⟨ql,j*8+4,none⟩ (.int .i64 v4)).setCell ⟨ql,j*8+5,none⟩ (.int .i64 v5)).setCell ⟨ql,j*8+6,none⟩ (.int .u16 v6)).setCell ⟨ql,j*8+7,none⟩ (.slice A7 L.length c7)).heap[x]?=w2.heap[x]?:=λx h1 h2=>by
    rw[hset x h2,Pu.out.block x (by omega) (by simp),VC.out.block x h1 (by simp)]
   have TS:=Lib.hid (show G6 C (T.set j (v0,v1,v2,v3,v4,v5,v6,L)) w q7 (.slice A5 C.length c5) (.slice (some ⟨ql,0,none⟩) T.length cl) ((((((((w4.setCell ⟨ql,j*8,none⟩ (.int .i64 v0)).setCell ⟨ql,j*8+1,none⟩ (.int .i64 v1)).setCell ⟨ql,j*8+2,none⟩ (.int .i64 v2)).setCell ⟨ql,j*8+3,none⟩ (.int .i64 v3)).setCell ⟨ql,j*8+4,none⟩ (.int .i64 v4)).setCell ⟨ql,j*8+5,none⟩ (.int .i64 v5)).setCell ⟨ql,j*8+6,none⟩ (.int .u16 v6)).setCell ⟨ql,j*8+7,none⟩ (.slice A7 L.length c7))from by
    have Ns:=HS.out;have Vh:∀x,x∈gp->w1.heap.size+2<=x:=λx hx=>X7 x (List.mem_append_right _ hx)
    have hin:∀x,x∈g1++g2++g3->x∈gp:=λx hx=>by rw[e2,e3];exact List.mem_cons_of_mem _ hx
    refine⟨gQ RJ.out YD λk e=>by injection e with e;omega,((Wm.out.grow Wy.out).grow YU).keep (hset _ (by omega)),(Rn.out.grow YU).keep (hset _ (by omega)),?_,?_⟩
    ·exact((oa.keep λx hx=>Yl x (by have:=oa.live x hx;omega) (Qn x hx)).reads).sub λx hx=>by have:=X7 x (List.mem_append_left _ hx);omega
    ·have hown:OSl rVw 73 (((((((((w4.setCell ⟨ql,j*8,none⟩ (.int .i64 v0)).setCell ⟨ql,j*8+1,none⟩ (.int .i64 v1)).setCell ⟨ql,j*8+2,none⟩ (.int .i64 v2)).setCell ⟨ql,j*8+3,none⟩ (.int .i64 v3)).setCell ⟨ql,j*8+4,none⟩ (.int .i64 v4)).setCell ⟨ql,j*8+5,none⟩ (.int .i64 v5)).setCell ⟨ql,j*8+6,none⟩ (.int .u16 v6)).setCell ⟨ql,j*8+7,none⟩ (.slice A7 L.length c7))) (ql::(g1++zp++g3)) (T.set j (v0,v1,v2,v3,v4,v5,v6,L)) (.slice (some ⟨ql,0,none⟩) T.length cl):=by
      refine⟨by rw[List.length_set];exact UH,.inr ⟨ql,cl,d1++vwC (v0,v1,v2,v3,v4,v5,v6,L) (.slice A7 L.length c7)++d3,g1++zp++g3,by rw[List.length_set],rfl,by rw[List.length_set];exact l1,l2,by simpa[vwC]using Ut,gY.join hj (Pn.keep λx hx=>Yl x (by have:=Pn.live x hx;omega) (Rx x (by simp[hx])).1) (EK (Un.keep λx hx=>hset x (by have:=Yf x hx;omega))) (Po.keep λx hx=>Yl x (by have:=Po.live x hx;omega) (Rx x (by simp[hx])).1)⟩⟩
     exact hown.reads.sub λx hx=>by
      rcases List.mem_cons.1 hx with rfl|hx
      ·omega
      ·rcases List.mem_append.1 hx with hx|hx
       ·rcases List.mem_append.1 hx with hx|hx
        ·have:=Vh x (hin x (by simp[hx]));omega
        ·have:=Yf x hx;omega
       ·have:=Vh x (hin x (by simp[hx]));omega)
   clear S3 Za YW Us S4 S5 S6 Ut hset YD Un Ye Yf Wo
   go_wp2_with fail
   go_meet
   exact TS.out
 case rest=>
  have HD:=Lib.hid hcut;have j0:=hcut.st.cell 0;have j1:=hcut.st.cell 1;have r0:=hcut.res.cell 0;have r1:=hcut.res.cell 1;have f0:=hcut.res.free 0;have f1:=hcut.res.free 1;have r2:=hcut.res.hi;simp only[List.getElem?_cons_zero,List.getElem?_cons_succ]at j0 j1 r0 r1;clear hcut m1
  go_wp2_with fail
  refine bodyPost_ret (v:=.tuple #[.agg #[.slice A5 C.length c5,.slice (some ⟨ql,0,none⟩) T.length cl],.int .i64 0]) (by simp[results,Tryz.results54,go_sem,r0,r1,r2]) rfl ?_;exact HD.out.ret
def yu(v:Value)(w:World)(e:Ending)(w':World):Prop:=e=.returned v/\w.grownBy w' none
theorem IA(A:Option Addr)(n c:Nat)(i:Int)(w:World)(h:32<i):Calls Tryz.prog 90 #[.slice A n c,.int .i64 i] w (yu (.slice none 0 0) w):=by
 have h0:¬i<0:=by omega
 go_enter Tryz.func90,Tryz.ntmps90
 go_wp2_with fail
 go_ret
 exact⟨rfl,bf _ _⟩
theorem tV{b o o' n n' c c':Nat}(h1:o=o')(h2:n=n')(h3:c=c'):Ending.returned (.slice (some ⟨b,o,none⟩) n c)=.returned (.slice (some ⟨b,o',none⟩) n' c'):=by rw[h1,h2,h3]
theorem vL(b o n c:Nat)(j:Nat)(w:World)(h:j<=32)(hn:8*j<n)(hc:n<=c)(hm:n<=1099511627776):Calls Tryz.prog 90 #[.slice (some ⟨b,o,none⟩) n c,.int .i64 j] w (yu (.slice (some ⟨b,o+8*j*4,none⟩) (min 8 (n-8*j)) (c-8*j)) w):=by
 have h0:¬(j:Int)<0:=by omega
 have h1:¬(32:Int)<(j:Int):=by omega
 have h2:¬(n:Int)<=(j:Int)*8:=by omega
 have h3:(j:Int)*8<(n:Int):=by omega
 go_enter Tryz.func90,Tryz.ntmps90
 go_wp2_with fail
 all_goals
  go_ret
  refine⟨?_,bf _ _⟩;exact tV (by omega) (by omega) (by omega)
theorem BC(b o n c:Nat)(j:Nat)(w:World)(h:j<=32)(hn:8*j<n)(hc:n<=c)(hm:n<=1099511627776):Calls Tryz.prog 90 #[.slice (some ⟨b,o,none⟩) n c,.int .i64 j] w λe w'=>e=.returned (.slice (some ⟨b,o+8*j*4,none⟩) (min 8 (n-8*j)) (c-8*j))/\w'=w:=by
 have h0:¬(j:Int)<0:=by omega
 have h1:¬(32:Int)<(j:Int):=by omega
 have h2:¬(n:Int)<=(j:Int)*8:=by omega
 have h3:(j:Int)*8<(n:Int):=by omega
 go_enter Tryz.func90,Tryz.ntmps90
 go_wp2_with fail
 all_goals
  go_ret
  refine⟨?_,rfl⟩;exact tV (by omega) (by omega) (by omega)
set_option maxRecDepth 100000 in
set_option maxHeartbeats 4000000 in
theorem AU(F:Nat->Prop)(C:List (List Cn4))(T:List Vw8)(k j:Nat)(cells:List Cn4)(v0 v1 v2 v3 v4 v5 v6:Int)(L:List Cn4)(U V Y Z:Value)(w:World)(fe:Int)
 (hu:RSl rCs w F C U)(hv:RSl rVw w F T V)(hy:RSl rCn w F cells Y)(hz:RSl rCn w F L Z)
 (ZS:∀w',w.grownBy w' none->Calls Tryz.prog 88 #[.agg #[U,V],.agg #[.int .i64 k,.int .i64 j]] w' λe w2=>e=.returned (.int .i64 fe)/\w'.grownBy w2 none)
 (eb:Bool)(ZB:∀w',w.grownBy w' none->Calls Tryz.prog 91 #[.agg #[.int .i64 v0,.int .i64 v1,.int .i64 v2,.int .i64 v3,.int .i64 v4,.int .i64 v5,.int .u16 v6,Z]] w' λe w2=>e=.returned (.bool eb)/\w'.grownBy w2 none)(h0:fe=0)(hk:k<C.length)(hj:j<=32)(XJ:8*j<C[k].length)(hc:cells.length≠min 8 (C[k].length-8*j)):
 Calls Tryz.prog 54 #[.agg #[U,V],.agg #[.int .i64 k,.int .i64 j,Y,.int .i64 v0,.int .i64 v1,.int .i64 v2,.int .i64 v3,.int .i64 v4,.int .i64 v5,.int .u16 v6,Z]] w (λe w'=>e=.returned (.tuple #[.agg #[.slice none 0 0,.slice none 0 0],.int .i64 5])/\w.grownBy w' none):=by
 subst h0;have Hc:=Lib.hid hc;clear hc;have HU:=Lib.hid hu;have HV:=Lib.hid hv;have HY:=Lib.hid hy;have HZ:=Lib.hid hz;obtain⟨A1,c1,rfl,_,_,UA⟩:=hu.size_eq;obtain⟨A2,c2,rfl,_,_,UH⟩:=hv.size_eq;obtain⟨A3,c3,rfl,_,_,hcl⟩:=hy.size_eq;obtain⟨A4,c4,rfl,_,_,UF⟩:=hz.size_eq;have HF:=Lib.hid ZS;clear hu hv hy hz ZS
 go_enter Tryz.func54,Tryz.ntmps54
 go_upto_region 1 with fail
 have Zh:w.grownBy (((w.alloc (.cells #[.slice A1 C.length c1,.slice A2 T.length c2] 29)).alloc (.cells #[.int .i64 k,.int .i64 j,.slice A3 cells.length c3,.int .i64 v0,.int .i64 v1,.int .i64 v2,.int .i64 v3,.int .i64 v4,.int .i64 v5,.int .u16 v6,.slice A4 L.length c4] 75)).alloc (.cells #[.slice none 0 0,.slice none 0 0] 29)) none:=be (be (be (bf w none) _) _) _;have Z':Bk (((w.alloc (.cells #[.slice A1 C.length c1,.slice A2 T.length c2] 29)).alloc (.cells #[.int .i64 k,.int .i64 j,.slice A3 cells.length c3,.int .i64 v0,.int .i64 v1,.int .i64 v2,.int .i64 v3,.int .i64 v4,.int .i64 v5,.int .u16 v6,.slice A4 L.length c4] 75)).alloc (.cells #[.slice none 0 0,.slice none 0 0] 29)) w.heap.size 29 [.slice A1 C.length c1,.slice A2 T.length c2]:=(Bk.new.grow (be (bf _ _) _)).grow (be (bf _ _) _)
 have Z8:Bk (((w.alloc (.cells #[.slice A1 C.length c1,.slice A2 T.length c2] 29)).alloc (.cells #[.int .i64 k,.int .i64 j,.slice A3 cells.length c3,.int .i64 v0,.int .i64 v1,.int .i64 v2,.int .i64 v3,.int .i64 v4,.int .i64 v5,.int .u16 v6,.slice A4 L.length c4] 75)).alloc (.cells #[.slice none 0 0,.slice none 0 0] 29)) (w.heap.size+1) 75 [.int .i64 k,.int .i64 j,.slice A3 cells.length c3,.int .i64 v0,.int .i64 v1,.int .i64 v2,.int .i64 v3,.int .i64 v4,.int .i64 v5,.int .u16 v6,.slice A4 L.length c4]:=by
  have h:=(Bk.new (w:=w.alloc (.cells #[.slice A1 C.length c1,.slice A2 T.length c2] 29)) (t:=75) (vs:=[.int .i64 k,.int .i64 j,.slice A3 cells.length c3,.int .i64 v0,.int .i64 v1,.int .i64 v2,.int .i64 v3,.int .i64 v4,.int .i64 v5,.int .u16 v6,.slice A4 L.length c4])).grow (be (bf _ _) (.cells #[.slice none 0 0,.slice none 0 0] 29));simpa using h
 have ZP:Bk (((w.alloc (.cells #[.slice A1 C.length c1,.slice A2 T.length c2] 29)).alloc (.cells #[.int .i64 k,.int .i64 j,.slice A3 cells.length c3,.int .i64 v0,.int .i64 v1,.int .i64 v2,.int .i64 v3,.int .i64 v4,.int .i64 v5,.int .u16 v6,.slice A4 L.length c4] 75)).alloc (.cells #[.slice none 0 0,.slice none 0 0] 29)) (w.heap.size+2) 29 [.slice none 0 0,.slice none 0 0]:=by
  have h:=Bk.new (w:=(w.alloc (.cells #[.slice A1 C.length c1,.slice A2 T.length c2] 29)).alloc (.cells #[.int .i64 k,.int .i64 j,.slice A3 cells.length c3,.int .i64 v0,.int .i64 v1,.int .i64 v2,.int .i64 v3,.int .i64 v4,.int .i64 v5,.int .u16 v6,.slice A4 L.length c4] 75)) (t:=29) (vs:=[.slice none 0 0,.slice none 0 0]);simpa using h
 have hsz:(((w.alloc (.cells #[.slice A1 C.length c1,.slice A2 T.length c2] 29)).alloc (.cells #[.int .i64 k,.int .i64 j,.slice A3 cells.length c3,.int .i64 v0,.int .i64 v1,.int .i64 v2,.int .i64 v3,.int .i64 v4,.int .i64 v5,.int .u16 v6,.slice A4 L.length c4] 75)).alloc (.cells #[.slice none 0 0,.slice none 0 0] 29)).heap.size=w.heap.size+3:=by simp
 generalize((w.alloc (.cells #[.slice A1 C.length c1,.slice A2 T.length c2] 29)).alloc (.cells #[.int .i64 k,.int .i64 j,.slice A3 cells.length c3,.int .i64 v0,.int .i64 v1,.int .i64 v2,.int .i64 v3,.int .i64 v4,.int .i64 v5,.int .u16 v6,.slice A4 L.length c4] 75)).alloc (.cells #[.slice none 0 0,.slice none 0 0] 29)=W at *;have a20:=Z'.cell 0;have a21:=Z'.cell 1;have Xr:=Z8.cell 0;have Xs:=Z8.cell 1;simp only[List.getElem?_cons_zero,List.getElem?_cons_succ]at a20 a21 Xr Xs
 go_wp2_with fail
 refine(HF.out W Zh).mono ?_;rintro e w1 ⟨rfl,Z0⟩;have XG:=Lib.hid (bk Zh Z0);have Za:=Z0.size;have Z':=Z'.grow Z0;have Z8:=Z8.grow Z0;have ZP:=ZP.grow Z0;have Xf:=Z'.cell 0;have Xg:=Z'.cell 1;have XC:=Z8.cell 0;have XD:=Z8.cell 1;have XE:=Z8.cell 2;have WT:=Z8.cell 3;have WU:=Z8.cell 4;have WV:=Z8.cell 5;have WW:=Z8.cell 6;have WX:=Z8.cell 7;have WY:=Z8.cell 8;have WZ:=Z8.cell 9;have YJ:=Z8.cell 10;have Yo:=ZP.cell 0;have Yp:=ZP.cell 1;have VF:=ZP.free 0;have f41:=ZP.free 1;have q4:=ZP.hi;simp only[List.getElem?_cons_zero,List.getElem?_cons_succ]at Xf Xg XC XD XE WT WU WV WW WX WY WZ YJ Yo Yp;have Xi:=Lib.hid Z';have Zc:=Lib.hid Z8;have Wm:=Lib.hid ZP;have HS:=Lib.hid hsz;clear Z' Z8 ZP Zh Z0 HF a20 a21 Xr Xs
 have SC:((k:Int)==-1)=false:=by simp
 have V1:¬(k:Int)=-1:=by omega
 have HE:=Lib.hid (λW hg=>ZB W hg);clear ZB;obtain⟨bR,oR,cR,ds,R3,OJ,Tv,_,R2,UG⟩:=(HU.out.grow XG.out).at_ hk
 injection R3 with VM R4 VN
 subst VM;subst VN;obtain⟨hdr,rfl,ZI⟩:=R2;have WJ:=UG 0 _ rfl;rw[show oR+(k*rCs.size+0)=oR+k by rw[show rCs.size=1 from rfl,Nat.mul_one,Nat.add_zero]]at WJ;obtain⟨AK,cK,rfl,VI,UE,VJ⟩:=ZI.size_eq;have RX:=ZI;obtain⟨bK,oK,Oc,xs,RY,_,_,_,_,_⟩:=ZI.at_ (k:=8*j) XJ
 injection RY with VK R0 VL
 subst VK;subst VL;obtain⟨N,hN⟩:∃N,N=C[k].length:=⟨_,rfl⟩;rw[<- hN]at XJ VI VJ WJ;have Xj:=Lib.hid hN;clear hN RX ZI UG
 have y1:(0:Int)<=(k:Int):=by omega
 have y2:(k:Int)<(C.length:Int):=by omega
 have y3:(k:Int).toNat=k:=by omega
 obtain⟨n,hn⟩:∃n,n=min 8 (N-8*j):=⟨_,rfl⟩;have Hn:=Lib.hid hn;have HJ:=Lib.hid (And.intro hj (And.intro XJ (And.intro VI VJ)));clear hn hj XJ VI UE VJ hcl V1
 go_upto_region 10 with fail
 have OL:((cells.length:Int) != (n:Int))=true:=by
  have h1:=Hc.out;rw[<- Xj.out,<- Hn.out]at h1;simp;omega
 clear Yo Yp VF f41 q4;have U1:=Lib.hid WJ;clear WJ
 refine fM (λw'=>w1.grownBy w' none) (λ_ _=>True)
  [bG (.pointer (some ⟨w.heap.size+1,2,none⟩)),bG (.slice A3 cells.length c3),bG (.int .i64 cells.length),bG (.pointer (some ⟨w.heap.size,0,none⟩)),bG (.slice (some ⟨bR,oR,none⟩) C.length c1),bG (.pointer (some ⟨w.heap.size+1,0,none⟩)),bG (.pointer (some ⟨w.heap.size+1,0,none⟩)),bG (.int .i64 k),bG (.pointer (some ⟨bR,oR+k,none⟩)),bG (.slice (some ⟨bK,oK,none⟩) N cK),bG (.pointer (some ⟨w.heap.size+1,0,none⟩)),bG (.pointer (some ⟨w.heap.size+1,1,none⟩)),bG (.int .i64 j),bG (.slice (some ⟨bK,oK+8*j*4,none⟩) n (cK-8*j)),bG (.int .i64 n),bG (.bool true),bG (.bool true),bG (undef),bG (undef),bG (undef),bG (undef),bG (.bool true)]
  78 (by kernel_rfl) rfl (by kernel_rfl) (dn (bf _ _)) (λ_=>trivial) ?_ ?_ ?_
 ·exact⟨bG.kept,bG.kept,bG.kept,bG.kept,bG.kept,bG.kept,bG.kept,bG.kept,bG.kept,bG.kept,bG.kept,bG.kept,bG.kept,bG.kept,bG.kept,bG.kept,bG.kept,bG.kept,bG.kept,bG.kept,bG.kept,bG.kept,trivial⟩
 ·refine aY ?_ (aY ?_ (aY ?_ (aY ?_ (aY ?_ (aY ?_ (aY ?_ (aY ?_ (aY ?_ (aY ?_ (aY ?_ (aY ?_ (aY ?_ (aY ?_ (aY ?_ (aY ?_ (aY ?_ (aY ?_ (aY ?_ (aY ?_ (aY ?_ (aY ?_ kJ)))))))))))))))))))))
  ·refine bc rfl λf ZL hb H=>?_;have e3:f 3=_:=H 3 (by decide);clear H;have Z7:=Lib.hid hb;clear hb
   go_simp
   exact⟨Z7.out,trivial,rfl⟩
  ·refine bc rfl λf ZL hb H=>?_;have Og:f 38=_:=H 38 (by decide);clear H;have Z7:=Lib.hid hb;have RP:=(Zc.out.grow hb).cell 2;simp only[List.getElem?_cons_zero,List.getElem?_cons_succ]at RP;clear hb
   go_simp
   exact⟨Z7.out,trivial,rfl⟩
  ·refine bc rfl λf ZL hb H=>?_;have Oh:f 39=_:=H 39 (by decide);clear H;have Z7:=Lib.hid hb;clear hb
   go_simp
   exact⟨Z7.out,trivial,rfl⟩
  ·refine bc rfl λf ZL hb H=>?_;have e2:f 2=_:=H 2 (by decide);clear H;have Z7:=Lib.hid hb;clear hb
   go_simp
   exact⟨Z7.out,trivial,rfl⟩
  ·refine bc rfl λf ZL hb H=>?_;have Oj:f 41=_:=H 41 (by decide);clear H;have Z7:=Lib.hid hb;have RM:=(Xi.out.grow hb).cell 0;simp only[List.getElem?_cons_zero]at RM;clear hb
   go_simp
   exact⟨Z7.out,trivial,rfl⟩
  ·refine bc rfl λf ZL hb H=>?_;have e3:f 3=_:=H 3 (by decide);clear H;have Z7:=Lib.hid hb;clear hb
   go_simp
   exact⟨Z7.out,trivial,rfl⟩
  ·refine bc rfl λf ZL hb H=>?_;have Om:f 43=_:=H 43 (by decide);clear H;have Z7:=Lib.hid hb;clear hb
   go_simp
   exact⟨Z7.out,trivial,rfl⟩
  ·refine bc rfl λf ZL hb H=>?_;have On:f 44=_:=H 44 (by decide);clear H;have Z7:=Lib.hid hb;have RN:=(Zc.out.grow hb).cell 0;simp only[List.getElem?_cons_zero,List.getElem?_cons_succ]at RN;clear hb
   go_simp
   exact⟨Z7.out,trivial,rfl⟩
  ·refine bc rfl λf ZL hb H=>?_;have Ol:f 42=_:=H 42 (by decide);have Oo:f 45=_:=H 45 (by decide);clear H;have Z7:=Lib.hid hb;clear hb
   go_simp
   exact⟨Z7.out,trivial,rfl⟩
  ·refine bc rfl λf ZL hb H=>?_;have Oq:f 46=_:=H 46 (by decide);clear H;have Z7:=Lib.hid hb
   have ch:ZL.cell? ⟨bR,oR+k,none⟩=some (.slice (some ⟨bK,oK,none⟩) N cK):=by rw[World.cell?_of_block (hb.block bR (World.block_lt_of_cell? _ _ U1.out) (by simp))];exact U1.out
   clear hb
   go_simp
   exact⟨Z7.out,trivial,rfl⟩
  ·refine bc rfl λf ZL hb H=>?_;have e3:f 3=_:=H 3 (by decide);clear H;have Z7:=Lib.hid hb;clear hb
   go_simp
   exact⟨Z7.out,trivial,rfl⟩
  ·refine bc rfl λf ZL hb H=>?_;have Ot:f 48=_:=H 48 (by decide);clear H;have Z7:=Lib.hid hb;clear hb
   go_simp
   exact⟨Z7.out,trivial,rfl⟩
  ·refine bc rfl λf ZL hb H=>?_;have Ou:f 49=_:=H 49 (by decide);clear H;have Z7:=Lib.hid hb;have RO:=(Zc.out.grow hb).cell 1;simp only[List.getElem?_cons_zero,List.getElem?_cons_succ]at RO;clear hb
   go_simp
   exact⟨Z7.out,trivial,rfl⟩
  ·refine bc rfl λf ZL hb H=>?_;have Os:f 47=_:=H 47 (by decide);have Ov:f 50=_:=H 50 (by decide);clear H;have Z7:=Lib.hid hb;clear hb
   go_simp
   refine(vL bK oK N cK j _ HJ.out.1 HJ.out.2.1 HJ.out.2.2.1 HJ.out.2.2.2).mono ?_;rw[<- Hn.out];rintro e w5 ⟨rfl,Sv⟩;exact⟨_,rfl,bk Z7.out Sv,trivial,rfl⟩
  ·refine bc rfl λf ZL hb H=>?_;have Ow:f 51=_:=H 51 (by decide);clear H;have Z7:=Lib.hid hb;clear hb
   go_simp
   exact⟨Z7.out,trivial,rfl⟩
  ·refine bc rfl λf ZL hb H=>?_;have Oi:f 40=_:=H 40 (by decide);have Ox:f 52=_:=H 52 (by decide);clear H;have Z7:=Lib.hid hb;clear hb
   go_simp
   exact⟨Z7.out,trivial,rfl⟩
  ·refine bc rfl λf ZL hb H=>?_;have Oy:f 53=_:=H 53 (by decide);clear H;have Z7:=Lib.hid hb;clear hb
   go_simp
   exact⟨Z7.out,trivial,rfl⟩
  ·exact my _ _ _ rfl rfl λf ZL hb H=>⟨H 54 (by decide),rfl⟩
  ·exact my _ _ _ rfl rfl λf ZL hb H=>⟨H 54 (by decide),rfl⟩
  ·exact my _ _ _ rfl rfl λf ZL hb H=>⟨H 54 (by decide),rfl⟩
  ·exact my _ _ _ rfl rfl λf ZL hb H=>⟨H 54 (by decide),rfl⟩
  ·refine bc rfl λf ZL hb H=>?_;have Oz:f 54=_:=H 54 (by decide);have OA:f 58=_:=H 58 (by decide);clear H;have Z7:=Lib.hid hb;clear hb
   go_simp
   exact⟨Z7.out,trivial,rfl⟩
 ·intro f w9 hb hE;simp only[eL,Act.put,vq,List.setIfInBounds_toArray,List.set_cons_succ,List.set_cons_zero];have RS:f 59=.bool true:=hE.2.2.2.2.2.2.2.2.2.2.2.2.2.2.2.2.2.2.2.2.2.1;clear hE;have ZF:=hb;clear hb;rw[RS];have ZP:=Wm.out.grow ZF;have Yo:=ZP.cell 0;have Yp:=ZP.cell 1;have VF:=ZP.free 0;have f41:=ZP.free 1;have q4:=ZP.hi;simp only[List.getElem?_cons_zero,List.getElem?_cons_succ]at Yo Yp
  go_wp2_with fail
  refine bodyPost_ret (v:=.tuple #[.agg #[.slice none 0 0,.slice none 0 0],.int .i64 5]) (by simp[results,Tryz.results54,go_sem,Yo,Yp,q4]) rfl ?_;exact⟨rfl,bl (bl (bk XG.out ZF) (.inr (by dsimp only;omega)) _) (.inr (by dsimp only;omega)) _⟩
set_option maxRecDepth 100000 in
set_option maxHeartbeats 4000000 in
theorem AT(F:Nat->Prop)(C:List (List Cn4))(T:List Vw8)(k j:Nat)(cells:List Cn4)(v0 v1 v2 v3 v4 v5 v6:Int)(L:List Cn4)(U V Y Z:Value)(w:World)(fe:Int)
 (hu:RSl rCs w F C U)(hv:RSl rVw w F T V)(hy:RSl rCn w F cells Y)(hz:RSl rCn w F L Z)
 (ZS:∀w',w.grownBy w' none->Calls Tryz.prog 88 #[.agg #[U,V],.agg #[.int .i64 k,.int .i64 j]] w' λe w2=>e=.returned (.int .i64 fe)/\w'.grownBy w2 none)
 (eb:Bool)(ZB:∀w',w.grownBy w' none->Calls Tryz.prog 91 #[.agg #[.int .i64 v0,.int .i64 v1,.int .i64 v2,.int .i64 v3,.int .i64 v4,.int .i64 v5,.int .u16 v6,Z]] w' λe w2=>e=.returned (.bool eb)/\w'.grownBy w2 none)(h0:fe=0)(hk:k<C.length)(hj:j<=32)(XJ:8*j<C[k].length)(hc:cells.length=min 8 (C[k].length-8*j))(he:eb=false):
 Calls Tryz.prog 54 #[.agg #[U,V],.agg #[.int .i64 k,.int .i64 j,Y,.int .i64 v0,.int .i64 v1,.int .i64 v2,.int .i64 v3,.int .i64 v4,.int .i64 v5,.int .u16 v6,Z]] w (λe w'=>e=.returned (.tuple #[.agg #[.slice none 0 0,.slice none 0 0],.int .i64 5])/\w.grownBy w' none):=by
 subst h0;subst he;have Hc:=Lib.hid hc;clear hc;have HU:=Lib.hid hu;have HV:=Lib.hid hv;have HY:=Lib.hid hy;have HZ:=Lib.hid hz;obtain⟨A1,c1,rfl,_,_,UA⟩:=hu.size_eq;obtain⟨A2,c2,rfl,_,_,UH⟩:=hv.size_eq;obtain⟨A3,c3,rfl,_,_,hcl⟩:=hy.size_eq;obtain⟨A4,c4,rfl,_,_,UF⟩:=hz.size_eq;have HF:=Lib.hid ZS;clear hu hv hy hz ZS
 go_enter Tryz.func54,Tryz.ntmps54
 go_upto_region 1 with fail
 have Zh:w.grownBy (((w.alloc (.cells #[.slice A1 C.length c1,.slice A2 T.length c2] 29)).alloc (.cells #[.int .i64 k,.int .i64 j,.slice A3 cells.length c3,.int .i64 v0,.int .i64 v1,.int .i64 v2,.int .i64 v3,.int .i64 v4,.int .i64 v5,.int .u16 v6,.slice A4 L.length c4] 75)).alloc (.cells #[.slice none 0 0,.slice none 0 0] 29)) none:=be (be (be (bf w none) _) _) _;have Z':Bk (((w.alloc (.cells #[.slice A1 C.length c1,.slice A2 T.length c2] 29)).alloc (.cells #[.int .i64 k,.int .i64 j,.slice A3 cells.length c3,.int .i64 v0,.int .i64 v1,.int .i64 v2,.int .i64 v3,.int .i64 v4,.int .i64 v5,.int .u16 v6,.slice A4 L.length c4] 75)).alloc (.cells #[.slice none 0 0,.slice none 0 0] 29)) w.heap.size 29 [.slice A1 C.length c1,.slice A2 T.length c2]:=(Bk.new.grow (be (bf _ _) _)).grow (be (bf _ _) _)
 have Z8:Bk (((w.alloc (.cells #[.slice A1 C.length c1,.slice A2 T.length c2] 29)).alloc (.cells #[.int .i64 k,.int .i64 j,.slice A3 cells.length c3,.int .i64 v0,.int .i64 v1,.int .i64 v2,.int .i64 v3,.int .i64 v4,.int .i64 v5,.int .u16 v6,.slice A4 L.length c4] 75)).alloc (.cells #[.slice none 0 0,.slice none 0 0] 29)) (w.heap.size+1) 75 [.int .i64 k,.int .i64 j,.slice A3 cells.length c3,.int .i64 v0,.int .i64 v1,.int .i64 v2,.int .i64 v3,.int .i64 v4,.int .i64 v5,.int .u16 v6,.slice A4 L.length c4]:=by
  have h:=(Bk.new (w:=w.alloc (.cells #[.slice A1 C.length c1,.slice A2 T.length c2] 29)) (t:=75) (vs:=[.int .i64 k,.int .i64 j,.slice A3 cells.length c3,.int .i64 v0,.int .i64 v1,.int .i64 v2,.int .i64 v3,.int .i64 v4,.int .i64 v5,.int .u16 v6,.slice A4 L.length c4])).grow (be (bf _ _) (.cells #[.slice none 0 0,.slice none 0 0] 29));simpa using h
 have ZP:Bk (((w.alloc (.cells #[.slice A1 C.length c1,.slice A2 T.length c2] 29)).alloc (.cells #[.int .i64 k,.int .i64 j,.slice A3 cells.length c3,.int .i64 v0,.int .i64 v1,.int .i64 v2,.int .i64 v3,.int .i64 v4,.int .i64 v5,.int .u16 v6,.slice A4 L.length c4] 75)).alloc (.cells #[.slice none 0 0,.slice none 0 0] 29)) (w.heap.size+2) 29 [.slice none 0 0,.slice none 0 0]:=by
  have h:=Bk.new (w:=(w.alloc (.cells #[.slice A1 C.length c1,.slice A2 T.length c2] 29)).alloc (.cells #[.int .i64 k,.int .i64 j,.slice A3 cells.length c3,.int .i64 v0,.int .i64 v1,.int .i64 v2,.int .i64 v3,.int .i64 v4,.int .i64 v5,.int .u16 v6,.slice A4 L.length c4] 75)) (t:=29) (vs:=[.slice none 0 0,.slice none 0 0]);simpa using h
 have hsz:(((w.alloc (.cells #[.slice A1 C.length c1,.slice A2 T.length c2] 29)).alloc (.cells #[.int .i64 k,.int .i64 j,.slice A3 cells.length c3,.int .i64 v0,.int .i64 v1,.int .i64 v2,.int .i64 v3,.int .i64 v4,.int .i64 v5,.int .u16 v6,.slice A4 L.length c4] 75)).alloc (.cells #[.slice none 0 0,.slice none 0 0] 29)).heap.size=w.heap.size+3:=by simp
 generalize((w.alloc (.cells #[.slice A1 C.length c1,.slice A2 T.length c2] 29)).alloc (.cells #[.int .i64 k,.int .i64 j,.slice A3 cells.length c3,.int .i64 v0,.int .i64 v1,.int .i64 v2,.int .i64 v3,.int .i64 v4,.int .i64 v5,.int .u16 v6,.slice A4 L.length c4] 75)).alloc (.cells #[.slice none 0 0,.slice none 0 0] 29)=W at *;have a20:=Z'.cell 0;have a21:=Z'.cell 1;have Xr:=Z8.cell 0;have Xs:=Z8.cell 1;simp only[List.getElem?_cons_zero,List.getElem?_cons_succ]at a20 a21 Xr Xs
 go_wp2_with fail
 refine(HF.out W Zh).mono ?_;rintro e w1 ⟨rfl,Z0⟩;have XG:=Lib.hid (bk Zh Z0);have Za:=Z0.size;have Z':=Z'.grow Z0;have Z8:=Z8.grow Z0;have ZP:=ZP.grow Z0;have Xf:=Z'.cell 0;have Xg:=Z'.cell 1;have XC:=Z8.cell 0;have XD:=Z8.cell 1;have XE:=Z8.cell 2;have WT:=Z8.cell 3;have WU:=Z8.cell 4;have WV:=Z8.cell 5;have WW:=Z8.cell 6;have WX:=Z8.cell 7;have WY:=Z8.cell 8;have WZ:=Z8.cell 9;have YJ:=Z8.cell 10;have Yo:=ZP.cell 0;have Yp:=ZP.cell 1;have VF:=ZP.free 0;have f41:=ZP.free 1;have q4:=ZP.hi;simp only[List.getElem?_cons_zero,List.getElem?_cons_succ]at Xf Xg XC XD XE WT WU WV WW WX WY WZ YJ Yo Yp;have Xi:=Lib.hid Z';have Zc:=Lib.hid Z8;have Wm:=Lib.hid ZP;have HS:=Lib.hid hsz;clear Z' Z8 ZP Zh Z0 HF a20 a21 Xr Xs
 have SC:((k:Int)==-1)=false:=by simp
 have V1:¬(k:Int)=-1:=by omega
 have HE:=Lib.hid (λW hg=>ZB W hg);clear ZB;obtain⟨bR,oR,cR,ds,R3,OJ,Tv,_,R2,UG⟩:=(HU.out.grow XG.out).at_ hk
 injection R3 with VM R4 VN
 subst VM;subst VN;obtain⟨hdr,rfl,ZI⟩:=R2;have WJ:=UG 0 _ rfl;rw[show oR+(k*rCs.size+0)=oR+k by rw[show rCs.size=1 from rfl,Nat.mul_one,Nat.add_zero]]at WJ;obtain⟨AK,cK,rfl,VI,UE,VJ⟩:=ZI.size_eq;have RX:=ZI;obtain⟨bK,oK,Oc,xs,RY,_,_,_,_,_⟩:=ZI.at_ (k:=8*j) XJ
 injection RY with VK R0 VL
 subst VK;subst VL;obtain⟨N,hN⟩:∃N,N=C[k].length:=⟨_,rfl⟩;rw[<- hN]at XJ VI VJ WJ;have Xj:=Lib.hid hN;clear hN RX ZI UG
 have y1:(0:Int)<=(k:Int):=by omega
 have y2:(k:Int)<(C.length:Int):=by omega
 have y3:(k:Int).toNat=k:=by omega
 obtain⟨n,hn⟩:∃n,n=min 8 (N-8*j):=⟨_,rfl⟩;have Hn:=Lib.hid hn;have HJ:=Lib.hid (And.intro hj (And.intro XJ (And.intro VI VJ)));clear hn hj XJ VI UE VJ hcl V1
 go_upto_region 10 with fail
 have OL:((cells.length:Int) != (n:Int))=false:=by
  have h1:=Hc.out;rw[<- Xj.out,<- Hn.out]at h1;simp;omega
 clear Yo Yp VF f41 q4;have U1:=Lib.hid WJ;clear WJ
 refine fM (λw'=>w1.grownBy w' none) (λ_ _=>True)
  [bG (.pointer (some ⟨w.heap.size+1,2,none⟩)),bG (.slice A3 cells.length c3),bG (.int .i64 cells.length),bG (.pointer (some ⟨w.heap.size,0,none⟩)),bG (.slice (some ⟨bR,oR,none⟩) C.length c1),bG (.pointer (some ⟨w.heap.size+1,0,none⟩)),bG (.pointer (some ⟨w.heap.size+1,0,none⟩)),bG (.int .i64 k),bG (.pointer (some ⟨bR,oR+k,none⟩)),bG (.slice (some ⟨bK,oK,none⟩) N cK),bG (.pointer (some ⟨w.heap.size+1,0,none⟩)),bG (.pointer (some ⟨w.heap.size+1,1,none⟩)),bG (.int .i64 j),bG (.slice (some ⟨bK,oK+8*j*4,none⟩) n (cK-8*j)),bG (.int .i64 n),bG (.bool false),bG (.bool false),bG (.pointer (some ⟨w.heap.size+1,3,none⟩)),bG (.agg #[.int .i64 v0,.int .i64 v1,.int .i64 v2,.int .i64 v3,.int .i64 v4,.int .i64 v5,.int .u16 v6,.slice A4 L.length c4]),bG (.bool false),bG (.bool true),bG (.bool true)]
  78 (by kernel_rfl) rfl (by kernel_rfl) (dn (bf _ _)) (λ_=>trivial) ?_ ?_ ?_
 ·exact⟨bG.kept,bG.kept,bG.kept,bG.kept,bG.kept,bG.kept,bG.kept,bG.kept,bG.kept,bG.kept,bG.kept,bG.kept,bG.kept,bG.kept,bG.kept,bG.kept,bG.kept,bG.kept,bG.kept,bG.kept,bG.kept,bG.kept,trivial⟩
 ·refine aY ?_ (aY ?_ (aY ?_ (aY ?_ (aY ?_ (aY ?_ (aY ?_ (aY ?_ (aY ?_ (aY ?_ (aY ?_ (aY ?_ (aY ?_ (aY ?_ (aY ?_ (aY ?_ (aY ?_ (aY ?_ (aY ?_ (aY ?_ (aY ?_ (aY ?_ kJ)))))))))))))))))))))
  ·refine bc rfl λf ZL hb H=>?_;have e3:f 3=_:=H 3 (by decide);clear H;have Z7:=Lib.hid hb;clear hb
   go_simp
   exact⟨Z7.out,trivial,rfl⟩
  ·refine bc rfl λf ZL hb H=>?_;have Og:f 38=_:=H 38 (by decide);clear H;have Z7:=Lib.hid hb;have RP:=(Zc.out.grow hb).cell 2;simp only[List.getElem?_cons_zero,List.getElem?_cons_succ]at RP;clear hb
   go_simp
   exact⟨Z7.out,trivial,rfl⟩
  ·refine bc rfl λf ZL hb H=>?_;have Oh:f 39=_:=H 39 (by decide);clear H;have Z7:=Lib.hid hb;clear hb
   go_simp
   exact⟨Z7.out,trivial,rfl⟩
  ·refine bc rfl λf ZL hb H=>?_;have e2:f 2=_:=H 2 (by decide);clear H;have Z7:=Lib.hid hb;clear hb
   go_simp
   exact⟨Z7.out,trivial,rfl⟩
  ·refine bc rfl λf ZL hb H=>?_;have Oj:f 41=_:=H 41 (by decide);clear H;have Z7:=Lib.hid hb;have RM:=(Xi.out.grow hb).cell 0;simp only[List.getElem?_cons_zero]at RM;clear hb
   go_simp
   exact⟨Z7.out,trivial,rfl⟩
  ·refine bc rfl λf ZL hb H=>?_;have e3:f 3=_:=H 3 (by decide);clear H;have Z7:=Lib.hid hb;clear hb
   go_simp
   exact⟨Z7.out,trivial,rfl⟩
  ·refine bc rfl λf ZL hb H=>?_;have Om:f 43=_:=H 43 (by decide);clear H;have Z7:=Lib.hid hb;clear hb
   go_simp
   exact⟨Z7.out,trivial,rfl⟩
  ·refine bc rfl λf ZL hb H=>?_;have On:f 44=_:=H 44 (by decide);clear H;have Z7:=Lib.hid hb;have RN:=(Zc.out.grow hb).cell 0;simp only[List.getElem?_cons_zero,List.getElem?_cons_succ]at RN;clear hb
   go_simp
   exact⟨Z7.out,trivial,rfl⟩
  ·refine bc rfl λf ZL hb H=>?_;have Ol:f 42=_:=H 42 (by decide);have Oo:f 45=_:=H 45 (by decide);clear H;have Z7:=Lib.hid hb;clear hb
   go_simp
   exact⟨Z7.out,trivial,rfl⟩
  ·refine bc rfl λf ZL hb H=>?_;have Oq:f 46=_:=H 46 (by decide);clear H;have Z7:=Lib.hid hb
   have ch:ZL.cell? ⟨bR,oR+k,none⟩=some (.slice (some ⟨bK,oK,none⟩) N cK):=by rw[World.cell?_of_block (hb.block bR (World.block_lt_of_cell? _ _ U1.out) (by simp))];exact U1.out
   clear hb
   go_simp
   exact⟨Z7.out,trivial,rfl⟩
  ·refine bc rfl λf ZL hb H=>?_;have e3:f 3=_:=H 3 (by decide);clear H;have Z7:=Lib.hid hb;clear hb
   go_simp
   exact⟨Z7.out,trivial,rfl⟩
  ·refine bc rfl λf ZL hb H=>?_;have Ot:f 48=_:=H 48 (by decide);clear H;have Z7:=Lib.hid hb;clear hb
   go_simp
   exact⟨Z7.out,trivial,rfl⟩
  ·refine bc rfl λf ZL hb H=>?_;have Ou:f 49=_:=H 49 (by decide);clear H;have Z7:=Lib.hid hb;have RO:=(Zc.out.grow hb).cell 1;simp only[List.getElem?_cons_zero,List.getElem?_cons_succ]at RO;clear hb
   go_simp
   exact⟨Z7.out,trivial,rfl⟩
  ·refine bc rfl λf ZL hb H=>?_;have Os:f 47=_:=H 47 (by decide);have Ov:f 50=_:=H 50 (by decide);clear H;have Z7:=Lib.hid hb;clear hb
   go_simp
   refine(vL bK oK N cK j _ HJ.out.1 HJ.out.2.1 HJ.out.2.2.1 HJ.out.2.2.2).mono ?_;rw[<- Hn.out];rintro e w5 ⟨rfl,Sv⟩;exact⟨_,rfl,bk Z7.out Sv,trivial,rfl⟩
  ·refine bc rfl λf ZL hb H=>?_;have Ow:f 51=_:=H 51 (by decide);clear H;have Z7:=Lib.hid hb;clear hb
   go_simp
   exact⟨Z7.out,trivial,rfl⟩
  ·refine bc rfl λf ZL hb H=>?_;have Oi:f 40=_:=H 40 (by decide);have Ox:f 52=_:=H 52 (by decide);clear H;have Z7:=Lib.hid hb;clear hb
   go_simp
   exact⟨Z7.out,trivial,rfl⟩
  ·refine bc rfl λf ZL hb H=>?_;have Oy:f 53=_:=H 53 (by decide);clear H;have Z7:=Lib.hid hb;clear hb
   go_simp
   exact⟨Z7.out,trivial,rfl⟩
  ·refine eM _ _ _ rfl rfl λf ZL hb H=>⟨H 54 (by decide),?_⟩;have e3:f 3=_:=H 3 (by decide);clear H;have Z7:=Lib.hid hb;clear hb
   go_simp
   exact⟨Z7.out,trivial,rfl⟩
  ·refine eM _ _ _ rfl rfl λf ZL hb H=>⟨H 54 (by decide),?_⟩;have L9:f 55=_:=H 55 (by decide);clear H;have Z7:=Lib.hid hb;have Pz:=(Zc.out.grow hb).cell 3;have PA:=(Zc.out.grow hb).cell 4;have PB:=(Zc.out.grow hb).cell 5;have PC:=(Zc.out.grow hb).cell 6;have PD:=(Zc.out.grow hb).cell 7;have PE:=(Zc.out.grow hb).cell 8;have PF:=(Zc.out.grow hb).cell 9;have TX:=(Zc.out.grow hb).cell 10;simp only[List.getElem?_cons_zero,List.getElem?_cons_succ]at Pz PA PB PC PD PE PF TX;clear hb
   go_simp
   exact⟨Z7.out,trivial,rfl⟩
  ·refine eM _ _ _ rfl rfl λf ZL hb H=>⟨H 54 (by decide),?_⟩;have Ma:f 56=_:=H 56 (by decide);clear H;have Z7:=Lib.hid hb;clear hb
   go_simp
   refine(HE.out _ (bk XG.out Z7.out)).mono ?_;rintro e w6 ⟨rfl,Qs⟩;exact⟨_,rfl,bk Z7.out Qs,trivial,rfl⟩
  ·refine eM _ _ _ rfl rfl λf ZL hb H=>⟨H 54 (by decide),?_⟩;have Mb:f 57=_:=H 57 (by decide);clear H;have Z7:=Lib.hid hb;clear hb
   go_simp
   exact⟨Z7.out,trivial,rfl⟩
  ·refine bc rfl λf ZL hb H=>?_;have Oz:f 54=_:=H 54 (by decide);have OA:f 58=_:=H 58 (by decide);clear H;have Z7:=Lib.hid hb;clear hb
   go_simp
   exact⟨Z7.out,trivial,rfl⟩
 ·intro f w9 hb hE;simp only[eL,Act.put,vq,List.setIfInBounds_toArray,List.set_cons_succ,List.set_cons_zero];have RS:f 59=.bool true:=hE.2.2.2.2.2.2.2.2.2.2.2.2.2.2.2.2.2.2.2.2.2.1;clear hE;have ZF:=hb;clear hb;rw[RS];have ZP:=Wm.out.grow ZF;have Yo:=ZP.cell 0;have Yp:=ZP.cell 1;have VF:=ZP.free 0;have f41:=ZP.free 1;have q4:=ZP.hi;simp only[List.getElem?_cons_zero,List.getElem?_cons_succ]at Yo Yp
  go_wp2_with fail
  refine bodyPost_ret (v:=.tuple #[.agg #[.slice none 0 0,.slice none 0 0],.int .i64 5]) (by simp[results,Tryz.results54,go_sem,Yo,Yp,q4]) rfl ?_;exact⟨rfl,bl (bl (bk XG.out ZF) (.inr (by dsimp only;omega)) _) (.inr (by dsimp only;omega)) _⟩
section
variable {P:Program} {ops:Array Oper} {rest:List Oper} {o:Oper} {a:Act} {Q:Exit->Act->World->Prop} {w:World}
theorem mP(k:Nat)(XQ:o.guard=none)(d s:Operand)(t e:TypeId)(ho:o.op=.call { callee:=.builtin .copy,args:=#[d,s],argTypes:=#[t,t] })
 (hu:P.underlying t=some (.slice e))(hsz:(P.info? e).map (·.size)=some k)(g off Xt U4:Nat)(hd:a.eval d=.slice (some ⟨g,off,none⟩) Xt U4)(ad:Addr)(Zz Yv:Nat)(hs:a.eval s=.slice (some ad) Zz Yv)
 (cur:Array Value)(t':TypeId)(cs:List Value)(hg:w.heap[g]?=some (.cells cur t' (0,0)))(hn:cs.length=Nat.min Zz Xt*k)
 (Yn:∀j v,cs[j]?=some v->w.cell? (ad.add j)=some v)(hfit:off+cs.length<=cur.size)(h1:∀v∈cs,v.oneCell'=true)
 (h:wpList P ops Q rest (a.put o.dst (goInt (Nat.min Zz Xt))) (w.setRow g (cur.toList.take off++cs++cur.toList.drop (off+cs.length)).toArray)):wpList P ops Q (o::rest) a w:=by
 refine wpList_plain XQ λK hK=>?_;have hrun:=qm (P:=P) k w t t o.type e g off Xt U4 ad Zz Yv cur t' cs hu hsz hg hn Yn hfit h1;unfold Oper.wp;simp[execOp,ho,resolve,invoke,builtin,hs,hd,hrun,Result.andThen];simp only[List.append_assoc]at h;exact hK _ _ h
end
def cnC(c:Cn4):List Value:=[.int .u8 c.1,.int .u16 c.2.1,.int .i64 c.2.2.1,.int .i64 c.2.2.2]
def cnL(xs:List Cn4):List Value:=(xs.map cnC).flatten
theorem th(xs ys:List Cn4):cnL (xs++ys)=cnL xs++cnL ys:=by simp[cnL]
theorem lI(xs:List Cn4):(cnL xs).length=xs.length*4:=by
 induction xs with
 |nil=>rfl
 |cons x xs ih=>
  have:cnL (x::xs)=cnC x++cnL xs:=rfl;rw[this,List.length_append,ih,oLC];simp[cnC];omega
theorem El(xs:List Cn4)(n:Nat):(cnL xs).take (n*4)=cnL (xs.take n):=by
 by_cases h:n<=xs.length
 ·have h2:cnL xs=cnL (xs.take n)++cnL (xs.drop n):=by rw[<- th,List.take_append_drop]
  rw[h2];exact List.take_left' (by rw[lI,oLT,Nat.min_eq_left h])
 ·rw[List.take_of_length_le (by rw[lI];omega),List.take_of_length_le (by omega)]
theorem Em(xs:List Cn4)(n:Nat):(cnL xs).drop (n*4)=cnL (xs.drop n):=by
 by_cases h:n<=xs.length
 ·have h2:cnL xs=cnL (xs.take n)++cnL (xs.drop n):=by rw[<- th,List.take_append_drop]
  rw[h2];exact List.drop_left' (by rw[lI,oLT,Nat.min_eq_left h])
 ·rw[List.drop_of_length_le (by rw[lI];omega),List.drop_of_length_le (by omega)];rfl
theorem Gt(xs:List Cn4):∀v∈cnL xs,v.oneCell'=true:=by
 intro v hv;obtain⟨l,hl,hv⟩:=List.mem_flatten.1 hv;obtain⟨c,_,rfl⟩:=List.mem_map.1 hl;simp only[cnC,List.mem_cons,List.not_mem_nil,or_false]at hv
 rcases hv with rfl|rfl|rfl|rfl<;>rfl
theorem vF{w:World}{F:Nat->Prop}:∀{xs:List Cn4}{cs:List Value},eE rCn w F xs cs->cs=cnL xs
 | [],_,h=>h
 |x::r,_,⟨c,d,e,h1,h2⟩=>by rw[e,Im h1,vF h2];rfl
theorem BG{w:World}:∀{xs:List Cn4}{fp:List Nat}{cs:List Value},gY rCn w fp xs cs->fp=[]
 | [],_,_,h=>h.2
 |x::r,_,_,⟨c,d,f,g,_,e',h1,h2⟩=>by
  obtain⟨_,_,f1,f2,_,e1,⟨rfl,_⟩,_,_,f3,f4,_,e2,⟨rfl,_⟩,_,_,f5,f6,_,e3,⟨rfl,_⟩,⟨rfl,_⟩⟩:=h1;rw[e',e1,e2,e3,BG h2];rfl
theorem Cv(w:World):∀(xs:List Cn4),gY rCn w [] xs (cnL xs)
 | []=>⟨rfl,rfl⟩
 |x::r=>⟨cnC x,cnL r,[],[],rfl,rfl,wo (I3 (w:=w) (F:=λ_=>True) x) w,Cv w r⟩
theorem vA(w:World)(q:Nat)(cs:Array Value):(w.setRow q cs).heap.size=w.heap.size:=by simp[World.setRow]
def ia(row:List Cn4)(j:Nat)(cells:List Cn4):List Cn4:=row.take (8*j)++cells++row.drop (8*j+cells.length)
theorem yU{row cells:List Cn4}{j:Nat}(h:8*j+cells.length<=row.length):(ia row j cells).length=row.length:=by
 simp[ia];omega
set_option maxRecDepth 100000 in
set_option maxHeartbeats 4000000 in
theorem AW(F:Nat->Prop)(C:List (List Cn4))(T:List Vw8)(k j:Nat)(cells:List Cn4)(v0 v1 v2 v3 v4 v5 v6:Int)(L:List Cn4)(U V Y Z:Value)(w:World)(fe:Int)
 (hu:RSl rCs w F C U)(hv:RSl rVw w F T V)(hy:RSl rCn w F cells Y)(hz:RSl rCn w F L Z)
 (ZS:∀w',w.grownBy w' none->Calls Tryz.prog 88 #[.agg #[U,V],.agg #[.int .i64 k,.int .i64 j]] w' λe w2=>e=.returned (.int .i64 fe)/\w'.grownBy w2 none)
 (eb:Bool)(ZB:∀w',w.grownBy w' none->Calls Tryz.prog 91 #[.agg #[.int .i64 v0,.int .i64 v1,.int .i64 v2,.int .i64 v3,.int .i64 v4,.int .i64 v5,.int .u16 v6,Z]] w' λe w2=>e=.returned (.bool eb)/\w'.grownBy w2 none)(h0:fe=0)(hk:k<C.length)(hj:j<=32)(XJ:8*j<C[k].length)(hc:cells.length=min 8 (C[k].length-8*j))(he:eb=true):
 Calls Tryz.prog 54 #[.agg #[U,V],.agg #[.int .i64 k,.int .i64 j,Y,.int .i64 v0,.int .i64 v1,.int .i64 v2,.int .i64 v3,.int .i64 v4,.int .i64 v5,.int .u16 v6,Z]] w (yr (C.set k (ia C[k] j cells)) T w):=by
 subst h0;subst he;have Hc:=Lib.hid hc;clear hc;have HU:=Lib.hid hu;have HV:=Lib.hid hv;have HY:=Lib.hid hy;have HZ:=Lib.hid hz;obtain⟨A1,c1,rfl,_,_,UA⟩:=hu.size_eq;obtain⟨A2,c2,rfl,_,_,UH⟩:=hv.size_eq;obtain⟨A3,c3,rfl,_,_,hcl⟩:=hy.size_eq;obtain⟨A4,c4,rfl,_,_,UF⟩:=hz.size_eq;have HF:=Lib.hid ZS;clear hu hv hy hz ZS
 go_enter Tryz.func54,Tryz.ntmps54
 go_upto_region 1 with fail
 have Zh:w.grownBy (((w.alloc (.cells #[.slice A1 C.length c1,.slice A2 T.length c2] 29)).alloc (.cells #[.int .i64 k,.int .i64 j,.slice A3 cells.length c3,.int .i64 v0,.int .i64 v1,.int .i64 v2,.int .i64 v3,.int .i64 v4,.int .i64 v5,.int .u16 v6,.slice A4 L.length c4] 75)).alloc (.cells #[.slice none 0 0,.slice none 0 0] 29)) none:=be (be (be (bf w none) _) _) _;have Z':Bk (((w.alloc (.cells #[.slice A1 C.length c1,.slice A2 T.length c2] 29)).alloc (.cells #[.int .i64 k,.int .i64 j,.slice A3 cells.length c3,.int .i64 v0,.int .i64 v1,.int .i64 v2,.int .i64 v3,.int .i64 v4,.int .i64 v5,.int .u16 v6,.slice A4 L.length c4] 75)).alloc (.cells #[.slice none 0 0,.slice none 0 0] 29)) w.heap.size 29 [.slice A1 C.length c1,.slice A2 T.length c2]:=(Bk.new.grow (be (bf _ _) _)).grow (be (bf _ _) _)
 have Z8:Bk (((w.alloc (.cells #[.slice A1 C.length c1,.slice A2 T.length c2] 29)).alloc (.cells #[.int .i64 k,.int .i64 j,.slice A3 cells.length c3,.int .i64 v0,.int .i64 v1,.int .i64 v2,.int .i64 v3,.int .i64 v4,.int .i64 v5,.int .u16 v6,.slice A4 L.length c4] 75)).alloc (.cells #[.slice none 0 0,.slice none 0 0] 29)) (w.heap.size+1) 75 [.int .i64 k,.int .i64 j,.slice A3 cells.length c3,.int .i64 v0,.int .i64 v1,.int .i64 v2,.int .i64 v3,.int .i64 v4,.int .i64 v5,.int .u16 v6,.slice A4 L.length c4]:=by
  have h:=(Bk.new (w:=w.alloc (.cells #[.slice A1 C.length c1,.slice A2 T.length c2] 29)) (t:=75) (vs:=[.int .i64 k,.int .i64 j,.slice A3 cells.length c3,.int .i64 v0,.int .i64 v1,.int .i64 v2,.int .i64 v3,.int .i64 v4,.int .i64 v5,.int .u16 v6,.slice A4 L.length c4])).grow (be (bf _ _) (.cells #[.slice none 0 0,.slice none 0 0] 29));simpa using h
 have ZP:Bk (((w.alloc (.cells #[.slice A1 C.length c1,.slice A2 T.length c2] 29)).alloc (.cells #[.int .i64 k,.int .i64 j,.slice A3 cells.length c3,.int .i64 v0,.int .i64 v1,.int .i64 v2,.int .i64 v3,.int .i64 v4,.int .i64 v5,.int .u16 v6,.slice A4 L.length c4] 75)).alloc (.cells #[.slice none 0 0,.slice none 0 0] 29)) (w.heap.size+2) 29 [.slice none 0 0,.slice none 0 0]:=by
  have h:=Bk.new (w:=(w.alloc (.cells #[.slice A1 C.length c1,.slice A2 T.length c2] 29)).alloc (.cells #[.int .i64 k,.int .i64 j,.slice A3 cells.length c3,.int .i64 v0,.int .i64 v1,.int .i64 v2,.int .i64 v3,.int .i64 v4,.int .i64 v5,.int .u16 v6,.slice A4 L.length c4] 75)) (t:=29) (vs:=[.slice none 0 0,.slice none 0 0]);simpa using h
 have hsz:(((w.alloc (.cells #[.slice A1 C.length c1,.slice A2 T.length c2] 29)).alloc (.cells #[.int .i64 k,.int .i64 j,.slice A3 cells.length c3,.int .i64 v0,.int .i64 v1,.int .i64 v2,.int .i64 v3,.int .i64 v4,.int .i64 v5,.int .u16 v6,.slice A4 L.length c4] 75)).alloc (.cells #[.slice none 0 0,.slice none 0 0] 29)).heap.size=w.heap.size+3:=by simp
 generalize((w.alloc (.cells #[.slice A1 C.length c1,.slice A2 T.length c2] 29)).alloc (.cells #[.int .i64 k,.int .i64 j,.slice A3 cells.length c3,.int .i64 v0,.int .i64 v1,.int .i64 v2,.int .i64 v3,.int .i64 v4,.int .i64 v5,.int .u16 v6,.slice A4 L.length c4] 75)).alloc (.cells #[.slice none 0 0,.slice none 0 0] 29)=W at *;have a20:=Z'.cell 0;have a21:=Z'.cell 1;have Xr:=Z8.cell 0;have Xs:=Z8.cell 1;simp only[List.getElem?_cons_zero,List.getElem?_cons_succ]at a20 a21 Xr Xs
 go_wp2_with fail
 refine(HF.out W Zh).mono ?_;rintro e w1 ⟨rfl,Z0⟩;have XG:=Lib.hid (bk Zh Z0);have Za:=Z0.size;have Z':=Z'.grow Z0;have Z8:=Z8.grow Z0;have ZP:=ZP.grow Z0;have Xf:=Z'.cell 0;have Xg:=Z'.cell 1;have XC:=Z8.cell 0;have XD:=Z8.cell 1;have XE:=Z8.cell 2;have WT:=Z8.cell 3;have WU:=Z8.cell 4;have WV:=Z8.cell 5;have WW:=Z8.cell 6;have WX:=Z8.cell 7;have WY:=Z8.cell 8;have WZ:=Z8.cell 9;have YJ:=Z8.cell 10;have Yo:=ZP.cell 0;have Yp:=ZP.cell 1;have VF:=ZP.free 0;have f41:=ZP.free 1;have q4:=ZP.hi;simp only[List.getElem?_cons_zero,List.getElem?_cons_succ]at Xf Xg XC XD XE WT WU WV WW WX WY WZ YJ Yo Yp;have Xi:=Lib.hid Z';have Zc:=Lib.hid Z8;have Wm:=Lib.hid ZP;have HS:=Lib.hid hsz;clear Z' Z8 ZP Zh Z0 HF a20 a21 Xr Xs
 have SC:((k:Int)==-1)=false:=by simp
 have V1:¬(k:Int)=-1:=by omega
 have HE:=Lib.hid (λW hg=>ZB W hg);clear ZB;obtain⟨bR,oR,cR,ds,R3,OJ,Tv,_,R2,UG⟩:=(HU.out.grow XG.out).at_ hk
 injection R3 with VM R4 VN
 subst VM;subst VN;obtain⟨hdr,rfl,ZI⟩:=R2;have WJ:=UG 0 _ rfl;rw[show oR+(k*rCs.size+0)=oR+k by rw[show rCs.size=1 from rfl,Nat.mul_one,Nat.add_zero]]at WJ;obtain⟨AK,cK,rfl,VI,UE,VJ⟩:=ZI.size_eq;have RX:=ZI;obtain⟨bK,oK,Oc,xs,RY,_,_,_,_,_⟩:=ZI.at_ (k:=8*j) XJ
 injection RY with VK R0 VL
 subst VK;subst VL;obtain⟨N,hN⟩:∃N,N=C[k].length:=⟨_,rfl⟩;rw[<- hN]at XJ VI VJ WJ;have Xj:=Lib.hid hN;clear hN RX ZI UG
 have y1:(0:Int)<=(k:Int):=by omega
 have y2:(k:Int)<(C.length:Int):=by omega
 have y3:(k:Int).toNat=k:=by omega
 obtain⟨n,hn⟩:∃n,n=min 8 (N-8*j):=⟨_,rfl⟩;have Hn:=Lib.hid hn;have HJ:=Lib.hid (And.intro hj (And.intro XJ (And.intro VI VJ)));clear hn hj XJ VI UE VJ hcl V1
 go_upto_region 10 with fail
 have HK:=Lib.hid hk
 have OL:((cells.length:Int) != (n:Int))=false:=by
  have h1:=Hc.out;rw[<- Xj.out,<- Hn.out]at h1;simp;omega
 clear Yo Yp VF f41 q4;have U1:=Lib.hid WJ;clear WJ
 refine fM (λw'=>w1.grownBy w' none) (λ_ _=>True)
  [bG (.pointer (some ⟨w.heap.size+1,2,none⟩)),bG (.slice A3 cells.length c3),bG (.int .i64 cells.length),bG (.pointer (some ⟨w.heap.size,0,none⟩)),bG (.slice (some ⟨bR,oR,none⟩) C.length c1),bG (.pointer (some ⟨w.heap.size+1,0,none⟩)),bG (.pointer (some ⟨w.heap.size+1,0,none⟩)),bG (.int .i64 k),bG (.pointer (some ⟨bR,oR+k,none⟩)),bG (.slice (some ⟨bK,oK,none⟩) N cK),bG (.pointer (some ⟨w.heap.size+1,0,none⟩)),bG (.pointer (some ⟨w.heap.size+1,1,none⟩)),bG (.int .i64 j),bG (.slice (some ⟨bK,oK+8*j*4,none⟩) n (cK-8*j)),bG (.int .i64 n),bG (.bool false),bG (.bool false),bG (.pointer (some ⟨w.heap.size+1,3,none⟩)),bG (.agg #[.int .i64 v0,.int .i64 v1,.int .i64 v2,.int .i64 v3,.int .i64 v4,.int .i64 v5,.int .u16 v6,.slice A4 L.length c4]),bG (.bool true),bG (.bool false),bG (.bool false)]
  78 (by kernel_rfl) rfl (by kernel_rfl) (dn (bf _ _)) (λ_=>trivial) ?_ ?_ ?_
 ·exact⟨bG.kept,bG.kept,bG.kept,bG.kept,bG.kept,bG.kept,bG.kept,bG.kept,bG.kept,bG.kept,bG.kept,bG.kept,bG.kept,bG.kept,bG.kept,bG.kept,bG.kept,bG.kept,bG.kept,bG.kept,bG.kept,bG.kept,trivial⟩
 ·refine aY ?_ (aY ?_ (aY ?_ (aY ?_ (aY ?_ (aY ?_ (aY ?_ (aY ?_ (aY ?_ (aY ?_ (aY ?_ (aY ?_ (aY ?_ (aY ?_ (aY ?_ (aY ?_ (aY ?_ (aY ?_ (aY ?_ (aY ?_ (aY ?_ (aY ?_ kJ)))))))))))))))))))))
  ·refine bc rfl λf ZL hb H=>?_;have e3:f 3=_:=H 3 (by decide);clear H;have Z7:=Lib.hid hb;clear hb
   go_simp
   exact⟨Z7.out,trivial,rfl⟩
  ·refine bc rfl λf ZL hb H=>?_;have Og:f 38=_:=H 38 (by decide);clear H;have Z7:=Lib.hid hb;have RP:=(Zc.out.grow hb).cell 2;simp only[List.getElem?_cons_zero,List.getElem?_cons_succ]at RP;clear hb
   go_simp
   exact⟨Z7.out,trivial,rfl⟩
  ·refine bc rfl λf ZL hb H=>?_;have Oh:f 39=_:=H 39 (by decide);clear H;have Z7:=Lib.hid hb;clear hb
   go_simp
   exact⟨Z7.out,trivial,rfl⟩
  ·refine bc rfl λf ZL hb H=>?_;have e2:f 2=_:=H 2 (by decide);clear H;have Z7:=Lib.hid hb;clear hb
   go_simp
   exact⟨Z7.out,trivial,rfl⟩
  ·refine bc rfl λf ZL hb H=>?_;have Oj:f 41=_:=H 41 (by decide);clear H;have Z7:=Lib.hid hb;have RM:=(Xi.out.grow hb).cell 0;simp only[List.getElem?_cons_zero]at RM;clear hb
   go_simp
   exact⟨Z7.out,trivial,rfl⟩
  ·refine bc rfl λf ZL hb H=>?_;have e3:f 3=_:=H 3 (by decide);clear H;have Z7:=Lib.hid hb;clear hb
   go_simp
   exact⟨Z7.out,trivial,rfl⟩
  ·refine bc rfl λf ZL hb H=>?_;have Om:f 43=_:=H 43 (by decide);clear H;have Z7:=Lib.hid hb;clear hb
   go_simp
   exact⟨Z7.out,trivial,rfl⟩
  ·refine bc rfl λf ZL hb H=>?_;have On:f 44=_:=H 44 (by decide);clear H;have Z7:=Lib.hid hb;have RN:=(Zc.out.grow hb).cell 0;simp only[List.getElem?_cons_zero,List.getElem?_cons_succ]at RN;clear hb
   go_simp
   exact⟨Z7.out,trivial,rfl⟩
  ·refine bc rfl λf ZL hb H=>?_;have Ol:f 42=_:=H 42 (by decide);have Oo:f 45=_:=H 45 (by decide);clear H;have Z7:=Lib.hid hb;clear hb
   go_simp
   exact⟨Z7.out,trivial,rfl⟩
  ·refine bc rfl λf ZL hb H=>?_;have Oq:f 46=_:=H 46 (by decide);clear H;have Z7:=Lib.hid hb
   have ch:ZL.cell? ⟨bR,oR+k,none⟩=some (.slice (some ⟨bK,oK,none⟩) N cK):=by rw[World.cell?_of_block (hb.block bR (World.block_lt_of_cell? _ _ U1.out) (by simp))];exact U1.out
   clear hb
   go_simp
   exact⟨Z7.out,trivial,rfl⟩
  ·refine bc rfl λf ZL hb H=>?_;have e3:f 3=_:=H 3 (by decide);clear H;have Z7:=Lib.hid hb;clear hb
   go_simp
   exact⟨Z7.out,trivial,rfl⟩
  ·refine bc rfl λf ZL hb H=>?_;have Ot:f 48=_:=H 48 (by decide);clear H;have Z7:=Lib.hid hb;clear hb
   go_simp
   exact⟨Z7.out,trivial,rfl⟩
  ·refine bc rfl λf ZL hb H=>?_;have Ou:f 49=_:=H 49 (by decide);clear H;have Z7:=Lib.hid hb;have RO:=(Zc.out.grow hb).cell 1;simp only[List.getElem?_cons_zero,List.getElem?_cons_succ]at RO;clear hb
   go_simp
   exact⟨Z7.out,trivial,rfl⟩
  ·refine bc rfl λf ZL hb H=>?_;have Os:f 47=_:=H 47 (by decide);have Ov:f 50=_:=H 50 (by decide);clear H;have Z7:=Lib.hid hb;clear hb
   go_simp
   refine(vL bK oK N cK j _ HJ.out.1 HJ.out.2.1 HJ.out.2.2.1 HJ.out.2.2.2).mono ?_;rw[<- Hn.out];rintro e w5 ⟨rfl,Sv⟩;exact⟨_,rfl,bk Z7.out Sv,trivial,rfl⟩
  ·refine bc rfl λf ZL hb H=>?_;have Ow:f 51=_:=H 51 (by decide);clear H;have Z7:=Lib.hid hb;clear hb
   go_simp
   exact⟨Z7.out,trivial,rfl⟩
  ·refine bc rfl λf ZL hb H=>?_;have Oi:f 40=_:=H 40 (by decide);have Ox:f 52=_:=H 52 (by decide);clear H;have Z7:=Lib.hid hb;clear hb
   go_simp
   exact⟨Z7.out,trivial,rfl⟩
  ·refine bc rfl λf ZL hb H=>?_;have Oy:f 53=_:=H 53 (by decide);clear H;have Z7:=Lib.hid hb;clear hb
   go_simp
   exact⟨Z7.out,trivial,rfl⟩
  ·refine eM _ _ _ rfl rfl λf ZL hb H=>⟨H 54 (by decide),?_⟩;have e3:f 3=_:=H 3 (by decide);clear H;have Z7:=Lib.hid hb;clear hb
   go_simp
   exact⟨Z7.out,trivial,rfl⟩
  ·refine eM _ _ _ rfl rfl λf ZL hb H=>⟨H 54 (by decide),?_⟩;have L9:f 55=_:=H 55 (by decide);clear H;have Z7:=Lib.hid hb;have Pz:=(Zc.out.grow hb).cell 3;have PA:=(Zc.out.grow hb).cell 4;have PB:=(Zc.out.grow hb).cell 5;have PC:=(Zc.out.grow hb).cell 6;have PD:=(Zc.out.grow hb).cell 7;have PE:=(Zc.out.grow hb).cell 8;have PF:=(Zc.out.grow hb).cell 9;have TX:=(Zc.out.grow hb).cell 10;simp only[List.getElem?_cons_zero,List.getElem?_cons_succ]at Pz PA PB PC PD PE PF TX;clear hb
   go_simp
   exact⟨Z7.out,trivial,rfl⟩
  ·refine eM _ _ _ rfl rfl λf ZL hb H=>⟨H 54 (by decide),?_⟩;have Ma:f 56=_:=H 56 (by decide);clear H;have Z7:=Lib.hid hb;clear hb
   go_simp
   refine(HE.out _ (bk XG.out Z7.out)).mono ?_;rintro e w6 ⟨rfl,Qs⟩;exact⟨_,rfl,bk Z7.out Qs,trivial,rfl⟩
  ·refine eM _ _ _ rfl rfl λf ZL hb H=>⟨H 54 (by decide),?_⟩;have Mb:f 57=_:=H 57 (by decide);clear H;have Z7:=Lib.hid hb;clear hb
   go_simp
   exact⟨Z7.out,trivial,rfl⟩
  ·refine bc rfl λf ZL hb H=>?_;have Oz:f 54=_:=H 54 (by decide);have OA:f 58=_:=H 58 (by decide);clear H;have Z7:=Lib.hid hb;clear hb
   go_simp
   exact⟨Z7.out,trivial,rfl⟩
 ·intro f w9 hb hE;simp only[eL,Act.put,vq,List.setIfInBounds_toArray,List.set_cons_succ,List.set_cons_zero];have RS:f 59=.bool false:=hE.2.2.2.2.2.2.2.2.2.2.2.2.2.2.2.2.2.2.2.2.2.1;clear hE;have ZF:=hb;clear hb;rw[RS];have Pw:=Lib.hid (bk XG.out ZF);have Xf:=(Xi.out.grow ZF).cell 0;have Xg:=(Xi.out.grow ZF).cell 1;simp only[List.getElem?_cons_zero,List.getElem?_cons_succ]at Xf Xg;have Zc:=Lib.hid (Zc.out.grow ZF);have Wm:=Lib.hid (Wm.out.grow ZF);have QS:=ZF.size;clear ZF U1
  go_wp2_with fail
  refine(j9 F C T _ _ w9 (HU.out.grow Pw.out) (HV.out.grow Pw.out)).mono ?_;rintro e w2 ⟨a,b,fp,gp,rfl,oa,ob,ZQ,X7,ZH⟩;obtain⟨A6,c6,rfl⟩:=ob.shape;have Lc:=Lib.hid oa;obtain⟨ME,⟨e1,e2,_⟩|⟨ql,cl,cs,g,rfl,e2,l1,l2,hV,hO⟩⟩:=oa
  ·rw[e2]at y2;simp at y2;omega
  obtain⟨g1,g2,g3,d1,d2,d3,e3,e4,l3,o1,o2,o3⟩:=hO.split HK.out;obtain⟨hdr,rfl,Rg⟩:=o2;obtain⟨P6,⟨_,e5,_⟩|⟨qK,Uy,xs,g4,rfl,e6,m1,m2,PZ,PY⟩⟩:=Rg
  ·have h1:=Xj.out;have h2:=HJ.out.2.1;rw[e5]at h1;simp at h1;omega
  have YU:=BG PY;subst YU;have Q6:=vF (PY.reads);subst Q6;rw[<- Xj.out]at e4;rw[e4,List.append_assoc]at hV;have XI:w2.grownBy (w2.alloc (.cells #[.slice (some ⟨ql,0,none⟩) C.length cl,.slice A6 T.length c6] 29)) none:=be (bf _ _) _;have T7:Bk (w2.alloc (.cells #[.slice (some ⟨ql,0,none⟩) C.length cl,.slice A6 T.length c6] 29)) w2.heap.size 29 [.slice (some ⟨ql,0,none⟩) C.length cl,.slice A6 T.length c6]:=Bk.new;have TA:=bk Pw.out (bk ZH XI);have Z8:=(Zc.out.grow ZH).grow XI;have Wm:=Lib.hid ((Wm.out.grow ZH).grow XI);have YW:=ZH.size;have QP:=X7 ql (by rw[e2];simp)
  have O5:qK∈fp:=by rw[e2,e3,e6];simp
  have O6:=X7 qK (List.mem_append_left _ O5);have S0:=hV.hi;have O7:=PZ.hi
  have Na:qK≠ql:=λe=>by
   have h1:=(List.nodup_append.1 ZQ).1;rw[e2,e3,e6]at h1;exact(List.nodup_cons.1 h1).1 (by rw[<- e];simp)
  have Px:=Lib.hid (And.intro ZQ (And.intro X7 (And.intro e2 (And.intro e3 (And.intro e6 (And.intro o1 (And.intro o3 ob)))))));have N6:=Lib.hid (hV.grow XI);have LZ:=Lib.hid (PZ.grow XI);have HL:=Lib.hid (show d1.length=k from by rw[l3];exact Nat.mul_one k);have RJ:=Lib.hid TA;have VC:=Lib.hid XI;have N3:=Lib.hid (show N<=Uy from by rw[Xj.out];exact m1);have L1:=Lib.hid m2;clear Xf Xg ZQ X7 e2 e3 e4 e6 o1 o3 ob l3 hO PY hV PZ ME P6 m1 m2 O5 ZH Xi Zc
  go_upto_region 13 with fail
  generalize w2.alloc (.cells #[.slice (some ⟨ql,0,none⟩) C.length cl,.slice A6 T.length c6] 29)=W3 at *;generalize hq7:w2.heap.size=q7 at *;have Zc:=Lib.hid Z8;have Rn:=Lib.hid T7;have n0:=T7.cell 0;have XC:=Z8.cell 0;have XD:=Z8.cell 1;have XE:=Z8.cell 2;simp only[List.getElem?_cons_zero,List.getElem?_cons_succ]at n0 XC XD XE
  have nk:W3.cell? ⟨ql,k,none⟩=some (.slice (some ⟨qK,0,none⟩) N Uy):=by
   have h:=N6.out.mid (j:=0) (u:=.slice (some ⟨qK,0,none⟩) N Uy) rfl;rw[HL.out,Nat.add_zero]at h;exact h
  have VV:0<cells.length:=by
   have h1:=Hc.out;have h2:=HJ.out.2.1;rw[<- Xj.out]at h1;omega
  rcases(HY.out.grow RJ.out).cells with⟨h0,_⟩|⟨ad,cc,ys,NG,NI,Pj,Pk⟩
  ·rw[h0]at VV;cases VV
  injection NG with Q8 NH Q9
  subst Q8;subst Q9;have Xe:=vF Pk;subst Xe;have L0:=Lib.hid Pj;have TU:=Lib.hid (show cells.length=n from by have h1:=Hc.out;rw[<- Xj.out,<- Hn.out]at h1;exact h1);clear Pj NI Pk Z8 T7 XI TA VV
  have j2:(j:Int).toNat=j:=by omega
  have j3:(0:Int)<=(j:Int):=by omega
  go_cut []from 63 to 77 (λwx=>G6 (C.set k (ia C[k] j cells)) T w q7 (.slice (some ⟨ql,0,none⟩) C.length cl) (.slice A6 T.length c6) wx)
  case first=>
   go_still_tail 13,(by kernel_rfl)
   still_call (BC qK 0 N Uy j _ HJ.out.1 HJ.out.2.1 N3.out HJ.out.2.2.2)
   rw[<- Hn.out]
   repeat still_step
   refine wpStill_nil ?_;obtain⟨cur,v1,v2,v3⟩:=LZ.out.eq
   have Ty:(cnL cells).length=n*4:=by rw[lI,TU.out]
   have Nn:rCn.size=4:=rfl
   have Q4:(cnL C[k]).length=N*4:=by rw[lI];exact congrArg (· * 4) Xj.out.symm
   have Ml:8*j+n<=N:=by
    have h1:=Hn.out;have h2:=HJ.out.2.1;omega
   have My:=N3.out;change wpList _ _ _ _ _ W3.drew;refine mP 4 rfl (.tmp 73) (.tmp 75) 59 63 rfl Tryz.underlying59 (by kernel_rfl) qK (8*j*4) n (Uy-8*j) rfl ad cells.length c3 rfl cur 63 (cnL cells) v1 ?c1 ?c2 ?c3 (Gt _) ?_
   case c1=>rw[TU.out,Ty];simp
   case c2=>exact λj u hu=>L0.out j u hu
   case c3=>rw[Ty,v2,Nn];omega
   have hL:=tF (e:=63) (w:=W3.drew) (cs:=cnL cells) (o:=8*j*4) v1 v2 v3 (by rw[Ty];exact Nat.le_trans (by omega) (Nat.le_of_eq Q4.symm))
   have ZI:(cnL C[k]).take (8*j*4)++cnL cells++(cnL C[k]).drop (8*j*4+(cnL cells).length)=cnL (ia C[k] j cells):=by
    have e2:8*j*4+(cnL cells).length=(8*j+cells.length)*4:=by rw[lI];omega
    rw[e2,El,Em,ia,th,th]
   have PX:jF 63 (W3.drew.setRow qK (cur.toList.take (8*j*4)++cnL cells++cur.toList.drop (8*j*4+(cnL cells).length)).toArray) qK (Uy*rCn.size) (cnL (ia C[k] j cells)):=by rw[<- ZI];exact hL
   obtain⟨WF,R5⟩:∃WF,WF=(W3.drew.setRow qK (cur.toList.take (8*j*4)++cnL cells++cur.toList.drop (8*j*4+(cnL cells).length)).toArray):=⟨_,rfl⟩;rw[<- R5]at PX⊢
   have hset:∀x,x≠qK->WF.heap[x]?=W3.heap[x]?:=λx hx=>by rw[R5];exact setRow_other W3.drew qK x _ hx
   have hsz:WF.heap.size=W3.heap.size:=by rw[R5];exact vA W3.drew qK _
   have Uq:WF.os=W3.os/\WF.tape=W3.tape/\WF.output=W3.output:=by rw[R5];exact⟨rfl,rfl,rfl⟩
   clear R5;have YD:W3.grownBy WF (some qK):=⟨Uq.1,Uq.2.1,Uq.2.2,Nat.le_of_eq hsz.symm,λx _ hx=>hset x (λe=>hx (by rw[e]))⟩
   have TS:=Lib.hid (show G6 (C.set k (ia C[k] j cells)) T w q7 (.slice (some ⟨ql,0,none⟩) C.length cl) (.slice A6 T.length c6) WF from by
    obtain⟨ZQ,X7,e2,e3,e6,o1,o3,ob⟩:=Px.out;have Qu:=VC.out.size;have hlen:=yU (row:=C[k]) (j:=j) (cells:=cells) (by rw[TU.out];exact Nat.le_trans Ml (Nat.le_of_eq Xj.out));have V3:(ia C[k] j cells).length=N:=hlen.trans Xj.out.symm;have Vh:∀x,x∈fp->w9.heap.size+2<=x:=λx hx=>X7 x (List.mem_append_left _ hx);have OO:=(List.nodup_append.1 ZQ).1
    have Ry:(ql::(g1++(qK :: [])++g3)).Nodup:=by rw[e2,e3,e6]at OO;exact OO
    have hin:∀x,x∈g1++(qK :: [])++g3->x∈fp:=λx hx=>by rw[e2,e3,e6];exact List.mem_cons_of_mem _ hx
    have Z0:∀x,x∈g1->x≠qK:=λx hx e=>by
     have h1:=(List.nodup_cons.1 Ry).2;rw[List.append_assoc]at h1;exact(List.nodup_append.1 h1).2.2 x hx qK (by simp) e
    have Qr:∀x,x∈g3->x≠qK:=λx hx e=>by
     have h1:=(List.nodup_cons.1 Ry).2;exact(List.nodup_append.1 h1).2.2 qK (by simp) x hx e.symm
    have Qv:∀x,x∈gp->x≠qK:=λx hx e=>(List.nodup_append.1 ZQ).2.2 qK (hin qK (by simp)) x hx e.symm
    have hk2:∀x,x<w2.heap.size->x≠qK->WF.heap[x]?=w2.heap[x]?:=λx h1 h2=>by rw[hset x h2,VC.out.block x h1 (by simp)]
    have LF:=HS.out;refine⟨gQ RJ.out YD λk e=>by injection e with e;omega,Wm.out.keep (hset _ (by omega)),Rn.out.keep (hset _ (by omega)),?_,?_⟩
    ·have hown:OSl rCs 59 WF (ql::(g1++(qK :: [])++g3)) (C.set k (ia C[k] j cells)) (.slice (some ⟨ql,0,none⟩) C.length cl):=by
      refine⟨by rw[List.length_set];exact UA,.inr ⟨ql,cl,d1++[.slice (some ⟨qK,0,none⟩) N Uy]++d3,g1++(qK :: [])++g3,by rw[List.length_set],rfl,by rw[List.length_set];exact l1,l2,?_,gY.join HK.out (o1.keep λx hx=>hk2 x (o1.live x hx) (Z0 x hx)) ⟨_,rfl,?_⟩ (o3.keep λx hx=>hk2 x (o3.live x hx) (Qr x hx))⟩⟩
      ·rw[List.append_assoc];exact N6.out.keep (hset ql (λe=>Na e.symm))
      ·refine⟨by rw[V3];exact HJ.out.2.2.2,.inr ⟨qK,Uy,cnL (ia C[k] j cells),[],by rw[V3],rfl,by rw[V3];exact My,L1.out,PX,Cv _ _⟩⟩
     exact hown.reads.sub λx hx=>by
      rcases List.mem_cons.1 hx with rfl|hx
      ·omega
      ·have:=Vh x (hin x hx);omega
    ·exact((ob.keep λx hx=>hk2 x (ob.live x hx) (Qv x hx)).reads).sub λx hx=>by have:=X7 x (List.mem_append_right _ hx);omega)
   clear hset hsz YD hL PX ZI Uq
   go_wp2_with fail
   go_meet
   exact TS.out
  case rest=>
   have HD:=Lib.hid hcut;have j0:=hcut.st.cell 0;have j1:=hcut.st.cell 1;have r0:=hcut.res.cell 0;have r1:=hcut.res.cell 1;have f0:=hcut.res.free 0;have f1:=hcut.res.free 1;have r2:=hcut.res.hi;simp only[List.getElem?_cons_zero,List.getElem?_cons_succ]at j0 j1 r0 r1;clear hcut n0 nk XC XD XE
   go_wp2_with fail
   refine bodyPost_ret (v:=.tuple #[.agg #[.slice (some ⟨ql,0,none⟩) C.length cl,.slice A6 T.length c6],.int .i64 0]) (by simp[results,Tryz.results54,go_sem,r0,r1,r2]) rfl ?_;exact HD.out.ret
inductive ox (w:World)(F:Nat->Prop):TV->Value->Prop
 |im {t:TV} {x:Value} (h:eO w F t x):ox w F t x
 |fn {f:FuncId}:ox w F (.fn f []) (.func (.func f) #[] #[])
 |ag {l:List TV} {cs:Array Value} (hl:cs.size=l.length) (h:∀j (hj:j<l.length),eO w F l[j] (cs.getD j undef)):ox w F (.agg l) (.agg cs)
def Ge:TV->Bool
 |.v _=>true
 |.sl _=>true
 |_=>false
def vZ:TV->Bool
 |.sl _=>true
 |.v _=>true
 |.fn _ []=>true
 |.agg l=>l.all Ge
 |_=>false
def vc(P:Program)(f:FuncId)(vals:List TV)(r:oQ):Prop:=
 r.cells.all Ge=true/\∀(avs:List Value)(w:World)(F:Nat->Prop),avs.length=vals.length->(∀j (h:j<vals.length)(h':j<avs.length),ox w F vals[j] avs[j])->
  Calls P f avs.toArray w λe w2=>∃ys,e=.returned (gL r.sh ys)/\ys.length=r.cells.length/\Below w.heap.size w w2/\∀j (h:j<r.cells.length),eO w2 (λk=>F k\/w.heap.size<=k) r.cells[j] (ys.getD j undef)
def vQ(R:FuncId->List TV->Option oQ):bV:=λf vals pts=>
 match pts with
 | []=>if vals.all vZ then(R f vals).map λr=>(r,[])else none
 |_=>none
section
variable {M:Fm} {σ:St} {ts:Array Value} {w:World}
theorem Inv.addHands{F:Nat->Prop}:∀{z:List TV}{ys:List Value}{H:List TV}{xs:List Value}{G:Gh},Inv M σ H xs ts w G->(∀k,F k->G.F M.A k)->z.length=ys.length->(∀j (h:j<z.length),eO w F z[j] (ys.getD j undef))->∃G',Inv M σ (H++z) (xs++ys) ts w G':=by
 intro z
 induction z with
 |nil=>
  intro ys H xs G hI _ hl _;have:ys=[]:=List.length_eq_zero_iff.1 hl.symm;subst this;exact⟨G,by simpa using hI⟩
 |cons t z ih=>
  intro ys H xs G hI hF hl hz
  cases ys with
  |nil=>simp at hl
  |cons y ys=>
   obtain⟨G1,hg⟩:=hI.addHand ((hz 0 (by simp)).frame (F':=G.F M.A) (λ_ _ _=>rfl) λk hk _=>hF k hk).toOwn
   obtain⟨G2,ZR⟩:=ih hg.1 (λk hk=>hg.2.1 k (hF k hk)) (by simpa using hl) λj hj=>by have:=hz (j+1) (by simpa using hj);simpa using this
   refine⟨G2,?_⟩;simpa using ZR
end
theorem F6{P:Program}{R:FuncId->List TV->Option oQ}(hR:∀f vals r,R f vals=some r->fC P f/\vc P f vals r):ct P (vQ R):=by
 intro f vals pts res ZC h
 cases pts with
 |cons _ _=>simp[vQ]at h
 |nil=>
  simp only[vQ]at h;split at h
  case isFalse=>simp at h
  rename_i ZO;simp only[List.all_eq_true]at ZO
  obtain⟨r,hr,he⟩:∃r,R f vals=some r/\(r,[])=(res,ZC):=by
   cases hr:R f vals with
   |none=>simp[hr]at h
   |some c=>exact⟨c,rfl,by simpa[hr]using h⟩
  injection he with e1 e2
  subst e1 e2;obtain⟨Y8,Wq,Ui⟩:=hR f vals r hr;refine⟨Y8,vals.length,Nat.le_refl _,λM avs w G hal hN RE Y0 hI=>?_⟩;subst RE
  have Tc:avs.toArray++Array.replicate (vals.length-avs.length) undef=avs.toArray:=by rw[hal];simp
  rw[Tc]at hI
  have hst:∀j,(mkSt vals []).t j=vals.getD j .dead:=by
   intro j;simp[St.t,mkSt,ie]
  refine(Ui avs M.w0 (G.F M.A) hal λj hj ZX=>?_).mono λe w2 ⟨ys,VW,hlen,hb,Xe⟩=>?_
  ·have ht:=hI.tmr j;rw[hst]at ht
   have e1:vals.getD j .dead=vals[j]:=by simp[hj]
   have e2:avs.toArray.getD j undef=avs[j]:=by simp[Array.getD_eq_getD_getElem?,ZX]
   rw[e1,e2]at ht;have ha:=ZO _ (List.getElem_mem hj);revert ht ha;generalize vals[j]=t;generalize avs[j]=y;intro ht ha
   cases ht with
   |v h=>exact .im (.v h)
   |sl h=>exact .im h
   | @fn f l xs hl h=>
    cases l with
    |nil=>
     have:xs=#[]:=Array.eq_empty_of_size_eq_zero (by simpa using hl);subst this;exact .fn
    |cons _ _=>simp[vZ]at ha
   | @agg l cs hl h=>
    refine .ag hl λj hj=>?_;have h1:Ge l[j]=true:=List.all_eq_true.1 ha _ (List.getElem_mem hj);have h2:=h j hj;revert h1 h2;generalize l[j]=t;generalize cs.getD j undef=z;intro h1 h2
    cases h2 with
    |v h2=>exact .v h2
    |sl h2=>exact h2
    |_=>simp[Ge]at h1
   |_=>simp[vZ]at ha
  ·obtain⟨ZR,_⟩:=hI.grow (w':=w2) (λk hk=>hb.block k hk) hb.size hb.os hb.tape hb.output
   have hF:∀k,G.F M.A k\/M.w0.heap.size<=k->G.F M.A k:=by
    rintro k (hk|hk)
    ·exact hk
    ·refine⟨M.hA k hk,λr o hφ=>?_,λr b o n hβ e=>?_⟩
     ·have:=hI.core.live hφ;omega
     ·subst e;have:=hI.core.boxlt hβ;omega
   obtain⟨G',W4⟩:=ZR.addHands hF hlen.symm Xe;refine⟨_,mkSt vals [],VW,.inl ⟨ys,avs.toArray,G',rfl,by simpa using W4,λj hj=>.inl ?_⟩,rfl⟩;have:=List.all_eq_true.1 Wq _ (List.getElem_mem hj);revert this;generalize r.cells[j]=t;intro this
   cases t with
   |v _=>rfl
   |sl _=>rfl
   |_=>simp[Ge]at this
def xM:TV->Bool
 |.v _=>true
 |.sl _=>true
 |.ow _=>true
 |_=>false
theorem ox.toTm{w:World}{F:Nat->Prop}{V:Vs}{C:Cs}{G:Gh}{t:TV}{x:Value}(h:ox w F t x):TmR w F V C G t x:=by
 cases h with
 |im h=>exact h.toTm
 |fn=>exact .fn rfl λj hj=>by simp at hj
 |ag hl h=>exact .agg hl λj hj=>(h j hj).toTm
theorem ox.frame{w w':World}{F F':Nat->Prop}{t:TV}{x:Value}(h:ox w F t x)(hw:∀k,F k->k<w.heap.size->w'.heap[k]?=w.heap[k]?)(hF:∀k,F k->k<w.heap.size->F' k):ox w' F' t x:=by
 cases h with
 |im h=>exact .im (h.frame hw hF)
 |fn=>exact .fn
 |ag hl h=>exact .ag hl λj hj=>(h j hj).frame hw hF
theorem tu{P:Program}{B:bV}(hB:ct P B){f:FuncId}{vals:List TV}{avs:List Value}{res:oQ}{w:World}{F:Nat->Prop}(h:B f vals []=some (res,[]))(Zp:res.cells.all xM=true)(hl:avs.length=vals.length)
 (hv:∀j (h:j<vals.length)(h':j<avs.length),ox w F vals[j] avs[j]):
 Calls P f avs.toArray w λe w'=>∃ys,e=.returned (gL res.sh ys)/\ys.length=res.cells.length/\Below w.heap.size w w'/\∀j (h:j<res.cells.length),eO w' (λk=>F k\/w.heap.size<=k) res.cells[j].imm (ys.getD j undef):=by
 obtain⟨Y8,N,hN,hc⟩:=hB f vals [] _ _ h;obtain⟨M,hM⟩:∃M:Fm,M=⟨w,λk=>F k\/w.heap.size<=k,λ_=>False,λ_=>none,N,λk hk=>.inr hk⟩:=⟨_,rfl⟩;have Zi:∀k,F k->frG.F M.A k:=λk hk=>⟨by rw[hM];exact .inl hk,λ_ _ h=>h,λ_ _ _ _ h=>by simp[frG]at h⟩
 have hst:∀i,(mkSt vals []).t i=vals.getD i .dead:=by
  intro i;simp[St.t,mkSt,ie]
 have hE:∀r o,bv M (mkSt vals []) [] r o=.dead:=by
  intro r o;unfold bv;split
  ·simp
  ·rfl
 have hI:Inv M (mkSt vals []) [] [] (avs.toArray++Array.replicate (N-avs.length) undef) w frG:=by
  refine⟨⟨λr o=>.inl ⟨hE r o,λ_ h=>h⟩,λ_ _ _ _ h=>by simp[frG]at h,λ_ _ _ _ h=>by simp[frG]at h,λ_ _ _ _ _ _ _ h=>by simp[frG]at h,λ_ _ _ _ h=>by simp[frG]at h,λ_ _ _ _ _ h=>h.elim,λ_ _ _ h=>h.elim⟩,λi=>?_,⟨by rw[hM],by rw[hM],by rw[hM],by rw[hM];exact Nat.le_refl _,λ_ _ _ _=>by rw[hM],λ_ _ _ _ h=>by simp[hM]at h,λ_ _ _ h=>h.elim,λ_ _ _ _ h=>by simp[frG]at h,λ_ h=>by simp[frG]at h⟩,λr l h=>by simp[mkSt,bz]at h,?_,rfl,λj hj=>by simp at hj,λ_ _ _ _ h=>by simp[frG]at h⟩
  ·rw[hst];by_cases hi:i<vals.length
   ·have ZN:i<avs.length:=by omega
    have e1:vals.getD i .dead=vals[i]:=by simp[hi]
    have e2:(avs.toArray++Array.replicate (N-avs.length) undef).getD i undef=avs[i]:=by
     simp[Array.getD_eq_getD_getElem?,Array.getElem?_append,ZN]
    rw[e1,e2];exact((hv i hi ZN).frame (w':=w) (F':=frG.F M.A) (λ_ _ _=>rfl) λk hk _=>Zi k hk).toTm
   ·have e1:vals.getD i .dead=.dead:=by rw[oGD,oGN (by omega)];rfl
    rw[e1];exact .dead
  ·rw[hM];simp;omega
 refine(hc M avs w frG hl (by rw[hM]) (by rw[hM]) (λr hr=>by simp[hM]at hr) hI).mono λe w2 ⟨v,σ2,he,Yj,_⟩=>?_
 rcases Yj with⟨ys,ts2,G2,rfl,ZR,_⟩|⟨q,vs,l,pv,ts2,G2,ZM,_⟩
 rotate_left
 ·rw[ZM]at Zp;simp[xM]at Zp
 have ZQ:∀j (h:j<res.cells.length),res.cells[j]≠.dead:=λj hj e=>by
  have:=List.all_eq_true.1 Zp res.cells[j] (List.getElem_mem hj);rw[e]at this;simp[xM]at this
 obtain⟨G3,TA,Wq⟩:=ZR.dropImm ZQ;refine⟨ys,he,ZR.hand.symm,⟨?_,?_,?_,?_,λk hk=>?_⟩,λj hj=>(Wq j hj).frame (λ_ _ _=>rfl) λk hk _=>?_⟩
 ·have:=ZR.fram.os;rw[hM]at this;exact this
 ·have:=ZR.fram.tape;rw[hM]at this;exact this
 ·have:=ZR.fram.output;rw[hM]at this;exact this
 ·have:=ZR.fram.size;rw[hM]at this;exact this
 ·have:=ZR.fram.old k (by rw[hM];exact hk) (by rw[hM];exact λh=>h) λ_ _ _ _ h=>by simp[hM]at h
  rw[this,hM]
 ·have:=hk.1;rw[hM]at this;exact this
inductive Iu (w:World)(F:Nat->Prop):TV->Value->Prop
 |im {c:List (List TV)} {x:Value} (h:eO w F (.sl c) x):Iu w F (.sl c) x
 |v {x:Value} (h:dF x=true):Iu w F (.v x) x
 |fn {f:FuncId}:Iu w F (.fn f []) (.func (.func f) #[] #[])
 |ag {l:List TV} {cs:Array Value} (hl:cs.size=l.length) (h:∀j (hj:j<l.length),∃x,l[j]=.v x/\cs.getD j undef=x):Iu w F (.agg l) (.agg cs)
def BZ:TV->Bool
 |.v _=>true
 |_=>false
def uj:TV->Bool
 |.sl _=>true
 |.v _=>true
 |.fn _ []=>true
 |.agg l=>l.all BZ
 |_=>false
def GM(P:Program)(f:FuncId)(vals:List TV)(c:List (List TV)):Prop:=
 ∀(asq:List Value)(w:World)(F:Nat->Prop),asq.length=vals.length->(∀j (h:j<vals.length)(h':j<asq.length),Iu w F vals[j] asq[j])->
  Calls P f asq.toArray w λe w2=>∃x,e=.returned x/\Below w.heap.size w w2/\eO w2 (λk=>F k\/w.heap.size<=k) (.sl c) x
def EX(R:FuncId->List TV->Option (List (List TV))):bV:=λf vals pts=>
 match pts with
 | []=>if vals.all uj then(R f vals).map λc=>(⟨[.sl c],[.one]⟩,[])else none
 |_=>none
theorem HW{P:Program}{R:FuncId->List TV->Option (List (List TV))}(hR:∀f vals c,R f vals=some c->fC P f/\GM P f vals c):ct P (EX R):=by
 intro f vals pts res ZC h
 cases pts with
 |cons _ _=>simp[EX]at h
 |nil=>
  simp only[EX]at h;split at h
  case isFalse=>simp at h
  rename_i ZO;simp only[List.all_eq_true]at ZO
  obtain⟨c,hc,he⟩:∃c,R f vals=some c/\(⟨[.sl c],[.one]⟩,[])=(res,ZC):=by
   cases hr:R f vals with
   |none=>simp[hr]at h
   |some c=>exact⟨c,rfl,by simpa[hr]using h⟩
  injection he with e1 e2
  subst e1 e2;obtain⟨Y8,Ui⟩:=hR f vals c hc;refine⟨Y8,vals.length,Nat.le_refl _,λM asq w G hal hN RE Y0 hI=>?_⟩;subst RE
  have Tc:asq.toArray++Array.replicate (vals.length-asq.length) undef=asq.toArray:=by rw[hal];simp
  rw[Tc]at hI
  have hst:∀j,(mkSt vals []).t j=vals.getD j .dead:=by
   intro j;simp[St.t,mkSt,ie]
  refine(Ui asq M.w0 (G.F M.A) hal λj hj ZX=>?_).mono λe w2 ⟨x,VW,hb,Wq⟩=>?_
  ·have ht:=hI.tmr j;rw[hst]at ht
   have e1:vals.getD j .dead=vals[j]:=by simp[hj]
   have e2:asq.toArray.getD j undef=asq[j]:=by simp[Array.getD_eq_getD_getElem?,ZX]
   rw[e1,e2]at ht;have ha:=ZO _ (List.getElem_mem hj);revert ht ha;generalize vals[j]=t;generalize asq[j]=y;intro ht ha
   cases ht with
   |v h=>exact .v h
   |sl h=>exact .im h
   | @fn f l xs hl h=>
    cases l with
    |nil=>
     have:xs=#[]:=Array.eq_empty_of_size_eq_zero (by simpa using hl);subst this;exact .fn
    |cons _ _=>simp[uj]at ha
   | @agg l cs hl h=>
    refine .ag hl λj hj=>?_;have h1:BZ l[j]=true:=List.all_eq_true.1 ha _ (List.getElem_mem hj);have h2:=h j hj;revert h1 h2;generalize l[j]=t;intro h1 h2
    cases t with
    |v x=>exact⟨x,rfl,by cases h2;rfl⟩
    |_=>simp[BZ]at h1
   |_=>simp[uj]at ha
  ·obtain⟨ZR,_⟩:=hI.grow (w':=w2) (λk hk=>hb.block k hk) hb.size hb.os hb.tape hb.output
   have hF:∀k,G.F M.A k\/M.w0.heap.size<=k->G.F M.A k:=by
    rintro k (hk|hk)
    ·exact hk
    ·refine⟨M.hA k hk,λr o hφ=>?_,λr b o n hβ e=>?_⟩
     ·have:=hI.core.live hφ;omega
     ·subst e;have:=hI.core.boxlt hβ;omega
   obtain⟨G',hg⟩:=ZR.addHand (Wq.frame (F':=G.F M.A) (λ_ _ _=>rfl) λk hk _=>hF k hk).toOwn;refine⟨x,mkSt vals [],VW,.inl ⟨[x],asq.toArray,G',rfl,hg.1,λj hj=>?_⟩,rfl⟩
   have:j=0:=by simpa using hj
   subst this;exact .inl rfl
theorem sk{E:Env}{T:FuncId->Option TFn}{B:bV}{c:Ctr}(hT:T c.f=none)(hB:i7 B c):Lvl E T B 1 c:=by
 intro k _ h o x ho hx
 have e:runF E T B (NN+k) c.f=B c.f:=by
  obtain⟨n,hn⟩:∃n,NN+k=n+1:=⟨NN-1+k,by have:0<NN:=(by decide);omega⟩;rw[hn];funext vals pts;simp only[runF,vo,hT]
 rw[e];exact hB h o x ho hx
abbrev PID:=Int×Int
def dN(a b:PID):Bool:=if(a.1==-1) != (b.1==-1)then b.1==-1 else decide (a.1<b.1)||(a.1==b.1&&decide (a.2<b.2))
def wb:List PID->PID->List PID
 | [],x=>[x]
 |y::r,x=>if dN y x then y::wb r x else if y=x then y::r else x::y::r
def iJ(l:List PID):List PID:=l.foldl wb []
def nz(x:PID):List TV:=[.v (.int .i64 x.1),.v (.int .i64 x.2)]
def E5:List (List TV)->Option (List PID)
 | []=>some []
 |e::r=>match e with
  | [.v (.int .i64 a),.v (.int .i64 b)]=>(E5 r).map ((a,b) :: ·)
  |_=>none
def wz:List (List TV)->Option (List (List PID))
 | []=>some []
 |e::r=>match e with
  | [.sl c]=>(E5 c).bind λl=>(wz r).map (l :: ·)
  |_=>none
theorem sX:∀l:List PID,E5 (l.map nz)=some l
 | []=>rfl
 |x::r=>by simp[E5,nz,sX r]
theorem wy:∀{c:List (List TV)}{l:List PID},E5 c=some l->c=l.map nz
 | [],l,h=>by simp only[E5,oSJ]at h;subst h;rfl
 |e::r,l,h=>by
  simp only[E5]at h;split at h
  ·obtain⟨l',h1,rfl⟩:=Option.map_eq_some_iff.1 h;rw[wy h1];rfl
  ·simp at h
theorem yg:∀{c:List (List TV)}{l:List (List PID)},wz c=some l->c=l.map λx=>[TV.sl (x.map nz)]
 | [],l,h=>by simp only[wz,oSJ]at h;subst h;rfl
 |e::r,l,h=>by
  simp only[wz]at h;split at h
  ·rename_i c;obtain⟨x,h1,h2⟩:=Option.bind_eq_some_iff.1 h;obtain⟨l',h3,rfl⟩:=Option.map_eq_some_iff.1 h2;rw[yg h3,wy h1];rfl
  ·simp at h
theorem uN:∀l:List (List PID),wz (l.map λx=>[TV.sl (x.map nz)])=some l
 | []=>rfl
 |x::r=>by simp[wz,sX,uN r]
end Go.Proofs.YtakfoejcjdcgbaaGreat
namespace Go.Proofs.YtakfoejcjdcgbaaGreat
open Go.RowKit Go.Sort
def GW(W w':World):Prop:=∃q os,w'=grow (W.drewN q) os
theorem GW.refl(W:World):GW W W:=⟨0,#[],by rw[grow_empty];rfl⟩
theorem GW.trans{a b c:World}(h:GW a b)(h':GW b c):GW a c:=by
 obtain⟨q,os,rfl⟩:=h;obtain⟨p,Pp,rfl⟩:=h';exact⟨q+p,os++Pp,by show grow (grow ((a.drewN q).drewN p) os) Pp=_;rw[grow_grow,World.drewN_drewN]⟩
theorem GW.alloc(W:World)(o:Obj):GW W (W.alloc o):=⟨0,#[o],by rw[alloc_eq_grow];rfl⟩
theorem GW.drew(W:World):GW W W.drew:=⟨1,#[],by rw[grow_empty];rfl⟩
def mg(r:Int):Int:=if r=-1 then 1 else 0
def tC(x y:Int):Int:=if x<y then -1 else if y<x then 1 else 0
def orI(a b c:Int):Int:=if a=0 then(if b=0 then c else b)else a
def CZ(x y:PID):Int:=orI (tC (mg x.1) (mg y.1)) (tC x.1 y.1) (tC x.2 y.2)
theorem xL(x:PID)(W:World):Calls Tryz.prog 117 #[.agg #[.int .i64 x.1,.int .i64 x.2]] W λe w'=>e=.returned (.int .i64 (mg x.1))/\GW W w':=by
 by_cases h:x.1=-1
 ·go_enter Tryz.func117,Tryz.ntmps117
  go_wp2
  go_ret
  exact⟨by simp[mg,h],GW.alloc _ _⟩
 ·go_enter Tryz.func117,Tryz.ntmps117
  go_wp2
  go_ret
  exact⟨by simp[mg,h],GW.alloc _ _⟩
theorem wK(x y:Int)(W:World):Calls Tryz.prog 116 #[.int .i64 x,.int .i64 y] W λe w'=>e=.returned (.int .i64 (tC x y))/\GW W w':=by
 by_cases h:x<y
 ·go_enter Tryz.func116,Tryz.ntmps116
  go_wp2
  go_ret
  exact⟨by simp[tC,h],GW.refl _⟩
 ·by_cases h2:y<x
  ·go_enter Tryz.func116,Tryz.ntmps116
   go_wp2
   go_ret
   exact⟨by simp[tC,h,h2],GW.refl _⟩
  ·go_enter Tryz.func116,Tryz.ntmps116
   go_wp2
   go_ret
   exact⟨by unfold tC;rw[oIN (by omega),oIN (by omega)];rfl,GW.refl _⟩
theorem Hz(a b c:Int)(k:Nat)(W:World)(h0:W.cell? ⟨k,0,none⟩=some (.int .i64 a))(h1:W.cell? ⟨k,1,none⟩=some (.int .i64 b))(h2:W.cell? ⟨k,2,none⟩=some (.int .i64 c)):
 Calls Tryz.prog 115 #[.slice (some ⟨k,0,none⟩) 3 3] W λe w'=>e=.returned (.int .i64 (orI a b c))/\GW W w':=by
 by_cases ha:a=0
 ·by_cases hb:b=0
  ·by_cases hc:c=0
   ·go_enter Tryz.func115,Tryz.ntmps115
    go_wp2
    refine wp_loop_rounds 4 ?_;rw[rounds_succ]
    go_wp2
    rw[rounds_succ]
    go_wp2
    rw[rounds_succ]
    go_wp2
    rw[rounds_succ]
    go_wp2
    go_ret
    exact⟨by simp[orI,ha,hb,hc],GW.refl _⟩
   ·go_enter Tryz.func115,Tryz.ntmps115
    go_wp2
    refine wp_loop_rounds 4 ?_;rw[rounds_succ]
    go_wp2
    rw[rounds_succ]
    go_wp2
    rw[rounds_succ]
    go_wp2
    go_ret
    exact⟨by simp[orI,ha,hb],GW.refl _⟩
  ·go_enter Tryz.func115,Tryz.ntmps115
   go_wp2
   refine wp_loop_rounds 4 ?_;rw[rounds_succ]
   go_wp2
   rw[rounds_succ]
   go_wp2
   go_ret
   exact⟨by simp[orI,ha,hb],GW.refl _⟩
 ·go_enter Tryz.func115,Tryz.ntmps115
  go_wp2
  refine wp_loop_rounds 4 ?_;rw[rounds_succ]
  go_wp2
  go_ret
  exact⟨by simp[orI,ha],GW.refl _⟩
def IF(a b c:Int)(v:Value)(w:World):Prop:=∃k,v=.slice (some ⟨k,0,none⟩) 3 3/\w.cell? ⟨k,0,none⟩=some (.int .i64 a)/\w.cell? ⟨k,1,none⟩=some (.int .i64 b)/\w.cell? ⟨k,2,none⟩=some (.int .i64 c)
theorem rkw{w w':World}(h:GW w w'):RK (λ_=>False) w w':=by
 obtain⟨q,os,rfl⟩:=h;refine⟨by simp[grow],λb hb _=>?_⟩;show(w.heap++os)[b]?=_;rw[Array.getElem?_append_left hb]
theorem wO{w:World}{b o:Nat}{v:Value}(h:w.cell? ⟨b,o,none⟩=some v):b<w.heap.size:=World.block_lt_of_cell? w _ h
theorem Bh{a b c:Int}(w w':World)(u:Value)(h:RK (λ_=>False) w w')(hs:IF a b c u w):IF a b c u w':=by
 obtain⟨k,h1,h2,h3,h4⟩:=hs;have hk:=wO h2;exact⟨k,h1,by rw[h.cell hk id];exact h2,by rw[h.cell hk id];exact h3,by rw[h.cell hk id];exact h4⟩
theorem DC(a b c:Int)(w:World)(t:TypeId):IF a b c (.slice (some ⟨w.heap.size,0,none⟩) 3 3) (w.alloc (.cells #[.int .i64 a,.int .i64 b,.int .i64 c] t)):=by
 refine⟨_,rfl,?_,?_,?_⟩<;>rw[World.cell?_alloc_new]<;>rfl
theorem rO{W w':World}{a b c d:Value}{t t':TypeId}(h:GW ((W.alloc (.cells #[a,b] t)).alloc (.cells #[c,d] t')) w'):
 w'.cell? ⟨W.heap.size,0,none⟩=some a/\w'.cell? ⟨W.heap.size,1,none⟩=some b/\w'.cell? ⟨W.heap.size+1,0,none⟩=some c/\w'.cell? ⟨W.heap.size+1,1,none⟩=some d:=by
 have hk:=rkw h
 have e1:∀o v,(W.alloc (.cells #[a,b] t)).cell? ⟨W.heap.size,o,none⟩=some v->w'.cell? ⟨W.heap.size,o,none⟩=some v:=λo v hv=>by
  rw[hk.cell (by simp;omega) id,World.cell?_of_block (heap_alloc_old _ _ (by simp))];exact hv
 have e2:∀o v,((W.alloc (.cells #[a,b] t)).alloc (.cells #[c,d] t')).cell? ⟨W.heap.size+1,o,none⟩=some v->w'.cell? ⟨W.heap.size+1,o,none⟩=some v:=λo v hv=>by
  rw[hk.cell (by simp) id];exact hv
 have hs:W.heap.size+1=(W.alloc (.cells #[a,b] t)).heap.size:=by simp
 refine⟨e1 _ _ ?_,e1 _ _ ?_,e2 _ _ ?_,e2 _ _ ?_⟩
 ·rw[World.cell?_alloc_new];rfl
 ·rw[World.cell?_alloc_new];rfl
 ·rw[hs,World.cell?_alloc_new];rfl
 ·rw[hs,World.cell?_alloc_new];rfl
set_option maxHeartbeats 4000000 in
set_option maxRecDepth 100000 in
theorem BH(x y:PID)(W:World):Calls Tryz.prog 86 #[.agg #[.int .i64 x.1,.int .i64 x.2],.agg #[.int .i64 y.1,.int .i64 y.2]] W λe w'=>e=.returned (.int .i64 (CZ x y))/\GW W w':=by
 go_enter Tryz.func86,Tryz.ntmps86
 go_wp2_with fail
 refine fM (λw'=>GW ((W.alloc (.cells #[.int .i64 x.1,.int .i64 x.2] 25)).alloc (.cells #[.int .i64 y.1,.int .i64 y.2] 25)) w') (RK λ_=>False)
  [bG (.agg #[.int .i64 x.1,.int .i64 x.2]),bG (.int .i64 (mg x.1)),bG (.agg #[.int .i64 y.1,.int .i64 y.2]),bG (.int .i64 (mg y.1)),bG (.int .i64 (tC (mg x.1) (mg y.1))),bG (.pointer (some ⟨W.heap.size,0,none⟩)),bG (.int .i64 x.1),bG (.pointer (some ⟨W.heap.size+1,0,none⟩)),bG (.int .i64 y.1),bG (.int .i64 (tC x.1 y.1)),bG (.pointer (some ⟨W.heap.size,1,none⟩)),bG (.int .i64 x.2),bG (.pointer (some ⟨W.heap.size+1,1,none⟩)),bG (.int .i64 y.2),bG (.int .i64 (tC x.2 y.2)),IF (tC (mg x.1) (mg y.1)) (tC x.1 y.1) (tC x.2 y.2),bG (.int .i64 (CZ x y)),bG (.int .i64 (CZ x y))]
  22 (by kernel_rfl) rfl (by kernel_rfl) (GW.drew _) (λ_=>RK.refl _ _) ?_ ?_ ?_
 ·exact⟨bG.kept,bG.kept,bG.kept,bG.kept,bG.kept,bG.kept,bG.kept,bG.kept,bG.kept,bG.kept,bG.kept,bG.kept,bG.kept,bG.kept,bG.kept,Bh,bG.kept,bG.kept,trivial⟩
 ·refine aY ?_ (aY ?_ (aY ?_ (aY ?_ (aY ?_ (aY ?_ (aY ?_ (aY ?_ (aY ?_ (aY ?_ (aY ?_ (aY ?_ (aY ?_ (aY ?_ (aY ?_ (aY ?_ (aY ?_ (aY ?_ kJ)))))))))))))))))
  ·refine bc rfl λf w1 hb H=>?_;have e2:f 2=_:=H 2 (by decide);clear H;have hc:=rO hb;obtain⟨c0,c1,c2,c3⟩:=hc;have HB:=Lib.hid hb;clear hb
   go_simp
   exact⟨HB.out,RK.refl _ _,rfl⟩
  ·refine bc rfl λf w1 hb H=>?_;have e5:f 5=_:=H 5 (by decide);clear H;have HB:=Lib.hid hb;clear hb
   go_simp
   refine(xL x w1).mono ?_;rintro e w2 ⟨rfl,hg⟩;exact⟨_,rfl,HB.out.trans hg,rkw hg,rfl⟩
  ·refine bc rfl λf w1 hb H=>?_;have e3:f 3=_:=H 3 (by decide);clear H;have hc:=rO hb;obtain⟨c0,c1,c2,c3⟩:=hc;have HB:=Lib.hid hb;clear hb
   go_simp
   exact⟨HB.out,RK.refl _ _,rfl⟩
  ·refine bc rfl λf w1 hb H=>?_;have e7:f 7=_:=H 7 (by decide);clear H;have HB:=Lib.hid hb;clear hb
   go_simp
   refine(xL y w1).mono ?_;rintro e w2 ⟨rfl,hg⟩;exact⟨_,rfl,HB.out.trans hg,rkw hg,rfl⟩
  ·refine bc rfl λf w1 hb H=>?_;have e6:f 6=_:=H 6 (by decide);have e8:f 8=_:=H 8 (by decide);clear H;have HB:=Lib.hid hb;clear hb
   go_simp
   refine(wK _ _ w1).mono ?_;rintro e w2 ⟨rfl,hg⟩;exact⟨_,rfl,HB.out.trans hg,rkw hg,rfl⟩
  ·refine bc rfl λf w1 hb H=>?_;have e2:f 2=_:=H 2 (by decide);clear H;have HB:=Lib.hid hb;clear hb
   go_simp
   exact⟨HB.out,RK.refl _ _,rfl⟩
  ·refine bc rfl λf w1 hb H=>?_;have Le:f 10=_:=H 10 (by decide);clear H;have hc:=rO hb;obtain⟨c0,c1,c2,c3⟩:=hc;have HB:=Lib.hid hb;clear hb
   go_simp
   exact⟨HB.out,RK.refl _ _,rfl⟩
  ·refine bc rfl λf w1 hb H=>?_;have e3:f 3=_:=H 3 (by decide);clear H;have HB:=Lib.hid hb;clear hb
   go_simp
   exact⟨HB.out,RK.refl _ _,rfl⟩
  ·refine bc rfl λf w1 hb H=>?_;have Lg:f 12=_:=H 12 (by decide);clear H;have hc:=rO hb;obtain⟨c0,c1,c2,c3⟩:=hc;have HB:=Lib.hid hb;clear hb
   go_simp
   exact⟨HB.out,RK.refl _ _,rfl⟩
  ·refine bc rfl λf w1 hb H=>?_;have Lf:f 11=_:=H 11 (by decide);have Of:f 13=_:=H 13 (by decide);clear H;have HB:=Lib.hid hb;clear hb
   go_simp
   refine(wK _ _ w1).mono ?_;rintro e w2 ⟨rfl,hg⟩;exact⟨_,rfl,HB.out.trans hg,rkw hg,rfl⟩
  ·refine bc rfl λf w1 hb H=>?_;have e2:f 2=_:=H 2 (by decide);clear H;have HB:=Lib.hid hb;clear hb
   go_simp
   exact⟨HB.out,RK.refl _ _,rfl⟩
  ·refine bc rfl λf w1 hb H=>?_;have Li:f 15=_:=H 15 (by decide);clear H;have hc:=rO hb;obtain⟨c0,c1,c2,c3⟩:=hc;have HB:=Lib.hid hb;clear hb
   go_simp
   exact⟨HB.out,RK.refl _ _,rfl⟩
  ·refine bc rfl λf w1 hb H=>?_;have e3:f 3=_:=H 3 (by decide);clear H;have HB:=Lib.hid hb;clear hb
   go_simp
   exact⟨HB.out,RK.refl _ _,rfl⟩
  ·refine bc rfl λf w1 hb H=>?_;have Lk:f 17=_:=H 17 (by decide);clear H;have hc:=rO hb;obtain⟨c0,c1,c2,c3⟩:=hc;have HB:=Lib.hid hb;clear hb
   go_simp
   exact⟨HB.out,RK.refl _ _,rfl⟩
  ·refine bc rfl λf w1 hb H=>?_;have Lj:f 16=_:=H 16 (by decide);have Ll:f 18=_:=H 18 (by decide);clear H;have HB:=Lib.hid hb;clear hb
   go_simp
   refine(wK _ _ w1).mono ?_;rintro e w2 ⟨rfl,hg⟩;exact⟨_,rfl,HB.out.trans hg,rkw hg,rfl⟩
  ·refine bc rfl λf w1 hb H=>?_;have e9:f 9=_:=H 9 (by decide);have Lh:f 14=_:=H 14 (by decide);have Lm:f 19=_:=H 19 (by decide);clear H;have HB:=Lib.hid hb;clear hb
   go_simp
   exact⟨HB.out.trans (GW.alloc _ _),rkw (GW.alloc _ _),DC _ _ _ _ _⟩
  ·refine bc rfl λf w1 hb H=>?_;have NP:=H 20 (by decide);clear H;obtain⟨k,NQ,Ri,Rj,Rk⟩:=NP;have HB:=Lib.hid hb;clear hb
   go_simp
   refine(Hz _ _ _ k w1 Ri Rj Rk).mono ?_;rintro e w2 ⟨rfl,hg⟩;exact⟨_,rfl,HB.out.trans hg,rkw hg,rfl⟩
  ·refine bc rfl λf w1 hb H=>?_;have Ln:f 21=_:=H 21 (by decide);clear H;have HB:=Lib.hid hb;clear hb
   go_simp
   exact⟨HB.out,RK.refl _ _,rfl⟩
 ·intro f w9 hb hE;simp only[eL,Act.put,vq,List.setIfInBounds_toArray,List.set_cons_succ,List.set_cons_zero]
  have e4:f 4=.int .i64 (CZ x y):=by
   simp only[G9,yA,bG]at hE;simp[hE]
  rw[e4];clear hE e4
  go_wp2
  go_ret
  exact⟨rfl,((GW.alloc _ _).trans (GW.alloc _ _)).trans hb⟩
end Go.Proofs.YtakfoejcjdcgbaaGreat
namespace Go.Proofs.YtakfoejcjdcgbaaGreat
open Go.RowKit Go.Sort Go.Lib
def gc(x:PID):List Value:=[.int .i64 x.1,.int .i64 x.2]
theorem Hv(x y:PID)(w:World):Sem.run Tryz.prog (binOp .eql 25 (.agg #[.int .i64 x.1,.int .i64 x.2]) (.agg #[.int .i64 y.1,.int .i64 y.2])) w=.ok (.bool (decide (x=y))) w:=by
 have u3:=Tryz.underlying3;have a3:=Tryz.isAgg3;have z3:=Tryz.sizeOf3
 have hS:Tryz.prog.underlying 25=some (.struct (Tryz.prog.fieldsOf 25)):=by kernel_rfl
 have hp:Tryz.prog.stoodInHeld 25=false:=by kernel_rfl
 rw[run_eql_struct,show(10000:Nat)=9999+1 from rfl,run_equalIn_agg w 9999 25 _ _ hS hp];simp only[Program.fieldsOf,Tryz.underlying25]
 go_simp
 by_cases h1:x.fst=y.fst<;>by_cases h2:x.snd=y.snd<;>simp[h1,h2,Prod.ext_iff]
theorem cQ{W:World}{Zo off:Nat}{d:Array PID}(h:HoldsK gc 2 W Zo off d){i:Nat}(hi:i<d.size):
 W.cell? ⟨Zo,off+i*2,none⟩=some (.int .i64 d[i]!.1)/\W.cell? ⟨Zo,off+i*2+1,none⟩=some (.int .i64 d[i]!.2)/\W.frozen? ⟨Zo,off+i*2,none⟩=false/\W.frozen? ⟨Zo,off+i*2+1,none⟩=false:=by
 have h0:=h.cell hi (c:=0) (by omega);have h1:=h.cell hi (c:=1) (by omega);exact⟨by simpa[gc]using h0.1,by simpa[gc]using h1.1,by simpa using h0.2,by simpa using h1.2⟩
theorem Hm{w wr:World}{n Zo off:Nat}{dk:Array PID}{i:Nat}(hi:i<dk.size)(Tj:wr=putRowK gc 2 (Sort.ahead w n) Zo off dk)(x:PID):
 ((wr.drew.setCell ⟨Zo,off+i*2,none⟩ (.int .i64 x.1)).setCell ⟨Zo,off+i*2+1,none⟩ (.int .i64 x.2))=putRowK gc 2 (Sort.ahead w (n+1)) Zo off (dk.setIfInBounds i x):=by
 subst Tj
 have hb:i*2+(gc x).length<=(flatK gc 2 dk).size:=by simp[gc];omega
 have e:=setCells_putRow (Sort.ahead w (n+1)) Zo off (gc x) (i*2) (flatK gc 2 dk) hb
 have e2:setMany (flatK gc 2 dk) (i*2) (gc x)=flatK gc 2 (dk.setIfInBounds i x):=by
  refine ext_get! (by simp) λt ht=>?_
  have YX:t<dk.size*2:=by simpa using ht
  rw[get_setMany _ _ _ t (by simpa using YX),get_flatK _ _ _ t YX,get_flatK _ _ _ t (by simpa using YX)]
  have hq:t/2<dk.size:=by omega
  by_cases a:t/2=i
  ·rw[oIP (by simp[gc];omega)]
   have:t-i*2=t%2:=by omega
   rw[this,a];simp[show i<dk.size from hi]
  ·rw[oIN (by simp[gc];omega)];simp[Array.getElem!_eq_getD,Array.getD,hq,Array.getElem_setIfInBounds,Ne.symm a]
 rw[e2]at e;exact e
structure cW (b:Nat)(w w':World):Prop where
 os:w'.os=w.os
 tape:w'.tape=w.tape
 output:w'.output=w.output
 size:w'.heap.size=w.heap.size
 block:∀k,k≠b->w'.heap[k]?=w.heap[k]?
theorem cW.set(b o:Nat)(w:World)(v:Value):cW b w (w.setCell ⟨b,o,none⟩ v):=⟨rfl,rfl,rfl,by simp,λk hk=>Below.heap_setCell w _ v k hk⟩
theorem cW.refl(b:Nat)(w:World):cW b w w:=⟨rfl,rfl,rfl,rfl,λ_ _=>rfl⟩
theorem cW.trans{b:Nat}{w w' Xh:World}(h:cW b w w')(h':cW b w' Xh):cW b w Xh:=
 ⟨h'.os.trans h.os,h'.tape.trans h.tape,h'.output.trans h.output,h'.size.trans h.size,λk hk=>(h'.block k hk).trans (h.block k hk)⟩
theorem cW.setCells(b:Nat):∀(vs:List Value)(o:Nat)(w:World),cW b w (w.setCells b o vs)
 | [],_,_=>cW.refl _ _
 |v::r,o,w=>(cW.set b o w v).trans (cW.setCells b r (o+1) _)
theorem cW.ahead(b:Nat)(w:World)(n:Nat):cW b w (Sort.ahead w n):=⟨rfl,rfl,rfl,rfl,λ_ _=>rfl⟩
theorem cW.drewN(b:Nat)(w:World)(n:Nat):cW b w (w.drewN n):=⟨rfl,rfl,rfl,rfl,λ_ _=>rfl⟩
theorem cW.putRow(b off:Nat)(w:World)(d:Array PID):cW b w (putRowK gc 2 w b off d):=by
 unfold putRowK Go.Sort.putRow mapBlock;exact⟨rfl,rfl,rfl,by simp,λk hk=>by simp[Array.getElem?_modify,Ne.symm hk]⟩
def jz(w:World)(b off:Nat)(l:List PID):Prop:=∀i (h:i<l.length),w.cell? ⟨b,off+i*2,none⟩=some (.int .i64 l[i].1)/\w.cell? ⟨b,off+i*2+1,none⟩=some (.int .i64 l[i].2)
theorem IM(x y:PID)(w:World):Sem.run Tryz.prog (binOp .neq 25 (.agg #[.int .i64 x.1,.int .i64 x.2]) (.agg #[.int .i64 y.1,.int .i64 y.2])) w=.ok (.bool (!decide (x=y))) w:=by
 have h:=Hv x y w;rw[run_eql_struct]at h;rw[run_neq_struct];revert h
 cases(Op.equalIn 10000 25 (.agg #[.int .i64 x.1,.int .i64 x.2]) (.agg #[.int .i64 y.1,.int .i64 y.2])).run Tryz.prog w with
 |ok b w'=>intro h;simp only[Result.andThen_ok]at h⊢;injection h with h1 h2;injection h1 with h1;rw[h1,h2]
 |_=>intro h;simp[Result.andThen]at h
theorem DI(op:BinOp)(a b:Operand)(x y:PID)(w:World):Sem.run Tryz.prog (eqGuard op 25 a b (.agg #[.int .i64 x.1,.int .i64 x.2]) (.agg #[.int .i64 y.1,.int .i64 y.2])) w=.ok () w:=
 (GuardAt.agg (P:=Tryz.prog) (T:=25) (λx:PID=>#[.int .i64 x.1,.int .i64 x.2]) (by kernel_rfl)) op a b x y w
theorem gl(b:Nat):∀(vs:List Value)(o:Nat){w:World}{j:Nat},j<o->(w.setCells b o vs).cell? ⟨b,j,none⟩=w.cell? ⟨b,j,none⟩
 | [],_,_,_,_=>rfl
 |v::r,o,w,j,h=>by
  show((w.setCell ⟨b,o,none⟩ v).setCells b (o+1) r).cell? _=_;rw[gl b r (o+1) (by omega)];refine World.cell?_setCell_other (h:=?_) ..
  intro e;injection e with _ e _;omega
theorem zM(w:World)(ty:TypeId)(b o n c:Nat)(hn:0<n)(hc:∀j,j<n*2->(w.cell? ⟨b,o+j,none⟩).isSome=true/\w.frozen? ⟨b,o+j,none⟩=false):
 (Builtin.clear_ #[30] ty #[.slice (some ⟨b,o,none⟩) n c]).run Tryz.prog w=.ok (.tuple #[]) (w.setCells b o (List.replicate (n*2) (.int .i64 0))):=by
 have WS:(Builtin.zeroCells #[.int .i64 0,.int .i64 0] n).toList=List.replicate (n*2) (.int .i64 0):=by
  simp[Builtin.zeroCells];apply List.ext_getElem
  ·simp
  ·intro i h1 h2;simp only[List.getElem_map,List.getElem_replicate]
   rcases Nat.mod_two_eq_zero_or_one i with e|e<;>simp[e]
 have hst:=run_storeCells_cells (P:=Tryz.prog) b o (List.replicate (n*2) (.int .i64 0)) 0 w (λj hj=>by simpa using(hc j (by simpa using hj)).1) (λj hj=>by simpa using(hc j (by simpa using hj)).2) (by intro v YB;rw[List.eq_of_mem_replicate YB];rfl);simp only[Nat.add_zero]at hst;obtain⟨m,rfl⟩:∃m,n=m+1:=⟨n-1,by omega⟩;have hv:∀w,(zeroValue 25).run Tryz.prog w=.ok (.agg #[.int .i64 0,.int .i64 0]) w:=Tryz.zeroValue25;simp[Builtin.clear_,run_underlying Tryz.underlying30,hv,Value.cells,WS,hst]
def GJ(w w':World)(Zo off:Nat)(d:Array PID):Prop:=jz w' Zo off (compactUpTo d d.size)/\cW Zo w w'
theorem um{w:World}{Zo off:Nat}{d:Array PID}(h:HoldsK gc 2 w Zo off d){l:List PID}(hl:l.length<=d.size)(he:∀i (h:i<l.length),l[i]=d[i]!):jz w Zo off l:=λi hi=>by
 have:=cQ h (i:=i) (by omega);rw[he i hi];exact⟨this.1,this.2.1⟩
set_option maxHeartbeats 8000000 in
set_option maxRecDepth 1000000 in
theorem wE(Zo off cap:Nat)(d:Array PID)(w:World)(hH:HoldsK gc 2 w Zo off d)(hcap:d.size<=cap)(hsz:d.size<=4611686018427387904):
 Calls Tryz.prog 114 #[.slice (some ⟨Zo,off,none⟩) d.size cap] w λe w'=>e=.returned (.slice (some ⟨Zo,off,none⟩) (compactUpTo d d.size).length cap)/\GJ w w' Zo off d:=by
 have mixed:Tryz.prog.follows .mixedOrders=true:=by kernel_rfl
 have MJ:=λx y w=>Hv x y w;have M':=λx y w=>IM x y w;have MO:=λop a b x y w=>DI op a b x y w
 have Ww:∀q,(∀j,j<d.size->keeps d j=true)->(compactUpTo d d.size).length=d.size/\GJ w (w.drewN q) Zo off d:=by
  intro q ZO
  have e:compactUpTo d d.size=d.toList:=by rw[compactUpTo_all d _ ZO,range_map_get]
  refine⟨by rw[e];simp,?_,cW.drewN _ _ _⟩;rw[e]
  exact um (d:=d) (holdsK_ahead gc 2 w q Zo off d hH) (by simp) λi hi=>by simp at hi;simp[hi]
 have HS:Aside (∀q,(∀j,j<d.size->keeps d j=true)->(compactUpTo d d.size).length=d.size/\GJ w (w.drewN q) Zo off d):=Ww;clear Ww;by_cases h2:d.size<2
 ·have HH:Aside (HoldsK gc 2 w Zo off d):=hH;clear hH
  go_enter Tryz.func114,Tryz.ntmps114
  go_wp2
  go_ret
  obtain⟨e1,e2⟩:=HS.out 0 (λj hj=>keeps_lt_one d j (by omega));exact⟨by rw[e1];rfl,e2⟩
 ·go_enter Tryz.func114,Tryz.ntmps114
  go_wp2
  go_loopg [3] d.size (λg s3 wr=>∃k q:Nat,1<=k/\k<=d.size/\d.size-k<=g/\s3=.int .i64 k/\wr=w.drewN q/\∀j,j<k->keeps d j=true)
  case atStart=>exact⟨1,0,Nat.le_refl _,by omega,by omega,rfl,rfl,keeps_lt_one d⟩
  case round=>
   obtain⟨k,q,Y9,hk,hg,rfl,rfl,ZO⟩:=hrel;by_cases hlt:k<d.size
   ·obtain⟨c1,Ob,f1,Me⟩:=cQ hH hlt;obtain⟨c0,Oa,f0,Md⟩:=cQ hH (i:=k-1) (by omega);have A:Aside (∀j,j<k->keeps d j=true):=ZO;have HH:Aside (HoldsK gc 2 w Zo off d):=hH;clear ZO hH;generalize hx:d[k]! = x at c1 Ob;generalize hy:d[k-1]! = y at c0 Oa;have B:Aside (d[k]! = x/\d[k-1]! = y):=⟨hx,hy⟩;clear hx hy;by_cases hdup:x=y
    ·subst hdup
     go_wp2_with fail
     go_region_o
     go_wp2
     clear c0 c1 Oa Ob f0 f1 Md Me
     go_loopg [3,5] d.size (λg s3 s5 wr=>∃(kk k2 q2:Nat)(dk:Array PID),s3=.int .i64 kk/\s5=.int .i64 k2/\1<=k2/\k+k2<=d.size/\d.size-(k+k2)<=g/\wr=putRowK gc 2 (Sort.ahead w q2) Zo off dk/\CompInv d (k+k2) kk dk)
     case atStart=>exact⟨k,1,q+1,d,rfl,rfl,Nat.le_refl _,by omega,by omega,(putRowK_self gc 2 (Sort.ahead w (q+1)) Zo off d (holdsK_ahead gc 2 w (q+1) Zo off d HH.out)).symm,CompInv.start A.out (keeps_neg (by omega) (by rw[B.out.1,B.out.2]))⟩
     case round=>
      obtain⟨kk,k2,q2,dk,rfl,rfl,h1,YR,ZH,Tj,hI⟩:=hrel;have hkk:=hI.lt;have hds:=hI.size
      have T4:HoldsK gc 2 wr Zo off dk:=by rw[Tj];exact holdsK_putRowK gc 2 _ Zo off d dk (holdsK_ahead gc 2 w q2 Zo off d HH.out) hds
      have W2:Aside (wr=putRowK gc 2 (Sort.ahead w q2) Zo off dk):=Tj;have I2:Aside (CompInv d (k+k2) kk dk):=hI;clear Tj;by_cases hlt2:k+k2<d.size
      ·obtain⟨cm,Od,_,_⟩:=cQ T4 (i:=k+k2) (by omega);obtain⟨cp,Oe,_,_⟩:=cQ T4 (i:=k+k2-1) (by omega);obtain⟨ck,L7,fk,Lo⟩:=cQ T4 (i:=kk) (by omega);rw[hI.high (k+k2) (by omega),show off+(k+k2)*2=off+k*2+k2*2 by omega]at cm Od;rw[hI.high (k+k2-1) (by omega),show off+(k+k2-1)*2=off+k*2+(k2-1)*2 by omega]at cp Oe;clear T4 hI;generalize hu:d[k+k2]! = u at cm Od;generalize hv:d[k+k2-1]! = v at cp Oe;generalize dk[kk]! = old at ck L7;have C:Aside (d[k+k2]! = u/\d[k+k2-1]! = v):=⟨hu,hv⟩;clear hu hv;by_cases huv:u=v
       ·subst huv
        go_wp2_with fail
        go_region_o
        go_wp2
        go_roundg (d.size-(k+(k2+1)))
        case measure=>omega
        case rel=>exact⟨kk,k2+1,q2+1,dk,rfl,by go_num,by omega,by omega,Nat.le_refl _,by rw[W2.out];rfl,I2.out.skip (keeps_neg (by omega) (by rw[C.out.1,C.out.2]))⟩
       ·go_wp2_with fail
        go_region_o
        go_wp2
        go_roundg (d.size-(k+(k2+1)))
        case measure=>omega
        case rel=>exact⟨kk+1,k2+1,q2+1,dk.setIfInBounds kk u,by go_num,by go_num,by omega,by omega,Nat.le_refl _,Hm (by omega) W2.out u,by have:=I2.out.keep hlt2 (keeps_pos (by rw[C.out.1,C.out.2];exact huv));rwa [C.out.1]at this⟩
      ·have W7:k+k2=d.size:=by omega
       have hcl:∀ty,(Builtin.clear_ #[30] ty #[.slice (some ⟨Zo,off+kk*2,none⟩) (d.size-kk) (cap-kk)]).run Tryz.prog wr=.ok (.tuple #[]) (wr.setCells Zo (off+kk*2) (List.replicate ((d.size-kk)*2) (.int .i64 0))):=λty=>zM wr ty Zo (off+kk*2) (d.size-kk) (cap-kk) (by omega) λj hj=>by
        have h:=cQ T4 (i:=kk+j/2) (by omega);rcases Nat.mod_two_eq_zero_or_one j with e|e
        ·rw[show off+kk*2+j=off+(kk+j/2)*2 by omega];exact⟨by rw[h.1];rfl,h.2.2.1⟩
        ·rw[show off+kk*2+j=off+(kk+j/2)*2+1 by omega];exact⟨by rw[h.2.1];rfl,h.2.2.2⟩
       have HK:=Lib.hid T4;clear T4 hI
       go_wp2
       go_ret
       have hI:=I2.out;rw[W7]at hI;have hl:=hI.len;refine⟨by rw[hl];rfl,λi hi=>?_,?_⟩
       ·rw[hl]at hi;have X7:=hI.low i hi;obtain⟨g1,g2,_,_⟩:=cQ HK.out (i:=i) (by omega)
        have e:(compactUpTo d d.size)[i]'(by rw[hl];exact hi)=dk[i]!:=by
         have:=oGS X7;exact this.2
        rw[e];exact⟨by rw[gl _ _ _ (by omega)];exact g1,by rw[gl _ _ _ (by omega)];exact g2⟩
       ·rw[W2.out];exact((cW.ahead _ _ _).trans (cW.putRow _ _ _ _)).trans (cW.setCells _ _ _ _)
    ·go_wp2_with fail
     go_region_o
     go_wp2
     go_roundg (d.size-(k+1))
     case measure=>omega
     case rel=>
      refine⟨k+1,q+1,by omega,by omega,Nat.le_refl _,by go_num,rfl,λj hj=>?_⟩;by_cases e:j=k
      ·subst e;exact keeps_pos (by rw[B.out.1,B.out.2];exact hdup)
      ·exact A.out j (by omega)
   ·have:k=d.size:=by omega
    subst this;have HH:Aside (HoldsK gc 2 w Zo off d):=hH;clear hH
    go_wp2
    go_ret
    obtain⟨e1,e2⟩:=HS.out q ZO;exact⟨by rw[e1];rfl,e2⟩
theorem i6(a b:PID):dN a b=true↔(a.1≠-1/\b.1=-1)\/((a.1=-1↔b.1=-1)/\(a.1<b.1\/a.1=b.1/\a.2<b.2)):=by
 unfold dN;by_cases h1:a.1=-1<;>by_cases h2:b.1=-1<;>simp[h1,h2,oBF]
theorem iu(a:PID):dN a a=false:=by
 rw[<- Bool.not_eq_true,i6];omega
theorem jo{a b c:PID}(h1:dN a b=true)(h2:dN b c=true):dN a c=true:=by
 rw[i6]at *;omega
theorem qc{a b:PID}(h1:dN a b=false)(h2:dN b a=false):a=b:=by
 rw[<- Bool.not_eq_true,i6]at *
 have e1:a.1=b.1:=by omega
 have e2:a.2=b.2:=by omega
 exact Prod.ext e1 e2
theorem wU{a b:PID}(h1:dN a b=true):dN b a=false:=by
 rw[<- Bool.not_eq_true];intro h2;have:=jo h1 h2;rw[iu]at this;cases this
theorem rM(a b:Int):(a<b/\tC a b=-1)\/(a=b/\tC a b=0)\/(b<a/\tC a b=1):=by
 unfold tC;by_cases h:a<b
 ·exact .inl ⟨h,oIP h⟩
 ·rw[oIN h];by_cases h2:b<a
  ·exact .inr (.inr ⟨h2,oIP h2⟩)
  ·exact .inr (.inl ⟨by omega,oIN h2⟩)
theorem px(a:Int):(a=-1/\mg a=1)\/(a≠-1/\mg a=0):=by
 unfold mg;by_cases h:a=-1
 ·exact .inl ⟨h,oIP h⟩
 ·exact .inr ⟨h,oIN h⟩
theorem oF(x y:PID):ltOf CZ x y=dN x y:=by
 rw[Bool.eq_iff_iff,i6];unfold ltOf CZ;rw[decide_eq_true_iff]
 rcases px x.1 with⟨h1,e1⟩|⟨h1,e1⟩<;>rcases px y.1 with⟨h2,e2⟩|⟨h2,e2⟩<;>rw[e1,e2]<;>rcases rM x.1 y.1 with⟨h3,e3⟩|⟨h3,e3⟩|⟨h3,e3⟩<;>rw[e3] <;>
  rcases rM x.2 y.2 with⟨h4,e4⟩|⟨h4,e4⟩|⟨h4,e4⟩<;>rw[e4]<;>simp only[orI,tC]<;>simp<;>omega
theorem Fl:SWO (ltOf CZ) where
 irrefl x:=by rw[oF];exact iu x
 trans x y z h1 h2:=by rw[oF]at *;exact jo h1 h2
 ntrans x y z h1 h2:=by
  rw[oF]at *;rw[<- Bool.not_eq_true,i6]at *;omega
abbrev Asc(l:List PID):Prop:=l.Pairwise λa b=>dN a b=true
theorem nB:∀{a b:List PID},Asc a->Asc b->(∀x,x∈a↔x∈b)->a=b
 | [],[],_,_,_=>rfl
 | [],y::b,_,_,h=>by have:=(h y).2 (by simp);simp at this
 |x::a,[],_,_,h=>by have:=(h x).1 (by simp);simp at this
 |x::a,y::b,ha,hb,h=>by
  have T5:=List.pairwise_cons.1 ha;have YM:=List.pairwise_cons.1 hb
  have e:x=y:=by
   have h1:=(h x).1 (by simp);have h2:=(h y).2 (by simp);rcases List.mem_cons.1 h1 with e|h1
   ·exact e
   ·rcases List.mem_cons.1 h2 with e|h2
    ·exact e.symm
    ·have g1:=YM.1 x h1;have g2:=T5.1 y h2;rw[wU g1]at g2;cases g2
  subst e;rw[nB T5.2 YM.2 λz=>?_];constructor
  ·intro hz
   rcases List.mem_cons.1 ((h z).1 (by simp[hz]))with e|h1
   ·subst e;have:=T5.1 z hz;rw[iu]at this;cases this
   ·exact h1
  ·intro hz
   rcases List.mem_cons.1 ((h z).2 (by simp[hz]))with e|h1
   ·subst e;have:=YM.1 z hz;rw[iu]at this;cases this
   ·exact h1
theorem wa(x z:PID):∀{l:List PID},z∈wb l x↔z=x\/z∈l
 | []=>by simp[wb]
 |y::r=>by
  unfold wb;split
  ·rw[List.mem_cons,wa x z,List.mem_cons];constructor
   ·rintro(h|h|h)<;>simp[h]
   ·rintro(h|h|h)<;>simp[h]
  ·split
   ·rename_i e;subst e;simp
   ·simp
theorem B3(x:PID):∀{l:List PID},Asc l->Asc (wb l x)
 | [],_=>by simp[wb]
 |y::r,h=>by
  have h':=List.pairwise_cons.1 h;unfold wb;split
  ·rename_i hy;refine List.pairwise_cons.2 ⟨λz hz=>?_,B3 x h'.2⟩
   rcases(wa x z).1 hz with rfl|hz
   ·exact hy
   ·exact h'.1 z hz
  ·rename_i hy;split
   ·exact h
   ·rename_i hne
    have TP:dN x y=true:=by
     rw[<- Bool.not_eq_false];intro e;exact hne (qc (by simpa using hy) e)
    refine List.pairwise_cons.2 ⟨λz hz=>?_,h⟩;rcases List.mem_cons.1 hz with rfl|hz
    ·exact TP
    ·exact jo TP (h'.1 z hz)
theorem uC(l:List PID):∀{a:List PID},Asc a->Asc (l.foldl wb a)/\∀z,z∈l.foldl wb a↔z∈l\/z∈a:=by
 induction l with
 |nil=>intro a h;exact⟨h,λz=>by simp⟩
 |cons x l ih=>
  intro a h;obtain⟨h1,h2⟩:=ih (B3 x h);refine⟨h1,λz=>?_⟩;rw[List.foldl_cons,h2,wa,List.mem_cons];constructor
  ·rintro(h|h|h)<;>simp[h]
  ·rintro((h|h)|h)<;>simp[h]
theorem tM(l:List PID):Asc (iJ l):=(uC l (a:=[]) List.Pairwise.nil).1
theorem lR(l:List PID)(z:PID):z∈iJ l↔z∈l:=by
 rw[iJ,(uC l (a:=[]) List.Pairwise.nil).2];simp
theorem Dd{l m:List PID}(h:Asc m)(hm:∀z,z∈m↔z∈l):iJ l=m:=nB (tM l) h λz=>(lR l z).trans (hm z).symm
theorem qT(d:Array PID)(hs:∀i,i+1<d.size->dN d[i+1]! d[i]! = false):∀m,m<=d.size ->
 Asc (compactUpTo d m)/\(∀z,z∈compactUpTo d m↔∃i,i<m/\z=d[i]!)/\(0<m->∀z∈compactUpTo d m,z=d[m-1]!\/dN z d[m-1]! = true):=by
 intro m
 induction m with
 |zero=>intro _;refine⟨by simp[compactUpTo],λz=>by simp[compactUpTo],λh=>by omega⟩
 |succ m ih=>
  intro hm;obtain⟨h1,h2,h3⟩:=ih (by omega);rw[compactUpTo_succ];by_cases h0:m=0
  ·subst h0;have:keeps d 0=true:=keeps_lt_one d 0 (by omega);rw[this];refine⟨by simp[compactUpTo],λz=>?_,λ_ z hz=>?_⟩
   ·simp only[compactUpTo,List.range_zero,List.filter_nil,List.map_nil,if_true,List.nil_append,List.mem_singleton];constructor
    ·intro e;exact⟨0,by omega,e⟩
    ·rintro⟨i,hi,e⟩;rw[e];congr 1;omega
   ·simp[compactUpTo]at hz;exact .inl hz
  ·have T0:=h3 (by omega);have O':=hs (m-1) (by omega);rw[show m-1+1=m by omega]at O';by_cases e:d[m]! = d[m-1]!
   ·rw[keeps_neg (by omega) e];simp only[Bool.false_eq_true,if_false,List.append_nil];refine⟨h1,λz=>?_,λ_ z hz=>?_⟩
    ·rw[h2];constructor
     ·rintro⟨i,hi,hz⟩;exact⟨i,by omega,hz⟩
     ·rintro⟨i,hi,hz⟩;by_cases hi2:i=m
      ·subst hi2;exact⟨i-1,by omega,by rw[hz,e]⟩
      ·exact⟨i,by omega,hz⟩
    ·rw[Nat.add_sub_cancel,e];exact T0 z hz
   ·rw[keeps_pos e];simp only[if_true]
    have hlt:dN d[m-1]! d[m]! = true:=by
     rw[<- Bool.not_eq_false];intro g;exact e (qc O' g)
    have ZO:∀z∈compactUpTo d m,dN z d[m]! = true:=λz hz=>by
     rcases T0 z hz with g|g
     ·rw[g];exact hlt
     ·exact jo g hlt
    refine⟨List.pairwise_append.2 ⟨h1,by simp,λa ha b hb=>?_⟩,λz=>?_,λ_ z hz=>?_⟩
    ·rw[List.mem_singleton.1 hb];exact ZO a ha
    ·rw[List.mem_append,h2,List.mem_singleton];constructor
     ·rintro(⟨i,hi,hz⟩|hz)
      ·exact⟨i,by omega,hz⟩
      ·exact⟨m,by omega,hz⟩
     ·rintro⟨i,hi,hz⟩;by_cases hi2:i=m
      ·subst hi2;exact .inr hz
      ·exact .inl ⟨i,by omega,hz⟩
    ·rw[Nat.add_sub_cancel];rcases List.mem_append.1 hz with hz|hz
     ·exact .inr (ZO z hz)
     ·exact .inl (List.mem_singleton.1 hz)
theorem td{l:List PID}{d:Array PID}(hp:∀z,z∈d.toList↔z∈l)(hs:∀i,i+1<d.size->dN d[i+1]! d[i]! = false):compactUpTo d d.size=iJ l:=by
 obtain⟨h1,h2,_⟩:=qT d hs d.size (Nat.le_refl _);refine(Dd h1 λz=>?_).symm;rw[h2,<- hp];constructor
 ·rintro⟨i,hi,e⟩;rw[e];simp[hi]
 ·intro hz;obtain⟨i,hi,e⟩:=List.getElem_of_mem hz
  have ZN:i<d.size:=by simpa using hi
  exact⟨i,ZN,by rw[<- e];simp[ZN]⟩
end Go.Proofs.YtakfoejcjdcgbaaGreat
namespace Go.Proofs.YtakfoejcjdcgbaaGreat
open Go.Shelf
def vp:Go.Shelf.Ren:=⟨λ|6=>113|15=>93|14=>138|28=>129|29=>130|20=>148|21=>149|22=>150|23=>151|24=>152|25=>153|26=>154|27=>155|46=>157|47=>141|48=>142|49=>158|50=>159|57=>160|n=>n,λ|22=>30|24=>25|25=>119|3=>3|39=>127|0=>0|53=>161|55=>163|4=>4|46=>153|45=>152|50=>158|5=>5|9=>9|66=>171|70=>175|76=>183|77=>184|n=>n,λ|n=>n⟩
theorem Ak:Go.Proofs.SlLaysF0.n6 Tryz.prog vp:={
 mixed:=by kernel_rfl
 f6:=⟨Tryz.f113.name,by decide,Tryz.func113.trans (congrArg some (by kernel_rfl))⟩
 f14:=⟨Tryz.f138.name,by decide,Tryz.func138.trans (congrArg some (by kernel_rfl))⟩
 f15:=Tryz.func93.trans (congrArg some (by kernel_rfl))
 f20:=⟨Tryz.f148.name,by decide,Tryz.func148.trans (congrArg some (by kernel_rfl))⟩
 f21:=⟨Tryz.f149.name,by decide,Tryz.func149.trans (congrArg some (by kernel_rfl))⟩
 f22:=⟨Tryz.f150.name,by decide,Tryz.func150.trans (congrArg some (by kernel_rfl))⟩
 f23:=⟨Tryz.f151.name,by decide,Tryz.func151.trans (congrArg some (by kernel_rfl))⟩
 f24:=⟨Tryz.f152.name,by decide,Tryz.func152.trans (congrArg some (by kernel_rfl))⟩
 f25:=⟨Tryz.f153.name,by decide,Tryz.func153.trans (congrArg some (by kernel_rfl))⟩
 f26:=⟨Tryz.f154.name,by decide,Tryz.func154.trans (congrArg some (by kernel_rfl))⟩
 f27:=⟨Tryz.f155.name,by decide,Tryz.func155.trans (congrArg some (by kernel_rfl))⟩
 f28:=Tryz.func129.trans (congrArg some (by kernel_rfl))
 f29:=Tryz.func130.trans (congrArg some (by kernel_rfl))
 f46:=⟨Tryz.f157.name,by decide,Tryz.func157.trans (congrArg some (by kernel_rfl))⟩
 f47:=Tryz.func141.trans (congrArg some (by kernel_rfl))
 f48:=Tryz.func142.trans (congrArg some (by kernel_rfl))
 f49:=⟨Tryz.f158.name,by decide,Tryz.func158.trans (congrArg some (by kernel_rfl))⟩
 f50:=⟨Tryz.f159.name,by decide,Tryz.func159.trans (congrArg some (by kernel_rfl))⟩
 f57:=⟨Tryz.f160.name,by decide,Tryz.func160.trans (congrArg some (by kernel_rfl))⟩
 t0:=Tryz.underlying0
 a0:=Tryz.isAgg0
 z0:=Tryz.sizeOf0
 v0:=Tryz.zeroValue0
 t3:=Tryz.underlying3
 a3:=Tryz.isAgg3
 z3:=Tryz.sizeOf3
 v3:=Tryz.zeroValue3
 t4:=Tryz.underlying4
 a4:=Tryz.isAgg4
 z4:=Tryz.sizeOf4
 v4:=Tryz.zeroValue4
 t5:=Tryz.underlying5
 a5:=Tryz.isAgg5
 z5:=Tryz.sizeOf5
 v5:=Tryz.zeroValue5
 t9:=Tryz.underlying9
 a9:=Tryz.isAgg9
 z9:=Tryz.sizeOf9
 v9:=Tryz.zeroValue9
 t22:=Tryz.underlying30
 a22:=Tryz.isAgg30
 z22:=Tryz.sizeOf30
 v22:=Tryz.zeroValue30
 t25:=Tryz.underlying119
 a25:=Tryz.isAgg119
 z25:=Tryz.sizeOf119
 v25:=Tryz.zeroValue119
 t39:=Tryz.underlying127
 a39:=Tryz.isAgg127
 z39:=Tryz.sizeOf127
 v39:=Tryz.zeroValue127
 t45:=Tryz.underlying152
 a45:=Tryz.isAgg152
 z45:=Tryz.sizeOf152
 v45:=Tryz.zeroValue152
 t46:=Tryz.underlying153
 a46:=Tryz.isAgg153
 z46:=Tryz.sizeOf153
 v46:=Tryz.zeroValue153
 t50:=Tryz.underlying158
 a50:=Tryz.isAgg158
 z50:=Tryz.sizeOf158
 v50:=Tryz.zeroValue158
 t53:=Tryz.underlying161
 a53:=Tryz.isAgg161
 z53:=Tryz.sizeOf161
 v53:=Tryz.zeroValue161
 t55:=Tryz.underlying163
 a55:=Tryz.isAgg163
 z55:=Tryz.sizeOf163
 v55:=Tryz.zeroValue163
 t66:=Tryz.underlying171
 a66:=Tryz.isAgg171
 z66:=Tryz.sizeOf171
 v66:=Tryz.zeroValue171
 t70:=Tryz.underlying175
 a70:=Tryz.isAgg175
 z70:=Tryz.sizeOf175
 v70:=Tryz.zeroValue175
 t76:=Tryz.underlying183
 a76:=Tryz.isAgg183
 z76:=Tryz.sizeOf183
 v76:=Tryz.zeroValue183
 t77:=Tryz.underlying184
 a77:=Tryz.isAgg184
 z77:=Tryz.sizeOf184
 v77:=Tryz.zeroValue184 }
def uS:Go.Shelf.Ren:=⟨λ|41=>84|n=>n,λ|22=>30|23=>25|4=>4|n=>n,λ|n=>n⟩
theorem yi:Go.Proofs.SlLaysE0.n41 Tryz.prog uS:={
 mixed:=by kernel_rfl
 f41:=⟨Tryz.f84.name,by decide,Tryz.func84.trans (congrArg some (by kernel_rfl))⟩
 t4:=Tryz.underlying4
 a4:=Tryz.isAgg4
 z4:=Tryz.sizeOf4
 v4:=Tryz.zeroValue4
 t22:=Tryz.underlying30
 a22:=Tryz.isAgg30
 z22:=Tryz.sizeOf30
 v22:=Tryz.zeroValue30 }
end Go.Proofs.YtakfoejcjdcgbaaGreat
namespace Go.Proofs.YtakfoejcjdcgbaaGreat
open Go.RowKit Go.Sort Go.Lib
theorem uP(p:Option Addr)(cap:Nat)(w:World):Calls Tryz.prog 114 #[.slice p 0 cap] w λe w'=>e=.returned (.slice p 0 cap)/\w'=w:=by
 go_enter Tryz.func114,Tryz.ntmps114
 go_wp2
 go_ret
 exact⟨rfl,rfl⟩
theorem Aj(p:Option Addr)(cap:Nat)(fv:Value)(w:World):Calls Tryz.prog 113 #[.slice p 0 cap,fv] w λe w'=>e=.returned (.tuple #[])/\w'=w:=
 AnyF.slices_SortFunc_none Ak p cap fv w
theorem Dc(Zo cap:Nat)(d:Array PID)(w:World)(hH:HoldsK gc 2 w Zo 0 d)(U8:Zo<w.heap.size)(hsz:d.size<4611686018427387904):
 Calls Tryz.prog 113 #[.slice (some ⟨Zo,0,none⟩) d.size cap,.func (.func 86) #[] #[]] w λe w'=>
  e=.returned (.tuple #[])/\∃d' n os,PermIn 0 d.size d d'/\SortedIn (ltOf CZ) 0 d.size d'/\w'=sortWorldK gc 2 w Zo 0 n d' os:=by
 have eg:∀args w,(callFunc 86 args).run Tryz.prog w=.ok (.enter 86 args) w:=gU Tryz.func86 (by kernel_rfl) rfl;have Qe:CmpLays Tryz.prog 86 #[] gc 2 CZ Zo 0 d.size w:=λ_ _ _ _ x y=>BH x y _;exact AnyQ.slices_SortFunc Ak 2 Tryz.isAgg25 Tryz.sizeOf25 gc (λ_=>rfl) (λx v hv=>by simp[gc]at hv;rcases hv with rfl|rfl<;>rfl) CZ Fl 86 #[] Zo 0 cap d w eg Qe hH U8 hsz
theorem oD:∃i z,Tryz.prog.info? 25=some i/\i.zero=some z/\i.size=2/\i.bytes=16/\z.cells.size=2:=by
 have h:(match Tryz.prog.info? 25 with|some i=>(match i.zero with|some z=>decide (i.size=2)&&decide (i.bytes=16)&&decide (z.cells.size=2)|none=>false)|none=>false)=true:=by kernel_rfl
 revert h
 cases Tryz.prog.info? 25 with
 |none=>intro h;cases h
 |some i=>
  intro h;simp only at h
  cases hz:i.zero with
  |none=>rw[hz]at h;cases h
  |some z=>
   rw[hz]at h;simp only[oBA,oDE]at h;exact⟨i,z,rfl,hz,h.1.1,h.1.2,h.2⟩
def gh(l:List PID):List Value:=l.flatMap gc
theorem pJ(l:List PID):(gh l).length=l.length*2:=by
 induction l with
 |nil=>rfl
 |cons x l ih=>simp[gh,gc]at ih⊢;omega
theorem pK:∀(l:List PID)(i:Nat)(h:i<l.length),(gh l)[i*2]?=some (.int .i64 l[i].1)/\(gh l)[i*2+1]?=some (.int .i64 l[i].2)
 |x::l,0,_=>⟨rfl,rfl⟩
 |x::l,i+1,h=>by
  have:=pK l i (by simpa using h);have e:gh (x::l)=.int .i64 x.1 :: .int .i64 x.2::gh l:=rfl;rw[e,show(i+1)*2=i*2+1+1 by omega];simpa using this
theorem uG(l:List PID):∀u∈gh l,u.oneCell'=true:=by
 intro u hu;simp[gh,gc]at hu;obtain⟨_,_,_,h|h⟩:=hu<;>rw[h]<;>rfl
theorem pL{w:World}{b o:Nat}{l:List PID}(h:jz w b o l):∀j u,(gh l)[j]?=some u->w.cell? ⟨b,o+j,none⟩=some u:=by
 intro j u hu
 have hj:j<l.length*2:=by rw[<- pJ];exact(oGS hu).1
 have hi:j/2<l.length:=by omega
 have g:=pK l (j/2) hi;have hc:=h (j/2) hi;rcases Nat.mod_two_eq_zero_or_one j with e|e
 ·rw[show j=j/2*2 by omega]at hu⊢;rw[g.1]at hu
  injection hu with hu
  rw[<- hu];exact hc.1
 ·rw[show j=j/2*2+1 by omega]at hu⊢;rw[g.2]at hu
  injection hu with hu
  rw[<- hu,<- Nat.add_assoc];exact hc.2
theorem rE{w:World}{g cap:Nat}{cur:Array Value}{e:TypeId}{l:List PID}(hg:w.heap[g]?=some (.cells cur e (0,0)))(hcur:cur.size=cap*2)(hl:l.length<=cap)(ht:cur.toList.take (l.length*2)=gh l):HoldsK gc 2 w g 0 l.toArray:=by
 intro j hj;rw[size_flatK]at hj
 have ZX:j<l.length*2:=by simpa using hj
 rw[Nat.zero_add,get_flatK _ _ _ _ hj,cell_of_row w g j cur e (0,0) hg]
 have hi:j/2<l.length:=by omega
 have e1:(gh l)[j]?=cur.toList[j]?:=by rw[<- ht,List.getElem?_take_of_lt ZX]
 have e2:cur[j]?=cur.toList[j]?:=by simp
 have gg:=pK l (j/2) hi
 have e3:l.toArray[j/2]! = l[j/2]:=by simp[hi]
 refine⟨?_,?_⟩
 ·rw[e2,<- e1,e3];rcases Nat.mod_two_eq_zero_or_one j with e|e
  ·rw[e];have:=gg.1;rw[show j/2*2=j by omega]at this;exact this
  ·rw[e];have:=gg.2;rw[show j/2*2+1=j by omega]at this;exact this
 ·simp[World.frozen?,hg]
theorem zK(ad:Addr)(cap:Nat)(w:World):Calls Tryz.prog 84 #[.slice (some ad) 0 cap] w λe w'=>Below w.heap.size w w'/\∃p,e=.returned (.slice p 0 0):=by
 obtain⟨i,z,hi,_⟩:=oD;have q:∀(w:World)(a:Option Addr)(n c n' c':Nat),(binOp .eql 30 (.slice a n c) (.slice none n' c')).run Tryz.prog w=.ok (.bool a.isNone) w:=λw a n c n' c'=>Lib.run_eql_slice_nil w _ _ a n c n' c' Tryz.underlying30;have hz:∀(w:World)(ty:TypeId)(s:Option Addr),(Builtin.append_ #[30,30] ty #[.slice s 0 0,.slice (some ad) 0 cap]).run Tryz.prog w=.ok (.slice s 0 0) w:=λw ty s=>fc w 30 ty 25 i Tryz.underlying30 hi s 0 0 (Nat.le_refl _) (some ad) cap;clear hi
 go_enter Tryz.func84,Tryz.ntmps84
 go_wp2
 go_ret
 exact⟨Below.alloc (Below.refl _ _) (Nat.le_refl _) _,_,rfl⟩
theorem Cw(l:List PID)(a:Option Addr)(cap:Nat)(w:World)(ha:l≠[]->∃b o,a=some ⟨b,o,none⟩/\jz w b o l)(hl:l.length<=1099511627776):
 Calls Tryz.prog 84 #[.slice a l.length cap] w λe w'=>Below w.heap.size w w'/\((l=[]/\∃p,e=.returned (.slice p 0 0))\/
  ∃g c,e=.returned (.slice (some ⟨g,0,none⟩) l.length c)/\w.heap.size<=g/\g<w'.heap.size/\l.length<=c/\c<=maxLen/\HoldsK gc 2 w' g 0 l.toArray):=by
 obtain⟨i,z,hi,hz,hsz,Yb,Y4⟩:=oD
 have ZT:∀b o,a=some ⟨b,o,none⟩->(∀j u,(gh l)[j]?=some u->w.cell? ⟨b,o+j,none⟩=some u)->Calls Tryz.prog 84 #[.slice a l.length cap] w λe w'=>Below w.heap.size w w'/\((l=[]/\∃p,e=.returned (.slice p 0 0))\/
  ∃g c,e=.returned (.slice (some ⟨g,0,none⟩) l.length c)/\w.heap.size<=g/\g<w'.heap.size/\l.length<=c/\c<=maxLen/\HoldsK gc 2 w' g 0 l.toArray):=by
  rintro b o rfl hc;have h:=AnyE.slices_Clone yi i z 2 16 hi hz hsz Yb Y4 (by omega) Tryz.sizeOf25 b o l.length cap (gh l) w (pJ l) (by unfold maxLen;omega) (by omega) hc (uG l);refine h.mono λe w' ⟨v',he,hown,_,hb⟩=>⟨hb,?_⟩
  rcases hown.2 with⟨rfl,hn⟩|⟨g,c,cur,rfl,hg,YD,hcap,hmax,hcur,Zv⟩
  ·exact .inl ⟨oEN hn,none,he⟩
  ·exact .inr ⟨g,c,he,hg,(Array.getElem?_eq_some_iff.1 YD).1,hcap,hmax,rE YD hcur hcap Zv⟩
 by_cases hn:l=[]
 ·subst hn
  cases a with
  |none=>exact(AnyE.slices_Clone_nil yi 0 cap w).mono λe w' ⟨he,hw⟩=>by subst hw;exact⟨Below.refl _ _,.inl ⟨rfl,none,he⟩⟩
  |some ad=>exact(zK ad cap w).mono λe w' ⟨hb,h⟩=>⟨hb,.inl ⟨rfl,h⟩⟩
 ·obtain⟨b,o,e,hh⟩:=ha hn;exact ZT b o e (pL hh)
theorem qa{w w' Xh:World}{g:Nat}(hb:Below w.heap.size w w')(hg:w.heap.size<=g)(h:cW g w' Xh):Below w.heap.size w Xh:=
 ⟨h.os.trans hb.os,h.tape.trans hb.tape,h.output.trans hb.output,by rw[h.size];exact hb.size,λk hk=>(h.block k (by omega)).trans (hb.block k hk)⟩
theorem zU{w w':World}{g n:Nat}{d:Array PID}{os:Array Obj}(hb:Below w.heap.size w w')(hg:w.heap.size<=g):Below w.heap.size w (sortWorldK gc 2 w' g 0 n d os):=by
 have h1:cW g w' (putRowK gc 2 (Sort.ahead w' n) g 0 d):=(cW.ahead g w' n).trans (cW.putRow g 0 _ d);have h2:=qa hb hg h1;have e:sortWorldK gc 2 w' g 0 n d os=grow (putRowK gc 2 (Sort.ahead w' n) g 0 d) os:=rfl;rw[e];refine⟨h2.os,h2.tape,h2.output,Nat.le_trans h2.size (by simp[grow]),λk hk=>?_⟩;rw[<- h2.block k hk];show(_++os)[k]?=_;exact Array.getElem?_append_left (Nat.lt_of_lt_of_le hk h2.size)
theorem zo{w':World}{g n:Nat}{d d':Array PID}{os:Array Obj}(h:HoldsK gc 2 w' g 0 d)(hg:g<w'.heap.size)(hs:d'.size=d.size):HoldsK gc 2 (sortWorldK gc 2 w' g 0 n d' os) g 0 d':=by
 have e:sortWorldK gc 2 w' g 0 n d' os=grow (putRowK gc 2 (Sort.ahead w' n) g 0 d') os:=rfl;rw[e];exact holdsK_grow gc 2 _ os g 0 d' (by unfold putRowK;simpa using hg) (holdsK_putRowK gc 2 _ g 0 d d' (holdsK_ahead gc 2 w' n g 0 d h) hs)
theorem B2(x:PID):∀l:List PID,(wb l x).length<=l.length+1
 | []=>by simp[wb]
 |y::r=>by
  unfold wb;split
  ·have:=B2 x r;simp;omega
  ·split<;>simp
theorem Al(l:List PID):(iJ l).length<=l.length:=by
 have ZT:∀(l a:List PID),(l.foldl wb a).length<=a.length+l.length:=by
  intro l
  induction l with
  |nil=>intro a;simp
  |cons x l ih=>
   intro a;have h1:=ih (wb a x);have h2:=B2 x a;simp only[List.foldl_cons,oLC];omega
 have:=ZT l [];simpa[iJ]using this
def It(w w':World)(e:Ending)(m:List PID):Prop:=Below w.heap.size w w'/\((m=[]/\∃p,e=.returned (.slice p 0 0))\/∃g c,e=.returned (.slice (some ⟨g,0,none⟩) m.length c)/\w.heap.size<=g/\m.length<=c/\c<=maxLen/\jz w' g 0 m)
set_option maxHeartbeats 2000000 in
theorem yF(l:List PID)(a:Option Addr)(cap:Nat)(w:World)(ha:l≠[]->∃b o,a=some ⟨b,o,none⟩/\jz w b o l)(hl:l.length<=1099511627776):
 Calls Tryz.prog 85 #[.func (.func 86) #[] #[],.slice a l.length cap] w λe w'=>It w w' e (iJ l):=by
 have VU:=Cw l a cap w ha hl
 have VR:(l.length:Nat)<4611686018427387904:=by omega
 clear ha
 go_enter Tryz.func85,Tryz.ntmps85
 go_wp2_with fail
 refine VU.mono ?_;rintro e w1 ⟨ZZ,⟨rfl,p,rfl⟩|⟨g,c,rfl,hg,Z0,hc,hmax,hK⟩⟩
 ·go_wp2_with fail
  refine(Aj p 0 _ w1).mono ?_;rintro e w2 ⟨rfl,rfl⟩
  go_wp2_with fail
  refine(uP p 0 w2).mono ?_;rintro e w3 ⟨rfl,rfl⟩
  go_wp2
  go_ret
  exact⟨ZZ,.inl ⟨rfl,p,rfl⟩⟩
 ·have HB:=Lib.hid ZZ;have HK:=Lib.hid hK;clear ZZ hK VU
  go_wp2_with fail
  have hs:=Dc g c l.toArray w1 HK.out Z0 (by simpa using VR);refine hs.mono ?_;rintro e w2 ⟨rfl,d',n,os,hp,O9,rfl⟩
  have hsz:d'.size=l.length:=by simpa using hp.1
  have UE:=zo (os:=os) (n:=n) HK.out Z0 hp.1
  have Zr:∀z,z∈d'.toList↔z∈l:=λz=>by
   have:=hp.2.2.mem_iff (a:=z);simpa[Array.extract_eq_self_of_le,hsz]using this
  have YI:∀i,i+1<d'.size->dN d'[i+1]! d'[i]! = false:=λi hi=>by
   rw[<- oF];exact O9 i (i+1) (by omega) (by omega) (by rw[List.size_toArray];omega)
  have HC:=Lib.hid (wE g 0 c d' (sortWorldK gc 2 w1 g 0 n d' os) UE (by omega) (by omega));have Xi:=Lib.hid (zU (n:=n) (d:=d') (os:=os) HB.out hg);have HE:=Lib.hid (td Zr YI);have HL:=Lib.hid hsz;clear UE Zr YI hp O9 hs hsz
  go_wp2_with fail
  have hcc:=HC.out;rw[HL.out]at hcc;refine hcc.mono ?_;rintro e w3 ⟨rfl,Uz,RU⟩
  go_wp2
  go_ret
  have e:compactUpTo d' l.length=iJ l:=by rw[<- HL.out];exact HE.out
  have hlen:=Al l;exact⟨qa Xi.out hg RU,.inr ⟨g,c,by rw[e];rfl,hg,by omega,hmax,by rw[<- HE.out];exact Uz⟩⟩
theorem rV:fC Tryz.prog 85:=gU Tryz.func85 (by kernel_rfl) rfl
theorem uk{w:World}{F:Nat->Prop}{l:List PID}{x:Value}(h:eO w F (.sl (l.map nz)) x):∃a cap,x=.slice a l.length cap/\(l≠[]->∃b o,a=some ⟨b,o,none⟩/\jz w b o l):=by
 cases h with
 | @sl _ a cap sz u hsz hcap hmax hnil hcell hrec=>
  refine⟨a,cap,by simp,λhn=>?_⟩;have Z1:0<l.length:=List.length_pos_iff.2 hn
  have hz:sz=2:=by
   have:=hsz 0 (by simpa using Z1);rw[<- this];simp[nz]
  subst hz;obtain⟨b,o,e,_,_⟩:=hcell 0 0 (by simpa using Z1) (by omega);refine⟨b,o,e,λi hi=>?_⟩
  have ZN:i<(l.map nz).length:=by simpa using hi
  have cell:∀j (hj:j<2),w.cell? ⟨b,o+(i*2+j),none⟩=some (u i j):=λj hj=>by
   obtain⟨b',o',e',_,hc⟩:=hcell i j ZN hj;rw[e]at e'
   injection e' with e'
   injection e' with e1 e2
   subst e1;subst e2;exact hc
  have g0:=hrec i 0 ZN (by simp[nz]);have g1:=hrec i 1 ZN (by simp[nz]);have c0:=cell 0 (by omega);have c1:=cell 1 (by omega);revert g0 g1 c0 c1;generalize u i 0=u0;generalize u i 1=u1;intro g0 g1 c0 c1;simp only[List.getElem_map,nz,List.getElem_cons_zero,List.getElem_cons_succ]at g0 g1;cases g0;cases g1;exact⟨by rw[<- c0];congr 2,by rw[<- c1];congr 2⟩
theorem Bg{w:World}{F:Nat->Prop}{l:List PID}{g c:Nat}(h:jz w g 0 l)(hl:l.length<=c)(hm:c<=maxLen)(hF:F g):eO w F (.sl (l.map nz)) (.slice (some ⟨g,0,none⟩) l.length c):=by
 have ZT:=eO.sl (w:=w) (F:=F) (c:=l.map nz) (a:=some ⟨g,0,none⟩) (cap:=c) 2 (λi j=>if j=0 then .int .i64 (l.getD i (0,0)).1 else .int .i64 (l.getD i (0,0)).2) (λi hi=>by simp[nz]) (by simpa using hl) hm (λe=>by simp at e) (λi j hi hj=>?_) (λi j hi hj=>?_)
 ·rw[List.length_map]at ZT;exact ZT
 ·have ZN:i<l.length:=by simpa using hi
  have hh:=h i ZN;refine⟨g,0,rfl,hF,?_⟩
  have e:l.getD i (0,0)=l[i]:=by simp[ZN]
  rw[e];rcases Nat.lt_or_ge 0 j with h0|h0
  ·have:j=1:=by omega
   subst this;rw[oIN (by omega),<- hh.2,Nat.add_assoc]
  ·have:j=0:=by omega
   subst this;rw[oIP rfl,<- hh.1];congr 2
 ·have ZN:i<l.length:=by simpa using hi
  have e:l.getD i (0,0)=l[i]:=by simp[ZN]
  simp only[List.getElem_map,nz,oLC,List.length_nil]at hj⊢;rw[e];rcases Nat.lt_or_ge 0 j with h0|h0
  ·have:j=1:=by omega
   subst this;exact .v rfl
  ·have:j=0:=by omega
   subst this;exact .v rfl
theorem xD{w w':World}{e:Ending}{m:List PID}{F:Nat->Prop}(h:It w w' e m):∃x,e=.returned x/\Below w.heap.size w w'/\eO w' (λk=>F k\/w.heap.size<=k) (.sl (m.map nz)) x:=by
 obtain⟨hb,⟨rfl,p,he⟩|⟨g,c,he,hg,hl,hm,hh⟩⟩:=h
 ·exact⟨_,he,hb,.sl (c:=[]) 2 (λ_ _=>undef) (λi h=>by simp at h) (Nat.le_refl _) (Nat.zero_le _) (λ_=>rfl) (λi j h=>by simp at h) (λi j h=>by simp at h)⟩
 ·exact⟨_,he,hb,Bg hh hl hm (.inr hg)⟩
theorem yE(l:List PID)(hl:l.length<=1099511627776):GM Tryz.prog 85 [.fn 86 [],.sl (l.map nz)] ((iJ l).map nz):=by
 intro avs w F hal ha
 match avs,hal with
 | [x,y],_=>
  have h0:=ha 0 (by simp) (by simp);have h1:=ha 1 (by simp) (by simp);simp only[List.getElem_cons_zero,List.getElem_cons_succ]at h0 h1;cases h0
  cases h1 with
  |im h1=>
   obtain⟨a,cap,rfl,hh⟩:=uk h1;exact(yF l a cap w hh hl).mono λe w' h=>xD h
theorem pe{P:Program}{w:World}(t it ty e:TypeId)(i:TypeInfo)(z:Value)(ht:P.underlying t=some (.slice e))(hit:P.underlying it=some (.int .i64))(hi:P.info? e=some i)(hz:i.zero=some z)(Z1:0<i.size)
 (n:Nat)(h0:0<n)(PR:n<=1099511627776)(Mj:n*i.bytes<=140737488355328):
 (Builtin.append_ #[t,it] ty #[.slice none 0 0,.int .i64 n]).run P w =
  .ok (.slice (some ⟨w.heap.size,0,none⟩) n (grownCap w n 0 e)) (w.drew.alloc (.cells (Builtin.zeroCells z.cells n++Builtin.zeroCells z.cells (grownCap w n 0 e-n)) e)):=by
 have hn:n≠0:=by omega
 have PU:¬(9223372036854775807<(n:Int)):=by omega
 have hw:IntKind.i64.wrap (n:Int)=(n:Int):=wrap_i64 (by omega) (by omega)
 have Um:¬((n:Int)<0):=by omega
 have P5:¬((281474976710656:Int)<(n:Int)*(i.bytes:Int)):=by
  have e:(n:Int)*(i.bytes:Int)=((n*i.bytes:Nat):Int):=by simp
  rw[e];omega
 have PS:¬(281474976710656<Builtin.nextslicecap n 0*i.bytes):=by rw[nextslicecap_zero h0];omega
 have hm:n*i.size≠0:=by have:=Nat.mul_pos h0 Z1;omega
 have hsz:i.size≠0:=by omega
 simp[Builtin.append_,run_underlying ht,run_underlying hit,asInt,asIntOf,sizeOf,typeInfo,zeroValue,hi,hz,Builtin.lenOf,hn,PU,PS,Question.forced,run_firstCells_none,newRow,grownCap,asInt,hw,Um,P5,hm,hsz]
theorem iH{P:Program}{ops:Array Oper}{rest:List Oper}{o:Oper}{a:Act}{Q:Exit->Act->World->Prop}{w:World}{t it:TypeId}(XQ:o.guard=none)(s x:Operand)(ho:o.op=.call { callee:=.builtin .append,args:=#[s,x],argTypes:=#[t,it] })
 {vs vx v':Value}{w':World}(hs:a.eval s=vs)(hx:a.eval x=vx)(hrun:(Builtin.append_ #[t,it] o.type #[vs,vx]).run P w=.ok v' w')(h:wpList P ops Q rest (a.put o.dst v') w'):wpList P ops Q (o::rest) a w:=by
 refine wpList_plain XQ λK hK=>?_;unfold Oper.wp;simp[execOp,ho,resolve,invoke,builtin,hs,hx,hrun,Result.andThen];exact hK _ _ h
theorem zV{B:Nat}{a w:World}(h:Below B a w):Below B a w.drew:=⟨h.os,h.tape,h.output,h.size,h.block⟩
theorem D6(n:Nat)(w:World)(hn:n<=1099511627776):Calls Tryz.prog 118 #[.slice none 0 0,.int .i64 n] w λe w'=>Below w.heap.size w w'/\∃v,e=.returned v/\w'.ownsRow w.heap.size 25 2 v 0 []:=by
 obtain⟨i,z,hi,hz,hsz,Yb,Y4⟩:=oD;by_cases h0:n=0
 ·subst h0;clear hi hz hsz Yb Y4
  go_enter Tryz.func118,Tryz.ntmps118
  go_wp2
  go_ret
  exact⟨Below.refl _ _,_,rfl,rfl,.inl ⟨rfl,rfl⟩⟩
 ·have hz0:∀(w:World)(ty:TypeId),(Builtin.append_ #[30,3] ty #[.slice none 0 0,.int .i64 n]).run Tryz.prog w=.ok (.slice (some ⟨w.heap.size,0,none⟩) n (grownCap w n 0 25)) (w.drew.alloc (.cells (Builtin.zeroCells z.cells n++Builtin.zeroCells z.cells (grownCap w n 0 25-n)) 25)):=λw ty=>
   pe 30 3 ty 25 i z Tryz.underlying30 Tryz.underlying3 hi hz (by omega) n (by omega) hn (by rw[Yb];omega)
  have hge:n<=grownCap w n 0 25:=grownCap_ge w n 0 _;have YR:grownCap w n 0 25<=maxLen:=grownCap_le_maxLen w n 0 _ (by unfold maxLen;omega);obtain⟨zc,WS⟩:∃zc,zc=z.cells:=⟨_,rfl⟩;rw[<- WS]at hz0 Y4;have HZ:=Lib.hid Y4;clear WS hi hz hsz Yb Y4
  go_enter Tryz.func118,Tryz.ntmps118
  go_wp2_with (at_builtin;refine iH rfl _ _ rfl rfl rfl (hz0 _ _) ?_)
  go_ret
  have WG:(Builtin.zeroCells zc n++Builtin.zeroCells zc (grownCap w n 0 25-n)).size=grownCap w n 0 25*2:=by
   rw[Array.size_append,size_zeroCells,size_zeroCells,HZ.out,<- Nat.add_mul];congr 1;omega
  refine⟨zV (Below.alloc (Below.refl _ _) (Nat.le_refl _) _),_,rfl,rfl,.inr ⟨w.heap.size,_,_,rfl,Nat.le_refl _,heap_alloc_new w _,Nat.zero_le _,YR,WG,by simp⟩⟩
theorem pf{P:Program}{w:World}{t e:TypeId}(i:TypeInfo)(z:Value)(size bytes:Nat)(hu:P.underlying t=some (.slice e))(hi:P.info? e=some i)(hz:i.zero=some z)(Y1:i.size=size)(Yb:i.bytes=bytes)(Y4:z.cells.size=size)(Z1:0<size)
 (ty:TypeId)(base:Nat)(v:Value)(n:Nat)(xs:List Value)(hown:w.ownsRow base e size v n xs)
 (ad:Addr)(m c:Nat)(news:List Value)(hl:news.length=m*size)(Zn:∀(j:Nat) u,news[j]?=some u->w.cell? (ad.add j)=some u)(h1:∀u∈news,u.oneCell'=true)
 (T1:n+m<=maxLen)(YN:(n+m)*bytes<=140737488355328)(Zm:base<=w.heap.size):
 ∃v' w',(Builtin.append_ #[t,t] ty #[v,.slice (some ad) m c]).run P w=.ok v' w'/\w'.ownsRow base e size v' (n+m) (xs++news)/\w.grownBy w' v.ownBlock:=by
 rcases hown.2 with⟨rfl,hn⟩|⟨g,cap,cur,rfl,hb,YD,hcap,hmax,hsz,Zv⟩
 ·subst hn;have hx:xs=[]:=oEN (by simpa using hown.1);subst hx;obtain⟨v',w',hr,ZV,hg,_⟩:=run_append_own (P:=P) w w.heap.size t ty e i z size bytes hu hi hz Y1 Yb Y4 Z1 (.slice none 0 0) 0 [] ⟨by simp,.inl ⟨rfl,rfl⟩⟩ ad m c news hl Zn h1 T1 YN (Nat.le_refl _);refine⟨v',w',hr,⟨ZV.1,?_⟩,hg⟩;rcases ZV.2 with h|⟨g,cap,cur,e1,e2,e3⟩
  ·exact .inl h
  ·exact .inr ⟨g,cap,cur,e1,Nat.le_trans Zm e2,e3⟩
 ·rcases Nat.lt_or_ge cap (n+m)with hlt|hge
  ·have hc:=@World.ownsRow.cells w base e size _ n xs hown;obtain⟨v',w',hr,ZV,hg⟩:=run_append_arg_grows (P:=P) w t ty e i z size bytes hu hi hz Y1 Yb Y4 Z1 ⟨g,0,none⟩ n cap xs hown.1 (hc rfl) ad m c news hl Zn hlt T1 YN;refine⟨v',w',hr,⟨ZV.1,?_⟩,⟨hg.os,hg.tape,hg.output,hg.size,λk hk _=>hg.block k hk (by simp)⟩⟩;rcases ZV.2 with h|⟨g,cap,cur,e1,e2,e3⟩
   ·exact .inl h
   ·exact .inr ⟨g,cap,cur,e1,Nat.le_trans Zm e2,e3⟩
  ·obtain⟨w',hr,ZV,hg⟩:=run_append_own_spare (P:=P) w base t ty e i size hu hi Y1 g n cap xs hown ad m c news hl Zn h1 hge;exact⟨_,w',hr,ZV,hg⟩
theorem FU{w:World}(ty:TypeId)(base:Nat)(v:Value)(xs l:List PID)(hown:w.ownsRow base 25 2 v xs.length (gh xs))(Zm:base<=w.heap.size)(a:Option Addr)(cap:Nat)(ha:l≠[]->∃b o,a=some ⟨b,o,none⟩/\jz w b o l)(hlen:xs.length+l.length<=1099511627776):
 ∃v' w',(Builtin.append_ #[30,30] ty #[v,.slice a l.length cap]).run Tryz.prog w=.ok v' w'/\w'.ownsRow base 25 2 v' (xs++l).length (gh (xs++l))/\w.heap.size<=w'.heap.size/\w'.os=w.os/\w'.tape=w.tape/\w'.output=w.output/\∀k,k<base->w'.heap[k]?=w.heap[k]?:=by
 obtain⟨i,z,hi,hz,hsz,Yb,Y4⟩:=oD
 have e:gh (xs++l)=gh xs++gh l:=by simp[gh]
 by_cases hl:l=[]
 ·subst hl
  rcases hown.2 with⟨rfl,hn⟩|⟨g,c,cur,rfl,hb,YD,hcap,hmax,Wt,Zv⟩
  ·rw[hn]at hown;refine⟨_,w,fc w _ ty 25 i Tryz.underlying30 hi none 0 0 (Nat.le_refl _) a cap,by rw[List.append_nil,hn];exact hown,Nat.le_refl _,rfl,rfl,rfl,λ_ _=>rfl⟩
  ·exact⟨_,w,fc w _ ty 25 i Tryz.underlying30 hi _ _ c hcap a cap,by rw[List.append_nil];exact hown,Nat.le_refl _,rfl,rfl,rfl,λ_ _=>rfl⟩
 ·obtain⟨b,o,rfl,hh⟩:=ha hl;obtain⟨v',w',hr,ZV,hg⟩:=pf i z 2 16 Tryz.underlying30 hi hz hsz Yb Y4 (by omega) ty base v xs.length (gh xs) hown ⟨b,o,none⟩ l.length cap (gh l) (pJ l) (λj u hu=>by rw[cq];exact pL hh j u hu) (uG l) (by unfold maxLen;omega) (by omega) Zm;refine⟨v',w',hr,by rw[List.length_append,e];exact ZV,hg.size,hg.os,hg.tape,hg.output,λk hk=>hg.block k (by omega) λe2=>?_⟩
  rcases hown.2 with⟨rfl,_⟩|⟨g,c,cur,rfl,hb,_⟩
  ·simp[Value.ownBlock]at e2
  ·simp only[Value.ownBlock,oSJ]at e2;omega
def GI(w:World)(b o:Nat)(ls:List (List PID)):Prop:=∀i (h:i<ls.length),∃ai ci,w.cell? ⟨b,o+i,none⟩=some (.slice ai ls[i].length ci)/\(ls[i]≠[]->∃b' o',ai=some ⟨b',o',none⟩/\jz w b' o' ls[i])
theorem uF{ls:List (List PID)}{i:Nat}(h:i<ls.length):(ls.take (i+1)).flatten=(ls.take i).flatten++ls[i]:=by
 rw[<- List.take_append_getElem h,List.flatten_append];simp only[List.flatten_cons,List.flatten_nil,List.append_nil]
theorem wn{ls:List (List PID)}(i:Nat):(ls.take i).flatten.length<=ls.flatten.length:=by
 have:ls.flatten=(ls.take i).flatten++(ls.drop i).flatten:=by rw[<- List.flatten_append,List.take_append_drop]
 rw[this,List.length_append];omega
theorem wP{w w':World}(h:Below w.heap.size w w'){b o:Nat}{l:List PID}(hh:jz w b o l):jz w' b o l:=λi hi=>by
 obtain⟨h1,h2⟩:=hh i hi;have hb:=wO h1;exact⟨by rw[World.cell?_of_block (h.block b hb)];exact h1,by rw[World.cell?_of_block (h.block b hb)];exact h2⟩
theorem uZ{B q:Nat}{w w1:World}(h:Below B (w.drewN q) w1):Below B w w1:=⟨h.os,h.tape,h.output,h.size,h.block⟩
set_option maxHeartbeats 4000000 in
theorem zI(ls:List (List PID))(b o cap:Nat)(w:World)(hr:GI w b o ls)(hlen:ls.flatten.length<=1099511627776)(hm:ls.length<=1099511627776):
 Calls Tryz.prog 87 #[.slice (some ⟨b,o,none⟩) ls.length cap] w λe w'=>Below w.heap.size w w'/\∃v,e=.returned v/\w'.ownsRow w.heap.size 25 2 v ls.flatten.length (gh ls.flatten):=by
 have mixed:Tryz.prog.follows .mixedOrders=true:=by kernel_rfl
 have HR:Aside (GI w b o ls):=hr;clear hr
 go_enter Tryz.func87,Tryz.ntmps87
 go_wp2
 go_loopg [3,11] ls.length (λg s3 NO wr=>∃i q:Nat,i<=ls.length/\ls.length-i<=g/\s3=.int .i64 ((ls.take i).flatten.length:Nat)/\NO=.int .i64 i/\wr=w.drewN q)
 case atStart=>exact⟨0,0,by omega,by omega,rfl,rfl,rfl⟩
 case round=>
  obtain⟨i,q,hi,hg,rfl,rfl,rfl⟩:=hrel;have YR:=wn (ls:=ls) i;by_cases hlt:i<ls.length
  ·obtain⟨ai,ci,hc,_⟩:=HR.out i hlt;have Vg:=wn (ls:=ls) (i+1)
   have UM:(ls.take (i+1)).flatten.length=(ls.take i).flatten.length+ls[i].length:=by rw[uF hlt,List.length_append]
   generalize hk:ls[i].length=k at hc UM;generalize hn:(ls.take i).flatten.length=n at YR UM;have HF:Aside ((ls.take (i+1)).flatten.length=n+k/\(ls.take (i+1)).flatten.length<=ls.flatten.length):=⟨UM,Vg⟩
   have LC:n+k<=1099511627776:=by omega
   clear UM Vg hk hn YR
   go_wp2
   go_roundg (ls.length-(i+1))
   case measure=>omega
   case rel=>exact⟨i+1,q,by omega,Nat.le_refl _,by rw[HF.out.1];go_num,by go_num,rfl⟩
  ·have WL:i=ls.length:=by omega
   subst WL;rw[List.take_length]at YR⊢;generalize hn:ls.flatten.length=n at YR hlen⊢;have HN:Aside (ls.flatten.length=n):=hn;clear hn YR
   go_wp2_with fail
   refine(D6 n _ hlen).mono ?_;rintro e w1 ⟨ZZ,v,rfl,hown⟩;have HB:Aside (Below w.heap.size w w1/\w1.ownsRow w.heap.size 25 2 v 0 []):=⟨uZ ZZ,hown⟩;clear ZZ hown
   go_wp2
   go_loopg [6,27] ls.length (λg s6 NR wr=>∃j:Nat,j<=ls.length/\ls.length-j<=g/\NR=.int .i64 j/\Below w.heap.size w wr/\wr.ownsRow w.heap.size 25 2 s6 (ls.take j).flatten.length (gh (ls.take j).flatten))
   case atStart=>exact⟨0,by omega,by omega,rfl,HB.out.1,HB.out.2⟩
   case round=>
    obtain⟨j,hj,ZH,rfl,Z',hown⟩:=hrel;by_cases hlt2:j<ls.length
    ·obtain⟨ai,ci,hc,ZI⟩:=HR.out j hlt2
     have Y7:wr.cell? ⟨b,o+j,none⟩=some (.slice ai ls[j].length ci):=by rw[World.cell?_of_block (Z'.block b (wO hc))];exact hc
     have Vg:=wn (ls:=ls) (j+1);have UM:=uF hlt2
     have hsz:(ls.take j).flatten.length+ls[j].length<=1099511627776:=by
      have:(ls.take (j+1)).flatten.length=(ls.take j).flatten.length+ls[j].length:=by rw[UM,List.length_append]
      have:=HN.out;omega
     obtain⟨v',w',hrun,ZV,Y1,Uq,UY,Vk,U8⟩:=FU (w:=wr) 30 w.heap.size _ (ls.take j).flatten ls[j] hown Z'.size ai ci (λhne=>by
      obtain⟨b',o',e1,e2⟩:=ZI hne
      exact⟨b',o',e1,wP Z' e2⟩) hsz
     rw[<- UM]at ZV;have HO:Aside (w'.ownsRow w.heap.size 25 2 v' (ls.take (j+1)).flatten.length (gh (ls.take (j+1)).flatten)/\Below w.heap.size w w'):=⟨ZV,⟨Uq.trans Z'.os,UY.trans Z'.tape,Vk.trans Z'.output,Nat.le_trans Z'.size Y1,λk hk=>(U8 k hk).trans (Z'.block k hk)⟩⟩;generalize ls[j].length=m at Y7 hrun;clear ZV Uq UY Vk U8 Y1 ZI hown Z' hc UM hsz Vg
     go_wp2_with (at_builtin;refine iH rfl _ _ rfl rfl rfl hrun ?_)
     go_roundg (ls.length-(j+1))
     case measure=>omega
     case rel=>exact⟨j+1,by omega,Nat.le_refl _,by go_num,HO.out.2,HO.out.1⟩
    ·have hjl:j=ls.length:=by omega
     subst hjl;rw[List.take_length]at hown;have HO:Aside (Below w.heap.size w wr/\wr.ownsRow w.heap.size 25 2 u6 ls.flatten.length (gh ls.flatten)):=⟨Z',hown⟩;clear Z' hown
     go_wp2
     go_ret
     exact⟨HO.out.1,_,rfl,HO.out.2⟩
theorem wD(a:Option Addr)(cap:Nat)(w:World):Calls Tryz.prog 87 #[.slice a 0 cap] w λe w'=>Below w.heap.size w w'/\e=.returned (.slice none 0 0):=by
 have mixed:Tryz.prog.follows .mixedOrders=true:=by kernel_rfl
 go_enter Tryz.func87,Tryz.ntmps87
 go_wp2
 refine wp_loop_rounds 1 ?_;rw[rounds_succ]
 go_wp2
 refine wp_loop_rounds 1 ?_;rw[rounds_succ]
 go_wp2
 go_ret
 exact⟨Below.refl _ _,rfl⟩
theorem s9:fC Tryz.prog 87:=gU Tryz.func87 (by kernel_rfl) rfl
theorem zH(ls:List (List PID))(hl:ls.flatten.length<=1099511627776)(hm:ls.length<=1099511627776):GM Tryz.prog 87 [.sl (ls.map λx=>[TV.sl (x.map nz)])] (ls.flatten.map nz):=by
 intro avs w F hal ha
 match avs,hal with
 | [x],_=>
  have h0:=ha 0 (by simp) (by simp);simp only[List.getElem_cons_zero]at h0
  cases h0 with
  |im h0=>
   cases h0 with
   | @sl _ a cap sz u hsz hcap hmax hnil hcell hrec=>
    have SE:(ls.map λx=>[TV.sl (x.map nz)]).length=ls.length:=by simp
    rw[SE]at hcap⊢;by_cases hn:ls=[]
    ·subst hn;exact(wD a cap w).mono λe w' ⟨hb,he⟩=>⟨_,he,hb,.sl (c:=[]) 2 (λ_ _=>undef) (λi h=>by simp at h) (Nat.le_refl _) (Nat.zero_le _) (λ_=>rfl) (λi j h=>by simp at h) (λi j h=>by simp at h)⟩
    ·have Z1:0<ls.length:=List.length_pos_iff.2 hn
     have hz:sz=1:=by
      have:=hsz 0 (by simpa using Z1);rw[<- this];simp
     subst hz;obtain⟨b,o,e,_,_⟩:=hcell 0 0 (by simpa using Z1) (by omega);subst e
     have S2:GI w b o ls:=λi hi=>by
      obtain⟨b',o',e',_,hc⟩:=hcell i 0 (by simpa using hi) (by omega)
      injection e' with e'
      injection e' with e1 e2
      subst e1;subst e2;have hr:=hrec i 0 (by simpa using hi) (by simp);simp only[List.getElem_map,List.getElem_cons_zero]at hr;obtain⟨ai,ci,hu,hh⟩:=uk hr;exact⟨ai,ci,by rw[<- hu,<- hc];congr 2;omega,hh⟩
     refine(zI ls b o cap w S2 hl hm).mono λe w' ⟨hb,v,he,hown⟩=>?_;refine xD ⟨hb,?_⟩
     rcases hown.2 with⟨rfl,h0⟩|⟨g,c,cur,rfl,hg,YD,WE,V4,hcur,Zv⟩
     ·exact .inl ⟨oEN h0,none,he⟩
     ·have hK:=rE YD hcur WE Zv;exact .inr ⟨g,c,he,hg,WE,V4,um hK (by simp) λi hi=>by rw[getElem!_pos _ i (by simpa using hi)];simp⟩
end Go.Proofs.YtakfoejcjdcgbaaGreat
namespace Go.Proofs.YtakfoejcjdcgbaaGreat
end Go.Proofs.YtakfoejcjdcgbaaGreat
namespace Go.Proofs.YtakfoejcjdcgbaaGreat
open Go.RowKit
def GU:FuncId->List TV->Option (List (List TV)):=λf vals=>
 if f=85 then(match vals with
  | [.fn g [],.sl c]=>if g=86 then(E5 c).bind λl=>if l.length<=1099511627776 then some ((iJ l).map nz)else none else none
  |_=>none)
 else if f=87 then(match vals with
  | [.sl c]=>(wz c).bind λl=>if l.flatten.length<=1099511627776/\l.length<=1099511627776 then some (l.flatten.map nz)else none
  |_=>none)
 else none
def GV:bV:=EX GU
theorem F9:ct Tryz.prog GV:=HW λf vals c h=>by
 unfold GU at h;split at h
 ·rename_i e;subst e;split at h
  ·split at h
   ·rename_i g c0 e;subst e;obtain⟨l,h1,h2⟩:=Option.bind_eq_some_iff.1 h;split at h2
    ·rename_i hl
     injection h2 with h2
     subst h2;rw[wy h1];exact⟨rV,yE l hl⟩
    ·cases h2
   ·cases h
  ·cases h
 ·split at h
  ·rename_i e;subst e;split at h
   ·obtain⟨l,h1,h2⟩:=Option.bind_eq_some_iff.1 h;split at h2
    ·rename_i hl
     injection h2 with h2
     subst h2;rw[yg h1];exact⟨s9,zH l hl.1 hl.2⟩
    ·cases h2
   ·cases h
  ·cases h
def co(a0:List PID):Option (List PID×Unit):=if a0.length<=1099511627776 then some (iJ a0,())else none
def ca(a0:List (List PID)):Option (List PID×Unit):=if a0.flatten.length<=1099511627776/\a0.length<=1099511627776 then some (a0.flatten,())else none
theorem ji{id:Nat}:i7 GV ⟨85,id,[.fn 86 [],shU (.row false (.pair (.int .i64) (.int .i64)))],[],[⟨[shU (.row false (.pair (.int .i64) (.int .i64)))],[.one],[]⟩],λh=>co h.1⟩:=by
 rintro⟨l,h⟩ o x ho hx;have ho:(if List.length l<=1099511627776 then some (iJ l,())else none)=some o:=ho;split at ho
 case isFalse=>cases ho
 rename_i hl
 injection ho with ho
 subst ho;cases hx;show EX GU 85 [.fn 86 [],.sl (l.map nz)] []=some (⟨[.sl ((iJ l).map nz)],[.one]⟩,[]);simp[EX,GU,uj,sX,hl]
theorem iV{id:Nat}:i7 GV ⟨87,id,[shU (.row false (.row false (.pair (.int .i64) (.int .i64))))],[],[⟨[shU (.row false (.pair (.int .i64) (.int .i64)))],[.one],[]⟩],λh=>ca h.1⟩:=by
 rintro⟨l,h⟩ o x ho hx;have ho:(if(List.flatten l).length<=1099511627776/\List.length l<=1099511627776 then some (List.flatten l,())else none)=some o:=ho;split at ho
 case isFalse=>cases ho
 rename_i hl
 injection ho with ho
 subst ho;cases hx;show EX GU 87 [.sl (l.map λx=>[TV.sl (x.map nz)])] []=some (⟨[.sl (l.flatten.map nz)],[.one]⟩,[]);unfold EX;rw[oIP (by simp[uj])];unfold GU;rw[oIN (by decide),oIP rfl];simp only[uN,oBS,oIP hl,oMS]
abbrev Ja:CT:=(.pair (.int .u8) (.pair (.int .u16) (.pair I64 I64)))
abbrev GQ:CT:=(.pair I64 (.pair I64 (.pair I64 (.pair I64 (.pair I64 (.pair I64 (.pair (.int .u16) (.row false Ja))))))))
abbrev kw:CT:=(.row false Ja)
abbrev RIi:CT:=(.row false I64)
abbrev qY:Type:=(Int×Int×Int×Int)
abbrev I7:Type:=(Int×Int×Int×Int×Int×Int×Int×List qY)
def HHi(f i:Nat):List (Nat×Option Nat):=if f=77 then(if i=1000011 then[(11,some 1),(12,some 1)]else[])else if f=90 then(if i=0 then[(4,none)]else[])else[]
noncomputable def TTi (f:FuncId):Option TFn:=kg Tryz.prog (HHi f) f
noncomputable def E0i:Env:=⟨λ_=>none,λf=>IL Tryz.prog f⟩
theorem Hh:tz Tryz.prog TTi:=vn HHi (by kernel_rfl)
def kY(a0:Int):Option (Bool×Unit):=
bif(decide (a0>=1))then(some ((decide (a0<=32)),()))else
some (false,())
noncomputable def qB:X.Cfg:=⟨E0i,[],[],[]⟩
def lf:Ctr:=⟨70,0,[shU I64],[],[⟨[shU .bool],[.one],[]⟩],λh=>kY h.1⟩
set_option maxRecDepth 100000 in
theorem qt:Lvl E0i TTi noB 1 lf:=bh (n:=0) (C:=qB) rfl (.intro) (bj (by kernel_rfl)) (λh=>by kernel_rfl)
def iI(a0:List qY):Option (Bool×Unit):=
let x0:Int:=(bq (List.length a0));
(kY x0).bind λ(x1,_)=>
some ((!x1),())
noncomputable def nu:X.Cfg:=⟨E0i,[lf],[],[]⟩
def i4:Ctr:=⟨95,1,[shU kw],[],[⟨[shU .bool],[.one],[]⟩],λh=>iI h.1⟩
set_option maxRecDepth 100000 in
theorem nn:Lvl E0i TTi noB 2 i4:=bh (n:=1) (C:=nu) rfl (.intro (qt.mono (by decide)) (.intro)) (bj (by kernel_rfl)) (λh=>by kernel_rfl)
def gr:(List (List qY))×Int×Int×Unit->Option (((List (List qY))×Int×Int×Unit)⊕((Int×Unit)⊕((List (List qY))×Int×Int×Bool×Unit))):=λ(v0,v1,v2,_)=>
bif(decide (v2<v1))then((eQ v2).bind λx0=>
(dz v0 x0).bind λx1=>
(iI x1).bind λ(x2,_)=>
bif x2 then(some (.inr (.inl (v2,()))))else
let x3:Int:=(w64 (v2+1));
some (.inl (v0,v1,x3,())))else
some (.inr (.inr (v0,v1,v2,false,())))
def d9(a0:List (List qY)):Option (Int×Unit):=
let x0:Int:=(bq (List.length a0));
(match bE gr NN (a0,x0,0,())with
|none=>none
|some (.inl (x1,_))=>
some (x1,())
|some (.inr (x1,x2,x3,x4,_))=>
some ((-1),()))
noncomputable def iD:X.Cfg:=⟨E0i,[i4],[],[⟨3,0,⟨[(0,shU (.row false kw)),(1,.fn 95 []),(7,shU I64),(8,shU I64)],[],[],([],[])⟩,[(.ret,⟨[(4,shU I64)],[],[],([],[])⟩),(.exit 0,⟨[(0,shU (.row false kw)),(1,.fn 95 []),(7,shU I64),(8,shU I64),(9,shU .bool)],[],[],([],[])⟩)]⟩]⟩
def em:Ctr:=⟨131,2,[shU (.row false kw),.fn 95 []],[],[⟨[shU I64],[.one],[]⟩],λh=>d9 h.1⟩
set_option maxRecDepth 100000 in
theorem iA:Lvl E0i TTi noB 3 em:=bh (n:=2) (C:=iD) rfl (.intro (nn.mono (by decide)) (.intro)) (bj (by kernel_rfl)) (λh=>by kernel_rfl)
def dJ(a0:List (List qY)):Option (Bool×Unit):=
(d9 a0).bind λ(x0,_)=>
some ((decide (x0>=0)),())
noncomputable def gy:X.Cfg:=⟨E0i,[em],[],[]⟩
def dM:Ctr:=⟨94,3,[shU (.row false kw),.fn 95 []],[],[⟨[shU .bool],[.one],[]⟩],λh=>dJ h.1⟩
set_option maxRecDepth 100000 in
theorem gx:Lvl E0i TTi noB 4 dM:=bh (n:=3) (C:=gy) rfl (.intro (iA.mono (by decide)) (.intro)) (bj (by kernel_rfl)) (λh=>by kernel_rfl)
def jH(a0:List (List qY))(a1:List I7):Option (Bool×Unit):=
let x0:Int:=(bq (List.length a0));
bif(decide (x0<=4))then(let x1:Int:=(bq (List.length a1));
bif(decide (x1<=4))then((dJ a0).bind λ(x2,_)=>
some ((!x2),()))else
some (false,()))else
some (false,())
noncomputable def pC:X.Cfg:=⟨E0i,[dM],[],[]⟩
def ki:Ctr:=⟨60,4,[.agg [shU (.row false kw),shU (.row false GQ)]],[],[⟨[shU .bool],[.one],[]⟩],λh=>jH h.1 h.2.1⟩
set_option maxRecDepth 100000 in
theorem py:Lvl E0i TTi noB 5 ki:=bh (n:=4) (C:=pC) rfl (.intro (gx.mono (by decide)) (.intro)) (bj (by kernel_rfl)) (λh=>by kernel_rfl)
def lN(a0:List qY)(a1:Int):Option ((List qY)×Unit):=
(bif(decide (a1<0))then(some (a0,a1,true,()))else
bif(decide (a1>32))then(some (a0,a1,true,()))else
let x0:Int:=(w64 (a1*8));
let x1:Int:=(bq (List.length a0));
some (a0,a1,(decide (x0>=x1)),()):Option ((List qY)×Int×Bool×Unit)).bind λ(x0,x1,x2,_)=>
bif x2 then(some ([],()))else
let x3:Int:=(w64 (x1*8));
let x4:Int:=(w64 (x3+8));
let x5:Int:=(bq (List.length x0));
let x6:Int:=(mmR false x4 x5);
(eQ x3).bind λx7=>
(eQ x6).bind λx8=>
bif(iK x7 x8 (List.length x0))then let x9:List qY:=(Aa x0 x7 (Nat.sub x8 x7));
some (x9,())else none
noncomputable def sC:X.Cfg:=⟨E0i,[],[],[⟨2,0,⟨[],[],[],([],[])⟩,[(.normal,⟨[(0,shU kw),(1,shU I64),(18,shU .bool)],[],[],([],[])⟩)]⟩]⟩
def mC:Ctr:=⟨90,5,[shU kw,shU I64],[],[⟨[shU kw],[.one],[]⟩],λh=>lN h.1 h.2.1⟩
set_option maxRecDepth 100000 in
theorem sm:Lvl E0i TTi noB 1 mC:=bh (n:=0) (C:=sC) rfl (.intro) (bj (by kernel_rfl)) (λh=>by kernel_rfl)
def kX(a0:List (List qY))(a1:List I7)(a2:Int)(a3:Int):Option (Bool×Unit):=
bif(a2==(-1))then(bif(decide (a3>=0))then(let x0:Int:=(bq (List.length a1));
some ((decide (a3<x0)),()))else
some (false,()))else
bif(decide (a2>=0))then(let x0:Int:=(bq (List.length a0));
bif(decide (a2<x0))then((eQ a2).bind λx1=>
(dz a0 x1).bind λx2=>
(lN x2 a3).bind λ(x3,_)=>
let x4:Int:=(bq (List.length x3));
some ((decide (x4>0)),()))else
some (false,()))else
some (false,())
noncomputable def qA:X.Cfg:=⟨E0i,[mC],[],[]⟩
def ld:Ctr:=⟨119,6,[.agg [shU (.row false kw),shU (.row false GQ)],.agg [shU I64,shU I64]],[],[⟨[shU .bool],[.one],[]⟩],λh=>kX h.1 h.2.1 h.2.2.1 h.2.2.2.1⟩
set_option maxRecDepth 100000 in
theorem qr:Lvl E0i TTi noB 2 ld:=bh (n:=1) (C:=qA) rfl (.intro (sm.mono (by decide)) (.intro)) (bj (by kernel_rfl)) (λh=>by kernel_rfl)
def cO(a0:List (List qY))(a1:List I7)(a2:Int)(a3:Int):Option (Int×Unit):=
(jH a0 a1).bind λ(x0,_)=>
bif(!x0)then(some (1,()))else
(kX a0 a1 a2 a3).bind λ(x1,_)=>
bif(!x1)then(some (30,()))else
some (0,())
noncomputable def sG:X.Cfg:=⟨E0i,[ki,ld],[],[]⟩
def tr:Ctr:=⟨88,7,[.agg [shU (.row false kw),shU (.row false GQ)],.agg [shU I64,shU I64]],[],[⟨[shU I64],[.one],[]⟩],λh=>cO h.1 h.2.1 h.2.2.1 h.2.2.2.1⟩
set_option maxRecDepth 100000 in
theorem so:Lvl E0i TTi noB 6 tr:=bh (n:=5) (C:=sG) rfl (.intro (py.mono (by decide)) (.intro (qr.mono (by decide)) (.intro))) (bj (by kernel_rfl)) (λh=>by kernel_rfl)
def ee(a0:Int)(a1:Int)(a2:Int)(a3:Int)(a4:Int)(a5:Int)(a6:Int)(a7:List qY):Option (Bool×Unit):=
bif(a0==0)then(bif(a1==0)then(bif(a2==0)then(bif(a3==0)then(bif(a4==0)then(bif(a5==0)then(bif(a6==0)then(let x0:Int:=(bq (List.length a7));
some ((x0==0),()))else
some (false,()))else
some (false,()))else
some (false,()))else
some (false,()))else
some (false,()))else
some (false,()))else
some (false,())
noncomputable def qC:X.Cfg:=⟨E0i,[],[],[]⟩
def qU:Ctr:=⟨91,8,[.agg [shU I64,shU I64,shU I64,shU I64,shU I64,shU I64,shU (.int .u16),shU kw]],[],[⟨[shU .bool],[.one],[]⟩],λh=>ee h.1 h.2.1 h.2.2.1 h.2.2.2.1 h.2.2.2.2.1 h.2.2.2.2.2.1 h.2.2.2.2.2.2.1 h.2.2.2.2.2.2.2.1⟩
set_option maxRecDepth 100000 in
theorem qu:Lvl E0i TTi noB 1 qU:=bh (n:=0) (C:=qC) rfl (.intro) (bj (by kernel_rfl)) (λh=>by kernel_rfl)
def lu:Int×(List (Int))×Int×Int×Int×(List (Int))×Unit->Option ((Int×(List (Int))×Int×Int×Int×(List (Int))×Unit)⊕(Int×(List (Int))×Int×Int×Int×Bool×(List (Int))×Unit)):=λ(v0,v1,v2,v3,v4,v5,_)=>
bif(decide (v4<8))then(let x0:Int:=(wk .u64 v0);
let x1:Int:=(w64 (8*v4));
(eQ x1).bind λx2=>
let x3:Int:=(shR .shr .u64 x0 x2);
let x4:Int:=(wk .u8 x3);
bif(cB 1 (List.length v5) (List.length [x4]))then let x5:List (Int):=(List.append v5 [x4]);
let x6:Int:=(w64 (v4+1));
some (.inl (v0,v1,v2,v3,x6,x5,()))else none)else
some (.inr (v0,v1,v2,v3,v4,false,v5,()))
def lr:(List (Int))×Int×Int×(List (Int))×Unit->Option (((List (Int))×Int×Int×(List (Int))×Unit)⊕((List (Int))×Int×Int×Bool×(List (Int))×Unit)):=λ(v0,v1,v2,v3,_)=>
bif(decide (v2<v1))then((eQ v2).bind λx0=>
(dz v0 x0).bind λx1=>
(bE lu NN (x1,v0,v1,v2,0,v3,())).bind λ(x2,x3,x4,x5,x6,x7,x8,_)=>
let x9:Int:=(w64 (x5+1));
some (.inl (x3,x4,x9,x8,())))else
some (.inr (v0,v1,v2,false,v3,()))
def dA(a0:List (Int))(a1:List (Int)):Option ((List (Int))×Unit):=
let x0:Int:=(bq (List.length a0));
(bE lr NN (a0,x0,0,a1,())).bind λ(x1,x2,x3,x4,x5,_)=>
some (x5,())
noncomputable def ol:X.Cfg:=⟨E0i,[],[],[⟨9,0,⟨[(0,.pk ⟨3,0,[]⟩ [0,0]),(6,shU I64),(8,shU RIi),(9,shU I64),(10,shU I64),(14,shU I64)],[(3,[shU (.row true (.int .u8))])],[],([],[])⟩,[(.exit 2,⟨[(0,.pk ⟨3,0,[]⟩ [0,0]),(6,shU I64),(8,shU RIi),(9,shU I64),(10,shU I64),(14,shU I64),(15,shU .bool)],[(3,[shU (.row true (.int .u8))])],[],([],[])⟩)]⟩,⟨3,1,⟨[(0,.pk ⟨3,0,[]⟩ [0,0]),(8,shU RIi),(9,shU I64),(10,shU I64)],[(3,[shU (.row true (.int .u8))])],[],([],[])⟩,[(.exit 0,⟨[(0,.pk ⟨3,0,[]⟩ [0,0]),(8,shU RIi),(9,shU I64),(10,shU I64),(11,shU .bool)],[(3,[shU (.row true (.int .u8))])],[],([],[])⟩)]⟩]⟩
def gk:Ctr:=⟨99,9,[.pk ⟨3,0,[]⟩ [0,0],shU RIi],[(3,[shU (.row true (.int .u8))])],[⟨[shU (.row true (.int .u8))],[.one],[(3,[])]⟩],λh=>dA h.1 h.2.1⟩
set_option maxRecDepth 100000 in
theorem jv:Lvl E0i TTi noB 1 gk:=bh (n:=0) (C:=ol) rfl (.intro) (bj (by kernel_rfl)) (λh=>by kernel_rfl)
def n9:(List qY)×Int×Int×(List (Int))×Unit->Option (((List qY)×Int×Int×(List (Int))×Unit)⊕((List qY)×Int×Int×Bool×(List (Int))×Unit)):=λ(v0,v1,v2,v3,_)=>
bif(decide (v2<v1))then((eQ v2).bind λx0=>
(dz v0 x0).bind λx1=>
let x2:Int:=(wk .i64 x1.1);
let x3:Int:=(wk .i64 x1.2.1);
let x4:List (Int):=[x2,x3,x1.2.2.1,x1.2.2.2];
(dA x4 v3).bind λ(x5,_)=>
let x6:Int:=(w64 (v2+1));
some (.inl (v0,v1,x6,x5,())))else
some (.inr (v0,v1,v2,false,v3,()))
def jb(a0:List qY)(a1:List (Int)):Option ((List (Int))×Unit):=
let x0:Int:=(bq (List.length a0));
(dA [x0] a1).bind λ(x1,_)=>
let x2:Int:=(bq (List.length a0));
(bE n9 NN (a0,x2,0,x1,())).bind λ(x3,x4,x5,x6,x7,_)=>
some (x7,())
noncomputable def sE:X.Cfg:=⟨E0i,[gk],[],[⟨4,0,⟨[(0,.pk ⟨3,0,[]⟩ [0,0]),(12,shU kw),(13,shU I64),(14,shU I64)],[(3,[shU (.row true (.int .u8))])],[],([],[])⟩,[(.exit 0,⟨[(0,.pk ⟨3,0,[]⟩ [0,0]),(12,shU kw),(13,shU I64),(14,shU I64),(15,shU .bool)],[(3,[shU (.row true (.int .u8))])],[],([],[])⟩)]⟩]⟩
def mD:Ctr:=⟨98,10,[.pk ⟨3,0,[]⟩ [0,0],shU kw],[(3,[shU (.row true (.int .u8))])],[⟨[shU (.row true (.int .u8))],[.one],[(3,[])]⟩],λh=>jb h.1 h.2.1⟩
set_option maxRecDepth 100000 in
theorem sn:Lvl E0i TTi noB 2 mD:=bh (n:=1) (C:=sE) rfl (.intro (jv.mono (by decide)) (.intro)) (bj (by kernel_rfl)) (λh=>by kernel_rfl)
def ef(a0:Int)(a1:Int)(a2:List qY)(a3:Int)(a4:Int)(a5:Int)(a6:Int)(a7:Int)(a8:Int)(a9:Int)(a10:List qY):Option ((List (Int))×Unit):=
let x0:List (Int):=[a0,a1];
(dA x0 []).bind λ(x1,_)=>
(jb a2 x1).bind λ(x2,_)=>
let x3:Int:=(wk .i64 a9);
let x4:List (Int):=[a3,a4,a5,a6,a7,a8,x3];
(dA x4 x2).bind λ(x5,_)=>
(jb a10 x5).bind λ(x6,_)=>
some (x6,())
noncomputable def qD:X.Cfg:=⟨E0i,[gk,mD],[],[]⟩
def lh:Ctr:=⟨74,11,[.agg [shU I64,shU I64,shU kw,shU I64,shU I64,shU I64,shU I64,shU I64,shU I64,shU (.int .u16),shU kw]],[],[⟨[shU (.row true (.int .u8))],[.one],[]⟩],λh=>ef h.1 h.2.1 h.2.2.1 h.2.2.2.1 h.2.2.2.2.1 h.2.2.2.2.2.1 h.2.2.2.2.2.2.1 h.2.2.2.2.2.2.2.1 h.2.2.2.2.2.2.2.2.1 h.2.2.2.2.2.2.2.2.2.1 h.2.2.2.2.2.2.2.2.2.2.1⟩
set_option maxRecDepth 100000 in
theorem qv:Lvl E0i TTi noB 3 lh:=bh (n:=2) (C:=qD) rfl (.intro (jv.mono (by decide)) (.intro (sn.mono (by decide)) (.intro))) (bj (by kernel_rfl)) (λh=>by kernel_rfl)
def pgC(p:Ff)(y z:Value):List Value:=.int .i64 p.1 :: .int .i64 p.2.1::y::vwC p.2.2.2 z
theorem Hw{w:World}{F:Nat->Prop}{p:Ff}{cs:List Value}(h:rPg.rep w F p cs):∃y z,cs=pgC p y z/\RSl rCn w F p.2.2.1 y/\RSl rCn w F p.2.2.2.2.2.2.2.2.2.2 z:=by
 obtain⟨_,_,rfl,rfl,_,_,rfl,rfl,_,_,rfl,⟨y,rfl,hy⟩,hv⟩:=h;obtain⟨z,rfl,hz⟩:=EL hv;exact⟨y,z,rfl,hy,hz⟩
theorem Ih:wY Tryz.prog E0i:=λf n tm h=>by simp[E0i]at h
theorem IV(k:Nat):ct Tryz.prog (runF E0i TTi noB k):=runF_ok Hh Ih HI k
theorem j8{w w':World}(h:Below w.heap.size w w'):w.grownBy w' none:=⟨h.os,h.tape,h.output,h.size,λk hk _=>h.block k hk⟩
theorem Ck(C:List (List Cn4))(T:List Vw8)(r i fe:Int)(h:cO C T r i=some (fe,())):
 runF E0i TTi noB (NN+6) 88 [.agg [.sl (C.map (enc cCs)),.sl (T.map (enc cVw))],.agg [.v (.int .i64 r),.v (.int .i64 i)]] []=some (⟨[.v (.int .i64 fe)],[.one]⟩,[]):=
 so 6 (Nat.le_refl _) ⟨C,T,r,i,()⟩ (fe,()) _ h rfl
theorem zw{w:World}{F:Nat->Prop}{C:List (List Cn4)}{T:List Vw8}{U V:Value}{r i fe:Int}(hu:RSl rCs w F C U)(hv:RSl rVw w F T V)(h:cO C T r i=some (fe,())):
 ∀w',w.grownBy w' none->Calls Tryz.prog 88 #[.agg #[U,V],.agg #[.int .i64 r,.int .i64 i]] w' λe w2=>e=.returned (.int .i64 fe)/\w'.grownBy w2 none:=λw' hg=>by
 refine(tu (IV _) (Ck C T r i fe h) rfl (avs:=[.agg #[U,V],.agg #[.int .i64 r,.int .i64 i]]) (w:=w') (F:=F) rfl λj hj _=>?_).mono ?_
 ·have hj:j<2:=hj
  match j,hj with
  |0,_=>
   refine .ag rfl λj hj=>?_;have hj:j<2:=hj
   match j,hj with
   |0,_=>exact rp tU (hu.grow hg)
   |1,_=>exact rp xz (hv.grow hg)
  |1,_=>
   refine .ag rfl λj hj=>?_;have hj:j<2:=hj
   match j,hj with
   |0,_=>exact .v rfl
   |1,_=>exact .v rfl
 ·rintro e w2 ⟨ys,rfl,hl,hb,Xe⟩;obtain⟨y,rfl⟩:=List.length_eq_one_iff.1 hl;have h0:=Xe 0 Nat.one_pos;replace h0:eO w2 _ (.v (.int .i64 fe)) y:=h0
  cases h0 with
  |v _=>exact⟨rfl,j8 hb⟩
theorem zA(v0 v1 v2 v3 v4 v5 v6:Int)(L:List Cn4)(eb:Bool)(h:ee v0 v1 v2 v3 v4 v5 v6 L=some (eb,())):
 runF E0i TTi noB (NN+1) 91 [.agg [.v (.int .i64 v0),.v (.int .i64 v1),.v (.int .i64 v2),.v (.int .i64 v3),.v (.int .i64 v4),.v (.int .i64 v5),.v (.int .u16 v6),.sl (L.map (enc cCn))]] []=some (⟨[.v (.bool eb)],[.one]⟩,[]):=
 qu 1 (Nat.le_refl _) ⟨v0,v1,v2,v3,v4,v5,v6,L,()⟩ (eb,()) _ h rfl
theorem ww{w:World}{F:Nat->Prop}{v0 v1 v2 v3 v4 v5 v6:Int}{L:List Cn4}{Z:Value}{eb:Bool}(hz:RSl rCn w F L Z)(h:ee v0 v1 v2 v3 v4 v5 v6 L=some (eb,())):
 ∀w',w.grownBy w' none->Calls Tryz.prog 91 #[.agg #[.int .i64 v0,.int .i64 v1,.int .i64 v2,.int .i64 v3,.int .i64 v4,.int .i64 v5,.int .u16 v6,Z]] w' λe w2=>e=.returned (.bool eb)/\w'.grownBy w2 none:=λw' hg=>by
 refine(tu (IV _) (zA v0 v1 v2 v3 v4 v5 v6 L eb h) rfl (avs:=[.agg #[.int .i64 v0,.int .i64 v1,.int .i64 v2,.int .i64 v3,.int .i64 v4,.int .i64 v5,.int .u16 v6,Z]]) (w:=w') (F:=F) rfl λj hj _=>?_).mono ?_
 ·have hj:j<1:=hj
  match j,hj with
  |0,_=>
   refine .ag rfl λj hj=>?_;have hj:j<8:=hj
   match j,hj with
   |0,_=>exact .v rfl
   |1,_=>exact .v rfl
   |2,_=>exact .v rfl
   |3,_=>exact .v rfl
   |4,_=>exact .v rfl
   |5,_=>exact .v rfl
   |6,_=>exact .v rfl
   |7,_=>exact rp ES (hz.grow hg)
 ·rintro e w2 ⟨ys,rfl,hl,hb,Xe⟩;obtain⟨y,rfl⟩:=List.length_eq_one_iff.1 hl;have h0:=Xe 0 Nat.one_pos;replace h0:eO w2 _ (.v (.bool eb)) y:=h0
  cases h0 with
  |v _=>exact⟨rfl,j8 hb⟩
theorem EZ(l:List Int):(TV.ow (l.map (enc (.int .u8)))).imm=.sl (l.map (enc (.int .u8))):=by
 simp only[TV.imm,iw,List.map_map];rfl
theorem F8{P:Program}{B:bV}(hB:ct P B){f:FuncId}{vals:List TV}{res:oQ}(h:B f vals []=some (res,[]))(Zp:res.cells.all xM=true)(h2:(res.cells.map TV.imm).all Ge=true):vc P f vals ⟨res.cells.map TV.imm,res.sh⟩:=by
 refine⟨h2,λavs w F hl hv=>(tu hB h Zp hl hv).mono ?_⟩;rintro e w2 ⟨ys,e1,e2,e3,e4⟩;refine⟨ys,e1,by simpa using e2,e3,λj hj=>?_⟩
 have ZX:j<res.cells.length:=by simpa using hj
 simpa using e4 j ZX
theorem zS(p:Ff)(bs:List Int)(h:ef p.1 p.2.1 p.2.2.1 p.2.2.2.1 p.2.2.2.2.1 p.2.2.2.2.2.1 p.2.2.2.2.2.2.1 p.2.2.2.2.2.2.2.1 p.2.2.2.2.2.2.2.2.1 p.2.2.2.2.2.2.2.2.2.1 p.2.2.2.2.2.2.2.2.2.2=some (bs,())):
 runF E0i TTi noB (NN+3) 74 [.agg (enc cPg p)] []=some (⟨[.ow (bs.map (enc (.int .u8)))],[.one]⟩,[]):=by
 obtain⟨a,c,pc,v0,v1,v2,v3,v4,v5,v6,pr⟩:=p;have h2:ef a c pc v0 v1 v2 v3 v4 v5 v6 pr=some (bs,()):=h
 exact qv 3 (Nat.le_refl _) ⟨a,c,pc,v0,v1,v2,v3,v4,v5,v6,pr,()⟩ (bs,()) _ (by
  unfold lh;dsimp only
  exact h2) rfl
theorem CD(p:Ff)(bs:List Int)(h:ef p.1 p.2.1 p.2.2.1 p.2.2.2.1 p.2.2.2.2.1 p.2.2.2.2.2.1 p.2.2.2.2.2.2.1 p.2.2.2.2.2.2.2.1 p.2.2.2.2.2.2.2.2.1 p.2.2.2.2.2.2.2.2.2.1 p.2.2.2.2.2.2.2.2.2.2=some (bs,())):
 vc Tryz.prog 74 [.agg (enc cPg p)] ⟨[.sl (bs.map (enc (.int .u8)))],[.one]⟩:=by
 have h2:=F8 (IV _) (zS p bs h) rfl (by
  show(Ge ((TV.ow (bs.map (enc (.int .u8)))).imm)&&true)=true;rw[EZ]
  rfl)
 rw[<- EZ bs];exact h2
theorem ox.agg_out{w:World}{F:Nat->Prop}{l:List TV}{x:Value}(h:ox w F (.agg l) x):∃cs:List Value,x=.agg cs.toArray/\kU w F l cs:=by
 cases h with
 |im h=>cases h
 | @ag _ cs hl h=>
  refine⟨cs.toList,by simp,kU.of (by simpa using hl.symm) λj hj=>?_⟩;have:=h j hj;simpa[Array.getD_eq_getD_getElem?,oGD]using this
theorem wQ{w w':World}(h:w.grownBy w' none):Below w.heap.size w w':=⟨h.os,h.tape,h.output,h.size,λk hk=>h.block k hk (by simp)⟩
def A0(C:List (List Cn4))(T:List Vw8)(cells L:List Cn4):Bool:=decide (C.length<=1099511627776)&&C.all (λx=>decide (x.length<=1099511627776))&&decide (T.length<=1099511627776)&&T.all (λx=>decide (x.2.2.2.2.2.2.2.length<=1099511627776))&&decide (cells.length<=1099511627776)&&decide (L.length<=1099511627776)
def bN(C:List (List Cn4))(T:List Vw8)(a0 a1:Int)(cells:List Cn4)(v0 v1 v2 v3 v4 v5 v6:Int)(L:List Cn4):Option (List (List Cn4)×List Vw8×Int×Unit):=
 if A0 C T cells L=true then
  (cO C T a0 a1).bind λ(fe,_)=>
  if fe≠0 then some ([],[],fe,())
  else if a0=-1 then(if 0<cells.length then some ([],[],5,())else if 0<=a1/\a1.toNat<T.length then some (C,T.set a1.toNat (v0,v1,v2,v3,v4,v5,v6,L),0,())else none)
  else if 0<=a0/\a0.toNat<C.length/\0<=a1/\a1<=32/\8*a1.toNat<(C.getD a0.toNat []).length then
   (ee v0 v1 v2 v3 v4 v5 v6 L).bind λ(eb,_)=>
   if cells.length≠min 8 ((C.getD a0.toNat []).length-8*a1.toNat)\/eb=false then some ([],[],5,())else some (C.set a0.toNat (ia (C.getD a0.toNat []) a1.toNat cells),T,0,())
  else none
 else none
def kv(C':List (List Cn4))(T':List Vw8)(err:Int)(w:World)(e:Ending)(w':World):Prop:=
 ∃a b,e=.returned (.tuple #[.agg #[a,b],.int .i64 err])/\RSl rCs w' (λk=>w.heap.size<=k) C' a/\RSl rVw w' (λk=>w.heap.size<=k) T' b/\w.grownBy w' none
theorem kv.nil{w w':World}{e:Ending}{err:Int}(h:e=.returned (.tuple #[.agg #[.slice none 0 0,.slice none 0 0],.int .i64 err])/\w.grownBy w' none):kv [] [] err w e w':=⟨_,_,h.1,RSl.nil _ _,RSl.nil _ _,h.2⟩
theorem kv.ret{C:List (List Cn4)}{T:List Vw8}{w w':World}{e:Ending}(h:yr C T w e w'):kv C T 0 w e w':=h
theorem AX{F:Nat->Prop}{C:List (List Cn4)}{T:List Vw8}{a0 a1:Int}{cells:List Cn4}{v0 v1 v2 v3 v4 v5 v6:Int}{L:List Cn4}{U V Y Z:Value}{w:World}{C':List (List Cn4)}{T':List Vw8}{err:Int}
 (hu:RSl rCs w F C U)(hv:RSl rVw w F T V)(hy:RSl rCn w F cells Y)(hz:RSl rCn w F L Z)(h:bN C T a0 a1 cells v0 v1 v2 v3 v4 v5 v6 L=some (C',T',err,())):
 Calls Tryz.prog 54 #[.agg #[U,V],.agg #[.int .i64 a0,.int .i64 a1,Y,.int .i64 v0,.int .i64 v1,.int .i64 v2,.int .i64 v3,.int .i64 v4,.int .i64 v5,.int .u16 v6,Z]] w (kv C' T' err w):=by
 unfold bN at h;split at h
 case isFalse=>cases h
 obtain⟨⟨fe,u⟩,hf,h⟩:=Option.bind_eq_some_iff.1 h;have ZS:=zw hu hv hf;dsimp only at h;split at h
 ·rename_i hne
  injection h with h
  injection h with h1 h
  injection h with h2 h
  injection h with h3 h
  subst h1 h2 h3;exact(Dx F C T a0 a1 cells v0 v1 v2 v3 v4 v5 v6 L U V Y Z w fe hu hv hy hz ZS (by simpa using hne)).mono λe w' h=>kv.nil h
 rename_i h0
 have h0:fe=0:=by simpa using h0
 split at h
 ·rename_i hr;split at h
  ·rename_i hc
   injection h with h
   injection h with h1 h
   injection h with h2 h
   injection h with h3 h
   subst h1 h2 h3;exact(AV F C T a0 a1 cells v0 v1 v2 v3 v4 v5 v6 L U V Y Z w fe hu hv hy hz ZS h0 hr hc).mono λe w' h=>kv.nil h
  ·rename_i hc;split at h
   case isFalse=>cases h
   rename_i hj;obtain⟨j,rfl⟩:=Int.eq_ofNat_of_zero_le hj.1
   injection h with h
   injection h with h1 h
   injection h with h2 h
   injection h with h3 h
   subst h1 h2 h3 hr;exact(yN F C T j cells v0 v1 v2 v3 v4 v5 v6 L U V Y Z w fe hu hv hy hz ZS h0 (by omega) (by simpa using hj.2)).mono λe w' h=>kv.ret h
 ·split at h
  case isFalse=>cases h
  rename_i hg;obtain⟨g1,g2,g3,g4,g5⟩:=hg;obtain⟨k,rfl⟩:=Int.eq_ofNat_of_zero_le g1;obtain⟨j,rfl⟩:=Int.eq_ofNat_of_zero_le g3;simp only[oTN]at g2 g5 h
  have e1:C.getD k []=C[k]:=by simp[oGD,g2]
  rw[e1]at g5 h;obtain⟨⟨eb,u2⟩,he,h⟩:=Option.bind_eq_some_iff.1 h;have ZB:=λw' hg=>ww (w:=w) hz he w' hg;dsimp only at h;split at h
  ·rename_i hc
   injection h with h
   injection h with h1 h
   injection h with h2 h
   injection h with h3 h
   subst h1 h2 h3;by_cases hcl:cells.length=min 8 (C[k].length-8*j)
   ·exact(AT F C T k j cells v0 v1 v2 v3 v4 v5 v6 L U V Y Z w fe hu hv hy hz ZS eb ZB h0 g2 (by omega) g5 hcl (by rcases hc with hc|hc;exact absurd hcl hc;exact hc)).mono λe w' h=>kv.nil h
   ·exact(AU F C T k j cells v0 v1 v2 v3 v4 v5 v6 L U V Y Z w fe hu hv hy hz ZS eb ZB h0 g2 (by omega) g5 hcl).mono λe w' h=>kv.nil h
  ·rename_i hc
   injection h with h
   injection h with h1 h
   injection h with h2 h
   injection h with h3 h
   subst h1 h2 h3;exact(AW F C T k j cells v0 v1 v2 v3 v4 v5 v6 L U V Y Z w fe hu hv hy hz ZS eb ZB h0 g2 (by omega) g5 (by omega) (by cases eb;exact absurd (.inr rfl) hc;rfl)).mono λe w' h=>kv.ret h
theorem FP{C:List (List Cn4)}{T:List Vw8}{p:Ff}{C':List (List Cn4)}{T':List Vw8}{err:Int}(h:bN C T p.1 p.2.1 p.2.2.1 p.2.2.2.1 p.2.2.2.2.1 p.2.2.2.2.2.1 p.2.2.2.2.2.2.1 p.2.2.2.2.2.2.2.1 p.2.2.2.2.2.2.2.2.1 p.2.2.2.2.2.2.2.2.2.1 p.2.2.2.2.2.2.2.2.2.2=some (C',T',err,())):
 vc Tryz.prog 54 [.agg [.sl (C.map (enc cCs)),.sl (T.map (enc cVw))],.agg (enc cPg p)] ⟨[.sl (C'.map (enc cCs)),.sl (T'.map (enc cVw)),.v (.int .i64 err)],[.agg 2,.one]⟩:=by
 have hok:A0 C T p.2.2.1 p.2.2.2.2.2.2.2.2.2.2=true:=by
  unfold bN at h;split at h
  ·assumption
  ·cases h
 simp only[A0,oBA,oDE,List.all_eq_true]at hok;obtain⟨⟨⟨⟨⟨o1,o2⟩,o3⟩,o4⟩,o5⟩,o6⟩:=hok;refine⟨rfl,λavs w F hl hv=>?_⟩
 obtain⟨x,y,rfl⟩:∃x y,avs=[x,y]:=by
  match avs,hl with
  | [x,y],_=>exact⟨x,y,rfl⟩
 obtain⟨cs,rfl,WG⟩:=(hv 0 (by simp) (by simp)).agg_out;obtain⟨ds,rfl,hds⟩:=(hv 1 (by simp) (by simp)).agg_out;obtain⟨U,_,rfl,hU,V,_,rfl,hV,rfl⟩:=WG;have Ng:=Ht.of hds ⟨o5,o6⟩;obtain⟨Y,Z,rfl,hY,hZ⟩:=Hw Ng;have hu:RSl rCs w F C U:=B5 tU hU (λx hx=>o2 x hx) o1;have Q1:RSl rVw w F T V:=B5 xz hV (λx hx=>o4 x hx) o3;refine(AX hu Q1 hY hZ h).mono ?_;rintro e w' ⟨a,b,rfl,ha,hb,hg⟩;refine⟨[a,b,.int .i64 err],rfl,rfl,wQ hg,λj hj=>?_⟩;have hj:j<3:=hj
 match j,hj with
 |0,_=>exact rp tU (ha.sub λk hk=>.inr hk)
 |1,_=>exact rp xz (hb.sub λk hk=>.inr hk)
 |2,_=>exact .v rfl
def Gs{α:Type}(f:List TV->Option α):List (List TV)->Option (List α)
 | []=>some []
 |c::r=>(f c).bind λx=>(Gs f r).bind λy=>some (x::y)
def ou:(t:CT)->List TV->Option (den t)
 |.int k,l=>match l with
  | [.v (.int k' x)]=>if k'=k then some x else none
  |_=>none
 |.bool,l=>match l with
  | [.v (.bool b)]=>some b
  |_=>none
 |.row o t,l=>match o,l with
  |false,[.sl c]=>Gs (ou t) c
  |_,_=>none
 |.pair a b,l=>(ou a (l.take (eP a))).bind λx=>(ou b (l.drop (eP a))).bind λy=>some (x,y)
 |.str,_=>none
 |.nat,_=>none
 |.nilr _,_=>none
def lZ:CT->Bool
 |.int _=>true
 |.bool=>true
 |.row o t=>!o&&lZ t
 |.pair a b=>lZ a&&lZ b
 |_=>false
theorem Cp{α:Type}{f:List TV->Option α}{e:α->List TV}(h:∀{c x},f c=some x->c=e x):∀{c:List (List TV)}{xs:List α},Gs f c=some xs->c=xs.map e
 | [],xs,g=>by
  simp only[Gs,oSJ]at g;subst g;rfl
 |c::r,xs,g=>by
  simp only[Gs]at g;obtain⟨x,h1,g⟩:=Option.bind_eq_some_iff.1 g;obtain⟨y,h2,g⟩:=Option.bind_eq_some_iff.1 g
  injection g with g
  subst g;rw[h h1,Cp h h2];rfl
theorem yh{α:Type}{f:List TV->Option α}{e:α->List TV}(h:∀x,f (e x)=some x):∀xs:List α,Gs f (xs.map e)=some xs
 | []=>rfl
 |x::r=>by simp only[List.map_cons,Gs,h,yh h r,oBS]
theorem lH:∀(t:CT){l:List TV}{x:den t},ou t l=some x->l=enc t x:=by
 intro t
 induction t with
 |int k=>
  intro l x h;simp only[ou]at h;split at h
  ·split at h
   ·rename_i e
    injection h with h
    subst h e;rfl
   ·cases h
  ·cases h
 |bool=>
  intro l x h;simp only[ou]at h;split at h
  ·injection h with h
   subst h;rfl
  ·cases h
 |str=>intro l x h;simp[ou]at h
 |nat=>intro l x h;simp[ou]at h
 |nilr o=>intro l x h;simp[ou]at h
 |row o t ih=>
  intro l x h;simp only[ou]at h;split at h
  ·have e:=Cp (e:=enc t) (λg=>ih g) h;subst e;rfl
  ·cases h
 |pair a b Ze Zb=>
  intro l x h;simp only[ou]at h;obtain⟨y,h1,h⟩:=Option.bind_eq_some_iff.1 h;obtain⟨z,h2,h⟩:=Option.bind_eq_some_iff.1 h
  injection h with h
  subst h;simp only[enc];rw[<- Ze h1,<- Zb h2,List.take_append_drop]
theorem sW:∀(t:CT),lZ t=true->∀x:den t,ou t (enc t x)=some x:=by
 intro t
 induction t with
 |int k=>intro _ x;simp[ou,enc]
 |bool=>intro _ x;simp[ou,enc]
 |str=>intro h;simp[lZ]at h
 |nat=>intro h;simp[lZ]at h
 |nilr o=>intro h;simp[lZ]at h
 |row o t ih=>
  intro hp x;simp only[lZ,oBA,Bool.not_eq_true']at hp;obtain⟨rfl,hp⟩:=hp;exact yh (ih hp) x
 |pair a b Ze Zb=>
  intro hp x;simp only[lZ,oBA]at hp;obtain⟨x1,x2⟩:=x
  have e1:(enc a x1++enc b x2).take (eP a)=enc a x1:=by rw[List.take_append_of_le_length (by rw[b8];exact Nat.le_refl _),List.take_of_length_le (by rw[b8];exact Nat.le_refl _)]
  have e2:(enc a x1++enc b x2).drop (eP a)=enc b x2:=by rw[<- b8 a x1];exact List.drop_left
  simp only[ou,enc];rw[e1,e2,Ze hp.1,Zb hp.2];rfl
abbrev sRg:CT:=.row false (.row false cCn)
abbrev sTs:CT:=.row false cVw
def AZ(C':List (List Cn4))(T':List Vw8)(err:Int):oQ:=⟨[.sl (C'.map (enc cCs)),.sl (T'.map (enc cVw)),.v (.int .i64 err)],[.agg 2,.one]⟩
def H7(vals:List TV):Option oQ:=match vals with
 | [.agg [C,T],.agg l]=>(ou sRg [C]).bind λC=>(ou sTs [T]).bind λT=>(ou cPg l).bind λp=>(bN C T p.1 p.2.1 p.2.2.1 p.2.2.2.1 p.2.2.2.2.1 p.2.2.2.2.2.1 p.2.2.2.2.2.2.1 p.2.2.2.2.2.2.2.1 p.2.2.2.2.2.2.2.2.1 p.2.2.2.2.2.2.2.2.2.1 p.2.2.2.2.2.2.2.2.2.2).bind λ(C',T',err,_)=>some (AZ C' T' err)
 |_=>none
def H6(vals:List TV):Option oQ:=match vals with
 | [.agg l]=>(ou cPg l).bind λp=>(ef p.1 p.2.1 p.2.2.1 p.2.2.2.1 p.2.2.2.2.1 p.2.2.2.2.2.1 p.2.2.2.2.2.2.1 p.2.2.2.2.2.2.2.1 p.2.2.2.2.2.2.2.2.1 p.2.2.2.2.2.2.2.2.2.1 p.2.2.2.2.2.2.2.2.2.2).bind λ(bs,_)=>some ⟨[.sl (bs.map (enc (.int .u8)))],[.one]⟩
 |_=>none
def Cc(f:FuncId)(vals:List TV):Option oQ:=if f=54 then H7 vals else if f=74 then H6 vals else none
theorem uW:fC Tryz.prog 74:=gU Tryz.func74 (by kernel_rfl) rfl
theorem yO:fC Tryz.prog 54:=gU Tryz.func54 (by kernel_rfl) rfl
theorem D3:∀f vals r,Cc f vals=some r->fC Tryz.prog f/\vc Tryz.prog f vals r:=by
 intro f vals r h;unfold Cc at h;split at h
 case isFalse=>
  split at h
  case isFalse=>cases h
  rename_i e;subst e;refine⟨uW,?_⟩;unfold H6 at h;split at h
  case h_2=>cases h
  rename_i l;obtain⟨p,h3,h⟩:=Option.bind_eq_some_iff.1 h;obtain⟨⟨bs,u⟩,h4,h⟩:=Option.bind_eq_some_iff.1 h
  injection h with h
  subst h;have e3:=lH _ h3;subst e3;exact CD p bs h4
 rename_i e;subst e;refine⟨yO,?_⟩;unfold H7 at h;split at h
 case h_2=>cases h
 rename_i C T l;obtain⟨C,h1,h⟩:=Option.bind_eq_some_iff.1 h;obtain⟨T,h2,h⟩:=Option.bind_eq_some_iff.1 h;obtain⟨p,h3,h⟩:=Option.bind_eq_some_iff.1 h;obtain⟨⟨C',T',err,u⟩,h4,h⟩:=Option.bind_eq_some_iff.1 h
 injection h with h
 subst h;have e1:=lH _ h1;have e2:=lH _ h2;have e3:=lH _ h3;simp only[enc,List.cons.injEq,and_true]at e1 e2;subst e1 e2 e3;exact FP h4
def qq:bV:=vQ Cc
theorem oG:ct Tryz.prog qq:=F6 D3
theorem Cb{C:List (List Cn4)}{T:List Vw8}{p:Ff}{C':List (List Cn4)}{T':List Vw8}{err:Int}(h:bN C T p.1 p.2.1 p.2.2.1 p.2.2.2.1 p.2.2.2.2.1 p.2.2.2.2.2.1 p.2.2.2.2.2.2.1 p.2.2.2.2.2.2.2.1 p.2.2.2.2.2.2.2.2.1 p.2.2.2.2.2.2.2.2.2.1 p.2.2.2.2.2.2.2.2.2.2=some (C',T',err,())):
 Cc 54 [.agg [.sl (C.map (enc cCs)),.sl (T.map (enc cVw))],.agg (enc cPg p)]=some (AZ C' T' err):=by
 unfold Cc;rw[oIP rfl];show(ou sRg (enc sRg C)).bind _=_;rw[sW sRg rfl];show(ou sTs (enc sTs T)).bind _=_;rw[sW sTs rfl];show(ou cPg (enc cPg p)).bind _=_;rw[sW cPg rfl];show(bN C T p.1 p.2.1 p.2.2.1 p.2.2.2.1 p.2.2.2.2.1 p.2.2.2.2.2.1 p.2.2.2.2.2.2.1 p.2.2.2.2.2.2.2.1 p.2.2.2.2.2.2.2.2.1 p.2.2.2.2.2.2.2.2.2.1 p.2.2.2.2.2.2.2.2.2.2).bind _=_;rw[h];rfl
def HC(f i:Nat):List (Nat×Option Nat):=if f=99 then(if i=1000007 then[(0,some 4)]else[])
 else if f=100 then(if i=4000010 then[(8,some 2)]else[])
 else if f=75 then(if i=3000006 then[(8,none)]else[])
 else if f=26 then(if i=3000005 then[(10,none)]else[])
 else if f=38 then(if i=3000010 then[(11,none)]else if i=3000008 then[(15,some 2),(15,some 10)]else[])
 else[]
noncomputable def TC (f:FuncId):Option TFn:=kg Tryz.prog (HC f) f
noncomputable def EC:Env:=⟨λ_=>none,λf=>IL Tryz.prog f⟩
theorem Hj:tz Tryz.prog TC:=vn HC (by kernel_rfl)
theorem Gq:wY Tryz.prog EC:=λf n tm h=>by simp[EC]at h
noncomputable def TD (f:FuncId):Option TFn:=if f=54\/f=74\/f=38 then none else TC f
theorem IH:tz Tryz.prog TD:=λf tf h=>Hj f tf (by
 unfold TD at h;split at h
 ·cases h
 ·exact h)
noncomputable def TE (f:FuncId):Option TFn:=if f=54\/f=74 then none else TC f
theorem Hi:tz Tryz.prog TE:=λf tf h=>Hj f tf (by
 unfold TE at h;split at h
 ·cases h
 ·exact h)
abbrev St2:Type:=List (List Cn4)×List Vw8
abbrev cS2:CT:=.pair sRg sTs
abbrev z4:Cn4:=(0,0,0,0)
def stL:List St2:=[([[z4,z4,z4,z4,z4,z4,z4,z4,z4]],[]),([[z4,z4,z4,z4,z4,z4,z4,z4,(0,3,0,0)]],[]),([[z4,z4,z4,z4,z4,z4,z4,z4,z4]],[])]
def agV(l:List St2)(b:List Bool)(d:Int×Int):List TV:=[.sl (l.map (enc cS2)),.sl (b.map (enc .bool)),.agg (enc (.pair I64 I64) d),.v (.int .i64 2)]
def agR(i:Int)(cs:List Cn4)(l:List Int):oQ:=⟨enc cPg (0,i,cs,0,0,0,0,0,0,0,[])++[.sl (l.map (enc I64)),.v (.int .i64 0)],[.agg 11,.one,.one]⟩
theorem ag0:runF EC TE qq 100000 38 (agV stL [true,true,true] (0,0)) []=some (agR 0 [z4,z4,z4,z4,z4,z4,z4,z4] [],[]):=by kernel_rfl
theorem ag1:runF EC TE qq 100000 38 (agV stL [true,true,true] (0,1)) []=some (agR 1 [z4] [1],[]):=by kernel_rfl
def eqS(a b:St2):Bool:=a.1==b.1&&a.2.isEmpty&&b.2.isEmpty
def eqL:List St2->List St2->Bool
 | [],[]=>true
 |a::l,b::k=>eqS a b&&eqL l k
 |_,_=>false
theorem E4:∀{l k:List St2},eqL l k=true->l=k
 | [],[],_=>rfl
 |a::l,b::k,h=>by
  simp only[eqL,eqS,oBA,beq_iff_eq,List.isEmpty_iff]at h;obtain⟨⟨⟨h1,h2⟩,h3⟩,h4⟩:=h;rw[E4 h4,show a=b from Prod.ext h1 (h2.trans h3.symm)]
def Gk(f:FuncId)(vals:List TV)(pts:Pts):Option (oQ×Pts):=if f=38 then(match vals,pts with
 | [L,I,.agg d,.v (.int .i64 2)],[]=>(ou (.row false cS2) [L]).bind λl=>(ou (.row false .bool) [I]).bind λb=>(ou (.pair I64 I64) d).bind λp=>
  if eqL l stL=true/\b=[true,true,true]then(if p=(0,0)then some (agR 0 [z4,z4,z4,z4,z4,z4,z4,z4] [],[])else if p=(0,1)then some (agR 1 [z4] [1],[])else none)else none
 |_,_=>none)else none
theorem D2:ct Tryz.prog Gk:=by
 intro f vals pts res ZC h;unfold Gk at h;split at h
 case isFalse=>cases h
 rename_i e;subst e;split at h
 case h_2=>cases h
 rename_i L I d;obtain⟨l,h1,hA⟩:=Option.bind_eq_some_iff.1 h;obtain⟨b,h2,hB⟩:=Option.bind_eq_some_iff.1 hA;obtain⟨p,h3,hC⟩:=Option.bind_eq_some_iff.1 hB;clear h hA hB;have e1:=lH _ h1;have e2:=lH _ h2;have e3:=lH _ h3;simp only[enc,List.cons.injEq,and_true]at e1 e2;subst e1 e2 e3;split at hC
 case isFalse=>cases hC
 rename_i g;obtain⟨g1,g2⟩:=g;have g1:=E4 g1;subst g1 g2;split at hC
 ·rename_i g;subst g
  injection hC with hC
  injection hC with Uz RU
  subst Uz RU;exact runF_ok Hi Gq oG 100000 _ _ _ _ _ ag0
 ·split at hC
  ·rename_i g;subst g
   injection hC with hC
   injection hC with Uz RU
   subst Uz RU;exact runF_ok Hi Gq oG 100000 _ _ _ _ _ ag1
  ·cases hC
def F7:bV:=λf vals pts=>match qq f vals pts with
 |some r=>some r
 |none=>Gk f vals pts
theorem DU:ct Tryz.prog F7:=by
 intro f vals pts res ZC h;unfold F7 at h;split at h
 ·rename_i r hr
  injection h with h
  subst h;exact oG f vals pts _ _ hr
 ·exact D2 f vals pts _ _ h
theorem IS:runF EC TD F7 100000 7 [] []=some (⟨[.v (.bool true)],[.one]⟩,[]):=by kernel_rfl
def libBj:bV:=λf vals pts=>match qq f vals pts with
 |some r=>some r
 |none=>match vals,pts with
  | [],[]=>if f=7 then some (⟨[.v (.bool true)],[.one]⟩,[])else none
  |_,_=>GV f vals pts
theorem libBj_ok:ct Tryz.prog libBj:=by
 intro f vals pts res ZC h;unfold libBj at h;split at h
 ·rename_i r hr
  injection h with h
  subst h;exact oG f vals pts _ _ hr
 ·split at h
  ·split at h
   ·rename_i e
    injection h with h
    injection h with h1 h2
    subst h1 h2 e;exact runF_ok IH Gq DU 100000 _ [] [] _ _ IS
   ·cases h
  ·exact F9 f vals pts _ _ h
def bU:Option (Bool×Unit):=some (true,())
theorem oe{id:Nat}:i7 libBj ⟨7,id,[],[],[⟨[shU .bool],[.one],[]⟩],λh=>bU⟩:=by
 intro h o x ho hx
 injection ho with ho
 subst ho;cases hx;show libBj 7 [] []=_;rfl
set_option maxHeartbeats 4000000 in
set_option maxRecDepth 100000 in
def uU(id:Nat):Ctr:=⟨54,id,[.agg [shU sRg,shU sTs],.agg [shU I64,shU I64,shU (.row false cCn),shU I64,shU I64,shU I64,shU I64,shU I64,shU I64,shU (.int .u16),shU (.row false cCn)]],[],[⟨[shU sRg,shU sTs,shU I64],[.agg 2,.one],[]⟩],
 λh=>bN h.1 h.2.1 h.2.2.1 h.2.2.2.1 h.2.2.2.2.1 h.2.2.2.2.2.1 h.2.2.2.2.2.2.1 h.2.2.2.2.2.2.2.1 h.2.2.2.2.2.2.2.2.1 h.2.2.2.2.2.2.2.2.2.1 h.2.2.2.2.2.2.2.2.2.2.1 h.2.2.2.2.2.2.2.2.2.2.2.1 h.2.2.2.2.2.2.2.2.2.2.2.2.1⟩
set_option maxHeartbeats 4000000 in
set_option maxRecDepth 100000 in
theorem qp{id:Nat}:i7 libBj (uU id):=by
 rintro⟨C,T,a0,a1,cells,v0,v1,v2,v3,v4,v5,v6,L,h⟩ ⟨C',T',err,u⟩ x ho hx;have ho:bN C T a0 a1 cells v0 v1 v2 v3 v4 v5 v6 L=some (C',T',err,()):=ho;cases hx;show libBj 54 [.agg [.sl (C.map (enc cCs)),.sl (T.map (enc cVw))],.agg (enc cPg (a0,a1,cells,v0,v1,v2,v3,v4,v5,v6,L))] []=some (AZ C' T' err,[]);unfold libBj qq vQ;rw[oIP (by rfl),Cb (p:=(a0,a1,cells,v0,v1,v2,v3,v4,v5,v6,L)) ho];rfl
theorem iU{id:Nat}:i7 libBj ⟨85,id,[.fn 86 [],shU (.row false (.pair (.int .i64) (.int .i64)))],[],[⟨[shU (.row false (.pair (.int .i64) (.int .i64)))],[.one],[]⟩],λh=>co h.1⟩:=by
 intro a o x ho hx;have h:=ji (id:=id) a o x ho hx
 have e:∀vals pts,vals≠[]->libBj 85 vals pts=GV 85 vals pts:=λvals pts hv=>by
  have e1:qq 85 vals pts=none:=by
   unfold qq vQ;split
   ·split
    ·rfl
    ·rfl
   ·rfl
  unfold libBj;rw[e1]
  match vals,hv with
  |_::_,_=>rfl
 exact(e _ _ (by cases hx;exact List.cons_ne_nil _ _)).trans h
theorem iz{id:Nat}:i7 libBj ⟨87,id,[shU (.row false (.row false (.pair (.int .i64) (.int .i64))))],[],[⟨[shU (.row false (.pair (.int .i64) (.int .i64)))],[.one],[]⟩],λh=>ca h.1⟩:=by
 intro a o x ho hx;have h:=iV (id:=id) a o x ho hx
 have e:∀vals pts,vals≠[]->libBj 87 vals pts=GV 87 vals pts:=λvals pts hv=>by
  have e1:qq 87 vals pts=none:=by
   unfold qq vQ;split
   ·split
    ·rfl
    ·rfl
   ·rfl
  unfold libBj;rw[e1]
  match vals,hv with
  |_::_,_=>rfl
 exact(e _ _ (by cases hx;exact List.cons_ne_nil _ _)).trans h
end Go.Proofs.YtakfoejcjdcgbaaGreat
