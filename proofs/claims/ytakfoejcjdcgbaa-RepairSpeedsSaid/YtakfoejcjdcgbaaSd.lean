/- Part of the proof; no condition. -/
import Derived.Test.YtakfoejcjdcgbaaSc
import Derived.Laws.AppendOwnNone
import Derived.Deep.DeepAppendRoom
import Derived.ArgAppend
import Derived.Orders
import Derived.Deep.RegionWith
import Derived.Outline
import Derived.Deep.DeepCutAuto
import Derived.RegionTactic
import Derived.BigRegion
import Derived.StillTailTactics
import Derived.Test.YtakfoejcjdcgbaaProg
import Derived.KernelRfl
import Derived.WalkKit
import Derived.WalkSpells
import Derived.Handy
import Derived.OpenShut
set_option linter.unusedVariables false
set_option linter.unusedSimpArgs false
namespace Go.Proofs.Ytakfoejcjdcgbaa
open Go.RowKit
structure Rp (α:Type) where
 size:Nat
 rep:World->(Nat->Prop)->α->List Value->Prop
 own:World->List Nat->α->List Value->Prop
 pos:0<size
 len:∀{w F a cs},rep w F a cs->cs.length=size
 one:∀{w F a cs},rep w F a cs->∀v∈cs,v.oneCell'=true
 keep:∀{w w' F a cs},rep w F a cs->fN F w w'->rep w' F a cs
 sub:∀{w F G a cs},rep w F a cs->(∀k,F k->G k)->rep w G a cs
 live:∀{w F a cs},rep w F a cs->rep w (λk=>F k/\k<w.heap.size) a cs
 okeep:∀{w w' fp a cs},own w fp a cs->(∀k,k∈fp->w'.heap[k]?=w.heap[k]?)->own w' fp a cs
 olive:∀{w fp a cs},own w fp a cs->∀k,k∈fp->k<w.heap.size
 reads:∀{w fp a cs},own w fp a cs->rep w (λk=>k∈fp) a cs
def GA(k:IntKind):Rp Int where
 size:=1
 rep _ _ a cs:=cs=[.int k a]/\(Lit.int k a).wf=true
 own _ fp a cs:=fp=[]/\cs=[.int k a]/\(Lit.int k a).wf=true
 pos:=by decide
 len:=λh=>by rw[h.1];rfl
 one:=λh=>by rw[h.1];simp[Value.oneCell']
 keep:=λh _=>h
 sub:=λh _=>h
 live:=λh=>h
 okeep:=λh _=>h
 olive:=λh k hk=>by rw[h.1]at hk;simp at hk
 reads:=λh=>h.2
def kL{α β:Type}(R:Rp α)(S:Rp β):Rp (α×β) where
 size:=R.size+S.size
 rep w F p cs:=∃c d,cs=c++d/\R.rep w F p.1 c/\S.rep w F p.2 d
 own w fp p cs:=∃c d f g,cs=c++d/\fp=f++g/\R.own w f p.1 c/\S.own w g p.2 d
 pos:=by have:=R.pos;omega
 len:=λ⟨c,d,e,h1,h2⟩=>by rw[e,List.length_append,R.len h1,S.len h2]
 one:=λ⟨c,d,e,h1,h2⟩ v hv=>by
  rw[e,List.mem_append]at hv;rcases hv with hv|hv
  ·exact R.one h1 v hv
  ·exact S.one h2 v hv
 keep:=λ⟨c,d,e,h1,h2⟩ ha=>⟨c,d,e,R.keep h1 ha,S.keep h2 ha⟩
 sub:=λ⟨c,d,e,h1,h2⟩ hs=>⟨c,d,e,R.sub h1 hs,S.sub h2 hs⟩
 live:=λ⟨c,d,e,h1,h2⟩=>⟨c,d,e,R.live h1,S.live h2⟩
 okeep:=λ⟨c,d,f,g,e,e',h1,h2⟩ hk=>⟨c,d,f,g,e,e',R.okeep h1 λk h=>hk k (by rw[e'];exact List.mem_append_left _ h),S.okeep h2 λk h=>hk k (by rw[e'];exact List.mem_append_right _ h)⟩
 olive:=λ⟨c,d,f,g,e,e',h1,h2⟩ k hk=>by
  rw[e',List.mem_append]at hk;rcases hk with hk|hk
  ·exact R.olive h1 k hk
  ·exact S.olive h2 k hk
 reads:=λ⟨c,d,f,g,e,e',h1,h2⟩=>⟨c,d,e,R.sub (R.reads h1) λk h=>by rw[e'];exact List.mem_append_left _ h,S.sub (S.reads h2) λk h=>by rw[e'];exact List.mem_append_right _ h⟩
section
variable {α:Type} (R:Rp α)
def ek(w:World)(F:Nat->Prop):List α->List Value->Prop
 | [],cs=>cs=[]
 |x::r,cs=>∃c d,cs=c++d/\R.rep w F x c/\ek w F r d
def gF(w:World):List Nat->List α->List Value->Prop
 |fp,[],cs=>cs=[]/\fp=[]
 |fp,x::r,cs=>∃c d f g,cs=c++d/\fp=f++g/\R.own w f x c/\gF w g r d
variable {R}
theorem ek.len{w:World}{F:Nat->Prop}:∀{xs:List α}{cs:List Value},ek R w F xs cs->cs.length=xs.length*R.size
 | [],_,h=>by rw[show _=[]from h];simp
 |x::r,_,⟨c,d,e,h1,h2⟩=>by rw[e,List.length_append,R.len h1,ek.len h2,oLC,Nat.succ_mul,Nat.add_comm]
theorem ek.one{w:World}{F:Nat->Prop}:∀{xs:List α}{cs:List Value},ek R w F xs cs->∀v∈cs,v.oneCell'=true
 | [],_,h,v,hv=>by rw[show _=[]from h]at hv;simp at hv
 |x::r,_,⟨c,d,e,h1,h2⟩,v,hv=>by
  rw[e,List.mem_append]at hv;rcases hv with hv|hv
  ·exact R.one h1 v hv
  ·exact ek.one h2 v hv
theorem ek.keep{w w':World}{F:Nat->Prop}(ha:fN F w w'):∀{xs:List α}{cs:List Value},ek R w F xs cs->ek R w' F xs cs
 | [],_,h=>h
 |x::r,_,⟨c,d,e,h1,h2⟩=>⟨c,d,e,R.keep h1 ha,ek.keep ha h2⟩
theorem ek.sub{w:World}{F G:Nat->Prop}(hs:∀k,F k->G k):∀{xs:List α}{cs:List Value},ek R w F xs cs->ek R w G xs cs
 | [],_,h=>h
 |x::r,_,⟨c,d,e,h1,h2⟩=>⟨c,d,e,R.sub h1 hs,ek.sub hs h2⟩
theorem ek.live{w:World}{F:Nat->Prop}:∀{xs:List α}{cs:List Value},ek R w F xs cs->ek R w (λk=>F k/\k<w.heap.size) xs cs
 | [],_,h=>h
 |x::r,_,⟨c,d,e,h1,h2⟩=>⟨c,d,e,R.live h1,ek.live h2⟩
theorem ek.append{w:World}{F:Nat->Prop}:∀{xs ys:List α}{cs ds:List Value},ek R w F xs cs->ek R w F ys ds->ek R w F (xs++ys) (cs++ds)
 | [],_,_,_,h,h'=>by rw[show _=[]from h];simpa using h'
 |x::r,_,_,ds,⟨c,d,e,h1,h2⟩,h'=>⟨c,d++ds,by rw[e,List.append_assoc],h1,ek.append h2 h'⟩
theorem ek.single{w:World}{F:Nat->Prop}{x:α}{c:List Value}(h:R.rep w F x c):ek R w F [x] c:=⟨c,[],by simp,h,rfl⟩
theorem ek.at_{w:World}{F:Nat->Prop}:∀{xs:List α}{cs:List Value},ek R w F xs cs->∀{k:Nat}(hk:k<xs.length),∃c,R.rep w F xs[k] c/\∀(j:Nat) u,c[j]?=some u->cs[k*R.size+j]?=some u
 |x :: r,_,⟨c,d,e,h1,h2⟩,0,_=>⟨c,h1,λj u hj=>by
    have hlt:j<c.length:=(oGS hj).1
    rw[e,Nat.zero_mul,Nat.zero_add,List.getElem?_append_left hlt];exact hj⟩
 |x::r,_,⟨c,d,e,h1,h2⟩,k+1,hk=>by
  obtain⟨c',h3,h4⟩:=ek.at_ h2 (k:=k) (by simpa using hk);refine⟨c',h3,λj u hj=>?_⟩;rw[e,List.getElem?_append_right (by rw[R.len h1,Nat.succ_mul];omega),R.len h1,show(k+1)*R.size+j-R.size=k*R.size+j by rw[Nat.succ_mul];omega];exact h4 j u hj
theorem ek.take{w:World}{F:Nat->Prop}:∀{xs:List α}{cs:List Value},ek R w F xs cs->∀(n:Nat),ek R w F (xs.take n) (cs.take (n*R.size))
 | [],_,h,n=>by rw[show _=[]from h];simp[ek]
 |x::r,_,_,0=>by simp[ek]
 |x::r,_,⟨c,d,e,h1,h2⟩,n+1=>by
  refine⟨c,d.take (n*R.size),?_,h1,ek.take h2 n⟩;rw[e,List.take_append,List.take_of_length_le (by rw[R.len h1,Nat.succ_mul];omega),R.len h1,show(n+1)*R.size-R.size=n*R.size by rw[Nat.succ_mul];omega]
theorem ek.drop{w:World}{F:Nat->Prop}:∀{xs:List α}{cs:List Value},ek R w F xs cs->∀(n:Nat),ek R w F (xs.drop n) (cs.drop (n*R.size))
 | [],_,h,n=>by rw[show _=[]from h];simp[ek]
 |x::r,_,h,0=>by simpa using h
 |x::r,_,⟨c,d,e,h1,h2⟩,n+1=>by
  have e0:c.drop ((n+1)*R.size)=[]:=List.drop_of_length_le (by rw[R.len h1,Nat.succ_mul];omega);rw[e,List.drop_append,e0,R.len h1,show(n+1)*R.size-R.size=n*R.size by rw[Nat.succ_mul];omega];simpa using ek.drop h2 n
theorem gF.keep{w w':World}:∀{xs:List α}{fp:List Nat}{cs:List Value},gF R w fp xs cs->(∀k,k∈fp->w'.heap[k]?=w.heap[k]?)->gF R w' fp xs cs
 | [],_,_,h,_=>h
 |x::r,_,_,⟨c,d,f,g,e,e',h1,h2⟩,hk=>⟨c,d,f,g,e,e',R.okeep h1 λk h=>hk k (by rw[e'];exact List.mem_append_left _ h),gF.keep h2 λk h=>hk k (by rw[e'];exact List.mem_append_right _ h)⟩
theorem gF.live{w:World}:∀{xs:List α}{fp:List Nat}{cs:List Value},gF R w fp xs cs->∀k,k∈fp->k<w.heap.size
 | [],_,_,h,k,hk=>by rw[h.2]at hk;simp at hk
 |x::r,_,_,⟨c,d,f,g,e,e',h1,h2⟩,k,hk=>by
  rw[e',List.mem_append]at hk;rcases hk with hk|hk
  ·exact R.olive h1 k hk
  ·exact gF.live h2 k hk
theorem gF.reads{w:World}:∀{xs:List α}{fp:List Nat}{cs:List Value},gF R w fp xs cs->ek R w (λk=>k∈fp) xs cs
 | [],_,_,h=>h.1
 |x::r,_,_,⟨c,d,f,g,e,e',h1,h2⟩=>⟨c,d,e,R.sub (R.reads h1) λk h=>by rw[e'];exact List.mem_append_left _ h,ek.sub (λk h=>by rw[e'];exact List.mem_append_right _ h) (gF.reads h2)⟩
theorem gF.append{w:World}:∀{xs ys:List α}{fp gp:List Nat}{cs ds:List Value},gF R w fp xs cs->gF R w gp ys ds->gF R w (fp++gp) (xs++ys) (cs++ds)
 | [],_,_,_,_,_,h,h'=>by obtain⟨rfl,rfl⟩:=h;simpa using h'
 |x::r,_,_,gp,_,ds,⟨c,d,f,g,e,e',h1,h2⟩,h'=>⟨c,d++ds,f,g++gp,by rw[e,List.append_assoc],by rw[e',List.append_assoc],h1,gF.append h2 h'⟩
theorem gF.single{w:World}{fp:List Nat}{x:α}{c:List Value}(h:R.own w fp x c):gF R w fp [x] c:=⟨c,[],fp,[],by simp,by simp,h,rfl,rfl⟩
theorem gF.len{w:World}{xs:List α}{fp:List Nat}{cs:List Value}(h:gF R w fp xs cs):cs.length=xs.length*R.size:=(gF.reads h).len
theorem gF.split{w:World}:∀{xs:List α}{fp:List Nat}{cs:List Value},gF R w fp xs cs->∀{k:Nat}(hk:k<xs.length),
 ∃f1 f f2 c1 c c2,fp=f1++f++f2/\cs=c1++c++c2/\c1.length=k*R.size/\gF R w f1 (xs.take k) c1/\R.own w f xs[k] c/\gF R w f2 (xs.drop (k+1)) c2
 |x::r,_,_,⟨c,d,f,g,e,e',h1,h2⟩,0,_=>⟨[],f,g,[],c,d,by simpa using e',by simpa using e,by simp,⟨rfl,rfl⟩,h1,h2⟩
 |x::r,_,_,⟨c,d,f,g,e,e',h1,h2⟩,k+1,hk=>by
  obtain⟨f1,f',f2,c1,c',c2,e1,e2,e3,h3,h4,h5⟩:=gF.split h2 (k:=k) (by simpa using hk);exact⟨f++f1,f',f2,c++c1,c',c2,by rw[e',e1];simp,by rw[e,e2];simp,by rw[List.length_append,e3,R.len (R.reads h1),Nat.succ_mul,Nat.add_comm],⟨c,c1,f,f1,rfl,rfl,h1,h3⟩,h4,h5⟩
theorem gF.join{w:World}{xs:List α}{k:Nat}(hk:k<xs.length){f1 f f2:List Nat}{c1 c c2:List Value}{y:α}(h1:gF R w f1 (xs.take k) c1)(h:R.own w f y c)(h2:gF R w f2 (xs.drop (k+1)) c2):
 gF R w (f1++f++f2) (xs.set k y) (c1++c++c2):=by
 rw[List.set_eq_take_append_cons_drop,oIP hk,List.append_assoc,List.append_assoc];exact gF.append h1 ⟨c,c2,f,f2,rfl,rfl,h,h2⟩
variable (R)
def RSl(w:World)(F:Nat->Prop)(xs:List α)(v:Value):Prop:=
 ∃A c cs,v=.slice A xs.length c/\xs.length<=c/\c<=9223372036854775807/\xs.length<=1099511627776/\(A=none->c=0)/\Row w F A cs/\ek R w F xs cs
def OSl(e:TypeId)(w:World)(fp:List Nat)(xs:List α)(v:Value):Prop:=
 xs.length<=1099511627776/\((v=.slice none 0 0/\xs=[]/\fp=[])\/
  ∃q c cs g,v=.slice (some ⟨q,0,none⟩) xs.length c/\fp=q::g/\xs.length<=c/\c<=9223372036854775807/\i9 e w q (c*R.size) cs/\gF R w g xs cs)
variable {R}
theorem RSl.keep{w w':World}{F:Nat->Prop}{xs:List α}{v:Value}(h:RSl R w F xs v)(ha:fN F w w'):RSl R w' F xs v:=
 let ⟨A,c,cs,e,h1,h2,h3,h4,h5,h6⟩:=h;⟨A,c,cs,e,h1,h2,h3,h4,h5.keep ha,h6.keep ha⟩
theorem RSl.sub{w:World}{F G:Nat->Prop}{xs:List α}{v:Value}(h:RSl R w F xs v)(hs:∀k,F k->G k):RSl R w G xs v:=
 let ⟨A,c,cs,e,h1,h2,h3,h4,h5,h6⟩:=h;⟨A,c,cs,e,h1,h2,h3,h4,h5.sub hs,h6.sub hs⟩
theorem RSl.live{w:World}{F:Nat->Prop}{xs:List α}{v:Value}(h:RSl R w F xs v):RSl R w (λk=>F k/\k<w.heap.size) xs v:=
 let ⟨A,c,cs,e,h1,h2,h3,h4,h5,h6⟩:=h;⟨A,c,cs,e,h1,h2,h3,h4,λi hi=>by
  obtain⟨b,off,e,hF,hc⟩:=h5 i hi
  exact⟨b,off,e,⟨hF,World.block_lt_of_cell? w _ hc⟩,hc⟩,h6.live⟩
theorem i9.row'{e:TypeId}{w:World}{q n:Nat}{vs:List Value}(h:i9 e w q n vs):Row w (λk=>k=q) (some ⟨q,0,none⟩) vs:=by
 intro i hi;exact⟨q,0,rfl,rfl,by rw[Nat.zero_add,h.cell hi]⟩
theorem OSl.keep{e:TypeId}{w w':World}{fp:List Nat}{xs:List α}{v:Value}(h:OSl R e w fp xs v)(hk:∀k,k∈fp->w'.heap[k]?=w.heap[k]?):OSl R e w' fp xs v:=by
 obtain⟨hb,h|⟨q,c,cs,g,e1,e2,h1,h2,h3,h4⟩⟩:=h
 ·exact⟨hb,.inl h⟩
 ·exact⟨hb,.inr ⟨q,c,cs,g,e1,e2,h1,h2,h3.keep (hk q (by rw[e2];simp)),h4.keep λk h=>hk k (by rw[e2];simp[h])⟩⟩
theorem OSl.live{e:TypeId}{w:World}{fp:List Nat}{xs:List α}{v:Value}(h:OSl R e w fp xs v):∀k,k∈fp->k<w.heap.size:=by
 obtain⟨hb,⟨_,_,rfl⟩|⟨q,c,cs,g,e1,rfl,h1,h2,h3,h4⟩⟩:=h
 ·simp
 ·intro k hk;rcases List.mem_cons.1 hk with rfl|hk
  ·exact h3.hi
  ·exact h4.live k hk
theorem OSl.reads{e:TypeId}{w:World}{fp:List Nat}{xs:List α}{v:Value}(h:OSl R e w fp xs v):RSl R w (λk=>k∈fp) xs v:=by
 obtain⟨hb,⟨rfl,rfl,rfl⟩|⟨q,c,cs,g,rfl,rfl,h1,h2,h3,h4⟩⟩:=h
 ·exact⟨none,0,[],rfl,Nat.le_refl _,by omega,hb,λ_=>rfl,Row.nil _ _ _,rfl⟩
 ·exact⟨_,c,cs,rfl,h1,h2,hb,λh=>by simp at h,h3.row'.sub λk hk=>by simp[hk],h4.reads.sub λk hk=>by simp[hk]⟩
end
def EX{α:Type}(e:TypeId)(R:Rp α):Rp (List α) where
 size:=1
 rep w F xs cs:=∃v,cs=[v]/\RSl R w F xs v
 own w fp xs cs:=∃v,cs=[v]/\OSl R e w fp xs v
 pos:=by decide
 len:=λ⟨v,e,_⟩=>by rw[e];rfl
 one:=λ⟨v,e,A,c,cs,e2,_⟩=>by rw[e,e2];simp[Value.oneCell']
 keep:=λ⟨v,e,h⟩ ha=>⟨v,e,h.keep ha⟩
 sub:=λ⟨v,e,h⟩ hs=>⟨v,e,h.sub hs⟩
 live:=λ⟨v,e,h⟩=>⟨v,e,h.live⟩
 okeep:=λ⟨v,e,h⟩ hk=>⟨v,e,h.keep hk⟩
 olive:=λ⟨v,e,h⟩=>h.live
 reads:=λ⟨v,e,h⟩=>⟨v,e,h.reads⟩
section
variable {α:Type} {R:Rp α}
def Ep(F:Nat->Prop)(w:World):Prop:=∀k,w.heap.size<=k->F k
theorem Ep.grow{F:Nat->Prop}{w w':World}(h:Ep F w)(hg:w.heap.size<=w'.heap.size):Ep F w':=λk hk=>h k (Nat.le_trans hg hk)
theorem RSl.grow{w w':World}{F:Nat->Prop}{xs:List α}{v:Value}(h:RSl R w F xs v)(hg:w.grownBy w' none):RSl R w' F xs v:=
 (h.live.keep (w':=w') λk hk=>hg.block k hk.2 (by simp)).sub λk hk=>hk.1
theorem Rp.grow(R:Rp α){w w':World}{F:Nat->Prop}{x:α}{cs:List Value}(h:R.rep w F x cs)(hg:w.grownBy w' none):R.rep w' F x cs:=
 R.sub (R.keep (R.live h) (w':=w') λk hk=>hg.block k hk.2 (by simp)) λk hk=>hk.1
theorem gF.grow{w w':World}{fp:List Nat}{xs:List α}{cs:List Value}(h:gF R w fp xs cs)(hg:w.grownBy w' none):gF R w' fp xs cs:=h.keep λk hk=>hg.block k (h.live k hk) (by simp)
theorem ek.grow{w w':World}{F:Nat->Prop}{xs:List α}{cs:List Value}(h:ek R w F xs cs)(hg:w.grownBy w' none):ek R w' F xs cs:=
 (ek.keep (w':=w') (λk hk=>hg.block k hk.2 (by simp)) h.live).sub λk hk=>hk.1
theorem OSl.grow{e:TypeId}{w w':World}{fp:List Nat}{xs:List α}{v:Value}(h:OSl R e w fp xs v)(hg:w.grownBy w' none):OSl R e w' fp xs v:=h.keep λk hk=>hg.block k (h.live k hk) (by simp)
theorem RSl.nil(w:World)(F:Nat->Prop):RSl R w F [] (.slice none 0 0):=⟨none,0,[],rfl,Nat.le_refl _,by omega,by simp,λ_=>rfl,Row.nil _ _ _,rfl⟩
theorem RSl.at_{w:World}{F:Nat->Prop}{xs:List α}{v:Value}(h:RSl R w F xs v){k:Nat}(hk:k<xs.length):
 ∃b off c cs,v=.slice (some ⟨b,off,none⟩) xs.length c/\xs.length<=c/\c<=9223372036854775807/\F b/\R.rep w F xs[k] cs/\∀(j:Nat) u,cs[j]?=some u->w.cell? ⟨b,off+(k*R.size+j),none⟩=some u:=by
 obtain⟨A,c,cs,rfl,h1,h2,h3,h4,h5,h6⟩:=h;obtain⟨d,hd,hj⟩:=h6.at_ hk;have SI:=R.len hd;have hp:=R.pos;have h0:d[0]?=some d[0]:=oGE (by omega);have h7:=hj 0 _ h0;obtain⟨h8,_⟩:=oGS h7;obtain⟨b,off,rfl,hF,_⟩:=h5 _ h8;refine⟨b,off,c,d,rfl,h1,h2,hF,hd,λj u hu=>?_⟩;obtain⟨h9,ZM⟩:=oGS (hj j u hu);obtain⟨b',VC,e,_,hc⟩:=h5 _ h9
 injection e with e;injection e with e1 e2;subst e1;subst e2
 rw[hc,ZM]
theorem RSl.size_eq{w:World}{F:Nat->Prop}{xs:List α}{v:Value}(h:RSl R w F xs v):
 ∃A c,v=.slice A xs.length c/\xs.length<=c/\c<=9223372036854775807/\xs.length<=1099511627776:=
 let ⟨A,c,_,e,h1,h2,h3,_⟩:=h;⟨A,c,e,h1,h2,h3⟩
theorem RSl.cells{w:World}{F:Nat->Prop}{xs:List α}{v:Value}(h:RSl R w F xs v):
 (xs=[]/\∃A c,v=.slice A 0 c/\(A=none->c=0))\/∃ad c cs,v=.slice (some ad) xs.length c/\cs.length=xs.length*R.size/\(∀(j:Nat) u,cs[j]?=some u->w.cell? (ad.add j)=some u)/\ek R w F xs cs:=by
 obtain⟨A,c,cs,rfl,h1,h2,h3,h4,h5,h6⟩:=h;by_cases hx:xs=[]
 ·subst hx;exact .inl ⟨rfl,A,c,rfl,h4⟩
 ·refine .inr ?_;have hl:=h6.len;have hp:0<xs.length*R.size:=Nat.mul_pos (List.length_pos_iff.2 hx) R.pos;obtain⟨b,off,rfl,_,_⟩:=h5 0 (by omega);refine⟨_,c,cs,rfl,hl,λj u hu=>?_,h6⟩;obtain⟨h9,ZM⟩:=oGS hu;obtain⟨b',VC,e,_,hc⟩:=h5 _ h9
  injection e with e;injection e with e1 e2;subst e1;subst e2
  rw[show(⟨b,off,none⟩:Addr).add j=⟨b,off+j,none⟩ by simp[Addr.add],hc,ZM]
def Mk(R:Rp α)(e:TypeId)(base:Nat)(w:World)(G:Nat->Prop)(v:Value)(xs:List α):Prop:=
 ∃cs,w.ownsRow base e R.size v xs.length cs/\xs.length<=1099511627776/\ek R w (λk=>G k/\some k≠v.ownBlock) xs cs
def MkO(R:Rp α)(e:TypeId)(base:Nat)(w:World)(fp:List Nat)(v:Value)(xs:List α):Prop:=
 ∃cs,w.ownsRow base e R.size v xs.length cs/\xs.length<=1099511627776/\gF R w fp xs cs/\fp.Nodup/\∀k,k∈fp->base<=k/\some k≠v.ownBlock
theorem Mk.nil(R:Rp α)(e:TypeId)(base:Nat)(w:World)(G:Nat->Prop):Mk R e base w G (.slice none 0 0) []:=⟨[],World.ownsRow_nil _ _ _ _,by simp,rfl⟩
theorem MkO.nil(R:Rp α)(e:TypeId)(base:Nat)(w:World):MkO R e base w [] (.slice none 0 0) []:=⟨[],World.ownsRow_nil _ _ _ _,by simp,⟨rfl,rfl⟩,List.nodup_nil,by simp⟩
theorem Mk.grow{e:TypeId}{base:Nat}{w w':World}{G:Nat->Prop}{v:Value}{xs:List α}(h:Mk R e base w G v xs)(hg:w.grownBy w' none):Mk R e base w' G v xs:=by
 obtain⟨cs,h1,h2,h3⟩:=h;refine⟨cs,h1.kept hg ?_,h2,(ek.keep (w':=w') (λk hk=>hg.block k hk.2 (by simp)) h3.live).sub λk hk=>hk.1⟩;cases hv:v.ownBlock
 ·exact .inl rfl
 ·exact .inr (by simp)
theorem MkO.grow{e:TypeId}{base:Nat}{w w':World}{fp:List Nat}{v:Value}{xs:List α}(h:MkO R e base w fp v xs)(hg:w.grownBy w' none):MkO R e base w' fp v xs:=by
 obtain⟨cs,h1,h2,h3,h4,h5⟩:=h;refine⟨cs,h1.kept hg ?_,h2,h3.keep λk hk=>hg.block k (h3.live k hk) (by simp),h4,h5⟩;cases hv:v.ownBlock
 ·exact .inl rfl
 ·exact .inr (by simp)
theorem Mk.done{e:TypeId}{base:Nat}{w:World}{F G:Nat->Prop}{v:Value}{xs:List α}(h:Mk R e base w G v xs)(hF:∀k,base<=k->F k)(hG:∀k,G k->F k):RSl R w F xs v:=by
 obtain⟨cs,h1,h2,h3⟩:=h;have hlt:=h1.lt;have hc:=@World.ownsRow.cells w base e R.size v xs.length cs h1
 rcases h1.2 with⟨rfl,hn⟩|⟨g,cap,cur,rfl,hb,Ym,hcap,hmax,hsz,YQ⟩
 ·have hx:xs=[]:=oEN hn;subst hx;exact RSl.nil _ _
 ·refine⟨_,cap,cs,rfl,hcap,by simpa[maxLen]using hmax,h2,by simp,λi hi=>⟨g,0,rfl,hF g hb,?_⟩,h3.sub λk hk=>hG k hk.1⟩;have:=hc rfl i _ (oGE hi);rw[show(⟨g,0+i,none⟩:Addr)=(⟨g,0,none⟩:Addr).add i from by unfold Addr.add;split<;>simp_all];exact this
theorem MkO.done{e:TypeId}{base:Nat}{w:World}{fp:List Nat}{v:Value}{xs:List α}(h:MkO R e base w fp v xs):
 ∃gp,OSl R e w gp xs v/\gp.Nodup/\∀k,k∈gp->base<=k:=by
 obtain⟨cs,h1,h2,h3,h4,h5⟩:=h
 rcases h1.2 with⟨rfl,hn⟩|⟨g,cap,cur,rfl,hb,Ym,hcap,hmax,hsz,YQ⟩
 ·have hx:xs=[]:=oEN hn;subst hx;exact⟨[],⟨h2,.inl ⟨rfl,rfl,rfl⟩⟩,List.nodup_nil,by simp⟩
 ·refine⟨g::fp,⟨h2,.inr ⟨g,cap,cs,fp,rfl,rfl,hcap,by simpa[maxLen]using hmax,⟨cur,Ym,hsz,by rw[h1.1];exact YQ⟩,h3⟩⟩,?_,?_⟩
  ·refine List.nodup_cons.2 ⟨λhm=>(h5 g hm).2 rfl,h4⟩
  ·intro k hk;rcases List.mem_cons.1 hk with rfl|hk
   ·exact hb
   ·exact(h5 k hk).1
theorem Mk.shape{e:TypeId}{base:Nat}{w:World}{G:Nat->Prop}{v:Value}{xs:List α}(h:Mk R e base w G v xs):∃A c,v=.slice A xs.length c:=by
 obtain⟨cs,h1,h2,h3⟩:=h
 rcases h1.2 with⟨rfl,hn⟩|⟨g,cap,cur,rfl,_⟩
 ·rw[hn];exact⟨_,_,rfl⟩
 ·exact⟨_,_,rfl⟩
theorem MkO.shape{e:TypeId}{base:Nat}{w:World}{fp:List Nat}{v:Value}{xs:List α}(h:MkO R e base w fp v xs):∃A c,v=.slice A xs.length c:=by
 obtain⟨cs,h1,h2,h3⟩:=h
 rcases h1.2 with⟨rfl,hn⟩|⟨g,cap,cur,rfl,_⟩
 ·rw[hn];exact⟨_,_,rfl⟩
 ·exact⟨_,_,rfl⟩
theorem OSl.shape{e:TypeId}{w:World}{fp:List Nat}{v:Value}{xs:List α}(h:OSl R e w fp xs v):∃A c,v=.slice A xs.length c:=by
 obtain⟨hb,⟨rfl,rfl,rfl⟩|⟨q,c,cs,g,rfl,rfl,h1,h2,h3,h4⟩⟩:=h
 ·exact⟨_,_,rfl⟩
 ·exact⟨_,_,rfl⟩
end
structure SlT (P:Program)(t e:TypeId)(size bytes:Nat):Prop where
 under:P.underlying t=some (.slice e)
 info:∃i z,P.info? e=some i/\i.zero=some z/\i.size=size/\i.bytes=bytes/\z.cells.size=size
 pos:0<size
section
variable {P:Program} {w:World} {t e:TypeId} {size bytes:Nat}
theorem pu(T:SlT P t e size bytes)(ty:TypeId)(base:Nat)(v:Value)(n:Nat)(xs:List Value)(hown:w.ownsRow base e size v n xs)
 (ad:Addr)(m c:Nat)(news:List Value)(hl:news.length=m*size)(YY:∀(j:Nat) u,news[j]?=some u->w.cell? (ad.add j)=some u)(h1:∀u∈news,u.oneCell'=true)
 (RP:n+m<=maxLen)(XX:(n+m)*bytes<=140737488355328)(YL:base<=w.heap.size):
 ∃v' w',(Builtin.append_ #[t,t] ty #[v,.slice (some ad) m c]).run P w=.ok v' w'/\w'.ownsRow base e size v' (n+m) (xs++news)/\w.grownBy w' v.ownBlock /\
  (v'.ownBlock=v.ownBlock\/∀k,v'.ownBlock=some k->w.heap.size<=k):=by
 obtain⟨i,z,hi,hz,WZ,VH,Yu⟩:=T.info
 rcases hown.2 with⟨rfl,hn⟩|⟨g,cap,cur,rfl,hb,Ym,hcap,hmax,hsz,YQ⟩
 ·subst hn;have hx:xs=[]:=oEN (by simpa using hown.1);subst hx;obtain⟨v',w',hr,Zb,hg,_⟩:=run_append_own (P:=P) w w.heap.size t ty e i z size bytes T.under hi hz WZ VH Yu T.pos (.slice none 0 0) 0 [] ⟨by simp,.inl ⟨rfl,rfl⟩⟩ ad m c news hl YY h1 RP XX (Nat.le_refl _);refine⟨v',w',hr,?_,hg,.inr λk hk=>(Zb.lt k hk).1⟩;refine⟨Zb.1,?_⟩;rcases Zb.2 with h|⟨g,cap,cur,e1,e2,e3⟩
  ·exact .inl h
  ·exact .inr ⟨g,cap,cur,e1,Nat.le_trans YL e2,e3⟩
 ·rcases Nat.lt_or_ge cap (n+m)with hlt|hge
  ·have hc:=@World.ownsRow.cells w base e size _ n xs hown;obtain⟨v',w',hr,Zb,hg⟩:=run_append_arg_grows (P:=P) w t ty e i z size bytes T.under hi hz WZ VH Yu T.pos ⟨g,0,none⟩ n cap xs hown.1 (hc rfl) ad m c news hl YY hlt RP XX;refine⟨v',w',hr,⟨Zb.1,?_⟩,lI hg,.inr λk hk=>(Zb.lt k hk).1⟩;rcases Zb.2 with h|⟨g,cap,cur,e1,e2,e3⟩
   ·exact .inl h
   ·exact .inr ⟨g,cap,cur,e1,Nat.le_trans YL e2,e3⟩
  ·obtain⟨w',hr,Zb,hg⟩:=run_append_own_spare (P:=P) w base t ty e i size T.under hi WZ g n cap xs hown ad m c news hl YY h1 hge;exact⟨_,w',hr,Zb,hg,.inl rfl⟩
end
section
variable {P:Program} {ops:Array Oper} {rest:List Oper} {o:Oper} {a:Act} {Q:Exit->Act->World->Prop} {w:World} {t e:TypeId} {size bytes:Nat} {α:Type} {R:Rp α}
theorem md(Xz:o.guard=none)(s x:Operand)(T:SlT P t e size bytes)(ho:o.op=.call { callee:=.builtin .append,args:=#[s,x],argTypes:=#[t,t] })
 (base:Nat)(v:Value)(n:Nat)(xs:List Value)(hs:a.eval s=v)(hown:w.ownsRow base e size v n xs)
 (ad:Addr)(m c:Nat)(news:List Value)(hx:a.eval x=.slice (some ad) m c)(hl:news.length=m*size)(YY:∀(j:Nat) u,news[j]?=some u->w.cell? (ad.add j)=some u)(h1:∀u∈news,u.oneCell'=true)
 (RP:n+m<=maxLen)(XX:(n+m)*bytes<=140737488355328)(YL:base<=w.heap.size)
 (h:∀v' w',w'.ownsRow base e size v' (n+m) (xs++news)->w.grownBy w' v.ownBlock->(v'.ownBlock=v.ownBlock\/∀k,v'.ownBlock=some k->w.heap.size<=k)->wpList P ops Q rest (a.put o.dst v') w'):wpList P ops Q (o::rest) a w:=by
 refine wpList_plain Xz λK hK=>?_;obtain⟨v',w',hrun,h2,h3,h4⟩:=pu (P:=P) (w:=w) T o.type base v n xs hown ad m c news hl YY h1 RP XX YL;unfold Oper.wp;simp[execOp,ho,resolve,invoke,builtin,hs,hx,hrun,Result.andThen];exact hK _ _ (h v' w' h2 h3 h4)
theorem zI{n:Nat}(h:n<=2199023255552):n<=maxLen:=by simp only[maxLen];omega
theorem Cg{n b:Nat}(h:n<=1099511627776)(hb:b<=128):n*b<=140737488355328:=Nat.le_trans (Nat.mul_le_mul h hb) (by decide)
theorem kG(Xz:o.guard=none)(s x:Operand)(T:SlT P t e R.size bytes)(VH:bytes<=128)(ho:o.op=.call { callee:=.builtin .append,args:=#[s,x],argTypes:=#[t,t] })
 (base:Nat)(G:Nat->Prop)(v:Value)(xs:List α)(hs:a.eval s=v)(hown:Mk R e base w G v xs)(YL:base<=w.heap.size)
 (u:Value)(ys:List α)(hx:a.eval x=u)(Yt:RSl R w (λk=>G k/\some k≠v.ownBlock) ys u)(hnil:∀c,u=.slice none 0 c->c=0)(hlen:xs.length+ys.length<=1099511627776)
 (h:∀v' w',Mk R e base w' G v' (xs++ys)->w.grownBy w' v.ownBlock->wpList P ops Q rest (a.put o.dst v') w'):wpList P ops Q (o::rest) a w:=by
 obtain⟨cs,h1,h2,h3⟩:=hown;obtain⟨i,z,hi,hz,WZ,hb,Yu⟩:=T.info;obtain⟨A,c,ds,rfl,g1,g2,g3,g4,g5,g6⟩:=Yt
 cases A with
 |none=>
  have hy:ys=[]:=by
   have hl:=g6.len;by_cases hy:ys=[]
   ·exact hy
   ·have hp:0<ys.length*R.size:=Nat.mul_pos (List.length_pos_iff.2 hy) R.pos;obtain⟨_,_,e,_⟩:=g5 0 (by omega);simp at e
  subst hy;have hc:=g4 rfl;subst hc;refine wpList_append_own_none Xz s x t ho base e i R.size T.under hi v xs.length cs hs h1 hx ?_;refine h v w ⟨cs,by simpa using h1,by simpa using h2,by simpa using h3⟩ (bl _ _)
 |some ad=>
  have hcell:∀(j:Nat) u,ds[j]?=some u->w.cell? (ad.add j)=some u:=λj u hu=>by
   obtain⟨h9,ZM⟩:=oGS hu;obtain⟨b',VC,e,_,hc⟩:=g5 _ h9
   injection e with e;subst e
   rw[show(⟨b',VC,none⟩:Addr).add j=⟨b',VC+j,none⟩ by simp[Addr.add],hc,ZM]
  refine md Xz s x T ho base v xs.length cs hs h1 ad ys.length c ds hx g6.len hcell g6.one (zI (by omega)) (Cg hlen VH) YL ?_;intro v' w' Zb hg Ux;refine h v' w' ⟨cs++ds,by rw[List.length_append];exact Zb,by simpa using hlen,?_⟩ hg;have Zy:=(ek.append h3 g6).live;refine(ek.keep (w':=w') (λk hk=>hg.block k hk.2 hk.1.2) Zy).sub λk hk=>⟨hk.1.1,?_⟩;rcases Ux with e|Ux
  ·rw[e];exact hk.1.2
  ·intro e;have:=Ux k e.symm;omega
theorem RSl.one{w:World}{F:Nat->Prop}{x:α}{cs:List Value}{b:Nat}(h:R.rep w F x cs)(hF:F b)(hc:∀(j:Nat) u,cs[j]?=some u->w.cell? ⟨b,j,none⟩=some u):RSl R w F [x] (.slice (some ⟨b,0,none⟩) 1 1):=
 ⟨some ⟨b,0,none⟩,1,cs,rfl,Nat.le_refl _,by omega,by simp,by simp,λi hi=>⟨b,0,rfl,hF,by rw[Nat.zero_add];exact hc i _ (oGE hi)⟩,ek.single h⟩
end
theorem gy{a b c:World}{row:Option Nat}(h:a.grownBy b none)(h':b.grownBy c row)(hr:∀k,row=some k->a.heap.size<=k):a.grownBy c none:=
 ⟨h'.os.trans h.os,h'.tape.trans h.tape,h'.output.trans h.output,Nat.le_trans h.size h'.size,λk hk _=>(h'.block k (Nat.lt_of_lt_of_le hk h.size) (λe=>by have:=hr k e.symm;omega)).trans (h.block k hk (by simp))⟩
theorem MkO.row{α:Type}{R:Rp α}{e:TypeId}{base:Nat}{w:World}{fp:List Nat}{v:Value}{xs:List α}(h:MkO R e base w fp v xs):∀k,v.ownBlock=some k->base<=k/\k<w.heap.size:=
 let ⟨_,h1,_⟩:=h;h1.lt
theorem Mk.row{α:Type}{R:Rp α}{e:TypeId}{base:Nat}{w:World}{G:Nat->Prop}{v:Value}{xs:List α}(h:Mk R e base w G v xs):∀k,v.ownBlock=some k->base<=k/\k<w.heap.size:=
 let ⟨_,h1,_⟩:=h;h1.lt
theorem MkO.live{α:Type}{R:Rp α}{e:TypeId}{base:Nat}{w:World}{fp:List Nat}{v:Value}{xs:List α}(h:MkO R e base w fp v xs):∀k,k∈fp->k<w.heap.size:=
 let ⟨_,_,_,h3,_⟩:=h;h3.live
theorem MkO.above{α:Type}{R:Rp α}{e:TypeId}{base:Nat}{w w':World}{fp:List Nat}{v:Value}{xs:List α}(h:MkO R e base w fp v xs)(hk:∀k,base<=k->k<w.heap.size->w'.heap[k]?=w.heap[k]?):MkO R e base w' fp v xs:=by
 obtain⟨cs,h1,h2,h3,h4,h5⟩:=h;refine⟨cs,⟨h1.1,?_⟩,h2,h3.keep λk YX=>hk k (h5 k YX).1 (h3.live k YX),h4,h5⟩;rcases h1.2 with h|⟨g,cap,cur,e1,hb,Ym,h⟩
 ·exact .inl h
 ·exact .inr ⟨g,cap,cur,e1,hb,by rw[hk g hb (Array.getElem?_eq_some_iff.1 Ym).1];exact Ym,h⟩
theorem i9.setmid{e:TypeId}{w:World}{q n:Nat}{c1 d:List Value}(h:i9 e w q n (c1++d)){j:Nat}(hj:j<d.length)(v:Value):i9 e (w.setCell ⟨q,c1.length+j,none⟩ v) q n (c1++d.set j v):=by
 have:=h.set (j:=c1.length+j) v (by rw[List.length_append];omega)
 rwa [List.set_append_right _ _ (by omega),show c1.length+j-c1.length=j by omega]at this
theorem vy(w:World)(p:Addr)(v:Value):(w.setCell p v).heap.size=w.heap.size:=by simp[World.setCell]
theorem ud(w:World)(cur:Array Value)(cap:Nat)(xs:List Value){base e size:Nat}(hb:base<=w.heap.size)(hx:cur.toList=xs)(hs:cur.size=cap*size)(hm:cap<=maxLen):
 (w.alloc (.cells cur e)).ownsRow base e size (.slice (some ⟨w.heap.size,0,none⟩) cap cap) cap xs:=by
 subst hx;exact⟨by simpa using hs,.inr ⟨w.heap.size,cap,cur,rfl,hb,heap_alloc_new w _,Nat.le_refl _,hm,hs,by rw[<- hs,<- Array.length_toList,List.take_length]⟩⟩
section
variable {P:Program} {w:World} {t e:TypeId} {bytes:Nat} {α:Type} {R:Rp α}
end
def Rp.flat{α:Type}(R:Rp α):Prop:=∀{w F a cs},R.rep w F a cs->∀w',R.own w' [] a cs
theorem oL{α β:Type}{R:Rp α}{S:Rp β}(h:R.flat)(h':S.flat):(kL R S).flat:=λ⟨c,d,e,h1,h2⟩ w'=>⟨c,d,[],[],e,rfl,h h1 w',h' h2 w'⟩
theorem ek.flat{α:Type}{R:Rp α}(hR:R.flat){w:World}{F:Nat->Prop}(w':World):∀{xs:List α}{cs:List Value},ek R w F xs cs->gF R w' [] xs cs
 | [],_,h=>⟨h,rfl⟩
 |x::r,_,⟨c,d,e,h1,h2⟩=>⟨c,d,[],[],e,rfl,hR h1 w',ek.flat hR w' h2⟩
theorem Mk.own{α:Type}{R:Rp α}(hR:R.flat){e:TypeId}{base:Nat}{w:World}{G:Nat->Prop}{v:Value}{xs:List α}(h:Mk R e base w G v xs):MkO R e base w [] v xs:=
 let ⟨cs,h1,h2,h3⟩:=h;⟨cs,h1,h2,h3.flat hR w,List.nodup_nil,by simp⟩
def kj(w:World)(F:Nat->Prop):List TV->List Value->Prop
 | [],vs=>vs=[]
 |t::ts,vs=>∃v r,vs=v::r/\fb w F t v/\kj w F ts r
theorem kj.len{w:World}{F:Nat->Prop}:∀{ts:List TV}{vs:List Value},kj w F ts vs->vs.length=ts.length
 | [],_,h=>by rw[show _=[]from h];rfl
 |_::_,_,⟨v,r,e,_,h⟩=>by rw[e,oLC,kj.len h,oLC]
theorem kj.app{w:World}{F:Nat->Prop}:∀{ts us:List TV}{vs xs:List Value},kj w F ts vs->kj w F us xs->kj w F (ts++us) (vs++xs)
 | [],_,_,_,h,h'=>by rw[show _=[]from h];exact h'
 |_::_,_,_,_,⟨v,r,e,h1,h2⟩,h'=>⟨v,_,by rw[e];rfl,h1,kj.app h2 h'⟩
theorem kj.split{w:World}{F:Nat->Prop}:∀{ts us:List TV}{vs:List Value},kj w F (ts++us) vs->∃a b,vs=a++b/\kj w F ts a/\kj w F us b
 | [],_,vs,h=>⟨[],vs,rfl,rfl,h⟩
 |_::_,_,_,⟨v,r,e,h1,h2⟩=>by
  obtain⟨a,b,rfl,h3,h4⟩:=kj.split h2;exact⟨v::a,b,by rw[e];rfl,⟨v,a,rfl,h1,h3⟩,h4⟩
theorem kj.get{w:World}{F:Nat->Prop}:∀{ts:List TV}{vs:List Value},kj w F ts vs->∀j (h:j<ts.length),fb w F ts[j] (vs.getD j undef)
 |_::_,_,⟨v,r,e,h1,_⟩,0,_=>by rw[e];exact h1
 |_::ts,_,⟨v,r,e,_,h2⟩,j+1,h=>by rw[e];exact kj.get h2 j (by simpa using h)
theorem kj.of{w:World}{F:Nat->Prop}:∀{ts:List TV}{vs:List Value},ts.length=vs.length->(∀j (h:j<ts.length),fb w F ts[j] (vs.getD j undef))->kj w F ts vs
 | [],[],_,_=>rfl
 |t::ts,v::vs,hl,h=>⟨v,vs,rfl,h 0 (by simp),kj.of (by simpa using hl) λj hj=>by have:=h (j+1) (by simpa using hj);simpa using this⟩
 | [],_::_,hl,_=>by simp at hl
 |_::_,[],hl,_=>by simp at hl
theorem kj.frame{w w':World}{F F':Nat->Prop}(hw:∀k,F k->k<w.heap.size->w'.heap[k]?=w.heap[k]?)(hF:∀k,F k->k<w.heap.size->F' k):∀{ts:List TV}{vs:List Value},kj w F ts vs->kj w' F' ts vs
 | [],_,h=>h
 |_::_,_,⟨v,r,e,h1,h2⟩=>⟨v,r,e,h1.frame hw hF,kj.frame hw hF h2⟩
def rI(k:IntKind):Rp Int where
 size:=1
 rep _ _ a cs:=cs=[.int k a]
 own _ fp a cs:=fp=[]/\cs=[.int k a]
 pos:=by decide
 len:=λh=>by rw[h];rfl
 one:=λh=>by rw[h];simp[Value.oneCell']
 keep:=λh _=>h
 sub:=λh _=>h
 live:=λh=>h
 okeep:=λh _=>h
 olive:=λh k hk=>by rw[h.1]at hk;simp at hk
 reads:=λh=>h.2
theorem vU(k:IntKind):(rI k).flat:=λh _=>⟨rfl,h⟩
structure RIm {α:Type}(R:Rp α)(e:α->List TV)(Bd:α->Prop):Prop where
 toI:∀{w:World}{F:Nat->Prop}{a:α}{cs:List Value},R.rep w F a cs->kj w F (e a) cs
 of:∀{w:World}{F:Nat->Prop}{a:α}{cs:List Value},kj w F (e a) cs->Bd a->R.rep w F a cs
 len:∀a,(e a).length=R.size
theorem mq(k:IntKind):RIm (rI k) (λa=>[.v (.int k a)]) λ_=>True:=
 ⟨λh=>⟨_,[],h,.v rfl,rfl⟩,λ⟨v,r,e,h1,h2⟩ _=>by
  have h2:r=[]:=h2;subst h2;cases h1
  exact e,λ_=>rfl⟩
theorem dN{α β:Type}{R:Rp α}{S:Rp β}{e:α->List TV}{f:β->List TV}{A:α->Prop}{B:β->Prop}(h:RIm R e A)(h':RIm S f B):RIm (kL R S) (λp=>e p.1++f p.2) λp=>A p.1/\B p.2:=
 ⟨λ⟨c,d,e1,h1,h2⟩=>by rw[e1];exact(h.toI h1).app (h'.toI h2),λh1 hb=>by
  obtain⟨a,b,rfl,h2,h3⟩:=h1.split
  exact⟨a,b,rfl,h.of h2 hb.1,h'.of h3 hb.2⟩,λp=>by rw[List.length_append,h.len,h'.len];rfl⟩
theorem zY{α:Type}{R:Rp α}{e:α->List TV}{A:α->Prop}(h:RIm R e A){w:World}{F:Nat->Prop}:∀{xs:List α}{cs:List Value},kj w F (xs.map e).flatten cs->(∀x∈xs,A x)->ek R w F xs cs
 | [],_,h,_=>h
 |_::_,_,h1,hA=>by
  obtain⟨a,b,rfl,h2,h3⟩:=kj.split (by simpa using h1);exact⟨a,b,rfl,h.of h2 (hA _ (by simp)),zY h (by simpa using h3) λx hx=>hA x (by simp[hx])⟩
theorem qn{α:Type}{R:Rp α}{e:α->List TV}{A:α->Prop}(h:RIm R e A){w:World}{F:Nat->Prop}{xs:List α}{v:Value}(hs:RSl R w F xs v):fb w F (.sl (xs.map e)) v:=by
 obtain⟨a,c,cs,rfl,h1,h2,h3,h4,h5,h6⟩:=hs;have hl:=h6.len
 have ZO:fb w F (.sl (xs.map e)) (.slice a (xs.map e).length c):=by
  refine .sl R.size (λi j=>cs.getD (i*R.size+j) undef) (λi hi=>by simp[h.len]) (by simpa using h1) (by unfold maxLen;exact h2) h4 (λi j hi hj=>?_) (λi j hi hj=>?_)
  ·have ZL:i<xs.length:=by simpa using hi
   have hlt:i*R.size+j<cs.length:=by
    rw[hl]
    calc i*R.size+j<i*R.size+R.size:=by omega
     _=(i+1)*R.size:=by rw[Nat.succ_mul]
     _<=xs.length*R.size:=Nat.mul_le_mul_right _ ZL
   obtain⟨b,off,e1,hF,hc⟩:=h5 _ hlt;exact⟨b,off,e1,hF,by rw[hc];simp[oGD,hlt]⟩
  ·have ZL:i<xs.length:=by simpa using hi
   obtain⟨d,hd,XZ⟩:=h6.at_ ZL;have hrel:=h.toI hd
   have ZW:j<(e xs[i]).length:=by simpa using hj
   have hg:=hrel.get j ZW;have SI:=R.len hd
   have Pd:j<d.length:=by rw[SI,<- h.len xs[i]];exact ZW
   have e2:=XZ j d[j] (oGE Pd)
   have e3:cs.getD (i*R.size+j) undef=d.getD j undef:=by
    rw[oGD,oGD,e2,oGE Pd]
   rw[e3];simpa using hg
 simpa using ZO
theorem zX{α:Type}{R:Rp α}{e:α->List TV}{A:α->Prop}(h:RIm R e A){w:World}{F:Nat->Prop}{xs:List α}{v:Value}(hs:fb w F (.sl (xs.map e)) v)(hx:∀x∈xs,A x)(hm:xs.length<=1099511627776):RSl R w F xs v:=by
 generalize hc:xs.map e=c at hs
 cases hs with
 | @sl _ a cap sz u hsz hcap hmax hnil hcell hrec=>
  have hl:c.length=xs.length:=by rw[<- hc];simp
  by_cases h0:xs=[]
  ·subst h0
   have:c=[]:=by rw[<- hc];rfl
   subst this;exact⟨a,cap,[],rfl,Nat.zero_le _,by simpa[maxLen]using hmax,by simp,hnil,λi hi=>by simp at hi,rfl⟩
  ·have ZV:0<xs.length:=List.length_pos_iff.2 h0
   have hz:sz=R.size:=by
    rw[<- hsz 0 (by omega)];simp[<- hc,h.len]
   subst hz;obtain⟨cs,Ws⟩:∃cs:List Value,cs=((List.range xs.length).map λi=>(List.range R.size).map (u i)).flatten:=⟨_,rfl⟩
   have ZH:∀n,n<=xs.length->kj w F (((xs.drop n).map e).flatten) (((List.range' n (xs.length-n)).map λi=>(List.range R.size).map (u i)).flatten):=by
    intro n
    induction hk:xs.length-n generalizing n with
    |zero=>
     intro hn;rw[List.drop_of_length_le (by omega)];rfl
    |succ k ih=>
     intro hn
     have hlt:n<xs.length:=by omega
     rw[List.drop_eq_getElem_cons hlt,List.range'_succ];simp only[List.map_cons,List.flatten_cons];refine kj.app (kj.of (by simp[h.len]) λj hj=>?_) (ih (n+1) (by omega) (by omega))
     have XZ:j<R.size:=by rw[<- h.len xs[n]];exact hj
     have Ns:n<c.length:=by omega
     have e1:c[n]=e xs[n]:=by simp[<- hc]
     have:=hrec n j Ns (by rw[e1];exact hj)
     have e2:(c[n])[j]'(by rw[e1];exact hj)=(e xs[n])[j]:=by simp[e1]
     rw[e2]at this;simpa[oGD,XZ]using this
   have hR:ek R w F xs cs:=by
    have:=ZH 0 (Nat.zero_le _);rw[List.drop_zero,Nat.sub_zero,<- List.range_eq_range',<- Ws]at this;exact zY h this hx
   rw[hl];refine⟨a,cap,cs,rfl,by rw[<- hl];exact hcap,by simpa[maxLen]using hmax,hm,hnil,λk hk=>?_,hR⟩;have hcl:=hR.len
   have Zc:k/R.size<xs.length:=by
    rw[Nat.div_lt_iff_lt_mul R.pos];omega
   have hk2:k%R.size<R.size:=Nat.mod_lt _ R.pos
   have e0:k/R.size*R.size+k%R.size=k:=by rw[Nat.mul_comm];exact Nat.div_add_mod _ _
   obtain⟨b,o,e1,hF,hcc⟩:=hcell (k/R.size) (k%R.size) (by omega) hk2;refine⟨b,o,e1,hF,?_⟩;rw[e0]at hcc;rw[hcc];have h2:=gA (c:=(List.range xs.length).map λi=>(List.range R.size).map (u i)) (sz:=R.size) (λi h=>by simp) (i:=k/R.size) (j:=k%R.size) (by simpa using Zc) (by simpa using hk2);rw[e0,<- Ws,oGE hk]at h2
   injection h2 with h2
   rw[h2];simp
theorem Bt{α:Type}{R:Rp α}{e:α->List TV}{A:α->Prop}(t:TypeId)(h:RIm R e A):RIm (EX t R) (λxs=>[.sl (xs.map e)]) λxs=>xs.length<=1099511627776/\∀x∈xs,A x:=
 ⟨λ⟨v,e1,h1⟩=>by rw[e1];exact⟨v,[],rfl,qn h h1,rfl⟩,λ⟨v,r,e1,h1,h2⟩ hb=>by
  have h2:r=[]:=h2;subst h2
  exact⟨v,e1,zX h h1 hb.2 hb.1⟩,λ_=>rfl⟩
def Bk(w:World)(q t:Nat)(vs:List Value):Prop:=w.heap[q]?=some (.cells vs.toArray t (0,0))
theorem Bk.hi{w:World}{q t:Nat}{vs:List Value}(h:Bk w q t vs):q<w.heap.size:=(Array.getElem?_eq_some_iff.1 h).1
theorem Bk.keep{w w':World}{q t:Nat}{vs:List Value}(h:Bk w q t vs)(hh:w'.heap[q]?=w.heap[q]?):Bk w' q t vs:=hh.trans h
theorem Bk.grow{w w':World}{q t:Nat}{vs:List Value}(h:Bk w q t vs)(hg:w.grownBy w' none):Bk w' q t vs:=h.keep (hg.block _ h.hi (by simp))
theorem Bk.cell{w:World}{q t:Nat}{vs:List Value}(h:Bk w q t vs)(j:Nat):w.cell? ⟨q,j,none⟩=vs[j]?:=by
 rw[cell_of_row _ _ _ _ _ _ h];simp
theorem Bk.free{w:World}{q t:Nat}{vs:List Value}(h:Bk w q t vs)(j:Nat):w.frozen? ⟨q,j,none⟩=false:=frozen_of_row _ _ _ _ _ h
theorem Bk.new{w:World}{t:Nat}{vs:List Value}:Bk (w.alloc (.cells vs.toArray t)) w.heap.size t vs:=heap_alloc_new w _
theorem Bk.set{w:World}{q t:Nat}{vs:List Value}(h:Bk w q t vs)(j:Nat)(v:Value):Bk (w.setCell ⟨q,j,none⟩ v) q t (vs.set j v):=by
 unfold Bk;rw[heap_setCell_same _ _ _ _ _ _ h];simp
theorem Bk.other{w:World}{q t q' j:Nat}{vs:List Value}(h:Bk w q t vs)(hne:q≠q')(v:Value):Bk (w.setCell ⟨q',j,none⟩ v) q t vs:=by
 unfold Bk;rw[heap_setCell_other _ _ _ _ hne];exact h
theorem Bk.drew{w:World}{q t:Nat}{vs:List Value}(h:Bk w q t vs):Bk w.drew q t vs:=h
abbrev Cn4:=Int×Int×Int×Int
abbrev Vw8:=Int×Int×Int×Int×Int×Int×Int×List Cn4
abbrev C5:=Int×Int×List Cn4×Vw8
abbrev cCn:CT:=.pair (.int .u8) (.pair (.int .u16) (.pair (.int .i64) (.int .i64)))
abbrev cCs:CT:=.row false cCn
abbrev cVw:CT:=.pair (.int .i64) (.pair (.int .i64) (.pair (.int .i64) (.pair (.int .i64) (.pair (.int .i64) (.pair (.int .i64) (.pair (.int .u16) cCs))))))
abbrev cPg:CT:=.pair (.int .i64) (.pair (.int .i64) (.pair cCs cVw))
def rCn:Rp Cn4:=kL (rI .u8) (kL (rI .u16) (kL (rI .i64) (rI .i64)))
def rCs:Rp (List Cn4):=EX 57 rCn
def rVw:Rp Vw8:=kL (rI .i64) (kL (rI .i64) (kL (rI .i64) (kL (rI .i64) (kL (rI .i64) (kL (rI .i64) (kL (rI .u16) rCs))))))
def rPg:Rp C5:=kL (rI .i64) (kL (rI .i64) (kL rCs rVw))
def Es{α:Type}(l:List α):Prop:=l.length<=1099511627776
def VwB(v:Vw8):Prop:=Es v.2.2.2.2.2.2.2
def PgB(p:C5):Prop:=Es p.2.2.1/\VwB p.2.2.2
theorem uF:rCn.flat:=oL (vU _) (oL (vU _) (oL (vU _) (vU _)))
theorem RIm.weak{α:Type}{R:Rp α}{e e':α->List TV}{A B:α->Prop}(h:RIm R e A)(he:∀a,e' a=e a)(hB:∀a,B a->A a):RIm R e' B:=by
 have:e'=e:=funext he;subst this;exact⟨h.toI,λh1 hb=>h.of h1 (hB _ hb),h.len⟩
theorem CK:RIm rCn (enc cCn) λ_=>True:=(dN (mq _) (dN (mq _) (dN (mq _) (mq _)))).weak (λ_=>rfl) λ_ _=>⟨trivial,trivial,trivial,trivial⟩
theorem sn:RIm rCs (enc cCs) Es:=(Bt 57 CK).weak (λ_=>rfl) λ_ h=>⟨h,λ_ _=>trivial⟩
theorem vz:RIm rVw (enc cVw) VwB:=(dN (mq _) (dN (mq _) (dN (mq _) (dN (mq _) (dN (mq _) (dN (mq _) (dN (mq _) sn))))))).weak (λ_=>rfl) λ_ h=>⟨trivial,trivial,trivial,trivial,trivial,trivial,trivial,h⟩
theorem EW:RIm rPg (enc cPg) PgB:=(dN (mq _) (dN (mq _) (dN sn vz))).weak (λ_=>rfl) λ_ h=>⟨trivial,trivial,h.1,h.2⟩
theorem Gl:SlT Try.prog 53 57 rCn.size 24:=
 ⟨by kernel_rfl,by
  have h:(Try.prog.info? 57).map (λi=>(i.zero,i.size,i.bytes))=some (some (.agg #[.int .u8 0,.int .u16 0,.int .i64 0,.int .i64 0]),4,24):=by kernel_rfl
  obtain⟨i,hi,hz,hs,hb⟩:=info_parts h
  exact⟨i,_,hi,hz,hs,hb,rfl⟩,rCn.pos⟩
theorem Gk:SlT Try.prog 28 53 rCs.size 24:=
 ⟨by kernel_rfl,by
  have h:(Try.prog.info? 53).map (λi=>(i.zero,i.size,i.bytes))=some (some (.slice none 0 0),1,24):=by kernel_rfl
  obtain⟨i,hi,hz,hs,hb⟩:=info_parts h
  exact⟨i,_,hi,hz,hs,hb,rfl⟩,rCs.pos⟩
theorem Gj:SlT Try.prog 29 62 rVw.size 80:=
 ⟨by kernel_rfl,by
  have h:(Try.prog.info? 62).map (λi=>(i.zero,i.size,i.bytes))=some (some (.agg #[.int .i64 0,.int .i64 0,.int .i64 0,.int .i64 0,.int .i64 0,.int .i64 0,.int .u16 0,.slice none 0 0]),8,80):=by kernel_rfl
  obtain⟨i,hi,hz,hs,hb⟩:=info_parts h
  exact⟨i,_,hi,hz,hs,hb,rfl⟩,rVw.pos⟩
def rX{α:Type}(R:Rp α)(e:TypeId)(F:Nat->Prop)(xs:List α)(w:World)(r:Ending)(w':World):Prop:=
 ∃v,r=.returned v/\Mk R e w.heap.size w' F v xs/\w.grownBy w' none
set_option maxHeartbeats 1000000 in
theorem oZ(F:Nat->Prop)(xs:List Cn4)(v:Value)(w:World)(h:RSl rCn w F xs v):
 Calls Try.prog 55 #[v] w (rX rCn 57 F xs w):=by
 have H:=Lib.hid h;obtain⟨A,c,cs,rfl,h1,h2,h3,h4,h5,h6⟩:=h
 cases A with
 |none=>
  have hx:xs=[]:=by
   by_cases hx:xs=[]
   ·exact hx
   ·obtain⟨b,off,c',RM,e,_⟩:=H.out.at_ (List.length_pos_iff.2 hx);cases e
  subst hx;have hc:=h4 rfl;subst hc;clear h4 h5 h6 h1 h2 h3;have hq:=λ(w:World)=>Lib.run_eql_slice_nil (P:=Try.prog) w 53 57 none 0 0 0 0 (by kernel_rfl)
  go_enter Try.func55,Try.ntmps55
  go_wp2_with fail
  go_ret
  exact⟨_,rfl,Mk.nil _ _ _ _ _,bl _ _⟩
 |some ad=>
  clear h4 h5 h6 h1 h2;have hq:=λ(w:World)=>Lib.run_eql_slice_nil (P:=Try.prog) w 53 57 (some ad) xs.length c 0 0 (by kernel_rfl)
  go_enter Try.func55,Try.ntmps55
  go_wp2_with (at_builtin;go_loud (refine kG (R:=rCn) rfl _ _ Gl (by decide) rfl w.heap.size F (.slice (some ⟨w.heap.size,0,none⟩) 0 0) [] rfl ?c1 ?c2 (.slice (some ad) xs.length c) xs rfl ?c3 ?c4 ?c5 ?_))
  case c1=>exact⟨[],ud w #[] 0 [] (Nat.le_refl _) rfl (by simp) (by decide),by simp,rfl⟩
  case c2=>simp
  case c3=>exact(H.out.live.keep (w':=w.alloc (.cells #[] 57)) λk hk=>heap_alloc_old _ _ hk.2).sub λk hk=>⟨hk.1,λe=>by injection e with e;have:=hk.2;exact absurd e (by show ¬ _=w.heap.size;omega)⟩
  case c4=>intro c' e;cases e
  case c5=>simpa using h3
  intro v' w' Wu hg;have HM:=Lib.hid Wu;have HG:=Lib.hid hg;clear Wu hg
  go_wp2_with fail
  go_ret
  exact⟨_,rfl,HM.out,gy (bj (bl w none) _) HG.out λk e=>by injection e with e;rw[<- e];exact Nat.le_refl _⟩
set_option maxHeartbeats 1000000 in
theorem uV(F:Nat->Prop)(xs:List (List Cn4))(v:Value)(w:World)(h:RSl rCs w F xs v):
 Calls Try.prog 53 #[v] w (rX rCs 53 F xs w):=by
 have H:=Lib.hid h;obtain⟨A,c,cs,rfl,h1,h2,h3,h4,h5,h6⟩:=h
 cases A with
 |none=>
  have hx:xs=[]:=by
   by_cases hx:xs=[]
   ·exact hx
   ·obtain⟨b,off,c',RM,e,_⟩:=H.out.at_ (List.length_pos_iff.2 hx);cases e
  subst hx;have hc:=h4 rfl;subst hc;clear h4 h5 h6 h1 h2 h3;have hq:=λ(w:World)=>Lib.run_eql_slice_nil (P:=Try.prog) w 28 53 none 0 0 0 0 (by kernel_rfl)
  go_enter Try.func53,Try.ntmps53
  go_wp2_with fail
  go_ret
  exact⟨_,rfl,Mk.nil _ _ _ _ _,bl _ _⟩
 |some ad=>
  clear h4 h5 h6 h1 h2;have hq:=λ(w:World)=>Lib.run_eql_slice_nil (P:=Try.prog) w 28 53 (some ad) xs.length c 0 0 (by kernel_rfl)
  go_enter Try.func53,Try.ntmps53
  go_wp2_with (at_builtin;go_loud (refine kG (R:=rCs) rfl _ _ Gk (by decide) rfl w.heap.size F (.slice (some ⟨w.heap.size,0,none⟩) 0 0) [] rfl ?c1 ?c2 (.slice (some ad) xs.length c) xs rfl ?c3 ?c4 ?c5 ?_))
  case c1=>exact⟨[],ud w #[] 0 [] (Nat.le_refl _) rfl (by simp) (by decide),by simp,rfl⟩
  case c2=>simp
  case c3=>exact(H.out.live.keep (w':=w.alloc (.cells #[] 53)) λk hk=>heap_alloc_old _ _ hk.2).sub λk hk=>⟨hk.1,λe=>by injection e with e;have:=hk.2;exact absurd e (by show ¬ _=w.heap.size;omega)⟩
  case c4=>intro c' e;cases e
  case c5=>simpa using h3
  intro v' w' Wu hg;have HM:=Lib.hid Wu;have HG:=Lib.hid hg;clear Wu hg
  go_wp2_with fail
  go_ret
  exact⟨_,rfl,HM.out,gy (bj (bl w none) _) HG.out λk e=>by injection e with e;rw[<- e];exact Nat.le_refl _⟩
set_option maxHeartbeats 1000000 in
theorem uU(F:Nat->Prop)(xs:List Vw8)(v:Value)(w:World)(h:RSl rVw w F xs v):
 Calls Try.prog 54 #[v] w (rX rVw 62 F xs w):=by
 have H:=Lib.hid h;obtain⟨A,c,cs,rfl,h1,h2,h3,h4,h5,h6⟩:=h
 cases A with
 |none=>
  have hx:xs=[]:=by
   by_cases hx:xs=[]
   ·exact hx
   ·obtain⟨b,off,c',RM,e,_⟩:=H.out.at_ (List.length_pos_iff.2 hx);cases e
  subst hx;have hc:=h4 rfl;subst hc;clear h4 h5 h6 h1 h2 h3;have hq:=λ(w:World)=>Lib.run_eql_slice_nil (P:=Try.prog) w 29 62 none 0 0 0 0 (by kernel_rfl)
  go_enter Try.func54,Try.ntmps54
  go_wp2_with fail
  go_ret
  exact⟨_,rfl,Mk.nil _ _ _ _ _,bl _ _⟩
 |some ad=>
  clear h4 h5 h6 h1 h2;have hq:=λ(w:World)=>Lib.run_eql_slice_nil (P:=Try.prog) w 29 62 (some ad) xs.length c 0 0 (by kernel_rfl)
  go_enter Try.func54,Try.ntmps54
  go_wp2_with (at_builtin;go_loud (refine kG (R:=rVw) rfl _ _ Gj (by decide) rfl w.heap.size F (.slice (some ⟨w.heap.size,0,none⟩) 0 0) [] rfl ?c1 ?c2 (.slice (some ad) xs.length c) xs rfl ?c3 ?c4 ?c5 ?_))
  case c1=>exact⟨[],ud w #[] 0 [] (Nat.le_refl _) rfl (by simp) (by decide),by simp,rfl⟩
  case c2=>simp
  case c3=>exact(H.out.live.keep (w':=w.alloc (.cells #[] 62)) λk hk=>heap_alloc_old _ _ hk.2).sub λk hk=>⟨hk.1,λe=>by injection e with e;have:=hk.2;exact absurd e (by show ¬ _=w.heap.size;omega)⟩
  case c4=>intro c' e;cases e
  case c5=>simpa using h3
  intro v' w' Wu hg;have HM:=Lib.hid Wu;have HG:=Lib.hid hg;clear Wu hg
  go_wp2_with fail
  go_ret
  exact⟨_,rfl,HM.out,gy (bj (bl w none) _) HG.out λk e=>by injection e with e;rw[<- e];exact Nat.le_refl _⟩
def xw(f:Nat->Value):Operand->Value
 |.tmp t=>f t
 |.const v=>v
 |.global g=>.pointer (some ⟨g,0,none⟩)
 |.func f=>.func (.func f) #[] #[]
def wC(f:Nat->Value):Option Tmp->Value
 |some t=>f t
 |none=>undef
def xR(f:Nat->Value)(o:Oper):Value:=
 match o.dst with
 |some t=>f t
 |none=>match o.op with
  |.store _ (.tmp t) _=>f t
  |_=>undef
def oA(f:Nat->Value)(o:Oper)(v:Value):Value:=
 match o.dst with
 |some _=>v
 |none=>xR f o
def gZ(o:Oper)(j:Nat):Bool:=o.after.toList.any λe=>e.on==j&&Region.binds .any e
def iX(l:List Oper)(t:Tmp):Option Nat:=l.findIdx? λo=>o.dst==some t
def qL(l:List Oper)(old:Nat->Value)(Ss:List (Value->World->Prop))(o:Oper)(f:Nat->Value)(w:World)(t:Tmp):Prop:=
 match iX l t with
 |none=>f t=old t
 |some j=>if gZ o j then(Ss.getD j λ_ _=>False) (f t) w else f t=old t
def po(l:List Oper)(f:Nat->Value)(o:Oper):Bool:=
 match o.guard with
 |none=>true
 |some (j,b)=>match(l[j]?).bind (·.dst)with
  |some d=>(match f d with|.bool c=>c==b|_=>false)
  |none=>false
def jO(P:Program)(Uh:Value->World->Prop):Result Next->Prop
 |.ok (.value v) w'=>Uh v w'
 |.ok .skip w'=>Uh undef w'
 |.ok (.enter f args) w'=>Calls P f args w' λe VD=>∃v,e=.returned v/\Uh v VD
 |_=>False
def Ct(base:World->Prop)(R:World->World->Prop)(s:Value->World->Prop)(w:World)(v:Value)(w':World):Prop:=base w'/\R w w'/\s v w'
def EG(P:Program)(l:List Oper)(old:Nat->Value)(base:World->Prop)(R:World->World->Prop)(Ss:List (Value->World->Prop))(o:Oper)(s:Value->World->Prop):Prop:=
 ∀(f:Nat->Value)(w:World),base w->(∀t∈o.looksAt l.toArray,qL l old Ss o f w t)->
  if po l f o=true then jO P (λv w'=>Ct base R s w (oA f o v) w') ((execOp (xw f) o).run P w)else s (oA f o undef) w
def l9(P:Program)(l:List Oper)(old:Nat->Value)(base:World->Prop)(R:World->World->Prop)(Ss:List (Value->World->Prop)):List Oper->List (Value->World->Prop)->Prop
 | [],[]=>True
 |o::r,s::rs=>EG P l old base R Ss o s/\l9 P l old base R Ss r rs
 |_,_=>False
def Et(R:World->World->Prop):List (Value->World->Prop)->Prop
 | []=>True
 |s::r=>(∀w w' u,R w w'->s u w->s u w')/\Et R r
def eO(f:Nat->Value):List Oper->Act->Act
 | [],a=>a
 |o::r,a=>eO f r (a.put o.dst (wC f o.dst))
def FF(f:Nat->Value)(w:World):List Oper->List (Value->World->Prop)->Prop
 |o::r,s::rs=>s (xR f o) w/\FF f w r rs
 |_,_=>True
def uf(l:List Oper)(n:Nat):Bool:=
 (l.zipIdx.all λ(o,k)=>
  (match o.dst with|some d=>iX l d==some k&&decide (d<n)|none=>true) &&
  (o.after.all λe=>!Region.binds .any e||decide (e.on<k)) &&
  (o.looksAt l.toArray).all λt=>match iX l t with
   |none=>true
   |some j=>gZ o j||gZ (l.getD j default) k) &&
 (l.all λo=>match o.dst,o.op with
  |none,.store _ (.tmp t) _=>(match iX l t with|none=>true|some j=>gZ o j)
  |_,_=>true) &&
 l.all λo=>match o.guard with
  |none=>true
  |some (j,_)=>match(l[j]?).bind (·.dst)with|some d=>(o.looksAt l.toArray).contains d|none=>false
section
variable {P:Program} {l:List Oper} {a0:Act} {base:World->Prop} {R:World->World->Prop} {Ss:List (Value->World->Prop)}
structure JJ (l:List Oper)(a0:Act)(base:World->Prop)(Ss:List (Value->World->Prop))(listed:Array Bool)(a:Act)(w:World):Prop where
 base_:base w
 defers:a.defers=a0.defers
 lsize:listed.size=l.length
 asize:a.tmps.size=a0.tmps.size
 old:∀t,(∀(j:Nat) o,l[j]?=some o->o.dst=some t->listed.getD j true=false)->a.tmps.getD t undef=a0.tmps.getD t undef
 says:∀(j:Nat) o s,l[j]?=some o->Ss[j]?=some s->listed.getD j false=true->s (xR (λt=>a.tmps.getD t undef) o) w
 down:∀(j:Nat) o,l[j]?=some o->listed.getD j false=true->∀e∈o.after,Region.binds .any e=true->listed.getD e.on false=true
theorem Co(a:Act):a.eval=xw λt=>a.tmps.getD t undef:=by funext x;cases x<;>rfl
theorem l9.at_{lo:List Oper}{ls:List (Value->World->Prop)}:∀{o:Oper}{k:Nat},l9 P l (λt=>a0.tmps.getD t undef) base R Ss lo ls->lo[k]?=some o->∃s,ls[k]?=some s/\EG P l (λt=>a0.tmps.getD t undef) base R Ss o s:=by
 induction lo generalizing ls with
 |nil=>intro o k _ h;simp at h
 |cons x r ih=>
  intro o k hd h
  match ls,hd with
  |s::rs,hd=>
   cases k with
   |zero=>simp at h;subst h;exact⟨s,rfl,hd.1⟩
   |succ k=>simpa using ih hd.2 (by simpa using h)
theorem Et.at_:∀{ls:List (Value->World->Prop)}{k:Nat}{s:Value->World->Prop},Et R ls->ls[k]?=some s->∀w w' u,R w w'->s u w->s u w'
 | [],_,_,_,h=>by simp at h
 |x::r,0,s,hk,h=>by simp at h;subst h;exact hk.1
 |x::r,k+1,s,hk,h=>Et.at_ hk.2 (by simpa using h)
theorem tR{t:Tmp}{j:Nat}(h:iX l t=some j):∃o,l[j]?=some o/\o.dst=some t:=by
 unfold iX at h;rw[List.findIdx?_eq_some_iff_getElem]at h;obtain⟨hj,h1,_⟩:=h;exact⟨l[j],oGE hj,by simpa using h1⟩
theorem tS{t:Tmp}(h:iX l t=none):∀(j:Nat) o,l[j]?=some o->o.dst≠some t:=by
 unfold iX at h;rw[List.findIdx?_eq_none_iff]at h;intro j o hj e;have:=h o (List.mem_of_getElem? hj);simp[e]at this
theorem jP{n:Nat}(h:uf l n=true){k:Nat}{o:Oper}(hk:l[k]?=some o):
 (∀d,o.dst=some d->iX l d=some k/\d<n)/\(∀e∈o.after,Region.binds .any e=true->e.on<k)/\
 (∀t∈o.looksAt l.toArray,∀j,iX l t=some j->gZ o j=true\/gZ (l.getD j default) k=true)/\
 (∀y t x,o.dst=none->o.op=.store y (.tmp t) x->∀j,iX l t=some j->gZ o j=true)/\
 (∀j b,o.guard=some (j,b)->∃d,(l[j]?).bind (·.dst)=some d/\d∈o.looksAt l.toArray):=by
 simp only[uf,oBA,List.all_eq_true]at h;obtain⟨⟨h1,hst⟩,h2⟩:=h
 have hm:(o,k)∈l.zipIdx:=by rw[List.mem_zipIdx_iff_getElem?];simpa using hk
 have h3:=h1 _ hm;simp only[oBA,List.all_eq_true]at h3;obtain⟨⟨h4,h5⟩,h6⟩:=h3;refine⟨λd hd=>?_,λe he hb=>?_,λt ht j hj=>?_,λy t x hd hop j hw=>?_,λj b hg=>?_⟩
 ·rw[hd]at h4;simpa using h4
 ·have:=(Array.all_eq_true_iff_forall_mem.1 h5) e he;simpa[hb]using this
 ·have:=h6 t ht;rw[hj]at this;simpa using this
 ·have:=hst o (List.mem_of_getElem? hk);rw[hd,hop]at this;simp only[hw]at this;exact this
 ·have:=h2 o (List.mem_of_getElem? hk);rw[hg]at this;simp only at this
  cases hd:(l[j]?).bind (·.dst)with
  |none=>rw[hd]at this;simp at this
  |some d=>rw[hd]at this;exact⟨d,rfl,by simpa using this⟩
theorem ou{o:Oper}{j:Nat}(h:gZ o j=true):∃e∈o.after,e.on=j/\Region.binds .any e=true:=by
 unfold gZ at h;rw[List.any_eq_true]at h;obtain⟨e,he,hx⟩:=h;simp only[oBA,beq_iff_eq]at hx;exact⟨e,by simpa using he,hx.1,hx.2⟩
theorem lJ{listed:Array Bool}{i j:Nat}{b:Bool}(hi:i<listed.size):(listed.setIfInBounds i true).getD j b=if i=j then true else listed.getD j b:=by
 by_cases e:i=j
 ·subst e;simp[Array.getD,hi]
 ·simp only[oIN e];simp only[Array.getD,Array.size_setIfInBounds];split
  ·exact Array.getElem_setIfInBounds_ne _ e
  ·rfl
theorem lK{a:Act}{d t:Nat}{v:Value}(hd:d<a.tmps.size):(a.put (some d) v).tmps.getD t undef=if d=t then v else a.tmps.getD t undef:=by
 unfold Act.put;by_cases e:d=t
 ·subst e;simp[Array.getD,hd]
 ·simp only[oIN e];simp only[Array.getD,Array.size_setIfInBounds];split
  ·exact Array.getElem_setIfInBounds_ne _ e
  ·rfl
theorem JJ.step(TS:∀w,R w w)(hB:uf l a0.tmps.size=true)(hD:l9 P l (λt=>a0.tmps.getD t undef) base R Ss l Ss)(hK:Et R Ss){listed:Array Bool}{a:Act}{w:World}{Q:Exit->Act->World->Prop}(h:JJ l a0 base Ss listed a w){i:Nat}(hi:i∈Region.ready .any l.toArray listed):
 wpOp P l.toArray Q i (λa' w'=>JJ l a0 base Ss (listed.setIfInBounds i true) a' w') a w:=by
 obtain⟨Ww,o,ho,Za⟩:=mem_ready.1 hi
 have Zd:l[i]?=some o:=by simpa using ho
 have Wt:i<listed.size:=by rw[h.lsize];exact(oGS Zd).1
 obtain⟨ZZ,Z9,Z8,LY,ZS⟩:=jP hB Zd;obtain⟨s,hs,SJ⟩:=hD.at_ Zd
 have YQ:∀t∈o.looksAt l.toArray,qL l (λt=>a0.tmps.getD t undef) Ss o (λt=>a.tmps.getD t undef) w t:=by
  intro t ht;unfold qL
  cases hw:iX l t with
  |none=>exact h.old t λj o' hj hd=>absurd hd (tS hw j o' hj)
  |some j=>
   obtain⟨oj,Yx,UW⟩:=tR hw;by_cases hwt:gZ o j=true
   ·simp only[hwt,if_true];obtain⟨e,he,Td,UT⟩:=ou hwt
    have UY:listed.getD j false=true:=by rw[<- Td];exact Za e he UT
    obtain⟨sj,Vx,_⟩:=hD.at_ Yx;have:=h.says j oj sj Yx Vx UY;simpa[List.getD,Vx,xR,UW]using this
   ·simp only[hwt];refine h.old t λj' o' ZW hd'=>?_
    have hjj:j'=j:=by
     have:=((jP hB ZW).1 t hd').1
     rw[hw]at this;injection this with this;exact this.symm
    subst hjj;rcases Z8 t ht j' hw with h'|h'
    ·exact absurd h' hwt
    ·have e:l.getD j' default=oj:=by simp[List.getD,Yx]
     rw[e]at h';obtain⟨ed,Qw,Td,UT⟩:=ou h'
     cases hl:listed.getD j' true with
     |false=>rfl
     |true=>
      exfalso
      have hjl:j'<listed.size:=by rw[h.lsize];exact(oGS Yx).1
      have Yh:listed.getD j' false=true:=by simpa[Array.getD,hjl]using hl
      have:=h.down j' oj Yx Yh ed Qw UT;rw[Td]at this;simp[Array.getD,Wt]at this Ww;rw[this]at Ww;cases Ww
 have Vk:=SJ (λt=>a.tmps.getD t undef) w h.base_ YQ
 have TG:Region.wanted o (yielded l.toArray a.tmps)=po l (λt=>a.tmps.getD t undef) o:=by
  unfold Region.wanted po
  cases hg:o.guard with
  |none=>rfl
  |some p=>
   obtain⟨j,b⟩:=p;obtain⟨d,hd,_⟩:=ZS j b hg
   have SI:d<a.tmps.size:=by
    rw[h.asize];obtain⟨oj,Yx,UW⟩:=Option.bind_eq_some_iff.1 hd;exact((jP hB Yx).1 d UW).2
   have hy:yielded l.toArray a.tmps j=(match a.tmps.getD d undef with|.bool c=>some c|_=>none):=by
    unfold yielded
    have e:(l.toArray[j]?).bind (·.dst)=some d:=by simpa using hd
    rw[e];simp only[oBS];rw[Array.getElem?_eq_getElem SI];simp only[Array.getD,SI,dif_pos,Array.getInternal_eq_getElem];cases a.tmps[d]<;>rfl
   simp only[hd];rw[hy];cases a.tmps.getD d undef<;>simp
 have WW:∀v w',Ct base R s w (oA (λt=>a.tmps.getD t undef) o v) w'->JJ l a0 base Ss (listed.setIfInBounds i true) (a.put o.dst v) w':=by
  intro v w' ⟨hb,hR,Ps⟩
  have hsz:(a.put o.dst v).tmps.size=a.tmps.size:=by unfold Act.put;split<;>simp
  refine⟨hb,by rw[<- h.defers];unfold Act.put;split<;>rfl,by simpa using h.lsize,hsz.trans h.asize,λt ht=>?_,λj oj sj Yx Vx UY=>?_,λj oj Yx UY e he UT=>?_⟩
  ·have NQ:o.dst≠some t:=λe=>by
    have:=ht i o Zd e;rw[lJ Wt]at this;simp at this
   have ZA:=h.old t λj oj Yx UW=>by
    have:=ht j oj Yx UW;rw[lJ Wt]at this;split at this
    ·cases this
    ·exact this
   rw[<- ZA]
   cases hd:o.dst with
   |none=>rfl
   |some d=>rw[lK (by rw[h.asize];exact(ZZ d hd).2),oIN (by rintro rfl;exact NQ hd)]
  ·by_cases e:i=j
   ·subst e
    rw[Zd]at Yx;injection Yx with Yx;subst Yx
    rw[hs]at Vx;injection Vx with Vx;subst Vx
    cases hd:o.dst with
    |none=>
     have e1:(a.put none v).tmps=a.tmps:=rfl
     have e2:oA (λt=>a.tmps.getD t undef) o v=xR (λt=>a.tmps.getD t undef) o:=by unfold oA;rw[hd]
     rw[e1,<- e2];exact Ps
    |some d=>
     have e2:oA (λt=>a.tmps.getD t undef) o v=v:=by unfold oA;rw[hd]
     have e3:xR (λt=>(a.put (some d) v).tmps.getD t undef) o=v:=by
      unfold xR;rw[hd];simp only;rw[lK (by rw[h.asize];exact(ZZ d hd).2),oIP rfl]
     rw[e3,<- e2];exact Ps
   ·rw[lJ Wt,oIN e]at UY;have ZA:=hK.at_ Vx w w' _ hR (h.says j oj sj Yx Vx UY)
    have YO:∀t,o.dst≠some t->(a.put o.dst v).tmps.getD t undef=a.tmps.getD t undef:=λt ht=>by
     cases hd:o.dst with
     |none=>rfl
     |some d'=>rw[lK (by rw[h.asize];exact(ZZ d' hd).2),oIN (by rintro rfl;exact ht hd)]
    have Rf:xR (λt=>(a.put o.dst v).tmps.getD t undef) oj=xR (λt=>a.tmps.getD t undef) oj:=by
     unfold xR
     cases UW:oj.dst with
     |some d=>
      refine YO d λhd=>?_;have h1:=(ZZ d hd).1;have h2:=((jP hB Yx).1 d UW).1;rw[h1]at h2
      injection h2 with h2
      exact e h2
     |none=>
      cases hop:oj.op with
      |store y t x=>
       cases t with
       |tmp t=>
        refine YO t λhd=>?_;have h1:=(ZZ t hd).1;have h2:=(jP hB Yx).2.2.2.1 y t x UW hop i h1;obtain⟨ed,Qw,Td,UT⟩:=ou h2;have:=h.down j oj Yx UY ed Qw UT;rw[Td]at this;simp[Array.getD,Wt]at this Ww;rw[this]at Ww;cases Ww
       |const _=>rfl
       |global _=>rfl
       |func _=>rfl
      |_=>rfl
    rw[Rf];exact ZA
  ·rw[lJ Wt];split
   ·rfl
   ·by_cases e':i=j
    ·subst e'
     rw[Zd]at Yx;injection Yx with Yx;subst Yx
     exact Za e he UT
    ·rw[lJ Wt,oIN e']at UY;exact h.down j oj Yx UY e he UT
 unfold wpOp;simp only[ho];rw[TG];by_cases hw:po l (λt=>a.tmps.getD t undef) o=true
 ·rw[oIP hw]at Vk⊢;refine .inl ?_;unfold Oper.wp;rw[Co];generalize(execOp (xw λt=>a.tmps.getD t undef) o).run P w=r at Vk
  cases r with
  |ok n w'=>
   cases n<;>simp only[jO]at Vk<;>simp only[Oper.upon]
   case value v=>exact WW v w' Vk
   case skip=>exact WW undef w' Vk
   case enter fn args=>exact Vk.mono λe VD ⟨v,he,hp⟩=>by subst he;exact WW v VD hp
  |halt x w'=>simp only[jO]at Vk
 ·rw[oIN hw]at Vk⊢;exact WW undef w ⟨h.base_,TS w,Vk⟩
theorem qI{n:Nat}(hB:uf l n=true){listed:Array Bool}(hs:listed.size=l.length)(hr:Region.ready .any l.toArray listed=[]):∀(k:Nat),k<l.length->listed.getD k false=true:=by
 intro k
 induction k using Nat.strongRecOn with
 |_ k ih=>
  intro hk
  cases hl:listed.getD k false with
  |true=>rfl
  |false=>
   exfalso;have ho:l[k]?=some l[k]:=oGE hk
   have:k∈Region.ready .any l.toArray listed:=by
    refine mem_ready.2 ⟨?_,l[k],by simp,λe he hb=>?_⟩
    ·have:k<listed.size:=by omega
     simpa[Array.getD,this]using hl
    ·have:=(jP hB ho).2.1 e he hb;exact ih e.on this (by omega)
   rw[hr]at this;cases this
theorem qb(TS:∀w,R w w)(hB:uf l a0.tmps.size=true)(hD:l9 P l (λt=>a0.tmps.getD t undef) base R Ss l Ss)(hK:Et R Ss){Q:Exit->Act->World->Prop}
 (V7:∀listed a w,(∀k,k<l.length->listed.getD k false=true)->JJ l a0 base Ss listed a w->Q .normal a w):
 ∀(XT:Nat)(listed:Array Bool)(a:Act)(w:World),JJ l a0 base Ss listed a w->(∃c:List Bool,c.length=l.length/\listed.toList=c/\c.count false=XT)->wpAny P .any l.toArray Q XT listed a w
 |0,listed,a,w,h,⟨c,Ze,Y9,TX⟩=>by
  have hr:Region.ready .any l.toArray listed=[]:=by
   rw[List.eq_nil_iff_forall_not_mem];intro i hi;have Ww:=(mem_ready.1 hi).1
   have Wt:i<listed.size:=by
    rcases Nat.lt_or_ge i listed.size with h'|h'
    ·exact h'
    ·simp[Array.getD,Nat.not_lt.2 h']at Ww
   have:false∈c:=by
    rw[<- Y9]
    have h1:listed[i]=false:=by simpa[Array.getD,Wt]using Ww
    rw[<- h1];simp
   exact absurd (List.count_pos_iff.2 this) (by omega)
  exact⟨hr,V7 _ _ _ (qI hB h.lsize hr) h⟩
 |XT+1,listed,a,w,h,⟨c,Ze,Y9,TX⟩=>by
  refine⟨λhr=>V7 _ _ _ (qI hB h.lsize hr) h,λi hi=>?_⟩;refine wpOp_mono (λa' w' h'=>qb TS hB hD hK V7 XT _ a' w' h' ?_) (h.step TS hB hD hK hi);have Ww:=(mem_ready.1 hi).1
  have Wt:i<listed.size:=by
   rcases Nat.lt_or_ge i listed.size with h'|h'
   ·exact h'
   ·simp[Array.getD,Nat.not_lt.2 h']at Ww
  have h1:listed[i]=false:=by simpa[Array.getD,Wt]using Ww
  refine⟨_,?_,rfl,?_⟩
  ·simp;have:=h.lsize;omega
  ·rw[Array.toList_setIfInBounds,List.count_set (by simpa using Wt)];subst Y9;rw[TX];simp[h1]
theorem Am{f:Nat->Value}{w:World}:∀{lo:List Oper}{ls:List (Value->World->Prop)},(∀(k:Nat) o s,lo[k]?=some o->ls[k]?=some s->s (xR f o) w)->FF f w lo ls
 | [],_,_=>by unfold FF;trivial
 |_::_,[],_=>by unfold FF;trivial
 |o::r,s::rs,h=>⟨h 0 o s rfl rfl,Am λk o' s' h1 h2=>h (k+1) o' s' (by simpa using h1) (by simpa using h2)⟩
theorem oh(f:Nat->Value):∀(lo:List Oper)(a:Act),(eO f lo a).tmps.size=a.tmps.size
 | [],_=>rfl
 |o::r,a=>by
  rw[eO,oh f r];unfold Act.put;split<;>simp
theorem lm(f:Nat->Value):∀(lo:List Oper)(a:Act),(eO f lo a).defers=a.defers
 | [],_=>rfl
 |o::r,a=>by
  rw[eO,lm f r];unfold Act.put;split<;>rfl
theorem oi(f:Nat->Value):∀(lo:List Oper)(a:Act)(t:Nat),t<a.tmps.size ->
 (eO f lo a).tmps.getD t undef=f t/\(∃o∈lo,o.dst=some t)\/(eO f lo a).tmps.getD t undef=a.tmps.getD t undef/\∀o∈lo,o.dst≠some t
 | [],_,_,_=>.inr ⟨rfl,by simp⟩
 |o::r,a,t,ht=>by
  have hsz:(a.put o.dst (wC f o.dst)).tmps.size=a.tmps.size:=by unfold Act.put;split<;>simp
  rcases oi f r (a.put o.dst (wC f o.dst)) t (by rw[hsz];exact ht)with⟨h1,o',h2,h3⟩|⟨h1,h2⟩
  ·exact .inl ⟨h1,o',List.mem_cons_of_mem _ h2,h3⟩
  ·by_cases hd:o.dst=some t
   ·refine .inl ⟨?_,o,List.mem_cons_self ..,hd⟩;rw[eO,h1,hd,lK ht,oIP rfl];rfl
   ·refine .inr ⟨?_,λo' Zd=>?_⟩
    ·rw[eO,h1]
     cases hd':o.dst with
     |none=>rfl
     |some d=>
      by_cases hds:d<a.tmps.size
      ·rw[lK hds,oIN (by rintro rfl;exact hd hd')]
      ·unfold Act.put;simp[Array.setIfInBounds,hds]
    ·rcases List.mem_cons.1 Zd with rfl|h'
     ·exact hd
     ·exact h2 o' h'
theorem gY{id:Nat}{w0:World}{Q:Exit->Act->World->Prop}(base:World->Prop)(R:World->World->Prop)(Ss:List (Value->World->Prop))
 (n:Nat)(hm:P.follows .mixedOrders=true)(hn:a0.tmps.size=n)(RQ:uf l n=true)(h0:base w0.drew)(TS:∀w,R w w)(hK:Et R Ss)
 (hD:l9 P l (λt=>a0.tmps.getD t undef) base R Ss l Ss)
 (V7:∀f w,base w->FF f w l Ss->Q .normal (eO f l a0) w):(Code.region id l.toArray true).wp P Q a0 w0:=by
 have hB:uf l a0.tmps.size=true:=by rw[hn];exact RQ
 refine wp_region_any hm ?_;refine qb (a0:=a0) (R:=R) (Ss:=Ss) TS hB hD hK (λlisted a w hl h=>?_) _ _ _ _ (?_:JJ l a0 base Ss _ _ _) ⟨_,?_,rfl,?_⟩
 ·have e:a=eO (λt=>a.tmps.getD t undef) l a0:=by
   have hd:a.defers=(eO (λt=>a.tmps.getD t undef) l a0).defers:=by rw[lm,h.defers]
   have ht:a.tmps=(eO (λt=>a.tmps.getD t undef) l a0).tmps:=by
    refine Array.ext (by rw[oh,h.asize]) λi h1 h2=>?_
    have Nf:i<a0.tmps.size:=by rw[<- h.asize];exact h1
    have e1:a.tmps[i]=a.tmps.getD i undef:=by simp[Array.getD,h1]
    have e2:(eO (λt=>a.tmps.getD t undef) l a0).tmps[i]=(eO (λt=>a.tmps.getD t undef) l a0).tmps.getD i undef:=by rw[Array.getD,dif_pos h2];rfl
    rw[e1,e2]
    rcases oi (λt=>a.tmps.getD t undef) l a0 i Nf with⟨h3,_⟩|⟨h3,h4⟩
    ·exact h3.symm
    ·rw[h3];exact h.old i λj o ho hd=>absurd hd (h4 o (List.mem_of_getElem? ho))
   cases a;cases hp:eO (λt=>Array.getD _ t undef) l a0;simp only[hp]at hd ht;subst hd;subst ht
   simp_all
  rw[e];exact V7 _ w h.base_ (Am λk o s ho hs=>h.says k o s ho hs (hl k (oGS ho).1))
 ·exact⟨h0,rfl,by simp,rfl,λ_ _=>rfl,λj o s ho hs hl=>by simp[Array.getD]at hl,λj o ho hl=>by simp[Array.getD]at hl⟩
 ·simp
 ·simp[List.count_replicate]
end
theorem bh{P:Program}{l:List Oper}{old:Nat->Value}{base:World->Prop}{R:World->World->Prop}{Ss:List (Value->World->Prop)}{o:Oper}{r:List Oper}{s:Value->World->Prop}{rs:List (Value->World->Prop)}
 (h:EG P l old base R Ss o s)(h':l9 P l old base R Ss r rs):l9 P l old base R Ss (o::r) (s::rs):=⟨h,h'⟩
theorem bk{P:Program}{l:List Oper}{old:Nat->Value}{base:World->Prop}{R:World->World->Prop}{Ss:List (Value->World->Prop)}{o:Oper}{s:Value->World->Prop}(hg:o.guard=none)
 (h:∀(f:Nat->Value)(w:World),base w->(∀t∈o.looksAt l.toArray,qL l old Ss o f w t)->jO P (λv w'=>Ct base R s w (oA f o v) w') ((execOp (xw f) o).run P w)):EG P l old base R Ss o s:=by
 intro f w hb H
 have:po l f o=true:=by unfold po;rw[hg]
 rw[oIP this];exact h f w hb H
theorem eB{P:Program}{l:List Oper}{old:Nat->Value}{base:World->Prop}{R:World->World->Prop}{Ss:List (Value->World->Prop)}{o:Oper}{s:Value->World->Prop}(j:Nat)(b:Bool)(d:Nat)(hg:o.guard=some (j,b))(hd:(l[j]?).bind (·.dst)=some d)
 (h:∀(f:Nat->Value)(w:World),base w->(∀t∈o.looksAt l.toArray,qL l old Ss o f w t)->f d=.bool b/\jO P (λv w'=>Ct base R s w (oA f o v) w') ((execOp (xw f) o).run P w)):EG P l old base R Ss o s:=by
 intro f w hb H;obtain⟨h1,h2⟩:=h f w hb H
 have:po l f o=true:=by unfold po;rw[hg];simp only[hd,h1,beq_self_eq_true]
 rw[oIP this];exact h2
theorem lO{P:Program}{l:List Oper}{old:Nat->Value}{base:World->Prop}{R:World->World->Prop}{Ss:List (Value->World->Prop)}{o:Oper}{s:Value->World->Prop}(j:Nat)(b:Bool)(d:Nat)(hg:o.guard=some (j,b))(hd:(l[j]?).bind (·.dst)=some d)
 (h:∀(f:Nat->Value)(w:World),base w->(∀t∈o.looksAt l.toArray,qL l old Ss o f w t)->f d=.bool (!b)/\s (oA f o undef) w):EG P l old base R Ss o s:=by
 intro f w hb H;obtain⟨h1,h2⟩:=h f w hb H
 have:po l f o=false:=by unfold po;rw[hg];simp only[hd,h1];cases b<;>rfl
 rw[this];exact h2
theorem mH{P:Program}{l:List Oper}{old:Nat->Value}{base:World->Prop}{R:World->World->Prop}{Ss:List (Value->World->Prop)}:l9 P l old base R Ss [] []:=trivial
def RK(X:Nat->Prop)(w w':World):Prop:=w.heap.size<=w'.heap.size/\∀b,b<w.heap.size->¬X b->w'.heap[b]?=w.heap[b]?
theorem RK.refl(X:Nat->Prop)(w:World):RK X w w:=⟨Nat.le_refl _,λ_ _ _=>rfl⟩
theorem RK.alloc(X:Nat->Prop)(w:World)(o:Obj):RK X w (w.alloc o):=⟨by simp,λ_ hb _=>heap_alloc_old _ _ hb⟩
theorem RK.grown{X:Nat->Prop}{w w':World}{g:Nat}(h:w.grownBy w' (some g))(hg:X g):RK X w w':=⟨h.size,λb hb hx=>h.block b hb (by rintro e;injection e with e;subst e;exact hx hg)⟩
theorem RK.set{X:Nat->Prop}{w w1:World}{p:Addr}(h:RK X w w1)(hp:X p.block)(u:Value):RK X w (w1.setCell p u):=
 ⟨by simpa[World.setCell]using h.1,λb hb hx=>(Below.heap_setCell w1 p u b (by rintro rfl;exact hx hp)).trans (h.2 b hb hx)⟩
theorem RK.cell{X:Nat->Prop}{w w':World}(h:RK X w w'){b o:Nat}(hb:b<w.heap.size)(hx:¬X b):w'.cell? ⟨b,o,none⟩=w.cell? ⟨b,o,none⟩:=World.cell?_of_block (h.2 b hb hx)
def RD(X:Nat->Prop)(D:World->Prop)(w w':World):Prop:=RK X w w'/\(D w->D w')
theorem RD.refl(X:Nat->Prop)(D:World->Prop)(w:World):RD X D w w:=⟨RK.refl X w,id⟩
def bS(u:Value)(v:Value)(_:World):Prop:=v=u
def Gd(k:IntKind)(lo hi:Int)(v:Value)(_:World):Prop:=∃n:Int,lo<=n/\n<=hi/\v=.int k n
theorem bS.kept{x:Value}{R:World->World->Prop}(w w':World)(u:Value)(_:R w w')(h:bS x u w):bS x u w':=h
theorem Gd.kept{k:IntKind}{lo hi:Int}{R:World->World->Prop}(w w':World)(u:Value)(_:R w w')(h:Gd k lo hi u w):Gd k lo hi u w':=h
attribute [go_sem] xw jO oA xR
section
variable {N:Nat} {t:TypeId} {z:List Value} {Good:List Value->World->Prop}
def va(t:TypeId)(Good:List Value->World->Prop)(q:Nat)(w:World):Prop:=∃vs,Bk w q t vs/\Good vs w
def RZ(N:Nat)(t:TypeId)(z:List Value)(Good:List Value->World->Prop)(w w':World):Prop:=
 w.heap.size<=w'.heap.size/\(∀k,k<w.heap.size->(k<N\/∀cs,w.heap[k]?≠some (.cells cs t (0,0)))->w'.heap[k]?=w.heap[k]?)/\
 (∀k,N<=k->Bk w k t z->Bk w' k t z\/va t Good k w')/\∀k,N<=k->va t Good k w->va t Good k w'
def Ew(t:TypeId)(N:Nat)(Good:List Value->World->Prop):Prop:=∀vs w w',w.heap.size<=w'.heap.size->(∀k,k<w.heap.size->(k<N\/∀cs,w.heap[k]?≠some (.cells cs t (0,0)))->w'.heap[k]?=w.heap[k]?)->Good vs w->Good vs w'
theorem RZ.refl(w:World):RZ N t z Good w w:=⟨Nat.le_refl _,λ_ _ _=>rfl,λ_ _ h=>.inl h,λ_ _ h=>h⟩
theorem RZ.grown(hG:Ew t N Good){w w':World}(h:w.grownBy w' none):RZ N t z Good w w':=
 ⟨h.size,λk hk _=>h.block k hk (by simp),λk _ hb=>.inl (hb.grow h),λk _ ⟨vs,h1,h2⟩=>⟨vs,h1.grow h,hG _ _ _ h.size (λk hk _=>h.block k hk (by simp)) h2⟩⟩
def AH(N:Nat)(t:TypeId)(z:List Value)(Good:List Value->World->Prop)(v:Value)(w:World):Prop:=∃q,v=.pointer (some ⟨q,0,none⟩)/\N<=q/\(Bk w q t z\/va t Good q w)
def Eo(N:Nat)(t:TypeId)(Good:List Value->World->Prop)(v:Value)(w:World):Prop:=∃q,v=.pointer (some ⟨q,0,none⟩)/\N<=q/\va t Good q w
theorem AH.kept(w w':World)(v:Value)(hr:RZ N t z Good w w')(h:AH N t z Good v w):AH N t z Good v w':=by
 obtain⟨q,e,hq,h|h⟩:=h
 ·exact⟨q,e,hq,hr.2.2.1 q hq h⟩
 ·exact⟨q,e,hq,.inr (hr.2.2.2 q hq h)⟩
theorem Eo.kept(w w':World)(v:Value)(hr:RZ N t z Good w w')(h:Eo N t Good v w):Eo N t Good v w':=
 let ⟨q,e,hq,h⟩:=h;⟨q,e,hq,hr.2.2.2 q hq h⟩
theorem AH.new(hG:Ew t N Good){w:World}(hN:N<=w.heap.size):AH N t z Good (.pointer (some ⟨w.heap.size,0,none⟩)) (w.alloc (.cells z.toArray t)):=⟨_,rfl,hN,.inl Bk.new⟩
theorem RZ.put(hG:Ew t N Good){w w':World}{q:Nat}{us vs:List Value}(hq:N<=q)(h:Bk w q t us)(hs:w.heap.size=w'.heap.size)(hk:∀k,k≠q->w'.heap[k]?=w.heap[k]?)(hv:Bk w' q t vs)(hg:Good vs w):RZ N t z Good w w'/\va t Good q w':=by
 have Yq:∀k,k<w.heap.size->(k<N\/∀cs,w.heap[k]?≠some (.cells cs t (0,0)))->w'.heap[k]?=w.heap[k]?:=λk _ hc=>hk k (by
  rintro rfl;rcases hc with hc|hc
  ·omega
  ·exact hc _ h)
 have h1:va t Good q w':=⟨vs,hv,hG _ _ _ (Nat.le_of_eq hs) Yq hg⟩;refine⟨⟨Nat.le_of_eq hs,Yq,λk _ hb=>?_,λk _ hb=>?_⟩,h1⟩
 ·by_cases e:k=q
  ·subst e;exact .inr h1
  ·exact .inl (hb.keep (hk k e))
 ·by_cases e:k=q
  ·subst e;exact h1
  ·obtain⟨Oe,g1,g2⟩:=hb;exact⟨Oe,g1.keep (hk k e),hG _ _ _ (Nat.le_of_eq hs) Yq g2⟩
theorem ww{w:World}{q t:Nat}{x y:Value}(h:Bk w q t [x,y])(a b:Value):Bk ((w.setCell ⟨q,0,none⟩ a).setCell ⟨q,1,none⟩ b) q t [a,b]:=(h.set 0 a).set 1 b
theorem tQ{α:Type}{R:Rp α}{e:TypeId}(hne:e≠t){base:Nat}{G:Nat->Prop}(hG:∀k,G k->k<N){v:Value}{xs:List α}{w w':World}(hs:w.heap.size<=w'.heap.size)
 (hr:∀k,k<w.heap.size->(k<N\/∀cs,w.heap[k]?≠some (.cells cs t (0,0)))->w'.heap[k]?=w.heap[k]?)(h:Mk R e base w G v xs):Mk R e base w' G v xs:=by
 obtain⟨cs,h1,h2,h3⟩:=h;refine⟨cs,⟨h1.1,?_⟩,h2,(ek.keep (w':=w') (λk hk=>hr k hk.2 (.inl (hG k hk.1.1))) h3.live).sub λk hk=>hk.1⟩;rcases h1.2 with h|⟨g,cap,cur,e1,hb,Ym,h⟩
 ·exact .inl h
 ·refine .inr ⟨g,cap,cur,e1,hb,?_,h⟩;rw[hr g (Array.getElem?_eq_some_iff.1 Ym).1 (.inr λcs hz=>?_)]
  ·exact Ym
  ·have e:=Option.some.inj (Ym.symm.trans hz)
   injection e with _ e;exact hne e
end
def SMk{α:Type}(R:Rp α)(e:TypeId)(base:Nat)(G:Nat->Prop)(xs:List α)(v:Value)(w:World):Prop:=Mk R e base w G v xs
theorem SMk.kept{α:Type}{R:Rp α}{e t:TypeId}{N base:Nat}{z:List Value}{Good:List Value->World->Prop}{G:Nat->Prop}{xs:List α}(hne:e≠t)(hG:∀k,G k->k<N)(w w':World)(v:Value)(hr:RZ N t z Good w w')(h:SMk R e base G xs v w):SMk R e base G xs v w':=
 tQ hne hG hr.1 hr.2.1 h
theorem Mk.base{α:Type}{R:Rp α}{e:TypeId}{base base':Nat}{w:World}{G:Nat->Prop}{v:Value}{xs:List α}(h:Mk R e base w G v xs)(hb:base'<=base):Mk R e base' w G v xs:=by
 obtain⟨cs,h1,h2⟩:=h;refine⟨cs,⟨h1.1,?_⟩,h2⟩;rcases h1.2 with h|⟨g,cap,cur,e1,ZZ,h⟩
 ·exact .inl h
 ·exact .inr ⟨g,cap,cur,e1,Nat.le_trans hb ZZ,h⟩
theorem Fu{w:World}{F:Nat->Prop}{c:Cn4}{cs:List Value}(h:rCn.rep w F c cs):cs=[.int .u8 c.1,.int .u16 c.2.1,.int .i64 c.2.2.1,.int .i64 c.2.2.2]:=by
 obtain⟨a,b,rfl,rfl,a2,b2,rfl,rfl,a3,b3,rfl,rfl,rfl⟩:=h;rfl
theorem F9{w:World}{F:Nat->Prop}(c:Cn4):rCn.rep w F c [.int .u8 c.1,.int .u16 c.2.1,.int .i64 c.2.2.1,.int .i64 c.2.2.2]:=⟨[_],_,rfl,rfl,[_],_,rfl,rfl,[_],_,rfl,rfl,rfl⟩
def vwC(v:Vw8)(y:Value):List Value:=[.int .i64 v.1,.int .i64 v.2.1,.int .i64 v.2.2.1,.int .i64 v.2.2.2.1,.int .i64 v.2.2.2.2.1,.int .i64 v.2.2.2.2.2.1,.int .u16 v.2.2.2.2.2.2.1,y]
theorem Cz{w:World}{F:Nat->Prop}{v:Vw8}{cs:List Value}(h:rVw.rep w F v cs):∃y,cs=vwC v y/\RSl rCn w F v.2.2.2.2.2.2.2 y:=by
 obtain⟨_,_,rfl,rfl,_,_,rfl,rfl,_,_,rfl,rfl,_,_,rfl,rfl,_,_,rfl,rfl,_,_,rfl,rfl,_,_,rfl,rfl,y,rfl,hy⟩:=h;exact⟨y,rfl,hy⟩
theorem Cy{w:World}{fp:List Nat}{v:Vw8}{y:Value}(h:OSl rCn 57 w fp v.2.2.2.2.2.2.2 y):rVw.own w fp v (vwC v y):=
 ⟨[_],_,[],fp,rfl,rfl,⟨rfl,rfl⟩,[_],_,[],fp,rfl,rfl,⟨rfl,rfl⟩,[_],_,[],fp,rfl,rfl,⟨rfl,rfl⟩,[_],_,[],fp,rfl,rfl,⟨rfl,rfl⟩,[_],_,[],fp,rfl,rfl,⟨rfl,rfl⟩,[_],_,[],fp,rfl,rfl,⟨rfl,rfl⟩,[_],_,[],fp,rfl,rfl,⟨rfl,rfl⟩,y,rfl,h⟩
theorem cf(w:World)(j:Nat)(v:Value){k q:Nat}(h:k≠q):(w.setCell ⟨q,j,none⟩ v).heap[k]?=w.heap[k]?:=heap_setCell_other _ _ _ _ h
theorem MkO.base'{α:Type}{R:Rp α}{e:TypeId}{base base':Nat}{w:World}{fp:List Nat}{v:Value}{xs:List α}(h:MkO R e base w fp v xs)(hb:base'<=base):MkO R e base' w fp v xs:=by
 obtain⟨cs,h1,h2,h3,h4,h5⟩:=h;refine⟨cs,⟨h1.1,?_⟩,h2,h3,h4,λk hk=>⟨Nat.le_trans hb (h5 k hk).1,(h5 k hk).2⟩⟩;rcases h1.2 with h|⟨g,cap,cur,e1,ZZ,h⟩
 ·exact .inl h
 ·exact .inr ⟨g,cap,cur,e1,Nat.le_trans hb ZZ,h⟩
def Em(v:Vw8)(w:World)(e:Ending)(w':World):Prop:=
 ∃y,e=.returned (.agg (vwC v y).toArray)/\MkO rCn 57 (w.heap.size+2) w' [] y v.2.2.2.2.2.2.2/\w.grownBy w' none
set_option maxHeartbeats 1000000 in
theorem pW(F:Nat->Prop)(v:Vw8)(y:Value)(w:World)(h:RSl rCn w F v.2.2.2.2.2.2.2 y):
 Calls Try.prog 56 #[.agg (vwC v y).toArray] w (Em v w):=by
 obtain⟨v0,v1,v2,v3,v4,v5,v6,L⟩:=v;have H:=Lib.hid h;obtain⟨A,c,rfl,_⟩:=h.size_eq;clear h;unfold vwC at *;dsimp only at *
 go_enter Try.func56,Try.ntmps56
 go_wp2_with fail
 have Zn:w.grownBy ((w.alloc (.cells #[.int .i64 v0,.int .i64 v1,.int .i64 v2,.int .i64 v3,.int .i64 v4,.int .i64 v5,.int .u16 v6,.slice A L.length c] 62)).alloc (.cells #[.int .i64 0,.int .i64 0,.int .i64 0,.int .i64 0,.int .i64 0,.int .i64 0,.int .u16 0,.slice none 0 0] 62)) none:=bj (bj (bl w none) _) _;have ZZ:Bk ((w.alloc (.cells #[.int .i64 v0,.int .i64 v1,.int .i64 v2,.int .i64 v3,.int .i64 v4,.int .i64 v5,.int .u16 v6,.slice A L.length c] 62)).alloc (.cells #[.int .i64 0,.int .i64 0,.int .i64 0,.int .i64 0,.int .i64 0,.int .i64 0,.int .u16 0,.slice none 0 0] 62)) w.heap.size 62 [.int .i64 v0,.int .i64 v1,.int .i64 v2,.int .i64 v3,.int .i64 v4,.int .i64 v5,.int .u16 v6,.slice A L.length c]:=Bk.new.grow (bj (bl _ _) _)
 have Z9:Bk ((w.alloc (.cells #[.int .i64 v0,.int .i64 v1,.int .i64 v2,.int .i64 v3,.int .i64 v4,.int .i64 v5,.int .u16 v6,.slice A L.length c] 62)).alloc (.cells #[.int .i64 0,.int .i64 0,.int .i64 0,.int .i64 0,.int .i64 0,.int .i64 0,.int .u16 0,.slice none 0 0] 62)) (w.heap.size+1) 62 [.int .i64 0,.int .i64 0,.int .i64 0,.int .i64 0,.int .i64 0,.int .i64 0,.int .u16 0,.slice none 0 0]:=by
  have:=Bk.new (w:=w.alloc (.cells #[.int .i64 v0,.int .i64 v1,.int .i64 v2,.int .i64 v3,.int .i64 v4,.int .i64 v5,.int .u16 v6,.slice A L.length c] 62)) (t:=62) (vs:=[.int .i64 0,.int .i64 0,.int .i64 0,.int .i64 0,.int .i64 0,.int .i64 0,.int .u16 0,.slice none 0 0]);simpa using this
 have hsz:((w.alloc (.cells #[.int .i64 v0,.int .i64 v1,.int .i64 v2,.int .i64 v3,.int .i64 v4,.int .i64 v5,.int .u16 v6,.slice A L.length c] 62)).alloc (.cells #[.int .i64 0,.int .i64 0,.int .i64 0,.int .i64 0,.int .i64 0,.int .i64 0,.int .u16 0,.slice none 0 0] 62)).heap.size=w.heap.size+2:=by simp
 generalize(w.alloc (.cells #[.int .i64 v0,.int .i64 v1,.int .i64 v2,.int .i64 v3,.int .i64 v4,.int .i64 v5,.int .u16 v6,.slice A L.length c] 62)).alloc (.cells #[.int .i64 0,.int .i64 0,.int .i64 0,.int .i64 0,.int .i64 0,.int .i64 0,.int .u16 0,.slice none 0 0] 62)=W at *;refine(oZ F L _ W (H.out.grow Zn)).mono ?_;rintro e w3 ⟨y,rfl,Wu,hg⟩;obtain⟨A',c',rfl⟩:=Wu.shape;have ZZ:=ZZ.grow hg;have Z9:=Z9.grow hg;have HG:=Lib.hid (bo Zn hg);have HS:=Lib.hid hsz;have HM:=Lib.hid (Wu.own uF);have k0:=ZZ.cell 0;have k1:=ZZ.cell 1;have k2:=ZZ.cell 2;have k3:=ZZ.cell 3;have k4:=ZZ.cell 4;have k5:=ZZ.cell 5;have k6:=ZZ.cell 6;have k7:=ZZ.cell 7;have f7:=ZZ.free 7;have j0:=Z9.cell 0;have j1:=Z9.cell 1;have j2:=Z9.cell 2;have j3:=Z9.cell 3;have j4:=Z9.cell 4;have j5:=Z9.cell 5;have j6:=Z9.cell 6;have j7:=Z9.cell 7;have g0:=Z9.free 0;have g1:=Z9.free 1;have g2:=Z9.free 2;have g3:=Z9.free 3;have g4:=Z9.free 4;have g5:=Z9.free 5;have g6:=Z9.free 6;have g7:=Z9.free 7;simp only[List.getElem?_cons_zero,List.getElem?_cons_succ]at k0 k1 k2 k3 k4 k5 k6 k7 j0 j1 j2 j3 j4 j5 j6 j7;have Ys:=Z9.hi;have Xp:=ZZ.hi;clear ZZ Z9 hg Zn Wu hsz
 go_wp2_with fail
 refine bodyPost_ret (v:=.agg #[.int .i64 v0,.int .i64 v1,.int .i64 v2,.int .i64 v3,.int .i64 v4,.int .i64 v5,.int .u16 v6,.slice A' L.length c']) (by simp[results,Try.results56,go_sem,j0,j1,j2,j3,j4,j5,j6,j7,Ys]) rfl ?_;refine⟨_,rfl,(HM.out.base' (Nat.le_of_eq HS.out.symm)).above λk hk _=>?_,?_⟩
 ·have:∀j,j<2->k≠w.heap.size+j:=λj hj=>by omega
  have e0:=this 0 (by omega);have e1:=this 1 (by omega);rw[Nat.add_zero]at e0;simp only[cf _ _ _ e0,cf _ _ _ e1]
 ·refine bp (bp (bp (bp (bp (bp (bp (bp (bp HG.out (.inr ?_) _) (.inr ?_) _) (.inr ?_) _) (.inr ?_) _) (.inr ?_) _) (.inr ?_) _) (.inr ?_) _) (.inr ?_) _) (.inr ?_) _
  all_goals (dsimp only;omega)
theorem lQ(F:Nat->Prop)(v0 v1 v2 v3 v4 v5 v6:Int)(L:List Cn4)(y:Value)(w:World)(h:RSl rCn w F L y):
 Calls Try.prog 56 #[.agg #[.int .i64 v0,.int .i64 v1,.int .i64 v2,.int .i64 v3,.int .i64 v4,.int .i64 v5,.int .u16 v6,y]] w λe w'=>
  ∃z,e=.returned (.agg #[.int .i64 v0,.int .i64 v1,.int .i64 v2,.int .i64 v3,.int .i64 v4,.int .i64 v5,.int .u16 v6,z])/\MkO rCn 57 (w.heap.size+2) w' [] z L/\w.grownBy w' none:=pW F (v0,v1,v2,v3,v4,v5,v6,L) y w h
section
variable {α:Type} {R:Rp α} {e:TypeId} {w w':World} {F:Nat->Prop} {N N9:Nat} {b:Value} {xs:List α} {k:Nat}
def u9(R:Rp α)(e:TypeId)(w:World)(F:Nat->Prop)(N N9:Nat)(b:Value)(xs:List α)(k:Nat):Prop:=
 (b=.slice none 0 0/\xs=[])\/∃ql cl c1 c2 fp,b=.slice (some ⟨ql,0,none⟩) xs.length cl/\xs.length<=cl/\cl<=9223372036854775807/\i9 e w ql (cl*R.size) (c1++c2)/\
  gF R w fp (xs.take k) c1/\ek R w F (xs.drop k) c2/\fp.Nodup/\(∀x,x∈fp->N9<=x)/\N<=ql/\ql<N9
theorem kZ(h:Mk R e N w F b xs)(hN:w.heap.size<=N9):u9 R e w F N N9 b xs 0:=by
 obtain⟨cs,h1,h2,h3⟩:=h
 rcases h1.2 with⟨e1,e2⟩|⟨g,cap,cur,e1,YE,Ym,hcap,hmax,hsz,YQ⟩
 ·exact .inl ⟨e1,oEN e2⟩
 ·exact .inr ⟨g,cap,[],cs,[],e1,hcap,by simpa[maxLen]using hmax,⟨cur,Ym,hsz,by rw[List.nil_append,h1.1];exact YQ⟩,by simp[gF],by simpa using h3.sub λx hx=>hx.1,List.nodup_nil,by simp,YE,Nat.lt_of_lt_of_le (Array.getElem?_eq_some_iff.1 Ym).1 hN⟩
theorem u9.keep(h:u9 R e w F N N9 b xs k)(hk:∀x,x<w.heap.size->(F x\/some x=b.ownBlock\/N9<=x)->w'.heap[x]?=w.heap[x]?):u9 R e w' F N N9 b xs k:=by
 rcases h with h|⟨ql,cl,c1,c2,fp,rfl,h1,h2,hV,hO,hR,ZT,hfp,Xp,Ys⟩
 ·exact .inl h
 ·refine .inr ⟨ql,cl,c1,c2,fp,rfl,h1,h2,hV.keep (hk ql hV.hi (.inr (.inl rfl))),hO.keep λx hx=>hk x (hO.live x hx) (.inr (.inr (hfp x hx))),?_,ZT,hfp,Xp,Ys⟩;exact(ek.keep (w':=w') (λx hx=>hk x hx.2 (.inl hx.1)) hR.live).sub λx hx=>hx.1
theorem u9.done(h:u9 R e w F N N9 b xs xs.length)(hl:xs.length<=1099511627776):∃gp,OSl R e w gp xs b/\gp.Nodup/\∀x,x∈gp->N<=x/\(some x=b.ownBlock\/N9<=x):=by
 rcases h with⟨e1,e2⟩|⟨ql,cl,c1,c2,fp,rfl,h1,h2,hV,hO,hR,ZT,hfp,Xp,Ys⟩
 ·exact⟨[],⟨hl,.inl ⟨e1,e2,rfl⟩⟩,List.nodup_nil,by simp⟩
 ·rw[List.take_of_length_le (Nat.le_refl _)]at hO;rw[List.drop_of_length_le (Nat.le_refl _)]at hR;have Y9:c2=[]:=hR;subst Y9;rw[List.append_nil]at hV;refine⟨ql::fp,⟨hl,.inr ⟨ql,cl,c1,fp,rfl,rfl,h1,h2,hV,hO⟩⟩,List.nodup_cons.2 ⟨λhm=>by have:=hfp ql hm;omega,ZT⟩,λx hx=>?_⟩;rcases List.mem_cons.1 hx with rfl|hx
  ·exact⟨Xp,.inl rfl⟩
  ·exact⟨by have:=hfp x hx;omega,.inr (hfp x hx)⟩
structure kE (R:Rp α)(e:TypeId)(w:World)(F:Nat->Prop)(N N9:Nat)(b:Value)(xs:List α)(k ql cl:Nat)(x:α)(c1 d1 d2:List Value)(fp:List Nat):Prop where
 hb:b=.slice (some ⟨ql,0,none⟩) xs.length cl
 l1:xs.length<=cl
 l2:cl<=9223372036854775807
 buf:i9 e w ql (cl*R.size) (c1++(d1++d2))
 own:gF R w fp (xs.take k) c1
 rep:R.rep w F x d1
 reps:ek R w F (xs.drop (k+1)) d2
 nd:fp.Nodup
 fp9:∀x,x∈fp->N9<=x
 ql1:N<=ql
 ql2:ql<N9
 len:c1.length=k*R.size
 tk:xs.take (k+1)=xs.take k++[x]
theorem u9.at_(h:u9 R e w F N N9 b xs k)(hlt:k<xs.length):∃ql cl c1 d1 d2 fp,kE R e w F N N9 b xs k ql cl xs[k] c1 d1 d2 fp:=by
 rcases h with⟨_,e1⟩|⟨ql,cl,c1,c2,fp,e1,h1,h2,hV,hO,hR,ZT,hfp,Xp,Ys⟩
 ·rw[e1]at hlt;simp at hlt
 ·rw[List.drop_eq_getElem_cons hlt]at hR;obtain⟨d1,d2,rfl,hx,TU⟩:=hR;exact⟨ql,cl,c1,d1,d2,fp,e1,h1,h2,hV,hO,hx,TU,ZT,hfp,Xp,Ys,by rw[hO.len,oLT,Nat.min_eq_left (by omega)],List.take_succ_eq_append_getElem hlt⟩
theorem kE.cell{ql cl:Nat}{x:α}{c1 d1 d2:List Value}{fp:List Nat}(h:kE R e w F N N9 b xs k ql cl x c1 d1 d2 fp){j:Nat}{u:Value}(hj:d1[j]?=some u):w.cell? ⟨ql,k*R.size+j,none⟩=some u:=by
 rw[<- h.len];refine h.buf.mid (j:=j) ?_;rw[List.getElem?_append_left (oGS hj).1];exact hj
theorem kE.grow{ql cl:Nat}{x:α}{c1 d1 d2:List Value}{fp:List Nat}(h:kE R e w F N N9 b xs k ql cl x c1 d1 d2 fp)(hg:w.grownBy w' none):kE R e w' F N N9 b xs k ql cl x c1 d1 d2 fp:=
 ⟨h.hb,h.l1,h.l2,h.buf.grow hg,h.own.grow hg,R.grow h.rep hg,h.reps.grow hg,h.nd,h.fp9,h.ql1,h.ql2,h.len,h.tk⟩
theorem kE.step{ql cl:Nat}{x:α}{c1 d1 d2 d1':List Value}{fp gp:List Nat}(h:kE R e w F N N9 b xs k ql cl x c1 d1 d2 fp)(hF:∀j,F j->j<N)(hw:∀j,j<w.heap.size->j≠ql->w'.heap[j]?=w.heap[j]?)(h9:N9<=w.heap.size)
 (hV:i9 e w' ql (cl*R.size) (c1++(d1'++d2)))(ho:R.own w' gp x d1')(ZT:gp.Nodup)(T1:∀j,j∈gp->w.heap.size<=j):u9 R e w' F N N9 b xs (k+1):=by
 refine .inr ⟨ql,cl,c1++d1',d2,fp++gp,h.hb,h.l1,h.l2,by simpa using hV,?_,?_,?_,?_,h.ql1,h.ql2⟩
 ·rw[h.tk];exact(h.own.keep λj hj=>hw j (h.own.live j hj) (by have:=h.fp9 j hj;have:=h.ql2;omega)).append (gF.single ho)
 ·exact(ek.keep (w':=w') (λj hj=>hw j hj.2 (by have:=hF j hj.1;have:=h.ql1;omega)) h.reps.live).sub λj hj=>hj.1
 ·exact List.nodup_append.2 ⟨h.nd,ZT,λa ha c hc e=>by have:=h.own.live a ha;have:=T1 c hc;omega⟩
 ·intro j hj;rcases List.mem_append.1 hj with hj|hj
  ·exact h.fp9 j hj
  ·have:=T1 j hj;omega
end
structure StC (C:List (List Cn4))(T:List Vw8)(w:World)(F:Nat->Prop)(N q1 N9:Nat)(a b:Value)(i k:Nat)(wr:World):Prop where
 grown:w.grownBy wr none
 size:N9<=wr.heap.size
 res:Bk wr (q1+1) 31 [.slice none 0 0,.slice none 0 0]
 out:Bk wr q1 31 [a,b]
 rg:u9 rCs 53 wr F N N9 a C i
 ts:u9 rVw 62 wr F N N9 b T k
 ne:∀x,some x=a.ownBlock->some x≠b.ownBlock
 hq:q1+2=N
 hN:N<=N9
 hw:w.heap.size<=q1
 hF:∀x,F x->x<q1
theorem StC.stepR{C:List (List Cn4)}{T:List Vw8}{w wr w':World}{F:Nat->Prop}{N q1 N9:Nat}{a b:Value}{i k ql cl:Nat}{x:List Cn4}{c1 d1 d2 d1':List Value}{fp gp:List Nat}(h:StC C T w F N q1 N9 a b i k wr)
 (hA:kE rCs 53 wr F N N9 a C i ql cl x c1 d1 d2 fp)(hg:wr.grownBy w' (some ql))(hV:i9 53 w' ql (cl*rCs.size) (c1++(d1'++d2)))(ho:rCs.own w' gp x d1')(ZT:gp.Nodup)(T1:∀j,j∈gp->wr.heap.size<=j):StC C T w F N q1 N9 a b (i+1) k w':=by
 have hw:∀j,j<wr.heap.size->j≠ql->w'.heap[j]?=wr.heap[j]?:=λj h1 h2=>hg.block j h1 (λe=>by injection e with e;exact h2 e);have h1:=hA.ql1;have h2:=hA.ql2;have h3:=h.hq;have h4:=h.hN;have h5:=h.hw
 have hb:some ql=a.ownBlock:=by rw[hA.hb];rfl
 refine⟨gy h.grown hg λe e'=>by injection e' with e';omega,by have:=h.size;have:=hg.size;omega,h.res.keep (hw _ h.res.hi (by omega)),h.out.keep (hw _ h.out.hi (by omega)),hA.step (λj hj=>by have:=h.hF j hj;omega) hw h.size hV ho ZT T1,h.ts.keep λj hj hc=>hw j hj ?_,h.ne,h.hq,h.hN,h.hw,h.hF⟩;rintro rfl;rcases hc with hc|hc|hc
 ·have:=h.hF j hc;omega
 ·exact h.ne j hb hc
 ·omega
theorem u9.raise{α:Type}{R:Rp α}{e:TypeId}{w:World}{F:Nat->Prop}{N N9 M9:Nat}{b:Value}{xs:List α}(h:u9 R e w F N N9 b xs 0)(Yr:N9<=M9):u9 R e w F N M9 b xs 0:=by
 rcases h with h|⟨ql,cl,c1,c2,fp,h1,h2,h3,hV,hO,hR,ZT,hfp,Xp,Ys⟩
 ·exact .inl h
 ·have e0:fp=[]:=by simpa[gF]using hO.2
  subst e0;exact .inr ⟨ql,cl,c1,c2,[],h1,h2,h3,hV,hO,hR,ZT,by simp,Xp,Nat.lt_of_lt_of_le Ys Yr⟩
structure StD (C:List (List Cn4))(T:List Vw8)(w:World)(F:Nat->Prop)(N q1 M9:Nat)(a b:Value)(k:Nat)(wr:World):Prop where
 grown:w.grownBy wr none
 size:M9<=wr.heap.size
 res:Bk wr (q1+1) 31 [.slice none 0 0,.slice none 0 0]
 out:Bk wr q1 31 [a,b]
 rg:∃fp,OSl rCs 53 wr fp C a/\fp.Nodup/\∀x,x∈fp->N<=x/\x<M9/\some x≠b.ownBlock
 ts:u9 rVw 62 wr F N M9 b T k
 hq:q1+2=N
 hN:N<=M9
 hw:w.heap.size<=q1
 hF:∀x,F x->x<q1
theorem StC.second{C:List (List Cn4)}{T:List Vw8}{w wr:World}{F:Nat->Prop}{N q1 N9:Nat}{a b:Value}(h:StC C T w F N q1 N9 a b C.length 0 wr)(hl:C.length<=1099511627776):StD C T w F N q1 wr.heap.size a b 0 wr:=by
 obtain⟨fp,h1,h2,h3⟩:=h.rg.done hl;refine⟨h.grown,Nat.le_refl _,h.res,h.out,⟨fp,h1,h2,λx hx=>⟨(h3 x hx).1,h1.live x hx,λe=>?_⟩⟩,h.ts.raise h.size,h.hq,Nat.le_trans h.hN h.size,h.hw,h.hF⟩
 rcases(h3 x hx).2 with h4|h4
 ·exact h.ne x h4 e
 ·rcases h.ts with⟨e1,_⟩|⟨ql,cl,c1,c2,gp,e1,_,_,_,_,_,_,_,_,Ys⟩
  ·rw[e1]at e;cases e
  ·rw[e1]at e
   injection e with e
   have e:x=ql:=e;omega
theorem StD.stepT{C:List (List Cn4)}{T:List Vw8}{w wr w':World}{F:Nat->Prop}{N q1 M9:Nat}{a b:Value}{k ql cl:Nat}{x:Vw8}{c1 d1 d2 d1':List Value}{fp gp:List Nat}(h:StD C T w F N q1 M9 a b k wr)
 (hA:kE rVw 62 wr F N M9 b T k ql cl x c1 d1 d2 fp)(hg:wr.grownBy w' (some ql))(hV:i9 62 w' ql (cl*rVw.size) (c1++(d1'++d2)))(ho:rVw.own w' gp x d1')(ZT:gp.Nodup)(T1:∀j,j∈gp->wr.heap.size<=j):StD C T w F N q1 M9 a b (k+1) w':=by
 have hw:∀j,j<wr.heap.size->j≠ql->w'.heap[j]?=wr.heap[j]?:=λj h1 h2=>hg.block j h1 (λe=>by injection e with e;exact h2 e);have h1:=hA.ql1;have h2:=hA.ql2;have h3:=h.hq;have h4:=h.hN;have h5:=h.hw
 have hb:some ql=b.ownBlock:=by rw[hA.hb];rfl
 refine⟨gy h.grown hg λe e'=>by injection e' with e';omega,by have:=h.size;have:=hg.size;omega,h.res.keep (hw _ h.res.hi (by omega)),h.out.keep (hw _ h.out.hi (by omega)),?_,hA.step (λj hj=>by have:=h.hF j hj;omega) hw h.size hV ho ZT T1,h.hq,h.hN,h.hw,h.hF⟩;obtain⟨fp,r1,r2,r3⟩:=h.rg;exact⟨fp,r1.keep λj hj=>hw j (r1.live j hj) (λe=>(r3 j hj).2.2 (by rw[e];exact hb)),r2,r3⟩
def Cp(C:List (List Cn4))(T:List Vw8)(w:World)(e:Ending)(w':World):Prop:=
 ∃a b fp gp,e=.returned (.agg #[a,b])/\OSl rCs 53 w' fp C a/\OSl rVw 62 w' gp T b/\(fp++gp).Nodup/\(∀x,x∈fp++gp->w.heap.size+2<=x)/\w.grownBy w' none
set_option maxRecDepth 100000 in
set_option maxHeartbeats 4000000 in
theorem jv(F:Nat->Prop)(C:List (List Cn4))(T:List Vw8)(u v:Value)(w:World)(hu:RSl rCs w F C u)(hv:RSl rVw w F T v):
 Calls Try.prog 33 #[.agg #[u,v]] w (Cp C T w):=by
 have HU:=Lib.hid hu;have HV:=Lib.hid hv;obtain⟨A1,c1,rfl,_,_,UM⟩:=hu.size_eq;obtain⟨A2,c2,rfl,_,_,US⟩:=hv.size_eq;clear hu hv
 go_enter Try.func33,Try.ntmps33
 go_upto_region 1 with fail
 have Zn:w.grownBy ((w.alloc (.cells #[.slice A1 C.length c1,.slice A2 T.length c2] 31)).alloc (.cells #[.slice none 0 0,.slice none 0 0] 31)) none:=bj (bj (bl w none) _) _;have ZZ:Bk ((w.alloc (.cells #[.slice A1 C.length c1,.slice A2 T.length c2] 31)).alloc (.cells #[.slice none 0 0,.slice none 0 0] 31)) w.heap.size 31 [.slice A1 C.length c1,.slice A2 T.length c2]:=Bk.new.grow (bj (bl _ _) _)
 have Z9:Bk ((w.alloc (.cells #[.slice A1 C.length c1,.slice A2 T.length c2] 31)).alloc (.cells #[.slice none 0 0,.slice none 0 0] 31)) (w.heap.size+1) 31 [.slice none 0 0,.slice none 0 0]:=by
  have:=Bk.new (w:=w.alloc (.cells #[.slice A1 C.length c1,.slice A2 T.length c2] 31)) (t:=31) (vs:=[.slice none 0 0,.slice none 0 0]);simpa using this
 have hN:w.heap.size+2=((w.alloc (.cells #[.slice A1 C.length c1,.slice A2 T.length c2] 31)).alloc (.cells #[.slice none 0 0,.slice none 0 0] 31)).heap.size:=by simp
 generalize(w.alloc (.cells #[.slice A1 C.length c1,.slice A2 T.length c2] 31)).alloc (.cells #[.slice none 0 0,.slice none 0 0] 31)=W at *;have Ot:=Lib.hid Zn;have VE:=Lib.hid ZZ;have WI:=Lib.hid Z9;have Xm:=Lib.hid hN;have Ow:=Lib.hid (HU.out.live.grow Zn);have Ox:=Lib.hid (HV.out.live.grow Zn);have k0:=ZZ.cell 0;have k1:=ZZ.cell 1;have f0:=ZZ.free 0;have f1:=ZZ.free 1;simp only[List.getElem?_cons_zero,List.getElem?_cons_succ]at k0 k1;clear Zn ZZ Z9 HU HV
 go_cut []from 7 to 15 (λwx=>∃(A3:Option Addr)(c3:Nat)(A4:Option Addr)(c4 N9:Nat),StC C T w (λk=>F k/\k<w.heap.size) W.heap.size w.heap.size N9 (.slice A3 C.length c3) (.slice A4 T.length c4) 0 0 wx)
 case first=>
  go_region_with (first
   |(go_at_call 53;refine(uV (λk=>F k/\k<w.heap.size) C _ _ (Ow.out.grow (df (bl _ _)))).mono ?_;rintro e w3 ⟨a,rfl,UZ,Vm⟩;obtain⟨A3,c3,rfl⟩:=UZ.shape;have Vm:=bo (df (bl W none)) Vm;have m0:=(VE.out.grow Vm).cell 0;have m1:=(VE.out.grow Vm).cell 1;have n0:=(VE.out.grow Vm).free 0;have n1:=(VE.out.grow Vm).free 1;simp only[List.getElem?_cons_zero,List.getElem?_cons_succ]at m0 m1;have WJ:=Lib.hid Vm;have Ou:=Lib.hid UZ;clear UZ Vm)
   |(go_at_call 54;refine(uU (λk=>F k/\k<w.heap.size) T _ _ (Ox.out.grow WJ.out)).mono ?_;rintro e w4 ⟨b,rfl,T7,UX⟩;obtain⟨A4,c4,rfl⟩:=T7.shape;have p0:=((VE.out.grow WJ.out).grow UX).cell 0;have p1:=((VE.out.grow WJ.out).grow UX).cell 1;have r0:=((VE.out.grow WJ.out).grow UX).free 0;have r1:=((VE.out.grow WJ.out).grow UX).free 1;simp only[List.getElem?_cons_zero,List.getElem?_cons_succ]at p0 p1;have PN:=Lib.hid UX;have Mp:=Lib.hid T7;clear T7 UX))
  all_goals
   have HS:=Lib.hid (show StC C T w (λk=>F k/\k<w.heap.size) W.heap.size w.heap.size w4.heap.size (.slice A3 C.length c3) (.slice A4 T.length c4) 0 0 ((w4.setCell ⟨w.heap.size,0,none⟩ (.slice A3 C.length c3)).setCell ⟨w.heap.size,1,none⟩ (.slice A4 T.length c4))from by
    have h1:=Xm.out;have h2:=WJ.out.size;have h3:=PN.out.size;have Y4:=bo WJ.out PN.out
    have hx:∀x,x≠w.heap.size->((w4.setCell ⟨w.heap.size,0,none⟩ (.slice A3 C.length c3)).setCell ⟨w.heap.size,1,none⟩ (.slice A4 T.length c4)).heap[x]?=w4.heap[x]?:=λx hx=>by rw[cf _ _ _ hx,cf _ _ _ hx]
    have UZ:Mk rCs 53 W.heap.size w4 (λk=>F k/\k<w.heap.size) (.slice A3 C.length c3) C:=Ou.out.grow PN.out;have T7:Mk rVw 62 w3.heap.size w4 (λk=>F k/\k<w.heap.size) (.slice A4 T.length c4) T:=Mp.out;have S3:Mk rVw 62 W.heap.size w4 (λk=>F k/\k<w.heap.size) (.slice A4 T.length c4) T:=T7.base h2;refine⟨bp (bp (bo Ot.out Y4) (.inr (Nat.le_refl _)) _) (.inr (Nat.le_refl _)) _,by rw[vy,vy];exact Nat.le_refl _,((WI.out.grow Y4).other (by omega) _).other (by omega) _,ww (VE.out.grow Y4) _ _,?_,?_,?_,by omega,by omega,Nat.le_refl _,λx h=>h.2⟩
    ·refine(kZ UZ (Nat.le_refl _)).keep λx _ hc=>hx x ?_;rcases hc with hc|hc|hc
     ·have:=hc.2;omega
     ·have:=(UZ.row x hc.symm).1;omega
     ·omega
    ·refine(kZ S3 (Nat.le_refl _)).keep λx _ hc=>hx x ?_;rcases hc with hc|hc|hc
     ·have:=hc.2;omega
     ·have:=(S3.row x hc.symm).1;omega
     ·omega
    ·intro x e1 e2;have r1:=(Ou.out.row x e1.symm).2;have r2:=(T7.row x e2.symm).1
     omega)
   go_wp2_with fail
   go_meet
   exact⟨A3,c3,A4,c4,w4.heap.size,HS.out⟩
 case rest=>
  obtain⟨A3,c3,A4,c4,N9,hS⟩:=hcut;have HS:=Lib.hid hS;clear hS Ow Ox VE WI Ot Xm k0 k1 f0 f1;generalize W.heap.size=N at *;have k0:=HS.out.out.cell 0;simp only[List.getElem?_cons_zero,List.getElem?_cons_succ]at k0
  go_wp2_with fail
  generalize hae:Value.slice A3 C.length c3=a at *;generalize hbe:Value.slice A4 T.length c4=b at *;have Oz:=Lib.hid hae;have R7:=Lib.hid hbe;clear hae hbe k0
  go_loopw [18] (λi wr=>∃k:Nat,k<=C.length/\i=.int .i64 k/\StC C T w (λk=>F k/\k<w.heap.size) N w.heap.size N9 a b k 0 wr) (λi _=>C.length-(intOf i).toNat)
  case atStart=>exact⟨0,Nat.zero_le _,rfl,HS.out⟩
  case round=>
   obtain⟨k,hk,rfl,hst⟩:=hrel;have HN:=Lib.hid hst;clear hst HS;by_cases hlt:k<C.length
   ·obtain⟨ql,cl,d0,d1,d2,fp,hA⟩:=HN.out.rg.at_ hlt;generalize C[k]=x at hA;obtain⟨v,rfl,hv⟩:=hA.rep;obtain⟨LA,lc,rfl,_,_,UQ⟩:=hv.size_eq;have WO:=hA.hb;subst WO;have HA:=Lib.hid hA;have HV:=Lib.hid hv
    have g0:wr.cell? ⟨ql,k,none⟩=some (.slice LA x.length lc):=by
     have:=hA.cell (j:=0) rfl;rw[show k*rCs.size+0=k from Nat.mul_one k]at this;exact this
    have gf:=hA.buf.free k;have k0:=HN.out.out.cell 0;have kq:=hA.ql1;have kn:=HN.out.hq
    have ND:¬ql=w.heap.size:=by omega
    have Q8:¬w.heap.size=ql:=by omega
    simp only[List.getElem?_cons_zero,List.getElem?_cons_succ]at k0
    have x2:(0:Int)<=(k:Int):=by omega
    have x3:(k:Int)<(C.length:Int):=by omega
    have x5:(k:Int).toNat=k:=by omega
    have hcap:=hA.l1;clear hA hv kq kn
    go_upto_region 5 with fail
    go_region_with (go_at_call 55;refine(oZ (λk=>F k/\k<w.heap.size) x _ _ (HV.out.grow (df (bl _ _)))).mono ?_;rintro e w6 ⟨y,rfl,Uy,VJ⟩;obtain⟨A6,c6,rfl⟩:=Uy.shape;have VJ:=bo (df (bl wr none)) VJ;have m0:=(HN.out.out.grow VJ).cell 0;simp only[List.getElem?_cons_zero,List.getElem?_cons_succ]at m0;have mf:=(HA.out.buf.grow VJ).free k;(have mc:w6.cell? ⟨ql,k,none⟩=some (.slice LA x.length lc):=(by(have:=(HA.out.grow VJ).cell (j:=0) rfl;rw[show k*rCs.size+0=k from Nat.mul_one k]at this;exact this)));have Ue:=Lib.hid VJ;have PQ:=Lib.hid (Uy.own uF);clear Uy VJ)
    all_goals
     obtain⟨gp,UA,Yi,Yj⟩:=PQ.out.done;replace Yj:∀b,b∈gp->wr.heap.size<=b:=Yj;have PB:=(HA.out.grow Ue.out).buf.setmid (j:=0) (by simp) (.slice A6 x.length c6);have MM:=HA.out.len;have Z6:rCs.size=1:=rfl;rw[MM,Z6,Nat.mul_one,Nat.add_zero]at PB;have NF:=HA.out.ql1;have YL:=Ue.out.size;have Uf:=Lib.hid (HN.out.stepR (d1':=[.slice A6 x.length c6]) HA.out (bp (p:=⟨ql,k,none⟩) (lI (row:=some ql) Ue.out) (.inl rfl) (.slice A6 x.length c6)) (by rw[Z6];exact PB) ⟨_,rfl,UA.keep λb hb=>cf _ _ _ (by have:=Yj b hb;have:=HA.out.buf.hi;omega)⟩ Yi Yj)
     go_wp2_with fail
     go_roundw
     case rel=>exact⟨k+1,by omega,by go_num,Uf.out⟩
     case measure=>simp[intOf];omega
   ·have QT:k=C.length:=by omega
    subst QT;have k1:=HN.out.out.cell 1;simp only[List.getElem?_cons_zero,List.getElem?_cons_succ]at k1;clear hlt;rw[<- R7.out]at k1
    go_upto_region 8 with fail
    rw[R7.out]at k1;rw[R7.out];clear k1;have HN:=Lib.hid (HN.out.second UM);generalize wr.heap.size=M9 at HN
    go_loopw [33] (λi wr=>∃k:Nat,k<=T.length/\i=.int .i64 k/\StD C T w (λk=>F k/\k<w.heap.size) N w.heap.size M9 a b k wr) (λi _=>T.length-(intOf i).toNat)
    case atStart=>exact⟨0,Nat.zero_le _,rfl,HN.out⟩
    case round=>
     obtain⟨k,hk,rfl,hst⟩:=hrel;have HN:=Lib.hid hst;clear hst;by_cases hlt:k<T.length
     ·obtain⟨ql,cl,d0,d1,d2,fp,hA⟩:=HN.out.ts.at_ hlt;generalize T[k]=x at hA;obtain⟨v,rfl,hv⟩:=Cz hA.rep;obtain⟨LA,lc,rfl,_,_,UQ⟩:=hv.size_eq;have WO:=hA.hb;subst WO;have HA:=Lib.hid hA;have HV:=Lib.hid hv;obtain⟨v0,v1,v2,v3,v4,v5,v6,L⟩:=x;have e8:∀j,k*rVw.size+j=k*8+j:=λj=>rfl;have g0:=hA.cell (j:=0) rfl;have g1:=hA.cell (j:=1) rfl;have g2:=hA.cell (j:=2) rfl;have g3:=hA.cell (j:=3) rfl;have g4:=hA.cell (j:=4) rfl;have g5:=hA.cell (j:=5) rfl;have g6:=hA.cell (j:=6) rfl;have g7:=hA.cell (j:=7) rfl;simp only[e8,Nat.add_zero]at g0 g1 g2 g3 g4 g5 g6 g7;have kq:=hA.ql1;have kn:=HN.out.hq
      have ND:¬ql=w.heap.size:=by omega
      have Q8:¬w.heap.size=ql:=by omega
      have x2:(0:Int)<=(k:Int):=by omega
      have x3:(k:Int)<(T.length:Int):=by omega
      have x5:(k:Int).toNat=k:=by omega
      have hcap:=hA.l1;dsimp only at HV UQ⊢;have XN:wr.grownBy (wr.alloc (.cells #[.int .i64 v0,.int .i64 v1,.int .i64 v2,.int .i64 v3,.int .i64 v4,.int .i64 v5,.int .u16 v6,.slice LA L.length lc] 62)) none:=bj (bl _ _) _;have VG:Bk (wr.alloc (.cells #[.int .i64 v0,.int .i64 v1,.int .i64 v2,.int .i64 v3,.int .i64 v4,.int .i64 v5,.int .u16 v6,.slice LA L.length lc] 62)) wr.heap.size 62 [.int .i64 v0,.int .i64 v1,.int .i64 v2,.int .i64 v3,.int .i64 v4,.int .i64 v5,.int .u16 v6,.slice LA L.length lc]:=Bk.new;clear hA hv kq kn
      go_upto_region 10 with fail
      generalize wr.alloc (.cells #[.int .i64 v0,.int .i64 v1,.int .i64 v2,.int .i64 v3,.int .i64 v4,.int .i64 v5,.int .u16 v6,.slice LA L.length lc] 62)=W6 at *;have WJ:=Lib.hid XN;have LL:=Lib.hid VG;have k1:=(HN.out.out.grow XN).cell 1;have y0:=VG.cell 0;have y1:=VG.cell 1;have y2:=VG.cell 2;have y3:=VG.cell 3;have y4:=VG.cell 4;have y5:=VG.cell 5;have y6:=VG.cell 6;have y7:=VG.cell 7;simp only[List.getElem?_cons_zero,List.getElem?_cons_succ]at k1 y0 y1 y2 y3 y4 y5 y6 y7;clear XN VG g0 g1 g2 g3 g4 g5 g6 g7
      go_region_with (go_at_call 56;refine(lQ (λk=>F k/\k<w.heap.size) v0 v1 v2 v3 v4 v5 v6 L _ _ ((HV.out.grow WJ.out).grow (df (bl _ _)))).mono ?_;rintro e w7 ⟨y,rfl,Uy,VJ⟩;obtain⟨A7,c7,rfl⟩:=Uy.shape;have XY:=bo WJ.out (bo (df (bl W6 none)) VJ);have m1:=(HN.out.out.grow XY).cell 1;simp only[List.getElem?_cons_zero,List.getElem?_cons_succ]at m1;have o0:=(HA.out.grow XY).cell (j:=0) rfl;have o1:=(HA.out.grow XY).cell (j:=1) rfl;have o2:=(HA.out.grow XY).cell (j:=2) rfl;have o3:=(HA.out.grow XY).cell (j:=3) rfl;have o4:=(HA.out.grow XY).cell (j:=4) rfl;have o5:=(HA.out.grow XY).cell (j:=5) rfl;have o6:=(HA.out.grow XY).cell (j:=6) rfl;have o7:=(HA.out.grow XY).cell (j:=7) rfl;have z0:=(HA.out.buf.grow XY).free (k*8+0);have z1:=(HA.out.buf.grow XY).free (k*8+1);have z2:=(HA.out.buf.grow XY).free (k*8+2);have z3:=(HA.out.buf.grow XY).free (k*8+3);have z4:=(HA.out.buf.grow XY).free (k*8+4);have z5:=(HA.out.buf.grow XY).free (k*8+5);have z6:=(HA.out.buf.grow XY).free (k*8+6);have z7:=(HA.out.buf.grow XY).free (k*8+7);simp only[e8,Nat.add_zero]at o0 o1 o2 o3 o4 o5 o6 o7 z0 z1 z2 z3 z4 z5 z6 z7;have Ue:=Lib.hid XY;have PQ:=Lib.hid Uy;clear Uy VJ XY)
      all_goals
       obtain⟨gp,UA,Yi,Yj⟩:=PQ.out.done
       replace Yj:∀b,b∈gp->wr.heap.size+1<=b:=λb hb=>by
        have h1:W6.heap.size+2<=b:=Yj b hb;have h2:=WJ.out.size;omega
       have WA:=(HA.out.buf.grow Ue.out);have hl:=HA.out.len;have NI:rVw.size=8:=rfl;rw[NI]at hl;have To:=WA.setmid (j:=0) (by simp[vwC]) (.int .i64 v0);have Zf:=To.setmid (j:=1) (by simp[vwC]) (.int .i64 v1);have Y6:=Zf.setmid (j:=2) (by simp[vwC]) (.int .i64 v2);have UE:=Y6.setmid (j:=3) (by simp[vwC]) (.int .i64 v3);have Tp:=UE.setmid (j:=4) (by simp[vwC]) (.int .i64 v4);have Tq:=Tp.setmid (j:=5) (by simp[vwC]) (.int .i64 v5);have Tr:=Tq.setmid (j:=6) (by simp[vwC]) (.int .u16 v6);have UF:=Tr.setmid (j:=7) (by simp[vwC]) (.slice A7 L.length c7);simp only[hl,Nat.add_zero,vwC,List.cons_append,List.nil_append,List.set_cons_zero,List.set_cons_succ]at UF;have LZ:=Ue.out.size
       have hset:∀x,x≠ql->((((((((w7.setCell ⟨ql,k*8,none⟩ (.int .i64 v0)).setCell ⟨ql,k*8+1,none⟩ (.int .i64 v1)).setCell ⟨ql,k*8+2,none⟩ (.int .i64 v2)).setCell ⟨ql,k*8+3,none⟩ (.int .i64 v3)).setCell ⟨ql,k*8+4,none⟩ (.int .i64 v4)).setCell ⟨ql,k*8+5,none⟩ (.int .i64 v5)).setCell ⟨ql,k*8+6,none⟩ (.int .u16 v6)).setCell ⟨ql,k*8+7,none⟩ (.slice A7 L.length c7)).heap[x]?=w7.heap[x]?:=λx hx=>by simp only[cf _ _ _ hx]
       have Ym:wr.grownBy ((((((((w7.setCell ⟨ql,k*8,none⟩ (.int .i64 v0)).setCell ⟨ql,k*8+1,none⟩ (.int .i64 v1)).setCell ⟨ql,k*8+2,none⟩ (.int .i64 v2)).setCell ⟨ql,k*8+3,none⟩ (.int .i64 v3)).setCell ⟨ql,k*8+4,none⟩ (.int .i64 v4)).setCell ⟨ql,k*8+5,none⟩ (.int .i64 v5)).setCell ⟨ql,k*8+6,none⟩ (.int .u16 v6)).setCell ⟨ql,k*8+7,none⟩ (.slice A7 L.length c7)) (some ql):=
        bp (p:=⟨ql,k*8+7,none⟩) (bp (p:=⟨ql,k*8+6,none⟩) (bp (p:=⟨ql,k*8+5,none⟩) (bp (p:=⟨ql,k*8+4,none⟩) (bp (p:=⟨ql,k*8+3,none⟩) (bp (p:=⟨ql,k*8+2,none⟩) (bp (p:=⟨ql,k*8+1,none⟩) (bp (p:=⟨ql,k*8,none⟩) (lI (row:=some ql) Ue.out) (.inl rfl) _) (.inl rfl) _) (.inl rfl) _) (.inl rfl) _) (.inl rfl) _) (.inl rfl) _) (.inl rfl) _) (.inl rfl) _
       have Tm:=HA.out.buf.hi;have Uf:=Lib.hid (HN.out.stepT (d1':=vwC (v0,v1,v2,v3,v4,v5,v6,L) (.slice A7 L.length c7)) HA.out Ym (by simpa[vwC]using UF) (Cy (UA.keep λb hb=>hset b (by have:=Yj b hb;omega))) Yi (λb hb=>by have:=Yj b hb;omega));clear To Zf Y6 UE Tp Tq Tr UF hset Ym UA Yi Yj WA
       go_wp2_with fail
       go_roundw
       case rel=>exact⟨k+1,by omega,by go_num,Uf.out⟩
       case measure=>simp[intOf];omega
     ·have QT:k=T.length:=by omega
      subst QT;have j0:=HN.out.out.cell 0;have j1:=HN.out.out.cell 1;have r2:=HN.out.res.hi;have r0:=HN.out.res.cell 0;have r1:=HN.out.res.cell 1;have f0:=HN.out.res.free 0;have f1:=HN.out.res.free 1;simp only[List.getElem?_cons_zero,List.getElem?_cons_succ]at j0 j1 r0 r1;have ea:=Oz.out;have eb:=R7.out;subst ea;subst eb;clear Oz R7
      go_wp2_with fail
      refine bodyPost_ret (v:=.agg #[.slice A3 C.length c3,.slice A4 T.length c4]) (by simp[results,Try.results33,go_sem,r0,r1,r2]) rfl ?_;obtain⟨fp,o1,o2,o3⟩:=HN.out.rg;obtain⟨gp,p1,p2,p3⟩:=HN.out.ts.done US;have L4:=HN.out.hq;have LW:=HN.out.hN;refine⟨_,_,fp,gp,rfl,o1.keep λb hb=>?_,p1.keep λb hb=>?_,List.nodup_append.2 ⟨o2,p2,λx hx y hy e=>?_⟩,λx hx=>?_,bp (bp HN.out.grown (.inr (Nat.le_succ _)) _) (.inr (Nat.le_succ _)) _⟩
      ·have h1:=(o3 b hb).1
       have h2:b≠w.heap.size+1:=by omega
       rw[cf _ _ _ h2,cf _ _ _ h2]
      ·have h1:=(p3 b hb).1
       have h2:b≠w.heap.size+1:=by omega
       rw[cf _ _ _ h2,cf _ _ _ h2]
      ·subst e
       rcases(p3 x hy).2 with h|h
       ·exact(o3 x hx).2.2 h
       ·have:=(o3 x hx).2.1;omega
      ·rcases List.mem_append.1 hx with h|h
       ·have:=(o3 x h).1;omega
       ·have:=(p3 x h).1;omega
set_option maxRecDepth 100000 in
set_option maxHeartbeats 4000000 in
theorem Bo(F:Nat->Prop)(C:List (List Cn4))(T:List Vw8)(r i:Int)(cells:List Cn4)(v0 v1 v2 v3 v4 v5 v6:Int)(L:List Cn4)(U V Y Z:Value)(w:World)(fe:Int)
 (hu:RSl rCs w F C U)(hv:RSl rVw w F T V)(hy:RSl rCn w F cells Y)(hz:RSl rCn w F L Z)
 (ZU:∀w',w.grownBy w' none->Calls Try.prog 58 #[.agg #[U,V],.agg #[.int .i64 r,.int .i64 i]] w' λe w2=>e=.returned (.int .i64 fe)/\w'.grownBy w2 none)(hne:(fe != 0)=true):
 Calls Try.prog 37 #[.agg #[U,V],.agg #[.int .i64 r,.int .i64 i,Y,.int .i64 v0,.int .i64 v1,.int .i64 v2,.int .i64 v3,.int .i64 v4,.int .i64 v5,.int .u16 v6,Z]] w (λe w'=>e=.returned (.tuple #[.agg #[.slice none 0 0,.slice none 0 0],.int .i64 fe])/\w.grownBy w' none):=by
 have HU:=Lib.hid hu;have HV:=Lib.hid hv;have HY:=Lib.hid hy;have HZ:=Lib.hid hz;obtain⟨A1,c1,rfl,_,_,UM⟩:=hu.size_eq;obtain⟨A2,c2,rfl,_,_,US⟩:=hv.size_eq;obtain⟨A3,c3,rfl,_,_,hcl⟩:=hy.size_eq;obtain⟨A4,c4,rfl,_,_,UQ⟩:=hz.size_eq;have HF:=Lib.hid ZU;clear hu hv hy hz ZU
 go_enter Try.func37,Try.ntmps37
 go_upto_region 1 with fail
 have Zn:w.grownBy (((w.alloc (.cells #[.slice A1 C.length c1,.slice A2 T.length c2] 31)).alloc (.cells #[.int .i64 r,.int .i64 i,.slice A3 cells.length c3,.int .i64 v0,.int .i64 v1,.int .i64 v2,.int .i64 v3,.int .i64 v4,.int .i64 v5,.int .u16 v6,.slice A4 L.length c4] 75)).alloc (.cells #[.slice none 0 0,.slice none 0 0] 31)) none:=bj (bj (bj (bl w none) _) _) _;have Z9:Bk (((w.alloc (.cells #[.slice A1 C.length c1,.slice A2 T.length c2] 31)).alloc (.cells #[.int .i64 r,.int .i64 i,.slice A3 cells.length c3,.int .i64 v0,.int .i64 v1,.int .i64 v2,.int .i64 v3,.int .i64 v4,.int .i64 v5,.int .u16 v6,.slice A4 L.length c4] 75)).alloc (.cells #[.slice none 0 0,.slice none 0 0] 31)) w.heap.size 31 [.slice A1 C.length c1,.slice A2 T.length c2]:=(Bk.new.grow (bj (bl _ _) _)).grow (bj (bl _ _) _)
 have Z8:Bk (((w.alloc (.cells #[.slice A1 C.length c1,.slice A2 T.length c2] 31)).alloc (.cells #[.int .i64 r,.int .i64 i,.slice A3 cells.length c3,.int .i64 v0,.int .i64 v1,.int .i64 v2,.int .i64 v3,.int .i64 v4,.int .i64 v5,.int .u16 v6,.slice A4 L.length c4] 75)).alloc (.cells #[.slice none 0 0,.slice none 0 0] 31)) (w.heap.size+1) 75 [.int .i64 r,.int .i64 i,.slice A3 cells.length c3,.int .i64 v0,.int .i64 v1,.int .i64 v2,.int .i64 v3,.int .i64 v4,.int .i64 v5,.int .u16 v6,.slice A4 L.length c4]:=by
  have h:=(Bk.new (w:=w.alloc (.cells #[.slice A1 C.length c1,.slice A2 T.length c2] 31)) (t:=75) (vs:=[.int .i64 r,.int .i64 i,.slice A3 cells.length c3,.int .i64 v0,.int .i64 v1,.int .i64 v2,.int .i64 v3,.int .i64 v4,.int .i64 v5,.int .u16 v6,.slice A4 L.length c4])).grow (bj (bl _ _) (.cells #[.slice none 0 0,.slice none 0 0] 31));simpa using h
 have ZS:Bk (((w.alloc (.cells #[.slice A1 C.length c1,.slice A2 T.length c2] 31)).alloc (.cells #[.int .i64 r,.int .i64 i,.slice A3 cells.length c3,.int .i64 v0,.int .i64 v1,.int .i64 v2,.int .i64 v3,.int .i64 v4,.int .i64 v5,.int .u16 v6,.slice A4 L.length c4] 75)).alloc (.cells #[.slice none 0 0,.slice none 0 0] 31)) (w.heap.size+2) 31 [.slice none 0 0,.slice none 0 0]:=by
  have h:=Bk.new (w:=(w.alloc (.cells #[.slice A1 C.length c1,.slice A2 T.length c2] 31)).alloc (.cells #[.int .i64 r,.int .i64 i,.slice A3 cells.length c3,.int .i64 v0,.int .i64 v1,.int .i64 v2,.int .i64 v3,.int .i64 v4,.int .i64 v5,.int .u16 v6,.slice A4 L.length c4] 75)) (t:=31) (vs:=[.slice none 0 0,.slice none 0 0]);simpa using h
 have hsz:(((w.alloc (.cells #[.slice A1 C.length c1,.slice A2 T.length c2] 31)).alloc (.cells #[.int .i64 r,.int .i64 i,.slice A3 cells.length c3,.int .i64 v0,.int .i64 v1,.int .i64 v2,.int .i64 v3,.int .i64 v4,.int .i64 v5,.int .u16 v6,.slice A4 L.length c4] 75)).alloc (.cells #[.slice none 0 0,.slice none 0 0] 31)).heap.size=w.heap.size+3:=by simp
 generalize((w.alloc (.cells #[.slice A1 C.length c1,.slice A2 T.length c2] 31)).alloc (.cells #[.int .i64 r,.int .i64 i,.slice A3 cells.length c3,.int .i64 v0,.int .i64 v1,.int .i64 v2,.int .i64 v3,.int .i64 v4,.int .i64 v5,.int .u16 v6,.slice A4 L.length c4] 75)).alloc (.cells #[.slice none 0 0,.slice none 0 0] 31)=W at *;have a20:=Z9.cell 0;have a21:=Z9.cell 1;have Xu:=Z8.cell 0;have Xv:=Z8.cell 1;simp only[List.getElem?_cons_zero,List.getElem?_cons_succ]at a20 a21 Xu Xv
 go_wp2_with fail
 refine(HF.out W Zn).mono ?_;rintro e w1 ⟨rfl,Z1⟩;have XK:=Lib.hid (bo Zn Z1);have Zf:=Z1.size;have Z9:=Z9.grow Z1;have Z8:=Z8.grow Z1;have ZS:=ZS.grow Z1;have Xk:=Z9.cell 0;have Xl:=Z9.cell 1;have XG:=Z8.cell 0;have XH:=Z8.cell 1;have XI:=Z8.cell 2;have W1:=Z8.cell 3;have W2:=Z8.cell 4;have W4:=Z8.cell 5;have W5:=Z8.cell 6;have W7:=Z8.cell 7;have W8:=Z8.cell 8;have W9:=Z8.cell 9;have YR:=Z8.cell 10;have Yv:=ZS.cell 0;have Yw:=ZS.cell 1;have VQ:=ZS.free 0;have VR:=ZS.free 1;have q4:=ZS.hi;simp only[List.getElem?_cons_zero,List.getElem?_cons_succ]at Xk Xl XG XH XI W1 W2 W4 W5 W7 W8 W9 YR Yv Yw;have WI:=Lib.hid Z9;have Zh:=Lib.hid Z8;have Wz:=Lib.hid ZS;have HS:=Lib.hid hsz;clear Z9 Z8 ZS Zn Z1 HF a20 a21 Xu Xv
 go_wp2_with fail
 refine bodyPost_ret (v:=.tuple #[.agg #[.slice none 0 0,.slice none 0 0],.int .i64 fe]) (by simp[results,Try.results37,go_sem,Yv,Yw,q4]) rfl ?_;exact⟨rfl,bp (bp XK.out (.inr (by dsimp only;omega)) _) (.inr (by dsimp only;omega)) _⟩
set_option maxRecDepth 100000 in
set_option maxHeartbeats 4000000 in
theorem yM(F:Nat->Prop)(C:List (List Cn4))(T:List Vw8)(r i:Int)(cells:List Cn4)(v0 v1 v2 v3 v4 v5 v6:Int)(L:List Cn4)(U V Y Z:Value)(w:World)(fe:Int)
 (hu:RSl rCs w F C U)(hv:RSl rVw w F T V)(hy:RSl rCn w F cells Y)(hz:RSl rCn w F L Z)
 (ZU:∀w',w.grownBy w' none->Calls Try.prog 58 #[.agg #[U,V],.agg #[.int .i64 r,.int .i64 i]] w' λe w2=>e=.returned (.int .i64 fe)/\w'.grownBy w2 none)(h0:fe=0)(hr:r=-1)(hc:0<cells.length):
 Calls Try.prog 37 #[.agg #[U,V],.agg #[.int .i64 r,.int .i64 i,Y,.int .i64 v0,.int .i64 v1,.int .i64 v2,.int .i64 v3,.int .i64 v4,.int .i64 v5,.int .u16 v6,Z]] w (λe w'=>e=.returned (.tuple #[.agg #[.slice none 0 0,.slice none 0 0],.int .i64 5])/\w.grownBy w' none):=by
 subst h0;subst hr;have HU:=Lib.hid hu;have HV:=Lib.hid hv;have HY:=Lib.hid hy;have HZ:=Lib.hid hz;obtain⟨A1,c1,rfl,_,_,UM⟩:=hu.size_eq;obtain⟨A2,c2,rfl,_,_,US⟩:=hv.size_eq;obtain⟨A3,c3,rfl,_,_,hcl⟩:=hy.size_eq;obtain⟨A4,c4,rfl,_,_,UQ⟩:=hz.size_eq;have HF:=Lib.hid ZU;clear hu hv hy hz ZU
 go_enter Try.func37,Try.ntmps37
 go_upto_region 1 with fail
 have Zn:w.grownBy (((w.alloc (.cells #[.slice A1 C.length c1,.slice A2 T.length c2] 31)).alloc (.cells #[.int .i64 (-1),.int .i64 i,.slice A3 cells.length c3,.int .i64 v0,.int .i64 v1,.int .i64 v2,.int .i64 v3,.int .i64 v4,.int .i64 v5,.int .u16 v6,.slice A4 L.length c4] 75)).alloc (.cells #[.slice none 0 0,.slice none 0 0] 31)) none:=bj (bj (bj (bl w none) _) _) _;have Z9:Bk (((w.alloc (.cells #[.slice A1 C.length c1,.slice A2 T.length c2] 31)).alloc (.cells #[.int .i64 (-1),.int .i64 i,.slice A3 cells.length c3,.int .i64 v0,.int .i64 v1,.int .i64 v2,.int .i64 v3,.int .i64 v4,.int .i64 v5,.int .u16 v6,.slice A4 L.length c4] 75)).alloc (.cells #[.slice none 0 0,.slice none 0 0] 31)) w.heap.size 31 [.slice A1 C.length c1,.slice A2 T.length c2]:=(Bk.new.grow (bj (bl _ _) _)).grow (bj (bl _ _) _)
 have Z8:Bk (((w.alloc (.cells #[.slice A1 C.length c1,.slice A2 T.length c2] 31)).alloc (.cells #[.int .i64 (-1),.int .i64 i,.slice A3 cells.length c3,.int .i64 v0,.int .i64 v1,.int .i64 v2,.int .i64 v3,.int .i64 v4,.int .i64 v5,.int .u16 v6,.slice A4 L.length c4] 75)).alloc (.cells #[.slice none 0 0,.slice none 0 0] 31)) (w.heap.size+1) 75 [.int .i64 (-1),.int .i64 i,.slice A3 cells.length c3,.int .i64 v0,.int .i64 v1,.int .i64 v2,.int .i64 v3,.int .i64 v4,.int .i64 v5,.int .u16 v6,.slice A4 L.length c4]:=by
  have h:=(Bk.new (w:=w.alloc (.cells #[.slice A1 C.length c1,.slice A2 T.length c2] 31)) (t:=75) (vs:=[.int .i64 (-1),.int .i64 i,.slice A3 cells.length c3,.int .i64 v0,.int .i64 v1,.int .i64 v2,.int .i64 v3,.int .i64 v4,.int .i64 v5,.int .u16 v6,.slice A4 L.length c4])).grow (bj (bl _ _) (.cells #[.slice none 0 0,.slice none 0 0] 31));simpa using h
 have ZS:Bk (((w.alloc (.cells #[.slice A1 C.length c1,.slice A2 T.length c2] 31)).alloc (.cells #[.int .i64 (-1),.int .i64 i,.slice A3 cells.length c3,.int .i64 v0,.int .i64 v1,.int .i64 v2,.int .i64 v3,.int .i64 v4,.int .i64 v5,.int .u16 v6,.slice A4 L.length c4] 75)).alloc (.cells #[.slice none 0 0,.slice none 0 0] 31)) (w.heap.size+2) 31 [.slice none 0 0,.slice none 0 0]:=by
  have h:=Bk.new (w:=(w.alloc (.cells #[.slice A1 C.length c1,.slice A2 T.length c2] 31)).alloc (.cells #[.int .i64 (-1),.int .i64 i,.slice A3 cells.length c3,.int .i64 v0,.int .i64 v1,.int .i64 v2,.int .i64 v3,.int .i64 v4,.int .i64 v5,.int .u16 v6,.slice A4 L.length c4] 75)) (t:=31) (vs:=[.slice none 0 0,.slice none 0 0]);simpa using h
 have hsz:(((w.alloc (.cells #[.slice A1 C.length c1,.slice A2 T.length c2] 31)).alloc (.cells #[.int .i64 (-1),.int .i64 i,.slice A3 cells.length c3,.int .i64 v0,.int .i64 v1,.int .i64 v2,.int .i64 v3,.int .i64 v4,.int .i64 v5,.int .u16 v6,.slice A4 L.length c4] 75)).alloc (.cells #[.slice none 0 0,.slice none 0 0] 31)).heap.size=w.heap.size+3:=by simp
 generalize((w.alloc (.cells #[.slice A1 C.length c1,.slice A2 T.length c2] 31)).alloc (.cells #[.int .i64 (-1),.int .i64 i,.slice A3 cells.length c3,.int .i64 v0,.int .i64 v1,.int .i64 v2,.int .i64 v3,.int .i64 v4,.int .i64 v5,.int .u16 v6,.slice A4 L.length c4] 75)).alloc (.cells #[.slice none 0 0,.slice none 0 0] 31)=W at *;have a20:=Z9.cell 0;have a21:=Z9.cell 1;have Xu:=Z8.cell 0;have Xv:=Z8.cell 1;simp only[List.getElem?_cons_zero,List.getElem?_cons_succ]at a20 a21 Xu Xv
 go_wp2_with fail
 refine(HF.out W Zn).mono ?_;rintro e w1 ⟨rfl,Z1⟩;have XK:=Lib.hid (bo Zn Z1);have Zf:=Z1.size;have Z9:=Z9.grow Z1;have Z8:=Z8.grow Z1;have ZS:=ZS.grow Z1;have Xk:=Z9.cell 0;have Xl:=Z9.cell 1;have XG:=Z8.cell 0;have XH:=Z8.cell 1;have XI:=Z8.cell 2;have W1:=Z8.cell 3;have W2:=Z8.cell 4;have W4:=Z8.cell 5;have W5:=Z8.cell 6;have W7:=Z8.cell 7;have W8:=Z8.cell 8;have W9:=Z8.cell 9;have YR:=Z8.cell 10;have Yv:=ZS.cell 0;have Yw:=ZS.cell 1;have VQ:=ZS.free 0;have VR:=ZS.free 1;have q4:=ZS.hi;simp only[List.getElem?_cons_zero,List.getElem?_cons_succ]at Xk Xl XG XH XI W1 W2 W4 W5 W7 W8 W9 YR Yv Yw;have WI:=Lib.hid Z9;have Zh:=Lib.hid Z8;have Wz:=Lib.hid ZS;have HS:=Lib.hid hsz;clear Z9 Z8 ZS Zn Z1 HF a20 a21 Xu Xv
 have Xc:(0:Int)<(cells.length:Int):=by omega
 go_wp2_with fail
 refine bodyPost_ret (v:=.tuple #[.agg #[.slice none 0 0,.slice none 0 0],.int .i64 5]) (by simp[results,Try.results37,go_sem,Yv,Yw,q4]) rfl ?_;exact⟨rfl,bp (bp XK.out (.inr (by dsimp only;omega)) _) (.inr (by dsimp only;omega)) _⟩
structure ED (C:List (List Cn4))(T:List Vw8)(w:World)(q7:Nat)(a b:Value)(wx:World):Prop where
 grown:w.grownBy wx none
 res:Bk wx (w.heap.size+1+1) 31 [.slice none 0 0,.slice none 0 0]
 st:Bk wx q7 31 [a,b]
 ra:RSl rCs wx (λk=>w.heap.size+3<=k) C a
 rb:RSl rVw wx (λk=>w.heap.size+3<=k) T b
def wo(C:List (List Cn4))(T:List Vw8)(w:World)(e:Ending)(w':World):Prop:=
 ∃a b,e=.returned (.tuple #[.agg #[a,b],.int .i64 0])/\RSl rCs w' (λk=>w.heap.size<=k) C a/\RSl rVw w' (λk=>w.heap.size<=k) T b/\w.grownBy w' none
theorem ED.ret{C:List (List Cn4)}{T:List Vw8}{w wx:World}{q7:Nat}{a b x y:Value}(h:ED C T w q7 a b wx):wo C T w (.returned (.tuple #[.agg #[a,b],.int .i64 0])) ((wx.setCell ⟨w.heap.size+1+1,0,none⟩ x).setCell ⟨w.heap.size+1+1,1,none⟩ y):=by
 have hk:∀k,w.heap.size+3<=k->((wx.setCell ⟨w.heap.size+1+1,0,none⟩ x).setCell ⟨w.heap.size+1+1,1,none⟩ y).heap[k]?=wx.heap[k]?:=λk hk=>by
  have h2:k≠w.heap.size+1+1:=by omega
  rw[cf _ _ _ h2,cf _ _ _ h2]
 refine⟨a,b,rfl,(h.ra.keep hk).sub λk hk=>by omega,(h.rb.keep hk).sub λk hk=>by omega,bp (bp h.grown (.inr (by dsimp only;omega)) _) (.inr (by dsimp only;omega)) _⟩
set_option maxRecDepth 100000 in
set_option maxHeartbeats 4000000 in
theorem wK(F:Nat->Prop)(C:List (List Cn4))(T:List Vw8)(j:Nat)(cells:List Cn4)(v0 v1 v2 v3 v4 v5 v6:Int)(L:List Cn4)(U V Y Z:Value)(w:World)(fe:Int)
 (hu:RSl rCs w F C U)(hv:RSl rVw w F T V)(hy:RSl rCn w F cells Y)(hz:RSl rCn w F L Z)
 (ZU:∀w',w.grownBy w' none->Calls Try.prog 58 #[.agg #[U,V],.agg #[.int .i64 (-1),.int .i64 j]] w' λe w2=>e=.returned (.int .i64 fe)/\w'.grownBy w2 none)(h0:fe=0)(hc:cells.length=0)(hj:j<T.length):
 Calls Try.prog 37 #[.agg #[U,V],.agg #[.int .i64 (-1),.int .i64 j,Y,.int .i64 v0,.int .i64 v1,.int .i64 v2,.int .i64 v3,.int .i64 v4,.int .i64 v5,.int .u16 v6,Z]] w (wo C (T.set j (v0,v1,v2,v3,v4,v5,v6,L)) w):=by
 subst h0;have Hc:=Lib.hid hc;clear hc;have HU:=Lib.hid hu;have HV:=Lib.hid hv;have HY:=Lib.hid hy;have HZ:=Lib.hid hz;obtain⟨A1,c1,rfl,_,_,UM⟩:=hu.size_eq;obtain⟨A2,c2,rfl,_,_,US⟩:=hv.size_eq;obtain⟨A3,c3,rfl,_,_,hcl⟩:=hy.size_eq;obtain⟨A4,c4,rfl,_,_,UQ⟩:=hz.size_eq;have HF:=Lib.hid ZU;clear hu hv hy hz ZU
 go_enter Try.func37,Try.ntmps37
 go_upto_region 1 with fail
 have Zn:w.grownBy (((w.alloc (.cells #[.slice A1 C.length c1,.slice A2 T.length c2] 31)).alloc (.cells #[.int .i64 (-1),.int .i64 j,.slice A3 cells.length c3,.int .i64 v0,.int .i64 v1,.int .i64 v2,.int .i64 v3,.int .i64 v4,.int .i64 v5,.int .u16 v6,.slice A4 L.length c4] 75)).alloc (.cells #[.slice none 0 0,.slice none 0 0] 31)) none:=bj (bj (bj (bl w none) _) _) _;have Z9:Bk (((w.alloc (.cells #[.slice A1 C.length c1,.slice A2 T.length c2] 31)).alloc (.cells #[.int .i64 (-1),.int .i64 j,.slice A3 cells.length c3,.int .i64 v0,.int .i64 v1,.int .i64 v2,.int .i64 v3,.int .i64 v4,.int .i64 v5,.int .u16 v6,.slice A4 L.length c4] 75)).alloc (.cells #[.slice none 0 0,.slice none 0 0] 31)) w.heap.size 31 [.slice A1 C.length c1,.slice A2 T.length c2]:=(Bk.new.grow (bj (bl _ _) _)).grow (bj (bl _ _) _)
 have Z8:Bk (((w.alloc (.cells #[.slice A1 C.length c1,.slice A2 T.length c2] 31)).alloc (.cells #[.int .i64 (-1),.int .i64 j,.slice A3 cells.length c3,.int .i64 v0,.int .i64 v1,.int .i64 v2,.int .i64 v3,.int .i64 v4,.int .i64 v5,.int .u16 v6,.slice A4 L.length c4] 75)).alloc (.cells #[.slice none 0 0,.slice none 0 0] 31)) (w.heap.size+1) 75 [.int .i64 (-1),.int .i64 j,.slice A3 cells.length c3,.int .i64 v0,.int .i64 v1,.int .i64 v2,.int .i64 v3,.int .i64 v4,.int .i64 v5,.int .u16 v6,.slice A4 L.length c4]:=by
  have h:=(Bk.new (w:=w.alloc (.cells #[.slice A1 C.length c1,.slice A2 T.length c2] 31)) (t:=75) (vs:=[.int .i64 (-1),.int .i64 j,.slice A3 cells.length c3,.int .i64 v0,.int .i64 v1,.int .i64 v2,.int .i64 v3,.int .i64 v4,.int .i64 v5,.int .u16 v6,.slice A4 L.length c4])).grow (bj (bl _ _) (.cells #[.slice none 0 0,.slice none 0 0] 31));simpa using h
 have ZS:Bk (((w.alloc (.cells #[.slice A1 C.length c1,.slice A2 T.length c2] 31)).alloc (.cells #[.int .i64 (-1),.int .i64 j,.slice A3 cells.length c3,.int .i64 v0,.int .i64 v1,.int .i64 v2,.int .i64 v3,.int .i64 v4,.int .i64 v5,.int .u16 v6,.slice A4 L.length c4] 75)).alloc (.cells #[.slice none 0 0,.slice none 0 0] 31)) (w.heap.size+2) 31 [.slice none 0 0,.slice none 0 0]:=by
  have h:=Bk.new (w:=(w.alloc (.cells #[.slice A1 C.length c1,.slice A2 T.length c2] 31)).alloc (.cells #[.int .i64 (-1),.int .i64 j,.slice A3 cells.length c3,.int .i64 v0,.int .i64 v1,.int .i64 v2,.int .i64 v3,.int .i64 v4,.int .i64 v5,.int .u16 v6,.slice A4 L.length c4] 75)) (t:=31) (vs:=[.slice none 0 0,.slice none 0 0]);simpa using h
 have hsz:(((w.alloc (.cells #[.slice A1 C.length c1,.slice A2 T.length c2] 31)).alloc (.cells #[.int .i64 (-1),.int .i64 j,.slice A3 cells.length c3,.int .i64 v0,.int .i64 v1,.int .i64 v2,.int .i64 v3,.int .i64 v4,.int .i64 v5,.int .u16 v6,.slice A4 L.length c4] 75)).alloc (.cells #[.slice none 0 0,.slice none 0 0] 31)).heap.size=w.heap.size+3:=by simp
 generalize((w.alloc (.cells #[.slice A1 C.length c1,.slice A2 T.length c2] 31)).alloc (.cells #[.int .i64 (-1),.int .i64 j,.slice A3 cells.length c3,.int .i64 v0,.int .i64 v1,.int .i64 v2,.int .i64 v3,.int .i64 v4,.int .i64 v5,.int .u16 v6,.slice A4 L.length c4] 75)).alloc (.cells #[.slice none 0 0,.slice none 0 0] 31)=W at *;have a20:=Z9.cell 0;have a21:=Z9.cell 1;have Xu:=Z8.cell 0;have Xv:=Z8.cell 1;simp only[List.getElem?_cons_zero,List.getElem?_cons_succ]at a20 a21 Xu Xv
 go_wp2_with fail
 refine(HF.out W Zn).mono ?_;rintro e w1 ⟨rfl,Z1⟩;have XK:=Lib.hid (bo Zn Z1);have Zf:=Z1.size;have Z9:=Z9.grow Z1;have Z8:=Z8.grow Z1;have ZS:=ZS.grow Z1;have Xk:=Z9.cell 0;have Xl:=Z9.cell 1;have XG:=Z8.cell 0;have XH:=Z8.cell 1;have XI:=Z8.cell 2;have W1:=Z8.cell 3;have W2:=Z8.cell 4;have W4:=Z8.cell 5;have W5:=Z8.cell 6;have W7:=Z8.cell 7;have W8:=Z8.cell 8;have W9:=Z8.cell 9;have YR:=Z8.cell 10;have Yv:=ZS.cell 0;have Yw:=ZS.cell 1;have VQ:=ZS.free 0;have VR:=ZS.free 1;have q4:=ZS.hi;simp only[List.getElem?_cons_zero,List.getElem?_cons_succ]at Xk Xl XG XH XI W1 W2 W4 W5 W7 W8 W9 YR Yv Yw;have WI:=Lib.hid Z9;have Zh:=Lib.hid Z8;have Wz:=Lib.hid ZS;have HS:=Lib.hid hsz;clear Z9 Z8 ZS Zn Z1 HF a20 a21 Xu Xv
 have Xc:¬(0:Int)<(cells.length:Int):=by have:=Hc.out;omega
 go_wp2_with fail
 refine(jv F C T _ _ w1 (HU.out.grow XK.out) (HV.out.grow XK.out)).mono ?_;rintro e w2 ⟨a,b,fp,gp,rfl,oa,ob,ZT,XR,ZI⟩;obtain⟨A5,c5,rfl⟩:=oa.shape;have Mr:=Lib.hid ob;obtain⟨hb,⟨e1,e2,_⟩|⟨ql,cl,cs,g,rfl,e2,l1,l2,hV,hO⟩⟩:=ob
 ·rw[e2]at hj;cases hj
 obtain⟨g1,g2,g3,d1,d2,d3,e3,e4,l3,o1,o2,o3⟩:=hO.split hj;have hd2:=rVw.len (rVw.reads o2)
 obtain⟨x0,x1,x2,x3,x4,x5,x6,x7,rfl⟩:∃x0 x1 x2 x3 x4 x5 x6 x7,d2=[x0,x1,x2,x3,x4,x5,x6,x7]:=by
  match d2,hd2 with
  | [x0,x1,x2,x3,x4,x5,x6,x7],_=>exact⟨_,_,_,_,_,_,_,_,rfl⟩
 have XN:w2.grownBy (w2.alloc (.cells #[.slice A5 C.length c5,.slice (some ⟨ql,0,none⟩) T.length cl] 31)) none:=bj (bl _ _) _;have Um:Bk (w2.alloc (.cells #[.slice A5 C.length c5,.slice (some ⟨ql,0,none⟩) T.length cl] 31)) w2.heap.size 31 [.slice A5 C.length c5,.slice (some ⟨ql,0,none⟩) T.length cl]:=Bk.new;have T0:=bo (bo XK.out ZI) XN;have Z8:=(Zh.out.grow ZI).grow XN;have Y6:=ZI.size;have Q9:=XR ql (by rw[e2];simp);have Tm:=hV.hi;have PP:=Lib.hid (And.intro ZT (And.intro XR (And.intro e2 (And.intro e3 (And.intro o1 (And.intro o3 oa))))));rw[e4]at hV;have VF:=Lib.hid (hV.grow XN);have HL:=Lib.hid (show d1.length=j*8 from l3);have R6:=Lib.hid T0;have WJ:=Lib.hid (bo ZI XN);have VN:=Lib.hid XN;clear Xk Xl XG XH XI W1 W2 W4 W5 W7 W8 W9 YR Yv Yw VQ VR ZT XR e3 e4 o1 o2 o3 oa hd2 l3 hO hV hb
 go_upto_region 8 with fail
 generalize w2.alloc (.cells #[.slice A5 C.length c5,.slice (some ⟨ql,0,none⟩) T.length cl] 31)=W3 at *;generalize hq7:w2.heap.size=q7 at *;have Zh:=Lib.hid Z8;have RL:=Lib.hid Um;have m1:=Um.cell 1;have XG:=Z8.cell 0;have XH:=Z8.cell 1;have XI:=Z8.cell 2;have W1:=Z8.cell 3;have W2:=Z8.cell 4;have W4:=Z8.cell 5;have W5:=Z8.cell 6;have W7:=Z8.cell 7;have W8:=Z8.cell 8;have W9:=Z8.cell 9;have YR:=Z8.cell 10;simp only[List.getElem?_cons_zero,List.getElem?_cons_succ]at m1 XG XH XI W1 W2 W4 W5 W7 W8 W9 YR
 have Mj:(0:Int)<=(j:Int):=by omega
 have Ml:(j:Int)<(T.length:Int):=by omega
 have Mo:(j:Int).toNat=j:=by omega
 have HC:=Lib.hid (show ∀(w':World),W3.grownBy w' none->∀n,n<8->w'.cell? ⟨ql,j*8+n,none⟩=some ([x0,x1,x2,x3,x4,x5,x6,x7].getD n undef)from λw' hg n hn=>by
  have h:=(VF.out.grow hg);rw[List.append_assoc]at h
  have h2:=h.mid (j:=n) (u:=[x0,x1,x2,x3,x4,x5,x6,x7].getD n undef) (by
   rw[List.getElem?_append_left (by simpa using hn)]
   have WC:n=0\/n=1\/n=2\/n=3\/n=4\/n=5\/n=6\/n=7:=by omega
   rcases WC with rfl|rfl|rfl|rfl|rfl|rfl|rfl|rfl<;>rfl)
  rw[HL.out]at h2
  exact h2)
 clear Z8 Um XN T0
 go_cut []from 28 to 37 (λwx=>ED C (T.set j (v0,v1,v2,v3,v4,v5,v6,L)) w q7 (.slice A5 C.length c5) (.slice (some ⟨ql,0,none⟩) T.length cl) wx)
 case first=>
  go_region_with (go_at_call 56;refine(lQ F v0 v1 v2 v3 v4 v5 v6 L _ _ ((HZ.out.grow R6.out).grow (df (bl _ _)))).mono ?_;rintro e w4 ⟨z,rfl,QY,Y4⟩;obtain⟨A7,c7,rfl⟩:=QY.shape;have Y4:=bo (df (bl W3 none)) Y4;have n1:=(RL.out.grow Y4).cell 1;have n3:=(Zh.out.grow Y4).cell 1;simp only[List.getElem?_cons_zero,List.getElem?_cons_succ]at n1 n3;have o0:=HC.out w4 Y4 0 (by decide);have o1:=HC.out w4 Y4 1 (by decide);have o2:=HC.out w4 Y4 2 (by decide);have o3:=HC.out w4 Y4 3 (by decide);have o4:=HC.out w4 Y4 4 (by decide);have o5:=HC.out w4 Y4 5 (by decide);have o6:=HC.out w4 Y4 6 (by decide);have o7:=HC.out w4 Y4 7 (by decide);have z0:=(VF.out.grow Y4).free (j*8);have z1:=(VF.out.grow Y4).free (j*8+1);have z2:=(VF.out.grow Y4).free (j*8+2);have z3:=(VF.out.grow Y4).free (j*8+3);have z4:=(VF.out.grow Y4).free (j*8+4);have z5:=(VF.out.grow Y4).free (j*8+5);have z6:=(VF.out.grow Y4).free (j*8+6);have z7:=(VF.out.grow Y4).free (j*8+7);simp only[List.getD_cons_zero,List.getD_cons_succ,Nat.add_zero]at o0 o1 o2 o3 o4 o5 o6 o7;have PM:=Lib.hid Y4;have Mq:=Lib.hid QY;clear QY Y4)
  all_goals
   have Y4:=PM.out;obtain⟨zp,UA,Yi,Yj⟩:=Mq.out.done
   replace Yj:∀b,b∈zp->W3.heap.size<=b:=λb hb=>by
    have h1:W3.heap.size+2<=b:=Yj b hb;omega
   obtain⟨ZT,XR,e2,e3,PH,PI,oa⟩:=PP.out;have WA:=VF.out.grow Y4;rw[List.append_assoc]at WA;have To:=WA.setmid (j:=0) (by simp) (.int .i64 v0);have Zf:=To.setmid (j:=1) (by simp) (.int .i64 v1);have Y6:=Zf.setmid (j:=2) (by simp) (.int .i64 v2);have UE:=Y6.setmid (j:=3) (by simp) (.int .i64 v3);have Tp:=UE.setmid (j:=4) (by simp) (.int .i64 v4);have Tq:=Tp.setmid (j:=5) (by simp) (.int .i64 v5);have Tr:=Tq.setmid (j:=6) (by simp) (.int .u16 v6);have UF:=Tr.setmid (j:=7) (by simp) (.slice A7 L.length c7);simp only[HL.out,Nat.add_zero,List.cons_append,List.nil_append,List.set_cons_zero,List.set_cons_succ]at UF
   have hset:∀x,x≠ql->((((((((w4.setCell ⟨ql,j*8,none⟩ (.int .i64 v0)).setCell ⟨ql,j*8+1,none⟩ (.int .i64 v1)).setCell ⟨ql,j*8+2,none⟩ (.int .i64 v2)).setCell ⟨ql,j*8+3,none⟩ (.int .i64 v3)).setCell ⟨ql,j*8+4,none⟩ (.int .i64 v4)).setCell ⟨ql,j*8+5,none⟩ (.int .i64 v5)).setCell ⟨ql,j*8+6,none⟩ (.int .u16 v6)).setCell ⟨ql,j*8+7,none⟩ (.slice A7 L.length c7)).heap[x]?=w4.heap[x]?:=λx hx=>by simp only[cf _ _ _ hx]
   have Ym:W3.grownBy ((((((((w4.setCell ⟨ql,j*8,none⟩ (.int .i64 v0)).setCell ⟨ql,j*8+1,none⟩ (.int .i64 v1)).setCell ⟨ql,j*8+2,none⟩ (.int .i64 v2)).setCell ⟨ql,j*8+3,none⟩ (.int .i64 v3)).setCell ⟨ql,j*8+4,none⟩ (.int .i64 v4)).setCell ⟨ql,j*8+5,none⟩ (.int .i64 v5)).setCell ⟨ql,j*8+6,none⟩ (.int .u16 v6)).setCell ⟨ql,j*8+7,none⟩ (.slice A7 L.length c7)) (some ql):=(bp (p:=⟨ql,j*8+7,none⟩) (bp (p:=⟨ql,j*8+6,none⟩) (bp (p:=⟨ql,j*8+5,none⟩) (bp (p:=⟨ql,j*8+4,none⟩) (bp (p:=⟨ql,j*8+3,none⟩) (bp (p:=⟨ql,j*8+2,none⟩) (bp (p:=⟨ql,j*8+1,none⟩) (bp (p:=⟨ql,j*8,none⟩) (lI (row:=some ql) Y4) (.inl rfl) _) (.inl rfl) _) (.inl rfl) _) (.inl rfl) _) (.inl rfl) _) (.inl rfl) _) (.inl rfl) _) (.inl rfl) _);have L6:=PM.out.size;have Vm:=WJ.out.size;have QI:=VN.out.size;have QB:∀x,x∈fp->x≠ql:=λx hx e=>(List.nodup_append.1 ZT).2.2 x hx ql (by rw[e2];simp) e
   have RW:(ql::(g1++g2++g3)).Nodup:=by
    have:=(List.nodup_append.1 ZT).2.1;rw[e2,e3]at this;exact this
   have RV:∀x,x∈g1++g2++g3->x≠ql/\x<W3.heap.size:=λx hx=>⟨λe=>(List.nodup_cons.1 RW).1 (e▸hx),by
    have h1:x∈gp:=by rw[e2,e3];exact List.mem_cons_of_mem _ hx
    have h2:=Mr.out.live x h1
    omega⟩
   have Yq:∀x,x<w2.heap.size->x≠ql->((((((((w4.setCell ⟨ql,j*8,none⟩ (.int .i64 v0)).setCell ⟨ql,j*8+1,none⟩ (.int .i64 v1)).setCell ⟨ql,j*8+2,none⟩ (.int .i64 v2)).setCell ⟨ql,j*8+3,none⟩ (.int .i64 v3)).setCell ⟨ql,j*8+4,none⟩ (.int .i64 v4)).setCell ⟨ql,j*8+5,none⟩ (.int .i64 v5)).setCell ⟨ql,j*8+6,none⟩ (.int .u16 v6)).setCell ⟨ql,j*8+7,none⟩ (.slice A7 L.length c7)).heap[x]?=w2.heap[x]?:=λx h1 h2=>by
    rw[hset x h2,PM.out.block x (by omega) (by simp),VN.out.block x h1 (by simp)]
   have Uf:=Lib.hid (show ED C (T.set j (v0,v1,v2,v3,v4,v5,v6,L)) w q7 (.slice A5 C.length c5) (.slice (some ⟨ql,0,none⟩) T.length cl) ((((((((w4.setCell ⟨ql,j*8,none⟩ (.int .i64 v0)).setCell ⟨ql,j*8+1,none⟩ (.int .i64 v1)).setCell ⟨ql,j*8+2,none⟩ (.int .i64 v2)).setCell ⟨ql,j*8+3,none⟩ (.int .i64 v3)).setCell ⟨ql,j*8+4,none⟩ (.int .i64 v4)).setCell ⟨ql,j*8+5,none⟩ (.int .i64 v5)).setCell ⟨ql,j*8+6,none⟩ (.int .u16 v6)).setCell ⟨ql,j*8+7,none⟩ (.slice A7 L.length c7))from by
    have NM:=HS.out;have Vq:∀x,x∈gp->w1.heap.size+2<=x:=λx hx=>XR x (List.mem_append_right _ hx)
    have hin:∀x,x∈g1++g2++g3->x∈gp:=λx hx=>by rw[e2,e3];exact List.mem_cons_of_mem _ hx
    refine⟨gy R6.out Ym λk e=>by injection e with e;omega,((Wz.out.grow WJ.out).grow Y4).keep (hset _ (by omega)),(RL.out.grow Y4).keep (hset _ (by omega)),?_,?_⟩
    ·exact((oa.keep λx hx=>Yq x (by have:=oa.live x hx;omega) (QB x hx)).reads).sub λx hx=>by have:=XR x (List.mem_append_left _ hx);omega
    ·have hown:OSl rVw 62 (((((((((w4.setCell ⟨ql,j*8,none⟩ (.int .i64 v0)).setCell ⟨ql,j*8+1,none⟩ (.int .i64 v1)).setCell ⟨ql,j*8+2,none⟩ (.int .i64 v2)).setCell ⟨ql,j*8+3,none⟩ (.int .i64 v3)).setCell ⟨ql,j*8+4,none⟩ (.int .i64 v4)).setCell ⟨ql,j*8+5,none⟩ (.int .i64 v5)).setCell ⟨ql,j*8+6,none⟩ (.int .u16 v6)).setCell ⟨ql,j*8+7,none⟩ (.slice A7 L.length c7))) (ql::(g1++zp++g3)) (T.set j (v0,v1,v2,v3,v4,v5,v6,L)) (.slice (some ⟨ql,0,none⟩) T.length cl):=by
      refine⟨by rw[List.length_set];exact US,.inr ⟨ql,cl,d1++vwC (v0,v1,v2,v3,v4,v5,v6,L) (.slice A7 L.length c7)++d3,g1++zp++g3,by rw[List.length_set],rfl,by rw[List.length_set];exact l1,l2,by simpa[vwC]using UF,gF.join hj (PH.keep λx hx=>Yq x (by have:=PH.live x hx;omega) (RV x (by simp[hx])).1) (Cy (UA.keep λx hx=>hset x (by have:=Yj x hx;omega))) (PI.keep λx hx=>Yq x (by have:=PI.live x hx;omega) (RV x (by simp[hx])).1)⟩⟩
     exact hown.reads.sub λx hx=>by
      rcases List.mem_cons.1 hx with rfl|hx
      ·omega
      ·rcases List.mem_append.1 hx with hx|hx
       ·rcases List.mem_append.1 hx with hx|hx
        ·have:=Vq x (hin x (by simp[hx]));omega
        ·have:=Yj x hx;omega
       ·have:=Vq x (hin x (by simp[hx]));omega)
   clear To Zf Y6 UE Tp Tq Tr UF hset Ym UA Yi Yj WA
   go_wp2_with fail
   go_meet
   exact Uf.out
 case rest=>
  have HD:=Lib.hid hcut;have j0:=hcut.st.cell 0;have j1:=hcut.st.cell 1;have r0:=hcut.res.cell 0;have r1:=hcut.res.cell 1;have f0:=hcut.res.free 0;have f1:=hcut.res.free 1;have r2:=hcut.res.hi;simp only[List.getElem?_cons_zero,List.getElem?_cons_succ]at j0 j1 r0 r1;clear hcut m1
  go_wp2_with fail
  refine bodyPost_ret (v:=.tuple #[.agg #[.slice A5 C.length c5,.slice (some ⟨ql,0,none⟩) T.length cl],.int .i64 0]) (by simp[results,Try.results37,go_sem,r0,r1,r2]) rfl ?_;exact HD.out.ret
def wq(v:Value)(w:World)(e:Ending)(w':World):Prop:=e=.returned v/\w.grownBy w' none
theorem FL(A:Option Addr)(n c:Nat)(i:Int)(w:World)(h:32<i):Calls Try.prog 60 #[.slice A n c,.int .i64 i] w (wq (.slice none 0 0) w):=by
 have h0:¬i<0:=by omega
 go_enter Try.func60,Try.ntmps60
 go_wp2_with fail
 go_ret
 exact⟨rfl,bl _ _⟩
theorem so{b o o' n n' c c':Nat}(h1:o=o')(h2:n=n')(h3:c=c'):Ending.returned (.slice (some ⟨b,o,none⟩) n c)=.returned (.slice (some ⟨b,o',none⟩) n' c'):=by rw[h1,h2,h3]
theorem ul(b o n c:Nat)(j:Nat)(w:World)(h:j<=32)(hn:8*j<n)(hc:n<=c)(hm:n<=1099511627776):Calls Try.prog 60 #[.slice (some ⟨b,o,none⟩) n c,.int .i64 j] w (wq (.slice (some ⟨b,o+8*j*4,none⟩) (min 8 (n-8*j)) (c-8*j)) w):=by
 have h0:¬(j:Int)<0:=by omega
 have h1:¬(32:Int)<(j:Int):=by omega
 have h2:¬(n:Int)<=(j:Int)*8:=by omega
 have h3:(j:Int)*8<(n:Int):=by omega
 go_enter Try.func60,Try.ntmps60
 go_wp2_with fail
 all_goals
  go_ret
  refine⟨?_,bl _ _⟩;exact so (by omega) (by omega) (by omega)
theorem zu(b o n c:Nat)(j:Nat)(w:World)(h:j<=32)(hn:8*j<n)(hc:n<=c)(hm:n<=1099511627776):Calls Try.prog 60 #[.slice (some ⟨b,o,none⟩) n c,.int .i64 j] w λe w'=>e=.returned (.slice (some ⟨b,o+8*j*4,none⟩) (min 8 (n-8*j)) (c-8*j))/\w'=w:=by
 have h0:¬(j:Int)<0:=by omega
 have h1:¬(32:Int)<(j:Int):=by omega
 have h2:¬(n:Int)<=(j:Int)*8:=by omega
 have h3:(j:Int)*8<(n:Int):=by omega
 go_enter Try.func60,Try.ntmps60
 go_wp2_with fail
 all_goals
  go_ret
  refine⟨?_,rfl⟩;exact so (by omega) (by omega) (by omega)
set_option maxRecDepth 100000 in
set_option maxHeartbeats 4000000 in
theorem yL(F:Nat->Prop)(C:List (List Cn4))(T:List Vw8)(k j:Nat)(cells:List Cn4)(v0 v1 v2 v3 v4 v5 v6:Int)(L:List Cn4)(U V Y Z:Value)(w:World)(fe:Int)
 (hu:RSl rCs w F C U)(hv:RSl rVw w F T V)(hy:RSl rCn w F cells Y)(hz:RSl rCn w F L Z)
 (ZU:∀w',w.grownBy w' none->Calls Try.prog 58 #[.agg #[U,V],.agg #[.int .i64 k,.int .i64 j]] w' λe w2=>e=.returned (.int .i64 fe)/\w'.grownBy w2 none)
 (eb:Bool)(ZE:∀w',w.grownBy w' none->Calls Try.prog 61 #[.agg #[.int .i64 v0,.int .i64 v1,.int .i64 v2,.int .i64 v3,.int .i64 v4,.int .i64 v5,.int .u16 v6,Z]] w' λe w2=>e=.returned (.bool eb)/\w'.grownBy w2 none)(h0:fe=0)(hk:k<C.length)(hj:j<=32)(XQ:8*j<C[k].length)(hc:cells.length≠min 8 (C[k].length-8*j)):
 Calls Try.prog 37 #[.agg #[U,V],.agg #[.int .i64 k,.int .i64 j,Y,.int .i64 v0,.int .i64 v1,.int .i64 v2,.int .i64 v3,.int .i64 v4,.int .i64 v5,.int .u16 v6,Z]] w (λe w'=>e=.returned (.tuple #[.agg #[.slice none 0 0,.slice none 0 0],.int .i64 5])/\w.grownBy w' none):=by
 subst h0;have Hc:=Lib.hid hc;clear hc;have HU:=Lib.hid hu;have HV:=Lib.hid hv;have HY:=Lib.hid hy;have HZ:=Lib.hid hz;obtain⟨A1,c1,rfl,_,_,UM⟩:=hu.size_eq;obtain⟨A2,c2,rfl,_,_,US⟩:=hv.size_eq;obtain⟨A3,c3,rfl,_,_,hcl⟩:=hy.size_eq;obtain⟨A4,c4,rfl,_,_,UQ⟩:=hz.size_eq;have HF:=Lib.hid ZU;clear hu hv hy hz ZU
 go_enter Try.func37,Try.ntmps37
 go_upto_region 1 with fail
 have Zn:w.grownBy (((w.alloc (.cells #[.slice A1 C.length c1,.slice A2 T.length c2] 31)).alloc (.cells #[.int .i64 k,.int .i64 j,.slice A3 cells.length c3,.int .i64 v0,.int .i64 v1,.int .i64 v2,.int .i64 v3,.int .i64 v4,.int .i64 v5,.int .u16 v6,.slice A4 L.length c4] 75)).alloc (.cells #[.slice none 0 0,.slice none 0 0] 31)) none:=bj (bj (bj (bl w none) _) _) _;have Z9:Bk (((w.alloc (.cells #[.slice A1 C.length c1,.slice A2 T.length c2] 31)).alloc (.cells #[.int .i64 k,.int .i64 j,.slice A3 cells.length c3,.int .i64 v0,.int .i64 v1,.int .i64 v2,.int .i64 v3,.int .i64 v4,.int .i64 v5,.int .u16 v6,.slice A4 L.length c4] 75)).alloc (.cells #[.slice none 0 0,.slice none 0 0] 31)) w.heap.size 31 [.slice A1 C.length c1,.slice A2 T.length c2]:=(Bk.new.grow (bj (bl _ _) _)).grow (bj (bl _ _) _)
 have Z8:Bk (((w.alloc (.cells #[.slice A1 C.length c1,.slice A2 T.length c2] 31)).alloc (.cells #[.int .i64 k,.int .i64 j,.slice A3 cells.length c3,.int .i64 v0,.int .i64 v1,.int .i64 v2,.int .i64 v3,.int .i64 v4,.int .i64 v5,.int .u16 v6,.slice A4 L.length c4] 75)).alloc (.cells #[.slice none 0 0,.slice none 0 0] 31)) (w.heap.size+1) 75 [.int .i64 k,.int .i64 j,.slice A3 cells.length c3,.int .i64 v0,.int .i64 v1,.int .i64 v2,.int .i64 v3,.int .i64 v4,.int .i64 v5,.int .u16 v6,.slice A4 L.length c4]:=by
  have h:=(Bk.new (w:=w.alloc (.cells #[.slice A1 C.length c1,.slice A2 T.length c2] 31)) (t:=75) (vs:=[.int .i64 k,.int .i64 j,.slice A3 cells.length c3,.int .i64 v0,.int .i64 v1,.int .i64 v2,.int .i64 v3,.int .i64 v4,.int .i64 v5,.int .u16 v6,.slice A4 L.length c4])).grow (bj (bl _ _) (.cells #[.slice none 0 0,.slice none 0 0] 31));simpa using h
 have ZS:Bk (((w.alloc (.cells #[.slice A1 C.length c1,.slice A2 T.length c2] 31)).alloc (.cells #[.int .i64 k,.int .i64 j,.slice A3 cells.length c3,.int .i64 v0,.int .i64 v1,.int .i64 v2,.int .i64 v3,.int .i64 v4,.int .i64 v5,.int .u16 v6,.slice A4 L.length c4] 75)).alloc (.cells #[.slice none 0 0,.slice none 0 0] 31)) (w.heap.size+2) 31 [.slice none 0 0,.slice none 0 0]:=by
  have h:=Bk.new (w:=(w.alloc (.cells #[.slice A1 C.length c1,.slice A2 T.length c2] 31)).alloc (.cells #[.int .i64 k,.int .i64 j,.slice A3 cells.length c3,.int .i64 v0,.int .i64 v1,.int .i64 v2,.int .i64 v3,.int .i64 v4,.int .i64 v5,.int .u16 v6,.slice A4 L.length c4] 75)) (t:=31) (vs:=[.slice none 0 0,.slice none 0 0]);simpa using h
 have hsz:(((w.alloc (.cells #[.slice A1 C.length c1,.slice A2 T.length c2] 31)).alloc (.cells #[.int .i64 k,.int .i64 j,.slice A3 cells.length c3,.int .i64 v0,.int .i64 v1,.int .i64 v2,.int .i64 v3,.int .i64 v4,.int .i64 v5,.int .u16 v6,.slice A4 L.length c4] 75)).alloc (.cells #[.slice none 0 0,.slice none 0 0] 31)).heap.size=w.heap.size+3:=by simp
 generalize((w.alloc (.cells #[.slice A1 C.length c1,.slice A2 T.length c2] 31)).alloc (.cells #[.int .i64 k,.int .i64 j,.slice A3 cells.length c3,.int .i64 v0,.int .i64 v1,.int .i64 v2,.int .i64 v3,.int .i64 v4,.int .i64 v5,.int .u16 v6,.slice A4 L.length c4] 75)).alloc (.cells #[.slice none 0 0,.slice none 0 0] 31)=W at *;have a20:=Z9.cell 0;have a21:=Z9.cell 1;have Xu:=Z8.cell 0;have Xv:=Z8.cell 1;simp only[List.getElem?_cons_zero,List.getElem?_cons_succ]at a20 a21 Xu Xv
 go_wp2_with fail
 refine(HF.out W Zn).mono ?_;rintro e w1 ⟨rfl,Z1⟩;have XK:=Lib.hid (bo Zn Z1);have Zf:=Z1.size;have Z9:=Z9.grow Z1;have Z8:=Z8.grow Z1;have ZS:=ZS.grow Z1;have Xk:=Z9.cell 0;have Xl:=Z9.cell 1;have XG:=Z8.cell 0;have XH:=Z8.cell 1;have XI:=Z8.cell 2;have W1:=Z8.cell 3;have W2:=Z8.cell 4;have W4:=Z8.cell 5;have W5:=Z8.cell 6;have W7:=Z8.cell 7;have W8:=Z8.cell 8;have W9:=Z8.cell 9;have YR:=Z8.cell 10;have Yv:=ZS.cell 0;have Yw:=ZS.cell 1;have VQ:=ZS.free 0;have VR:=ZS.free 1;have q4:=ZS.hi;simp only[List.getElem?_cons_zero,List.getElem?_cons_succ]at Xk Xl XG XH XI W1 W2 W4 W5 W7 W8 W9 YR Yv Yw;have WI:=Lib.hid Z9;have Zh:=Lib.hid Z8;have Wz:=Lib.hid ZS;have HS:=Lib.hid hsz;clear Z9 Z8 ZS Zn Z1 HF a20 a21 Xu Xv
 have SZ:((k:Int)==-1)=false:=by simp
 have Wc:¬(k:Int)=-1:=by omega
 have HE:=Lib.hid (λW hg=>ZE W hg);clear ZE;obtain⟨bR,oR,cR,ds,Su,O3,TU,_,Sr,UR⟩:=(HU.out.grow XK.out).at_ hk
 injection Su with VY Sv VZ
 subst VY;subst VZ;obtain⟨hdr,rfl,ZH⟩:=Sr;have WR:=UR 0 _ rfl;rw[show oR+(k*rCs.size+0)=oR+k by rw[show rCs.size=1 from rfl,Nat.mul_one,Nat.add_zero]]at WR;obtain⟨AK,cK,rfl,VU,Sl,VV⟩:=ZH.size_eq;have Sn:=ZH;obtain⟨bK,oK,OB,xs,So,_,_,_,_,_⟩:=ZH.at_ (k:=8*j) XQ
 injection So with VW Sp VX
 subst VW;subst VX;obtain⟨N,hN⟩:∃N,N=C[k].length:=⟨_,rfl⟩;rw[<- hN]at XQ VU VV WR;have Xm:=Lib.hid hN;clear hN Sn ZH UR
 have y1:(0:Int)<=(k:Int):=by omega
 have y2:(k:Int)<(C.length:Int):=by omega
 have y3:(k:Int).toNat=k:=by omega
 obtain⟨n,hn⟩:∃n,n=min 8 (N-8*j):=⟨_,rfl⟩;have Hn:=Lib.hid hn;have HJ:=Lib.hid (And.intro hj (And.intro XQ (And.intro VU VV)));clear hn hj XQ VU Sl VV hcl Wc
 go_upto_region 10 with fail
 have O5:((cells.length:Int) != (n:Int))=true:=by
  have h1:=Hc.out;rw[<- Xm.out,<- Hn.out]at h1;simp;omega
 clear Yv Yw VQ VR q4;have Va:=Lib.hid WR;clear WR
 refine gY (λw'=>w1.grownBy w' none) (λ_ _=>True)
  [bS (.pointer (some ⟨w.heap.size+1,2,none⟩)),bS (.slice A3 cells.length c3),bS (.int .i64 cells.length),bS (.pointer (some ⟨w.heap.size,0,none⟩)),bS (.slice (some ⟨bR,oR,none⟩) C.length c1),bS (.pointer (some ⟨w.heap.size+1,0,none⟩)),bS (.pointer (some ⟨w.heap.size+1,0,none⟩)),bS (.int .i64 k),bS (.pointer (some ⟨bR,oR+k,none⟩)),bS (.slice (some ⟨bK,oK,none⟩) N cK),bS (.pointer (some ⟨w.heap.size+1,0,none⟩)),bS (.pointer (some ⟨w.heap.size+1,1,none⟩)),bS (.int .i64 j),bS (.slice (some ⟨bK,oK+8*j*4,none⟩) n (cK-8*j)),bS (.int .i64 n),bS (.bool true),bS (.bool true),bS (undef),bS (undef),bS (undef),bS (undef),bS (.bool true)]
  78 (by kernel_rfl) rfl (by kernel_rfl) (df (bl _ _)) (λ_=>trivial) ?_ ?_ ?_
 ·exact⟨bS.kept,bS.kept,bS.kept,bS.kept,bS.kept,bS.kept,bS.kept,bS.kept,bS.kept,bS.kept,bS.kept,bS.kept,bS.kept,bS.kept,bS.kept,bS.kept,bS.kept,bS.kept,bS.kept,bS.kept,bS.kept,bS.kept,trivial⟩
 ·refine bh ?_ (bh ?_ (bh ?_ (bh ?_ (bh ?_ (bh ?_ (bh ?_ (bh ?_ (bh ?_ (bh ?_ (bh ?_ (bh ?_ (bh ?_ (bh ?_ (bh ?_ (bh ?_ (bh ?_ (bh ?_ (bh ?_ (bh ?_ (bh ?_ (bh ?_ mH)))))))))))))))))))))
  ·refine bk rfl λf ZP hb H=>?_;have e3:f 3=_:=H 3 (by decide);clear H;have Z7:=Lib.hid hb;clear hb
   go_simp
   exact⟨Z7.out,trivial,rfl⟩
  ·refine bk rfl λf ZP hb H=>?_;have OC:f 38=_:=H 38 (by decide);clear H;have Z7:=Lib.hid hb;have Sc:=(Zh.out.grow hb).cell 2;simp only[List.getElem?_cons_zero,List.getElem?_cons_succ]at Sc;clear hb
   go_simp
   exact⟨Z7.out,trivial,rfl⟩
  ·refine bk rfl λf ZP hb H=>?_;have OD:f 39=_:=H 39 (by decide);clear H;have Z7:=Lib.hid hb;clear hb
   go_simp
   exact⟨Z7.out,trivial,rfl⟩
  ·refine bk rfl λf ZP hb H=>?_;have e2:f 2=_:=H 2 (by decide);clear H;have Z7:=Lib.hid hb;clear hb
   go_simp
   exact⟨Z7.out,trivial,rfl⟩
  ·refine bk rfl λf ZP hb H=>?_;have OF:f 41=_:=H 41 (by decide);clear H;have Z7:=Lib.hid hb;have R8:=(WI.out.grow hb).cell 0;simp only[List.getElem?_cons_zero]at R8;clear hb
   go_simp
   exact⟨Z7.out,trivial,rfl⟩
  ·refine bk rfl λf ZP hb H=>?_;have e3:f 3=_:=H 3 (by decide);clear H;have Z7:=Lib.hid hb;clear hb
   go_simp
   exact⟨Z7.out,trivial,rfl⟩
  ·refine bk rfl λf ZP hb H=>?_;have OH:f 43=_:=H 43 (by decide);clear H;have Z7:=Lib.hid hb;clear hb
   go_simp
   exact⟨Z7.out,trivial,rfl⟩
  ·refine bk rfl λf ZP hb H=>?_;have OI:f 44=_:=H 44 (by decide);clear H;have Z7:=Lib.hid hb;have R9:=(Zh.out.grow hb).cell 0;simp only[List.getElem?_cons_zero,List.getElem?_cons_succ]at R9;clear hb
   go_simp
   exact⟨Z7.out,trivial,rfl⟩
  ·refine bk rfl λf ZP hb H=>?_;have OG:f 42=_:=H 42 (by decide);have OJ:f 45=_:=H 45 (by decide);clear H;have Z7:=Lib.hid hb;clear hb
   go_simp
   exact⟨Z7.out,trivial,rfl⟩
  ·refine bk rfl λf ZP hb H=>?_;have OK:f 46=_:=H 46 (by decide);clear H;have Z7:=Lib.hid hb
   have ch:ZP.cell? ⟨bR,oR+k,none⟩=some (.slice (some ⟨bK,oK,none⟩) N cK):=by rw[World.cell?_of_block (hb.block bR (World.block_lt_of_cell? _ _ Va.out) (by simp))];exact Va.out
   clear hb
   go_simp
   exact⟨Z7.out,trivial,rfl⟩
  ·refine bk rfl λf ZP hb H=>?_;have e3:f 3=_:=H 3 (by decide);clear H;have Z7:=Lib.hid hb;clear hb
   go_simp
   exact⟨Z7.out,trivial,rfl⟩
  ·refine bk rfl λf ZP hb H=>?_;have OM:f 48=_:=H 48 (by decide);clear H;have Z7:=Lib.hid hb;clear hb
   go_simp
   exact⟨Z7.out,trivial,rfl⟩
  ·refine bk rfl λf ZP hb H=>?_;have ON:f 49=_:=H 49 (by decide);clear H;have Z7:=Lib.hid hb;have R':=(Zh.out.grow hb).cell 1;simp only[List.getElem?_cons_zero,List.getElem?_cons_succ]at R';clear hb
   go_simp
   exact⟨Z7.out,trivial,rfl⟩
  ·refine bk rfl λf ZP hb H=>?_;have OL:f 47=_:=H 47 (by decide);have OO:f 50=_:=H 50 (by decide);clear H;have Z7:=Lib.hid hb;clear hb
   go_simp
   refine(ul bK oK N cK j _ HJ.out.1 HJ.out.2.1 HJ.out.2.2.1 HJ.out.2.2.2).mono ?_;rw[<- Hn.out];rintro e w5 ⟨rfl,SS⟩;exact⟨_,rfl,bo Z7.out SS,trivial,rfl⟩
  ·refine bk rfl λf ZP hb H=>?_;have OP:f 51=_:=H 51 (by decide);clear H;have Z7:=Lib.hid hb;clear hb
   go_simp
   exact⟨Z7.out,trivial,rfl⟩
  ·refine bk rfl λf ZP hb H=>?_;have OE:f 40=_:=H 40 (by decide);have OQ:f 52=_:=H 52 (by decide);clear H;have Z7:=Lib.hid hb;clear hb
   go_simp
   exact⟨Z7.out,trivial,rfl⟩
  ·refine bk rfl λf ZP hb H=>?_;have OR:f 53=_:=H 53 (by decide);clear H;have Z7:=Lib.hid hb;clear hb
   go_simp
   exact⟨Z7.out,trivial,rfl⟩
  ·exact lO _ _ _ rfl rfl λf ZP hb H=>⟨H 54 (by decide),rfl⟩
  ·exact lO _ _ _ rfl rfl λf ZP hb H=>⟨H 54 (by decide),rfl⟩
  ·exact lO _ _ _ rfl rfl λf ZP hb H=>⟨H 54 (by decide),rfl⟩
  ·exact lO _ _ _ rfl rfl λf ZP hb H=>⟨H 54 (by decide),rfl⟩
  ·refine bk rfl λf ZP hb H=>?_;have OS:f 54=_:=H 54 (by decide);have OT:f 58=_:=H 58 (by decide);clear H;have Z7:=Lib.hid hb;clear hb
   go_simp
   exact⟨Z7.out,trivial,rfl⟩
 ·intro f w9 hb hE;simp only[eO,Act.put,wC,List.setIfInBounds_toArray,List.set_cons_succ,List.set_cons_zero];have Sf:f 59=.bool true:=hE.2.2.2.2.2.2.2.2.2.2.2.2.2.2.2.2.2.2.2.2.2.1;clear hE;have ZJ:=hb;clear hb;rw[Sf];have ZS:=Wz.out.grow ZJ;have Yv:=ZS.cell 0;have Yw:=ZS.cell 1;have VQ:=ZS.free 0;have VR:=ZS.free 1;have q4:=ZS.hi;simp only[List.getElem?_cons_zero,List.getElem?_cons_succ]at Yv Yw
  go_wp2_with fail
  refine bodyPost_ret (v:=.tuple #[.agg #[.slice none 0 0,.slice none 0 0],.int .i64 5]) (by simp[results,Try.results37,go_sem,Yv,Yw,q4]) rfl ?_;exact⟨rfl,bp (bp (bo XK.out ZJ) (.inr (by dsimp only;omega)) _) (.inr (by dsimp only;omega)) _⟩
set_option maxRecDepth 100000 in
set_option maxHeartbeats 4000000 in
theorem yK(F:Nat->Prop)(C:List (List Cn4))(T:List Vw8)(k j:Nat)(cells:List Cn4)(v0 v1 v2 v3 v4 v5 v6:Int)(L:List Cn4)(U V Y Z:Value)(w:World)(fe:Int)
 (hu:RSl rCs w F C U)(hv:RSl rVw w F T V)(hy:RSl rCn w F cells Y)(hz:RSl rCn w F L Z)
 (ZU:∀w',w.grownBy w' none->Calls Try.prog 58 #[.agg #[U,V],.agg #[.int .i64 k,.int .i64 j]] w' λe w2=>e=.returned (.int .i64 fe)/\w'.grownBy w2 none)
 (eb:Bool)(ZE:∀w',w.grownBy w' none->Calls Try.prog 61 #[.agg #[.int .i64 v0,.int .i64 v1,.int .i64 v2,.int .i64 v3,.int .i64 v4,.int .i64 v5,.int .u16 v6,Z]] w' λe w2=>e=.returned (.bool eb)/\w'.grownBy w2 none)(h0:fe=0)(hk:k<C.length)(hj:j<=32)(XQ:8*j<C[k].length)(hc:cells.length=min 8 (C[k].length-8*j))(he:eb=false):
 Calls Try.prog 37 #[.agg #[U,V],.agg #[.int .i64 k,.int .i64 j,Y,.int .i64 v0,.int .i64 v1,.int .i64 v2,.int .i64 v3,.int .i64 v4,.int .i64 v5,.int .u16 v6,Z]] w (λe w'=>e=.returned (.tuple #[.agg #[.slice none 0 0,.slice none 0 0],.int .i64 5])/\w.grownBy w' none):=by
 subst h0;subst he;have Hc:=Lib.hid hc;clear hc;have HU:=Lib.hid hu;have HV:=Lib.hid hv;have HY:=Lib.hid hy;have HZ:=Lib.hid hz;obtain⟨A1,c1,rfl,_,_,UM⟩:=hu.size_eq;obtain⟨A2,c2,rfl,_,_,US⟩:=hv.size_eq;obtain⟨A3,c3,rfl,_,_,hcl⟩:=hy.size_eq;obtain⟨A4,c4,rfl,_,_,UQ⟩:=hz.size_eq;have HF:=Lib.hid ZU;clear hu hv hy hz ZU
 go_enter Try.func37,Try.ntmps37
 go_upto_region 1 with fail
 have Zn:w.grownBy (((w.alloc (.cells #[.slice A1 C.length c1,.slice A2 T.length c2] 31)).alloc (.cells #[.int .i64 k,.int .i64 j,.slice A3 cells.length c3,.int .i64 v0,.int .i64 v1,.int .i64 v2,.int .i64 v3,.int .i64 v4,.int .i64 v5,.int .u16 v6,.slice A4 L.length c4] 75)).alloc (.cells #[.slice none 0 0,.slice none 0 0] 31)) none:=bj (bj (bj (bl w none) _) _) _;have Z9:Bk (((w.alloc (.cells #[.slice A1 C.length c1,.slice A2 T.length c2] 31)).alloc (.cells #[.int .i64 k,.int .i64 j,.slice A3 cells.length c3,.int .i64 v0,.int .i64 v1,.int .i64 v2,.int .i64 v3,.int .i64 v4,.int .i64 v5,.int .u16 v6,.slice A4 L.length c4] 75)).alloc (.cells #[.slice none 0 0,.slice none 0 0] 31)) w.heap.size 31 [.slice A1 C.length c1,.slice A2 T.length c2]:=(Bk.new.grow (bj (bl _ _) _)).grow (bj (bl _ _) _)
 have Z8:Bk (((w.alloc (.cells #[.slice A1 C.length c1,.slice A2 T.length c2] 31)).alloc (.cells #[.int .i64 k,.int .i64 j,.slice A3 cells.length c3,.int .i64 v0,.int .i64 v1,.int .i64 v2,.int .i64 v3,.int .i64 v4,.int .i64 v5,.int .u16 v6,.slice A4 L.length c4] 75)).alloc (.cells #[.slice none 0 0,.slice none 0 0] 31)) (w.heap.size+1) 75 [.int .i64 k,.int .i64 j,.slice A3 cells.length c3,.int .i64 v0,.int .i64 v1,.int .i64 v2,.int .i64 v3,.int .i64 v4,.int .i64 v5,.int .u16 v6,.slice A4 L.length c4]:=by
  have h:=(Bk.new (w:=w.alloc (.cells #[.slice A1 C.length c1,.slice A2 T.length c2] 31)) (t:=75) (vs:=[.int .i64 k,.int .i64 j,.slice A3 cells.length c3,.int .i64 v0,.int .i64 v1,.int .i64 v2,.int .i64 v3,.int .i64 v4,.int .i64 v5,.int .u16 v6,.slice A4 L.length c4])).grow (bj (bl _ _) (.cells #[.slice none 0 0,.slice none 0 0] 31));simpa using h
 have ZS:Bk (((w.alloc (.cells #[.slice A1 C.length c1,.slice A2 T.length c2] 31)).alloc (.cells #[.int .i64 k,.int .i64 j,.slice A3 cells.length c3,.int .i64 v0,.int .i64 v1,.int .i64 v2,.int .i64 v3,.int .i64 v4,.int .i64 v5,.int .u16 v6,.slice A4 L.length c4] 75)).alloc (.cells #[.slice none 0 0,.slice none 0 0] 31)) (w.heap.size+2) 31 [.slice none 0 0,.slice none 0 0]:=by
  have h:=Bk.new (w:=(w.alloc (.cells #[.slice A1 C.length c1,.slice A2 T.length c2] 31)).alloc (.cells #[.int .i64 k,.int .i64 j,.slice A3 cells.length c3,.int .i64 v0,.int .i64 v1,.int .i64 v2,.int .i64 v3,.int .i64 v4,.int .i64 v5,.int .u16 v6,.slice A4 L.length c4] 75)) (t:=31) (vs:=[.slice none 0 0,.slice none 0 0]);simpa using h
 have hsz:(((w.alloc (.cells #[.slice A1 C.length c1,.slice A2 T.length c2] 31)).alloc (.cells #[.int .i64 k,.int .i64 j,.slice A3 cells.length c3,.int .i64 v0,.int .i64 v1,.int .i64 v2,.int .i64 v3,.int .i64 v4,.int .i64 v5,.int .u16 v6,.slice A4 L.length c4] 75)).alloc (.cells #[.slice none 0 0,.slice none 0 0] 31)).heap.size=w.heap.size+3:=by simp
 generalize((w.alloc (.cells #[.slice A1 C.length c1,.slice A2 T.length c2] 31)).alloc (.cells #[.int .i64 k,.int .i64 j,.slice A3 cells.length c3,.int .i64 v0,.int .i64 v1,.int .i64 v2,.int .i64 v3,.int .i64 v4,.int .i64 v5,.int .u16 v6,.slice A4 L.length c4] 75)).alloc (.cells #[.slice none 0 0,.slice none 0 0] 31)=W at *;have a20:=Z9.cell 0;have a21:=Z9.cell 1;have Xu:=Z8.cell 0;have Xv:=Z8.cell 1;simp only[List.getElem?_cons_zero,List.getElem?_cons_succ]at a20 a21 Xu Xv
 go_wp2_with fail
 refine(HF.out W Zn).mono ?_;rintro e w1 ⟨rfl,Z1⟩;have XK:=Lib.hid (bo Zn Z1);have Zf:=Z1.size;have Z9:=Z9.grow Z1;have Z8:=Z8.grow Z1;have ZS:=ZS.grow Z1;have Xk:=Z9.cell 0;have Xl:=Z9.cell 1;have XG:=Z8.cell 0;have XH:=Z8.cell 1;have XI:=Z8.cell 2;have W1:=Z8.cell 3;have W2:=Z8.cell 4;have W4:=Z8.cell 5;have W5:=Z8.cell 6;have W7:=Z8.cell 7;have W8:=Z8.cell 8;have W9:=Z8.cell 9;have YR:=Z8.cell 10;have Yv:=ZS.cell 0;have Yw:=ZS.cell 1;have VQ:=ZS.free 0;have VR:=ZS.free 1;have q4:=ZS.hi;simp only[List.getElem?_cons_zero,List.getElem?_cons_succ]at Xk Xl XG XH XI W1 W2 W4 W5 W7 W8 W9 YR Yv Yw;have WI:=Lib.hid Z9;have Zh:=Lib.hid Z8;have Wz:=Lib.hid ZS;have HS:=Lib.hid hsz;clear Z9 Z8 ZS Zn Z1 HF a20 a21 Xu Xv
 have SZ:((k:Int)==-1)=false:=by simp
 have Wc:¬(k:Int)=-1:=by omega
 have HE:=Lib.hid (λW hg=>ZE W hg);clear ZE;obtain⟨bR,oR,cR,ds,Su,O3,TU,_,Sr,UR⟩:=(HU.out.grow XK.out).at_ hk
 injection Su with VY Sv VZ
 subst VY;subst VZ;obtain⟨hdr,rfl,ZH⟩:=Sr;have WR:=UR 0 _ rfl;rw[show oR+(k*rCs.size+0)=oR+k by rw[show rCs.size=1 from rfl,Nat.mul_one,Nat.add_zero]]at WR;obtain⟨AK,cK,rfl,VU,Sl,VV⟩:=ZH.size_eq;have Sn:=ZH;obtain⟨bK,oK,OB,xs,So,_,_,_,_,_⟩:=ZH.at_ (k:=8*j) XQ
 injection So with VW Sp VX
 subst VW;subst VX;obtain⟨N,hN⟩:∃N,N=C[k].length:=⟨_,rfl⟩;rw[<- hN]at XQ VU VV WR;have Xm:=Lib.hid hN;clear hN Sn ZH UR
 have y1:(0:Int)<=(k:Int):=by omega
 have y2:(k:Int)<(C.length:Int):=by omega
 have y3:(k:Int).toNat=k:=by omega
 obtain⟨n,hn⟩:∃n,n=min 8 (N-8*j):=⟨_,rfl⟩;have Hn:=Lib.hid hn;have HJ:=Lib.hid (And.intro hj (And.intro XQ (And.intro VU VV)));clear hn hj XQ VU Sl VV hcl Wc
 go_upto_region 10 with fail
 have O5:((cells.length:Int) != (n:Int))=false:=by
  have h1:=Hc.out;rw[<- Xm.out,<- Hn.out]at h1;simp;omega
 clear Yv Yw VQ VR q4;have Va:=Lib.hid WR;clear WR
 refine gY (λw'=>w1.grownBy w' none) (λ_ _=>True)
  [bS (.pointer (some ⟨w.heap.size+1,2,none⟩)),bS (.slice A3 cells.length c3),bS (.int .i64 cells.length),bS (.pointer (some ⟨w.heap.size,0,none⟩)),bS (.slice (some ⟨bR,oR,none⟩) C.length c1),bS (.pointer (some ⟨w.heap.size+1,0,none⟩)),bS (.pointer (some ⟨w.heap.size+1,0,none⟩)),bS (.int .i64 k),bS (.pointer (some ⟨bR,oR+k,none⟩)),bS (.slice (some ⟨bK,oK,none⟩) N cK),bS (.pointer (some ⟨w.heap.size+1,0,none⟩)),bS (.pointer (some ⟨w.heap.size+1,1,none⟩)),bS (.int .i64 j),bS (.slice (some ⟨bK,oK+8*j*4,none⟩) n (cK-8*j)),bS (.int .i64 n),bS (.bool false),bS (.bool false),bS (.pointer (some ⟨w.heap.size+1,3,none⟩)),bS (.agg #[.int .i64 v0,.int .i64 v1,.int .i64 v2,.int .i64 v3,.int .i64 v4,.int .i64 v5,.int .u16 v6,.slice A4 L.length c4]),bS (.bool false),bS (.bool true),bS (.bool true)]
  78 (by kernel_rfl) rfl (by kernel_rfl) (df (bl _ _)) (λ_=>trivial) ?_ ?_ ?_
 ·exact⟨bS.kept,bS.kept,bS.kept,bS.kept,bS.kept,bS.kept,bS.kept,bS.kept,bS.kept,bS.kept,bS.kept,bS.kept,bS.kept,bS.kept,bS.kept,bS.kept,bS.kept,bS.kept,bS.kept,bS.kept,bS.kept,bS.kept,trivial⟩
 ·refine bh ?_ (bh ?_ (bh ?_ (bh ?_ (bh ?_ (bh ?_ (bh ?_ (bh ?_ (bh ?_ (bh ?_ (bh ?_ (bh ?_ (bh ?_ (bh ?_ (bh ?_ (bh ?_ (bh ?_ (bh ?_ (bh ?_ (bh ?_ (bh ?_ (bh ?_ mH)))))))))))))))))))))
  ·refine bk rfl λf ZP hb H=>?_;have e3:f 3=_:=H 3 (by decide);clear H;have Z7:=Lib.hid hb;clear hb
   go_simp
   exact⟨Z7.out,trivial,rfl⟩
  ·refine bk rfl λf ZP hb H=>?_;have OC:f 38=_:=H 38 (by decide);clear H;have Z7:=Lib.hid hb;have Sc:=(Zh.out.grow hb).cell 2;simp only[List.getElem?_cons_zero,List.getElem?_cons_succ]at Sc;clear hb
   go_simp
   exact⟨Z7.out,trivial,rfl⟩
  ·refine bk rfl λf ZP hb H=>?_;have OD:f 39=_:=H 39 (by decide);clear H;have Z7:=Lib.hid hb;clear hb
   go_simp
   exact⟨Z7.out,trivial,rfl⟩
  ·refine bk rfl λf ZP hb H=>?_;have e2:f 2=_:=H 2 (by decide);clear H;have Z7:=Lib.hid hb;clear hb
   go_simp
   exact⟨Z7.out,trivial,rfl⟩
  ·refine bk rfl λf ZP hb H=>?_;have OF:f 41=_:=H 41 (by decide);clear H;have Z7:=Lib.hid hb;have R8:=(WI.out.grow hb).cell 0;simp only[List.getElem?_cons_zero]at R8;clear hb
   go_simp
   exact⟨Z7.out,trivial,rfl⟩
  ·refine bk rfl λf ZP hb H=>?_;have e3:f 3=_:=H 3 (by decide);clear H;have Z7:=Lib.hid hb;clear hb
   go_simp
   exact⟨Z7.out,trivial,rfl⟩
  ·refine bk rfl λf ZP hb H=>?_;have OH:f 43=_:=H 43 (by decide);clear H;have Z7:=Lib.hid hb;clear hb
   go_simp
   exact⟨Z7.out,trivial,rfl⟩
  ·refine bk rfl λf ZP hb H=>?_;have OI:f 44=_:=H 44 (by decide);clear H;have Z7:=Lib.hid hb;have R9:=(Zh.out.grow hb).cell 0;simp only[List.getElem?_cons_zero,List.getElem?_cons_succ]at R9;clear hb
   go_simp
   exact⟨Z7.out,trivial,rfl⟩
  ·refine bk rfl λf ZP hb H=>?_;have OG:f 42=_:=H 42 (by decide);have OJ:f 45=_:=H 45 (by decide);clear H;have Z7:=Lib.hid hb;clear hb
   go_simp
   exact⟨Z7.out,trivial,rfl⟩
  ·refine bk rfl λf ZP hb H=>?_;have OK:f 46=_:=H 46 (by decide);clear H;have Z7:=Lib.hid hb
   have ch:ZP.cell? ⟨bR,oR+k,none⟩=some (.slice (some ⟨bK,oK,none⟩) N cK):=by rw[World.cell?_of_block (hb.block bR (World.block_lt_of_cell? _ _ Va.out) (by simp))];exact Va.out
   clear hb
   go_simp
   exact⟨Z7.out,trivial,rfl⟩
  ·refine bk rfl λf ZP hb H=>?_;have e3:f 3=_:=H 3 (by decide);clear H;have Z7:=Lib.hid hb;clear hb
   go_simp
   exact⟨Z7.out,trivial,rfl⟩
  ·refine bk rfl λf ZP hb H=>?_;have OM:f 48=_:=H 48 (by decide);clear H;have Z7:=Lib.hid hb;clear hb
   go_simp
   exact⟨Z7.out,trivial,rfl⟩
  ·refine bk rfl λf ZP hb H=>?_;have ON:f 49=_:=H 49 (by decide);clear H;have Z7:=Lib.hid hb;have R':=(Zh.out.grow hb).cell 1;simp only[List.getElem?_cons_zero,List.getElem?_cons_succ]at R';clear hb
   go_simp
   exact⟨Z7.out,trivial,rfl⟩
  ·refine bk rfl λf ZP hb H=>?_;have OL:f 47=_:=H 47 (by decide);have OO:f 50=_:=H 50 (by decide);clear H;have Z7:=Lib.hid hb;clear hb
   go_simp
   refine(ul bK oK N cK j _ HJ.out.1 HJ.out.2.1 HJ.out.2.2.1 HJ.out.2.2.2).mono ?_;rw[<- Hn.out];rintro e w5 ⟨rfl,SS⟩;exact⟨_,rfl,bo Z7.out SS,trivial,rfl⟩
  ·refine bk rfl λf ZP hb H=>?_;have OP:f 51=_:=H 51 (by decide);clear H;have Z7:=Lib.hid hb;clear hb
   go_simp
   exact⟨Z7.out,trivial,rfl⟩
  ·refine bk rfl λf ZP hb H=>?_;have OE:f 40=_:=H 40 (by decide);have OQ:f 52=_:=H 52 (by decide);clear H;have Z7:=Lib.hid hb;clear hb
   go_simp
   exact⟨Z7.out,trivial,rfl⟩
  ·refine bk rfl λf ZP hb H=>?_;have OR:f 53=_:=H 53 (by decide);clear H;have Z7:=Lib.hid hb;clear hb
   go_simp
   exact⟨Z7.out,trivial,rfl⟩
  ·refine eB _ _ _ rfl rfl λf ZP hb H=>⟨H 54 (by decide),?_⟩;have e3:f 3=_:=H 3 (by decide);clear H;have Z7:=Lib.hid hb;clear hb
   go_simp
   exact⟨Z7.out,trivial,rfl⟩
  ·refine eB _ _ _ rfl rfl λf ZP hb H=>⟨H 54 (by decide),?_⟩;have MC:f 55=_:=H 55 (by decide);clear H;have Z7:=Lib.hid hb;have PR:=(Zh.out.grow hb).cell 3;have PS:=(Zh.out.grow hb).cell 4;have PT:=(Zh.out.grow hb).cell 5;have PU:=(Zh.out.grow hb).cell 6;have PV:=(Zh.out.grow hb).cell 7;have PW:=(Zh.out.grow hb).cell 8;have PX:=(Zh.out.grow hb).cell 9;have Ui:=(Zh.out.grow hb).cell 10;simp only[List.getElem?_cons_zero,List.getElem?_cons_succ]at PR PS PT PU PV PW PX Ui;clear hb
   go_simp
   exact⟨Z7.out,trivial,rfl⟩
  ·refine eB _ _ _ rfl rfl λf ZP hb H=>⟨H 54 (by decide),?_⟩;have MD:f 56=_:=H 56 (by decide);clear H;have Z7:=Lib.hid hb;clear hb
   go_simp
   refine(HE.out _ (bo XK.out Z7.out)).mono ?_;rintro e w6 ⟨rfl,QG⟩;exact⟨_,rfl,bo Z7.out QG,trivial,rfl⟩
  ·refine eB _ _ _ rfl rfl λf ZP hb H=>⟨H 54 (by decide),?_⟩;have ME:f 57=_:=H 57 (by decide);clear H;have Z7:=Lib.hid hb;clear hb
   go_simp
   exact⟨Z7.out,trivial,rfl⟩
  ·refine bk rfl λf ZP hb H=>?_;have OS:f 54=_:=H 54 (by decide);have OT:f 58=_:=H 58 (by decide);clear H;have Z7:=Lib.hid hb;clear hb
   go_simp
   exact⟨Z7.out,trivial,rfl⟩
 ·intro f w9 hb hE;simp only[eO,Act.put,wC,List.setIfInBounds_toArray,List.set_cons_succ,List.set_cons_zero];have Sf:f 59=.bool true:=hE.2.2.2.2.2.2.2.2.2.2.2.2.2.2.2.2.2.2.2.2.2.1;clear hE;have ZJ:=hb;clear hb;rw[Sf];have ZS:=Wz.out.grow ZJ;have Yv:=ZS.cell 0;have Yw:=ZS.cell 1;have VQ:=ZS.free 0;have VR:=ZS.free 1;have q4:=ZS.hi;simp only[List.getElem?_cons_zero,List.getElem?_cons_succ]at Yv Yw
  go_wp2_with fail
  refine bodyPost_ret (v:=.tuple #[.agg #[.slice none 0 0,.slice none 0 0],.int .i64 5]) (by simp[results,Try.results37,go_sem,Yv,Yw,q4]) rfl ?_;exact⟨rfl,bp (bp (bo XK.out ZJ) (.inr (by dsimp only;omega)) _) (.inr (by dsimp only;omega)) _⟩
section
variable {P:Program} {ops:Array Oper} {rest:List Oper} {o:Oper} {a:Act} {Q:Exit->Act->World->Prop} {w:World}
theorem mb(k:Nat)(Xz:o.guard=none)(d s:Operand)(t e:TypeId)(ho:o.op=.call { callee:=.builtin .copy,args:=#[d,s],argTypes:=#[t,t] })
 (hu:P.underlying t=some (.slice e))(hsz:(P.info? e).map (·.size)=some k)(g off Xw Vd:Nat)(hd:a.eval d=.slice (some ⟨g,off,none⟩) Xw Vd)(ad:Addr)(ZC YD:Nat)(hs:a.eval s=.slice (some ad) ZC YD)
 (cur:Array Value)(t':TypeId)(cs:List Value)(hg:w.heap[g]?=some (.cells cur t' (0,0)))(hn:cs.length=Nat.min ZC Xw*k)
 (Yt:∀j v,cs[j]?=some v->w.cell? (ad.add j)=some v)(hfit:off+cs.length<=cur.size)(h1:∀v∈cs,v.oneCell'=true)
 (h:wpList P ops Q rest (a.put o.dst (goInt (Nat.min ZC Xw))) (w.setRow g (cur.toList.take off++cs++cur.toList.drop (off+cs.length)).toArray)):wpList P ops Q (o::rest) a w:=by
 refine wpList_plain Xz λK hK=>?_;have hrun:=pt (P:=P) k w t t o.type e g off Xw Vd ad ZC YD cur t' cs hu hsz hg hn Yt hfit h1;unfold Oper.wp;simp[execOp,ho,resolve,invoke,builtin,hs,hd,hrun,Result.andThen];simp only[List.append_assoc]at h;exact hK _ _ h
end
def cnC(c:Cn4):List Value:=[.int .u8 c.1,.int .u16 c.2.1,.int .i64 c.2.2.1,.int .i64 c.2.2.2]
def cnL(xs:List Cn4):List Value:=(xs.map cnC).flatten
theorem rQ(xs ys:List Cn4):cnL (xs++ys)=cnL xs++cnL ys:=by simp[cnL]
theorem kV(xs:List Cn4):(cnL xs).length=xs.length*4:=by
 induction xs with
 |nil=>rfl
 |cons x xs ih=>
  have:cnL (x::xs)=cnC x++cnL xs:=rfl;rw[this,List.length_append,ih,oLC];simp[cnC];omega
theorem Ca(xs:List Cn4)(n:Nat):(cnL xs).take (n*4)=cnL (xs.take n):=by
 by_cases h:n<=xs.length
 ·have h2:cnL xs=cnL (xs.take n)++cnL (xs.drop n):=by rw[<- rQ,List.take_append_drop]
  rw[h2];exact List.take_left' (by rw[kV,oLT,Nat.min_eq_left h])
 ·rw[List.take_of_length_le (by rw[kV];omega),List.take_of_length_le (by omega)]
theorem Cb(xs:List Cn4)(n:Nat):(cnL xs).drop (n*4)=cnL (xs.drop n):=by
 by_cases h:n<=xs.length
 ·have h2:cnL xs=cnL (xs.take n)++cnL (xs.drop n):=by rw[<- rQ,List.take_append_drop]
  rw[h2];exact List.drop_left' (by rw[kV,oLT,Nat.min_eq_left h])
 ·rw[List.drop_of_length_le (by rw[kV];omega),List.drop_of_length_le (by omega)];rfl
theorem Ec(xs:List Cn4):∀v∈cnL xs,v.oneCell'=true:=by
 intro v hv;obtain⟨l,hl,hv⟩:=List.mem_flatten.1 hv;obtain⟨c,_,rfl⟩:=List.mem_map.1 hl;simp only[cnC,List.mem_cons,List.not_mem_nil,or_false]at hv
 rcases hv with rfl|rfl|rfl|rfl<;>rfl
theorem ue{w:World}{F:Nat->Prop}:∀{xs:List Cn4}{cs:List Value},ek rCn w F xs cs->cs=cnL xs
 | [],_,h=>h
 |x::r,_,⟨c,d,e,h1,h2⟩=>by rw[e,Fu h1,ue h2];rfl
theorem zA{w:World}:∀{xs:List Cn4}{fp:List Nat}{cs:List Value},gF rCn w fp xs cs->fp=[]
 | [],_,_,h=>h.2
 |x::r,_,_,⟨c,d,f,g,_,e',h1,h2⟩=>by
  obtain⟨_,_,f1,f2,_,e1,⟨rfl,_⟩,_,_,f3,f4,_,e2,⟨rfl,_⟩,_,_,f5,f6,_,e3,⟨rfl,_⟩,⟨rfl,_⟩⟩:=h1;rw[e',e1,e2,e3,zA h2];rfl
theorem As(w:World):∀(xs:List Cn4),gF rCn w [] xs (cnL xs)
 | []=>⟨rfl,rfl⟩
 |x::r=>⟨cnC x,cnL r,[],[],rfl,rfl,uF (F9 (w:=w) (F:=λ_=>True) x) w,As w r⟩
theorem t9(w:World)(q:Nat)(cs:Array Value):(w.setRow q cs).heap.size=w.heap.size:=by simp[World.setRow]
def gN(row:List Cn4)(j:Nat)(cells:List Cn4):List Cn4:=row.take (8*j)++cells++row.drop (8*j+cells.length)
theorem wR{row cells:List Cn4}{j:Nat}(h:8*j+cells.length<=row.length):(gN row j cells).length=row.length:=by
 simp[gN];omega
set_option maxRecDepth 100000 in
set_option maxHeartbeats 4000000 in
theorem yN(F:Nat->Prop)(C:List (List Cn4))(T:List Vw8)(k j:Nat)(cells:List Cn4)(v0 v1 v2 v3 v4 v5 v6:Int)(L:List Cn4)(U V Y Z:Value)(w:World)(fe:Int)
 (hu:RSl rCs w F C U)(hv:RSl rVw w F T V)(hy:RSl rCn w F cells Y)(hz:RSl rCn w F L Z)
 (ZU:∀w',w.grownBy w' none->Calls Try.prog 58 #[.agg #[U,V],.agg #[.int .i64 k,.int .i64 j]] w' λe w2=>e=.returned (.int .i64 fe)/\w'.grownBy w2 none)
 (eb:Bool)(ZE:∀w',w.grownBy w' none->Calls Try.prog 61 #[.agg #[.int .i64 v0,.int .i64 v1,.int .i64 v2,.int .i64 v3,.int .i64 v4,.int .i64 v5,.int .u16 v6,Z]] w' λe w2=>e=.returned (.bool eb)/\w'.grownBy w2 none)(h0:fe=0)(hk:k<C.length)(hj:j<=32)(XQ:8*j<C[k].length)(hc:cells.length=min 8 (C[k].length-8*j))(he:eb=true):
 Calls Try.prog 37 #[.agg #[U,V],.agg #[.int .i64 k,.int .i64 j,Y,.int .i64 v0,.int .i64 v1,.int .i64 v2,.int .i64 v3,.int .i64 v4,.int .i64 v5,.int .u16 v6,Z]] w (wo (C.set k (gN C[k] j cells)) T w):=by
 subst h0;subst he;have Hc:=Lib.hid hc;clear hc;have HU:=Lib.hid hu;have HV:=Lib.hid hv;have HY:=Lib.hid hy;have HZ:=Lib.hid hz;obtain⟨A1,c1,rfl,_,_,UM⟩:=hu.size_eq;obtain⟨A2,c2,rfl,_,_,US⟩:=hv.size_eq;obtain⟨A3,c3,rfl,_,_,hcl⟩:=hy.size_eq;obtain⟨A4,c4,rfl,_,_,UQ⟩:=hz.size_eq;have HF:=Lib.hid ZU;clear hu hv hy hz ZU
 go_enter Try.func37,Try.ntmps37
 go_upto_region 1 with fail
 have Zn:w.grownBy (((w.alloc (.cells #[.slice A1 C.length c1,.slice A2 T.length c2] 31)).alloc (.cells #[.int .i64 k,.int .i64 j,.slice A3 cells.length c3,.int .i64 v0,.int .i64 v1,.int .i64 v2,.int .i64 v3,.int .i64 v4,.int .i64 v5,.int .u16 v6,.slice A4 L.length c4] 75)).alloc (.cells #[.slice none 0 0,.slice none 0 0] 31)) none:=bj (bj (bj (bl w none) _) _) _;have Z9:Bk (((w.alloc (.cells #[.slice A1 C.length c1,.slice A2 T.length c2] 31)).alloc (.cells #[.int .i64 k,.int .i64 j,.slice A3 cells.length c3,.int .i64 v0,.int .i64 v1,.int .i64 v2,.int .i64 v3,.int .i64 v4,.int .i64 v5,.int .u16 v6,.slice A4 L.length c4] 75)).alloc (.cells #[.slice none 0 0,.slice none 0 0] 31)) w.heap.size 31 [.slice A1 C.length c1,.slice A2 T.length c2]:=(Bk.new.grow (bj (bl _ _) _)).grow (bj (bl _ _) _)
 have Z8:Bk (((w.alloc (.cells #[.slice A1 C.length c1,.slice A2 T.length c2] 31)).alloc (.cells #[.int .i64 k,.int .i64 j,.slice A3 cells.length c3,.int .i64 v0,.int .i64 v1,.int .i64 v2,.int .i64 v3,.int .i64 v4,.int .i64 v5,.int .u16 v6,.slice A4 L.length c4] 75)).alloc (.cells #[.slice none 0 0,.slice none 0 0] 31)) (w.heap.size+1) 75 [.int .i64 k,.int .i64 j,.slice A3 cells.length c3,.int .i64 v0,.int .i64 v1,.int .i64 v2,.int .i64 v3,.int .i64 v4,.int .i64 v5,.int .u16 v6,.slice A4 L.length c4]:=by
  have h:=(Bk.new (w:=w.alloc (.cells #[.slice A1 C.length c1,.slice A2 T.length c2] 31)) (t:=75) (vs:=[.int .i64 k,.int .i64 j,.slice A3 cells.length c3,.int .i64 v0,.int .i64 v1,.int .i64 v2,.int .i64 v3,.int .i64 v4,.int .i64 v5,.int .u16 v6,.slice A4 L.length c4])).grow (bj (bl _ _) (.cells #[.slice none 0 0,.slice none 0 0] 31));simpa using h
 have ZS:Bk (((w.alloc (.cells #[.slice A1 C.length c1,.slice A2 T.length c2] 31)).alloc (.cells #[.int .i64 k,.int .i64 j,.slice A3 cells.length c3,.int .i64 v0,.int .i64 v1,.int .i64 v2,.int .i64 v3,.int .i64 v4,.int .i64 v5,.int .u16 v6,.slice A4 L.length c4] 75)).alloc (.cells #[.slice none 0 0,.slice none 0 0] 31)) (w.heap.size+2) 31 [.slice none 0 0,.slice none 0 0]:=by
  have h:=Bk.new (w:=(w.alloc (.cells #[.slice A1 C.length c1,.slice A2 T.length c2] 31)).alloc (.cells #[.int .i64 k,.int .i64 j,.slice A3 cells.length c3,.int .i64 v0,.int .i64 v1,.int .i64 v2,.int .i64 v3,.int .i64 v4,.int .i64 v5,.int .u16 v6,.slice A4 L.length c4] 75)) (t:=31) (vs:=[.slice none 0 0,.slice none 0 0]);simpa using h
 have hsz:(((w.alloc (.cells #[.slice A1 C.length c1,.slice A2 T.length c2] 31)).alloc (.cells #[.int .i64 k,.int .i64 j,.slice A3 cells.length c3,.int .i64 v0,.int .i64 v1,.int .i64 v2,.int .i64 v3,.int .i64 v4,.int .i64 v5,.int .u16 v6,.slice A4 L.length c4] 75)).alloc (.cells #[.slice none 0 0,.slice none 0 0] 31)).heap.size=w.heap.size+3:=by simp
 generalize((w.alloc (.cells #[.slice A1 C.length c1,.slice A2 T.length c2] 31)).alloc (.cells #[.int .i64 k,.int .i64 j,.slice A3 cells.length c3,.int .i64 v0,.int .i64 v1,.int .i64 v2,.int .i64 v3,.int .i64 v4,.int .i64 v5,.int .u16 v6,.slice A4 L.length c4] 75)).alloc (.cells #[.slice none 0 0,.slice none 0 0] 31)=W at *;have a20:=Z9.cell 0;have a21:=Z9.cell 1;have Xu:=Z8.cell 0;have Xv:=Z8.cell 1;simp only[List.getElem?_cons_zero,List.getElem?_cons_succ]at a20 a21 Xu Xv
 go_wp2_with fail
 refine(HF.out W Zn).mono ?_;rintro e w1 ⟨rfl,Z1⟩;have XK:=Lib.hid (bo Zn Z1);have Zf:=Z1.size;have Z9:=Z9.grow Z1;have Z8:=Z8.grow Z1;have ZS:=ZS.grow Z1;have Xk:=Z9.cell 0;have Xl:=Z9.cell 1;have XG:=Z8.cell 0;have XH:=Z8.cell 1;have XI:=Z8.cell 2;have W1:=Z8.cell 3;have W2:=Z8.cell 4;have W4:=Z8.cell 5;have W5:=Z8.cell 6;have W7:=Z8.cell 7;have W8:=Z8.cell 8;have W9:=Z8.cell 9;have YR:=Z8.cell 10;have Yv:=ZS.cell 0;have Yw:=ZS.cell 1;have VQ:=ZS.free 0;have VR:=ZS.free 1;have q4:=ZS.hi;simp only[List.getElem?_cons_zero,List.getElem?_cons_succ]at Xk Xl XG XH XI W1 W2 W4 W5 W7 W8 W9 YR Yv Yw;have WI:=Lib.hid Z9;have Zh:=Lib.hid Z8;have Wz:=Lib.hid ZS;have HS:=Lib.hid hsz;clear Z9 Z8 ZS Zn Z1 HF a20 a21 Xu Xv
 have SZ:((k:Int)==-1)=false:=by simp
 have Wc:¬(k:Int)=-1:=by omega
 have HE:=Lib.hid (λW hg=>ZE W hg);clear ZE;obtain⟨bR,oR,cR,ds,Su,O3,TU,_,Sr,UR⟩:=(HU.out.grow XK.out).at_ hk
 injection Su with VY Sv VZ
 subst VY;subst VZ;obtain⟨hdr,rfl,ZH⟩:=Sr;have WR:=UR 0 _ rfl;rw[show oR+(k*rCs.size+0)=oR+k by rw[show rCs.size=1 from rfl,Nat.mul_one,Nat.add_zero]]at WR;obtain⟨AK,cK,rfl,VU,Sl,VV⟩:=ZH.size_eq;have Sn:=ZH;obtain⟨bK,oK,OB,xs,So,_,_,_,_,_⟩:=ZH.at_ (k:=8*j) XQ
 injection So with VW Sp VX
 subst VW;subst VX;obtain⟨N,hN⟩:∃N,N=C[k].length:=⟨_,rfl⟩;rw[<- hN]at XQ VU VV WR;have Xm:=Lib.hid hN;clear hN Sn ZH UR
 have y1:(0:Int)<=(k:Int):=by omega
 have y2:(k:Int)<(C.length:Int):=by omega
 have y3:(k:Int).toNat=k:=by omega
 obtain⟨n,hn⟩:∃n,n=min 8 (N-8*j):=⟨_,rfl⟩;have Hn:=Lib.hid hn;have HJ:=Lib.hid (And.intro hj (And.intro XQ (And.intro VU VV)));clear hn hj XQ VU Sl VV hcl Wc
 go_upto_region 10 with fail
 have HK:=Lib.hid hk
 have O5:((cells.length:Int) != (n:Int))=false:=by
  have h1:=Hc.out;rw[<- Xm.out,<- Hn.out]at h1;simp;omega
 clear Yv Yw VQ VR q4;have Va:=Lib.hid WR;clear WR
 refine gY (λw'=>w1.grownBy w' none) (λ_ _=>True)
  [bS (.pointer (some ⟨w.heap.size+1,2,none⟩)),bS (.slice A3 cells.length c3),bS (.int .i64 cells.length),bS (.pointer (some ⟨w.heap.size,0,none⟩)),bS (.slice (some ⟨bR,oR,none⟩) C.length c1),bS (.pointer (some ⟨w.heap.size+1,0,none⟩)),bS (.pointer (some ⟨w.heap.size+1,0,none⟩)),bS (.int .i64 k),bS (.pointer (some ⟨bR,oR+k,none⟩)),bS (.slice (some ⟨bK,oK,none⟩) N cK),bS (.pointer (some ⟨w.heap.size+1,0,none⟩)),bS (.pointer (some ⟨w.heap.size+1,1,none⟩)),bS (.int .i64 j),bS (.slice (some ⟨bK,oK+8*j*4,none⟩) n (cK-8*j)),bS (.int .i64 n),bS (.bool false),bS (.bool false),bS (.pointer (some ⟨w.heap.size+1,3,none⟩)),bS (.agg #[.int .i64 v0,.int .i64 v1,.int .i64 v2,.int .i64 v3,.int .i64 v4,.int .i64 v5,.int .u16 v6,.slice A4 L.length c4]),bS (.bool true),bS (.bool false),bS (.bool false)]
  78 (by kernel_rfl) rfl (by kernel_rfl) (df (bl _ _)) (λ_=>trivial) ?_ ?_ ?_
 ·exact⟨bS.kept,bS.kept,bS.kept,bS.kept,bS.kept,bS.kept,bS.kept,bS.kept,bS.kept,bS.kept,bS.kept,bS.kept,bS.kept,bS.kept,bS.kept,bS.kept,bS.kept,bS.kept,bS.kept,bS.kept,bS.kept,bS.kept,trivial⟩
 ·refine bh ?_ (bh ?_ (bh ?_ (bh ?_ (bh ?_ (bh ?_ (bh ?_ (bh ?_ (bh ?_ (bh ?_ (bh ?_ (bh ?_ (bh ?_ (bh ?_ (bh ?_ (bh ?_ (bh ?_ (bh ?_ (bh ?_ (bh ?_ (bh ?_ (bh ?_ mH)))))))))))))))))))))
  ·refine bk rfl λf ZP hb H=>?_;have e3:f 3=_:=H 3 (by decide);clear H;have Z7:=Lib.hid hb;clear hb
   go_simp
   exact⟨Z7.out,trivial,rfl⟩
  ·refine bk rfl λf ZP hb H=>?_;have OC:f 38=_:=H 38 (by decide);clear H;have Z7:=Lib.hid hb;have Sc:=(Zh.out.grow hb).cell 2;simp only[List.getElem?_cons_zero,List.getElem?_cons_succ]at Sc;clear hb
   go_simp
   exact⟨Z7.out,trivial,rfl⟩
  ·refine bk rfl λf ZP hb H=>?_;have OD:f 39=_:=H 39 (by decide);clear H;have Z7:=Lib.hid hb;clear hb
   go_simp
   exact⟨Z7.out,trivial,rfl⟩
  ·refine bk rfl λf ZP hb H=>?_;have e2:f 2=_:=H 2 (by decide);clear H;have Z7:=Lib.hid hb;clear hb
   go_simp
   exact⟨Z7.out,trivial,rfl⟩
  ·refine bk rfl λf ZP hb H=>?_;have OF:f 41=_:=H 41 (by decide);clear H;have Z7:=Lib.hid hb;have R8:=(WI.out.grow hb).cell 0;simp only[List.getElem?_cons_zero]at R8;clear hb
   go_simp
   exact⟨Z7.out,trivial,rfl⟩
  ·refine bk rfl λf ZP hb H=>?_;have e3:f 3=_:=H 3 (by decide);clear H;have Z7:=Lib.hid hb;clear hb
   go_simp
   exact⟨Z7.out,trivial,rfl⟩
  ·refine bk rfl λf ZP hb H=>?_;have OH:f 43=_:=H 43 (by decide);clear H;have Z7:=Lib.hid hb;clear hb
   go_simp
   exact⟨Z7.out,trivial,rfl⟩
  ·refine bk rfl λf ZP hb H=>?_;have OI:f 44=_:=H 44 (by decide);clear H;have Z7:=Lib.hid hb;have R9:=(Zh.out.grow hb).cell 0;simp only[List.getElem?_cons_zero,List.getElem?_cons_succ]at R9;clear hb
   go_simp
   exact⟨Z7.out,trivial,rfl⟩
  ·refine bk rfl λf ZP hb H=>?_;have OG:f 42=_:=H 42 (by decide);have OJ:f 45=_:=H 45 (by decide);clear H;have Z7:=Lib.hid hb;clear hb
   go_simp
   exact⟨Z7.out,trivial,rfl⟩
  ·refine bk rfl λf ZP hb H=>?_;have OK:f 46=_:=H 46 (by decide);clear H;have Z7:=Lib.hid hb
   have ch:ZP.cell? ⟨bR,oR+k,none⟩=some (.slice (some ⟨bK,oK,none⟩) N cK):=by rw[World.cell?_of_block (hb.block bR (World.block_lt_of_cell? _ _ Va.out) (by simp))];exact Va.out
   clear hb
   go_simp
   exact⟨Z7.out,trivial,rfl⟩
  ·refine bk rfl λf ZP hb H=>?_;have e3:f 3=_:=H 3 (by decide);clear H;have Z7:=Lib.hid hb;clear hb
   go_simp
   exact⟨Z7.out,trivial,rfl⟩
  ·refine bk rfl λf ZP hb H=>?_;have OM:f 48=_:=H 48 (by decide);clear H;have Z7:=Lib.hid hb;clear hb
   go_simp
   exact⟨Z7.out,trivial,rfl⟩
  ·refine bk rfl λf ZP hb H=>?_;have ON:f 49=_:=H 49 (by decide);clear H;have Z7:=Lib.hid hb;have R':=(Zh.out.grow hb).cell 1;simp only[List.getElem?_cons_zero,List.getElem?_cons_succ]at R';clear hb
   go_simp
   exact⟨Z7.out,trivial,rfl⟩
  ·refine bk rfl λf ZP hb H=>?_;have OL:f 47=_:=H 47 (by decide);have OO:f 50=_:=H 50 (by decide);clear H;have Z7:=Lib.hid hb;clear hb
   go_simp
   refine(ul bK oK N cK j _ HJ.out.1 HJ.out.2.1 HJ.out.2.2.1 HJ.out.2.2.2).mono ?_;rw[<- Hn.out];rintro e w5 ⟨rfl,SS⟩;exact⟨_,rfl,bo Z7.out SS,trivial,rfl⟩
  ·refine bk rfl λf ZP hb H=>?_;have OP:f 51=_:=H 51 (by decide);clear H;have Z7:=Lib.hid hb;clear hb
   go_simp
   exact⟨Z7.out,trivial,rfl⟩
  ·refine bk rfl λf ZP hb H=>?_;have OE:f 40=_:=H 40 (by decide);have OQ:f 52=_:=H 52 (by decide);clear H;have Z7:=Lib.hid hb;clear hb
   go_simp
   exact⟨Z7.out,trivial,rfl⟩
  ·refine bk rfl λf ZP hb H=>?_;have OR:f 53=_:=H 53 (by decide);clear H;have Z7:=Lib.hid hb;clear hb
   go_simp
   exact⟨Z7.out,trivial,rfl⟩
  ·refine eB _ _ _ rfl rfl λf ZP hb H=>⟨H 54 (by decide),?_⟩;have e3:f 3=_:=H 3 (by decide);clear H;have Z7:=Lib.hid hb;clear hb
   go_simp
   exact⟨Z7.out,trivial,rfl⟩
  ·refine eB _ _ _ rfl rfl λf ZP hb H=>⟨H 54 (by decide),?_⟩;have MC:f 55=_:=H 55 (by decide);clear H;have Z7:=Lib.hid hb;have PR:=(Zh.out.grow hb).cell 3;have PS:=(Zh.out.grow hb).cell 4;have PT:=(Zh.out.grow hb).cell 5;have PU:=(Zh.out.grow hb).cell 6;have PV:=(Zh.out.grow hb).cell 7;have PW:=(Zh.out.grow hb).cell 8;have PX:=(Zh.out.grow hb).cell 9;have Ui:=(Zh.out.grow hb).cell 10;simp only[List.getElem?_cons_zero,List.getElem?_cons_succ]at PR PS PT PU PV PW PX Ui;clear hb
   go_simp
   exact⟨Z7.out,trivial,rfl⟩
  ·refine eB _ _ _ rfl rfl λf ZP hb H=>⟨H 54 (by decide),?_⟩;have MD:f 56=_:=H 56 (by decide);clear H;have Z7:=Lib.hid hb;clear hb
   go_simp
   refine(HE.out _ (bo XK.out Z7.out)).mono ?_;rintro e w6 ⟨rfl,QG⟩;exact⟨_,rfl,bo Z7.out QG,trivial,rfl⟩
  ·refine eB _ _ _ rfl rfl λf ZP hb H=>⟨H 54 (by decide),?_⟩;have ME:f 57=_:=H 57 (by decide);clear H;have Z7:=Lib.hid hb;clear hb
   go_simp
   exact⟨Z7.out,trivial,rfl⟩
  ·refine bk rfl λf ZP hb H=>?_;have OS:f 54=_:=H 54 (by decide);have OT:f 58=_:=H 58 (by decide);clear H;have Z7:=Lib.hid hb;clear hb
   go_simp
   exact⟨Z7.out,trivial,rfl⟩
 ·intro f w9 hb hE;simp only[eO,Act.put,wC,List.setIfInBounds_toArray,List.set_cons_succ,List.set_cons_zero];have Sf:f 59=.bool false:=hE.2.2.2.2.2.2.2.2.2.2.2.2.2.2.2.2.2.2.2.2.2.1;clear hE;have ZJ:=hb;clear hb;rw[Sf];have PO:=Lib.hid (bo XK.out ZJ);have Xk:=(WI.out.grow ZJ).cell 0;have Xl:=(WI.out.grow ZJ).cell 1;simp only[List.getElem?_cons_zero,List.getElem?_cons_succ]at Xk Xl;have Zh:=Lib.hid (Zh.out.grow ZJ);have Wz:=Lib.hid (Wz.out.grow ZJ);have Rb:=ZJ.size;clear ZJ Va
  go_wp2_with fail
  refine(jv F C T _ _ w9 (HU.out.grow PO.out) (HV.out.grow PO.out)).mono ?_;rintro e w2 ⟨a,b,fp,gp,rfl,oa,ob,ZT,XR,ZI⟩;obtain⟨A6,c6,rfl⟩:=ob.shape;have LM:=Lib.hid oa;obtain⟨M2,⟨e1,e2,_⟩|⟨ql,cl,cs,g,rfl,e2,l1,l2,hV,hO⟩⟩:=oa
  ·rw[e2]at y2;simp at y2;omega
  obtain⟨g1,g2,g3,d1,d2,d3,e3,e4,l3,o1,o2,o3⟩:=hO.split HK.out;obtain⟨hdr,rfl,RE⟩:=o2;obtain⟨Qk,⟨_,e5,_⟩|⟨qK,UL,xs,g4,rfl,e6,m1,m2,Qd,Qc⟩⟩:=RE
  ·have h1:=Xm.out;have h2:=HJ.out.2.1;rw[e5]at h1;simp at h1;omega
  have Y4:=zA Qc;subst Y4;have Rr:=ue (Qc.reads);subst Rr;rw[<- Xm.out]at e4;rw[e4,List.append_assoc]at hV;have XN:w2.grownBy (w2.alloc (.cells #[.slice (some ⟨ql,0,none⟩) C.length cl,.slice A6 T.length c6] 31)) none:=bj (bl _ _) _;have Um:Bk (w2.alloc (.cells #[.slice (some ⟨ql,0,none⟩) C.length cl,.slice A6 T.length c6] 31)) w2.heap.size 31 [.slice (some ⟨ql,0,none⟩) C.length cl,.slice A6 T.length c6]:=Bk.new;have T0:=bo PO.out (bo ZI XN);have Z8:=(Zh.out.grow ZI).grow XN;have Wz:=Lib.hid ((Wz.out.grow ZI).grow XN);have Y6:=ZI.size;have Q9:=XR ql (by rw[e2];simp)
  have Po:qK∈fp:=by rw[e2,e3,e6];simp
  have Pp:=XR qK (List.mem_append_left _ Po);have Tm:=hV.hi;have Pq:=Qd.hi
  have Nv:qK≠ql:=λe=>by
   have h1:=(List.nodup_append.1 ZT).1;rw[e2,e3,e6]at h1;exact(List.nodup_cons.1 h1).1 (by rw[<- e];simp)
  have PP:=Lib.hid (And.intro ZT (And.intro XR (And.intro e2 (And.intro e3 (And.intro e6 (And.intro o1 (And.intro o3 ob)))))));have Oy:=Lib.hid (hV.grow XN);have Ms:=Lib.hid (Qd.grow XN);have HL:=Lib.hid (show d1.length=k from by rw[l3];exact Nat.mul_one k);have R6:=Lib.hid T0;have VN:=Lib.hid XN;have Ov:=Lib.hid (show N<=UL from by rw[Xm.out];exact m1);have Mu:=Lib.hid m2;clear Xk Xl ZT XR e2 e3 e4 e6 o1 o3 ob l3 hO Qc hV Qd M2 Qk m1 m2 Po ZI WI Zh
  go_upto_region 13 with fail
  generalize w2.alloc (.cells #[.slice (some ⟨ql,0,none⟩) C.length cl,.slice A6 T.length c6] 31)=W3 at *;generalize hq7:w2.heap.size=q7 at *;have Zh:=Lib.hid Z8;have RL:=Lib.hid Um;have n0:=Um.cell 0;have XG:=Z8.cell 0;have XH:=Z8.cell 1;have XI:=Z8.cell 2;simp only[List.getElem?_cons_zero,List.getElem?_cons_succ]at n0 XG XH XI
  have nk:W3.cell? ⟨ql,k,none⟩=some (.slice (some ⟨qK,0,none⟩) N UL):=by
   have h:=Oy.out.mid (j:=0) (u:=.slice (some ⟨qK,0,none⟩) N UL) rfl;rw[HL.out,Nat.add_zero]at h;exact h
  have V6:0<cells.length:=by
   have h1:=Hc.out;have h2:=HJ.out.2.1;rw[<- Xm.out]at h1;omega
  rcases(HY.out.grow R6.out).cells with⟨h0,_⟩|⟨ad,cc,ys,N2,N4,PC,PD⟩
  ·rw[h0]at V6;cases V6
  injection N2 with Ru N3 Rv
  subst Ru;subst Rv;have Xj:=ue PD;subst Xj;have Mt:=Lib.hid PC;have Ug:=Lib.hid (show cells.length=n from by have h1:=Hc.out;rw[<- Xm.out,<- Hn.out]at h1;exact h1);clear PC N4 PD Z8 Um XN T0 V6
  have j2:(j:Int).toNat=j:=by omega
  have j3:(0:Int)<=(j:Int):=by omega
  go_cut []from 63 to 77 (λwx=>ED (C.set k (gN C[k] j cells)) T w q7 (.slice (some ⟨ql,0,none⟩) C.length cl) (.slice A6 T.length c6) wx)
  case first=>
   go_still_tail 13,(by kernel_rfl)
   still_call (zu qK 0 N UL j _ HJ.out.1 HJ.out.2.1 Ov.out HJ.out.2.2.2)
   rw[<- Hn.out]
   repeat still_step
   refine wpStill_nil ?_;obtain⟨cur,v1,v2,v3⟩:=Ms.out.eq
   have TY:(cnL cells).length=n*4:=by rw[kV,Ug.out]
   have NH:rCn.size=4:=rfl
   have Ro:(cnL C[k]).length=N*4:=by rw[kV];exact congrArg (· * 4) Xm.out.symm
   have MK:8*j+n<=N:=by
    have h1:=Hn.out;have h2:=HJ.out.2.1;omega
   have MW:=Ov.out;change wpList _ _ _ _ _ W3.drew;refine mb 4 rfl (.tmp 73) (.tmp 75) 53 57 rfl Try.underlying53 (by kernel_rfl) qK (8*j*4) n (UL-8*j) rfl ad cells.length c3 rfl cur 57 (cnL cells) v1 ?c1 ?c2 ?c3 (Ec _) ?_
   case c1=>rw[Ug.out,TY];simp
   case c2=>exact λj u hu=>Mt.out j u hu
   case c3=>rw[TY,v2,NH];omega
   have hL:=rZ (e:=57) (w:=W3.drew) (cs:=cnL cells) (o:=8*j*4) v1 v2 v3 (by rw[TY];exact Nat.le_trans (by omega) (Nat.le_of_eq Ro.symm))
   have ZH:(cnL C[k]).take (8*j*4)++cnL cells++(cnL C[k]).drop (8*j*4+(cnL cells).length)=cnL (gN C[k] j cells):=by
    have e2:8*j*4+(cnL cells).length=(8*j+cells.length)*4:=by rw[kV];omega
    rw[e2,Ca,Cb,gN,rQ,rQ]
   have Qb:i9 57 (W3.drew.setRow qK (cur.toList.take (8*j*4)++cnL cells++cur.toList.drop (8*j*4+(cnL cells).length)).toArray) qK (UL*rCn.size) (cnL (gN C[k] j cells)):=by rw[<- ZH];exact hL
   obtain⟨WF,Sw⟩:∃WF,WF=(W3.drew.setRow qK (cur.toList.take (8*j*4)++cnL cells++cur.toList.drop (8*j*4+(cnL cells).length)).toArray):=⟨_,rfl⟩;rw[<- Sw]at Qb⊢
   have hset:∀x,x≠qK->WF.heap[x]?=W3.heap[x]?:=λx hx=>by rw[Sw];exact setRow_other W3.drew qK x _ hx
   have hsz:WF.heap.size=W3.heap.size:=by rw[Sw];exact t9 W3.drew qK _
   have R1:WF.os=W3.os/\WF.tape=W3.tape/\WF.output=W3.output:=by rw[Sw];exact⟨rfl,rfl,rfl⟩
   clear Sw;have Ym:W3.grownBy WF (some qK):=⟨R1.1,R1.2.1,R1.2.2,Nat.le_of_eq hsz.symm,λx _ hx=>hset x (λe=>hx (by rw[e]))⟩
   have Uf:=Lib.hid (show ED (C.set k (gN C[k] j cells)) T w q7 (.slice (some ⟨ql,0,none⟩) C.length cl) (.slice A6 T.length c6) WF from by
    obtain⟨ZT,XR,e2,e3,e6,o1,o3,ob⟩:=PP.out;have QI:=VN.out.size;have hlen:=wR (row:=C[k]) (j:=j) (cells:=cells) (by rw[Ug.out];exact Nat.le_trans MK (Nat.le_of_eq Xm.out));have We:(gN C[k] j cells).length=N:=hlen.trans Xm.out.symm;have Vq:∀x,x∈fp->w9.heap.size+2<=x:=λx hx=>XR x (List.mem_append_left _ hx);have O8:=(List.nodup_append.1 ZT).1
    have RW:(ql::(g1++(qK :: [])++g3)).Nodup:=by rw[e2,e3,e6]at O8;exact O8
    have hin:∀x,x∈g1++(qK :: [])++g3->x∈fp:=λx hx=>by rw[e2,e3,e6];exact List.mem_cons_of_mem _ hx
    have Z1:∀x,x∈g1->x≠qK:=λx hx e=>by
     have h1:=(List.nodup_cons.1 RW).2;rw[List.append_assoc]at h1;exact(List.nodup_append.1 h1).2.2 x hx qK (by simp) e
    have QF:∀x,x∈g3->x≠qK:=λx hx e=>by
     have h1:=(List.nodup_cons.1 RW).2;exact(List.nodup_append.1 h1).2.2 qK (by simp) x hx e.symm
    have QJ:∀x,x∈gp->x≠qK:=λx hx e=>(List.nodup_append.1 ZT).2.2 qK (hin qK (by simp)) x hx e.symm
    have hk2:∀x,x<w2.heap.size->x≠qK->WF.heap[x]?=w2.heap[x]?:=λx h1 h2=>by rw[hset x h2,VN.out.block x h1 (by simp)]
    have L5:=HS.out;refine⟨gy R6.out Ym λk e=>by injection e with e;omega,Wz.out.keep (hset _ (by omega)),RL.out.keep (hset _ (by omega)),?_,?_⟩
    ·have hown:OSl rCs 53 WF (ql::(g1++(qK :: [])++g3)) (C.set k (gN C[k] j cells)) (.slice (some ⟨ql,0,none⟩) C.length cl):=by
      refine⟨by rw[List.length_set];exact UM,.inr ⟨ql,cl,d1++[.slice (some ⟨qK,0,none⟩) N UL]++d3,g1++(qK :: [])++g3,by rw[List.length_set],rfl,by rw[List.length_set];exact l1,l2,?_,gF.join HK.out (o1.keep λx hx=>hk2 x (o1.live x hx) (Z1 x hx)) ⟨_,rfl,?_⟩ (o3.keep λx hx=>hk2 x (o3.live x hx) (QF x hx))⟩⟩
      ·rw[List.append_assoc];exact Oy.out.keep (hset ql (λe=>Nv e.symm))
      ·refine⟨by rw[We];exact HJ.out.2.2.2,.inr ⟨qK,UL,cnL (gN C[k] j cells),[],by rw[We],rfl,by rw[We];exact MW,Mu.out,Qb,As _ _⟩⟩
     exact hown.reads.sub λx hx=>by
      rcases List.mem_cons.1 hx with rfl|hx
      ·omega
      ·have:=Vq x (hin x hx);omega
    ·exact((ob.keep λx hx=>hk2 x (ob.live x hx) (QJ x hx)).reads).sub λx hx=>by have:=XR x (List.mem_append_right _ hx);omega)
   clear hset hsz Ym hL Qb ZH R1
   go_wp2_with fail
   go_meet
   exact Uf.out
  case rest=>
   have HD:=Lib.hid hcut;have j0:=hcut.st.cell 0;have j1:=hcut.st.cell 1;have r0:=hcut.res.cell 0;have r1:=hcut.res.cell 1;have f0:=hcut.res.free 0;have f1:=hcut.res.free 1;have r2:=hcut.res.hi;simp only[List.getElem?_cons_zero,List.getElem?_cons_succ]at j0 j1 r0 r1;clear hcut n0 nk XG XH XI
   go_wp2_with fail
   refine bodyPost_ret (v:=.tuple #[.agg #[.slice (some ⟨ql,0,none⟩) C.length cl,.slice A6 T.length c6],.int .i64 0]) (by simp[results,Try.results37,go_sem,r0,r1,r2]) rfl ?_;exact HD.out.ret
inductive nG (w:World)(F:Nat->Prop):TV->Value->Prop
 |im {t:TV} {x:Value} (h:fb w F t x):nG w F t x
 |fn {f:FuncId}:nG w F (.fn f []) (.func (.func f) #[] #[])
 |ag {l:List TV} {cs:Array Value} (hl:cs.size=l.length) (h:∀j (hj:j<l.length),fb w F l[j] (cs.getD j undef)):nG w F (.agg l) (.agg cs)
def DZ:TV->Bool
 |.v _=>true
 |.sl _=>true
 |_=>false
def uw:TV->Bool
 |.sl _=>true
 |.v _=>true
 |.fn _ []=>true
 |.agg l=>l.all DZ
 |_=>false
def tL(P:Program)(f:FuncId)(vals:List TV)(r:nV):Prop:=
 r.cells.all DZ=true/\∀(avs:List Value)(w:World)(F:Nat->Prop),avs.length=vals.length->(∀j (h:j<vals.length)(h':j<avs.length),nG w F vals[j] avs[j])->
  Calls P f avs.toArray w λe w2=>∃ys,e=.returned (gr r.sh ys)/\ys.length=r.cells.length/\Below w.heap.size w w2/\∀j (h:j<r.cells.length),fb w2 (λk=>F k\/w.heap.size<=k) r.cells[j] (ys.getD j undef)
def zO(R:FuncId->List TV->Option nV):bW:=λf vals pts=>
 match pts with
 | []=>if vals.all uw then(R f vals).map λr=>(r,[])else none
 |_=>none
section
variable {M:Fm} {σ:St} {ts:Array Value} {w:World}
theorem Inv.addHands{F:Nat->Prop}:∀{z:List TV}{ys:List Value}{H:List TV}{xs:List Value}{G:Gh},Inv M σ H xs ts w G->(∀k,F k->G.F M.A k)->z.length=ys.length->(∀j (h:j<z.length),fb w F z[j] (ys.getD j undef))->∃G',Inv M σ (H++z) (xs++ys) ts w G':=by
 intro z
 induction z with
 |nil=>
  intro ys H xs G hI _ hl _;have:ys=[]:=List.length_eq_zero_iff.1 hl.symm;subst this;exact⟨G,by simpa using hI⟩
 |cons t z ih=>
  intro ys H xs G hI hF hl hz
  cases ys with
  |nil=>simp at hl
  |cons y ys=>
   obtain⟨G1,hg⟩:=hI.addHand ((hz 0 (by simp)).frame (F':=G.F M.A) (λ_ _ _=>rfl) λk hk _=>hF k hk).toOwn
   obtain⟨G2,ZR⟩:=ih hg.1 (λk hk=>hg.2.1 k (hF k hk)) (by simpa using hl) λj hj=>by have:=hz (j+1) (by simpa using hj);simpa using this
   refine⟨G2,?_⟩;simpa using ZR
end
theorem DT{P:Program}{R:FuncId->List TV->Option nV}(hR:∀f vals r,R f vals=some r->gE P f/\tL P f vals r):cH P (zO R):=by
 intro f vals pts res Zx h
 cases pts with
 |cons _ _=>simp[zO]at h
 |nil=>
  simp only[zO]at h;split at h
  case isFalse=>simp at h
  rename_i Zy;simp only[List.all_eq_true]at Zy
  obtain⟨r,hr,he⟩:∃r,R f vals=some r/\(r,[])=(res,Zx):=by
   cases hr:R f vals with
   |none=>simp[hr]at h
   |some c=>exact⟨c,rfl,by simpa[hr]using h⟩
  injection he with e1 e2
  subst e1 e2;obtain⟨Y3,Wb,QW⟩:=hR f vals r hr;refine⟨Y3,vals.length,Nat.le_refl _,λM avs w G hal hN Py Y7 hI=>?_⟩;subst Py
  have Ri:avs.toArray++Array.replicate (vals.length-avs.length) undef=avs.toArray:=by rw[hal];simp
  rw[Ri]at hI
  have hst:∀j,(mkSt vals []).t j=vals.getD j .dead:=by
   intro j;simp[St.t,mkSt,jl]
  refine(QW avs M.w0 (G.F M.A) hal λj hj ZW=>?_).mono λe w2 ⟨ys,Vl,hlen,hb,Xj⟩=>?_
  ·have ht:=hI.tmr j;rw[hst]at ht
   have e1:vals.getD j .dead=vals[j]:=by simp[hj]
   have e2:avs.toArray.getD j undef=avs[j]:=by simp[Array.getD_eq_getD_getElem?,ZW]
   rw[e1,e2]at ht;have ha:=Zy _ (List.getElem_mem hj);revert ht ha;generalize vals[j]=t;generalize avs[j]=y;intro ht ha
   cases ht with
   |v h=>exact .im (.v h)
   |sl h=>exact .im h
   | @fn f l xs hl h=>
    cases l with
    |nil=>
     have:xs=#[]:=Array.eq_empty_of_size_eq_zero (by simpa using hl);subst this;exact .fn
    |cons _ _=>simp[uw]at ha
   | @agg l cs hl h=>
    refine .ag hl λj hj=>?_;have h1:DZ l[j]=true:=List.all_eq_true.1 ha _ (List.getElem_mem hj);have h2:=h j hj;revert h1 h2;generalize l[j]=t;generalize cs.getD j undef=z;intro h1 h2
    cases h2 with
    |v h2=>exact .v h2
    |sl h2=>exact h2
    |_=>simp[DZ]at h1
   |_=>simp[uw]at ha
  ·obtain⟨ZR,_⟩:=hI.grow (w':=w2) (λk hk=>hb.block k hk) hb.size hb.os hb.tape hb.output
   have hF:∀k,G.F M.A k\/M.w0.heap.size<=k->G.F M.A k:=by
    rintro k (hk|hk)
    ·exact hk
    ·refine⟨M.hA k hk,λr o hφ=>?_,λr b o n hβ e=>?_⟩
     ·have:=hI.core.live hφ;omega
     ·subst e;have:=hI.core.boxlt hβ;omega
   obtain⟨G',Xb⟩:=ZR.addHands hF hlen.symm Xj;refine⟨_,mkSt vals [],Vl,.inl ⟨ys,avs.toArray,G',rfl,by simpa using Xb,λj hj=>.inl ?_⟩,rfl⟩;have:=List.all_eq_true.1 Wb _ (List.getElem_mem hj);revert this;generalize r.cells[j]=t;intro this
   cases t with
   |v _=>rfl
   |sl _=>rfl
   |_=>simp[DZ]at this
def vK:TV->Bool
 |.v _=>true
 |.sl _=>true
 |.ow _=>true
 |_=>false
theorem nG.toTm{w:World}{F:Nat->Prop}{V:Vs}{C:Cs}{G:Gh}{t:TV}{x:Value}(h:nG w F t x):TmR w F V C G t x:=by
 cases h with
 |im h=>exact h.toTm
 |fn=>exact .fn rfl λj hj=>by simp at hj
 |ag hl h=>exact .agg hl λj hj=>(h j hj).toTm
theorem nG.frame{w w':World}{F F':Nat->Prop}{t:TV}{x:Value}(h:nG w F t x)(hw:∀k,F k->k<w.heap.size->w'.heap[k]?=w.heap[k]?)(hF:∀k,F k->k<w.heap.size->F' k):nG w' F' t x:=by
 cases h with
 |im h=>exact .im (h.frame hw hF)
 |fn=>exact .fn
 |ag hl h=>exact .ag hl λj hj=>(h j hj).frame hw hF
theorem rT{P:Program}{B:bW}(hB:cH P B){f:FuncId}{vals:List TV}{avs:List Value}{res:nV}{w:World}{F:Nat->Prop}(h:B f vals []=some (res,[]))(Zs:res.cells.all vK=true)(hl:avs.length=vals.length)
 (hv:∀j (h:j<vals.length)(h':j<avs.length),nG w F vals[j] avs[j]):
 Calls P f avs.toArray w λe w'=>∃ys,e=.returned (gr res.sh ys)/\ys.length=res.cells.length/\Below w.heap.size w w'/\∀j (h:j<res.cells.length),fb w' (λk=>F k\/w.heap.size<=k) res.cells[j].imm (ys.getD j undef):=by
 obtain⟨Y3,N,hN,hc⟩:=hB f vals [] _ _ h;obtain⟨M,hM⟩:∃M:Fm,M=⟨w,λk=>F k\/w.heap.size<=k,λ_=>False,λ_=>none,N,λk hk=>.inr hk⟩:=⟨_,rfl⟩;have Zo:∀k,F k->frG.F M.A k:=λk hk=>⟨by rw[hM];exact .inl hk,λ_ _ h=>h,λ_ _ _ _ h=>by simp[frG]at h⟩
 have hst:∀i,(mkSt vals []).t i=vals.getD i .dead:=by
  intro i;simp[St.t,mkSt,jl]
 have hE:∀r o,bx M (mkSt vals []) [] r o=.dead:=by
  intro r o;unfold bx;split
  ·simp
  ·rfl
 have hI:Inv M (mkSt vals []) [] [] (avs.toArray++Array.replicate (N-avs.length) undef) w frG:=by
  refine⟨⟨λr o=>.inl ⟨hE r o,λ_ h=>h⟩,λ_ _ _ _ h=>by simp[frG]at h,λ_ _ _ _ h=>by simp[frG]at h,λ_ _ _ _ _ _ _ h=>by simp[frG]at h,λ_ _ _ _ h=>by simp[frG]at h,λ_ _ _ _ _ h=>h.elim,λ_ _ _ h=>h.elim⟩,λi=>?_,⟨by rw[hM],by rw[hM],by rw[hM],by rw[hM];exact Nat.le_refl _,λ_ _ _ _=>by rw[hM],λ_ _ _ _ h=>by simp[hM]at h,λ_ _ _ h=>h.elim,λ_ _ _ _ h=>by simp[frG]at h,λ_ h=>by simp[frG]at h⟩,λr l h=>by simp[mkSt,bB]at h,?_,rfl,λj hj=>by simp at hj,λ_ _ _ _ h=>by simp[frG]at h⟩
  ·rw[hst];by_cases hi:i<vals.length
   ·have ZL:i<avs.length:=by omega
    have e1:vals.getD i .dead=vals[i]:=by simp[hi]
    have e2:(avs.toArray++Array.replicate (N-avs.length) undef).getD i undef=avs[i]:=by
     simp[Array.getD_eq_getD_getElem?,Array.getElem?_append,ZL]
    rw[e1,e2];exact((hv i hi ZL).frame (w':=w) (F':=frG.F M.A) (λ_ _ _=>rfl) λk hk _=>Zo k hk).toTm
   ·have e1:vals.getD i .dead=.dead:=by rw[oGD,oGN (by omega)];rfl
    rw[e1];exact .dead
  ·rw[hM];simp;omega
 refine(hc M avs w frG hl (by rw[hM]) (by rw[hM]) (λr hr=>by simp[hM]at hr) hI).mono λe w2 ⟨v,σ2,he,Yo,_⟩=>?_
 rcases Yo with⟨ys,ts2,G2,rfl,ZR,_⟩|⟨q,vs,l,pv,ts2,G2,ZQ,_⟩
 rotate_left
 ·rw[ZQ]at Zs;simp[vK]at Zs
 have ZT:∀j (h:j<res.cells.length),res.cells[j]≠.dead:=λj hj e=>by
  have:=List.all_eq_true.1 Zs res.cells[j] (List.getElem_mem hj);rw[e]at this;simp[vK]at this
 obtain⟨G3,T0,Wb⟩:=ZR.dropImm ZT;refine⟨ys,he,ZR.hand.symm,⟨?_,?_,?_,?_,λk hk=>?_⟩,λj hj=>(Wb j hj).frame (λ_ _ _=>rfl) λk hk _=>?_⟩
 ·have:=ZR.fram.os;rw[hM]at this;exact this
 ·have:=ZR.fram.tape;rw[hM]at this;exact this
 ·have:=ZR.fram.output;rw[hM]at this;exact this
 ·have:=ZR.fram.size;rw[hM]at this;exact this
 ·have:=ZR.fram.old k (by rw[hM];exact hk) (by rw[hM];exact λh=>h) λ_ _ _ _ h=>by simp[hM]at h
  rw[this,hM]
 ·have:=hk.1;rw[hM]at this;exact this
abbrev Gi:CT:=(.pair (.int .u8) (.pair (.int .u16) (.pair I64 I64)))
abbrev Eu:CT:=(.pair I64 (.pair I64 (.pair I64 (.pair I64 (.pair I64 (.pair I64 (.pair (.int .u16) (.row false Gi))))))))
abbrev jI:CT:=(.row false Gi)
abbrev RIi:CT:=(.row false I64)
abbrev p8:Type:=(Int×Int×Int×Int)
abbrev Ge:Type:=(Int×Int×Int×Int×Int×Int×Int×List p8)
def HHi(f i:Nat):List (Nat×Option Nat):=if f=60 then(if i=0 then[(4,none)]else[])else[]
noncomputable def TTi (f:FuncId):Option TFn:=jy Try.prog (HHi f) f
noncomputable def E0i:Env:=⟨λ_=>none,λf=>FV Try.prog f⟩
theorem EL:rV Try.prog TTi:=tV HHi (by kernel_rfl)
def kr(a0:Int):Option (Bool×Unit):=
bif(decide (a0>=1))then(some ((decide (a0<=32)),()))else
some (false,())
noncomputable def pI:X.Cfg:=⟨E0i,[],[],[]⟩
def ky:Ctr:=⟨43,0,[shU I64],[],[⟨[shU .bool],[.one],[]⟩],λh=>kr h.1⟩
set_option maxRecDepth 100000 in
theorem pA:Lvl E0i TTi noB 1 ky:=ej (n:=0) (C:=pI) rfl (.intro) (fO (by kernel_rfl)) (λh=>by kernel_rfl)
def io(a0:List p8):Option (Bool×Unit):=
let x0:Int:=(bu (List.length a0));
(kr x0).bind λ(x1,_)=>
some ((!x1),())
noncomputable def mD:X.Cfg:=⟨E0i,[ky],[],[]⟩
def iD:Ctr:=⟨83,1,[shU jI],[],[⟨[shU .bool],[.one],[]⟩],λh=>io h.1⟩
set_option maxRecDepth 100000 in
theorem mB:Lvl E0i TTi noB 2 iD:=ej (n:=1) (C:=mD) rfl (.intro (pA.mono (by decide)) (.intro)) (fO (by kernel_rfl)) (λh=>by kernel_rfl)
def fW:(List (List p8))×Int×Int×Unit->Option (((List (List p8))×Int×Int×Unit)⊕((Int×Unit)⊕((List (List p8))×Int×Int×Bool×Unit))):=λ(v0,v1,v2,_)=>
bif(decide (v2<v1))then((eD v2).bind λx0=>
(dw v0 x0).bind λx1=>
(io x1).bind λ(x2,_)=>
bif x2 then(some (.inr (.inl (v2,()))))else
let x3:Int:=(w64 (v2+1));
some (.inl (v0,v1,x3,())))else
some (.inr (.inr (v0,v1,v2,false,())))
def dW(a0:List (List p8)):Option (Int×Unit):=
let x0:Int:=(bu (List.length a0));
(match bH fW NN (a0,x0,0,())with
|none=>none
|some (.inl (x1,_))=>
some (x1,())
|some (.inr (x1,x2,x3,x4,_))=>
some ((-1),()))
noncomputable def ie:X.Cfg:=⟨E0i,[iD],[],[⟨3,0,⟨[(0,shU (.row false jI)),(1,.fn 83 []),(7,shU I64),(8,shU I64)],[],[],([],[])⟩,[(.ret,⟨[(4,shU I64)],[],[],([],[])⟩),(.exit 0,⟨[(0,shU (.row false jI)),(1,.fn 83 []),(7,shU I64),(8,shU I64),(9,shU .bool)],[],[],([],[])⟩)]⟩]⟩
def d5:Ctr:=⟨96,2,[shU (.row false jI),.fn 83 []],[],[⟨[shU I64],[.one],[]⟩],λh=>dW h.1⟩
set_option maxRecDepth 100000 in
theorem ia:Lvl E0i TTi noB 3 d5:=ej (n:=2) (C:=ie) rfl (.intro (mB.mono (by decide)) (.intro)) (fO (by kernel_rfl)) (λh=>by kernel_rfl)
def dB(a0:List (List p8)):Option (Bool×Unit):=
(dW a0).bind λ(x0,_)=>
some ((decide (x0>=0)),())
noncomputable def f9:X.Cfg:=⟨E0i,[d5],[],[]⟩
def dE:Ctr:=⟨82,3,[shU (.row false jI),.fn 83 []],[],[⟨[shU .bool],[.one],[]⟩],λh=>dB h.1⟩
set_option maxRecDepth 100000 in
theorem f8:Lvl E0i TTi noB 4 dE:=ej (n:=3) (C:=f9) rfl (.intro (ia.mono (by decide)) (.intro)) (fO (by kernel_rfl)) (λh=>by kernel_rfl)
def jb(a0:List (List p8))(a1:List Ge):Option (Bool×Unit):=
let x0:Int:=(bu (List.length a0));
bif(decide (x0<=4))then(let x1:Int:=(bu (List.length a1));
bif(decide (x1<=4))then((dB a0).bind λ(x2,_)=>
some ((!x2),()))else
some (false,()))else
some (false,())
noncomputable def oE:X.Cfg:=⟨E0i,[dE],[],[]⟩
def jz:Ctr:=⟨49,4,[.agg [shU (.row false jI),shU (.row false Eu)]],[],[⟨[shU .bool],[.one],[]⟩],λh=>jb h.1 h.2.1⟩
set_option maxRecDepth 100000 in
theorem oz:Lvl E0i TTi noB 5 jz:=ej (n:=4) (C:=oE) rfl (.intro (f8.mono (by decide)) (.intro)) (fO (by kernel_rfl)) (λh=>by kernel_rfl)
def la(a0:List p8)(a1:Int):Option ((List p8)×Unit):=
(bif(decide (a1<0))then(some (a0,a1,true,()))else
bif(decide (a1>32))then(some (a0,a1,true,()))else
let x0:Int:=(w64 (a1*8));
let x1:Int:=(bu (List.length a0));
some (a0,a1,(decide (x0>=x1)),()):Option ((List p8)×Int×Bool×Unit)).bind λ(x0,x1,x2,_)=>
bif x2 then(some ([],()))else
let x3:Int:=(w64 (x1*8));
let x4:Int:=(w64 (x3+8));
let x5:Int:=(bu (List.length x0));
let x6:Int:=(mmR false x4 x5);
(eD x3).bind λx7=>
(eD x6).bind λx8=>
bif(jg x7 x8 (List.length x0))then let x9:List p8:=(xV x0 x7 (Nat.sub x8 x7));
some (x9,())else none
noncomputable def rq:X.Cfg:=⟨E0i,[],[],[⟨2,0,⟨[],[],[],([],[])⟩,[(.normal,⟨[(0,shU jI),(1,shU I64),(18,shU .bool)],[],[],([],[])⟩)]⟩]⟩
def lS:Ctr:=⟨60,5,[shU jI,shU I64],[],[⟨[shU jI],[.one],[]⟩],λh=>la h.1 h.2.1⟩
set_option maxRecDepth 100000 in
theorem re:Lvl E0i TTi noB 1 lS:=ej (n:=0) (C:=rq) rfl (.intro) (fO (by kernel_rfl)) (λh=>by kernel_rfl)
def kp(a0:List (List p8))(a1:List Ge)(a2:Int)(a3:Int):Option (Bool×Unit):=
bif(a2==(-1))then(bif(decide (a3>=0))then(let x0:Int:=(bu (List.length a1));
some ((decide (a3<x0)),()))else
some (false,()))else
bif(decide (a2>=0))then(let x0:Int:=(bu (List.length a0));
bif(decide (a2<x0))then((eD a2).bind λx1=>
(dw a0 x1).bind λx2=>
(la x2 a3).bind λ(x3,_)=>
let x4:Int:=(bu (List.length x3));
some ((decide (x4>0)),()))else
some (false,()))else
some (false,())
noncomputable def pH:X.Cfg:=⟨E0i,[lS],[],[]⟩
def kx:Ctr:=⟨85,6,[.agg [shU (.row false jI),shU (.row false Eu)],.agg [shU I64,shU I64]],[],[⟨[shU .bool],[.one],[]⟩],λh=>kp h.1 h.2.1 h.2.2.1 h.2.2.2.1⟩
set_option maxRecDepth 100000 in
theorem pz:Lvl E0i TTi noB 2 kx:=ej (n:=1) (C:=pH) rfl (.intro (re.mono (by decide)) (.intro)) (fO (by kernel_rfl)) (λh=>by kernel_rfl)
def cI(a0:List (List p8))(a1:List Ge)(a2:Int)(a3:Int):Option (Int×Unit):=
(jb a0 a1).bind λ(x0,_)=>
bif(!x0)then(some (1,()))else
(kp a0 a1 a2 a3).bind λ(x1,_)=>
bif(!x1)then(some (30,()))else
some (0,())
noncomputable def ru:X.Cfg:=⟨E0i,[jz,kx],[],[]⟩
def rS:Ctr:=⟨58,7,[.agg [shU (.row false jI),shU (.row false Eu)],.agg [shU I64,shU I64]],[],[⟨[shU I64],[.one],[]⟩],λh=>cI h.1 h.2.1 h.2.2.1 h.2.2.2.1⟩
set_option maxRecDepth 100000 in
theorem rh:Lvl E0i TTi noB 6 rS:=ej (n:=5) (C:=ru) rfl (.intro (oz.mono (by decide)) (.intro (pz.mono (by decide)) (.intro))) (fO (by kernel_rfl)) (λh=>by kernel_rfl)
def dX(a0:Int)(a1:Int)(a2:Int)(a3:Int)(a4:Int)(a5:Int)(a6:Int)(a7:List p8):Option (Bool×Unit):=
bif(a0==0)then(bif(a1==0)then(bif(a2==0)then(bif(a3==0)then(bif(a4==0)then(bif(a5==0)then(bif(a6==0)then(let x0:Int:=(bu (List.length a7));
some ((x0==0),()))else
some (false,()))else
some (false,()))else
some (false,()))else
some (false,()))else
some (false,()))else
some (false,()))else
some (false,())
noncomputable def pJ:X.Cfg:=⟨E0i,[],[],[]⟩
def pX:Ctr:=⟨61,8,[.agg [shU I64,shU I64,shU I64,shU I64,shU I64,shU I64,shU (.int .u16),shU jI]],[],[⟨[shU .bool],[.one],[]⟩],λh=>dX h.1 h.2.1 h.2.2.1 h.2.2.2.1 h.2.2.2.2.1 h.2.2.2.2.2.1 h.2.2.2.2.2.2.1 h.2.2.2.2.2.2.2.1⟩
set_option maxRecDepth 100000 in
theorem pB:Lvl E0i TTi noB 1 pX:=ej (n:=0) (C:=pJ) rfl (.intro) (fO (by kernel_rfl)) (λh=>by kernel_rfl)
def kJ:Int×(List (Int))×Int×Int×Int×(List (Int))×Unit->Option ((Int×(List (Int))×Int×Int×Int×(List (Int))×Unit)⊕(Int×(List (Int))×Int×Int×Int×Bool×(List (Int))×Unit)):=λ(v0,v1,v2,v3,v4,v5,_)=>
bif(decide (v4<8))then(let x0:Int:=(wk .u64 v0);
let x1:Int:=(w64 (8*v4));
(eD x1).bind λx2=>
let x3:Int:=(shR .shr .u64 x0 x2);
let x4:Int:=(wk .u8 x3);
bif(cM 1 (List.length v5) (List.length [x4]))then let x5:List (Int):=(List.append v5 [x4]);
let x6:Int:=(w64 (v4+1));
some (.inl (v0,v1,v2,v3,x6,x5,()))else none)else
some (.inr (v0,v1,v2,v3,v4,false,v5,()))
def kI:(List (Int))×Int×Int×(List (Int))×Unit->Option (((List (Int))×Int×Int×(List (Int))×Unit)⊕((List (Int))×Int×Int×Bool×(List (Int))×Unit)):=λ(v0,v1,v2,v3,_)=>
bif(decide (v2<v1))then((eD v2).bind λx0=>
(dw v0 x0).bind λx1=>
(bH kJ NN (x1,v0,v1,v2,0,v3,())).bind λ(x2,x3,x4,x5,x6,x7,x8,_)=>
let x9:Int:=(w64 (x5+1));
some (.inl (x3,x4,x9,x8,())))else
some (.inr (v0,v1,v2,false,v3,()))
def dt(a0:List (Int))(a1:List (Int)):Option ((List (Int))×Unit):=
let x0:Int:=(bu (List.length a0));
(bH kI NN (a0,x0,0,a1,())).bind λ(x1,x2,x3,x4,x5,_)=>
some (x5,())
noncomputable def nA:X.Cfg:=⟨E0i,[],[],[⟨9,0,⟨[(0,.pk ⟨3,0,[]⟩ [0,0]),(6,shU I64),(8,shU RIi),(9,shU I64),(10,shU I64),(14,shU I64)],[(3,[shU (.row true (.int .u8))])],[],([],[])⟩,[(.exit 2,⟨[(0,.pk ⟨3,0,[]⟩ [0,0]),(6,shU I64),(8,shU RIi),(9,shU I64),(10,shU I64),(14,shU I64),(15,shU .bool)],[(3,[shU (.row true (.int .u8))])],[],([],[])⟩)]⟩,⟨3,1,⟨[(0,.pk ⟨3,0,[]⟩ [0,0]),(8,shU RIi),(9,shU I64),(10,shU I64)],[(3,[shU (.row true (.int .u8))])],[],([],[])⟩,[(.exit 0,⟨[(0,.pk ⟨3,0,[]⟩ [0,0]),(8,shU RIi),(9,shU I64),(10,shU I64),(11,shU .bool)],[(3,[shU (.row true (.int .u8))])],[],([],[])⟩)]⟩]⟩
def fR:Ctr:=⟨64,9,[.pk ⟨3,0,[]⟩ [0,0],shU RIi],[(3,[shU (.row true (.int .u8))])],[⟨[shU (.row true (.int .u8))],[.one],[(3,[])]⟩],λh=>dt h.1 h.2.1⟩
set_option maxRecDepth 100000 in
theorem iZ:Lvl E0i TTi noB 1 fR:=ej (n:=0) (C:=nA) rfl (.intro) (fO (by kernel_rfl)) (λh=>by kernel_rfl)
def nq:(List p8)×Int×Int×(List (Int))×Unit->Option (((List p8)×Int×Int×(List (Int))×Unit)⊕((List p8)×Int×Int×Bool×(List (Int))×Unit)):=λ(v0,v1,v2,v3,_)=>
bif(decide (v2<v1))then((eD v2).bind λx0=>
(dw v0 x0).bind λx1=>
let x2:Int:=(wk .i64 x1.1);
let x3:Int:=(wk .i64 x1.2.1);
let x4:List (Int):=[x2,x3,x1.2.2.1,x1.2.2.2];
(dt x4 v3).bind λ(x5,_)=>
let x6:Int:=(w64 (v2+1));
some (.inl (v0,v1,x6,x5,())))else
some (.inr (v0,v1,v2,false,v3,()))
def iI(a0:List p8)(a1:List (Int)):Option ((List (Int))×Unit):=
let x0:Int:=(bu (List.length a0));
(dt [x0] a1).bind λ(x1,_)=>
let x2:Int:=(bu (List.length a0));
(bH nq NN (a0,x2,0,x1,())).bind λ(x3,x4,x5,x6,x7,_)=>
some (x7,())
noncomputable def rr:X.Cfg:=⟨E0i,[fR],[],[⟨4,0,⟨[(0,.pk ⟨3,0,[]⟩ [0,0]),(12,shU jI),(13,shU I64),(14,shU I64)],[(3,[shU (.row true (.int .u8))])],[],([],[])⟩,[(.exit 0,⟨[(0,.pk ⟨3,0,[]⟩ [0,0]),(12,shU jI),(13,shU I64),(14,shU I64),(15,shU .bool)],[(3,[shU (.row true (.int .u8))])],[],([],[])⟩)]⟩]⟩
def lT:Ctr:=⟨63,10,[.pk ⟨3,0,[]⟩ [0,0],shU jI],[(3,[shU (.row true (.int .u8))])],[⟨[shU (.row true (.int .u8))],[.one],[(3,[])]⟩],λh=>iI h.1 h.2.1⟩
set_option maxRecDepth 100000 in
theorem rf:Lvl E0i TTi noB 2 lT:=ej (n:=1) (C:=rr) rfl (.intro (iZ.mono (by decide)) (.intro)) (fO (by kernel_rfl)) (λh=>by kernel_rfl)
def dY(a0:Int)(a1:Int)(a2:List p8)(a3:Int)(a4:Int)(a5:Int)(a6:Int)(a7:Int)(a8:Int)(a9:Int)(a10:List p8):Option ((List (Int))×Unit):=
let x0:List (Int):=[a0,a1];
(dt x0 []).bind λ(x1,_)=>
(iI a2 x1).bind λ(x2,_)=>
let x3:Int:=(wk .i64 a9);
let x4:List (Int):=[a3,a4,a5,a6,a7,a8,x3];
(dt x4 x2).bind λ(x5,_)=>
(iI a10 x5).bind λ(x6,_)=>
some (x6,())
noncomputable def pK:X.Cfg:=⟨E0i,[fR,lT],[],[]⟩
def kz:Ctr:=⟨44,11,[.agg [shU I64,shU I64,shU jI,shU I64,shU I64,shU I64,shU I64,shU I64,shU I64,shU (.int .u16),shU jI]],[],[⟨[shU (.row true (.int .u8))],[.one],[]⟩],λh=>dY h.1 h.2.1 h.2.2.1 h.2.2.2.1 h.2.2.2.2.1 h.2.2.2.2.2.1 h.2.2.2.2.2.2.1 h.2.2.2.2.2.2.2.1 h.2.2.2.2.2.2.2.2.1 h.2.2.2.2.2.2.2.2.2.1 h.2.2.2.2.2.2.2.2.2.2.1⟩
set_option maxRecDepth 100000 in
theorem pC:Lvl E0i TTi noB 3 kz:=ej (n:=2) (C:=pK) rfl (.intro (iZ.mono (by decide)) (.intro (rf.mono (by decide)) (.intro))) (fO (by kernel_rfl)) (λh=>by kernel_rfl)
def pgC(p:C5)(y z:Value):List Value:=.int .i64 p.1 :: .int .i64 p.2.1::y::vwC p.2.2.2 z
theorem EZ{w:World}{F:Nat->Prop}{p:C5}{cs:List Value}(h:rPg.rep w F p cs):∃y z,cs=pgC p y z/\RSl rCn w F p.2.2.1 y/\RSl rCn w F p.2.2.2.2.2.2.2.2.2.2 z:=by
 obtain⟨_,_,rfl,rfl,_,_,rfl,rfl,_,_,rfl,⟨y,rfl,hy⟩,hv⟩:=h;obtain⟨z,rfl,hz⟩:=Cz hv;exact⟨y,z,rfl,hy,hz⟩
theorem Fo:vb Try.prog E0i:=λf n tm h=>by simp[E0i]at h
theorem F3(k:Nat):cH Try.prog (runF E0i TTi noB k):=runF_ok EL Fo E3 k
theorem ju{w w':World}(h:Below w.heap.size w w'):w.grownBy w' none:=⟨h.os,h.tape,h.output,h.size,λk hk _=>h.block k hk⟩
theorem Ak(C:List (List Cn4))(T:List Vw8)(r i fe:Int)(h:cI C T r i=some (fe,())):
 runF E0i TTi noB (NN+6) 58 [.agg [.sl (C.map (enc cCs)),.sl (T.map (enc cVw))],.agg [.v (.int .i64 r),.v (.int .i64 i)]] []=some (⟨[.v (.int .i64 fe)],[.one]⟩,[]):=
 rh 6 (Nat.le_refl _) ⟨C,T,r,i,()⟩ (fe,()) _ h rfl
theorem xt{w:World}{F:Nat->Prop}{C:List (List Cn4)}{T:List Vw8}{U V:Value}{r i fe:Int}(hu:RSl rCs w F C U)(hv:RSl rVw w F T V)(h:cI C T r i=some (fe,())):
 ∀w',w.grownBy w' none->Calls Try.prog 58 #[.agg #[U,V],.agg #[.int .i64 r,.int .i64 i]] w' λe w2=>e=.returned (.int .i64 fe)/\w'.grownBy w2 none:=λw' hg=>by
 refine(rT (F3 _) (Ak C T r i fe h) rfl (avs:=[.agg #[U,V],.agg #[.int .i64 r,.int .i64 i]]) (w:=w') (F:=F) rfl λj hj _=>?_).mono ?_
 ·have hj:j<2:=hj
  match j,hj with
  |0,_=>
   refine .ag rfl λj hj=>?_;have hj:j<2:=hj
   match j,hj with
   |0,_=>exact qn sn (hu.grow hg)
   |1,_=>exact qn vz (hv.grow hg)
  |1,_=>
   refine .ag rfl λj hj=>?_;have hj:j<2:=hj
   match j,hj with
   |0,_=>exact .v rfl
   |1,_=>exact .v rfl
 ·rintro e w2 ⟨ys,rfl,hl,hb,Xj⟩;obtain⟨y,rfl⟩:=List.length_eq_one_iff.1 hl;have h0:=Xj 0 Nat.one_pos;replace h0:fb w2 _ (.v (.int .i64 fe)) y:=h0
  cases h0 with
  |v _=>exact⟨rfl,ju hb⟩
theorem xx(v0 v1 v2 v3 v4 v5 v6:Int)(L:List Cn4)(eb:Bool)(h:dX v0 v1 v2 v3 v4 v5 v6 L=some (eb,())):
 runF E0i TTi noB (NN+1) 61 [.agg [.v (.int .i64 v0),.v (.int .i64 v1),.v (.int .i64 v2),.v (.int .i64 v3),.v (.int .i64 v4),.v (.int .i64 v5),.v (.int .u16 v6),.sl (L.map (enc cCn))]] []=some (⟨[.v (.bool eb)],[.one]⟩,[]):=
 pB 1 (Nat.le_refl _) ⟨v0,v1,v2,v3,v4,v5,v6,L,()⟩ (eb,()) _ h rfl
theorem uK{w:World}{F:Nat->Prop}{v0 v1 v2 v3 v4 v5 v6:Int}{L:List Cn4}{Z:Value}{eb:Bool}(hz:RSl rCn w F L Z)(h:dX v0 v1 v2 v3 v4 v5 v6 L=some (eb,())):
 ∀w',w.grownBy w' none->Calls Try.prog 61 #[.agg #[.int .i64 v0,.int .i64 v1,.int .i64 v2,.int .i64 v3,.int .i64 v4,.int .i64 v5,.int .u16 v6,Z]] w' λe w2=>e=.returned (.bool eb)/\w'.grownBy w2 none:=λw' hg=>by
 refine(rT (F3 _) (xx v0 v1 v2 v3 v4 v5 v6 L eb h) rfl (avs:=[.agg #[.int .i64 v0,.int .i64 v1,.int .i64 v2,.int .i64 v3,.int .i64 v4,.int .i64 v5,.int .u16 v6,Z]]) (w:=w') (F:=F) rfl λj hj _=>?_).mono ?_
 ·have hj:j<1:=hj
  match j,hj with
  |0,_=>
   refine .ag rfl λj hj=>?_;have hj:j<8:=hj
   match j,hj with
   |0,_=>exact .v rfl
   |1,_=>exact .v rfl
   |2,_=>exact .v rfl
   |3,_=>exact .v rfl
   |4,_=>exact .v rfl
   |5,_=>exact .v rfl
   |6,_=>exact .v rfl
   |7,_=>exact qn CK (hz.grow hg)
 ·rintro e w2 ⟨ys,rfl,hl,hb,Xj⟩;obtain⟨y,rfl⟩:=List.length_eq_one_iff.1 hl;have h0:=Xj 0 Nat.one_pos;replace h0:fb w2 _ (.v (.bool eb)) y:=h0
  cases h0 with
  |v _=>exact⟨rfl,ju hb⟩
theorem CO(l:List Int):(TV.ow (l.map (enc (.int .u8)))).imm=.sl (l.map (enc (.int .u8))):=by
 simp only[TV.imm,gX,List.map_map];rfl
theorem DV{P:Program}{B:bW}(hB:cH P B){f:FuncId}{vals:List TV}{res:nV}(h:B f vals []=some (res,[]))(Zs:res.cells.all vK=true)(h2:(res.cells.map TV.imm).all DZ=true):tL P f vals ⟨res.cells.map TV.imm,res.sh⟩:=by
 refine⟨h2,λavs w F hl hv=>(rT hB h Zs hl hv).mono ?_⟩;rintro e w2 ⟨ys,e1,e2,e3,e4⟩;refine⟨ys,e1,by simpa using e2,e3,λj hj=>?_⟩
 have ZW:j<res.cells.length:=by simpa using hj
 simpa using e4 j ZW
theorem xL(p:C5)(bs:List Int)(h:dY p.1 p.2.1 p.2.2.1 p.2.2.2.1 p.2.2.2.2.1 p.2.2.2.2.2.1 p.2.2.2.2.2.2.1 p.2.2.2.2.2.2.2.1 p.2.2.2.2.2.2.2.2.1 p.2.2.2.2.2.2.2.2.2.1 p.2.2.2.2.2.2.2.2.2.2=some (bs,())):
 runF E0i TTi noB (NN+3) 44 [.agg (enc cPg p)] []=some (⟨[.ow (bs.map (enc (.int .u8)))],[.one]⟩,[]):=by
 obtain⟨a,c,pc,v0,v1,v2,v3,v4,v5,v6,pr⟩:=p;have h2:dY a c pc v0 v1 v2 v3 v4 v5 v6 pr=some (bs,()):=h
 exact pC 3 (Nat.le_refl _) ⟨a,c,pc,v0,v1,v2,v3,v4,v5,v6,pr,()⟩ (bs,()) _ (by
  unfold kz;dsimp only
  exact h2) rfl
theorem Aw(p:C5)(bs:List Int)(h:dY p.1 p.2.1 p.2.2.1 p.2.2.2.1 p.2.2.2.2.1 p.2.2.2.2.2.1 p.2.2.2.2.2.2.1 p.2.2.2.2.2.2.2.1 p.2.2.2.2.2.2.2.2.1 p.2.2.2.2.2.2.2.2.2.1 p.2.2.2.2.2.2.2.2.2.2=some (bs,())):
 tL Try.prog 44 [.agg (enc cPg p)] ⟨[.sl (bs.map (enc (.int .u8)))],[.one]⟩:=by
 have h2:=DV (F3 _) (xL p bs h) rfl (by
  show(DZ ((TV.ow (bs.map (enc (.int .u8)))).imm)&&true)=true;rw[CO]
  rfl)
 rw[<- CO bs];exact h2
theorem nG.agg_out{w:World}{F:Nat->Prop}{l:List TV}{x:Value}(h:nG w F (.agg l) x):∃cs:List Value,x=.agg cs.toArray/\kj w F l cs:=by
 cases h with
 |im h=>cases h
 | @ag _ cs hl h=>
  refine⟨cs.toList,by simp,kj.of (by simpa using hl.symm) λj hj=>?_⟩;have:=h j hj;simpa[Array.getD_eq_getD_getElem?,oGD]using this
theorem uY{w w':World}(h:w.grownBy w' none):Below w.heap.size w w':=⟨h.os,h.tape,h.output,h.size,λk hk=>h.block k hk (by simp)⟩
def yR(C:List (List Cn4))(T:List Vw8)(cells L:List Cn4):Bool:=decide (C.length<=1099511627776)&&C.all (λx=>decide (x.length<=1099511627776))&&decide (T.length<=1099511627776)&&T.all (λx=>decide (x.2.2.2.2.2.2.2.length<=1099511627776))&&decide (cells.length<=1099511627776)&&decide (L.length<=1099511627776)
def bO(C:List (List Cn4))(T:List Vw8)(a0 a1:Int)(cells:List Cn4)(v0 v1 v2 v3 v4 v5 v6:Int)(L:List Cn4):Option (List (List Cn4)×List Vw8×Int×Unit):=
 if yR C T cells L=true then
  (cI C T a0 a1).bind λ(fe,_)=>
  if fe≠0 then some ([],[],fe,())
  else if a0=-1 then(if 0<cells.length then some ([],[],5,())else if 0<=a1/\a1.toNat<T.length then some (C,T.set a1.toNat (v0,v1,v2,v3,v4,v5,v6,L),0,())else none)
  else if 0<=a0/\a0.toNat<C.length/\0<=a1/\a1<=32/\8*a1.toNat<(C.getD a0.toNat []).length then
   (dX v0 v1 v2 v3 v4 v5 v6 L).bind λ(eb,_)=>
   if cells.length≠min 8 ((C.getD a0.toNat []).length-8*a1.toNat)\/eb=false then some ([],[],5,())else some (C.set a0.toNat (gN (C.getD a0.toNat []) a1.toNat cells),T,0,())
  else none
 else none
def jH(C':List (List Cn4))(T':List Vw8)(err:Int)(w:World)(e:Ending)(w':World):Prop:=
 ∃a b,e=.returned (.tuple #[.agg #[a,b],.int .i64 err])/\RSl rCs w' (λk=>w.heap.size<=k) C' a/\RSl rVw w' (λk=>w.heap.size<=k) T' b/\w.grownBy w' none
theorem jH.nil{w w':World}{e:Ending}{err:Int}(h:e=.returned (.tuple #[.agg #[.slice none 0 0,.slice none 0 0],.int .i64 err])/\w.grownBy w' none):jH [] [] err w e w':=⟨_,_,h.1,RSl.nil _ _,RSl.nil _ _,h.2⟩
theorem jH.ret{C:List (List Cn4)}{T:List Vw8}{w w':World}{e:Ending}(h:wo C T w e w'):jH C T 0 w e w':=h
theorem yO{F:Nat->Prop}{C:List (List Cn4)}{T:List Vw8}{a0 a1:Int}{cells:List Cn4}{v0 v1 v2 v3 v4 v5 v6:Int}{L:List Cn4}{U V Y Z:Value}{w:World}{C':List (List Cn4)}{T':List Vw8}{err:Int}
 (hu:RSl rCs w F C U)(hv:RSl rVw w F T V)(hy:RSl rCn w F cells Y)(hz:RSl rCn w F L Z)(h:bO C T a0 a1 cells v0 v1 v2 v3 v4 v5 v6 L=some (C',T',err,())):
 Calls Try.prog 37 #[.agg #[U,V],.agg #[.int .i64 a0,.int .i64 a1,Y,.int .i64 v0,.int .i64 v1,.int .i64 v2,.int .i64 v3,.int .i64 v4,.int .i64 v5,.int .u16 v6,Z]] w (jH C' T' err w):=by
 unfold bO at h;split at h
 case isFalse=>cases h
 obtain⟨⟨fe,u⟩,hf,h⟩:=Option.bind_eq_some_iff.1 h;have ZU:=xt hu hv hf;dsimp only at h;split at h
 ·rename_i hne
  injection h with h
  injection h with h1 h
  injection h with h2 h
  injection h with h3 h
  subst h1 h2 h3;exact(Bo F C T a0 a1 cells v0 v1 v2 v3 v4 v5 v6 L U V Y Z w fe hu hv hy hz ZU (by simpa using hne)).mono λe w' h=>jH.nil h
 rename_i h0
 have h0:fe=0:=by simpa using h0
 split at h
 ·rename_i hr;split at h
  ·rename_i hc
   injection h with h
   injection h with h1 h
   injection h with h2 h
   injection h with h3 h
   subst h1 h2 h3;exact(yM F C T a0 a1 cells v0 v1 v2 v3 v4 v5 v6 L U V Y Z w fe hu hv hy hz ZU h0 hr hc).mono λe w' h=>jH.nil h
  ·rename_i hc;split at h
   case isFalse=>cases h
   rename_i hj;obtain⟨j,rfl⟩:=Int.eq_ofNat_of_zero_le hj.1
   injection h with h
   injection h with h1 h
   injection h with h2 h
   injection h with h3 h
   subst h1 h2 h3 hr;exact(wK F C T j cells v0 v1 v2 v3 v4 v5 v6 L U V Y Z w fe hu hv hy hz ZU h0 (by omega) (by simpa using hj.2)).mono λe w' h=>jH.ret h
 ·split at h
  case isFalse=>cases h
  rename_i hg;obtain⟨g1,g2,g3,g4,g5⟩:=hg;obtain⟨k,rfl⟩:=Int.eq_ofNat_of_zero_le g1;obtain⟨j,rfl⟩:=Int.eq_ofNat_of_zero_le g3;simp only[oTN]at g2 g5 h
  have e1:C.getD k []=C[k]:=by simp[oGD,g2]
  rw[e1]at g5 h;obtain⟨⟨eb,u2⟩,he,h⟩:=Option.bind_eq_some_iff.1 h;have ZE:=λw' hg=>uK (w:=w) hz he w' hg;dsimp only at h;split at h
  ·rename_i hc
   injection h with h
   injection h with h1 h
   injection h with h2 h
   injection h with h3 h
   subst h1 h2 h3;by_cases hcl:cells.length=min 8 (C[k].length-8*j)
   ·exact(yK F C T k j cells v0 v1 v2 v3 v4 v5 v6 L U V Y Z w fe hu hv hy hz ZU eb ZE h0 g2 (by omega) g5 hcl (by rcases hc with hc|hc;exact absurd hcl hc;exact hc)).mono λe w' h=>jH.nil h
   ·exact(yL F C T k j cells v0 v1 v2 v3 v4 v5 v6 L U V Y Z w fe hu hv hy hz ZU eb ZE h0 g2 (by omega) g5 hcl).mono λe w' h=>jH.nil h
  ·rename_i hc
   injection h with h
   injection h with h1 h
   injection h with h2 h
   injection h with h3 h
   subst h1 h2 h3;exact(yN F C T k j cells v0 v1 v2 v3 v4 v5 v6 L U V Y Z w fe hu hv hy hz ZU eb ZE h0 g2 (by omega) g5 (by omega) (by cases eb;exact absurd (.inr rfl) hc;rfl)).mono λe w' h=>jH.ret h
theorem DC{C:List (List Cn4)}{T:List Vw8}{p:C5}{C':List (List Cn4)}{T':List Vw8}{err:Int}(h:bO C T p.1 p.2.1 p.2.2.1 p.2.2.2.1 p.2.2.2.2.1 p.2.2.2.2.2.1 p.2.2.2.2.2.2.1 p.2.2.2.2.2.2.2.1 p.2.2.2.2.2.2.2.2.1 p.2.2.2.2.2.2.2.2.2.1 p.2.2.2.2.2.2.2.2.2.2=some (C',T',err,())):
 tL Try.prog 37 [.agg [.sl (C.map (enc cCs)),.sl (T.map (enc cVw))],.agg (enc cPg p)] ⟨[.sl (C'.map (enc cCs)),.sl (T'.map (enc cVw)),.v (.int .i64 err)],[.agg 2,.one]⟩:=by
 have hok:yR C T p.2.2.1 p.2.2.2.2.2.2.2.2.2.2=true:=by
  unfold bO at h;split at h
  ·assumption
  ·cases h
 simp only[yR,oBA,oDE,List.all_eq_true]at hok;obtain⟨⟨⟨⟨⟨o1,o2⟩,o3⟩,o4⟩,o5⟩,o6⟩:=hok;refine⟨rfl,λavs w F hl hv=>?_⟩
 obtain⟨x,y,rfl⟩:∃x y,avs=[x,y]:=by
  match avs,hl with
  | [x,y],_=>exact⟨x,y,rfl⟩
 obtain⟨cs,rfl,Ws⟩:=(hv 0 (by simp) (by simp)).agg_out;obtain⟨ds,rfl,hds⟩:=(hv 1 (by simp) (by simp)).agg_out;obtain⟨U,_,rfl,hU,V,_,rfl,hV,rfl⟩:=Ws;have NA:=EW.of hds ⟨o5,o6⟩;obtain⟨Y,Z,rfl,hY,hZ⟩:=EZ NA;have hu:RSl rCs w F C U:=zX sn hU (λx hx=>o2 x hx) o1;have Rl:RSl rVw w F T V:=zX vz hV (λx hx=>o4 x hx) o3;refine(yO hu Rl hY hZ h).mono ?_;rintro e w' ⟨a,b,rfl,ha,hb,hg⟩;refine⟨[a,b,.int .i64 err],rfl,rfl,uY hg,λj hj=>?_⟩;have hj:j<3:=hj
 match j,hj with
 |0,_=>exact qn sn (ha.sub λk hk=>.inr hk)
 |1,_=>exact qn vz (hb.sub λk hk=>.inr hk)
 |2,_=>exact .v rfl
def Eb{α:Type}(f:List TV->Option α):List (List TV)->Option (List α)
 | []=>some []
 |c::r=>(f c).bind λx=>(Eb f r).bind λy=>some (x::y)
def nE:(t:CT)->List TV->Option (den t)
 |.int k,l=>match l with
  | [.v (.int k' x)]=>if k'=k then some x else none
  |_=>none
 |.bool,l=>match l with
  | [.v (.bool b)]=>some b
  |_=>none
 |.row o t,l=>match o,l with
  |false,[.sl c]=>Eb (nE t) c
  |_,_=>none
 |.pair a b,l=>(nE a (l.take (eE a))).bind λx=>(nE b (l.drop (eE a))).bind λy=>some (x,y)
 |.str,_=>none
 |.nat,_=>none
 |.nilr _,_=>none
def ln:CT->Bool
 |.int _=>true
 |.bool=>true
 |.row o t=>!o&&ln t
 |.pair a b=>ln a&&ln b
 |_=>false
theorem Ao{α:Type}{f:List TV->Option α}{e:α->List TV}(h:∀{c x},f c=some x->c=e x):∀{c:List (List TV)}{xs:List α},Eb f c=some xs->c=xs.map e
 | [],xs,g=>by
  simp only[Eb,oSJ]at g;subst g;rfl
 |c::r,xs,g=>by
  simp only[Eb]at g;obtain⟨x,h1,g⟩:=Option.bind_eq_some_iff.1 g;obtain⟨y,h2,g⟩:=Option.bind_eq_some_iff.1 g
  injection g with g
  subst g;rw[h h1,Ao h h2];rfl
theorem wd{α:Type}{f:List TV->Option α}{e:α->List TV}(h:∀x,f (e x)=some x):∀xs:List α,Eb f (xs.map e)=some xs
 | []=>rfl
 |x::r=>by simp only[List.map_cons,Eb,h,wd h r,oBS]
theorem kU:∀(t:CT){l:List TV}{x:den t},nE t l=some x->l=enc t x:=by
 intro t
 induction t with
 |int k=>
  intro l x h;simp only[nE]at h;split at h
  ·split at h
   ·rename_i e
    injection h with h
    subst h e;rfl
   ·cases h
  ·cases h
 |bool=>
  intro l x h;simp only[nE]at h;split at h
  ·injection h with h
   subst h;rfl
  ·cases h
 |str=>intro l x h;simp[nE]at h
 |nat=>intro l x h;simp[nE]at h
 |nilr o=>intro l x h;simp[nE]at h
 |row o t ih=>
  intro l x h;simp only[nE]at h;split at h
  ·have e:=Ao (e:=enc t) (λg=>ih g) h;subst e;rfl
  ·cases h
 |pair a b Zk Zg=>
  intro l x h;simp only[nE]at h;obtain⟨y,h1,h⟩:=Option.bind_eq_some_iff.1 h;obtain⟨z,h2,h⟩:=Option.bind_eq_some_iff.1 h
  injection h with h
  subst h;simp only[enc];rw[<- Zk h1,<- Zg h2,List.take_append_drop]
theorem rJ:∀(t:CT),ln t=true->∀x:den t,nE t (enc t x)=some x:=by
 intro t
 induction t with
 |int k=>intro _ x;simp[nE,enc]
 |bool=>intro _ x;simp[nE,enc]
 |str=>intro h;simp[ln]at h
 |nat=>intro h;simp[ln]at h
 |nilr o=>intro h;simp[ln]at h
 |row o t ih=>
  intro hp x;simp only[ln,oBA,Bool.not_eq_true']at hp;obtain⟨rfl,hp⟩:=hp;exact wd (ih hp) x
 |pair a b Zk Zg=>
  intro hp x;simp only[ln,oBA]at hp;obtain⟨x1,x2⟩:=x
  have e1:(enc a x1++enc b x2).take (eE a)=enc a x1:=by rw[List.take_append_of_le_length (by rw[b9];exact Nat.le_refl _),List.take_of_length_le (by rw[b9];exact Nat.le_refl _)]
  have e2:(enc a x1++enc b x2).drop (eE a)=enc b x2:=by rw[<- b9 a x1];exact List.drop_left
  simp only[nE,enc];rw[e1,e2,Zk hp.1,Zg hp.2];rfl
abbrev sRg:CT:=.row false (.row false cCn)
abbrev sTs:CT:=.row false cVw
def yQ(C':List (List Cn4))(T':List Vw8)(err:Int):nV:=⟨[.sl (C'.map (enc cCs)),.sl (T'.map (enc cVw)),.v (.int .i64 err)],[.agg 2,.one]⟩
def Fd(vals:List TV):Option nV:=match vals with
 | [.agg [C,T],.agg l]=>(nE sRg [C]).bind λC=>(nE sTs [T]).bind λT=>(nE cPg l).bind λp=>(bO C T p.1 p.2.1 p.2.2.1 p.2.2.2.1 p.2.2.2.2.1 p.2.2.2.2.2.1 p.2.2.2.2.2.2.1 p.2.2.2.2.2.2.2.1 p.2.2.2.2.2.2.2.2.1 p.2.2.2.2.2.2.2.2.2.1 p.2.2.2.2.2.2.2.2.2.2).bind λ(C',T',err,_)=>some (yQ C' T' err)
 |_=>none
def Fc(vals:List TV):Option nV:=match vals with
 | [.agg l]=>(nE cPg l).bind λp=>(dY p.1 p.2.1 p.2.2.1 p.2.2.2.1 p.2.2.2.2.1 p.2.2.2.2.2.1 p.2.2.2.2.2.2.1 p.2.2.2.2.2.2.2.1 p.2.2.2.2.2.2.2.2.1 p.2.2.2.2.2.2.2.2.2.1 p.2.2.2.2.2.2.2.2.2.2).bind λ(bs,_)=>some ⟨[.sl (bs.map (enc (.int .u8)))],[.one]⟩
 |_=>none
def Ac(f:FuncId)(vals:List TV):Option nV:=if f=37 then Fd vals else if f=44 then Fc vals else none
theorem tE:gE Try.prog 44:=lN Try.func44 (by kernel_rfl) rfl
theorem wL:gE Try.prog 37:=lN Try.func37 (by kernel_rfl) rfl
theorem BT:∀f vals r,Ac f vals=some r->gE Try.prog f/\tL Try.prog f vals r:=by
 intro f vals r h;unfold Ac at h;split at h
 case isFalse=>
  split at h
  case isFalse=>cases h
  rename_i e;subst e;refine⟨tE,?_⟩;unfold Fc at h;split at h
  case h_2=>cases h
  rename_i l;obtain⟨p,h3,h⟩:=Option.bind_eq_some_iff.1 h;obtain⟨⟨bs,u⟩,h4,h⟩:=Option.bind_eq_some_iff.1 h
  injection h with h
  subst h;have e3:=kU _ h3;subst e3;exact Aw p bs h4
 rename_i e;subst e;refine⟨wL,?_⟩;unfold Fd at h;split at h
 case h_2=>cases h
 rename_i C T l;obtain⟨C,h1,h⟩:=Option.bind_eq_some_iff.1 h;obtain⟨T,h2,h⟩:=Option.bind_eq_some_iff.1 h;obtain⟨p,h3,h⟩:=Option.bind_eq_some_iff.1 h;obtain⟨⟨C',T',err,u⟩,h4,h⟩:=Option.bind_eq_some_iff.1 h
 injection h with h
 subst h;have e1:=kU _ h1;have e2:=kU _ h2;have e3:=kU _ h3;simp only[enc,List.cons.injEq,and_true]at e1 e2;subst e1 e2 e3;exact DC h4
def xj:bW:=zO Ac
theorem nN:cH Try.prog xj:=DT BT
theorem Ab{C:List (List Cn4)}{T:List Vw8}{p:C5}{C':List (List Cn4)}{T':List Vw8}{err:Int}(h:bO C T p.1 p.2.1 p.2.2.1 p.2.2.2.1 p.2.2.2.2.1 p.2.2.2.2.2.1 p.2.2.2.2.2.2.1 p.2.2.2.2.2.2.2.1 p.2.2.2.2.2.2.2.2.1 p.2.2.2.2.2.2.2.2.2.1 p.2.2.2.2.2.2.2.2.2.2=some (C',T',err,())):
 Ac 37 [.agg [.sl (C.map (enc cCs)),.sl (T.map (enc cVw))],.agg (enc cPg p)]=some (yQ C' T' err):=by
 unfold Ac;rw[oIP rfl];show(nE sRg (enc sRg C)).bind _=_;rw[rJ sRg rfl];show(nE sTs (enc sTs T)).bind _=_;rw[rJ sTs rfl];show(nE cPg (enc cPg p)).bind _=_;rw[rJ cPg rfl];show(bO C T p.1 p.2.1 p.2.2.1 p.2.2.2.1 p.2.2.2.2.1 p.2.2.2.2.2.1 p.2.2.2.2.2.2.1 p.2.2.2.2.2.2.2.1 p.2.2.2.2.2.2.2.2.1 p.2.2.2.2.2.2.2.2.2.1 p.2.2.2.2.2.2.2.2.2.2).bind _=_;rw[h];rfl
def HC(f i:Nat):List (Nat×Option Nat):=if f=64 then(if i=1000007 then[(0,some 4)]else[])
 else if f=65 then(if i=4000010 then[(8,some 2)]else[])
 else if f=45 then(if i=3000006 then[(8,none)]else[])
 else if f=12 then(if i=3000005 then[(10,none)]else[])
 else if f=27 then(if i=3000010 then[(11,none)]else if i=3000008 then[(15,some 2),(15,some 10)]else[])
 else[]
noncomputable def TC (f:FuncId):Option TFn:=jy Try.prog (HC f) f
noncomputable def EC:Env:=⟨λ_=>none,λf=>FV Try.prog f⟩
theorem EN:rV Try.prog TC:=tV HC (by kernel_rfl)
theorem D9:vb Try.prog EC:=λf n tm h=>by simp[EC]at h
noncomputable def TD (f:FuncId):Option TFn:=if f=37\/f=44\/f=27 then none else TC f
theorem FS:rV Try.prog TD:=λf tf h=>EN f tf (by
 unfold TD at h;split at h
 ·cases h
 ·exact h)
noncomputable def TE (f:FuncId):Option TFn:=if f=37\/f=44 then none else TC f
theorem EM:rV Try.prog TE:=λf tf h=>EN f tf (by
 unfold TE at h;split at h
 ·cases h
 ·exact h)
abbrev St2:Type:=List (List Cn4)×List Vw8
abbrev cS2:CT:=.pair sRg sTs
abbrev z4:Cn4:=(0,0,0,0)
def stL:List St2:=[([[z4,z4,z4,z4,z4,z4,z4,z4,z4]],[]),([[z4,z4,z4,z4,z4,z4,z4,z4,(0,3,0,0)]],[]),([[z4,z4,z4,z4,z4,z4,z4,z4,z4]],[])]
def agV(l:List St2)(b:List Bool)(d:Int×Int):List TV:=[.sl (l.map (enc cS2)),.sl (b.map (enc .bool)),.agg (enc (.pair I64 I64) d),.v (.int .i64 2)]
def agR(i:Int)(cs:List Cn4)(l:List Int):nV:=⟨enc cPg (0,i,cs,0,0,0,0,0,0,0,[])++[.sl (l.map (enc I64)),.v (.int .i64 0)],[.agg 11,.one,.one]⟩
theorem ag0:runF EC TE xj 100000 27 (agV stL [true,true,true] (0,0)) []=some (agR 0 [z4,z4,z4,z4,z4,z4,z4,z4] [],[]):=by kernel_rfl
theorem ag1:runF EC TE xj 100000 27 (agV stL [true,true,true] (0,1)) []=some (agR 1 [z4] [1],[]):=by kernel_rfl
def eqS(a b:St2):Bool:=a.1==b.1&&a.2.isEmpty&&b.2.isEmpty
def eqL:List St2->List St2->Bool
 | [],[]=>true
 |a::l,b::k=>eqS a b&&eqL l k
 |_,_=>false
theorem CR:∀{l k:List St2},eqL l k=true->l=k
 | [],[],_=>rfl
 |a::l,b::k,h=>by
  simp only[eqL,eqS,oBA,beq_iff_eq,List.isEmpty_iff]at h;obtain⟨⟨⟨h1,h2⟩,h3⟩,h4⟩:=h;rw[CR h4,show a=b from Prod.ext h1 (h2.trans h3.symm)]
def D4(f:FuncId)(vals:List TV)(pts:Pts):Option (nV×Pts):=if f=27 then(match vals,pts with
 | [L,I,.agg d,.v (.int .i64 2)],[]=>(nE (.row false cS2) [L]).bind λl=>(nE (.row false .bool) [I]).bind λb=>(nE (.pair I64 I64) d).bind λp=>
  if eqL l stL=true/\b=[true,true,true]then(if p=(0,0)then some (agR 0 [z4,z4,z4,z4,z4,z4,z4,z4] [],[])else if p=(0,1)then some (agR 1 [z4] [1],[])else none)else none
 |_,_=>none)else none
theorem BS:cH Try.prog D4:=by
 intro f vals pts res Zx h;unfold D4 at h;split at h
 case isFalse=>cases h
 rename_i e;subst e;split at h
 case h_2=>cases h
 rename_i L I d;obtain⟨l,h1,hA⟩:=Option.bind_eq_some_iff.1 h;obtain⟨b,h2,hB⟩:=Option.bind_eq_some_iff.1 hA;obtain⟨p,h3,hC⟩:=Option.bind_eq_some_iff.1 hB;clear h hA hB;have e1:=kU _ h1;have e2:=kU _ h2;have e3:=kU _ h3;simp only[enc,List.cons.injEq,and_true]at e1 e2;subst e1 e2 e3;split at hC
 case isFalse=>cases hC
 rename_i g;obtain⟨g1,g2⟩:=g;have g1:=CR g1;subst g1 g2;split at hC
 ·rename_i g;subst g
  injection hC with hC
  injection hC with TQ P9
  subst TQ P9;exact runF_ok EM D9 nN 100000 _ _ _ _ _ ag0
 ·split at hC
  ·rename_i g;subst g
   injection hC with hC
   injection hC with TQ P9
   subst TQ P9;exact runF_ok EM D9 nN 100000 _ _ _ _ _ ag1
  ·cases hC
def DU:bW:=λf vals pts=>match xj f vals pts with
 |some r=>some r
 |none=>D4 f vals pts
theorem BJ:cH Try.prog DU:=by
 intro f vals pts res Zx h;unfold DU at h;split at h
 ·rename_i r hr
  injection h with h
  subst h;exact nN f vals pts _ _ hr
 ·exact BS f vals pts _ _ h
theorem zN{E:Env}{T:FuncId->Option TFn}{B:bW}{c:Ctr}(hT:T c.f=none)(hB:km B c):Lvl E T B 1 c:=by
 intro k _ h o x ho hx
 have e:runF E T B (NN+k) c.f=B c.f:=by
  obtain⟨n,hn⟩:∃n,NN+k=n+1:=⟨NN-1+k,by have:0<NN:=(by decide);omega⟩;rw[hn];funext vals pts;simp only[runF,tW,hT]
 rw[e];exact hB h o x ho hx
theorem F0:runF EC TD DU 100000 6 [] []=some (⟨[.v (.bool true)],[.one]⟩,[]):=by kernel_rfl
def libBj:bW:=λf vals pts=>match xj f vals pts with
 |some r=>some r
 |none=>match vals,pts with
  | [],[]=>if f=6 then some (⟨[.v (.bool true)],[.one]⟩,[])else none
  |_,_=>none
theorem libBj_ok:cH Try.prog libBj:=by
 intro f vals pts res Zx h;unfold libBj at h;split at h
 ·rename_i r hr
  injection h with h
  subst h;exact nN f vals pts _ _ hr
 ·split at h
  ·split at h
   ·rename_i e
    injection h with h
    injection h with h1 h2
    subst h1 h2 e;exact runF_ok FS D9 BJ 100000 _ [] [] _ _ F0
   ·cases h
  ·cases h
def dp:Option (Bool×Unit):=some (true,())
theorem nw{id:Nat}:km libBj ⟨6,id,[],[],[⟨[shU .bool],[.one],[]⟩],λh=>dp⟩:=by
 intro h o x ho hx
 injection ho with ho
 subst ho;cases hx;show libBj 6 [] []=_;rfl
set_option maxHeartbeats 4000000 in
set_option maxRecDepth 100000 in
def tC(id:Nat):Ctr:=⟨37,id,[.agg [shU sRg,shU sTs],.agg [shU I64,shU I64,shU (.row false cCn),shU I64,shU I64,shU I64,shU I64,shU I64,shU I64,shU (.int .u16),shU (.row false cCn)]],[],[⟨[shU sRg,shU sTs,shU I64],[.agg 2,.one],[]⟩],
 λh=>bO h.1 h.2.1 h.2.2.1 h.2.2.2.1 h.2.2.2.2.1 h.2.2.2.2.2.1 h.2.2.2.2.2.2.1 h.2.2.2.2.2.2.2.1 h.2.2.2.2.2.2.2.2.1 h.2.2.2.2.2.2.2.2.2.1 h.2.2.2.2.2.2.2.2.2.2.1 h.2.2.2.2.2.2.2.2.2.2.2.1 h.2.2.2.2.2.2.2.2.2.2.2.2.1⟩
set_option maxHeartbeats 4000000 in
set_option maxRecDepth 100000 in
theorem py{id:Nat}:km libBj (tC id):=by
 rintro⟨C,T,a0,a1,cells,v0,v1,v2,v3,v4,v5,v6,L,h⟩ ⟨C',T',err,u⟩ x ho hx;have ho:bO C T a0 a1 cells v0 v1 v2 v3 v4 v5 v6 L=some (C',T',err,()):=ho;cases hx;show libBj 37 [.agg [.sl (C.map (enc cCs)),.sl (T.map (enc cVw))],.agg (enc cPg (a0,a1,cells,v0,v1,v2,v3,v4,v5,v6,L))] []=some (yQ C' T' err,[]);unfold libBj xj zO;rw[oIP (by rfl),Ab (p:=(a0,a1,cells,v0,v1,v2,v3,v4,v5,v6,L)) ho];rfl
end Go.Proofs.Ytakfoejcjdcgbaa
namespace Go.Proofs.Ytakfoejcjdcgbaa
open Go.RowKit
set_option maxRecDepth 100000
noncomputable section
abbrev KCn:CT:=(.pair (.int .u8) (.pair (.int .u16) (.pair I64 I64)))
abbrev dq:CT:=(.pair I64 (.pair I64 (.pair I64 (.pair I64 (.pair I64 (.pair I64 (.pair (.int .u16) (.row false KCn))))))))
abbrev pm:CT:=(.pair I64 (.pair I64 (.pair I64 (.pair I64 (.pair I64 (.pair I64 (.pair (.int .u16) (.row true KCn))))))))
abbrev ca:CT:=(.row false KCn)
abbrev RI:CT:=(.row false I64)
abbrev DCe:Type:=(Int×Int)
abbrev DCn:Type:=(Int×Int×Int×Int)
abbrev DTs:Type:=(Int×Int×Int×Int×Int×Int×Int×List DCn)
def HH(f i:Nat):List (Nat×Option Nat):=if f=60 then(if i=0 then[(4,none)]else[])else if f=59 then(if i=0 then[(4,some 2),(4,some 10)]else[])else if f=33 then(if i=1000005 then[(6,none)]else if i=1000010 then[(6,none)]else[])else if f=36 then(if i=0 then[(4,some 2),(4,some 10)]else[])else if f=15 then(if i=0 then[(6,some 2),(6,some 3)]else[])else if f=4 then(if i=1 then[(8,some 4)]else[])else[]
def E8:List Nat:=[6,37]
def TT (f:FuncId):Option TFn:=if E8.contains f then none else jy Try.prog (HH f) f
theorem CE{f:FuncId}(h:E8.contains f=true):TT f=none:=oIP h
def E0:Env:=⟨λf=>if f=7 then some (1,[.arg 0,.val (.int .i64 0)])else none,λf=>FV Try.prog f⟩
theorem tt_ok:rV Try.prog TT:=λf tf h=>tV HH (by kernel_rfl) f tf (by
 unfold TT at h
 split at h
 ·cases h
 ·exact h)
abbrev qE:Shs:=⟨[],[],[],([],[])⟩
abbrev qS(s:List (Nat×Sh))(c:List (Nat×List Sh)):Shs:=⟨s,c,[],([],[])⟩
abbrev N1:CT:=.nilr true
abbrev N0:CT:=.nilr false
abbrev CW:CT:=.int .u16
abbrev CB:CT:=.int .u8
abbrev uL(l:List CT):List Sh:=l.map fun c=>.d c ()
abbrev pP(t r:Nat):Nat×Sh:=(t,.ptr ⟨r,0,[]⟩ [0])
abbrev sP(t:Nat)(c:CT):Nat×Sh:=(t,.d c ())
abbrev Lk(n:Nat)(c:Ctr):Prop:=Lvl E0 TT libBj n c
theorem aN{m:Nat}:wu E0 TT libBj m []:=trivial
theorem aC{n m:Nat}{c:Ctr}{l:List Ctr}(h:Lk n c)(r:wu E0 TT libBj m l)(hm:n≤m:=by decide):wu E0 TT libBj m (c::l):=⟨h.mono hm,r⟩
abbrev lx(i n:Nat)(s:List (Nat×Sh))(c:List (Nat×List Sh))(b:Nat):tM:=⟨i,n,⟨s,c,[],([],[])⟩,[(.exit 0,⟨s++[(b,.d .bool ())],c,[],([],[])⟩)]⟩
abbrev LI:Type:=List Int
abbrev LDCe:Type:=List DCe
abbrev LDCn:Type:=List DCn
abbrev LDTs:Type:=List DTs
abbrev LLCn:Type:=List (List DCn)
abbrev T00:Type:=Int×Bool×Unit
abbrev T01:Type:=Int×Int×Unit
abbrev T02:Type:=LDCe×Int×Unit
abbrev T03:Type:=LLCn×LDTs×Unit
abbrev T04:Type:=Int×T00
abbrev T05:Type:=Int×Int×LDCe×Unit
abbrev T06:Type:=LI×T01
abbrev T07:Type:=LLCn×LDTs×LI×Unit
abbrev T08:Type:=Int×Int×Bool×LDCe×Unit
abbrev T09:Type:=Int×T07
abbrev T0a:Type:=LLCn×LDTs×T03
abbrev T0b:Type:=LLCn×LDTs×Unit×Unit×Unit
abbrev T0c:Type:=Unit×Unit×T03
abbrev T0d:Type:=Unit×Unit×LLCn×Unit×Unit
abbrev T0e:Type:=Int×LI×T05
abbrev T0f:Type:=Int×T0a
abbrev T0g:Type:=Int×Int×LLCn×LDTs×T02
abbrev T0h:Type:=Int×Int×T0b
abbrev T0i:Type:=LI×Int×T0c
abbrev T0j:Type:=LI×Int×T0d
abbrev T0k:Type:=LLCn×LDTs×T0c
abbrev T0l:Type:=LLCn×LDTs×T0d
abbrev T0m:Type:=Int×Int×Bool×T0b
abbrev T0n:Type:=Int×Int×LLCn×LDTs×LDCe×T01
abbrev T0o:Type:=Int×T0i
abbrev T0p:Type:=Int×T0j
abbrev T0q:Type:=Int×T0k
abbrev T0r:Type:=Int×T0l
abbrev T0s:Type:=LI×Int×Unit×Unit×LLCn×Unit×LDCn×Unit
abbrev T0t:Type:=Int×Bool×T0i
abbrev T0u:Type:=Int×Int×Int×Int×Int×Int×Int×LDCn×Unit
abbrev T0v:Type:=Int×Int×Int×T0e
abbrev T0w:Type:=Int×T0o
abbrev T0x:Type:=Int×T0t
abbrev T0y:Type:=Int×Int×T0s
abbrev T0z:Type:=Int×Int×Unit×Unit×Unit×T09
abbrev T0A:Type:=Int×Int×Int×Int×T0z
abbrev T0B:Type:=LLCn×LDTs×Int×Int×LLCn×LDTs×LDCe×Int×T0g
abbrev T0C:Type:=LLCn×LDTs×LDCe×(List (Int×Int×LDCn×Int×Int×Int×Int×Int×Int×Int×LDCn))×Unit
abbrev T0D:Type:=Int×Int×T0C
abbrev T0E:Type:=Int×Int×Int×Int×T0B
abbrev T0F:Type:=LI×Int×Int×Int×Int×Int×Int×Int×Int×Unit×T0u
abbrev T0G:Type:=LLCn×LDTs×Int×Int×Unit×Unit×Unit×Int×Int×Int×LLCn×LDTs×LDCe×Int×LDCe×LDCe×T03
abbrev T0H:Type:=Int×T0F
abbrev T0I:Type:=LI×T0E
abbrev T0J:Type:=LI×Int×Int×Int×Int×Bool×T0B
abbrev T0K:Type:=Int×Int×Int×T0G
abbrev T0L:Type:=Int×Int×Int×Bool×T0G
abbrev T0M:Type:=(List (Int×Int×LDCn×Int×Int×Int×Int×Int×Int×Int×LDCn))×(List (Int×Int×LDCn×Int×Int×Int×Int×Int×Int×Int×LDCn))×LDCe×Unit
abbrev T0N:Type:=Int×Int×T0M
noncomputable abbrev ap1{A0 D R:Type}(f:A0→R)(h:A0×D):R:=f h.1
noncomputable abbrev ap2{A0 A1 D R:Type}(f:A0→A1→R)(h:A0×A1×D):R:=f h.1 h.2.1
noncomputable abbrev ap3{A0 A1 A2 D R:Type}(f:A0→A1→A2→R)(h:A0×A1×A2×D):R:=f h.1 h.2.1 h.2.2.1
noncomputable abbrev ap4{A0 A1 A2 A3 D R:Type}(f:A0→A1→A2→A3→R)(h:A0×A1×A2×A3×D):R:=f h.1 h.2.1 h.2.2.1 h.2.2.2.1
noncomputable abbrev ap5{A0 A1 A2 A3 A4 D R:Type}(f:A0→A1→A2→A3→A4→R)(h:A0×A1×A2×A3×A4×D):R:=f h.1 h.2.1 h.2.2.1 h.2.2.2.1 h.2.2.2.2.1
noncomputable abbrev ap6{A0 A1 A2 A3 A4 A5 D R:Type}(f:A0→A1→A2→A3→A4→A5→R)(h:A0×A1×A2×A3×A4×A5×D):R:=f h.1 h.2.1 h.2.2.1 h.2.2.2.1 h.2.2.2.2.1 h.2.2.2.2.2.1
noncomputable abbrev ap8{A0 A1 A2 A3 A4 A5 A6 A7 D R:Type}(f:A0→A1→A2→A3→A4→A5→A6→A7→R)(h:A0×A1×A2×A3×A4×A5×A6×A7×D):R:=f h.1 h.2.1 h.2.2.1 h.2.2.2.1 h.2.2.2.2.1 h.2.2.2.2.2.1 h.2.2.2.2.2.2.1 h.2.2.2.2.2.2.2.1
noncomputable abbrev ap9{A0 A1 A2 A3 A4 A5 A6 A7 A8 D R:Type}(f:A0→A1→A2→A3→A4→A5→A6→A7→A8→R)(h:A0×A1×A2×A3×A4×A5×A6×A7×A8×D):R:=f h.1 h.2.1 h.2.2.1 h.2.2.2.1 h.2.2.2.2.1 h.2.2.2.2.2.1 h.2.2.2.2.2.2.1 h.2.2.2.2.2.2.2.1 h.2.2.2.2.2.2.2.2.1
noncomputable abbrev ap12{A0 A1 A2 A3 A4 A5 A6 A7 A8 A9 A10 A11 D R:Type}(f:A0→A1→A2→A3→A4→A5→A6→A7→A8→A9→A10→A11→R)(h:A0×A1×A2×A3×A4×A5×A6×A7×A8×A9×A10×A11×D):R:=f h.1 h.2.1 h.2.2.1 h.2.2.2.1 h.2.2.2.2.1 h.2.2.2.2.2.1 h.2.2.2.2.2.2.1 h.2.2.2.2.2.2.2.1 h.2.2.2.2.2.2.2.2.1 h.2.2.2.2.2.2.2.2.2.1 h.2.2.2.2.2.2.2.2.2.2.1 h.2.2.2.2.2.2.2.2.2.2.2.1
noncomputable abbrev ap13{A0 A1 A2 A3 A4 A5 A6 A7 A8 A9 A10 A11 A12 D R:Type}(f:A0→A1→A2→A3→A4→A5→A6→A7→A8→A9→A10→A11→A12→R)(h:A0×A1×A2×A3×A4×A5×A6×A7×A8×A9×A10×A11×A12×D):R:=f h.1 h.2.1 h.2.2.1 h.2.2.2.1 h.2.2.2.2.1 h.2.2.2.2.2.1 h.2.2.2.2.2.2.1 h.2.2.2.2.2.2.2.1 h.2.2.2.2.2.2.2.2.1 h.2.2.2.2.2.2.2.2.2.1 h.2.2.2.2.2.2.2.2.2.2.1 h.2.2.2.2.2.2.2.2.2.2.2.1 h.2.2.2.2.2.2.2.2.2.2.2.2.1
noncomputable abbrev ap16{A0 A1 A2 A3 A4 A5 A6 A7 A8 A9 A10 A11 A12 A13 A14 A15 D R:Type}(f:A0→A1→A2→A3→A4→A5→A6→A7→A8→A9→A10→A11→A12→A13→A14→A15→R)(h:A0×A1×A2×A3×A4×A5×A6×A7×A8×A9×A10×A11×A12×A13×A14×A15×D):R:=f h.1 h.2.1 h.2.2.1 h.2.2.2.1 h.2.2.2.2.1 h.2.2.2.2.2.1 h.2.2.2.2.2.2.1 h.2.2.2.2.2.2.2.1 h.2.2.2.2.2.2.2.2.1 h.2.2.2.2.2.2.2.2.2.1 h.2.2.2.2.2.2.2.2.2.2.1 h.2.2.2.2.2.2.2.2.2.2.2.1 h.2.2.2.2.2.2.2.2.2.2.2.2.1 h.2.2.2.2.2.2.2.2.2.2.2.2.2.1 h.2.2.2.2.2.2.2.2.2.2.2.2.2.2.1 h.2.2.2.2.2.2.2.2.2.2.2.2.2.2.2.1
noncomputable abbrev ap22{A0 A1 A2 A3 A4 A5 A6 A7 A8 A9 A10 A11 A12 A13 A14 A15 A16 A17 A18 A19 A20 A21 D R:Type}(f:A0→A1→A2→A3→A4→A5→A6→A7→A8→A9→A10→A11→A12→A13→A14→A15→A16→A17→A18→A19→A20→A21→R)(h:A0×A1×A2×A3×A4×A5×A6×A7×A8×A9×A10×A11×A12×A13×A14×A15×A16×A17×A18×A19×A20×A21×D):R:=f h.1 h.2.1 h.2.2.1 h.2.2.2.1 h.2.2.2.2.1 h.2.2.2.2.2.1 h.2.2.2.2.2.2.1 h.2.2.2.2.2.2.2.1 h.2.2.2.2.2.2.2.2.1 h.2.2.2.2.2.2.2.2.2.1 h.2.2.2.2.2.2.2.2.2.2.1 h.2.2.2.2.2.2.2.2.2.2.2.1 h.2.2.2.2.2.2.2.2.2.2.2.2.1 h.2.2.2.2.2.2.2.2.2.2.2.2.2.1 h.2.2.2.2.2.2.2.2.2.2.2.2.2.2.1 h.2.2.2.2.2.2.2.2.2.2.2.2.2.2.2.1 h.2.2.2.2.2.2.2.2.2.2.2.2.2.2.2.2.1 h.2.2.2.2.2.2.2.2.2.2.2.2.2.2.2.2.2.1 h.2.2.2.2.2.2.2.2.2.2.2.2.2.2.2.2.2.2.1 h.2.2.2.2.2.2.2.2.2.2.2.2.2.2.2.2.2.2.2.1 h.2.2.2.2.2.2.2.2.2.2.2.2.2.2.2.2.2.2.2.2.1 h.2.2.2.2.2.2.2.2.2.2.2.2.2.2.2.2.2.2.2.2.2.1
theorem ls{n:Nat}(C:X.Cfg)(hT:wu E0 TT libBj n C.TB){c:Ctr}(hE:C.E=E0:=by rfl)(h1:(TT c.f).isSome=true:=by kernel_rfl)(hg:∀h,X.runT bf C () ((TT c.f).getD Gm) c.outs (d4 c.ins _ h).1 (lL c.pts [] (d4 c.ins _ h).2).1=c.g h:=by intro h;kernel_rfl):Lk (n+1) c:=ej (n:=n) (C:=C) hE hT (fO h1) hg
abbrev yaa(t:Nat):Nat×Sh:=sP t I64
abbrev zaa(t:Nat):Nat×Sh:=sP t .bool
abbrev Uaa(t r:Nat):Nat×Sh:=(t,.pk ⟨r,0,[]⟩ [0,0])
abbrev Xs(t:CT):CT:=.row true t
abbrev Xt(t:CT):CT:=.row false t
abbrev uaa(t:Nat):Nat×Sh:=pP t (2*t+2)
abbrev Xaa:List Sh:=uL [(Xt ca),(Xt dq)]
abbrev Zaa:List Sh:=uL [RI,I64]
abbrev uab:List Sh:=uL [.bool]
abbrev yab:List Sh:=uL [(Xs (.pair I64 I64))]
abbrev zab:List Sh:=uL [N1,N1]
abbrev Uab:List Sh:=uL [(Xs (Xs KCn)),(Xs pm)]
abbrev Xab:List Sh:=uL [I64,I64,(Xt ca),(Xt dq),(Xt (.pair I64 I64)),I64]
abbrev Zab:List Sh:=uL [I64]
abbrev uac:List Sh:=uL [I64,I64,(Xt ca),(Xt dq),(Xs (.pair I64 I64)),I64]
abbrev yac:List Sh:=uL [I64,I64]
abbrev zac:List Sh:=uL [I64,I64,N1,N1,N1,I64]
abbrev Uac:List Sh:=uL [I64,I64,I64,I64,I64,I64,CW,(Xs KCn)]
abbrev Xac:List Sh:=uL [(Xs (Xs KCn)),N1]
abbrev Zac:List Sh:=uL [I64,I64,I64,I64,I64,I64,CW,ca]
abbrev uad:List Sh:=uL [I64,I64,ca,I64,I64,I64,I64,I64,I64,CW,ca]
abbrev yad:List Sh:=uL [(Xs ca),(Xs dq)]
abbrev zad:List Sh:=uL [(Xs KCn)]
abbrev Uad:List Sh:=uL [(Xs I64)]
abbrev Xad:List Sh:=uL [(Xs (.pair I64 I64)),I64]
def nI(a0:List (Int)):Option (Bool×Unit):=
let x0:=bu a0.length;
some ((decide (x0<=400)),())
def BV:X.Cfg:=⟨E0,[],[],[]⟩
def wl:Ctr:=⟨5,0,uL [RI],[],[⟨uab,[.one],[]⟩],ap1 nI⟩
theorem BL:Lk 1 wl:=ls BV aN
def l6:Ctr:=⟨6,1,[],[],[⟨uab,[.one],[]⟩],λh=>dp⟩
theorem rm:Lvl E0 TT libBj 1 l6:=(zN (CE rfl) nw).mono (by decide)
def kK(a0:Int)(a1:Int):Option (Int×Unit):=
bif(a1 != 0)then let x0:Int:=(Int.tmod a0 a1);
(bif(decide (x0<0))then(let x1:Int:=(w64 (x0+a1));
some (x1,()))else
some (x0,()):Option (Int×Unit)).bind λ(x1,_)=>
some (x1,())else none
def uy:X.Cfg:=⟨E0,[],[],[⟨2,0,qE,[(.normal,qS [yaa 5] [])]⟩]⟩
def o9:Ctr:=⟨40,2,yac,[],[⟨Zab,[.one],[]⟩],ap2 kK⟩
theorem ur:Lk 1 o9:=ls uy aN
def nH(a0:Int)(a1:Int):Option (Int×Unit):=
(kK a0 a1).bind λ(x0,_)=>
some (x0,())
def BU:X.Cfg:=⟨E0,[o9],[],[]⟩
def wj:Ctr:=⟨21,3,yac,[],[⟨Zab,[.one],[]⟩],ap2 nH⟩
theorem BK:Lk 2 wj:=ls BU (aC ur aN)
def bv(a0:Int)(a1:List (Int))(a2:Int):Option (Int×LI×Int×Unit):=
let x0:=bu a1.length;
bif(decide (a2>=x0))then(some (0,a1,a2,()))else
let x1:=w64 (a2+1);
let x2:=w64 (x1-1);
(eD x2).bind λx3=>
(dw a1 x3).bind λx4=>
(nH x4 a0).bind λ(x5,_)=>
some (x5,a1,x1,())
def uC:X.Cfg:=⟨E0,[wj],[],[]⟩
def ft:Ctr:=⟨10,4,[.ptr ⟨2,0,[]⟩ [0],shU I64],[(2,Zaa)],[⟨Zab,[.one],[(2,Zaa)]⟩],ap3 bv⟩
theorem gw:Lk 3 ft:=ls uC (aC BK aN)
def dH(a0:List (Int))(a1:Int):Option (Int×Int×Int×Int×LI×Int×Unit):=
(bv 5 a0 a1).bind λ(x0,x1,x2,_)=>
bif(x0==4)then((bv 3 x1 x2).bind λ(x3,x4,x5,_)=>
(bv 8 x4 x5).bind λ(x6,x7)=>
some (1,0,x3,x6,x7))else
(bv 40 x1 x2).bind λ(x3,x4,x5,_)=>
let x6:=wk .u16 x3;
some (0,x6,0,0,x4,x5,())
def sQ:X.Cfg:=⟨E0,[ft],[],[]⟩
def gU:Ctr:=⟨19,5,[.ptr ⟨2,0,[]⟩ [0]],[(2,Zaa)],[⟨uL [CB,CW,I64,I64],[.agg 4],[(2,Zaa)]⟩],ap2 dH⟩
theorem jr:Lk 4 gU:=ls sQ (aC gw aN)
def cW:T0H->Option (T0H⊕(Int×Bool×T0F)):=λ(v0,v1,v2,v3,v4,v5,v6,v7,v8,v9,v10,v11,v12,v13,v14,v15,v16,v17,v18,_)=>
bif(decide (v0<8))then((dH v1 v2).bind λ(x0,x1,x2,x3,x4,x5,_)=>
let x6:LDCn:=[(x0,(x1,(x2,x3)))];
bif(cM 24 v18.length x6.length)then let x7:LDCn:=(List.append v18 x6);
let x8:=w64 (v0+1);
some (.inl (x8,x4,x5,v3,v4,v5,v6,v7,v8,v9,v10,v11,v12,v13,v14,v15,v16,v17,x7,()))else none)else
some (.inr (v0,false,v1,v2,v3,v4,v5,v6,v7,v8,v9,v10,v11,v12,v13,v14,v15,v16,v17,v18,()))
def fG(a0:List (Int))(a1:Int):Option (Int×Int×Int×Int×Int×Int×Int×LDCn×LI×Int×Unit):=
(bv 5 a0 a1).bind λ(x0,x1,x2,_)=>
(bv 20 x1 x2).bind λ(x3,x4,x5,_)=>
(bv 30 x4 x5).bind λ(x6,x7,x8,_)=>
(bv 4 x7 x8).bind λ(x9,ac,ae,_)=>
let af:=w64 (x9-1);
(bv 4 ac ae).bind λ(ah,ai,aj,_)=>
let ak:=w64 (ah-1);
(bv 7 ai aj).bind λ(am,an,ap,_)=>
(bv 9 an ap).bind λ(aq,au,av,_)=>
let aw:=wk .u16 aq;
(bH cW NN (0,au,av,0,0,0,0,0,0,0,(),x0,x3,x6,af,ak,am,aw,[],())).bind λ(ax,ay,az,aA,aB,aD,aE,aF,aG,aH,aI,aJ,aK,aL,aM,aO,aP,aQ,aR,aS,_)=>
some (aK,aL,aM,aO,aP,aQ,aR,aS,az,aA,())
def sR:X.Cfg:=⟨E0,[ft,gU],[],[(lx 4 0 [uaa 0,uaa 2,uaa 3,yaa 4] [(2,Zaa),(6,uL [I64,I64,I64,I64,I64,I64,CW,N1]),(8,Uac)] 24)]⟩
def jA:Ctr:=⟨20,6,[.ptr ⟨2,0,[]⟩ [0]],[(2,Zaa)],[⟨Uac,[.agg 8],[(2,Zaa)]⟩],ap2 fG⟩
theorem mU:Lk 5 jA:=ls sR (aC gw (aC jr aN))
def d9:T0y->Option (T0y⊕(Int×Int×Bool×T0s)):=λ(v0,v1,v2,v3,v4,v5,v6,v7,v8,_)=>
bif(decide (v1>=0))then((dH v2 v3).bind λ(x0,x1,x2,x3,x4,x5,_)=>
let x6:LDCn:=[(x0,(x1,(x2,x3)))];
bif(cM 24 v8.length x6.length)then let x7:LDCn:=(List.append v8 x6);
let x8:=w64 (v1-1);
some (.inl (v0,x8,x4,x5,v4,v5,v6,v7,x7,()))else none)else
some (.inr (v0,v1,false,v2,v3,v4,v5,v6,v7,v8,()))
def d8:T0p->Option (T0p⊕(Int×Bool×T0j)):=λ(v0,v1,v2,v3,v4,v5,v6,_)=>
bif(decide (v0>=0))then((bv 24 v1 v2).bind λ(x0,x1,x2,_)=>
(bH d9 NN (v0,x0,x1,x2,v3,v4,v5,v6,[],())).bind λ(x3,x4,x5,x6,x7,x8,x9,ac,ae,af,_)=>
bif(cM 24 ac.length (List.length [af]))then let ah:List LDCn:=(List.append ac [af]);
let ai:=w64 (x3-1);
some (.inl (ai,x6,x7,x8,x9,ah,ae,()))else none)else
some (.inr (v0,false,v1,v2,v3,v4,v5,v6,()))
def d7:T0o->Option (T0o⊕T0t):=λ(v0,v1,v2,v3,v4,v5,v6,_)=>
bif(decide (v0>0))then((fG v1 v2).bind λ(x0,x1,x2,x3,x4,x5,x6,x7,x8,x9,_)=>
let ac:LDTs:=[(x0,(x1,(x2,(x3,(x4,(x5,(x6,x7)))))))];
bif(cM 80 v6.length ac.length)then let ae:LDTs:=(List.append v6 ac);
let af:=w64 (v0-1);
some (.inl (af,x8,x9,v3,v4,v5,ae,()))else none)else
some (.inr (v0,false,v1,v2,v3,v4,v5,v6,()))
def fX(a0:List (Int))(a1:Int):Option (LLCn×LDTs×LI×Int×Unit):=
(bv 3 a0 a1).bind λ(x0,x1,x2,_)=>
(bH d8 NN (x0,x1,x2,(),(),[],(),())).bind λ(x3,x4,x5,x6,x7,x8,x9,ac,_)=>
(bv 4 x5 x6).bind λ(ae,af,ah,_)=>
(bH d7 NN (ae,af,ah,x7,x8,x9,[],())).bind λ(ai,aj,ak,am,an,ap,aq,au,_)=>
some (aq,au,ak,am,())
def rx:X.Cfg:=⟨E0,[ft,gU,jA],[(28,(Xs KCn)),(29,(Xs KCn)),(41,pm),(42,pm)],[⟨11,0,qS [uaa 0,uaa 2,uaa 3,yaa 4,Uaa 5 13,yaa 6] [(2,Zaa),(6,zab),(8,Xac),(13,zad)],[(.exit 2,qS [uaa 0,uaa 2,uaa 3,yaa 4,Uaa 5 13,yaa 6,zaa 17] [(2,Zaa),(6,zab),(8,Xac),(13,zad)])]⟩,(lx 4 1 [uaa 0,uaa 2,uaa 3,yaa 4] [(2,Zaa),(6,zab),(8,Xac)] 11),⟨17,2,qS [uaa 0,uaa 2,uaa 3,yaa 7] [(2,Zaa),(6,zab),(8,Uab)],[(.exit 4,qS [uaa 0,uaa 2,uaa 3,yaa 7,zaa 34] [(2,Zaa),(6,zab),(8,Uab)])]⟩]⟩
def lW:Ctr:=⟨8,7,[.ptr ⟨2,0,[]⟩ [0]],[(2,Zaa)],[⟨Uab,[.agg 2],[(2,Zaa)]⟩],ap2 fX⟩
theorem ri:Lk 6 lW:=ls rx (aC gw (aC jr (aC mU aN)))
def fw(a0:Int)(a1:Int)(a2:Int)(a3:Int)(a4:Int)(a5:Int)(a6:Int)(a7:LDCn):Option (T0u):=
bif(cM 24 0 a7.length)then let x0:LDCn:=(List.append [] a7);
some (a0,a1,a2,a3,a4,a5,a6,x0,())else none
def pM:X.Cfg:=⟨E0,[],[],[]⟩
def kB:Ctr:=⟨39,8,[.agg Zac],[],[⟨Uac,[.agg 8],[]⟩],ap8 fw⟩
theorem pE:Lk 1 kB:=ls pM aN
def cA:T0r->Option (T0r⊕(Int×Bool×T0l)):=λ(v0,v1,v2,v3,v4,v5,v6,_)=>
let x0:=bu v1.length;
bif(decide (v0<x0))then((eD v0).bind λx1=>
(dw v1 x1).bind λx2=>
bif(cM 24 0 x2.length)then let x3:LDCn:=(List.append [] x2);
bif(cM 24 v5.length (List.length [x3]))then let x4:List LDCn:=(List.append v5 [x3]);
let x5:=w64 (v0+1);
some (.inl (x5,v1,v2,v3,v4,x4,v6,()))else none else none)else
some (.inr (v0,false,v1,v2,v3,v4,v5,v6,()))
def cz:T0q->Option (T0q⊕(Int×Bool×T0k)):=λ(v0,v1,v2,v3,v4,v5,v6,_)=>
let x0:=bu v2.length;
bif(decide (v0<x0))then((eD v0).bind λx1=>
(dw v2 x1).bind λx2=>
(fw x2.1 x2.2.1 x2.2.2.1 x2.2.2.2.1 x2.2.2.2.2.1 x2.2.2.2.2.2.1 x2.2.2.2.2.2.2.1 x2.2.2.2.2.2.2.2).bind λ(x3,x4,x5,x6,x7,x8,x9,ac,_)=>
let ae:LDTs:=[(x3,(x4,(x5,(x6,(x7,(x8,(x9,ac)))))))];
bif(cM 80 v6.length ae.length)then let af:LDTs:=(List.append v6 ae);
let ah:=w64 (v0+1);
some (.inl (ah,v1,v2,v3,v4,v5,af,()))else none)else
some (.inr (v0,false,v1,v2,v3,v4,v5,v6,()))
def gK(a0:List LDCn)(a1:LDTs):Option (T03):=
(bH cA NN (0,a0,a1,(),(),[],(),())).bind λ(x0,x1,x2,x3,x4,x5,x6,x7,_)=>
(bH cz NN (0,x2,x3,x4,x5,x6,[],())).bind λ(x8,x9,ac,ae,af,ah,ai)=>
some (ai)
def sX:X.Cfg:=⟨E0,[kB],[(22,(Xs KCn)),(23,(Xs KCn)),(40,pm),(41,pm)],[(lx 4 0 [uaa 1,uaa 2,uaa 3,yaa 4] [(4,Xaa),(6,zab),(8,Xac)] 10),⟨10,1,qS [uaa 1,uaa 2,uaa 3,yaa 5] [(4,Xaa),(6,zab),(8,Uab)],[(.exit 2,qS [uaa 1,uaa 2,uaa 3,yaa 5,zaa 29] [(4,Xaa),(6,zab),(8,Uab)])]⟩]⟩
def nc:Ctr:=⟨18,9,[.agg Xaa],[],[⟨Uab,[.agg 2],[]⟩],ap2 gK⟩
theorem sK:Lk 2 nc:=ls sX (aC pE aN)
def gl:T0w->Option (T0w⊕T0x):=λ(v0,v1,v2,v3,v4,v5,v6,v7,_)=>
bif(decide (v1<v0))then(((match(let x0:Int:=(bu v7.length);
bif(decide (x0>0))then((bv 3 v2 v3).bind λ(x1,x2,x3,_)=>
bif(x1==2)then(let x4:Int:=(bu v7.length);
(bv x4 x2 x3).bind λ(x5,x6,x7,_)=>
(fG x6 x7).bind λ(x8,x9,ac,ae,af,ah,ai,aj,ak,am,_)=>
(eD x5).bind λan=>
(dw v7 an).bind λap=>
(dw v7 an).bind λaq=>
let au:=(List.modify v7 an λe=>(x8,(x9,(ac,(ae,(af,(ah,(ai,aj))))))));
some (.inl (v0,v1,ak,am,v4,v5,v6,au,())))else
some (.inr (v0,v1,false,x2,x3,v4,v5,v6,v7,())))else
some (.inr (v0,v1,false,v2,v3,v4,v5,v6,v7,())):Option (T0w⊕T0x))with
|none=>none
|some (.inl (x0,x1,x2,x3,x4,x5,x6,x7,_))=>
some (x0,x1,x2,x3,x4,x5,x6,x7,())
|some (.inr (x0,x1,x2,x3,x4,x5,x6,x7,x8,_))=>
let x9:=bu x7.length;
(bv x9 x3 x4).bind λ(ac,ae,af,_)=>
(eD ac).bind λah=>
(dw x7 ah).bind λai=>
(dw x7 ah).bind λaj=>
(eD ac).bind λak=>
(dw x7 ak).bind λam=>
(dw x7 ak).bind λan=>
(dw x7 ak).bind λap=>
let aq:=bu ap.length;
(bv aq ae af).bind λ(au,av,aw,_)=>
(dH av aw).bind λ(ax,ay,az,aA,aB,aD,_)=>
(eD au).bind λaE=>
(dw x7 ah).bind λaF=>
(dw aF aE).bind λaG=>
(dw x7 ah).bind λaH=>
(dw aH aE).bind λaI=>
let aJ:=(List.modify x7 ah λe=>(List.modify e aE λe=>(ax,(ay,(az,aA)))));
some (x0,x1,aB,aD,x5,x6,aJ,x8,())):Option (T0w)).bind λ(x0,x1,x2,x3,x4,x5,x6,x7,_)=>
let x8:=w64 (x1+1);
some (.inl (x0,x8,x2,x3,x4,x5,x6,x7,())))else
some (.inr (v0,v1,false,v2,v3,v4,v5,v6,v7,()))
def gH(a0:List LDCn)(a1:LDTs)(a2:Int)(a3:List (Int))(a4:Int):Option (LLCn×LDTs×LI×Int×Unit):=
(gK a0 a1).bind λ(x0,x1,_)=>
(bH gl NN (a2,0,a3,a4,(),(),x0,x1,())).bind λ(x2,x3,x4,x5,x6,x7,x8,x9,ac,_)=>
some (x9,ac,x5,x6,())
def sS:X.Cfg:=⟨E0,[nc,ft,jA,gU],[],[⟨8,0,qE,[(.exit 1,qS [uaa 0,yaa 2,uaa 6,uaa 7,yaa 8] [(2,Zaa),(14,zab),(16,Uab)]),(.normal,qS [uaa 0,yaa 2,uaa 6,uaa 7,yaa 8,zaa 25] [(2,Zaa),(14,zab),(16,Uab)])]⟩,⟨7,1,qE,[(.normal,qS [uaa 0,yaa 2,uaa 6,uaa 7,yaa 8] [(2,Zaa),(14,zab),(16,Uab)])]⟩,(lx 4 2 [uaa 0,yaa 2,uaa 6,uaa 7,yaa 8] [(2,Zaa),(14,zab),(16,Uab)] 14)]⟩
def m9:Ctr:=⟨9,10,[.ptr ⟨2,0,[]⟩ [0],.agg Xaa,shU I64],[(2,Zaa)],[⟨Uab,[.agg 2],[(2,Zaa)]⟩],ap5 gH⟩
theorem sH:Lk 6 m9:=ls sS (aC sK (aC gw (aC mU (aC jr aN))))
def eI(a0:Int):Option (Bool×Unit):=
bif(decide (a0>=1))then(some ((decide (a0<=32)),()))else
some (false,())
def rA:X.Cfg:=⟨E0,[],[],[]⟩
def iQ:Ctr:=⟨43,11,Zab,[],[⟨uab,[.one],[]⟩],ap1 eI⟩
theorem lC:Lk 1 iQ:=ls rA aN
def ef(a0:LDCn):Option (Bool×Unit):=
let x0:=bu a0.length;
(eI x0).bind λ(x1,_)=>
some ((!x1),())
def nC:X.Cfg:=⟨E0,[iQ],[],[]⟩
def i4:Ctr:=⟨83,12,uL [ca],[],[⟨uab,[.one],[]⟩],ap1 ef⟩
theorem nz:Lk 2 i4:=ls nC (aC lC aN)
def bq:LLCn×T01->Option ((LLCn×T01)⊕((Int×Unit)⊕(LLCn×T04))):=λ(v0,v1,v2,_)=>
bif(decide (v2<v1))then((eD v2).bind λx0=>
(dw v0 x0).bind λx1=>
(ef x1).bind λ(x2,_)=>
bif x2 then(some (.inr (.inl (v2,()))))else
let x3:=w64 (v2+1);
some (.inl (v0,v1,x3,())))else
some (.inr (.inr (v0,v1,v2,false,())))
def cX(a0:List LDCn):Option (Int×Unit):=
let x0:=bu a0.length;
(match bH bq NN (a0,x0,0,())with
|none=>none
|some (.inl (x1,_))=>
some (x1,())
|some (.inr (x1,_))=>
some ((-1),()))
def iB:X.Cfg:=⟨E0,[i4],[],[⟨3,0,(qS [sP 0 (Xt ca),(1,.fn 83 []),yaa 7,yaa 8] []),[(.ret,qS [yaa 4] []),(.exit 0,(qS [sP 0 (Xt ca),(1,.fn 83 []),yaa 7,yaa 8,zaa 9] []))]⟩]⟩
def eC:Ctr:=⟨96,13,[shU (Xt ca),.fn 83 []],[],[⟨Zab,[.one],[]⟩],ap1 cX⟩
theorem iz:Lk 3 eC:=ls iB (aC nz aN)
def bZ(a0:List LDCn):Option (Bool×Unit):=
(cX a0).bind λ(x0,_)=>
some ((decide (x0>=0)),())
def gx:X.Cfg:=⟨E0,[eC],[],[]⟩
def dK:Ctr:=⟨82,14,[shU (Xt ca),.fn 83 []],[],[⟨uab,[.one],[]⟩],ap1 bZ⟩
theorem gv:Lk 4 dK:=ls gx (aC iz aN)
def dx(a0:List LDCn)(a1:LDTs):Option (Bool×Unit):=
let x0:=bu a0.length;
bif(decide (x0<=4))then(let x1:Int:=(bu a1.length);
bif(decide (x1<=4))then((bZ a0).bind λ(x2,_)=>
some ((!x2),()))else
some (false,()))else
some (false,())
def pN:X.Cfg:=⟨E0,[dK],[],[]⟩
def fD:Ctr:=⟨49,15,[.agg Xaa],[],[⟨uab,[.one],[]⟩],ap2 dx⟩
theorem ic:Lk 5 fD:=ls pN (aC gv aN)
def g8(a0:List LDCn)(a1:LDTs):Option (Bool×Unit):=
(dx a0 a1).bind λ(x0,_)=>
some (x0,())
def pO:X.Cfg:=⟨E0,[fD],[],[]⟩
def kC:Ctr:=⟨31,16,[.agg Xaa],[],[⟨uab,[.one],[]⟩],ap2 g8⟩
theorem pF:Lk 6 kC:=ls pO (aC ic aN)
def cq:LLCn×Int×T09->Option ((LLCn×Int×T09)⊕(LLCn×Int×Int×Bool×T07)):=λ(v0,v1,v2,v3,v4,v5,_)=>
bif(decide (v2<v1))then((eD v2).bind λx0=>
(dw v0 x0).bind λx1=>
let x2:=bu x1.length;
bif(cM 8 v5.length (List.length [x2]))then let x3:List (Int):=(List.append v5 [x2]);
let x4:=w64 (v2+1);
some (.inl (v0,v1,x4,v3,v4,x3,()))else none)else
some (.inr (v0,v1,v2,false,v3,v4,v5,()))
def dn(a0:List LDCn)(a1:LDTs):Option (LI×Unit):=
let x0:=bu a0.length;
(bH cq NN (a0,x0,0,a0,a1,[],())).bind λ(x1,x2,x3,x4,x5,x6,x7,_)=>
some (x7,())
def rB:X.Cfg:=⟨E0,[],[],[(lx 4 0 [Uaa 3 9,sP 7 (Xt ca),yaa 8,yaa 9] [(4,Xaa),(9,Uad)] 10)]⟩
def gb:Ctr:=⟨25,17,[.agg Xaa],[],[⟨Uad,[.one],[]⟩],ap2 dn⟩
theorem iO:Lk 1 gb:=ls rB aN
def fA(a0:Int):Option (Bool×Unit):=
(eI a0).bind λ(x0,_)=>
some ((!x0),())
def pQ:X.Cfg:=⟨E0,[iQ],[],[]⟩
def kD:Ctr:=⟨42,18,Zab,[],[⟨uab,[.one],[]⟩],ap1 fA⟩
theorem pG:Lk 2 kD:=ls pQ (aC lC aN)
def bF:T06->Option (T06⊕((Int×Unit)⊕(LI×T04))):=λ(v0,v1,v2,_)=>
bif(decide (v2<v1))then((eD v2).bind λx0=>
(dw v0 x0).bind λx1=>
(fA x1).bind λ(x2,_)=>
bif x2 then(some (.inr (.inl (v2,()))))else
let x3:=w64 (v2+1);
some (.inl (v0,v1,x3,())))else
some (.inr (.inr (v0,v1,v2,false,())))
def dy(a0:List (Int)):Option (Int×Unit):=
let x0:=bu a0.length;
(match bH bF NN (a0,x0,0,())with
|none=>none
|some (.inl (x1,_))=>
some (x1,())
|some (.inr (x1,_))=>
some ((-1),()))
def i7:X.Cfg:=⟨E0,[kD],[],[⟨3,0,(qS [sP 0 RI,(1,.fn 42 []),yaa 7,yaa 8] []),[(.ret,qS [yaa 4] []),(.exit 0,(qS [sP 0 RI,(1,.fn 42 []),yaa 7,yaa 8,zaa 9] []))]⟩]⟩
def eZ:Ctr:=⟨62,19,[shU RI,.fn 42 []],[],[⟨Zab,[.one],[]⟩],ap1 dy⟩
theorem i5:Lk 3 eZ:=ls i7 (aC pG aN)
def cg(a0:List (Int)):Option (Bool×Unit):=
(dy a0).bind λ(x0,_)=>
some ((decide (x0>=0)),())
def ig:X.Cfg:=⟨E0,[eZ],[],[]⟩
def d6:Ctr:=⟨41,20,[shU RI,.fn 42 []],[],[⟨uab,[.one],[]⟩],ap1 cg⟩
theorem ib:Lk 4 d6:=ls ig (aC i5 aN)
def ck:T0v->Option (T0v⊕(Int×Int×Int×Int×LI×T08)):=λ(v0,v1,v2,v3,v4,v5,v6,v7,_)=>
let x0:=w64 (v3*8);
bif(decide (x0<v2))then(let x1:LDCe:=[(v1,v3)];
bif(cM 16 v7.length x1.length)then let x2:LDCe:=(List.append v7 x1);
let x3:=w64 (v3+1);
some (.inl (v0,v1,v2,x3,v4,v5,v6,x2,()))else none)else
some (.inr (v0,v1,v2,v3,v4,v5,v6,false,v7,()))
def cB:T0e->Option (T0e⊕(Int×LI×T08)):=λ(v0,v1,v2,v3,v4,_)=>
bif(decide (v3<v2))then((eD v3).bind λx0=>
(dw v1 x0).bind λx1=>
(bH ck NN (v0,v3,x1,0,v1,v2,v3,v4,())).bind λ(x2,x3,x4,x5,x6,x7,x8,x9,ac,_)=>
let ae:=w64 (x8+1);
some (.inl (x2,x6,x7,ae,ac,())))else
some (.inr (v0,v1,v2,v3,false,v4,()))
def cj:T05->Option (T05⊕T08):=λ(v0,v1,v2,_)=>
bif(decide (v1<v0))then(let x0:LDCe:=[((-1),v1)];
bif(cM 16 v2.length x0.length)then let x1:LDCe:=(List.append v2 x0);
let x2:=w64 (v1+1);
some (.inl (v0,x2,x1,()))else none)else
some (.inr (v0,v1,false,v2,()))
def fI(a0:List (Int))(a1:Int):Option (T02):=
let x0:=bu a0.length;
bif(decide (x0>4))then(some ([],3,()))else
bif(decide (a1>4))then(some ([],3,()))else
bif(decide (a1<0))then(some ([],1,()))else
(cg a0).bind λ(x1,_)=>
bif x1 then(some ([],1,()))else
let x2:=bu a0.length;
(bH cB NN (a1,a0,x2,0,[],())).bind λ(x3,x4,x5,x6,x7,x8,_)=>
(bH cj NN (x3,0,x8,())).bind λ(x9,ac,ae,af,_)=>
some (af,0,())
def s6:X.Cfg:=⟨E0,[d6],[],[⟨16,0,qS [yaa 1,Uaa 6 15,yaa 7,yaa 8,yaa 9,sP 24 RI,yaa 25,yaa 26] [(15,yab)],[(.exit 2,qS [yaa 1,Uaa 6 15,yaa 7,yaa 8,yaa 9,sP 24 RI,yaa 25,yaa 26,zaa 34] [(15,yab)])]⟩,(lx 10 1 [yaa 1,Uaa 6 15,sP 24 RI,yaa 25,yaa 26] [(15,yab)] 27),⟨22,2,qS [Uaa 6 15,yaa 44,yaa 45] [(15,yab)],[(.exit 4,qS [Uaa 6 15,yaa 44,yaa 45,zaa 46] [(15,yab)])]⟩]⟩
def jD:Ctr:=⟨26,21,Zaa,[],[⟨Xad,[.one,.one],[]⟩],ap2 fI⟩
theorem mX:Lk 5 jD:=ls s6 (aC ib aN)
def b8(a0:LDCn):Option (LDCn×Unit):=
bif(cM 24 0 a0.length)then let x0:LDCn:=(List.append [] a0);
some (x0,())else none
def kf:X.Cfg:=⟨E0,[],[],[]⟩
def cT:Ctr:=⟨55,22,uL [ca],[],[⟨zad,[.one],[]⟩],ap1 b8⟩
theorem dR:Lk 1 cT:=ls kf aN
def eK(a0:Int)(a1:Int)(a2:Int)(a3:Int)(a4:Int)(a5:Int)(a6:Int)(a7:LDCn):Option (T0u):=
(b8 a7).bind λ(x0,_)=>
some (a0,a1,a2,a3,a4,a5,a6,x0,())
def rD:X.Cfg:=⟨E0,[cT],[],[]⟩
def iR:Ctr:=⟨56,23,[.agg Zac],[],[⟨Uac,[.agg 8],[]⟩],ap8 eK⟩
theorem lD:Lk 2 iR:=ls rD (aC dR aN)
def ew(a0:LDCn)(a1:Int):Option (LDCn×Unit):=
(bif(decide (a1<0))then(some (a0,a1,true,()))else
bif(decide (a1>32))then(some (a0,a1,true,()))else
let x0:=w64 (a1*8);
let x1:=bu a0.length;
some (a0,a1,(decide (x0>=x1)),()):Option (LDCn×T00)).bind λ(x0,x1,x2,_)=>
bif x2 then(some ([],()))else
let x3:=w64 (x1*8);
let x4:=w64 (x3+8);
let x5:=bu x0.length;
let x6:=mmR false x4 x5;
(eD x3).bind λx7=>
(eD x6).bind λx8=>
bif(jg x7 x8 x0.length)then let x9:LDCn:=(xV x0 x7 (Nat.sub x8 x7));
some (x9,())else none
def sY:X.Cfg:=⟨E0,[],[],[⟨2,0,qE,[(.normal,qS [sP 0 ca,yaa 1,zaa 18] [])]⟩]⟩
def jC:Ctr:=⟨60,24,uL [ca,I64],[],[⟨uL [ca],[.one],[]⟩],ap2 ew⟩
theorem mW:Lk 1 jC:=ls sY aN
def fi(a0:List LDCn)(a1:LDTs)(a2:Int)(a3:Int):Option (Int×Int×LDCn×T0u):=
bif(a2==(-1))then((eD a3).bind λx0=>
(dw a1 x0).bind λx1=>
(eK x1.1 x1.2.1 x1.2.2.1 x1.2.2.2.1 x1.2.2.2.2.1 x1.2.2.2.2.2.1 x1.2.2.2.2.2.2.1 x1.2.2.2.2.2.2.2).bind λ(x2,x3,x4)=>
some (a2,a3,[],x2,x3,x4))else
(eD a2).bind λx0=>
(dw a0 x0).bind λx1=>
(ew x1 a3).bind λ(x2,_)=>
(b8 x2).bind λ(x3,_)=>
some (a2,a3,x3,0,0,0,0,0,0,0,[],())
def uz:X.Cfg:=⟨E0,[iR,jC,cT],[],[]⟩
def kW:Ctr:=⟨59,25,[.agg Xaa,.agg yac],[],[⟨uad,[.agg 11],[]⟩],ap4 fi⟩
theorem oB:Lk 3 kW:=ls uz (aC lD (aC mW (aC dR aN)))
def cN:T0D->Option (T0D⊕(Int×Int×Bool×T0C)):=λ(v0,v1,v2,v3,v4,v5,_)=>
bif(decide (v1<v0))then((eD v1).bind λx0=>
(dw v4 x0).bind λx1=>
(dw v4 x0).bind λx2=>
(fi v2 v3 x2.1 x2.2).bind λ(x3,x4,x5,x6,x7,x8,x9,ac,ae,af,ah,_)=>
let ai:List (Int×Int×LDCn×Int×Int×Int×Int×Int×Int×Int×LDCn):=[(x3,(x4,(x5,(x6,(x7,(x8,(x9,(ac,(ae,(af,ah))))))))))];
bif(cM 120 v5.length ai.length)then let aj:List (Int×Int×LDCn×Int×Int×Int×Int×Int×Int×Int×LDCn):=(List.append v5 ai);
let ak:=w64 (v1+1);
some (.inl (v0,ak,v2,v3,v4,aj,()))else none)else
some (.inr (v0,v1,false,v2,v3,v4,v5,()))
def gm(a0:List LDCn)(a1:LDTs):Option ((List (Int×Int×LDCn×Int×Int×Int×Int×Int×Int×Int×LDCn))×Int×Unit):=
(dx a0 a1).bind λ(x0,_)=>
bif(!x0)then(some ([],1,()))else
(dn a0 a1).bind λ(x1,_)=>
let x2:=bu a1.length;
(fI x1 x2).bind λ(x3,x4,_)=>
let x5:=bu x3.length;
(bH cN NN (x5,0,a0,a1,x3,[],())).bind λ(x6,x7,x8,x9,ac,ae,af,_)=>
some (af,0,())
def uB:X.Cfg:=⟨E0,[fD,gb,jD,kW],[(31,(.pair I64 (.pair I64 (.pair (Xs KCn) pm)))),(32,(.pair I64 (.pair I64 (.pair (Xs KCn) pm))))],[(lx 8 0 [uaa 1,Uaa 6 15,Uaa 21 11,yaa 22,yaa 23] [(4,Xaa),(11,yab),(15,[shU (Xs (.pair I64 (.pair I64 (.pair ca dq))))])] 24)]⟩
def pd:Ctr:=⟨50,26,[.agg Xaa],[],[⟨[shU (Xs (.pair I64 (.pair I64 (.pair ca dq)))),shU I64],[.one,.one],[]⟩],ap2 gm⟩
theorem uv:Lk 6 pd:=ls uB (aC ic (aC iO (aC mX (aC oB aN))))
def ci:LI×T06->Option ((LI×T06)⊕((Bool×Unit)⊕(LI×LI×T04))):=λ(v0,v1,v2,v3,_)=>
bif(decide (v3<v2))then((eD v3).bind λx0=>
(dw v0 x0).bind λx1=>
(eD v3).bind λx2=>
(dw v1 x2).bind λx3=>
bif(x1 != x3)then(some (.inr (.inl (false,()))))else
let x4:=w64 (v3+1);
some (.inl (v0,v1,v2,x4,())))else
some (.inr (.inr (v0,v1,v2,v3,false,())))
def dD(a0:List (Int))(a1:List (Int)):Option (Bool×Unit):=
let x0:=bu a0.length;
let x1:=bu a1.length;
bif(x0 != x1)then(some (false,()))else
let x2:=bu a0.length;
(match bH ci NN (a0,a1,x2,0,())with
|none=>none
|some (.inl (x3,_))=>
some (x3,())
|some (.inr (x3,_))=>
some (true,()))
def lH:X.Cfg:=⟨E0,[],[],[⟨6,0,qS [sP 0 RI,sP 1 RI,yaa 12,yaa 13] [],[(.ret,qS [zaa 4] []),(.exit 0,qS [sP 0 RI,sP 1 RI,yaa 12,yaa 13,zaa 14] [])]⟩]⟩
def gV:Ctr:=⟨51,27,uL [RI,RI],[],[⟨uab,[.one],[]⟩],ap2 dD⟩
theorem lB:Lk 1 gV:=ls lH aN
def bY:LDCn×LDCn×T01->Option ((LDCn×LDCn×T01)⊕((Bool×Unit)⊕(LDCn×LDCn×T04))):=λ(v0,v1,v2,v3,_)=>
bif(decide (v3<v2))then((eD v3).bind λx0=>
(dw v0 x0).bind λx1=>
(eD v3).bind λx2=>
(dw v1 x2).bind λx3=>
let x4:Bool:=(!((x1.1==x3.1)&&((x1.2.1==x3.2.1)&&((x1.2.2.1==x3.2.2.1)&&((x1.2.2.2==x3.2.2.2)&&true)))));
bif x4 then(some (.inr (.inl (false,()))))else
let x5:=w64 (v3+1);
some (.inl (v0,v1,v2,x5,())))else
some (.inr (.inr (v0,v1,v2,v3,false,())))
def cr(a0:LDCn)(a1:LDCn):Option (Bool×Unit):=
let x0:=bu a0.length;
let x1:=bu a1.length;
bif(x0 != x1)then(some (false,()))else
let x2:=bu a0.length;
(match bH bY NN (a0,a1,x2,0,())with
|none=>none
|some (.inl (x3,_))=>
some (x3,())
|some (.inr (x3,_))=>
some (true,()))
def ke:X.Cfg:=⟨E0,[],[],[⟨6,0,qS [sP 0 ca,sP 1 ca,yaa 12,yaa 13] [],[(.ret,qS [zaa 4] []),(.exit 0,qS [sP 0 ca,sP 1 ca,yaa 12,yaa 13,zaa 14] [])]⟩]⟩
def fT:Ctr:=⟨84,28,uL [ca,ca],[],[⟨uab,[.one],[]⟩],ap2 cr⟩
theorem j8:Lk 1 fT:=ls ke aN
def fZ(a0:Int)(a1:Int)(a2:LDCn)(a3:Int)(a4:Int)(a5:Int)(a6:Int)(a7:Int)(a8:Int)(a9:Int)(a10:LDCn)(a11:Int)(a12:Int)(a13:LDCn)(a14:Int)(a15:Int)(a16:Int)(a17:Int)(a18:Int)(a19:Int)(a20:Int)(a21:LDCn):Option (Bool×Unit):=
bif((a0==a11)&&((a1==a12)&&true))then((cr a2 a13).bind λ(x0,_)=>
bif x0 then(bif(a3==a14)then(bif(a4==a15)then(bif(a5==a16)then(bif(a6==a17)then(bif(a7==a18)then(bif(a8==a19)then(bif(a9==a20)then((cr a10 a21).bind λ(x1,_)=>
some (x1,()))else
some (false,()))else
some (false,()))else
some (false,()))else
some (false,()))else
some (false,()))else
some (false,()))else
some (false,()))else
some (false,()))else
some (false,())
def rC:X.Cfg:=⟨E0,[fT],[],[]⟩
def lZ:Ctr:=⟨52,29,[.agg uad,.agg uad],[],[⟨uab,[.one],[]⟩],ap22 fZ⟩
theorem rl:Lk 2 lZ:=ls rC (aC j8 aN)
def b6:T0N->Option (T0N⊕(Int×Int×Bool×T0M)):=λ(v0,v1,v2,v3,v4,_)=>
bif(decide (v1<v0))then(((eD v1).bind λx0=>
(dw v2 x0).bind λx1=>
(dw v2 x0).bind λx2=>
(eD v1).bind λx3=>
(dw v3 x3).bind λx4=>
(dw v3 x3).bind λx5=>
(fZ x2.1 x2.2.1 x2.2.2.1 x2.2.2.2.1 x2.2.2.2.2.1 x2.2.2.2.2.2.1 x2.2.2.2.2.2.2.1 x2.2.2.2.2.2.2.2.1 x2.2.2.2.2.2.2.2.2.1 x2.2.2.2.2.2.2.2.2.2.1 x2.2.2.2.2.2.2.2.2.2.2 x5.1 x5.2.1 x5.2.2.1 x5.2.2.2.1 x5.2.2.2.2.1 x5.2.2.2.2.2.1 x5.2.2.2.2.2.2.1 x5.2.2.2.2.2.2.2.1 x5.2.2.2.2.2.2.2.2.1 x5.2.2.2.2.2.2.2.2.2.1 x5.2.2.2.2.2.2.2.2.2.2).bind λ(x6,_)=>
bif(!x6)then((eD v1).bind λx7=>
(dw v2 x7).bind λx8=>
(dw v2 x7).bind λx9=>
let ac:LDCe:=[(x9.1,x9.2.1)];
bif(cM 16 v4.length ac.length)then let ae:LDCe:=(List.append v4 ac);
some (v0,v1,v2,v3,ae,())else none)else
some (v0,v1,v2,v3,v4,()):Option (T0N)).bind λ(x0,x1,x2,x3,x4,_)=>
let x5:=w64 (x1+1);
some (.inl (x0,x5,x2,x3,x4,())))else
some (.inr (v0,v1,false,v2,v3,v4,()))
def eJ(a0:List LDCn)(a1:LDTs)(a2:List LDCn)(a3:LDTs):Option (T02):=
(gm a0 a1).bind λ(x0,x1,_)=>
(gm a2 a3).bind λ(x2,x3,_)=>
(bif(x1 != 0)then(some (true,x0,x2,()))else
bif(x3 != 0)then(some (true,x0,x2,()))else
(dn a0 a1).bind λ(x4,_)=>
(dn a2 a3).bind λ(x5,_)=>
(dD x4 x5).bind λ(x6,_)=>
bif(!x6)then(some (true,x0,x2,()))else
let x7:=bu a1.length;
let x8:=bu a3.length;
some ((x7 != x8),x0,x2,()):Option (Bool×(List (Int×Int×LDCn×Int×Int×Int×Int×Int×Int×Int×LDCn))×(List (Int×Int×LDCn×Int×Int×Int×Int×Int×Int×Int×LDCn))×Unit)).bind λ(x4,x5,x6,_)=>
bif x4 then(some ([],1,()))else
let x7:=bu x5.length;
(bH b6 NN (x7,0,x5,x6,[],())).bind λ(x8,x9,ac,ae,af,ah,_)=>
some (ah,0,())
def oG:X.Cfg:=⟨E0,[pd,gb,gV,lZ],[],[⟨4,0,qE,[(.normal,(qS [Uaa 6 15,Uaa 8 19,zaa 44] [(15,[shU (Xs (.pair I64 (.pair I64 (.pair ca dq))))]),(19,[shU (Xs (.pair I64 (.pair I64 (.pair ca dq))))])]))]⟩,⟨12,1,qE,[(.normal,(qS [Uaa 6 15,Uaa 8 19,Uaa 10 23,yaa 46,yaa 47] [(15,[shU (Xs (.pair I64 (.pair I64 (.pair ca dq))))]),(19,[shU (Xs (.pair I64 (.pair I64 (.pair ca dq))))]),(23,yab)]))]⟩,(lx 9 2 [Uaa 6 15,Uaa 8 19,Uaa 10 23,yaa 46,yaa 47] [(15,[shU (Xs (.pair I64 (.pair I64 (.pair ca dq))))]),(19,[shU (Xs (.pair I64 (.pair I64 (.pair ca dq))))]),(23,yab)] 48)]⟩
def jE:Ctr:=⟨32,30,[.agg Xaa,.agg Xaa],[],[⟨Xad,[.one,.one],[]⟩],ap4 eJ⟩
theorem oC:Lk 7 jE:=ls oG (aC uv (aC iO (aC lB (aC rl aN))))
def cG(a0:List LDCn):Option (LLCn×Unit):=
bif(cM 24 0 a0.length)then let x0:List LDCn:=(List.append [] a0);
some (x0,())else none
def i8:X.Cfg:=⟨E0,[],[(5,(Xs KCn)),(7,(Xs KCn))],[]⟩
def fa:Ctr:=⟨53,31,uL [(Xt ca)],[],[⟨uL [(Xs ca)],[.one],[]⟩],ap1 cG⟩
theorem i6:Lk 1 fa:=ls i8 aN
def dm(a0:LDTs):Option (LDTs×Unit):=
bif(cM 80 0 a0.length)then let x0:LDTs:=(List.append [] a0);
some (x0,())else none
def kS:X.Cfg:=⟨E0,[],[(5,pm),(7,pm)],[]⟩
def gD:Ctr:=⟨54,32,uL [(Xt dq)],[],[⟨uL [(Xs dq)],[.one],[]⟩],ap1 dm⟩
theorem kQ:Lk 1 gD:=ls kS aN
def c8:T0h->Option (T0h⊕T0m):=λ(v0,v1,v2,v3)=>
bif(decide (v1<v0))then((eD v1).bind λx0=>
(dw v2 x0).bind λx1=>
(dw v2 x0).bind λx2=>
(b8 x2).bind λ(x3,_)=>
(eD v1).bind λx4=>
(dw v2 x4).bind λx5=>
(dw v2 x4).bind λx6=>
let x7:=List.modify v2 x4 λe=>x3;
let x8:=w64 (v1+1);
some (.inl (v0,x8,x7,v3)))else
some (.inr (v0,v1,false,v2,v3))
def cZ:T0h->Option (T0h⊕T0m):=λ(v0,v1,v2,v3,v4)=>
bif(decide (v1<v0))then((eD v1).bind λx0=>
(dw v3 x0).bind λx1=>
(dw v3 x0).bind λx2=>
(eK x2.1 x2.2.1 x2.2.2.1 x2.2.2.2.1 x2.2.2.2.2.1 x2.2.2.2.2.2.1 x2.2.2.2.2.2.2.1 x2.2.2.2.2.2.2.2).bind λ(x3,x4,x5,x6,x7,x8,x9,ac,_)=>
(eD v1).bind λae=>
(dw v3 ae).bind λaf=>
(dw v3 ae).bind λah=>
let ai:=(List.modify v3 ae λe=>(x3,(x4,(x5,(x6,(x7,(x8,(x9,ac))))))));
let aj:=w64 (v1+1);
some (.inl (v0,aj,v2,ai,v4)))else
some (.inr (v0,v1,false,v2,v3,v4))
def dZ(a0:List LDCn)(a1:LDTs):Option (T03):=
(cG a0).bind λ(x0,_)=>
(dm a1).bind λ(x1,_)=>
let x2:=bu x0.length;
(bH c8 NN (x2,0,x0,x1,(),(),())).bind λ(x3,x4,x5,x6,x7,x8)=>
let ac:=bu x7.length;
(bH cZ NN (ac,0,x6,x7,x8)).bind λ(ae,af,ah,ai,aj,_)=>
some (ai,aj,())
def pR:X.Cfg:=⟨E0,[fa,gD,cT,iR],[],[(lx 4 0 [uaa 1,uaa 2,Uaa 16 4,yaa 17,yaa 18] [(4,yad),(6,zab)] 19),⟨11,1,(qS [uaa 1,uaa 2,(31,.pk ⟨4,1,[]⟩ [0,0]),yaa 32,yaa 33] [(4,yad),(6,zab)]),[(.exit 2,(qS [uaa 1,uaa 2,(31,.pk ⟨4,1,[]⟩ [0,0]),yaa 32,yaa 33,zaa 34] [(4,yad),(6,zab)]))]⟩]⟩
def ii:Ctr:=⟨33,33,[.agg Xaa],[],[⟨yad,[.agg 2],[]⟩],ap2 dZ⟩
theorem kt:Lk 3 ii:=ls pR (aC i6 (aC kQ (aC dR (aC lD aN))))
def mh:T0A->Option (T0A⊕(Int×Int×Int×Int×Bool×T0z)):=λ(v0,v1,v2,v3,v4,v5,v6,v7,v8,v9,v10,v11,v12,_)=>
bif(decide (v3<v2))then((eD v3).bind λx0=>
(dw v12 x0).bind λx1=>
(dw v12 x0).bind λx2=>
(eD x2).bind λx3=>
(eD x2).bind λx4=>
bif(zG x3 x4 4)then let x5:LDCn:=(List.replicate x3 (0,(0,(0,0))));
bif(cM 24 v10.length (List.length [x5]))then let x6:List LDCn:=(List.append v10 [x5]);
let x7:=w64 (v3+1);
some (.inl (v0,v1,v2,x7,v4,v5,v6,v7,v8,v9,x6,v11,v12,()))else none else none)else
some (.inr (v0,v1,v2,v3,false,v4,v5,v6,v7,v8,v9,v10,v11,v12,()))
def fv(a0:List LDCn)(a1:LDTs)(a2:List LDCn)(a3:LDTs)(a4:Int)(a5:Int):Option (T0n⊕T0n):=
(g8 a2 a3).bind λ(x0,_)=>
bif(!x0)then(some (.inl (0,0,[],[],[],0,1,())))else
(eJ a0 a1 a2 a3).bind λ(x1,x2,_)=>
bif(x2==0)then((dZ a0 a1).bind λ(x3,x4,_)=>
some (.inl (a4,a5,x3,x4,x1,0,0,())))else
let x3:=bu a3.length;
(eD x3).bind λx4=>
(eD x3).bind λx5=>
bif(zG x4 x5 8)then let x6:LDTs:=(List.replicate x4 (0,(0,(0,(0,(0,(0,(0,[]))))))));
(dn a2 a3).bind λ(x7,_)=>
let x8:=bu x7.length;
(bH mh NN (a4,a5,x8,0,0,0,(),(),(),0,[],x6,x7,())).bind λ(x9,ac,ae,af,ah,ai,aj,ak,am,an,ap,aq,au,av,_)=>
let aw:=bu au.length;
(fI av aw).bind λ(ax,ay,_)=>
some (.inr (x9,ac,aq,au,ax,0,0,()))else none
def pL:X.Cfg:=⟨E0,[kC,jE,ii,gb,jD],[(39,pm),(53,(Xs KCn)),(54,(Xs KCn))],[(lx 12 0 [yaa 2,yaa 3,uaa 8,uaa 12,Uaa 13 29,Uaa 43 29,yaa 44,yaa 45] [(18,zac),(26,Uab),(29,Uad)] 46)]⟩
def kA:Ctr:=⟨14,34,[.agg Xaa,.agg Xaa,shU I64,shU I64],[],[⟨uL [I64,I64,(Xs ca),(Xs dq),(Xs (.pair I64 I64)),I64,I64],[.agg 6,.one],[]⟩,⟨uL [I64,I64,(Xs (Xs KCn)),(Xs pm),(Xs (.pair I64 I64)),I64,I64],[.agg 6,.one],[]⟩],ap6 fv⟩
theorem pD:Lk 8 kA:=ls pL (aC pF (aC oC (aC kt (aC iO (aC mX aN)))))
def bU(a0:LDCe):Option (LDCe×Unit):=
bif(cM 16 0 a0.length)then let x0:LDCe:=(List.append [] a0);
some (x0,())else none
def jt:X.Cfg:=⟨E0,[],[],[]⟩
def dL:Ctr:=⟨57,35,uL [(Xt (.pair I64 I64))],[],[⟨yab,[.one],[]⟩],ap1 bU⟩
theorem fK:Lk 1 dL:=ls jt aN
def jf(a0:Int)(a1:Int)(a2:List LDCn)(a3:LDTs)(a4:LDCe)(a5:Int):Option (T0g):=
(dZ a2 a3).bind λ(x0,x1,_)=>
(bU a4).bind λ(x2,_)=>
some (a0,a1,x0,x1,x2,a5,())
def s8:X.Cfg:=⟨E0,[ii,dL],[],[]⟩
def ni:Ctr:=⟨34,36,[.agg Xab],[],[⟨uL [I64,I64,(Xs ca),(Xs dq),(Xs (.pair I64 I64)),I64],[.agg 6],[]⟩],ap6 jf⟩
theorem sN:Lk 4 ni:=ls s8 (aC kt (aC fK aN))
def gL(a0:LDCe)(a1:Int):Option (LDCe×LDCe×Unit):=
let x0:=bu a0.length;
let x1:=mmR false a1 x0;
let x2:=mmR true 0 x1;
(eD x2).bind λx3=>
bif(jg 0 x3 a0.length)then let x4:LDCe:=(xV a0 0 (Nat.sub x3 0));
(bU x4).bind λ(x5,_)=>
(eD x2).bind λx6=>
bif(jg x6 a0.length a0.length)then let x7:LDCe:=(xV a0 x6 (Nat.sub a0.length x6));
(bU x7).bind λ(x8,_)=>
some (x5,x8,())else none else none
def s7:X.Cfg:=⟨E0,[dL],[],[]⟩
def nh:Ctr:=⟨35,37,uL [(Xt (.pair I64 I64)),I64],[],[⟨uL [(Xs (.pair I64 I64)),(Xs (.pair I64 I64))],[.one,.one],[]⟩],ap2 gL⟩
theorem sM:Lk 2 nh:=ls s7 (aC fK aN)
def fY(a0:List LDCn)(a1:LDTs)(a2:Int)(a3:Int):Option (Bool×Unit):=
bif(a2==(-1))then(bif(decide (a3>=0))then(let x0:Int:=(bu a1.length);
some ((decide (a3<x0)),()))else
some (false,()))else
bif(decide (a2>=0))then(let x0:Int:=(bu a0.length);
bif(decide (a2<x0))then((eD a2).bind λx1=>
(dw a0 x1).bind λx2=>
(ew x2 a3).bind λ(x3,_)=>
let x4:=bu x3.length;
some ((decide (x4>0)),()))else
some (false,()))else
some (false,())
def rz:X.Cfg:=⟨E0,[jC],[],[]⟩
def lY:Ctr:=⟨85,38,[.agg Xaa,.agg yac],[],[⟨uab,[.one],[]⟩],ap4 fY⟩
theorem rk:Lk 2 lY:=ls rz (aC mW aN)
def fH(a0:List LDCn)(a1:LDTs)(a2:Int)(a3:Int):Option (Int×Unit):=
(dx a0 a1).bind λ(x0,_)=>
bif(!x0)then(some (1,()))else
(fY a0 a1 a2 a3).bind λ(x1,_)=>
bif(!x1)then(some (30,()))else
some (0,())
def sZ:X.Cfg:=⟨E0,[fD,lY],[],[]⟩
def ng:Ctr:=⟨58,39,[.agg Xaa,.agg yac],[],[⟨Zab,[.one],[]⟩],ap4 fH⟩
theorem sL:Lk 6 ng:=ls sZ (aC ic (aC rk aN))
def iJ(a0:List LDCn)(a1:LDTs)(a2:Int)(a3:Int):Option (Int×Int×LDCn×Int×Int×Int×Int×Int×Int×Int×LDCn×Int×Unit):=
(fH a0 a1 a2 a3).bind λ(x0,_)=>
bif(x0 != 0)then(some (0,0,[],0,0,0,0,0,0,0,[],x0,()))else
(fi a0 a1 a2 a3).bind λ(x1,x2,x3,x4,x5,x6,x7,x8,x9,ac,ae,_)=>
some (x1,x2,x3,x4,x5,x6,x7,x8,x9,ac,ae,0,())
def uA:X.Cfg:=⟨E0,[ng,kW],[],[]⟩
def pb:Ctr:=⟨36,40,[.agg Xaa,.agg yac],[],[⟨uL [I64,I64,ca,I64,I64,I64,I64,I64,I64,CW,ca,I64],[.agg 11,.one],[]⟩],ap4 iJ⟩
theorem uu:Lk 7 pb:=ls uA (aC sL (aC oB aN))
def pa:Ctr:=⟨37,41,[.agg Xaa,.agg uad],[],[⟨uL [(Xt ca),(Xt dq),I64],[.agg 2,.one],[]⟩],ap13 bO⟩
theorem ut:Lvl E0 TT libBj 1 pa:=(zN (CE rfl) py).mono (by decide)
def du:T0K->Option (T0K⊕(T0L⊕T0L)):=λ(v0,v1,v2,v3,v4,v5,v6,v7,v8,v9,v10,v11,v12,v13,v14,v15,v16,v17,v18,v19,v20,_)=>
bif(decide (v2<v1))then((eD v2).bind λx0=>
(dw v17 x0).bind λx1=>
(dw v17 x0).bind λx2=>
(iJ v3 v4 x2.1 x2.2).bind λ(x3,x4,x5,x6,x7,x8,x9,ac,ae,af,ah,ai,_)=>
(bif(ai==0)then((bO v19 v20 x3 x4 x5 x6 x7 x8 x9 ac ae af ah).bind λ(aj,ak,am,_)=>
some (am,v1,v2,v3,v4,v5,v6,v7,v8,v9,v10,v11,v12,v13,v14,v15,v16,v17,v18,aj,ak,()))else
some (ai,v1,v2,v3,v4,v5,v6,v7,v8,v9,v10,v11,v12,v13,v14,v15,v16,v17,v18,v19,v20,()):Option (T0K)).bind λ(aj,ak,am,an)=>
bif(aj != 0)then(some (.inr (.inl (aj,ak,am,true,an))))else
let aK:=w64 (am+1);
some (.inl (aj,ak,aK,an)))else
some (.inr (.inr (v0,v1,v2,false,v3,v4,v5,v6,v7,v8,v9,v10,v11,v12,v13,v14,v15,v16,v17,v18,v19,v20,())))
def cJ(a0:Int)(a1:Int)(a2:List LDCn)(a3:LDTs)(a4:LDCe)(a5:Int)(a6:List LDCn)(a7:LDTs)(a8:Int):Option (T0n):=
(jf a0 a1 a2 a3 a4 a5).bind λ(x0,x1,x2,x3,x4,x5,_)=>
bif(decide (a8<0))then(some (x0,x1,x2,x3,x4,x5,6,()))else
(gL a4 a8).bind λ(x6,x7,_)=>
let x8:=bu x6.length;
(match bH du NN (0,x8,0,a6,a7,0,0,(),(),(),0,x0,x1,x2,x3,x4,x5,x6,x7,x2,x3,())with
|none=>none
|some (.inl (x9,ac,ae,af,ah,ai,aj,ak,am,an,ap,aq,au,av,aw,ax,ay,az,aA,aB,aD,aE,_))=>
bif(x9 != 0)then(some (au,av,aw,ax,ay,az,x9,()))else
let aF:=bu aA.length;
let aG:=w64 (az+aF);
some (au,av,aD,aE,aB,aG,0,())
|some (.inr (x9,ac,ae,af,ah,ai,aj,ak,am,an,ap,aq,au,av,aw,ax,ay,az,aA,aB,aD,aE,_))=>
bif(x9 != 0)then(some (au,av,aw,ax,ay,az,x9,()))else
let aF:=bu aA.length;
let aG:=w64 (az+aF);
some (au,av,aD,aE,aB,aG,0,()))
def ry:X.Cfg:=⟨E0,[ni,nh,pb,pa],[],[⟨16,0,qE,[(.normal,qS [uaa 4,uaa 6,uaa 8,Uaa 9 21,Uaa 10 23,uaa 11,yaa 16,Uaa 31 21,yaa 32,yaa 33] [(10,Xaa),(14,zac),(18,uac),(21,yab),(23,yab),(24,Xaa)])]⟩,⟨10,1,qS [uaa 4,uaa 6,uaa 8,Uaa 9 21,Uaa 10 23,uaa 11,yaa 12,Uaa 31 21,yaa 32,yaa 33] [(10,Xaa),(14,zac),(18,uac),(21,yab),(23,yab),(24,Xaa)],[(.exit 0,qS [uaa 4,uaa 6,uaa 8,Uaa 9 21,Uaa 10 23,uaa 11,yaa 12,Uaa 31 21,yaa 32,yaa 33,zaa 53] [(10,Xaa),(14,zac),(18,uac),(21,yab),(23,yab),(24,Xaa)]),(.exit 0,qS [uaa 4,uaa 6,uaa 8,Uaa 9 21,Uaa 10 23,uaa 11,yaa 12,Uaa 31 21,yaa 32,yaa 33,zaa 34] [(10,Xaa),(14,zac),(18,uac),(21,yab),(23,yab),(24,Xaa)])]⟩]⟩
def lX:Ctr:=⟨15,42,[.agg Xab,.agg Xaa,shU I64],[],[⟨uL [I64,I64,(Xt ca),(Xt dq),(Xs (.pair I64 I64)),I64,I64],[.agg 6,.one],[]⟩],ap9 cJ⟩
theorem rj:Lk 8 lX:=ls ry (aC sN (aC sM (aC uu (aC ut aN))))
def fh(a0:Int)(a1:Int)(a2:List LDCn)(a3:LDTs)(a4:LDCe)(a5:Int):Option (Bool×Unit):=
let x0:=bu a4.length;
some ((x0==0),())
def mE:X.Cfg:=⟨E0,[],[],[]⟩
def iE:Ctr:=⟨16,43,[.agg Xab],[],[⟨uab,[.one],[]⟩],ap6 fh⟩
theorem mC:Lk 1 iE:=ls mE aN
def b4:LDCe×T02->Option ((LDCe×T02)⊕((Bool×Unit)⊕(LDCe×LDCe×T00))):=λ(v0,v1,v2,_)=>
let x0:=bu v0.length;
bif(decide (v2<x0))then((eD v2).bind λx1=>
(dw v0 x1).bind λx2=>
(eD v2).bind λx3=>
(dw v1 x3).bind λx4=>
bif(!((x2.1==x4.1)&&((x2.2==x4.2)&&true)))then(some (.inr (.inl (false,()))))else
let x5:=w64 (v2+1);
some (.inl (v0,v1,x5,())))else
some (.inr (.inr (v0,v1,v2,false,())))
def gJ(a0:LDCe)(a1:LDCe):Option (Bool×Unit):=
let x0:=bu a0.length;
let x1:=bu a1.length;
bif(x0 != x1)then(some (false,()))else
(match bH b4 NN (a0,a1,0,())with
|none=>none
|some (.inl (x2,_))=>
some (x2,())
|some (.inr (x2,_))=>
some (true,()))
def sV:X.Cfg:=⟨E0,[],[],[⟨6,0,qS [sP 0 (Xt (.pair I64 I64)),sP 1 (Xt (.pair I64 I64)),yaa 5] [],[(.ret,qS [zaa 4] []),(.exit 0,qS [sP 0 (Xt (.pair I64 I64)),sP 1 (Xt (.pair I64 I64)),yaa 5,zaa 14] [])]⟩]⟩
def nb:Ctr:=⟨38,44,uL [(Xt (.pair I64 I64)),(Xt (.pair I64 I64))],[],[⟨uab,[.one],[]⟩],ap2 gJ⟩
theorem sJ:Lk 1 nb:=ls sV aN
def ct:LDCn×LDCn×Int×Unit->Option ((LDCn×LDCn×Int×Unit)⊕((Bool×Unit)⊕(LDCn×LDCn×T00))):=λ(v0,v1,v2,_)=>
let x0:=bu v0.length;
bif(decide (v2<x0))then((eD v2).bind λx1=>
(dw v0 x1).bind λx2=>
(eD v2).bind λx3=>
(dw v1 x3).bind λx4=>
let x5:Bool:=(!((x2.1==x4.1)&&((x2.2.1==x4.2.1)&&((x2.2.2.1==x4.2.2.1)&&((x2.2.2.2==x4.2.2.2)&&true)))));
bif x5 then(some (.inr (.inl (false,()))))else
let x6:=w64 (v2+1);
some (.inl (v0,v1,x6,())))else
some (.inr (.inr (v0,v1,v2,false,())))
def cY(a0:LDCn)(a1:LDCn):Option (Bool×Unit):=
let x0:=bu a0.length;
let x1:=bu a1.length;
bif(x0 != x1)then(some (false,()))else
(match bH ct NN (a0,a1,0,())with
|none=>none
|some (.inl (x2,_))=>
some (x2,())
|some (.inr (x2,_))=>
some (true,()))
def mF:X.Cfg:=⟨E0,[],[],[⟨6,0,qS [sP 0 ca,sP 1 ca,yaa 5] [],[(.ret,qS [zaa 4] []),(.exit 0,qS [sP 0 ca,sP 1 ca,yaa 5,zaa 14] [])]⟩]⟩
def fr:Ctr:=⟨22,45,uL [ca,ca],[],[⟨uab,[.one],[]⟩],ap2 cY⟩
theorem iA:Lk 1 fr:=ls mF aN
def ee(a0:Int)(a1:Int)(a2:Int)(a3:Int)(a4:Int)(a5:Int)(a6:Int)(a7:LDCn)(a8:Int)(a9:Int)(a10:Int)(a11:Int)(a12:Int)(a13:Int)(a14:Int)(a15:LDCn):Option (Bool×Unit):=
bif(a0==a8)then(bif(a1==a9)then(bif(a2==a10)then(bif(a3==a11)then(bif(a4==a12)then(bif(a5==a13)then(bif(a6==a14)then((cY a7 a15).bind λ(x0,_)=>
some (x0,()))else
some (false,()))else
some (false,()))else
some (false,()))else
some (false,()))else
some (false,()))else
some (false,()))else
some (false,())
def nB:X.Cfg:=⟨E0,[fr],[],[]⟩
def i3:Ctr:=⟨23,46,[.agg Zac,.agg Zac],[],[⟨uab,[.one],[]⟩],ap16 ee⟩
theorem ny:Lk 2 i3:=ls nB (aC iA aN)
def dJ:T0f->Option (T0f⊕((Bool×Unit)⊕(Int×Bool×T0a))):=λ(v0,v1,v2,v3,v4,_)=>
let x0:=bu v1.length;
bif(decide (v0<x0))then((eD v0).bind λx1=>
(dw v1 x1).bind λx2=>
(eD v0).bind λx3=>
(dw v3 x3).bind λx4=>
(cY x2 x4).bind λ(x5,_)=>
bif(!x5)then(some (.inr (.inl (false,()))))else
let x6:=w64 (v0+1);
some (.inl (x6,v1,v2,v3,v4,())))else
some (.inr (.inr (v0,false,v1,v2,v3,v4,())))
def dI:T0f->Option (T0f⊕((Bool×Unit)⊕(Int×Bool×T0a))):=λ(v0,v1,v2,v3,v4,_)=>
let x0:=bu v2.length;
bif(decide (v0<x0))then((eD v0).bind λx1=>
(dw v2 x1).bind λx2=>
(eD v0).bind λx3=>
(dw v4 x3).bind λx4=>
(ee x2.1 x2.2.1 x2.2.2.1 x2.2.2.2.1 x2.2.2.2.2.1 x2.2.2.2.2.2.1 x2.2.2.2.2.2.2.1 x2.2.2.2.2.2.2.2 x4.1 x4.2.1 x4.2.2.1 x4.2.2.2.1 x4.2.2.2.2.1 x4.2.2.2.2.2.1 x4.2.2.2.2.2.2.1 x4.2.2.2.2.2.2.2).bind λ(x5,_)=>
bif(!x5)then(some (.inr (.inl (false,()))))else
let x6:=w64 (v0+1);
some (.inl (x6,v1,v2,v3,v4,())))else
some (.inr (.inr (v0,false,v1,v2,v3,v4,())))
def eu(a0:List LDCn)(a1:LDTs)(a2:List LDCn)(a3:LDTs):Option (Bool×Unit):=
let x0:=bu a0.length;
let x1:=bu a2.length;
bif(x0 != x1)then(some (false,()))else
let x2:=bu a1.length;
let x3:=bu a3.length;
bif(x2 != x3)then(some (false,()))else
(match bH dJ NN (0,a0,a1,a2,a3,())with
|none=>none
|some (.inl (x4,_))=>
some (x4,())
|some (.inr (x4,x5,x6))=>
(match bH dI NN (0,x6)with
|none=>none
|some (.inl (ac,_))=>
some (ac,())
|some (.inr (ac,_))=>
some (true,())))
def sW:X.Cfg:=⟨E0,[fr,i3],[],[⟨6,0,qS [uaa 2,uaa 3,yaa 5] [(6,Xaa),(8,Xaa)],[(.ret,qS [zaa 4] []),(.exit 0,qS [uaa 2,uaa 3,yaa 5,zaa 27] [(6,Xaa),(8,Xaa)])]⟩,⟨14,1,qS [uaa 2,uaa 3,yaa 6] [(6,Xaa),(8,Xaa)],[(.ret,qS [zaa 4] []),(.exit 2,qS [uaa 2,uaa 3,yaa 6,zaa 46] [(6,Xaa),(8,Xaa)])]⟩]⟩
def jB:Ctr:=⟨11,47,[.agg Xaa,.agg Xaa],[],[⟨uab,[.one],[]⟩],ap4 eu⟩
theorem mV:Lk 3 jB:=ls sW (aC iA (aC ny aN))
def gI(a0:Int)(a1:Int)(a2:List LDCn)(a3:LDTs)(a4:LDCe)(a5:Int)(a6:Int)(a7:Int)(a8:List LDCn)(a9:LDTs)(a10:LDCe)(a11:Int):Option (Bool×Unit):=
bif(a0==a6)then(bif(a1==a7)then(bif(a5==a11)then((gJ a4 a10).bind λ(x0,_)=>
bif x0 then((eu a2 a3 a8 a9).bind λ(x1,_)=>
some (x1,()))else
some (false,()))else
some (false,()))else
some (false,()))else
some (false,())
def sU:X.Cfg:=⟨E0,[nb,jB],[],[]⟩
def na:Ctr:=⟨17,48,[.agg Xab,.agg Xab],[],[⟨uab,[.one],[]⟩],ap12 gI⟩
theorem sI:Lk 4 na:=ls sU (aC sJ (aC mV aN))
def b5:T0I->Option (T0I⊕T0J):=λ(v0,v1,v2,v3,v4,v5,v6,v7,v8,v9,v10,v11,v12,v13)=>
(match(let x0:Int:=(bu v0.length);
bif(decide (v4<x0))then(some (.inl (v0,v1,v2,v3,v4,true,v5,v6,v7,v8,v9,v10,v11,v12,v13)))else
(fh v7 v8 v9 v10 v11 v12).bind λ(x1,_)=>
bif(!x1)then(some (.inl (v0,v1,v2,v3,v4,true,v5,v6,v7,v8,v9,v10,v11,v12,v13)))else
some (.inr (v0,v1,v2,v3,v4,false,v5,v6,v7,v8,v9,v10,v11,v12,v13)):Option (T0J⊕T0J))with
|none=>none
|some (.inl (x0,x1,x2,x3,x4,x5,x6,x7,x8,x9,ac,ae,af,ah,ai,aj,ak,am,an,ap,_))=>
bif(decide (x4>200))then(none)else
(let aq:=bu x0.length;
bif(decide (x4<aq))then((eD x4).bind λau=>
(dw x0 au).bind λav=>
let aw:=wk .i64 av;
let ax:=Int.tmod aw 4;
some (x0,x1,x2,x3,x4,ax,x6,x7,x8,x9,ac,ae,af,ah,ai,aj,ak,am,an,ap,()))else
some (x0,x1,x2,x3,x4,1,x6,x7,x8,x9,ac,ae,af,ah,ai,aj,ak,am,an,ap,()):Option (LI×Int×T0E)).bind λ(aq,au,av,aw,ax,ay,az,aA,aB,aD,aE,aF,aG,aH,aI)=>
(cJ aB aD aE aF aG aH az aA ay).bind λ(aP,aQ,aR,aS,aT,aU,aV,_)=>
bif(aV != 0)then(none)else
let aW:=bu aT.length;
let aY:=bu aG.length;
let aZ:=w64 (aY-ay);
let ba:=mmR true 0 aZ;
bif(aW != ba)then(none)else
let bc:=w64 (ax+1);
some (.inl (aq,au,av,aw,bc,az,aA,aP,aQ,aR,aS,aT,aU,aI))
|some (.inr (x0,x1,x2,x3,x4,x5,x6,x7,x8,x9,ac,ae,af,ah,ai,aj,ak,am,an,ap,_))=>
some (.inr (x0,x1,x2,x3,x4,x5,x6,x7,x8,x9,ac,ae,af,ah,ai,aj,ak,am,an,ap,())))
def dP(a0:List (Int))(a1:List (Int)):Option (Bool×Unit):=
(nI a0).bind λ(x0,_)=>
bif(!x0)then((dp).bind λ(x1,_)=>
some (x1,()))else
let x1:=bu a1.length;
bif(decide (x1>40))then((dp).bind λ(x2,_)=>
some (x2,()))else
(fX a0 0).bind λ(x2,x3,x4,x5,_)=>
(bv 20 x4 x5).bind λ(x6,x7,x8,_)=>
(gH x2 x3 x6 x7 x8).bind λ(x9,ac,_)=>
(match fv x9 ac x2 x3 2 7 with
|none=>none
|some (.inl (ah,ai,aj,ak,am,an,ap,_))=>
let aq:=bu am.length;
(cJ ah ai aj ak am an x2 x3 20).bind λ(au,av,aw,ax,ay,az,aA,_)=>
(bH b5 NN (a1,ap,aq,aA,0,x2,x3,ah,ai,aj,ak,am,an,au,av,aw,ax,ay,az,())).bind λ(aB,aD,aE,aF,aG,aH,aI,aJ,aK,aL,aM,aO,aP,aQ,aR,aS,aT,aU,aV,aW,_)=>
bif(aD==0)then(bif(aF==0)then((gI aK aL aM aO aP aQ aR aS aT aU aV aW).bind λ(aY,_)=>
bif aY then(bif(aQ==aE)then((eu aM aO aI aJ).bind λ(aZ,_)=>
bif aZ then((dp).bind λ(ba,_)=>
some (ba,()))else
some (false,()))else
some (false,()))else
some (false,()))else
some (false,()))else
some (false,())
|some (.inr (ah,ai,aj,ak,am,an,ap,_))=>
let aq:=bu am.length;
(cJ ah ai aj ak am an x2 x3 20).bind λ(au,av,aw,ax,ay,az,aA,_)=>
(bH b5 NN (a1,ap,aq,aA,0,x2,x3,ah,ai,aj,ak,am,an,au,av,aw,ax,ay,az,())).bind λ(aB,aD,aE,aF,aG,aH,aI,aJ,aK,aL,aM,aO,aP,aQ,aR,aS,aT,aU,aV,aW,_)=>
bif(aD==0)then(bif(aF==0)then((gI aK aL aM aO aP aQ aR aS aT aU aV aW).bind λ(aY,_)=>
bif aY then(bif(aQ==aE)then((eu aM aO aI aJ).bind λ(aZ,_)=>
bif aZ then((dp).bind λ(ba,_)=>
some (ba,()))else
some (false,()))else
some (false,()))else
some (false,()))else
some (false,()))else
some (false,()))
def kg:X.Cfg:=⟨E0,[wl,l6,lW,ft,m9,kA,lX,iE,na,jB],[],[⟨13,0,qE,[(.normal,qS [sP 1 (Xt CB),uaa 6,uaa 8,yaa 9,yaa 10,uaa 11,yaa 12,yaa 13,zaa 58] [(14,Xaa),(18,Xab),(24,uac)]),(.exit 0,qS [sP 1 (Xt CB),uaa 6,uaa 8,yaa 9,yaa 10,uaa 11,yaa 12,yaa 13,zaa 58] [(14,Xaa),(18,Xab),(24,uac)])]⟩,⟨20,1,qE,[(.normal,qS [sP 1 (Xt CB),uaa 6,uaa 8,yaa 9,yaa 10,uaa 11,yaa 12,yaa 13,yaa 14] [(14,Xaa),(18,Xab),(24,uac)])]⟩,(lx 12 2 [sP 1 (Xt CB),uaa 6,uaa 8,yaa 9,yaa 10,uaa 11,yaa 12,yaa 13] [(14,Xaa),(18,Xab),(24,uac)] 58)]⟩
def fU:Ctr:=⟨4,49,uL [RI,(Xt CB)],[],[⟨uab,[.one],[]⟩],ap2 dP⟩
theorem k_law34_RepairSpeeds:Lk 9 fU:=ls kg (aC BL (aC rm (aC ri (aC gw (aC sH (aC pD (aC rj (aC mC (aC sI (aC mV aN))))))))))
end
end Go.Proofs.Ytakfoejcjdcgbaa
namespace Go.Proofs.Ytakfoejcjdcgbaa
set_option maxRecDepth 100000
noncomputable section
end
end Go.Proofs.Ytakfoejcjdcgbaa
namespace Go.Proofs.Ytakfoejcjdcgbaa
open Go.RowKit
theorem FX:(Try.prog.funcs.all λfn=>!(fn.name=="runtime.NumGoroutine"))=true:=by kernel_rfl
theorem xf:gE Try.prog 7:=by
 obtain⟨fn,hf,hb⟩:∃fn,Try.prog.funcs[7]?=some fn/\fn.body.isSome=true:=by
  have hs:(match Try.prog.funcs[7]? with|some fn=>fn.body.isSome|none=>false)=true:=by kernel_rfl
  cases h:Try.prog.funcs[7]? with
  |none=>rw[h]at hs;cases hs
  |some fn=>rw[h]at hs;exact⟨fn,rfl,hs⟩
 obtain⟨c,hc⟩:=Option.isSome_iff_exists.1 hb;refine lN hf ?_ hc;obtain⟨hlt,he⟩:=Array.getElem?_eq_some_iff.1 hf;have:=Array.all_eq_true.1 FX 7 hlt;rw[he]at this;simpa using this
def Er(x:Value)(w:World)(e:Ending)(w':World):Prop:=e=.returned (.pointer (some ⟨w.heap.size,0,none⟩))/\w'=w.alloc (.cells #[x,.int .i64 0] 59)
theorem DQ(x:Value)(hx:x.oneCell'=true)(w:World):
 Calls Try.prog 7 #[x] w (Er x w):=by
 cases x
 all_goals first
  |(go_enter Try.func7,Try.ntmps7
    go_wp2
    go_ret
    exact⟨rfl,rfl⟩)
  |simp[Value.oneCell']at hx
theorem e0_ok:vb Try.prog E0:=by
 intro f n tm h;simp only[E0]at h;split at h
 ·rename_i e;subst e
  injection h with h
  injection h with h1 h2
  subst h1 h2;refine⟨xf,λx hx=>?_,59,λl2 w hl Zu=>?_⟩
  ·simp only[List.mem_cons,List.not_mem_nil,or_false]at hx;rcases hx with hx|hx
   ·injection hx
   ·injection hx with hx;rw[hx];rfl
  ·match l2,hl with
   | [x],_=>exact DQ x (Zu x (by simp[bxV])) w
 ·simp at h
def Ok{α:Type}(o:Option α)(Q:α->Prop):Prop:=∃a,o=some a/\Q a
section
variable {α β:Type}
theorem Ok.ret{a:α}{Q:α->Prop}(h:Q a):Ok (some a) Q:=⟨a,rfl,h⟩
theorem Ok.bind{o:Option α}{f:α->Option β}{P:α->Prop}{Q:β->Prop}(h:Ok o P)(h2:∀a,P a->Ok (f a) Q):Ok (o.bind f) Q:=by
 obtain⟨a,rfl,h1⟩:=h
 simp_all
theorem Ok.mono{o:Option α}{P Q:α->Prop}(h:Ok o P)(h2:∀a,P a->Q a):Ok o Q:=by
 have ⟨a,e,h1⟩:=h;exact⟨a,e,h2 a h1⟩
theorem Ok.cond{c:Bool}{a b:Option α}{Q:α->Prop}(h1:c=true->Ok a Q)(h2:c=false->Ok b Q):Ok (bif c then a else b) Q:=by
 grind
class BP (b:Bool) (P N:outParam Prop):Prop where
 t:b=true->P
 f:b=false->N
theorem Ok.get{l:List α}{i:Nat}{f:α->Option β}{Q:β->Prop}(h:i<l.length)(h2:∀a,l[i]?=some a->Ok (f a) Q):Ok ((dw l i).bind f) Q:=by
 have e:dw l i=some l[i]:=oGE h
 simp_all
theorem Ok.nat{x:Int}{f:Nat->Option β}{Q:β->Prop}(h:0<=x)(h2:∀n:Nat,x=n->Ok (f n) Q):Ok ((eD x).bind f) Q:=by
 obtain⟨n,rfl⟩:∃n:Nat,x=n:=⟨x.toNat,by omega⟩;exact h2 n rfl
theorem Ok.val{v:α}{f:α->Option β}{Q:β->Prop}(h:∀x,x=v->Ok (f x) Q):Ok (f v) Q:=h v rfl
theorem Ex{c:Bool}{a b:Option α}{Q:α->Prop}(hc:c=true)(h1:Ok a Q):Ok (bif c then a else b) Q:=by simp_all
theorem ma{S T:Type}{f:S->Option (S⊕T)}(P:S->Prop)(R:T->Prop)(m:S->Nat){n:Nat}{s:S}(hs:P s)(hm:m s<n)
 (h:∀s,P s->Ok (f s) λr=>match r with|.inl s'=>P s'/\m s'<m s|.inr t=>R t):Ok (bH f n s) R:=by
 induction n generalizing s with
 |zero=>omega
 |succ n ih=>
  have ⟨r,e,hr⟩:=h s hs
  cases r with
  |inl s'=>
   have ⟨t,e2,hq⟩:=ih hr.1 (by omega);exact⟨t,by simp[bH,e];exact e2,hq⟩
  |inr t=>exact⟨t,by simp[bH,e],hr⟩
theorem Ok.loop{S T:Type}{f:S->Option (S⊕T)}{g:T->Option β}{Q:β->Prop}(P:S->Prop)(R:T->Prop)(m:S->Nat){n:Nat}{s:S}(hs:P s)(hm:m s<n)
 (h:∀s,P s->Ok (f s) λr=>match r with|.inl s'=>P s'/\m s'<m s|.inr t=>R t)(hg:∀t,R t->Ok (g t) Q):Ok ((bH f n s).bind g) Q:=(ma P R m hs hm h).bind hg
end
theorem cb{x:Int}(h1:-9223372036854775808<=x)(h2:x<=9223372036854775807):w64 x=x:=wrap_i64 h1 h2
theorem bV(n:Nat):eD (n:Int)=some n:=rfl
theorem vG(n:Nat):bu n=(n:Int):=rfl
abbrev PID:=Int×Int
theorem eS{S T:Type}{f:S->Option (S⊕T)}(st:Nat->S){n N:Nat}{fin:T}(hn:n<N)(h:∀i,i<n->f (st i)=some (.inl (st (i+1))))(he:f (st n)=some (.inr fin)):bH f N (st 0)=some fin:=by
 have ZO:∀k i,i+k=n->k<N->∀M,k<M->bH f M (st i)=some fin:=by
  intro k
  induction k with
  |zero=>
   intro i hi _ M hM;obtain⟨M,rfl⟩:∃m,M=m+1:=⟨M-1,by omega⟩
   have:i=n:=by omega
   subst this;simp[bH,he]
  |succ k ih=>
   intro i hi hk M hM;obtain⟨M,rfl⟩:∃m,M=m+1:=⟨M-1,by omega⟩;simp only[bH,h i (by omega),oBS];exact ih (i+1) (by omega) (by omega) M (by omega)
 exact ZO n 0 (by omega) hn N hn
theorem ov{S T:Type}{f:S->Option (S⊕T)}(st:Nat->S)(p:Nat->Prop){n N:Nat}{bad:Nat->T}{fin:T}(hn:n<N)
 (h:∀i,i<n->(p i/\f (st i)=some (.inl (st (i+1))))\/(¬p i/\f (st i)=some (.inr (bad i))))(he:f (st n)=some (.inr fin)):
 ((∀i,i<n->p i)/\bH f N (st 0)=some fin)\/∃k,k<n/\(∀i,i<k->p i)/\¬p k/\bH f N (st 0)=some (bad k):=by
 have ZO:∀k i,i+k=n->(∀j,j<i->p j)->∀M,k<M->((∀i,i<n->p i)/\bH f M (st i)=some fin)\/∃k,k<n/\(∀i,i<k->p i)/\¬p k/\bH f M (st i)=some (bad k):=by
  intro k
  induction k with
  |zero=>
   intro i hi hp M hM;obtain⟨M,rfl⟩:∃m,M=m+1:=⟨M-1,by omega⟩
   have:i=n:=by omega
   subst this;exact .inl ⟨hp,by simp[bH,he]⟩
  |succ k ih=>
   intro i hi hp M hM;obtain⟨M,rfl⟩:∃m,M=m+1:=⟨M-1,by omega⟩
   rcases h i (by omega)with⟨h1,e⟩|⟨h1,e⟩
   ·simp only[bH,e,oBS]
    exact ih (i+1) (by omega) (λj hj=>by
     by_cases e:j=i
     ·subst e;exact h1
     ·exact hp j (by omega)) M (by omega)
   ·exact .inr ⟨i,by omega,hp,h1,by simp[bH,e]⟩
 exact ZO n 0 (by omega) (λj hj=>by omega) N hn
abbrev Sm{α:Type}(l:List α):Prop:=l.length<=1099511627776
theorem sC{n:Nat}(h:n<=1099511627776):n<NN:=by unfold NN;omega
theorem cy{α:Type}{l:List α}{i:Nat}(h:i<l.length):dw l i=some l[i]:=oGE h
theorem EY(x y:PID):((x.1==y.1)&&((x.2==y.2)&&true))=decide (x=y):=by
 rw[Bool.and_true,Bool.eq_iff_iff];simp[Prod.ext_iff]
theorem lb{α:Type}{l:List α}{i:Nat}(h:i<l.length):l.take i++[l[i]]=l.take (i+1):=(List.take_append_getElem h)
theorem cn{sz n m:Nat}(h1:n<=1099511627776)(h2:m<=1099511627776)(h3:sz<=128)(h4:n+m<=1099511627776):cM sz n m=true:=by
 unfold cM;have:(n+m)*sz<=1099511627776*128:=Nat.mul_le_mul h4 h3;simp only[oBA,oDE];exact⟨h4,by omega⟩
theorem EU{a b:List PID}(ha:Sm a)(hb:Sm b):gJ a b=some (decide (a=b),()):=by
 unfold gJ;simp only[vG];by_cases hl:a.length=b.length
 rotate_left
 ·have:(((a.length:Int) != (b.length:Int)))=true:=by simp;omega
  rw[this,oCT,oDF λe=>hl (by rw[e])]
 have:(((a.length:Int) != (b.length:Int)))=false:=by simp;omega
 rw[this,oCF]
 have step:∀i,i<a.length->(a[i]?=b[i]?/\b4 (a,b,(i:Int),())=some (.inl (a,b,((i+1:Nat):Int),())))\/(¬a[i]?=b[i]?/\b4 (a,b,(i:Int),())=some (.inr (.inl (false,())))):=by
  intro i hi;unfold b4;delta bu
  have ZL:i<b.length:=by omega
  dsimp only;rw[oDT (show(i:Int)<a.length by omega),oCT,bV];simp only[oBS,cy hi,cy ZL,EY];rw[cb (by omega) (by omega)];rw[oGE hi,oGE ZL];by_cases e:a[i]=b[i]
  ·rw[oDT e];exact .inl ⟨by rw[e],rfl⟩
  ·rw[oDF e];exact .inr ⟨λh=>e (by injection h),rfl⟩
 have fin:b4 (a,b,(a.length:Int),())=some (.inr (.inr (a,b,(a.length:Int),false,()))):=by
  unfold b4;delta bu;dsimp only;rw[oDF (show ¬(a.length:Int)<a.length by omega)];rfl
 rcases ov (f:=b4) (λi=>(a,b,(i:Int),())) _ (sC ha) step fin with⟨h1,h2⟩|⟨k,hk,_,h1,h2⟩
 ·simp only[show bH b4 NN (a,b,0,())=_ from h2];rw[oDT (p:=a=b)]
  exact List.ext_getElem? λi=>by
   by_cases hi:i<a.length
   ·exact h1 i hi
   ·rw[oGN (by omega),oGN (by omega)]
 ·simp only[show bH b4 NN (a,b,0,())=_ from h2];rw[oDF λe=>h1 (by rw[e])]
theorem uX{a:List PID}(h:Sm a):bU a=some (a,()):=by
 unfold bU;rw[cn (by omega) h (by omega) (by have:=h;omega),oCT];rfl
def jd(n:Nat)(k:Int):Nat:=(max 0 (min k (n:Int))).toNat
theorem Gq(n:Nat)(k:Int):mmR true 0 (mmR false k (bu n))=(jd n k:Int):=by
 rw[vG];unfold mmR jd;simp only[Bool.false_eq_true,if_false,if_true];by_cases h1:(n:Int)<k
 ·rw[oIP h1,Int.min_eq_right (by omega)];by_cases h2:(0:Int)<n
  ·rw[oIP h2,Int.max_eq_right (by omega),Int.toNat_of_nonneg (by omega)]
  ·rw[oIN h2,Int.max_eq_left (by omega)];rfl
 ·rw[oIN h1,Int.min_eq_left (by omega)];by_cases h2:(0:Int)<k
  ·rw[oIP h2,Int.max_eq_right (by omega),Int.toNat_of_nonneg (by omega)]
  ·rw[oIN h2,Int.max_eq_left (by omega)];rfl
theorem AR(n:Nat)(k:Int):jd n k<=n:=by
 unfold jd;omega
theorem EO{a:List PID}(h:Sm a)(k:Int):gL a k=some (a.take (jd a.length k),a.drop (jd a.length k),()):=by
 unfold gL;dsimp only;have hk:=AR a.length k;have h0:=h;simp only[Gq,bV,oBS]
 have e1:jg 0 (jd a.length k) a.length=true:=by unfold jg;simp[hk]
 have e2:jg (jd a.length k) a.length a.length=true:=by unfold jg;simp[hk]
 have e3:xV a 0 (Nat.sub (jd a.length k) 0)=a.take (jd a.length k):=by unfold xV;rfl
 have e4:xV a (jd a.length k) (Nat.sub a.length (jd a.length k))=a.drop (jd a.length k):=by
  unfold xV;rw[List.take_of_length_le (by rw[List.length_drop];exact Nat.le_refl _)]
 rw[e1,oCT,e3,uX (by unfold Sm;rw[oLT];omega),oBS];dsimp only;rw[e2,oCT,e4,uX (by unfold Sm;rw[List.length_drop];omega)];rfl
theorem u3:dp=some (true,()):=rfl
theorem jo{α S T:Type}[DecidableEq α]{a b:List α}(hl:a.length=b.length)(hs:Sm a){f:S->Option (S⊕T)}(st:Nat->S){bad fin:T}
 (step:∀i (h:i<a.length)(h':i<b.length),f (st i)=bif decide (a[i]=b[i])then some (.inl (st (i+1)))else some (.inr bad))(he:f (st a.length)=some (.inr fin)):
 bH f NN (st 0)=some (bif decide (a=b)then fin else bad):=by
 rcases ov (f:=f) st (λi=>a[i]?=b[i]?) (bad:=λ_=>bad) (sC hs) (λi hi=>by
  rw[step i hi (hl▸hi),oGE hi,oGE (hl▸hi)];by_cases e:a[i]=b[i]'(hl▸hi)
  ·exact .inl ⟨by rw[e],by rw[oDT e];rfl⟩
  ·exact .inr ⟨λh=>e (by injection h),by rw[oDF e];rfl⟩) he with⟨h1,h2⟩|⟨k,hk,_,h1,h2⟩
 ·rw[h2,oDT (p:=a=b)]
  ·rfl
  ·exact List.ext_getElem? λi=>by
    by_cases hi:i<a.length
    ·exact h1 i hi
    ·rw[oGN (by omega),oGN (by omega)]
 ·rw[h2,oDF λe=>h1 (by rw[e])];rfl
theorem qu{α:Type}{a b:List α}(h:a.length=b.length):((a.length:Int) != (b.length:Int))=false:=by simp;omega
theorem oq{α:Type}{a b:List α}(h:¬a.length=b.length):((a.length:Int) != (b.length:Int))=true:=by simp;omega
theorem E5(x y:Int):(x != y)=!decide (x=y):=by
 by_cases h:x=y
 ·subst h;simp
 ·rw[oDF h,bne_iff_ne.2 h];rfl
theorem lR{α:Type}(b:Bool)(x y:α):(bif !b then x else y)=bif b then y else x:=by cases b<;>rfl
theorem CX(x y:DCn):(!((x.1==y.1)&&((x.2.1==y.2.1)&&((x.2.2.1==y.2.2.1)&&((x.2.2.2==y.2.2.2)&&true)))))=!decide (x=y):=by
 congr 1;rw[Bool.and_true,Bool.eq_iff_iff];simp[Prod.ext_iff]
theorem Fl{a b:List Int}(ha:Sm a):dD a b=some (decide (a=b),()):=by
 unfold dD;delta bu;dsimp only;by_cases hl:a.length=b.length
 rotate_left
 ·rw[oq hl,oCT,oDF λe=>hl (by rw[e])]
 rw[qu hl,oCF];have h0:=ha
 have:=jo (f:=ci) hl ha (λi=>(a,b,(a.length:Int),(i:Int),())) (bad:=.inl (false,())) (fin:=.inr (a,b,(a.length:Int),(a.length:Int),false,()))
  (λi h h'=>by
   unfold ci;dsimp only;rw[oDT (show(i:Int)<a.length by omega),oCT,bV];simp only[oBS,cy h,cy h',E5,lR];rw[cb (by omega) (by omega)]
   rfl)
  (by
   unfold ci;dsimp only;rw[oDF (show ¬(a.length:Int)<a.length by omega)]
   rfl)
 rw[show bH ci NN (a,b,(a.length:Int),0,())=_ from this];by_cases e:a=b
 ·rw[oDT e];rfl
 ·rw[oDF e];rfl
theorem vY{a b:List DCn}(ha:Sm a):cr a b=some (decide (a=b),()):=by
 unfold cr;delta bu;dsimp only;by_cases hl:a.length=b.length
 rotate_left
 ·rw[oq hl,oCT,oDF λe=>hl (by rw[e])]
 rw[qu hl,oCF];have h0:=ha
 have:=jo (f:=bY) hl ha (λi=>(a,b,(a.length:Int),(i:Int),())) (bad:=.inl (false,())) (fin:=.inr (a,b,(a.length:Int),(a.length:Int),false,()))
  (λi h h'=>by
   unfold bY;dsimp only;rw[oDT (show(i:Int)<a.length by omega),oCT,bV];simp only[oBS,cy h,cy h',CX,lR];rw[cb (by omega) (by omega)]
   rfl)
  (by
   unfold bY;dsimp only;rw[oDF (show ¬(a.length:Int)<a.length by omega)]
   rfl)
 rw[show bH bY NN (a,b,(a.length:Int),0,())=_ from this];by_cases e:a=b
 ·rw[oDT e];rfl
 ·rw[oDF e];rfl
theorem qm{a b:List DCn}(ha:Sm a):cY a b=some (decide (a=b),()):=by
 unfold cY;delta bu;dsimp only;by_cases hl:a.length=b.length
 rotate_left
 ·rw[oq hl,oCT,oDF λe=>hl (by rw[e])]
 rw[qu hl,oCF];have h0:=ha
 have:=jo (f:=ct) hl ha (λi=>(a,b,(i:Int),())) (bad:=.inl (false,())) (fin:=.inr (a,b,(a.length:Int),false,()))
  (λi h h'=>by
   unfold ct;delta bu;dsimp only;rw[oDT (show(i:Int)<a.length by omega),oCT,bV];simp only[oBS,cy h,cy h',CX,lR];rw[cb (by omega) (by omega)]
   rfl)
  (by
   unfold ct;delta bu;dsimp only;rw[oDF (show ¬(a.length:Int)<a.length by omega)]
   rfl)
 rw[show bH ct NN (a,b,0,())=_ from this];by_cases e:a=b
 ·rw[oDT e];rfl
 ·rw[oDF e];rfl
abbrev PG:=Int×Int×List DCn×DTs
instance Gv:DecidableEq DCn:=inferInstance
instance GB:DecidableEq (Int×Int×Int×List DCn):=inferInstance
instance Gt:DecidableEq DTs:=inferInstanceAs (DecidableEq (Int×Int×Int×Int×(Int×Int×Int×List DCn)))
instance Gu:DecidableEq PG:=inferInstanceAs (DecidableEq (Int×Int×List DCn×DTs))
theorem tD{x y:Int}{p:Prop}[Decidable p]:(bif(x==y)then(some (decide p,()))else some (false,()):Option (Bool×Unit))=some (decide (x=y/\p),()):=by
 by_cases h:x=y
 ·subst h;simp
 ·rw[oBF h,oDF (p:=x=y/\p) λe=>h e.1];rfl
theorem xJ{p q:Prop}[Decidable p][Decidable q]:((some (decide p,())).bind λ(x0,_)=>bif x0 then some (decide q,())else some (false,()):Option (Bool×Unit))=some (decide (p/\q),()):=by
 by_cases h:p<;>by_cases h':q<;>simp[h,h']
theorem xI{x y z w:Int}{p:Prop}[Decidable p]:(bif((x==y)&&((z==w)&&true))then(some (decide p,()))else some (false,()):Option (Bool×Unit))=some (decide (x=y/\z=w/\p),()):=by
 by_cases h:x=y
 ·subst h;by_cases h:z=w
  ·subst h;simp
  ·rw[oBF h,oDF (p:=x=x/\z=w/\p) λe=>h e.2.1];simp
 ·rw[oBF h,oDF (p:=x=y/\z=w/\p) λe=>h e.1];rfl
theorem tF{o:Option (Bool×Unit)}:(o.bind λ(x0,_)=>some (x0,()))=o:=by
 cases o with
 |none=>rfl
 |some x=>obtain⟨x,⟨⟩⟩:=x;rfl
theorem D8{x y:PG}(hx:Sm x.2.2.1)(hy:Sm x.2.2.2.2.2.2.2.2.2.2):
 fZ x.1 x.2.1 x.2.2.1 x.2.2.2.1 x.2.2.2.2.1 x.2.2.2.2.2.1 x.2.2.2.2.2.2.1 x.2.2.2.2.2.2.2.1 x.2.2.2.2.2.2.2.2.1 x.2.2.2.2.2.2.2.2.2.1 x.2.2.2.2.2.2.2.2.2.2 y.1 y.2.1 y.2.2.1 y.2.2.2.1 y.2.2.2.2.1 y.2.2.2.2.2.1 y.2.2.2.2.2.2.1 y.2.2.2.2.2.2.2.1 y.2.2.2.2.2.2.2.2.1 y.2.2.2.2.2.2.2.2.2.1 y.2.2.2.2.2.2.2.2.2.2=some (decide (x=y),()):=by
 unfold fZ;simp only[vY hx,vY hy,tF,tD,xJ,xI];congr 2;rw[decide_eq_decide];simp only[Prod.ext_iff,and_assoc]
theorem yU{x y:DTs}(hx:Sm x.2.2.2.2.2.2.2):
 ee x.1 x.2.1 x.2.2.1 x.2.2.2.1 x.2.2.2.2.1 x.2.2.2.2.2.1 x.2.2.2.2.2.2.1 x.2.2.2.2.2.2.2 y.1 y.2.1 y.2.2.1 y.2.2.2.1 y.2.2.2.2.1 y.2.2.2.2.2.1 y.2.2.2.2.2.2.1 y.2.2.2.2.2.2.2=some (decide (x=y),()):=by
 unfold ee;simp only[qm hx,tF,tD];congr 2;rw[decide_eq_decide];simp only[Prod.ext_iff,and_assoc]
end Go.Proofs.Ytakfoejcjdcgbaa
