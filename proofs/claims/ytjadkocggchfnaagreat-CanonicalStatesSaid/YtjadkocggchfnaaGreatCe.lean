/- Part of the proof; no condition. -/
import Derived.Test.YtjadkocggchfnaaGreatCd
import Derived.Deep.Slices
set_option linter.unusedVariables false
set_option linter.unusedSimpArgs false
namespace Go.Proofs.YtjadkocggchfnaaGreat
open Go.RowKit
def Ok{α:Type}(o:Option α) (Q:α->Prop):Prop:=∃a,o=some a/\Q a
section
variable {α β:Type}
theorem Ok.ret{a:α}{Q:α->Prop}(h:Q a):Ok (some a) Q:=⟨a,rfl,h⟩
theorem Ok.bind{o:Option α}{f:α->Option β}{P:α->Prop}{Q:β->Prop}(h:Ok o P) (h2:∀a,P a->Ok (f a) Q):Ok (o.bind f) Q:=by
 obtain⟨a,rfl,h1⟩:=h
 simp_all
theorem Ok.mono{o:Option α}{P Q:α->Prop}(h:Ok o P) (h2:∀a,P a->Q a):Ok o Q:=by
 have ⟨a,e,h1⟩:=h;exact⟨a,e,h2 a h1⟩
theorem Ok.cond{c:Bool}{a b:Option α}{Q:α->Prop}(h1:c=true->Ok a Q) (h2:c=false->Ok b Q):Ok (bif c then a else b) Q:=by
 grind
class BP (b:Bool) (P N:outParam Prop):Prop where
 t:b=true->P
 f:b=false->N
instance (priority:=low) bpVar {b:Bool}:BP b (b=true) (b=false):=⟨id,id⟩
instance TU {p:Prop} {i:Decidable p}:BP (@decide p i) p (¬ p):=⟨of_decide_eq_true,of_decide_eq_false⟩
instance T8 {α:Type} [BEq α] [LawfulBEq α] {a b:α}:BP (a==b) (a=b) (¬ a=b):=⟨eq_of_beq,λh=>beq_eq_false_iff_ne.1 h⟩
instance T7 {α:Type} [BEq α] [LawfulBEq α] {a b:α}:BP (a != b) (¬ a=b) (a=b):=⟨λh=>bne_iff_ne.1 h,λh=>bne_eq_false_iff_eq.1 h⟩
instance TS {b:Bool} {P N:Prop} [h:BP b P N]:BP (!b) N P:=⟨λe=>h.f (by simpa using e),λe=>h.t (by simpa using e)⟩
theorem dJ{c:Bool}{P N:Prop} [h:BP c P N] {a b:Option α}{Q:α->Prop}(h1:P->Ok a Q) (h2:N->Ok b Q):Ok (bif c then a else b) Q:=by
 cases hc:c with
 | true=>exact h1 (h.t hc)
 | false=>exact h2 (h.f hc)
theorem Ok.get{l:List α}{i:Nat}{f:α->Option β}{Q:β->Prop}(h:i < l.length) (h2:∀a,l[i]?=some a->Ok (f a) Q):Ok ((dM l i).bind f) Q:=by
 have e:dM l i=some l[i]:=oGE h
 simp_all
theorem Ok.nat{x:Int}{f:Nat->Option β}{Q:β->Prop}(h:0<=x) (h2:∀n:Nat,x=n->Ok (f n) Q):Ok ((d9 x).bind f) Q:=by
 obtain⟨n,rfl⟩:∃n:Nat,x=n:=⟨x.toNat,by omega⟩;exact h2 n rfl
theorem Ok.val{v:α}{f:α->Option β}{Q:β->Prop}(h:∀x,x=v->Ok (f x) Q):Ok (f v) Q:=h v rfl
theorem dK{c:Bool}{a b:Option α}{Q:α->Prop}(hc:c=true) (h1:Ok a Q):Ok (bif c then a else b) Q:=by simp_all
theorem gG{S T:Type}{f:S->Option (S⊕T)}(P:S->Prop) (R:T->Prop) (m:S->Nat) {n:Nat}{s:S}(hs:P s) (hm:m s < n)
 (h:∀s,P s->Ok (f s) λr=>match r with | .inl s'=>P s'/\m s' < m s | .inr t=>R t):Ok (dU f n s) R:=by
 induction n generalizing s with
 | zero=>omega
 | succ n ih=>
  have ⟨r,e,hr⟩:=h s hs
  cases r with
  | inl s'=>
   have ⟨t,e2,hq⟩:=ih hr.1 (by omega);exact⟨t,by simp[dU,e];exact e2,hq⟩
  | inr t=>exact⟨t,by simp[dU,e],hr⟩
theorem Ok.loop{S T:Type}{f:S->Option (S⊕T)}{g:T->Option β}{Q:β->Prop}(P:S->Prop) (R:T->Prop) (m:S->Nat) {n:Nat}{s:S}(hs:P s) (hm:m s < n)
 (h:∀s,P s->Ok (f s) λr=>match r with | .inl s'=>P s'/\m s' < m s | .inr t=>R t) (hg:∀t,R t->Ok (g t) Q):Ok ((dU f n s).bind g) Q:=(gG P R m hs hm h).bind hg
end
theorem dS{x:Int}(h1:-9223372036854775808<=x) (h2:x<=9223372036854775807):w64 x=x:=DF h1 h2
theorem dO(n:Nat):d9 (n:Int)=some n:=rfl
theorem dZ(n:Nat):dN n=(n:Int):=rfl
theorem dR{α:Type}{l:List α}{i:Nat}{a:α}(h:l[i]?=some a):a∈l:=List.mem_of_getElem? h
def W16(x:Int):Prop:=0<=x/\x<=65535
theorem ef{x:Int}(h0:0<=x) (h1:x<=65535):wk .u16 x=x:=by
 unfold wk;rw[DE];omega
theorem d7{x:Int}(h0:-9223372036854775808<=x) (h1:x<=9223372036854775807):wk .i64 x=x:=dS h0 h1
theorem dX{b n m:Nat}(h:b<=1000/\n+m<=1000000):dY b n m=true:=by
 have:=Nat.mul_le_mul h.2 h.1;simp[dY];omega
structure DOk (l:List Int) (k:Int):Prop where
 num:∀x∈l,HN x
 len:l.length<=maxLen
 lo:0<=k
 hi:k<=l.length
theorem Fs{l:List Int}(h:∀x∈l,HN x) (hl:l.length<=maxLen):DOk l 0:=⟨h,hl,by omega,by omega⟩
theorem P9{a b:Int}(ha:HN a) (hb:0 < b) (ZZ:b<=9223372036854775807):∃v,i3 a b=some (v,())/\0<=v/\v < b:=by
 have hne:(b != 0)=true:=by simp;omega
 have hm:=Int.tmod_lt_of_pos a hb
 have hm2:-b < Int.tmod a b:=by
  have:=Int.tmod_lt_of_pos (-a) hb;rw[Int.neg_tmod] at this;omega
 unfold i3;simp[hne];by_cases h:Int.tmod a b < 0
 ·refine⟨Int.tmod a b+b,?_,by omega,by omega⟩;simp[h,decide_true];rw[dS (by omega) (by omega)]
 ·refine⟨Int.tmod a b,?_,by omega,hm⟩;simp[h,decide_false,oCF]
section
variable {β:Type} {l:List Int} {k n:Int} {Q:β->Prop}
theorem Sz{a b:Int}{f:Int×Unit->Option β}(ha:HN a) (hb:0 < b) (ZZ:b<=9223372036854775807) (K:∀v,0<=v->v < b->Ok (f (v,())) Q):Ok ((i3 a b).bind f) Q:=by
 have ⟨v,e,h0,h1⟩:=P9 ha hb ZZ
 simp_all
theorem fO{f:Int×List Int×Int×Unit->Option β}(h:DOk l k) (hn:0 < n) (hn2:n<=9223372036854775807) (K:∀v k',0<=v->v < n->DOk l k'->Ok (f (v,l,k',())) Q):Ok ((dQ n l k).bind f) Q:=by
 have hl:=h.len;have hlo:=h.lo
 have XH:maxLen<=9223372036854775807:=by decide
 by_cases hk:k>=(l.length:Int)
 ·have e:dQ n l k=some (0,l,k,()):=by unfold dQ;simp[dZ,hk]
  simp_all
 ·obtain⟨j,rfl⟩:∃j:Nat,k=j:=⟨k.toNat,by omega⟩
  have hj:j < l.length:=by omega
  obtain⟨v,hv,h0,h1⟩:=P9 (h.num _ (List.getElem_mem hj)) hn hn2
  have e:dQ n l j=some (v,l,(j:Int)+1,()):=by
   unfold dQ;delta dN
   try dsimp only
   rw[dS (x:=(j:Int)+1) (by omega) (by omega),dS (x:=(j:Int)+1 - 1) (by omega) (by omega)];rw[show (j:Int)+1 - 1=j by omega,dO];simp[hk,decide_false,oCF,oBS,dM,oGE hj,jk,hv]
  rw[e];exact K v _ h0 h1 ⟨h.num,hl,by omega,by omega⟩
theorem Jn{f:Int×List Int×Int×Unit->Option β}(h:DOk l k) (K:∀v k',0<=v->v<=65535->DOk l k'->Ok (f (v,l,k',())) Q):Ok ((jH l k).bind f) Q:=by
 have hw:Ok (jH l k) λr=>∃v k',r=(v,l,k',())/\0<=v/\v<=65535/\DOk l k':=by
  unfold jH
  (with_reducible refine fO (by assumption) (by omega) (by omega) (λv k a b d=>?_);try dsimp only)
  refine Ok.bind (P:=λr=>∃b,r=(v,b,l,k,())) ?_ ?_
  ·repeat ((with_reducible refine dJ (λhc=>?_) λhc=>?_);· exact Ok.ret ⟨_,rfl⟩)
   exact Ok.ret ⟨_,rfl⟩
  ·rintro _ ⟨b,rfl⟩;refine Ok.cond (λ_=>?_) λ_=>?_
   ·(with_reducible refine fO (by assumption) (by omega) (by omega) (λv k a b d=>?_);try dsimp only)
    (simp (disch:=omega) only [dS,ef,d7,dZ])
    exact Ok.ret ⟨_,_,rfl,by omega,by omega,by assumption⟩
   ·(with_reducible refine dJ (λhc=>?_) λhc=>?_)
    ·(with_reducible refine fO (by assumption) (by omega) (by omega) (λv k a b d=>?_);try dsimp only)
     (simp (disch:=omega) only [dS,ef,d7,dZ])
     exact Ok.ret ⟨_,_,rfl,by omega,by omega,by assumption⟩
    ·(with_reducible refine fO (by omega) (by omega) (by omega) (λv k a b d=>?_);try dsimp only)
     (simp (disch:=omega) only [dS,ef,d7,dZ])
     exact Ok.ret ⟨_,_,rfl,by omega,by omega,by omega⟩
 refine hw.bind ?_
 simp_all
end
def yh(s:List Int):Prop:=1<=s.length/\s.length<=4/\∀x∈s,1<=x/\x<=32
theorem TH{P:Int->Prop}{a b c:Int}(ha:P a) (hb:P b) (hc:P c):∀x∈[a,b,c],P x:=by
 simp_all
theorem Ox{l:List Int}{k:Int}(h:DOk l k):Ok (pK l k) λr=>∃s k',r=(s,l,k',())/\yh s/\DOk l k':=by
 unfold pK
 (with_reducible refine fO (by assumption) (by omega) (by omega) (λv0 k0 a0 b0 d0=>?_);try dsimp only)
 (simp (disch:=omega) only [dS,ef,d7,dZ])
 (with_reducible refine fO (by assumption) (by omega) (by omega) (λv1 k1 a1 b1 d1=>?_);try dsimp only)
 refine Ok.loop (P:=λ((c,l',k',s,_):Int×List Int×Int×List Int×Unit)=>l'=l/\DOk l k'/\0<=c/\c+s.length<=4/\1<=s.length/\∀x∈s,1<=x/\x<=32)
  (R:=λ((_,_,l',k',s,_):Int×Bool×List Int×Int×List Int×Unit)=>l'=l/\DOk l k'/\yh s) (m:=λs=>s.1.toNat) ⟨rfl,d1,a1,by simp;omega,by simp,by simp;omega⟩ (by unfold NN;dsimp only;omega) ?_ ?_
 ·rintro⟨c,l',k3,s,_⟩ ⟨rfl,X1,hc0,VI,hs1,hs⟩;dsimp only at *;unfold sZ;dsimp only
  (with_reducible refine dJ (λhc=>?_) λhc=>?_)
  ·(with_reducible refine fO (by assumption) (by omega) (by omega) (λv2 k2 a2 b2 d2=>?_);try dsimp only)
   (with_reducible refine Ok.nat (by omega) (λj hj=>?_);try dsimp only)
   have Zv:∀x∈[(6:Int),12,32],6<=x/\x<=32:=by simp_all
   refine Ok.get (by simp;omega) λa ha=>?_;refine Ok.get (by simp;omega) λb hb=>?_;have h7:=Zv b (dR hb)
   (with_reducible refine fO (by assumption) (by omega) (by omega) (λv3 k3 a3 b3 d3=>?_);try dsimp only)
   (simp (disch:=omega) only [dS,ef,d7,dZ])
   refine dK (dX (by simp;omega)) ?_;refine Ok.ret ⟨⟨rfl,by assumption,by omega,?_,?_,?_⟩,?_⟩
   ·simp;omega
   ·simp
   ·intro x hx;simp at hx;rcases hx with hx | rfl
    ·exact hs x hx
    ·omega
   ·dsimp only;omega
  ·exact Ok.ret ⟨rfl,X1,hs1,by dsimp only;omega,hs⟩
 ·rintro⟨a,b,l',k3,s,_⟩ ⟨rfl,X1,hs⟩;exact Ok.ret ⟨_,_,rfl,hs,X1⟩
def ql(op:Int):Bool:=!(op==18 || op==23 || op==0 || op==24)
def q8(op:Int):Bool:=!(op==18 || op==23 || op==0 || op==24 || op==1 || op==15 || op==19 || op==20 || op==21 || op==22)
def qk(op:Int):Bool:=!(op==18 || op==23 || op==0 || op==24 || op==1 || op==15 || op==19 || op==20 || op==21 || op==22 || op==2 || op==16 || op==17)
def qj(op:Int):Bool:=op==1 || op==15 || op==19 || op==20 || op==21 || op==16 || op==17 || op==18 || op==23
def mB(op:Int):Bool:=op==18 || op==19 || op==20 || op==21
theorem HY{op:Int}(h0:0<=op) (h1:op<=24):jB op=some (ql op,q8 op,qk op,qj op,()):=by
 obtain⟨n,rfl⟩:∃n:Nat,op=n:=⟨op.toNat,by omega⟩
 have hn:n < 25:=by omega
 have key:∀n:Fin 25,(jB ((n.val:Nat):Int)).map (λx=>(x.1,x.2.1,x.2.2.1,x.2.2.2.1))=some (ql (n.val:Nat),q8 (n.val:Nat),qk (n.val:Nat),qj (n.val:Nat)):=by decide
 have:=key ⟨n,hn⟩
 cases h:jB (n:Int) with
 | none=>simp_all
 | some x=>
  obtain⟨a,b,c,d,_⟩:=x
  simp_all
theorem vn(op:Int):hU op=some (mB op,()):=by
 unfold hU mB
 grind
structure je (n m:Int) (i:DIn):Prop where
 op:0<=i.1/\i.1<=24
 a:0<=i.2.1/\i.2.1 < 8/\(ql i.1=false->i.2.1=0)
 b:0<=i.2.2.1/\i.2.2.1 < 8/\(q8 i.1=false->i.2.2.1=0)
 c:0<=i.2.2.2.1/\i.2.2.2.1 < 8/\(qk i.1=false->i.2.2.2.1=0)
 imm:0<=i.2.2.2.2/\i.2.2.2.2<=65535/\(qj i.1=false->i.2.2.2.2=0)
 lea:i.1=15->i.2.2.2.2 < n
 sys:i.1=23->i.2.2.2.2<=15
 jmp:mB i.1=true->i.2.2.2.2 < m
theorem ins_mk{n m o a b c i:Int}(ho:0<=o/\o<=24) (ha:0<=a/\a < 8) (hb:0<=b/\b < 8) (hc:0<=c/\c < 8) (hi:0<=i/\i<=65535) (hA:ql o=true\/a=0) (hB:q8 o=true\/b=0) (hC:qk o=true\/c=0) (hI:qj o=true\/i=0)
 (hl:o=15->i < n) (hs:o=23->i<=15) (hj:mB o=true->i < m):je n m (o,a,b,c,i):=
 ⟨ho,⟨ha.1,ha.2,λh=>hA.elim (λh'=>by simp_all) id⟩,⟨hb.1,hb.2,λh=>hB.elim (λh'=>by simp_all) id⟩,
  ⟨hc.1,hc.2,λh=>hC.elim (λh'=>by simp_all) id⟩,⟨hi.1,hi.2,λh=>hI.elim (λh'=>by simp_all) id⟩,hl,hs,hj⟩
theorem F1{n m r v:Int}(h:0<=r/\r < 8) (hv:0<=v/\v<=65535):je n m (1,r,0,0,v):=ins_mk (by decide) h (by decide) (by decide) hv (.inl (by decide)) (.inr rfl) (.inr rfl) (.inl (by decide)) (by omega) (by omega) (λh=>absurd h (by decide))
theorem Ik{n m r v:Int}(h:0<=r/\r < 8) (hv:0<=v/\v < 8):je n m (2,r,v,0,0):=ins_mk (by decide) h hv (by decide) (by decide) (.inl (by decide)) (.inl (by decide)) (.inr rfl) (.inr rfl) (by omega) (by omega) (λh=>absurd h (by decide))
theorem At{n m v:Int}(hv:0<=v/\v<=15):je n m (23,0,0,0,v):=ins_mk (by decide) (by decide) (by decide) (by decide) (by omega) (.inr rfl) (.inr rfl) (.inr rfl) (.inl (by decide)) (by omega) (by omega) (λh=>absurd h (by decide))
theorem In{n m r v:Int}(h:0<=r/\r < 8) (hv:0<=v/\v < n) (hn:n<=4):je n m (15,r,0,0,v):=ins_mk (by decide) h (by decide) (by decide) (by omega) (.inl (by decide)) (.inr rfl) (.inr rfl) (.inl (by decide)) (by omega) (by omega) (λh=>absurd h (by decide))
theorem LY{n m o a b v:Int}(ho:o=16\/o=17) (h:0<=a/\a < 8) (hb:0<=b/\b < 8) (hv:0<=v/\v<=65535):je n m (o,a,b,0,v):=by
 rcases ho with rfl | rfl
 all_goals exact ins_mk (by decide) h hb (by decide) hv (.inl (by decide)) (.inl (by decide)) (.inr rfl) (.inl (by decide)) (by omega) (by omega) (λh=>absurd h (by decide))
theorem Ih{n m o a b c:Int}(ho:3<=o/\o<=14) (h:0<=a/\a < 8) (hb:0<=b/\b < 8) (hc:0<=c/\c < 8):je n m (o,a,b,c,0):=
 ins_mk (by omega) h hb hc (by decide) (.inl (by unfold ql;simp;omega)) (.inl (by unfold q8;simp;omega)) (.inl (by unfold qk;simp;omega)) (.inr rfl) (by omega) (by omega) (λh=>by unfold mB at h;simp at h;omega)
theorem Rn{n m v:Int}(hv:0<=v/\v<=65535) (hm:v < m):je n m (18,0,0,0,v):=ins_mk (by decide) (by decide) (by decide) (by decide) hv (.inr rfl) (.inr rfl) (.inr rfl) (.inl (by decide)) (by omega) (by omega) (λ_=>hm)
theorem Q1{n m:Int}:je n m (24,0,0,0,0):=ins_mk (by decide) (by decide) (by decide) (by decide) (by decide) (.inr rfl) (.inr rfl) (.inr rfl) (.inr rfl) (by omega) (by omega) (λh=>absurd h (by decide))
theorem je.mono{n m m':Int}{i:DIn}(h:je n m i) (hm:m<=m'):je n m' i:=⟨h.op,h.a,h.b,h.c,h.imm,h.lea,h.sys,λhj=>by have:=h.jmp hj;omega⟩
theorem Iz{n m a v:Int}(h:0<=a/\a < 8) (hv:0<=v/\v<=65535) (hm:v < m):je n m (20,a,0,0,v):=ins_mk (by decide) h (by decide) (by decide) hv (.inl (by decide)) (.inr rfl) (.inr rfl) (.inl (by decide)) (by omega) (by omega) (λ_=>hm)
theorem Pk{n X0 k:Int}{l:List Int}(h:DOk l k) (hn:1<=n/\n<=4) (hm:1<=X0/\X0<=100):Ok (pL n X0 l k) λr=>∃o a b c i k',r=(o,a,b,c,i,l,k',())/\je n X0 (o,a,b,c,i)/\DOk l k':=by
 unfold pL
 (with_reducible refine fO (by assumption) (by omega) (by omega) (λv0 k0 a0 b0 d0=>?_);try dsimp only)
 rw[HY (by omega) (by omega)];simp only[oBS];refine Ok.bind (P:=λr=>∃x k',r=(n,X0,l,k',0,0,0,0,0,v0,x,0,0,0,ql v0,q8 v0,qk v0,qj v0,())/\0<=x/\x < 8/\(ql v0=false->x=0)/\DOk l k') ?_ ?_
 ·refine Ok.cond (λhc=>?_) λhc=>Ok.ret ⟨_,_,rfl,by omega,by omega,λ_=>rfl,d0⟩
  (with_reducible refine fO (by assumption) (by omega) (by omega) (λv1 k1 a1 b1 d1=>?_);try dsimp only)
  exact Ok.ret ⟨_,_,rfl,a1,b1,(λhh=>by rw[hc] at hh;cases hh),d1⟩
 rintro _ ⟨xa,k1,rfl,ha0,XF,W3,d1⟩;dsimp only;refine Ok.bind (P:=λr=>∃x k',r=(n,X0,l,k',0,0,0,0,0,v0,xa,x,0,0,ql v0,q8 v0,qk v0,qj v0,())/\0<=x/\x < 8/\(q8 v0=false->x=0)/\DOk l k') ?_ ?_
 ·refine Ok.cond (λhc=>?_) λhc=>Ok.ret ⟨_,_,rfl,by omega,by omega,λ_=>rfl,d1⟩
  (with_reducible refine fO (by assumption) (by omega) (by omega) (λv2 k2 a2 b2 d2=>?_);try dsimp only)
  exact Ok.ret ⟨_,_,rfl,a2,b2,(λhh=>by rw[hc] at hh;cases hh),d2⟩
 rintro _ ⟨xb,k2,rfl,hb0,hb1,ZZ,d2⟩;dsimp only;refine Ok.bind (P:=λr=>∃x k',r=(n,X0,l,k',0,0,0,0,0,v0,xa,xb,x,0,ql v0,q8 v0,qk v0,qj v0,())/\0<=x/\x < 8/\(qk v0=false->x=0)/\DOk l k') ?_ ?_
 ·refine Ok.cond (λhc=>?_) λhc=>Ok.ret ⟨_,_,rfl,by omega,by omega,λ_=>rfl,d2⟩
  (with_reducible refine fO (by assumption) (by omega) (by omega) (λv3 k3 a3 b3 d3=>?_);try dsimp only)
  exact Ok.ret ⟨_,_,rfl,a3,b3,(λhh=>by rw[hc] at hh;cases hh),d3⟩
 rintro _ ⟨xc,k3,rfl,hc0,ZW,ZP,d3⟩;dsimp only;rw[vn];simp only[oBS];refine Ok.bind (P:=λr=>∃x k',r=(l,k',0,0,0,0,0,v0,xa,xb,xc,x,())/\0<=x/\x<=65535/\(qj v0=false->x=0)/\(v0=15->x < n)/\(v0=23->x<=15)/\(mB v0=true->x < X0)/\DOk l k') ?_ ?_
 ·refine Ok.cond (λhj=>?_) λhj=>?_
  ·(with_reducible refine fO (by assumption) (by omega) (by omega) (λv4 k4 a4 b4 d4=>?_);try dsimp only)
   have hne:v0≠15/\v0≠23:=by constructor<;>(rintro rfl;exact absurd hj (by decide))
   exact Ok.ret ⟨_,_,rfl,a4,by omega,(λhh=>by
    have:qj v0=true:=by unfold mB at hj;unfold qj;simp at hj ⊢;omega
    rw[this] at hh;cases hh),by omega,by omega,λ_=>b4,d4⟩
  ·(with_reducible refine dJ (λUi=>?_) λUi=>?_)
   ·subst Ui
    (with_reducible refine fO (by assumption) (by omega) (by omega) (λv4 k4 a4 b4 d4=>?_);try dsimp only)
    exact Ok.ret ⟨_,_,rfl,a4,by omega,λhh=>absurd hh (by decide),by omega,by omega,λhh=>absurd hh (by decide),d4⟩
   ·(with_reducible refine dJ (λhc6=>?_) λhc6=>?_)
    ·subst hc6
     (with_reducible refine fO (by assumption) (by omega) (by omega) (λv4 k4 a4 b4 d4=>?_);try dsimp only)
     exact Ok.ret ⟨_,_,rfl,a4,by omega,λhh=>absurd hh (by decide),by omega,by omega,λhh=>absurd hh (by decide),d4⟩
    ·refine Ok.cond (λhu=>?_) λhu=>?_
     ·(with_reducible refine Jn (by assumption) (λv4 k4 a4 b4 d4=>?_);try dsimp only)
      (simp (disch:=omega) only [dS,ef,d7,dZ])
      exact Ok.ret ⟨_,_,rfl,a4,by omega,(λhh=>by rw[hu] at hh;cases hh),by omega,by omega,(λhh=>by rw[show mB v0=false from hj] at hh;cases hh),d4⟩
     ·exact Ok.ret ⟨_,_,rfl,by omega,by omega,λ_=>rfl,by omega,by omega,(λhh=>by rw[show mB v0=false from hj] at hh;cases hh),d3⟩
 rintro _ ⟨xi,k4,rfl,hi0,W4,Yv,hi3,hi4,hi5,d4⟩;exact Ok.ret ⟨_,_,_,_,_,_,rfl,⟨⟨a0,by dsimp only;omega⟩,⟨ha0,XF,W3⟩,⟨hb0,hb1,ZZ⟩,⟨hc0,ZW,ZP⟩,⟨hi0,W4,Yv⟩,hi3,hi4,hi5⟩,d4⟩
theorem oq{α β:Type}{l:List α}{i:Nat}{f:α->Option β}{Q:β->Prop}(P:α->Prop) (h:i < l.length) (hP:∀x∈l,P x) (h2:∀a,P a->Ok (f a) Q):Ok ((dM l i).bind f) Q:=Ok.get h λa ha=>h2 a (hP a (dR ha))
theorem eu{α:Type}{P:α->Prop}:∀x∈([]:List α),P x:=λ_ h=>by cases h
theorem all_cons{α:Type}{P:α->Prop}{a:α}{l:List α}(h:P a) (h2:∀x∈l,P x):∀x∈a :: l,P x:=by
 simp_all
theorem SC(a b:Int):jD a b=some (1,a,0,0,b,()):=rfl
theorem Sy(a b:Int):nY a b=some (2,a,b,0,0,()):=rfl
theorem P0(a:Int):i4 a=some (23,0,0,0,a,()):=rfl
theorem TO{x:Int}(h:1<=x):1<=mmR false 5 x/\mmR false 5 x<=5:=by
 unfold mmR;simp;omega
def Kr(n at_:Int) (l:List Int) (r:List DIn×List Int×Int×Unit):Prop:=∃xs k',r=(xs,l,k',())/\1<=xs.length/\xs.length<=6/\(∀i∈xs,je n (at_+xs.length) i)/\DOk l k'
theorem DS{n at_:Int}{l:List Int}{xs:List DIn}{k:Int}(h1:1<=xs.length/\xs.length<=6) (h2:∀i∈xs,je n (at_+xs.length) i) (h3:DOk l k):Ok (some (xs,l,k,())) (Kr n at_ l):=Ok.ret ⟨xs,k,rfl,h1.1,h1.2,h2,h3⟩
theorem Rb{s l:List Int}{at_ k:Int}(h:DOk l k) (hs:yh s) (ha:0<=at_/\at_<=99):Ok (ro s (at_+1) at_ l k) (Kr s.length at_ l):=by
 obtain⟨hs1,XA,hsz⟩:=hs
 have hn:1<=(s.length:Int)/\(s.length:Int)<=4:=by omega
 unfold ro;delta dN;simp only[SC,Sy,P0,oBS]
 (with_reducible refine fO (by assumption) (by omega) (by omega) (λvr kr ar br dr=>?_);try dsimp only)
 refine Ok.nat (by omega) λj hj=>?_;refine oq (λa=>1<=a/\a<=32) (by omega) hsz λz hz=>?_
 (simp (disch:=omega) only [dS,ef,d7,dZ])
 have h5:=TO (x:=z+1) (by omega);generalize mmR false 5 (z+1)=mm at h5
 (with_reducible refine fO (by assumption) (by omega) (by omega) (λvu ku au bu du=>?_);try dsimp only)
 (with_reducible refine fO (by assumption) (by omega) (by omega) (λvw kw aw bw dw=>?_);try dsimp only)
 iterate 19
  (with_reducible refine dJ (λhcc=>?_) λhcc=>?_)
  ·repeat (first | (simp (disch:=omega) only [dS,ef,d7,dZ]) | (with_reducible refine fO (by assumption) (by omega) (by omega) (λv k a b d=>?_);try dsimp only) | (with_reducible refine Jn (by assumption) (λv k a b d=>?_);try dsimp only) | (with_reducible refine Ok.nat (by omega) (λj hj=>?_);try dsimp only) | ((with_reducible first | refine oq (λa=>1<=a/\a<=32) (by omega) (by assumption) (λe he=>?_) | refine oq (λa=>3<=a/\a<=14) (by simp only[oLC,List.length_nil];omega) (by (first | exact (all_cons (by omega) (all_cons (by omega) eu)) | exact (all_cons (by omega) (all_cons (by omega) (all_cons (by omega) eu))) | exact (all_cons (by omega) (all_cons (by omega) (all_cons (by omega) (all_cons (by omega) (all_cons (by omega) (all_cons (by omega) (all_cons (by omega) (all_cons (by omega) eu)))))))))) (λe he=>?_) | refine oq (λa=>0<=a/\a<=15) (by simp only[oLC,List.length_nil];omega) (by (first | exact (all_cons (by omega) (all_cons (by omega) eu)) | exact (all_cons (by omega) (all_cons (by omega) (all_cons (by omega) eu))) | exact (all_cons (by omega) (all_cons (by omega) (all_cons (by omega) (all_cons (by omega) (all_cons (by omega) (all_cons (by omega) (all_cons (by omega) (all_cons (by omega) eu)))))))))) (λe he=>?_) | refine oq (λa=>1<=a/\a<=100) (by simp only[oLC,List.length_nil];omega) (by (first | exact (all_cons (by omega) (all_cons (by omega) eu)) | exact (all_cons (by omega) (all_cons (by omega) (all_cons (by omega) eu))) | exact (all_cons (by omega) (all_cons (by omega) (all_cons (by omega) (all_cons (by omega) (all_cons (by omega) (all_cons (by omega) (all_cons (by omega) (all_cons (by omega) eu)))))))))) (λe he=>?_));try dsimp only) | (with_reducible refine dK (dX (by first | omega | simp)) ?_;try dsimp only) | (refine oq (λ(a:List DIn)=>(1<=a.length/\a.length<=6)/\∀i∈a,je s.length (at_+a.length) i) (by simp only[oLC,List.length_nil];omega) (all_cons ⟨by simp,by ((repeat' (first | exact eu | refine all_cons ?_ ?_ | exact F1 (by omega) (by omega) | exact Ik (by omega) (by omega) | exact At (by omega) | exact In (by omega) (by omega) (by omega) | exact LY (by omega) (by omega) (by omega) (by omega) | exact Ih (by omega) (by omega) (by omega) (by omega) | exact Iz (by omega) (by omega) (by simp only[oLC,List.length_nil];omega)));done)⟩ (all_cons ⟨by simp,by ((repeat' (first | exact eu | refine all_cons ?_ ?_ | exact F1 (by omega) (by omega) | exact Ik (by omega) (by omega) | exact At (by omega) | exact In (by omega) (by omega) (by omega) | exact LY (by omega) (by omega) (by omega) (by omega) | exact Ih (by omega) (by omega) (by omega) (by omega) | exact Iz (by omega) (by omega) (by simp only[oLC,List.length_nil];omega)));done)⟩ eu)) (λe he=>?_);try dsimp only))
   first
    | exact DS he.1 he.2 (by assumption)
    | (refine DS (by simp) ?_ (by assumption);try simp only[List.append_eq,List.cons_append,List.nil_append]
       ((repeat' (first | exact eu | refine all_cons ?_ ?_ | exact F1 (by omega) (by omega) | exact Ik (by omega) (by omega) | exact At (by omega) | exact In (by omega) (by omega) (by omega) | exact LY (by omega) (by omega) (by omega) (by omega) | exact Ih (by omega) (by omega) (by omega) (by omega) | exact Iz (by omega) (by omega) (by simp only[oLC,List.length_nil];omega)));done))
 refine (Pk (by assumption) hn (by omega)).bind ?_;rintro _ ⟨o,a,b,c,i,k',rfl,hi,hd⟩;exact DS (by simp) (all_cons (hi.mono (by simp)) eu) hd
theorem j6{α:Type}{P:α->Prop}{l m:List α}(h:∀x∈l,P x) (h2:∀x∈m,P x):∀x∈List.append l m,P x:=λx hx=>(List.mem_append.1 (show x∈l++m from hx)).elim (h x) (h2 x)
theorem ft{α:Type}(l m:List α):(List.append l m).length=l.length+m.length:=List.length_append
theorem qY{l:List Int}{k n:Int}(h:DOk l k) (hn:0<=n/\n<=1000):Ok (gF n l k) λr=>∃ws k',r=(ws,l,k',())/\(ws.length:Int)<=n/\(∀w∈ws,W16 w)/\DOk l k':=by
 unfold gF
 (simp (disch:=omega) only [dS,ef,d7,dZ])
 (with_reducible refine fO (by assumption) (by omega) (by omega) (λv0 k0 a0 b0 d0=>?_);try dsimp only)
 refine Ok.loop (P:=λ((c,l',k',s,_):Int×List Int×Int×List Int×Unit)=>l'=l/\DOk l k'/\0<=c/\c+s.length<=n/\∀x∈s,W16 x)
  (R:=λ((_,_,l',k',s,_):Int×Bool×List Int×Int×List Int×Unit)=>l'=l/\DOk l k'/\(s.length:Int)<=n/\∀x∈s,W16 x) (m:=λs=>s.1.toNat) ⟨rfl,d0,a0,by simp;omega,eu⟩ (by unfold NN;dsimp only;omega) ?_ ?_
 ·rintro⟨c,l',k3,s,_⟩ ⟨rfl,X1,hc0,VI,hs⟩;unfold sY;dsimp only
  (with_reducible refine dJ (λhcc=>?_) λhcc=>?_)
  ·(with_reducible refine Jn (by assumption) (λv1 k1 a1 b1 d1=>?_);try dsimp only)
   refine dK (dX (by simp;omega)) ?_
   (simp (disch:=omega) only [dS,ef,d7,dZ])
   exact Ok.ret ⟨⟨rfl,by omega,by omega,by rw[ft];simp;omega,j6 hs (all_cons ⟨a1,b1⟩ eu)⟩,by omega⟩
  ·exact Ok.ret ⟨rfl,X1,by dsimp only;omega,hs⟩
 ·rintro⟨a,b,l',k3,s,_⟩ ⟨rfl,X1,hs,hw⟩;exact Ok.ret ⟨_,_,rfl,hs,hw,X1⟩
structure lf (code:List DIn) (s:List Int) (d:List (List Int)):Prop where
 sz:yh s
 len:d.length=s.length
 fit:∀(j:Nat) x n,d[j]?=some x->s[j]?=some n->(x.length:Int)<=n
 num:∀x∈d,∀w∈x,W16 w
 clen:1<=code.length/\code.length<=64
 ins:∀i∈code,je s.length code.length i
theorem J6{code:List DIn}{s:List Int}{d:List (List Int)}{l:List Int}{k:Int}(hp:lf code s d) :
 Ok (dU iH NN ((code.length:Int),0,l,k,(),(),(),code,s,d,())) λr=>∃a b c,r=(a,b,c,l,k,(),(),(),code,s,d,()):=by
 have:=Ok.loop (f:=iH) (n:=NN) (Q:=λr=>∃a b c,r=(a,b,c,l,k,(),(),(),code,s,d,())) (s:=((code.length:Int),0,l,k,(),(),(),code,s,d,()))
  (P:=λs'=>∃i:Int,s'=((code.length:Int),i,l,k,(),(),(),code,s,d,())/\0<=i/\i<=code.length) (R:=λr=>∃a b c,r=(a,b,c,l,k,(),(),(),code,s,d,())) (m:=λs=>(s.1 - s.2.1).toNat) ⟨0,rfl,by omega,by omega⟩ (by unfold NN;dsimp only;have:=hp.clen;omega) ?_ (λt ht=>Ok.ret ht)
 ·simp_all
 ·rintro _ ⟨i,rfl,hi0,W4⟩;unfold iH;dsimp only;have hc:=hp.clen
  (with_reducible refine dJ (λhcc=>?_) λhcc=>?_)
  ·refine Ok.bind (P:=λr=>r=((code.length:Int),i,l,k,(),(),(),code,s,d,())) ?_ ?_
   ·(with_reducible refine Ok.nat (by omega) (λj hj=>?_);try dsimp only)
    refine Ok.get (by omega) λx hx=>?_;have hin:=hp.ins x (dR hx);rw[vn];refine Ok.cond (λhjp=>?_) λ_=>Ok.ret rfl;refine Ok.nat (by omega) λj2 XG=>?_;refine Ok.get (by omega) λy hy=>?_
    have hjj:j2=j:=by omega
    subst hjj;rw[hx] at hy
    injection hy with hy
    subst hy;have:=hin.jmp hjp;refine Ok.cond (λhcc=>?_) (λhcc=>?_)
    ·have h9:(x.2.2.2.2:Int)>=(code.length:Int):=of_decide_eq_true hcc;omega
    ·exact Ok.ret rfl
   ·rintro _ rfl;dsimp only
    (simp (disch:=omega) only [dS,ef,d7,dZ])
    exact Ok.ret ⟨⟨i+1,rfl,by omega,by omega⟩,by dsimp only;omega⟩
  ·exact Ok.ret ⟨_,_,_,rfl⟩
theorem KW{l:List Int}{k:Int}(h:DOk l k):Ok (mR l k) λr=>∃code s d k',r=(code,s,d,l,k',())/\lf code s d/\DOk l k':=by
 unfold mR;refine (Ox h).bind ?_;rintro _ ⟨s,k1,rfl,hs,hd⟩;obtain⟨hs1,XA,hsz⟩:=id hs;dsimp only;delta dN
 try dsimp only
 refine Ok.loop (P:=λs'=>∃k' d,s'=((s.length:Int),(d.length:Int),l,k',(),(),(),(),s,d,())/\DOk l k'/\d.length<=s.length/\(∀(j:Nat) x n,d[j]?=some x->s[j]?=some n->(x.length:Int)<=n)/\∀x∈d,∀w∈x,W16 w)
  (R:=λr=>∃a b c k' d,r=(a,b,c,l,k',(),(),(),(),s,d,())/\DOk l k'/\d.length=s.length/\(∀(j:Nat) x n,d[j]?=some x->s[j]?=some n->(x.length:Int)<=n)/\∀x∈d,∀w∈x,W16 w)
  (m:=λs=>(s.1 - s.2.1).toNat) ⟨k1,[],rfl,hd,by simp,by simp,eu⟩ (by unfold NN;dsimp only;omega) ?_ ?_
 ·rintro _ ⟨k',d,rfl,Yy,hdl,ZQ,Xw⟩;unfold qq;dsimp only
  (with_reducible refine dJ (λhcc=>?_) λhcc=>?_)
  ·(with_reducible refine Ok.nat (by omega) (λj hj=>?_);try dsimp only)
   refine Ok.get (by omega) λx hx=>?_;refine Ok.get (by omega) λy hy=>?_
   have ZR:j=d.length:=by omega
   subst ZR;have WZ:=hsz y (dR hy);refine (qY Yy ⟨by omega,by omega⟩).bind ?_;rintro _ ⟨ws,k2,rfl,Ux,hww,hd2⟩;dsimp only;refine dK (dX (by simp;omega)) ?_
   (simp (disch:=omega) only [dS,ef,d7,dZ])
   refine Ok.ret ⟨⟨k2,List.append d [ws],by rw[ft];simp,hd2,by rw[ft];simp;omega,?_,j6 Xw (all_cons hww eu)⟩,by dsimp only;omega⟩;intro i x n hx hn;rw[show List.append d [ws]=d++[ws] from rfl,List.getElem?_append] at hx;split at hx
   ·exact ZQ i x n hx hn
   ·rename_i Wc
    have:i - d.length=0:=by
     rcases Nat.eq_zero_or_pos (i - d.length) with h | h
     ·exact h
     ·rw[oGN (by simp;omega)] at hx;cases hx
    have hi:i=d.length:=by omega
    subst hi;simp at hx;subst hx;rw[hy] at hn
    injection hn with hn
    omega
  ·exact Ok.ret ⟨_,_,_,_,_,rfl,Yy,by omega,ZQ,Xw⟩
 rintro _ ⟨a,b,c,k2,d,rfl,hd2,hdl,ZQ,Xw⟩;dsimp only
 (with_reducible refine fO (by assumption) (by omega) (by omega) (λv0 k0 a0 b0 d0=>?_);try dsimp only)
 (simp (disch:=omega) only [dS,ef,d7,dZ])
 refine Ok.loop (P:=λs'=>∃i k' code,s'=(i,l,k',(),(),(),code,s,d,())/\0<=i/\i<=12/\DOk l k'/\code.length<=62/\∀i∈code,je s.length code.length i)
  (R:=λr=>∃a b k' code,r=(a,b,l,k',(),(),(),code,s,d,())/\DOk l k'/\code.length<=62/\∀i∈code,je s.length code.length i)
  (m:=λs=>s.1.toNat) ⟨_,_,[],rfl,by omega,by omega,d0,by simp,eu⟩ (by unfold NN;dsimp only;omega) ?_ ?_
 ·rintro _ ⟨i,k',code,rfl,hi0,W4,Yy,Zd,Ym⟩;unfold qp;dsimp only
  (with_reducible refine dJ (λhcc=>?_) λhcc=>?_)
  ·refine Ok.bind (P:=λr=>∃k' code,r=(i,l,k',(),(),(),code,s,d,())/\DOk l k'/\code.length<=62/\∀i∈code,je s.length code.length i) ?_ ?_
   ·(simp (disch:=omega) only [dS,ef,d7,dZ])
    refine (Rb Yy hs ⟨by omega,by omega⟩).bind ?_;rintro _ ⟨xs,k3,rfl,Z2,hx6,Vu,X1⟩;dsimp only
    (simp (disch:=omega) only [dS,ef,d7,dZ])
    (with_reducible refine dJ (λhcc=>?_) λhcc=>?_)
    ·refine dK (dX (by omega)) ?_;refine Ok.ret ⟨_,_,rfl,X1,by rw[ft];omega,?_⟩;rw[ft];exact j6 (λi hi=>(Ym i hi).mono (by omega)) (λi hi=>(Vu i hi).mono (by omega))
    ·exact Ok.ret ⟨_,_,rfl,X1,Zd,Ym⟩
   ·rintro _ ⟨k3,Y2,rfl,X1,hcl2,Xg⟩;dsimp only
    (simp (disch:=omega) only [dS,ef,d7,dZ])
    exact Ok.ret ⟨⟨_,_,_,rfl,by omega,by omega,X1,hcl2,Xg⟩,by dsimp only;omega⟩
  ·exact Ok.ret ⟨_,_,_,_,rfl,Yy,Zd,Ym⟩
 rintro _ ⟨a,b,k3,code,rfl,X1,Zd,Ym⟩;dsimp only;refine Ok.bind (P:=λr=>∃k' code,r=(l,k',(),(),(),code,s,d,())/\DOk l k'/\code.length<=63/\∀i∈code,je s.length (code.length+1) i) ?_ ?_
 ·(with_reducible refine fO (by assumption) (by omega) (by omega) (λv1 k1 a1 b1 d1=>?_);try dsimp only)
  (with_reducible refine dJ (λhcc=>?_) λhcc=>?_)
  ·(simp (disch:=omega) only [dS,ef,d7,dZ])
   (with_reducible refine fO (by assumption) (by omega) (by omega) (λv2 k2 a2 b2 d2=>?_);try dsimp only)
   refine dK (dX (by simp;omega)) ?_;refine Ok.ret ⟨_,_,rfl,d2,by rw[ft];simp;omega,?_⟩;rw[ft];exact j6 (λi hi=>(Ym i hi).mono (by simp;omega)) (all_cons (Rn (by omega) (by simp;omega)) eu)
  ·(with_reducible refine dJ (λhcc=>?_) λhcc=>?_)
   ·refine dK (dX (by simp;omega)) ?_;refine Ok.ret ⟨_,_,rfl,d1,by rw[ft];simp;omega,?_⟩;rw[ft];exact j6 (λi hi=>(Ym i hi).mono (by simp;omega)) (all_cons Q1 eu)
   ·exact Ok.ret ⟨_,_,rfl,d1,by omega,λi hi=>(Ym i hi).mono (by omega)⟩
 rintro _ ⟨k4,Y2,rfl,hd4,hcl2,Xg⟩;dsimp only
 (with_reducible refine fO (by assumption) (by omega) (by omega) (λv3 k3 a3 b3 d3=>?_);try dsimp only)
 simp only[SC,P0,oBS];refine dK (dX (by simp;omega)) ?_;simp only[ft];refine Ok.cond (λhc=>?_) λ_=>?_
 ·have ZN:∀i∈List.append Y2 [(1,0,0,0,v3),(23,0,0,0,0)],je s.length (Y2.length+1) i:=j6 Xg (all_cons (F1 (by omega) (by omega)) (all_cons (At (by omega)) eu));simp only[oDE] at hc
  have hcn:(Y2.length:Int)+2 > 64:=by
   have:((Y2.length + [((1:Int),(0:Int),(0:Int),(0:Int),v3),(23,0,0,0,0)].length:Nat):Int) > 64:=hc;simpa using this
  have h63:Y2.length=63:=by omega
  refine dK (by rw[h63];rfl) ?_
  have hlen:(m8 (List.append Y2 [((1:Int),(0:Int),(0:Int),(0:Int),v3),(23,0,0,0,0)]) 0 (Nat.sub 64 0)).length=64:=by
   unfold m8;rw[oLT,List.drop_zero,ft,h63];rfl
  have hp:lf (m8 (List.append Y2 [((1:Int),(0:Int),(0:Int),(0:Int),v3),(23,0,0,0,0)]) 0 (Nat.sub 64 0)) s d:=by
   refine⟨hs,hdl,ZQ,Xw,by rw[hlen];decide,λi hi=>?_⟩;rw[hlen];refine (ZN i ?_).mono (by omega);unfold m8 at hi;exact List.mem_of_mem_drop (List.mem_of_mem_take hi)
  refine (J6 (l:=l) (k:=_) hp).bind ?_;rintro _ ⟨a,b,c,rfl⟩;exact Ok.ret ⟨_,_,_,_,rfl,hp,d3⟩
 ·have hp:lf (List.append Y2 [(1,0,0,0,v3),(23,0,0,0,0)]) s d:=by
   refine⟨hs,hdl,ZQ,Xw,?_,?_⟩
   ·rw[ft];rename_i hc;have hcn:¬ ((Y2.length + [((1:Int),(0:Int),(0:Int),(0:Int),v3),(23,0,0,0,0)].length:Nat):Int) > 64:=of_decide_eq_false hc;simp only[oLC,List.length_nil] at hcn ⊢;omega
   ·rw[ft];exact j6 (λi hi=>(Xg i hi).mono (by simp)) (all_cons (F1 (by omega) (by omega)) (all_cons (At (by omega)) eu))
  have hf:=J6 (l:=l) (k:=k3) hp;rw[ft] at hf;refine hf.bind ?_;rintro _ ⟨a,b,c,rfl⟩;exact Ok.ret ⟨_,_,_,_,rfl,hp,d3⟩
theorem Kn{P:Int->Prop}{s:List Int}{i:Nat}{x:Int}(h:∀(j:Nat) y,j < i->s[j]?=some y->P y) (hx:s[i]?=some x) (hp:P x):∀(j:Nat) y,j < i+1->s[j]?=some y->P y:=by
 grind
theorem HX{s:List Int}(hl:s.length<=1000):Ok (fS s) λr=>r.1=true↔yh s:=by
 unfold fS;delta dN
 try dsimp only
 obtain⟨t,e,ht⟩:=gG (f:=nD) (n:=NN) (s:=(s,s,(s.length:Int),0,())) (P:=λs'=>∃i:Nat,s'=(s,s,(s.length:Int),(i:Int),())/\i<=s.length/\∀(j:Nat) y,j < i->s[j]?=some y->1<=y/\y<=32)
  (R:=λr=>(r=.inl (false,())/\∃y∈s,¬ (1<=y/\y<=32))\/((∃a b c d,r=.inr (s,a,b,c,d,()))/\∀y∈s,1<=y/\y<=32)) (m:=λs'=>(s'.2.2.1 - s'.2.2.2.1).toNat) ⟨0,rfl,by omega,λj y hj=>by omega⟩ (by unfold NN;dsimp only;omega) (by
   rintro _ ⟨i,rfl,hi,ZN⟩;unfold nD
   (with_reducible refine dJ (λhcc=>?_) λhcc=>?_)
   ·rw[dO];refine Ok.get (by omega) λx hx=>?_
    (with_reducible refine dJ (λXp=>?_) λXp=>?_)
    ·exact Ok.ret (.inl ⟨rfl,x,dR hx,by omega⟩)
    ·(with_reducible refine dJ (λWq=>?_) λWq=>?_)
     ·exact Ok.ret (.inl ⟨rfl,x,dR hx,by omega⟩)
     ·(simp (disch:=omega) only [dS,ef,d7,dZ])
      exact Ok.ret ⟨⟨i+1,rfl,by omega,Kn ZN hx ⟨by omega,by omega⟩⟩,by dsimp only;omega⟩
   ·refine Ok.ret (.inr ⟨⟨_,_,_,_,rfl⟩,λy hy=>?_⟩);have ⟨j,hj⟩:=List.getElem?_of_mem hy
    exact ZN j y (by have:=(oGS hj).1;omega) hj)
 rw[e];rcases ht with ⟨rfl,y,hy,hn⟩ | ⟨⟨a,b,c,d,rfl⟩,ZN⟩
 ·exact Ok.ret ⟨λh=>(by cases h),λh=>absurd (h.2.2 y hy) hn⟩
 ·dsimp only
  (with_reducible refine dJ (λhcc=>?_) λhcc=>?_)
  ·exact Ok.ret ⟨λh=>⟨by omega,(by have:=of_decide_eq_true h;omega),ZN⟩,λh=>oDT (by have:=h.2.1;omega)⟩
  ·exact Ok.ret ⟨λh=>(by cases h),λh=>by have:=h.1;omega⟩
abbrev VS(xs:List Int):Prop:=yh xs
theorem NG{l:List Int}{k:Nat}(h:k < l.length):l.getD k 0=l[k]:=by simp[List.getD,h]
def yi(bs ss:List Int) (i:Nat):Prop:=
 0<=bs.getD i 0/\bs.getD i 0+ss.getD i 0<=512/\∀k,k < i->¬ (bs.getD i 0<=bs.getD k 0+ss.getD k 0/\bs.getD k 0<=bs.getD i 0+ss.getD i 0)
def LV(bs ss:List Int):Prop:=VS ss/\bs.length=ss.length/\∀i,i < bs.length->yi bs ss i
theorem VS.at_{ss:List Int}(h:VS ss) {i:Nat}(hi:i < ss.length):1<=ss[i]/\ss[i]<=32:=h.2.2 _ (List.getElem_mem hi)
def uH(ss:List Int) (seed:Int):Nat->List Int×Int
 | 0=>(List.replicate ss.length 0,1+seed / ss.length % 50)
 | k+1=>((uH ss seed k).1.set (((k+seed) % ss.length).toNat) (uH ss seed k).2,(uH ss seed k).2+(ss.getD ((k+seed) % ss.length).toNat 0+1+seed / (50*ss.length) % 40))
def mkB(ss:List Int) (seed:Int):List Int:=(uH ss seed ss.length).1
theorem Pf(ss:List Int) (seed:Int) (k:Nat):(uH ss seed k).1.length=ss.length:=by
 induction k with
 | zero=>simp[uH]
 | succ k ih=>simp[uH,ih]
theorem VS.getD{ss:List Int}(h:VS ss) {i:Nat}(hi:i < ss.length):1<=ss.getD i 0/\ss.getD i 0<=32:=by rw[NG hi];exact h.at_ hi
theorem P5{n k:Nat}{seed:Int}(hn:1<=n):0<=((k:Int)+seed) % n/\((k:Int)+seed) % n < n:=
 ⟨Int.emod_nonneg _ (by omega),Int.emod_lt_of_pos _ (by omega)⟩
theorem Rg{ss:List Int}{seed:Int}(h:VS ss) (hs:0<=seed) (k:Nat):1<=(uH ss seed k).2/\(uH ss seed k).2<=50+72*k:=by
 induction k with
 | zero=>simp[uH];omega
 | succ k ih=>
  simp only[uH];have hr:=P5 (k:=k) (seed:=seed) h.1;have:=h.getD (i:=(((k:Int)+seed) % ss.length).toNat) (by omega);omega
theorem Nk{ss:List Int}(h0:1<=ss.length) (h1:ss.length<=4):(∃a,ss=[a])\/(∃a b,ss=[a,b])\/(∃a b c,ss=[a,b,c])\/(∃a b c d,ss=[a,b,c,d]):=by
 match ss,h0,h1 with
 | [a],_,_=>simp_all
 | [a,b],_,_=>simp_all
 | [a,b,c],_,_=>simp_all
 | [a,b,c,d],_,_=>simp_all
theorem zU{P:Nat->Prop}(h0:P 0):∀i,i < 1->P i:=by
 simp_all
theorem DO{P:Nat->Prop}(h0:P 0) (h1:P 1):∀i,i < 2->P i:=by
 grind
theorem JL{P:Nat->Prop}(h0:P 0) (h1:P 1) (h2:P 2):∀i,i < 3->P i:=by
 grind
theorem OW{P:Nat->Prop}(h0:P 0) (h1:P 1) (h2:P 2) (h3:P 3):∀i,i < 4->P i:=by
 grind
def Oi(b s:Int):Prop:=0<=b/\b+s<=512
def gX(b s b' s':Int):Prop:=¬ (b<=b'+s'/\b'<=b+s)
theorem LV1{a x:Int}(hv:VS [a]) (h:Oi x a):LV [x] [a]:=
 ⟨hv,rfl,zU ⟨h.1,h.2,λk hk=>by omega⟩⟩
theorem LV2{a b x y:Int}(hv:VS [a,b]) (h:Oi x a) (h':Oi y b) (h1:gX y b x a):LV [x,y] [a,b]:=
 ⟨hv,rfl,DO ⟨h.1,h.2,λk hk=>by omega⟩ ⟨h'.1,h'.2,zU h1⟩⟩
theorem LV3{a b c x y z:Int}(hv:VS [a,b,c]) (h:Oi x a) (h':Oi y b) (h'':Oi z c) (h1:gX y b x a) (h2:gX z c x a) (h3:gX z c y b):LV [x,y,z] [a,b,c]:=
 ⟨hv,rfl,JL ⟨h.1,h.2,λk hk=>by omega⟩ ⟨h'.1,h'.2,zU h1⟩ ⟨h''.1,h''.2,DO h2 h3⟩⟩
theorem LV4{a b c d x y z u:Int}(hv:VS [a,b,c,d]) (h:Oi x a) (h':Oi y b) (h'':Oi z c) (h''':Oi u d) (h1:gX y b x a) (h2:gX z c x a) (h3:gX z c y b) (h4:gX u d x a) (h5:gX u d y b) (h6:gX u d z c):LV [x,y,z,u] [a,b,c,d]:=
 ⟨hv,rfl,OW ⟨h.1,h.2,λk hk=>by omega⟩ ⟨h'.1,h'.2,zU h1⟩ ⟨h''.1,h''.2,DO h2 h3⟩ ⟨h'''.1,h'''.2,JL h4 h5 h6⟩⟩
theorem S2{ss:List Int}(hv:VS ss) {seed:Int}(hs:0<=seed):LV (mkB ss seed) ss:=by
 have Yo:=hv;rcases Nk hv.1 hv.2.1 with ⟨a,rfl⟩ | ⟨a,b,rfl⟩ | ⟨a,b,c,rfl⟩ | ⟨a,b,c,d,rfl⟩
 ·obtain⟨_,_,hx⟩:=hv;have ha:=hx a (by simp)
  have e0:(((0:Nat):Int)+seed) % 1=0:=by omega
  have hB:mkB [a] seed=[1+seed / 1 % 50]:=by simp[mkB,uH,List.replicate]
  rw[hB];exact LV1 Yo ⟨by omega,by omega⟩
 ·obtain⟨_,_,hx⟩:=hv;have ha:=hx a (by simp);have hb:=hx b (by simp);rcases (show seed % 2=0\/seed % 2=1 by omega) with ht | ht
  ·have e1:(1+seed) % 2=1:=by omega
   simp only[mkB,uH,oLC,List.length_nil,List.replicate];simp[ht,e1];exact LV2 Yo ⟨by omega,by omega⟩ ⟨by omega,by omega⟩ (by unfold gX;omega)
  ·have e1:(1+seed) % 2=0:=by omega
   simp only[mkB,uH,oLC,List.length_nil,List.replicate];simp[ht,e1];exact LV2 Yo ⟨by omega,by omega⟩ ⟨by omega,by omega⟩ (by unfold gX;omega)
 ·obtain⟨_,_,hx⟩:=hv;have ha:=hx a (by simp);have hb:=hx b (by simp);have hc:=hx c (by simp);rcases (show seed % 3=0\/seed % 3=1\/seed % 3=2 by omega) with ht | ht | ht
  ·have e1:(1+seed) % 3=1:=by omega
   have e2:(2+seed) % 3=2:=by omega
   simp only[mkB,uH,oLC,List.length_nil,List.replicate];simp[ht,e1,e2];exact LV3 Yo ⟨by omega,by omega⟩ ⟨by omega,by omega⟩ ⟨by omega,by omega⟩ (by unfold gX;omega) (by unfold gX;omega) (by unfold gX;omega)
  ·have e1:(1+seed) % 3=2:=by omega
   have e2:(2+seed) % 3=0:=by omega
   simp only[mkB,uH,oLC,List.length_nil,List.replicate];simp[ht,e1,e2];exact LV3 Yo ⟨by omega,by omega⟩ ⟨by omega,by omega⟩ ⟨by omega,by omega⟩ (by unfold gX;omega) (by unfold gX;omega) (by unfold gX;omega)
  ·have e1:(1+seed) % 3=0:=by omega
   have e2:(2+seed) % 3=1:=by omega
   simp only[mkB,uH,oLC,List.length_nil,List.replicate];simp[ht,e1,e2];exact LV3 Yo ⟨by omega,by omega⟩ ⟨by omega,by omega⟩ ⟨by omega,by omega⟩ (by unfold gX;omega) (by unfold gX;omega) (by unfold gX;omega)
 ·obtain⟨_,_,hx⟩:=hv;have ha:=hx a (by simp);have hb:=hx b (by simp);have hc:=hx c (by simp);have hd:=hx d (by simp)
  have hq:∀q g:Int,q=1+seed / 4 % 50->g=seed / (50*4) % 40->1<=q/\q<=50/\0<=g/\g < 40:=λq g e e'=>by subst e;subst e';omega
  rcases (show seed % 4=0\/seed % 4=1\/seed % 4=2\/seed % 4=3 by omega) with ht | ht | ht | ht
  ·have e1:(1+seed) % 4=1:=by omega
   have e2:(2+seed) % 4=2:=by omega
   have e3:(3+seed) % 4=3:=by omega
   simp only[mkB,uH,oLC,List.length_nil,List.replicate];simp[ht,e1,e2,e3];exact LV4 Yo ⟨by omega,by omega⟩ ⟨by omega,by omega⟩ ⟨by omega,by omega⟩ ⟨by omega,by omega⟩ (by unfold gX;omega) (by unfold gX;omega) (by unfold gX;omega) (by unfold gX;omega) (by unfold gX;omega) (by unfold gX;omega)
  ·have e1:(1+seed) % 4=2:=by omega
   have e2:(2+seed) % 4=3:=by omega
   have e3:(3+seed) % 4=0:=by omega
   simp only[mkB,uH,oLC,List.length_nil,List.replicate];simp[ht,e1,e2,e3];exact LV4 Yo ⟨by omega,by omega⟩ ⟨by omega,by omega⟩ ⟨by omega,by omega⟩ ⟨by omega,by omega⟩ (by unfold gX;omega) (by unfold gX;omega) (by unfold gX;omega) (by unfold gX;omega) (by unfold gX;omega) (by unfold gX;omega)
  ·have e1:(1+seed) % 4=3:=by omega
   have e2:(2+seed) % 4=0:=by omega
   have e3:(3+seed) % 4=1:=by omega
   simp only[mkB,uH,oLC,List.length_nil,List.replicate];simp[ht,e1,e2,e3];exact LV4 Yo ⟨by omega,by omega⟩ ⟨by omega,by omega⟩ ⟨by omega,by omega⟩ ⟨by omega,by omega⟩ (by unfold gX;omega) (by unfold gX;omega) (by unfold gX;omega) (by unfold gX;omega) (by unfold gX;omega) (by unfold gX;omega)
  ·have e1:(1+seed) % 4=0:=by omega
   have e2:(2+seed) % 4=1:=by omega
   have e3:(3+seed) % 4=2:=by omega
   simp only[mkB,uH,oLC,List.length_nil,List.replicate];simp[ht,e1,e2,e3];exact LV4 Yo ⟨by omega,by omega⟩ ⟨by omega,by omega⟩ ⟨by omega,by omega⟩ ⟨by omega,by omega⟩ (by unfold gX;omega) (by unfold gX;omega) (by unfold gX;omega) (by unfold gX;omega) (by unfold gX;omega) (by unfold gX;omega)
theorem K8{α:Type}(l:List α) (i:Nat) (a:α):List.modify l i (λ_=>a)=l.set i a:=by
 apply List.ext_getElem?
 grind
theorem Ri{s:List Int}{seed:Int}(hs:yh s) (h0:0<=seed) (h1:seed<=1073741824):Ok (pH s seed) λr=>∃key,r=(mkB s seed,key,0,())/\W16 key:=by
 obtain⟨hs1,XA,hsz⟩:=id hs;unfold pH;delta dN
 try dsimp only
 refine Ok.bind (P:=λr=>r=(s,seed,false,(),0,())) ?_ ?_
 ·refine (HX (by omega)).bind ?_;rintro⟨v,_⟩ hv;have hv:v=true:=hv.2 hs;subst hv;simp only[oNT,oCF]
  (with_reducible refine dJ (λZ3=>?_) λZ3=>?_)
  ·omega
  ·exact Ok.ret (by rw[oDF (by omega)])
 rintro _ rfl;dsimp only;refine Ok.cond (λh=>by cases h) λ_=>?_;rw[dO];simp only[oBS];refine dK (by unfold uy;rw[oBA];exact⟨oDT rfl,oDT (by omega)⟩) ?_;refine dK (by rw[bne_iff_ne];omega) ?_;have YR:Int.tdiv seed s.length=seed / s.length:=Int.tdiv_eq_ediv_of_nonneg h0;have hq:0<=seed / (s.length:Int)/\seed / (s.length:Int)<=seed:=⟨Int.ediv_nonneg h0 (by omega),Int.ediv_le_self _ h0⟩;have hm1:Int.tmod (seed / (s.length:Int)) 50=seed / (s.length:Int) % 50:=Int.tmod_eq_emod_of_nonneg hq.1;rw[YR,dS (x:=seed / (s.length:Int)) (by omega) (by omega),hm1,dS (x:=1+seed / (s.length:Int) % 50) (by omega) (by omega)]
 have X7:W16 (wk .u16 (w64 (40503*seed))):=by
  unfold wk;rw[DE];exact⟨by omega,by omega⟩
 generalize wk .u16 (w64 (40503*seed))=key at X7
 refine Ok.loop (P:=λs'=>∃k:Nat,s'=(s,seed,(s.length:Int),(uH s seed k).2,(s.length:Int),(k:Int),(),0,(uH s seed k).1,key,())/\k<=s.length) (R:=λr=>∃a b c d e f g h,r=(a,b,c,d,e,f,g,(),h,(uH s seed s.length).1,key,()))
  (m:=λs'=>(s'.2.2.2.2.1 - s'.2.2.2.2.2.1).toNat) ⟨0,rfl,by omega⟩ (by unfold NN;dsimp only;omega) ?_ ?_
 ·rintro _ ⟨k,rfl,hk⟩;unfold sX;dsimp only;have hb:=Rg hs h0 k
  (with_reducible refine dJ (λhcc=>?_) λhcc=>?_)
  ·have hr:=P5 (k:=k) (seed:=seed) hs1;rw[dS (x:=(k:Int)+seed) (by omega) (by omega)];refine dK (by rw[bne_iff_ne];omega) ?_;rw[Int.tmod_eq_emod_of_nonneg (show 0<=(k:Int)+seed by omega)];refine Ok.nat hr.1 λr V2=>?_;have hl:=Pf s seed k;refine Ok.get (by omega) λx hx=>?_;refine Ok.get (by omega) λy hy=>?_;refine Ok.nat hr.1 λr2 hrr2=>?_
   have:r2=r:=by omega
   subst this;refine Ok.get (by omega) λz hz=>?_;have X4:=hsz z (dR hz);rw[dS (x:=z+1) (by omega) (by omega),dS (x:=50*(s.length:Int)) (by omega) (by omega)];refine dK (by rw[bne_iff_ne];omega) ?_;have hd2:Int.tdiv seed (50*(s.length:Int))=seed / (50*s.length):=Int.tdiv_eq_ediv_of_nonneg h0;have Yw:0<=seed / (50*(s.length:Int))/\seed / (50*(s.length:Int))<=seed:=⟨Int.ediv_nonneg h0 (by omega),Int.ediv_le_self _ h0⟩;have VU:Int.tmod (seed / (50*(s.length:Int))) 40=seed / (50*s.length) % 40:=Int.tmod_eq_emod_of_nonneg Yw.1;rw[hd2,dS (x:=seed / (50*(s.length:Int))) (by omega) (by omega),VU];generalize hg:seed / (50*(s.length:Int)) % 40=g
   have ZG:0<=g/\g < 40:=by omega
   rw[dS (x:=z+1+g) (by omega) (by omega),dS (x:=(uH s seed k).2+(z+1+g)) (by omega) (by omega),dS (x:=(k:Int)+1) (by omega) (by omega),K8]
   have e1:(uH s seed (k+1)).1=(uH s seed k).1.set r2 (uH s seed k).2:=by
    simp only[uH];rw[V2];rfl
   have e2:(uH s seed (k+1)).2=(uH s seed k).2+(z+1+g):=by
    simp only[uH];rw[V2,hg,oTN,oGD,hz];rfl
   refine Ok.ret ⟨⟨k+1,?_,by omega⟩,by dsimp only;omega⟩;rw[e1,e2];rfl
  ·have:k=s.length:=by omega
   subst this;exact Ok.ret ⟨_,_,_,_,_,_,_,_,rfl⟩
 ·rintro _ ⟨a,b,c,d,e,f,g,h,rfl⟩;exact Ok.ret ⟨key,rfl,X7⟩
theorem mW{S T:Type}{f:S->Option (S⊕T)}(st:Nat->S) {n N:Nat}{t:T}(hn:n < N) (h:∀i,i < n->Ok (f (st i)) (·=.inl (st (i+1)))) (he:Ok (f (st n)) (·=.inr t)):dU f N (st 0)=some t:=by
 have key:∀k i,i+k=n->∀N,k < N->dU f N (st i)=some t:=by
  intro k
  induction k with
  | zero=>
   intro i hi N hN;obtain⟨x,e,hx⟩:=he
   have:i=n:=by omega
   subst this;obtain⟨N',rfl⟩:∃N',N=N'+1:=⟨N - 1,by omega⟩;simp[dU,e,hx]
  | succ k ih=>
   intro i hi N hN;have ⟨x,e,hx⟩:=h i (by omega);obtain⟨N',rfl⟩:∃N',N=N'+1:=⟨N - 1,by omega⟩;simp[dU,e,hx];exact ih (i+1) (by omega) N' (by omega)
 simp_all
theorem eV{α:Type}{o:Option α}{a:α}(h:Ok o (·=a)):o=some a:=by
 obtain⟨x,e,rfl⟩:=h;exact e
theorem ew{l:List Int}{k:Nat}{x:Int}(h:l[k]?=some x):l.getD k 0=x:=by simp_all
theorem CZ{s:List Int}(h:yh s):fS s=some (true,()):=by
 have ⟨⟨v,u⟩,e,hv⟩:=HX (s:=s) (by have:=h.2.1;omega)
 simp_all
theorem ub{bs ss:List Int}{key:Int}(h:LV bs ss):iY bs key ss=some (true,()):=by
 obtain⟨hs,hl,hr⟩:=h;have h4:=hs.2.1;unfold iY;rw[CZ hs];delta dN;simp only[oBS,oNT,oCF,hl,bne_self_eq_false]
 have e:dU kJ NN (ss,bs,(ss.length:Int),0,bs,key,())=some (.inr (ss,bs,(ss.length:Int),(ss.length:Int),false,bs,key,())):=by
  refine mW (st:=λi=>(ss,bs,(ss.length:Int),(i:Int),bs,key,())) (n:=ss.length) (by unfold NN;omega) ?_ ?_
  ·intro i hi;unfold kJ;dsimp only;have hri:=hr i (by omega);unfold yi at hri
   (with_reducible refine dJ (λZ'=>?_) λZ'=>?_)
   ·rw[dO];simp only[oBS];refine Ok.get (by omega) λb hb=>?_;rw[ew hb] at hri
    (with_reducible refine dJ (λZ3=>?_) λZ3=>?_)
    ·omega
    ·refine Ok.get (by omega) λz hz=>?_;rw[ew hz] at hri;have X4:=hs.2.2 z (dR hz)
     (simp (disch:=omega) only [dS,ef,d7,dZ])
     (with_reducible refine dJ (λhcc=>?_) λhcc=>?_)
     ·omega
     ·refine dK (by unfold iQ;simp;omega) ?_
      have Ux:(m8 bs 0 (Nat.sub i 0)).length=i:=by unfold m8;rw[oLT,List.drop_zero];show min i _=i;omega
      rw[Ux]
      have e:dU kK NN (ss,(i:Int),b,bs,(ss.length:Int),(i:Int),m8 bs 0 (Nat.sub i 0),(i:Int),0,bs,key,())=some (.inr (ss,(i:Int),b,bs,(ss.length:Int),(i:Int),m8 bs 0 (Nat.sub i 0),(i:Int),(i:Int),false,bs,key,())):=by
       refine mW (st:=λj=>(ss,(i:Int),b,bs,(ss.length:Int),(i:Int),m8 bs 0 (Nat.sub i 0),(i:Int),(j:Int),bs,key,())) (n:=i) (by unfold NN;omega) ?_ ?_
       ·intro j hj;unfold kK;dsimp only
        (with_reducible refine dJ (λZ'=>?_) λZ'=>?_)
        ·rw[dO,dO];simp only[oBS]
         have hx:(dM (m8 bs 0 (Nat.sub i 0)) j)=bs[j]?:=by
          unfold dM m8;rw[List.getElem?_take,List.drop_zero];exact oIP hj
         rw[hx];obtain⟨c,hc⟩:∃c,bs[j]?=some c:=⟨_,oGE (by omega)⟩;obtain⟨y,hy⟩:∃y,ss[j]?=some y:=⟨_,oGE (by omega)⟩;have WZ:=hs.2.2 y (dR hy);have XL:dM ss i=some z:=hz;have WP:dM ss j=some y:=hy;rw[hc,XL,WP];simp only[oBS];have hrj:=(hr j (by omega)).1;have hrj2:=(hr j (by omega)).2.1;rw[ew hc] at hrj hrj2;rw[ew hy] at hrj2;have V9:=hri.2.2 j hj;rw[ew hc,ew hy] at V9;rw[dS (x:=b+z) (by omega) (by omega),dS (x:=c+y) (by omega) (by omega)];by_cases h1:b+z>=c
         ·have h2:¬ c+y>=b:=by omega
          simp only[h1,h2,decide_true,decide_false,oCT,oCF]
          (simp (disch:=omega) only [dS,ef,d7,dZ])
          exact Ok.ret rfl
         ·simp only[h1,decide_false,oCF]
          (simp (disch:=omega) only [dS,ef,d7,dZ])
          exact Ok.ret rfl
        ·omega
       ·unfold kK;dsimp only
        (with_reducible refine dJ (λZ'=>?_) λZ'=>?_)
        ·omega
        ·exact Ok.ret rfl
      rw[e]
      (simp (disch:=omega) only [dS,ef,d7,dZ])
      exact Ok.ret rfl
   ·omega
  ·unfold kJ;dsimp only
   (with_reducible refine dJ (λZ'=>?_) λZ'=>?_)
   ·omega
   ·exact Ok.ret rfl
 rw[e]
theorem Nv{n m o a b c i:Int}(h:je n m (o,a,b,c,i)) (hn:n<=4) (hm:m<=64):nU o a b c i=some (true,()):=by
 obtain⟨⟨o0,o1⟩,⟨a0,a1,a2⟩,⟨b0,b1,b2⟩,⟨c0,c1,c2⟩,⟨i0,i1,i2⟩,hl,hs,hj⟩:=h;dsimp only at *
 have Yr:∀(k:Nat) (x:Int) (u:Bool),k < 3->[a,b,c][k]?=some x->(k=0->u=ql o)->(k=1->u=q8 o)->(k=2->u=qk o)->0<=x->x < 8->(u=false->x=0) ->
  Ok (kH (3,(k:Int),o,a,b,c,i,ql o,q8 o,qk o,qj o,[a,b,c],())) (·=.inl (3,((k+1:Nat):Int),o,a,b,c,i,ql o,q8 o,qk o,qj o,[a,b,c],())):=by
  intro k x u hk hx h0 h1 h2 hx0 Z2 Yp;unfold kH;dsimp only
  (with_reducible refine dJ (λZ'=>?_) λZ'=>?_)
  ·rw[dO];simp only[oBS];rw[show dM [a,b,c] k=some x from hx];simp only[oBS];rw[oDF (show ¬ x < 0 by omega),oDF (show ¬ x>=8 by omega)];simp only[oCF];have ZY:Ok (some ((3:Int),(k:Int),false,o,a,b,c,i,ql o,q8 o,qk o,qj o,[a,b,c],())) (·=((3:Int),(k:Int),false,o,a,b,c,i,ql o,q8 o,qk o,qj o,[a,b,c],())):=Ok.ret rfl
   have UD:u=false->(x != 0)=false:=λh=>by rw[Yp h];rfl
   refine Ok.bind (P:=(·=((3:Int),(k:Int),false,o,a,b,c,i,ql o,q8 o,qk o,qj o,[a,b,c],()))) ?_ ?_
   ·rcases (show k=0\/k=1\/k=2 by omega) with rfl | rfl | rfl
    ·rw[<- h0 rfl] at ZY ⊢;refine dK rfl ?_;refine Ok.cond (λhu=>?_) λ_=>ZY;rw[UD (by simpa using hu)];exact ZY
    ·rw[<- h1 rfl] at ZY ⊢;refine Ok.cond (λhu=>by cases hu) λ_=>dK rfl (Ok.cond (λhu=>?_) λ_=>ZY);rw[UD (by simpa using hu)];exact ZY
    ·rw[<- h2 rfl] at ZY ⊢;refine Ok.cond (λhu=>by cases hu) λ_=>Ok.cond (λhu=>by cases hu) λ_=>dK rfl (Ok.cond (λhu=>?_) λ_=>ZY);rw[UD (by simpa using hu)];exact ZY
   ·rintro _ rfl;dsimp only;rw[dS (x:=(k:Int)+1) (by omega) (by omega)];exact Ok.ret rfl
  ·omega
 have e:dU kH NN (3,0,o,a,b,c,i,ql o,q8 o,qk o,qj o,[a,b,c],())=some (.inr (3,3,false,o,a,b,c,i,ql o,q8 o,qk o,qj o,[a,b,c],())):=by
  refine mW (st:=λk=>(3,(k:Int),o,a,b,c,i,ql o,q8 o,qk o,qj o,[a,b,c],())) (n:=3) (by unfold NN;omega) ?_ ?_
  ·intro k hk;rcases (show k=0\/k=1\/k=2 by omega) with rfl | rfl | rfl
   ·exact Yr 0 a _ (by omega) rfl (λ_=>rfl) (by omega) (by omega) a0 a1 a2
   ·exact Yr 1 b _ (by omega) rfl (by omega) (λ_=>rfl) (by omega) b0 b1 b2
   ·exact Yr 2 c _ (by omega) rfl (by omega) (by omega) (λ_=>rfl) c0 c1 c2
  ·exact Ok.ret rfl
 refine eV ?_;unfold nU;rw[oDF (show ¬ o < 0 by omega),oDF (show ¬ o > 24 by omega),HY o0 o1];simp only[oCF,oBS];rw[show dN [a,b,c].length=3 from rfl,e];dsimp only;rw[oDF (show ¬ i < 0 by omega),oDF (show ¬ i > 65535 by omega)];simp only[oCF];refine Ok.bind (P:=(·=(false,o,a,b,c,i,()))) ?_ ?_
 ·refine Ok.cond (λhu=>?_) λ_=>Ok.ret rfl;exact Ok.ret (by rw[i2 (by simpa using hu)];rfl)
 rintro _ rfl;dsimp only;rw[vn];simp only[oCF,oBS];refine Ok.cond (λhu=>?_) λ_=>?_
 ·exact Ok.ret (by rw[oDT (by have:=hj hu;omega)])
 ·(with_reducible refine dJ (λhcc=>?_) λhcc=>?_)
  ·exact Ok.ret (by rw[oDT (by have:=hl hcc;omega)])
  ·(with_reducible refine dJ (λXp=>?_) λXp=>?_)
   ·exact Ok.ret (by rw[oDT (by have:=hs Xp;omega)])
   ·exact Ok.ret rfl
theorem Ag{code:List DIn}{s:List Int}{d:List (List Int)}(h:lf code s d):iX code s d=some (0,()):=by
 have hs:=h.sz;have XA:=hs.2.1;have hc:=h.clen;have hl:=h.len
 have e0:dU kG NN (d,(d.length:Int),0,code,s,d,())=some (.inr (d,(d.length:Int),(d.length:Int),false,code,s,d,())):=by
  refine mW (st:=λk=>(d,(d.length:Int),(k:Int),code,s,d,())) (n:=d.length) (by unfold NN;omega) ?_ ?_
  ·intro k hk;unfold kG;dsimp only
   (with_reducible refine dJ (λZ'=>?_) λZ'=>?_)
   ·rw[dO];delta dN;simp only[oBS];refine Ok.get (by omega) λx hx=>?_;refine Ok.get (by omega) λy hy=>?_;have:=h.fit k x y hx hy
    (with_reducible refine dJ (λZ3=>?_) λZ3=>?_)
    ·omega
    ·(simp (disch:=omega) only [dS,ef,d7,dZ])
     exact Ok.ret rfl
   ·omega
  ·unfold kG;dsimp only
   (with_reducible refine dJ (λZ'=>?_) λZ'=>?_)
   ·omega
   ·exact Ok.ret rfl
 have e1:dU kF NN (code,(code.length:Int),0,code,s,d,())=some (.inr (code,(code.length:Int),(code.length:Int),false,code,s,d,())):=by
  refine mW (st:=λk=>(code,(code.length:Int),(k:Int),code,s,d,())) (n:=code.length) (by unfold NN;omega) ?_ ?_
  ·intro k hk;unfold kF;dsimp only
   (with_reducible refine dJ (λZ'=>?_) λZ'=>?_)
   ·rw[dO];simp only[oBS];refine Ok.get (by omega) λx hx=>?_;obtain⟨o,a,b,c,i⟩:=x;rw[Nv (h.ins _ (dR hx)) (by omega) (by omega)]
    (simp (disch:=omega) only [dS,ef,d7,dZ])
    exact Ok.ret rfl
   ·omega
  ·unfold kF;dsimp only
   (with_reducible refine dJ (λZ'=>?_) λZ'=>?_)
   ·omega
   ·exact Ok.ret rfl
 have e3:dU kE NN (code,(code.length:Int),0,code,s,d,())=some (.inr (code,(code.length:Int),(code.length:Int),false,code,s,d,())):=by
  refine mW (st:=λk=>(code,(code.length:Int),(k:Int),code,s,d,())) (n:=code.length) (by unfold NN;omega) ?_ ?_
  ·intro k hk;unfold kE;dsimp only
   (with_reducible refine dJ (λZ'=>?_) λZ'=>?_)
   ·rw[dO];simp only[oBS];refine Ok.get (by omega) λx hx=>?_;have hp:=h.ins x (dR hx);rw[vn];simp only[oBS];refine Ok.bind (P:=(·=(code,(code.length:Int),(k:Int),false,code,s,d,()))) ?_ ?_
    ·refine Ok.cond (λhj=>?_) λ_=>?_
     ·have:=hp.jmp hj
      (with_reducible refine dJ (λZ3=>?_) λZ3=>?_)
      ·have Z3:x.2.2.2.2>=(code.length:Int):=Z3;omega
      ·(with_reducible refine dJ (λhcc=>?_) λhcc=>?_)
       ·exact Ok.ret (by rw[oDF (show ¬ x.2.2.2.2>=dN s.length by rw[dZ];have:=hp.lea hcc;omega)])
       ·exact Ok.ret rfl
     ·(with_reducible refine dJ (λhcc=>?_) λhcc=>?_)
      ·exact Ok.ret (by rw[oDF (show ¬ x.2.2.2.2>=dN s.length by rw[dZ];have:=hp.lea hcc;omega)])
      ·exact Ok.ret rfl
    ·rintro _ rfl;dsimp only;simp only[oCF]
     (simp (disch:=omega) only [dS,ef,d7,dZ])
     exact Ok.ret rfl
   ·omega
  ·unfold kE;dsimp only
   (with_reducible refine dJ (λZ'=>?_) λZ'=>?_)
   ·omega
   ·exact Ok.ret rfl
 refine eV ?_;unfold iX;rw[CZ hs];delta dN;simp only[oBS,oNT,oCF,hl,bne_self_eq_false];rw[hl] at e0;rw[e0];dsimp only
 (with_reducible refine dJ (λZ'=>?_) λZ'=>?_)
 ·omega
 ·(with_reducible refine dJ (λZ3=>?_) λZ3=>?_)
  ·omega
  ·rw[e1];dsimp only;rw[e3];exact Ok.ret rfl
def RK(bs ss:List Int) (a:Int):Prop:=∃(j:Nat) (b z:Int),bs[j]?=some b/\ss[j]?=some z/\b<=a/\a < b+z
def o7(K:Int->Prop) (c:DCe):Prop:=0<=c.1/\c.1<=2/\0<=c.2/\c.2<=65535/\(c.1=1->K c.2)
theorem o7.mono{K K':Int->Prop}{c:DCe}(h:o7 K c) (hk:∀a,K a->K' a):o7 K' c:=⟨h.1,h.2.1,h.2.2.1,h.2.2.2.1,λe=>hk _ (h.2.2.2.2 e)⟩
theorem nn{K:Int->Prop}{v:Int}(h:0<=v/\v<=65535):o7 K (0,v):=⟨by omega,by omega,h.1,h.2,λe=>absurd (show (0:Int)=1 from e) (by decide)⟩
def S1(K:Int->Prop) (i:Nat) (x:DLn):Prop:=(x.1=-1/\x.2.1=false/\x.2.2=[])\/(0<=x.1/\x.1 < 128/\x.1 % 4=i/\x.2.2.length=4/\∀c∈x.2.2,o7 K c)
def Tg(cs:List DCe) (x:DLn):Prop:=x.1=-1\/x.2.1=true\/∀o:Nat,o < 4->cs[(x.1*4).toNat+o]?=x.2.2[o]?
structure lh (K:Int->Prop) (cs:List DCe) (ls:List DLn):Prop where
 clen:cs.length=512
 cells:∀c∈cs,o7 K c
 llen:ls.length=4
 lines:∀(i:Nat) x,ls[i]?=some x->S1 K i x
 coh:∀(i:Nat) x,ls[i]?=some x->Tg cs x
structure BO (K:Int->Prop) (n:Int) (t:DTh):Prop where
 state:0<=t.1/\t.1<=4
 len:t.2.1.length=8
 regs:∀c∈t.2.1,o7 K c
 pc:0<=t.2.2.1/\t.2.2.1<=255
 count:0<=t.2.2.2.1/\t.2.2.2.1<=n
 handler:-1<=t.2.2.2.2.1/\t.2.2.2.2.1<=255
 saved:-1<=t.2.2.2.2.2.1/\t.2.2.2.2.2.1<=255
 trap:0<=t.2.2.2.2.2.2.1/\t.2.2.2.2.2.2.1<=6
 code:W16 t.2.2.2.2.2.2.2
structure MOk (n:Int) (ss bs:List Int) (cs:List DCe) (ls:List DLn) (ts:List DTh):Prop where
 lay:LV bs ss
 mem:lh (RK bs ss) cs ls
 tlen:ts.length=4
 thr:∀t∈ts,BO (RK bs ss) n t
theorem Ko{K:Int->Prop}{l:List DCe}(hl:l.length<=1000) (h:∀c∈l,o7 K c):oH l=some (true,()):=by
 have e:dU mO NN (l,(l.length:Int),0,())=some (.inr (l,(l.length:Int),(l.length:Int),false,())):=by
  refine mW (st:=λk=>(l,(l.length:Int),(k:Int),())) (n:=l.length) (by unfold NN;omega) ?_ ?_
  ·intro k hk;unfold mO
   (with_reducible refine dJ (λZ'=>?_) λZ'=>?_)
   ·rw[dO];refine Ok.get (by omega) λx hx=>?_;have:=h x (dR hx);unfold lJ;rw[oDT (show x.1<=2 from this.2.1)]
    (simp (disch:=omega) only [dS,ef,d7,dZ])
    exact Ok.ret rfl
   ·omega
  ·unfold mO
   (with_reducible refine dJ (λZ'=>?_) λZ'=>?_)
   ·omega
   ·exact Ok.ret rfl
 refine eV ?_;unfold oH;delta dN
 try dsimp only
 rw[e];exact Ok.ret rfl
theorem Ky{K:Int->Prop}{cs:List DCe}{ls:List DLn}(h:lh K cs ls):nV cs ls=some (true,()):=by
 obtain⟨h1,h2,h3,h4,_⟩:=h
 have e:dU kI NN (ls,4,0,cs,ls,())=some (.inr (ls,4,4,false,cs,ls,())):=by
  refine mW (st:=λk=>(ls,4,(k:Int),cs,ls,())) (n:=4) (by unfold NN;omega) ?_ ?_
  ·intro k hk;unfold kI;dsimp only
   (with_reducible refine dJ (λZ'=>?_) λZ'=>?_)
   ·rw[dO];simp only[oBS];refine Ok.get (by omega) λx hx=>?_;rcases h4 k x hx with ⟨e1,e2,e3⟩ | ⟨g1,g2,g3,g4,g5⟩
    ·rw[e1,e2,e3]
     (simp (disch:=omega) only [dS,ef,d7,dZ])
     exact Ok.ret rfl
    ·rw[show (x.1==-1)=false by rw[beq_eq_false_iff_ne];omega,oDF (show ¬ x.1 < 0 by omega),oDF (show ¬ x.1>=128 by omega),Int.tmod_eq_emod_of_nonneg g1,g3,g4,Ko (by omega) g5];simp;refine Ok.bind (P:=(·=(ls,4,(k:Int),false,cs,ls,()))) ?_ ?_
     ·refine Ok.cond (λh=>by cases h) λ_=>Ok.ret rfl
     ·rintro _ rfl;dsimp only;simp only[oCF]
      (simp (disch:=omega) only [dS,ef,d7,dZ])
      exact Ok.ret rfl
   ·omega
  ·unfold kI;exact Ok.ret rfl
 refine eV ?_;unfold nV;delta dN;simp only[h1,h3,Ko (show cs.length<=1000 by omega) h2,oBS,oNT];refine Ok.bind (P:=(·=(false,cs,ls,()))) ?_ ?_
 ·exact Ok.ret rfl
 ·rintro _ rfl;dsimp only;simp only[oCF];rw[h3,show ((4:Nat):Int)=4 from rfl,e];exact Ok.ret rfl
theorem Kx{K:Int->Prop}{t:DTh}(h:BO K 1099511627776 t):nR t.1 t.2.1 t.2.2.1 t.2.2.2.1 t.2.2.2.2.1 t.2.2.2.2.2.1 t.2.2.2.2.2.2.1 t.2.2.2.2.2.2.2=some (true,()):=by
 obtain⟨⟨a1,a2⟩,hl,hr,⟨b1,b2⟩,⟨c1,c2⟩,⟨d1,d2⟩,⟨e1,e2⟩,⟨f1,f2⟩,_⟩:=h;obtain⟨s,rs,pc,ct,ha,sa,tr,co⟩:=t;dsimp only at *
 have e:dU kD NN (rs,(rs.length:Int),0,s,rs,pc,ct,ha,sa,tr,co,())=some (.inr (rs,(rs.length:Int),(rs.length:Int),false,s,rs,pc,ct,ha,sa,tr,co,())):=by
  refine mW (st:=λk=>(rs,(rs.length:Int),(k:Int),s,rs,pc,ct,ha,sa,tr,co,())) (n:=rs.length) (by unfold NN;omega) ?_ ?_
  ·intro k hk;unfold kD
   (with_reducible refine dJ (λZ'=>?_) λZ'=>?_)
   ·rw[dO];refine Ok.get (by omega) λx hx=>?_;have:=hr x (dR hx);unfold lJ;rw[oDT (show x.1<=2 from this.2.1)]
    (simp (disch:=omega) only [dS,ef,d7,dZ])
    exact Ok.ret rfl
   ·omega
  ·unfold kD
   (with_reducible refine dJ (λZ'=>?_) λZ'=>?_)
   ·omega
   ·exact Ok.ret rfl
 refine eV ?_;unfold nR;delta dN
 try dsimp only
 rw[e];dsimp only;rw[hl];refine dK (oDT a1) (dK (oDT a2) (dK rfl (dK (oDT b1) (dK (oDT b2) (dK (oDT c1) (dK (oDT c2) (dK (oDT d1) (dK (oDT d2) (dK (oDT e1) (dK (oDT e2) (dK (oDT f1) ?_)))))))))));exact Ok.ret (by simp_all)
theorem xp{code:List DIn}{ss bs:List Int}{d:List (List Int)}{n key:Int}{cs:List DCe}{ls:List DLn}{ts:List DTh}(hp:lf code ss d) (h:MOk n ss bs cs ls ts) (hn:n<=1099511627776):jT code ss d bs key cs ls ts=some (true,()):=by
 have ⟨h1,h2,h3,h4⟩:=h
 have e:dU nC NN (ts,4,0,bs,key,cs,ls,ts,())=some (.inr (ts,4,4,false,bs,key,cs,ls,ts,())):=by
  refine mW (st:=λk=>(ts,4,(k:Int),bs,key,cs,ls,ts,())) (n:=4) (by unfold NN;omega) ?_ ?_
  ·intro k hk;unfold nC
   (with_reducible refine dJ (λZ'=>?_) λZ'=>?_)
   ·rw[dO];refine Ok.get (by omega) λx hx=>?_;have ht:=h4 x (dR hx);rw[Kx ⟨ht.state,ht.len,ht.regs,ht.pc,⟨ht.count.1,by have:=ht.count.2;omega⟩,ht.handler,ht.saved,ht.trap,ht.code⟩]
    (simp (disch:=omega) only [dS,ef,d7,dZ])
    exact Ok.ret rfl
   ·omega
  ·exact Ok.ret rfl
 refine eV ?_;unfold jT;rw[Ag hp,ub h1,Ky h2];delta dN;simp only[oBS,oNT,oCF,bne_self_eq_false,h3];rw[show ((4:Nat):Int)=4 from rfl,e];exact Ok.ret rfl
def fB:List DLn:=[(-1,false,[]),(-1,false,[]),(-1,false,[]),(-1,false,[])]
theorem Kb:nW=some (fB,()):=by kernel_rfl
theorem Hw{K:Int->Prop}{cs:List DCe}(h:cs.length=512) (hc:∀c∈cs,o7 K c):lh K cs fB:=by
 have key:∀(i:Nat) x,fB[i]?=some x->x=(-1,false,[]):=λi x hx=>by
  have:=dR hx;simp[fB] at this;exact this
 exact⟨h,hc,rfl,λi x hx=>by rw[key i x hx];exact .inl ⟨rfl,rfl,rfl⟩,λi x hx=>by rw[key i x hx];exact .inl rfl⟩
theorem jX{α:Type}{P:α->Prop}{l:List α}{i:Nat}{f:α->α}(h:∀x∈l,P x) (hf:∀x,P x->P (f x)):∀x∈List.modify l i f,P x:=by
 intro x hx;have ⟨j,hj⟩:=List.getElem?_of_mem hx
 grind
theorem Rk{code:List DIn}{ss bs:List Int}{d:List (List Int)}{key:Int}(hp:lf code ss d) (hl:LV bs ss):Ok (pF code ss d bs key) λr=>∃cs,r=(cs,fB,0,())/\cs.length=512/\∀c∈cs,o7 (λ_=>False) c:=by
 unfold pF;rw[ub hl,Kb];delta dN;simp only[oBS,oNT,oCF,hp.len,bne_self_eq_false];refine dK (by decide) ?_
 obtain⟨t,e,ht⟩:=gG (f:=oI) (n:=NN) (s:=(d,(ss.length:Int),0,code,ss,d,bs,key,(),(),List.replicate 512 (0,0),fB,()))
  (P:=λs'=>∃k:Nat,∃cs,s'=(d,(ss.length:Int),(k:Int),code,ss,d,bs,key,(),(),cs,fB,())/\k<=ss.length/\cs.length=512/\∀c∈cs,o7 (λ_=>False) c)
  (R:=λr=>∃a b c e cs,r=.inr (a,b,c,e,code,ss,d,bs,key,(),(),cs,fB,())/\cs.length=512/\∀c∈cs,o7 (λ_=>False) c) (m:=λs'=>(s'.2.1 - s'.2.2.1).toNat)
  ⟨0,_,rfl,by omega,List.length_replicate,λc hc=>by rw[List.eq_of_mem_replicate hc];exact nn (by decide)⟩ (by unfold NN;dsimp only;have:=hp.sz.2.1;omega) (by
   rintro _ ⟨k,cs,rfl,hk,ZW,ZP⟩;unfold oI;dsimp only;have hlen:=hp.len;have XA:=hp.sz.2.1
   (with_reducible refine dJ (λZ'=>?_) λZ'=>?_)
   ·rw[dO];delta dN;simp only[oBS];refine Ok.get (by omega) λx hx=>?_;refine Ok.get (by omega) λy hy=>?_;have hf:=hp.fit k x y hx hy;have Xw:=hp.num x (dR hx);obtain⟨_,VE,hr⟩:=hl;have WD:=hr k (by omega);unfold yi at WD;obtain⟨b,hb⟩:∃b,bs[k]?=some b:=⟨_,oGE (by omega)⟩;rw[ew hb,ew hy] at WD
    (with_reducible refine dJ (λZ3=>?_) λZ3=>?_)
    ·omega
    ·refine Ok.loop (P:=λs'=>∃j:Nat,∃cs,s'=((k:Int),d,(ss.length:Int),(k:Int),x,(x.length:Int),(j:Int),code,ss,d,bs,key,(),(),cs,fB,())/\j<=x.length/\cs.length=512/\∀c∈cs,o7 (λ_=>False) c)
      (R:=λr=>∃a b c e cs,r=(a,d,(ss.length:Int),(k:Int),b,c,e,false,code,ss,d,bs,key,(),(),cs,fB,())/\cs.length=512/\∀c∈cs,o7 (λ_=>False) c) (m:=λs'=>(s'.2.2.2.2.2.1 - s'.2.2.2.2.2.2.1).toNat)
      ⟨0,cs,rfl,by omega,ZW,ZP⟩ (by unfold NN;dsimp only;omega) ?_ ?_
     ·rintro _ ⟨j,cs,rfl,hj,ZW,ZP⟩;unfold sW;dsimp only
      (with_reducible refine dJ (λhcc=>?_) λhcc=>?_)
      ·rw[dO,dO];simp only[oBS];refine Ok.get (by omega) λv hv=>?_;have WW:=Xw v (dR hv);rw[show dM bs k=some b from hb];simp only[oBS]
       (simp (disch:=omega) only [dS,ef,d7,dZ])
       refine Ok.nat (by omega) λa ha=>?_;refine Ok.get (by omega) λc hc=>?_;refine Ok.get (by omega) λc' YB=>?_;exact Ok.ret ⟨⟨j+1,_,rfl,by omega,by rw[oLM];exact ZW,jX ZP λz hz=>⟨hz.1,hz.2.1,WW.1,WW.2,hz.2.2.2.2⟩⟩,by dsimp only;omega⟩
      ·exact Ok.ret ⟨_,_,_,_,_,rfl,ZW,ZP⟩
     ·rintro _ ⟨a,b,c,e,cs,rfl,ZW,ZP⟩;dsimp only
      (simp (disch:=omega) only [dS,ef,d7,dZ])
      exact Ok.ret ⟨⟨k+1,_,rfl,by omega,ZW,ZP⟩,by dsimp only;omega⟩
   ·exact Ok.ret ⟨_,_,_,_,_,rfl,ZW,ZP⟩)
 rw[e];obtain⟨a,b,c,e,cs,rfl,ZW,ZP⟩:=ht;exact Ok.ret ⟨cs,rfl,ZW,ZP⟩
theorem R7{K:Int->Prop}:∀c∈List.replicate 8 ((0:Int),(0:Int)),o7 K c:=λc hc=>by rw[List.eq_of_mem_replicate hc];exact nn (by decide)
theorem Qt{K:Int->Prop}{s:Int}(h:0<=s/\s<=4):BO K 0 (s,List.replicate 8 (0,0),0,0,-1,-1,0,0):=
 ⟨h,rfl,R7,⟨by simp_all,by simp_all⟩,⟨by simp_all,by simp_all⟩,⟨by simp_all,by simp_all⟩,⟨by simp_all,by simp_all⟩,⟨by simp_all,by simp_all⟩,⟨by simp_all,by simp_all⟩⟩
theorem Ou{code:List DIn}{ss bs:List Int}{d:List (List Int)}{key:Int}(hp:lf code ss d) (hl:LV bs ss):Ok (nT code ss d bs key) λr=>∃cs ts,r=(bs,key,cs,fB,ts,0,())/\MOk 0 ss bs cs fB ts:=by
 unfold nT;rw[Ag hp,ub hl];refine (Rk hp hl).bind ?_;rintro _ ⟨cs,rfl,ZW,ZP⟩;dsimp only;have VE:=hl.2.1;have XA:=hp.sz.2.1;refine dK (dX (by omega)) ?_
 refine Ok.loop (P:=λs'=>∃k:Nat,∃ts,s'=((k:Int),(),0,(),(),(),bs,key,cs,fB,ts,())/\k<=4/\ts.length=k/\∀t∈ts,BO (RK bs ss) 0 t)
  (R:=λr=>∃a b ts,r=(a,b,(),0,(),(),(),bs,key,cs,fB,ts,())/\ts.length=4/\∀t∈ts,BO (RK bs ss) 0 t) (m:=λs'=>(4 - s'.1).toNat) ⟨0,[],rfl,by omega,rfl,eu⟩ (by unfold NN;dsimp only;omega) ?_ ?_
 ·rintro _ ⟨k,ts,rfl,hk,X3,Y6⟩;unfold si;dsimp only
  (with_reducible refine dJ (λZ'=>?_) λZ'=>?_)
  ·refine dK (by decide) ?_;refine Ok.bind (P:=λr=>∃s,(0<=s/\s<=4)/\r=((k:Int),(),0,(),(),(),bs,key,cs,fB,ts,s,List.replicate 8 (0,0),0,0,-1,-1,0,0,())) ?_ ?_
   ·(with_reducible refine dJ (λZ3=>?_) λZ3=>?_)
    ·exact Ok.ret ⟨1,by decide,rfl⟩
    ·exact Ok.ret ⟨0,by decide,rfl⟩
   ·rintro _ ⟨s,hs,rfl⟩;dsimp only;refine dK (dX (by simp;omega)) ?_
    (simp (disch:=omega) only [dS,ef,d7,dZ])
    exact Ok.ret ⟨⟨k+1,_,rfl,by omega,by rw[ft,X3];rfl,j6 Y6 (all_cons (Qt hs) eu)⟩,by dsimp only;omega⟩
  ·exact Ok.ret ⟨_,_,_,rfl,by omega,Y6⟩
 ·rintro _ ⟨a,b,ts,rfl,X3,Y6⟩;exact Ok.ret ⟨cs,ts,rfl,hl,Hw ZW λc hc=>(ZP c hc).mono λ_ h=>h.elim,X3,Y6⟩
def Pr(ss:List Int) (c:DCn):Prop:=
 ((c.1=0\/c.1=2)/\c.2.2.1=0/\c.2.2.2=0/\W16 c.2.1)\/(c.1=1/\c.2.1=0/\0<=c.2.2.1/\∃n,ss[c.2.2.1.toNat]?=some n/\0<=c.2.2.2/\c.2.2.2 < n)
theorem HE{ss:List Int}{c:DCn}(hs:yh ss) (h:Pr ss c):iS c.1 c.2.1 c.2.2.1 c.2.2.2=some (true,()):=by
 refine eV ?_;unfold iS;rcases h with ⟨h1,h2,h3,_⟩ | ⟨h1,h2,h3,n,h4,h5,h6⟩
 ·rw[h2,h3]
  rcases h1 with h1 | h1<;>rw[h1]<;>exact Ok.ret rfl
 ·have hn:=hs.2.2 n (dR h4);have hl:=(oGS h4).1;have XA:=hs.2.1;rw[h1,h2,show (c.2.2.1==-1)=false by rw[beq_eq_false_iff_ne];omega];refine Ok.cond (λh=>by cases h) λ_=>Ok.cond (λh=>by cases h) λ_=>dK rfl ?_;refine Ok.cond (λh=>by cases h) λ_=>dK rfl ?_;exact dK (oDT h3) (dK (oDT (by omega)) (dK (oDT h5) (Ok.ret (by rw[oDT (show c.2.2.2 < 32 by omega)]))))
theorem k9{ss:List Int}{l:List DCn}{n:Int}(hs:yh ss) (h:∀c∈l,Pr ss c) (hn:(l.length:Int)<=n) (hl:l.length<=1000):ff l n=some (true,()):=by
 have e:dU gY NN (l,n,l,(l.length:Int),0,())=some (.inr (l,n,l,(l.length:Int),(l.length:Int),false,())):=by
  refine mW (st:=λk=>(l,n,l,(l.length:Int),(k:Int),())) (n:=l.length) (by unfold NN;omega) ?_ ?_
  ·intro k hk;unfold gY
   (with_reducible refine dJ (λZ'=>?_) λZ'=>?_)
   ·rw[dO];refine Ok.get (by omega) λx hx=>?_;rw[HE hs (h x (dR hx))]
    (simp (disch:=omega) only [dS,ef,d7,dZ])
    exact Ok.ret rfl
   ·omega
  ·unfold gY
   (with_reducible refine dJ (λZ'=>?_) λZ'=>?_)
   ·omega
   ·exact Ok.ret rfl
 refine eV ?_;unfold ff;delta dN
 try dsimp only
 rw[e];exact Ok.ret (congrArg (λb=>(b,())) (oDT hn))
def RX(d:List (List DCn)) (o:DOp):Prop:=(o.1=-1/\o.2.1=0/\o.2.2=false)\/(0<=o.1/\∃x,d[o.1.toNat]?=some x/\0<=o.2.1/\o.2.1<=x.length)
structure f6 (ss:List Int) (d:List (List DCn)) (os:List DOp):Prop where
 dlen:d.length<=4
 flen:∀x∈d,x.length<=64
 cells:∀x∈d,∀c∈x,Pr ss c
 olen:os.length=8
 opens:∀o∈os,RX d o
theorem CV{ss:List Int}{d:List (List DCn)}{os:List DOp}(hs:yh ss) (h:f6 ss d os):lw d os=some (true,()):=by
 obtain⟨h1,h2,h3,h4,h5⟩:=h
 have e0:dU kC NN (d,(d.length:Int),0,d,os,())=some (.inr (d,(d.length:Int),(d.length:Int),false,d,os,())):=by
  refine mW (st:=λk=>(d,(d.length:Int),(k:Int),d,os,())) (n:=d.length) (by unfold NN;omega) ?_ ?_
  ·intro k hk;unfold kC;dsimp only
   (with_reducible refine dJ (λZ'=>?_) λZ'=>?_)
   ·rw[dO];simp only[oBS];refine Ok.get (by omega) λx hx=>?_;have:=h2 x (dR hx);rw[k9 hs (h3 x (dR hx)) (by omega) (by omega)];simp only[oBS,oNT,oCF]
    (simp (disch:=omega) only [dS,ef,d7,dZ])
    exact Ok.ret rfl
   ·omega
  ·unfold kC;dsimp only
   (with_reducible refine dJ (λZ'=>?_) λZ'=>?_)
   ·omega
   ·exact Ok.ret rfl
 have e2:dU nA NN (os,8,0,d,os,())=some (.inr (os,8,8,false,d,os,())):=by
  refine mW (st:=λk=>(os,8,(k:Int),d,os,())) (n:=8) (by unfold NN;omega) ?_ ?_
  ·intro k hk;unfold nA;dsimp only
   (with_reducible refine dJ (λZ'=>?_) λZ'=>?_)
   ·rw[dO];simp only[oBS];refine Ok.get (by omega) λx hx=>?_;obtain⟨f,o,w⟩:=x;refine Ok.bind (P:=(·=(os,8,(k:Int),false,d,os,f,o,w,()))) ?_ ?_
    ·rcases h5 _ (dR hx) with ⟨g1,g2,g3⟩ | ⟨g1,y,g2,g3,g4⟩
     ·have g1:f=-1:=g1;have g2:o=0:=g2;have g3:w=false:=g3;subst g1 g2 g3;dsimp only;refine dK rfl (Ok.cond (λh=>by cases h) λ_=>Ok.cond (λh=>by cases h) λ_=>Ok.cond (λh=>by cases h) λ_=>Ok.cond (λh=>?_) λ_=>Ok.cond (λh=>by cases h) λ_=>Ok.ret rfl);have h:(-1:Int)>=(d.length:Int):=of_decide_eq_true h;omega
     ·dsimp only at g1 g2 g3 g4 ⊢;have hl:=(oGS g2).1;rw[show (f==-1)=false by rw[beq_eq_false_iff_ne];omega,oDF (show ¬ f < -1 by omega)];simp only[oCF];refine Ok.cond (λh=>?_) λ_=>dK (oDT g1) ?_
      ·have h:f>=(d.length:Int):=of_decide_eq_true h;omega
      ·rw[oDF (show ¬ o < 0 by omega)];simp only[oCF];refine Ok.nat g1 λj hj=>?_;refine Ok.get (by omega) λz hz=>?_
       have hjj:j=f.toNat:=by omega
       subst hjj;rw[g2] at hz
       injection hz with hz
       subst hz;exact Ok.ret (by rw[oDF (show ¬ o > dN y.length from λh=>by rw[dZ] at h;omega)])
    ·rintro _ rfl;dsimp only;simp only[oCF]
     (simp (disch:=omega) only [dS,ef,d7,dZ])
     exact Ok.ret rfl
   ·omega
  ·exact Ok.ret rfl
 refine eV ?_;unfold lw;delta dN
 try dsimp only
 (with_reducible refine dJ (λZ'=>?_) λZ'=>?_)
 ·omega
 ·rw[h4];rw[e0];dsimp only;rw[h4,show ((8:Nat):Int)=8 from rfl,e2];exact Ok.ret rfl
def Te(ss:List Int) (i:Nat) (x:DOu):Prop:=x.1=i/\0<=x.2.1/\x.2.1 < 2/\x.2.2.length<=16/\∀c∈x.2.2,Pr ss c
structure BR (ss:List Int) (ck rn:List Int) (ins:List (List Int)) (d:List (List DCn)) (os:List DOp) (us:List DOu):Prop where
 clock:ck.length<=64/\∀w∈ck,W16 w
 rand:rn.length<=64/\∀w∈rn,W16 w
 ilen:ins.length<=2
 inp:∀x∈ins,x.length<=64/\∀w∈x,W16 w
 files:f6 ss d os
 ulen:us.length<=200
 outs:∀(i:Nat) x,us[i]?=some x->Te ss i x
theorem K2{ss:List Int}{us:List DOu}(hl:us.length<=200) (h:∀(i:Nat) x,us[i]?=some x->Te ss i x):lu us=some (true,()):=by
 have e:dU jj NN (us,(us.length:Int),0,())=some (.inr (us,(us.length:Int),(us.length:Int),false,())):=by
  refine mW (st:=λk=>(us,(us.length:Int),(k:Int),())) (n:=us.length) (by unfold NN;omega) ?_ ?_
  ·intro k hk;unfold jj
   (with_reducible refine dJ (λZ'=>?_) λZ'=>?_)
   ·rw[dO];refine Ok.get (by omega) λx hx=>?_;have ⟨g1,g2,g3,g4,g5⟩:=h k x hx;rw[g1,oDF (show ¬ x.2.1 < 0 by omega),oDF (show ¬ x.2.1>=2 by omega)];simp;refine Ok.cond (λh=>?_) λ_=>?_
    ·have h:(x.2.2.length:Int) > 16:=of_decide_eq_true h;omega
    ·(simp (disch:=omega) only [dS,ef,d7,dZ])
     exact Ok.ret rfl
   ·omega
  ·unfold jj
   (with_reducible refine dJ (λZ'=>?_) λZ'=>?_)
   ·omega
   ·exact Ok.ret rfl
 refine eV ?_;unfold lu;delta dN
 try dsimp only
 rw[e];exact Ok.ret rfl
theorem xo{ss ck rn:List Int}{ins:List (List Int)}{d:List (List DCn)}{os:List DOp}{us:List DOu}(hs:yh ss) (h:BR ss ck rn ins d os us):jS ck rn ins d os us=some (true,()):=by
 have e0:dU kA NN (ins,(ins.length:Int),0,ck,rn,ins,d,os,us,())=some (.inr (ins,(ins.length:Int),(ins.length:Int),false,ck,rn,ins,d,os,us,())):=by
  refine mW (st:=λk=>(ins,(ins.length:Int),(k:Int),ck,rn,ins,d,os,us,())) (n:=ins.length) (by unfold NN;have:=h.ilen;omega) ?_ ?_
  ·intro k hk;have YS:=h.ilen;unfold kA;dsimp only
   (with_reducible refine dJ (λZ'=>?_) λZ'=>?_)
   ·rw[dO];delta dN;simp only[oBS];refine Ok.get (by omega) λx hx=>?_;have:=(h.inp x (dR hx)).1
    (with_reducible refine dJ (λZ3=>?_) λZ3=>?_)
    ·omega
    ·(simp (disch:=omega) only [dS,ef,d7,dZ])
     exact Ok.ret rfl
   ·omega
  ·unfold kA;dsimp only
   (with_reducible refine dJ (λZ'=>?_) λZ'=>?_)
   ·omega
   ·exact Ok.ret rfl
 have e1:dU kz NN (us,(us.length:Int),0,ck,rn,ins,d,os,us,())=some (.inr (us,(us.length:Int),(us.length:Int),false,ck,rn,ins,d,os,us,())):=by
  refine mW (st:=λk=>(us,(us.length:Int),(k:Int),ck,rn,ins,d,os,us,())) (n:=us.length) (by unfold NN;have:=h.ulen;omega) ?_ ?_
  ·intro k hk;have hul:=h.ulen;unfold kz;dsimp only
   (with_reducible refine dJ (λZ'=>?_) λZ'=>?_)
   ·rw[dO];simp only[oBS];refine Ok.get (by omega) λx hx=>?_;obtain⟨_,_,_,g4,g5⟩:=h.outs k x hx;rw[k9 hs g5 (by omega) (by omega)]
    (simp (disch:=omega) only [dS,ef,d7,dZ])
    exact Ok.ret rfl
   ·omega
  ·unfold kz;dsimp only
   (with_reducible refine dJ (λZ'=>?_) λZ'=>?_)
   ·omega
   ·exact Ok.ret rfl
 have c1:=h.clock.1;have c2:=h.rand.1;have c3:=h.ilen;have c4:=h.ulen;refine eV ?_;unfold jS;delta dN
 try dsimp only
 rw[e0];dsimp only;rw[e1];dsimp only;refine dK (oDT (show (ck.length:Int)<=64 by omega)) (dK (oDT (show (rn.length:Int)<=64 by omega)) (dK (oDT (show (ins.length:Int)<=2 by omega)) ?_));rw[CV hs h.files];refine dK (oDT (show (us.length:Int)<=200 by omega)) ?_;rw[K2 h.ulen h.outs];exact Ok.ret rfl
def rK:List DOp:=List.replicate 8 (-1,0,false)
theorem O6(a:List (List Int)):dU uG NN (a,8,0,(),(),(),List.replicate 8 (0,(0,false)),())=some (a,8,8,false,(),(),(),rK,()):=by
 rfl
theorem Pb{ss:List Int}{a:List (List Int)}(hs:yh ss) (hl:a.length<=4) (h:∀x∈a,x.length<=64/\∀w∈x,W16 w):Ok (rd a) λr=>∃d,r=(d,rK,0,())/\f6 ss d rK:=by
 unfold rd;refine dK (by decide) ?_;dsimp only;rw[show dN (List.replicate 8 ((0:Int),((0:Int),false))).length=8 from rfl,O6];delta dN;simp only[oBS]
 refine Ok.loop (P:=λs'=>∃k:Nat,∃d,s'=(a,(a.length:Int),(k:Int),(),(),d,rK,())/\k<=a.length/\d.length=k/\(∀x∈d,x.length<=64)/\∀x∈d,∀c∈x,Pr ss c)
  (R:=λr=>∃e b c f d,r=(e,b,c,f,(),(),d,rK,())/\d.length<=4/\(∀x∈d,x.length<=64)/\∀x∈d,∀c∈x,Pr ss c) (m:=λs'=>(s'.2.1 - s'.2.2.1).toNat) ⟨0,[],rfl,by omega,rfl,eu,eu⟩ (by unfold NN;dsimp only;omega) ?_ ?_
 ·rintro _ ⟨k,d,rfl,hk,YR,hd2,X1⟩;unfold uE;dsimp only
  (with_reducible refine dJ (λZ'=>?_) λZ'=>?_)
  ·rw[dO];delta dN;simp only[oBS];refine Ok.get (by omega) λx hx=>?_;obtain⟨Z2,Yp⟩:=h x (dR hx)
   refine Ok.loop (P:=λs'=>∃j:Nat,∃l,s'=(a,(a.length:Int),(k:Int),x,(x.length:Int),(j:Int),(),(),d,rK,l,())/\j<=x.length/\l.length=j/\∀c∈l,Pr ss c)
    (R:=λr=>∃b c e f l,r=(a,(a.length:Int),(k:Int),b,c,e,f,(),(),d,rK,l,())/\l.length<=64/\∀c∈l,Pr ss c) (m:=λs'=>(s'.2.2.2.2.1 - s'.2.2.2.2.2.1).toNat) ⟨0,[],rfl,by omega,rfl,eu⟩ (by unfold NN;dsimp only;omega) ?_ ?_
   ·rintro _ ⟨j,l,rfl,hj,Xu,hl2⟩;unfold uF;dsimp only
    (with_reducible refine dJ (λZ3=>?_) λZ3=>?_)
    ·rw[dO];simp only[oBS];refine Ok.get (by omega) λv hv=>?_;refine dK (dX (by simp;omega)) ?_
     (simp (disch:=omega) only [dS,ef,d7,dZ])
     exact Ok.ret ⟨⟨j+1,_,rfl,by omega,by rw[ft,Xu];rfl,j6 hl2 (all_cons (.inl ⟨.inl rfl,rfl,rfl,Yp v (dR hv)⟩) eu)⟩,by dsimp only;omega⟩
    ·exact Ok.ret ⟨_,_,_,_,_,rfl,by omega,hl2⟩
   ·rintro _ ⟨b,c,e,f,l,rfl,Xu,hl2⟩;dsimp only;refine dK (dX (by simp;omega)) ?_
    (simp (disch:=omega) only [dS,ef,d7,dZ])
    exact Ok.ret ⟨⟨k+1,_,rfl,by omega,by rw[ft,YR];rfl,j6 hd2 (all_cons Xu eu),j6 X1 (all_cons hl2 eu)⟩,by dsimp only;omega⟩
  ·exact Ok.ret ⟨_,_,_,_,_,rfl,by omega,hd2,X1⟩
 ·rintro _ ⟨e,b,c,f,d,rfl,YR,hd2,X1⟩;have hf:f6 ss d rK:=⟨YR,hd2,X1,rfl,λo ho=>by rw[List.eq_of_mem_replicate ho];exact .inl ⟨rfl,rfl,rfl⟩⟩;dsimp only;rw[CV hs hf];exact Ok.ret ⟨d,rfl,hf⟩
theorem Bt{a:List (List Int)}(hl:a.length<=1000) (h:∀x∈a,x.length<=1000):f9 a=some (a,()):=by
 have e:dU fV NN (a,(a.length:Int),0,[],())=some (a,(a.length:Int),(a.length:Int),false,a,()):=by
  have:=mW (f:=fV) (N:=NN) (st:=λk=>(a,(a.length:Int),(k:Int),a.take k,())) (n:=a.length) (t:=(a,(a.length:Int),(a.length:Int),false,a,())) (by unfold NN;omega) ?_ ?_
  ·exact this
  ·intro k hk;unfold fV
   (with_reducible refine dJ (λZ'=>?_) λZ'=>?_)
   ·rw[dO];refine Ok.get (by omega) λx hx=>?_;have:=h x (dR hx);refine dK (dX (by omega)) (dK (dX (by simp;omega)) ?_)
    (simp (disch:=omega) only [dS,ef,d7,dZ])
    refine Ok.ret ?_;rw[List.take_add_one,hx];rfl
   ·omega
  ·unfold fV
   (with_reducible refine dJ (λZ'=>?_) λZ'=>?_)
   ·omega
   ·rw[List.take_length];exact Ok.ret rfl
 refine eV ?_;unfold f9;delta dN
 try dsimp only
 rw[e];exact Ok.ret rfl
theorem K1{ss l:List Int}{k:Int}(hs:yh ss) (h:DOk l k):Ok (mS l k) λr=>∃ck rn ins d os k',r=(ck,rn,ins,d,os,(),l,k',())/\BR ss ck rn ins d os []/\DOk l k':=by
 unfold mS;refine (qY h (by decide)).bind ?_;rintro _ ⟨w1,k1,rfl,h1,g1,d1⟩;refine (qY d1 (by decide)).bind ?_;rintro _ ⟨w2,k2,rfl,h2,g2,d2⟩;dsimp only;refine (qY d2 (by decide)).bind ?_;rintro _ ⟨w3,k3,rfl,h3,g3,d3⟩;dsimp only;refine (qY d3 (by decide)).bind ?_;rintro _ ⟨w4,k4,rfl,h4,g4,d4⟩;dsimp only;refine (qY d4 (by decide)).bind ?_;rintro _ ⟨w5,k5,rfl,h5,g5,d5⟩;dsimp only;refine (qY d5 (by decide)).bind ?_;rintro _ ⟨w6,k6,rfl,h6,g6,d6⟩;dsimp only;refine Ok.bind (P:=λr=>∃ck rn ins d os,r=(ck,rn,ins,d,os,(),0,())/\BR ss ck rn ins d os []) ?_ ?_
 ·unfold rb;refine (Pb (ss:=ss) (a:=[w1,w2]) hs (by simp) (all_cons ⟨by omega,g1⟩ (all_cons ⟨by omega,g2⟩ eu))).bind ?_;rintro _ ⟨d,rfl,hf⟩;refine Ok.cond (λh=>by cases h) λ_=>?_;refine dK (dX (by omega)) (dK (dX (by omega)) ?_);have ho:BR ss w5 w6 [w3,w4] d rK []:=⟨⟨by omega,g5⟩,⟨by omega,g6⟩,by simp,all_cons ⟨by omega,g3⟩ (all_cons ⟨by omega,g4⟩ eu),hf,by simp,λi x hx=>by simp_all⟩;rw[Bt (by simp) (all_cons (by omega) (all_cons (by omega) eu))];simp only[oBS];rw[show List.append [] w5=w5 from rfl,show List.append [] w6=w6 from rfl,xo hs ho];exact Ok.ret ⟨_,_,_,_,_,rfl,ho⟩
 ·rintro _ ⟨ck,rn,ins,d,os,rfl,ho⟩;exact Ok.ret ⟨_,_,_,_,_,_,rfl,ho,d6⟩
theorem Gw{ss:List Int}{r o n:Int}(h1:0<=r) (h2:ss[r.toNat]?=some n) (h3:0<=o) (h4:o < n):gE ss r o=some (true,()):=by
 refine eV ?_;have hl:=(oGS h2).1;refine dK (oDT h1) (dK (oDT (show r < (ss.length:Int) by omega)) (dK (oDT h3) ?_));obtain⟨j,rfl⟩:∃j:Nat,r=j:=⟨r.toNat,by omega⟩;rw[dO];simp;rw[show dM ss j=some n from h2];exact Ok.ret (by simp_all)
theorem oO{ss:List Int}{c:DCn}(h:Pr ss c):ij ss c.1 c.2.1 c.2.2.1 c.2.2.2=some (true,()):=by
 refine eV ?_;unfold ij;rcases h with ⟨h1,h2,h3,_⟩ | ⟨h1,h2,h3,n,h4,h5,h6⟩
 ·rw[h2,h3]
  rcases h1 with h1 | h1<;>rw[h1]<;>exact Ok.ret rfl
 ·rw[h1,h2,Gw h3 h4 h5 h6];exact Ok.ret rfl
theorem Ig{ss:List Int}{d:List (List DCn)}{os:List DOp}(h:f6 ss d os):mH ss d os=some (true,()):=by
 obtain⟨h1,h2,h3,h4,h5⟩:=h
 have e0:dU jQ NN (ss,d,(d.length:Int),0,d,os,())=some (.inr (ss,d,(d.length:Int),(d.length:Int),false,d,os,())):=by
  refine mW (st:=λk=>(ss,d,(d.length:Int),(k:Int),d,os,())) (n:=d.length) (by unfold NN;omega) ?_ ?_
  ·intro k hk;unfold jQ;dsimp only
   (with_reducible refine dJ (λZ'=>?_) λZ'=>?_)
   ·rw[dO];delta dN;refine Ok.get (by omega) λx hx=>?_;have Z2:=h2 x (dR hx)
    have e:dU jR NN (ss,d,(d.length:Int),(k:Int),x,(x.length:Int),0,d,os,())=some (.inr (ss,d,(d.length:Int),(k:Int),x,(x.length:Int),(x.length:Int),false,d,os,())):=by
     refine mW (st:=λj=>(ss,d,(d.length:Int),(k:Int),x,(x.length:Int),(j:Int),d,os,())) (n:=x.length) (by unfold NN;omega) ?_ ?_
     ·intro j hj;unfold jR
      (with_reducible refine dJ (λZ'=>?_) λZ'=>?_)
      ·rw[dO];refine Ok.get (by omega) λy hy=>?_;rw[oO (h3 x (dR hx) y (dR hy))]
       (simp (disch:=omega) only [dS,ef,d7,dZ])
       exact Ok.ret rfl
      ·omega
     ·unfold jR
      (with_reducible refine dJ (λZ'=>?_) λZ'=>?_)
      ·omega
      ·exact Ok.ret rfl
    rw[e];dsimp only
    (simp (disch:=omega) only [dS,ef,d7,dZ])
    exact Ok.ret rfl
   ·omega
  ·unfold jQ;dsimp only
   (with_reducible refine dJ (λZ'=>?_) λZ'=>?_)
   ·omega
   ·exact Ok.ret rfl
 refine eV ?_;unfold mH;delta dN
 try dsimp only
 rw[e0];exact Ok.ret rfl
theorem copy17_ok{d:List (List DCn)}{os:List DOp}(h1:d.length<=1000) (h2:∀x∈d,x.length<=1000) (h3:os.length<=1000):g9 d os=some (d,os,()):=by
 have e:dU jv NN (d,(d.length:Int),0,d,os,(),(),[],os,())=some (d,(d.length:Int),(d.length:Int),false,d,os,(),(),d,os,()):=by
  have:=mW (f:=jv) (N:=NN) (st:=λk=>(d,(d.length:Int),(k:Int),d,os,(),(),d.take k,os,())) (n:=d.length) (t:=(d,(d.length:Int),(d.length:Int),false,d,os,(),(),d,os,())) (by unfold NN;omega) ?_ ?_
  ·exact this
  ·intro k hk;unfold jv
   (with_reducible refine dJ (λZ'=>?_) λZ'=>?_)
   ·rw[dO];refine Ok.get (by omega) λx hx=>?_;have:=h2 x (dR hx);refine dK (dX (by omega)) (dK (dX (by simp;omega)) ?_)
    (simp (disch:=omega) only [dS,ef,d7,dZ])
    refine Ok.ret ?_;rw[List.take_add_one,hx];rfl
   ·omega
  ·unfold jv
   (with_reducible refine dJ (λZ'=>?_) λZ'=>?_)
   ·omega
   ·rw[List.take_length];exact Ok.ret rfl
 refine eV ?_;refine dK (dX (by omega)) ?_;rw[show List.append [] os=os from rfl];delta dN
 try dsimp only
 rw[e];exact Ok.ret rfl
theorem Hz{us:List DOu}(h1:us.length<=1000) (h2:∀x∈us,x.2.2.length<=1000):kV us=some (us,()):=by
 have e:dU ju NN (us,(us.length:Int),0,[],())=some (us,(us.length:Int),(us.length:Int),false,us,()):=by
  have:=mW (f:=ju) (N:=NN) (st:=λk=>(us,(us.length:Int),(k:Int),us.take k,())) (n:=us.length) (t:=(us,(us.length:Int),(us.length:Int),false,us,())) (by unfold NN;omega) ?_ ?_
  ·exact this
  ·intro k hk;unfold ju
   (with_reducible refine dJ (λZ'=>?_) λZ'=>?_)
   ·rw[dO];refine Ok.get (by omega) λx hx=>?_;have:=h2 x (dR hx);refine dK (dX (by omega)) (dK (dX (by simp;omega)) ?_)
    (simp (disch:=omega) only [dS,ef,d7,dZ])
    refine Ok.ret ?_;rw[List.take_add_one,hx];rfl
   ·omega
  ·unfold ju
   (with_reducible refine dJ (λZ'=>?_) λZ'=>?_)
   ·omega
   ·rw[List.take_length];exact Ok.ret rfl
 refine eV ?_;unfold kV;delta dN
 try dsimp only
 rw[e];exact Ok.ret rfl
theorem Hy{ss ck rn:List Int}{ins:List (List Int)}{d:List (List DCn)}{os:List DOp}{us:List DOu}(h:BR ss ck rn ins d os us):pu ck rn ins d os us=some (ck,rn,ins,d,os,us,()):=by
 have h1:=h.clock.1;have h2:=h.rand.1;have h3:=h.ilen;have h4:=h.ulen;have h5:=h.files.olen;have h6:=h.files.dlen;refine eV ?_;refine dK (dX (by omega)) (dK (dX (by omega)) ?_)
 rw[Bt (by omega) (λx hx=>by have:=(h.inp x hx).1;omega),copy17_ok (by omega) (λx hx=>by have:=h.files.flen x hx;omega) (by omega),Hz (by omega) (λx hx=>by
  have ⟨i,hi⟩:=List.getElem?_of_mem hx;have:=(h.outs i x hi).2.2.2.1
  omega)]
 exact Ok.ret rfl
theorem Ng:vf=some ([-1,-1,-1,-1],[[],[],[],[]],()):=by kernel_rfl
structure jO (ow:List Int) (qs:List (List Int)):Prop where
 olen:ow.length=4
 qlen:qs.length=4
 owner:∀o∈ow,-1<=o/\o<=3
 queue:∀q∈qs,q.Nodup/\∀t∈q,0<=t/\t<=3
theorem M7:∀{n:Nat}{q:List Int},q.Nodup->(∀t∈q,0<=t/\t < n)->q.length<=n:=by
 intro n
 induction n with
 | zero=>
  intro q _ h
  cases q with
  | nil=>simp
  | cons x q=>have:=h x (by simp);omega
 | succ n ih=>
  intro q hq h;have h1:(q.erase (n:Int)).Nodup:=hq.erase _
  have h2:∀t∈q.erase (n:Int),0<=t/\t < n:=λt ht=>by
   have hm:=(hq.mem_erase_iff).1 ht;have:=h t hm.2;omega
  have h3:=ih h1 h2;have h4:=List.length_erase (a:=(n:Int)) (l:=q);split at h4<;>omega
theorem jO.qlen4{ow:List Int}{qs:List (List Int)}(h:jO ow qs) {q:List Int}(hq:q∈qs):q.length<=4:=M7 (h.queue q hq).1 λt ht=>by have:=(h.queue q hq).2 t ht;omega
theorem SA:jO [-1,-1,-1,-1] [[],[],[],[]]:=⟨rfl,rfl,by decide,by decide⟩
theorem PL{code:List DIn}{ss bs:List Int}{dt:List (List Int)}{key:Int}{ck rn:List Int}{ins:List (List Int)}{d:List (List DCn)}{os:List DOp}{us:List DOu}(hp:lf code ss dt) (hl:LV bs ss) (ho:BR ss ck rn ins d os us) :
 Ok (ra code ss dt bs key ck rn ins d os us) λr=>∃cs ts,r=(code,ss,dt,bs,key,cs,fB,ts,ck,rn,ins,d,os,us,[-1,-1,-1,-1],[[],[],[],[]],(),[-1,-1,-1,-1],0,())/\MOk 0 ss bs cs fB ts:=by
 refine (Ou hp hl).bind ?_;rintro _ ⟨cs,ts,rfl,hm⟩;rw[xo hp.sz ho,Ig ho.files,Hy ho,Ng];exact Ok.ret ⟨cs,ts,rfl,hm⟩
theorem S1.len{K:Int->Prop}{i:Nat}{x:DLn}(h:S1 K i x):x.2.2.length<=4:=by
 rcases h with ⟨_,_,h⟩ | ⟨_,_,_,h,_⟩
 ·simp_all
 ·omega
theorem NR{K:Int->Prop}{cs:List DCe}{ls:List DLn}(h:lh K cs ls):pG cs ls=some (cs,ls,()):=by
 obtain⟨h1,h2,h3,h4,_⟩:=h
 have e:dU jC NN (ls,(ls.length:Int),0,cs,ls,(),(),cs,[],())=some (ls,(ls.length:Int),(ls.length:Int),false,cs,ls,(),(),cs,ls,()):=by
  have:=mW (f:=jC) (N:=NN) (st:=λk=>(ls,(ls.length:Int),(k:Int),cs,ls,(),(),cs,ls.take k,())) (n:=ls.length) (t:=(ls,(ls.length:Int),(ls.length:Int),false,cs,ls,(),(),cs,ls,())) (by unfold NN;omega) ?_ ?_
  ·exact this
  ·intro k hk;unfold jC
   (with_reducible refine dJ (λZ'=>?_) λZ'=>?_)
   ·rw[dO];refine Ok.get (by omega) λx hx=>?_;have:=(h4 k x hx).len;refine dK (dX (by omega)) (dK (dX (by simp;omega)) ?_)
    (simp (disch:=omega) only [dS,ef,d7,dZ])
    refine Ok.ret ?_;rw[List.take_add_one,hx];rfl
   ·omega
  ·unfold jC
   (with_reducible refine dJ (λZ'=>?_) λZ'=>?_)
   ·omega
   ·rw[List.take_length];exact Ok.ret rfl
 refine eV ?_;unfold pG;refine dK (dX (by omega)) ?_;rw[show List.append [] cs=cs from rfl];delta dN
 try dsimp only
 rw[e];exact Ok.ret rfl
theorem wH{n key:Int}{ss bs:List Int}{cs:List DCe}{ls:List DLn}{ts:List DTh}(h:MOk n ss bs cs ls ts):jA bs key cs ls ts=some (bs,key,cs,ls,ts,()):=by
 obtain⟨h1,h2,h3,h4⟩:=h;have hb:=h1.2.1;have XA:=h1.1.2.1
 have e:dU jz NN (ts,(ts.length:Int),0,bs,key,cs,ls,ts,(),0,(),(),(),bs,key,cs,ls,[],())=some (ts,(ts.length:Int),(ts.length:Int),false,bs,key,cs,ls,ts,(),0,(),(),(),bs,key,cs,ls,ts,()):=by
  have:=mW (f:=jz) (N:=NN) (st:=λk=>(ts,(ts.length:Int),(k:Int),bs,key,cs,ls,ts,(),0,(),(),(),bs,key,cs,ls,ts.take k,())) (n:=ts.length) (t:=(ts,(ts.length:Int),(ts.length:Int),false,bs,key,cs,ls,ts,(),0,(),(),(),bs,key,cs,ls,ts,())) (by unfold NN;omega) ?_ ?_
  ·exact this
  ·intro k hk;unfold jz;dsimp only
   (with_reducible refine dJ (λZ'=>?_) λZ'=>?_)
   ·rw[dO];refine Ok.get (by omega) λx hx=>?_;have:=(h4 x (dR hx)).len;refine dK (dX (by omega)) (dK (dX (by simp;omega)) ?_)
    (simp (disch:=omega) only [dS,ef,d7,dZ])
    refine Ok.ret ?_;rw[List.take_add_one,hx];rfl
   ·omega
  ·unfold jz
   (with_reducible refine dJ (λZ'=>?_) λZ'=>?_)
   ·omega
   ·rw[List.take_length];exact Ok.ret rfl
 refine eV ?_;unfold jA;refine dK (dX (by omega)) ?_;rw[NR h2,show List.append [] bs=bs from rfl];delta dN;simp;rw[e];exact Ok.ret rfl
theorem ul{α:Type}{l:List α}{i:Nat}{f:α->α}{a:α}(h:l[i]?=some a):(List.modify l i f)[i]?=some (f a):=by simp_all
theorem jW{α:Type}(l:List α) (i:Nat) (f g:α->α):List.modify (List.modify l i f) i g=List.modify l i λa=>g (f a):=by
 apply List.ext_getElem?
 grind
theorem MOk.thread{n:Int}{ss bs:List Int}{cs:List DCe}{ls:List DLn}{ts:List DTh}(h:MOk n ss bs cs ls ts) {i:Nat}{t:DTh}{f:DTh->DTh}(ht:ts[i]?=some t) (hf:BO (RK bs ss) n (f t)):MOk n ss bs cs ls (List.modify ts i f):=by
 refine⟨h.lay,h.mem,by rw[oLM];exact h.tlen,λx hx=>?_⟩;have ⟨j,hj⟩:=List.getElem?_of_mem hx;by_cases hij:i=j
 ·simp_all
 ·simp[hij] at hj
  have:ts[j]?=some x:=by simp_all
  exact h.thr x (dR this)
theorem Qd{n key:Int}{ss bs:List Int}{cs:List DCe}{ls:List DLn}{ts:List DTh}(h:MOk n ss bs cs ls ts) (i:Int):Ok (oC bs key cs ls ts i) λr=>r.1=true->0<=i/\i < 4/\∀t,ts[i.toNat]?=some t->t.2.2.2.2.1≠-1:=by
 unfold oC;delta dN;have:=h.tlen
 (with_reducible refine dJ (λZ'=>?_) λZ'=>?_)
 ·exact Ok.ret (λh=>by cases h)
 ·(with_reducible refine dJ (λZ3=>?_) λZ3=>?_)
  ·exact Ok.ret (λh=>by cases h)
  ·refine Ok.nat (by omega) λj hj=>?_;refine Ok.get (by omega) λt ht=>?_;subst hj
   (with_reducible refine dJ (λhcc=>?_) λhcc=>?_)
   ·(with_reducible refine dJ (λXp=>?_) λXp=>?_)
    ·exact Ok.ret (λ_=>⟨by omega,by omega,λt' ZK=>by
      rw[oTN,ht] at ZK
      injection ZK with ZK
      rw[<- ZK]
      exact Xp⟩)
    ·exact Ok.ret (λh=>by cases h)
   ·exact Ok.ret (λh=>by cases h)
theorem Lv{n key:Int}{ss bs:List Int}{cs:List DCe}{ls:List DLn}{ts:List DTh}(h:MOk n ss bs cs ls ts) (i:Int):Ok (ly bs key cs ls ts i) λr=>∃Zo b,r=(bs,key,cs,ls,Zo,b,())/\MOk n ss bs cs ls Zo:=by
 unfold ly;rw[wH h];refine (Qd h i).bind ?_;rintro⟨b,_⟩ hb
 (with_reducible refine dJ (λZ'=>?_) λZ'=>?_)
 ·exact Ok.ret ⟨ts,false,rfl,h⟩
 ·have hb:=hb Z';have XC:=h.tlen;obtain⟨hb1,ZZ,Vg⟩:=hb;refine Ok.nat hb1 λj hj=>?_;refine Ok.get (by omega) λt ht=>?_;refine Ok.get (by omega) λt1 X3=>?_;refine Ok.get (by omega) λt2 Y6=>?_;refine Ok.get (by omega) λt3 ht3=>?_;rw[ht] at X3 Y6 ht3
  injection X3 with X3
  injection Y6 with Y6
  subst X3 Y6;refine Ok.get (by rw[oLM];omega) λt4 ht4=>?_;have hne:=Vg t (by simp_all);have hok:=h.thr t (dR ht);rw[jW];exact Ok.ret ⟨_,_,rfl,h.thread ht ⟨hok.state,hok.len,hok.regs,⟨by have:=hok.handler;dsimp only;omega,hok.handler.2⟩,hok.count,hok.handler,⟨by have:=hok.pc;dsimp only;omega,hok.pc.2⟩,hok.trap,hok.code⟩⟩
theorem Qs{n Xn:Int}{ts:List DTh}{i:Nat}{t:DTh}(ht:ts[i]?=some t):fM i Xn ts=some (2,List.modify ts i λt=>(4,t.2.1,t.2.2.1,t.2.2.2.1,t.2.2.2.2.1,t.2.2.2.2.2.1,Xn,0),()):=by
 refine eV ?_;have hl:=(oGS ht).1;refine Ok.get hl λ_ _=>?_;refine Ok.get (by simp_all) λ_ _=>?_;refine Ok.get (by simp_all) λ_ _=>?_;rw[jW,jW];exact Ok.ret rfl
theorem BO.ended{K:Int->Prop}{n Xn:Int}{t:DTh}(h:BO K n t) (hw:0<=Xn/\Xn<=6):BO K n (4,t.2.1,t.2.2.1,t.2.2.2.1,t.2.2.2.2.1,t.2.2.2.2.2.1,Xn,0):=
 ⟨⟨by omega,by omega⟩,h.len,h.regs,h.pc,h.count,h.handler,h.saved,hw,⟨by simp_all,by simp_all⟩⟩
theorem xB{ss bs:List Int}{key a:Int}(h:LV bs ss) (ha:0<=a/\a<=65535):Ok (fw bs key ss a) λr=>(r.2.2.1=true->∃b n,0<=r.1/\bs[r.1.toNat]?=some b/\ss[r.1.toNat]?=some n/\0<=r.2.1/\r.2.1 < n/\a=b+r.2.1):=by
 obtain⟨hs,hl,hr⟩:=h;have XA:=hs.2.1;unfold fw;delta dN
 try dsimp only
 obtain⟨t,e,ht⟩:=gG (f:=eO) (n:=NN) (s:=(ss,a,bs,(bs.length:Int),0,bs,key,0,0,())) (P:=λs'=>∃k:Nat,s'=(ss,a,bs,(bs.length:Int),(k:Int),bs,key,0,0,())/\k<=bs.length)
  (R:=λr=>(∃x y,r=.inl (true,x,y,())/\∃b n,0<=x/\bs[x.toNat]?=some b/\ss[x.toNat]?=some n/\0<=y/\y < n/\a=b+y)\/∃z,r=.inr z) (m:=λs'=>(s'.2.2.2.1 - s'.2.2.2.2.1).toNat) ⟨0,rfl,by omega⟩ (by unfold NN;dsimp only;omega) (by
   rintro _ ⟨k,rfl,hk⟩;unfold eO;dsimp only
   (with_reducible refine dJ (λZ'=>?_) λZ'=>?_)
   ·rw[dO];simp only[oBS];obtain⟨b,hb⟩:∃b,bs[k]?=some b:=⟨_,oGE (by omega)⟩;obtain⟨y,hy⟩:∃y,ss[k]?=some y:=⟨_,oGE (by omega)⟩;have WZ:=hs.2.2 y (dR hy);have WD:=hr k (by omega);unfold yi at WD;rw[ew hb,ew hy] at WD;rw[show dM bs k=some b from hb];rw[show dM ss k=some y from hy];simp only[oBS];rw[dS (x:=b+y) (by omega) (by omega)];by_cases h1:a>=b
    ·by_cases h2:a < b+y
     ·simp only[h1,h2,decide_true,oCT];rw[dS (x:=a - b) (by omega) (by omega)];exact Ok.ret (.inl ⟨_,_,rfl,b,y,by omega,by rw[oTN];exact hb,by rw[oTN];exact hy,by omega,by omega,by omega⟩)
     ·simp only[h1,h2,decide_true,decide_false,oCT,oCF]
      (simp (disch:=omega) only [dS,ef,d7,dZ])
      exact Ok.ret ⟨⟨k+1,rfl,by omega⟩,by dsimp only;omega⟩
    ·simp only[h1,decide_false,oCF]
     (simp (disch:=omega) only [dS,ef,d7,dZ])
     exact Ok.ret ⟨⟨k+1,rfl,by omega⟩,by dsimp only;omega⟩
   ·exact Ok.ret (.inr ⟨_,rfl⟩))
 rw[e];rcases ht with ⟨x,y,rfl,WY⟩ | ⟨z,rfl⟩
 ·exact Ok.ret λ_=>WY
 ·exact Ok.ret λh=>by cases h
theorem Dm{ss:List Int}{r o:Int}:Ok (gE ss r o) λx=>x.1=true->0<=r/\0<=o/\∃n,ss[r.toNat]?=some n/\o < n:=by
 unfold gE;delta dN
 (with_reducible refine dJ (λZ'=>?_) λZ'=>?_)
 ·(with_reducible refine dJ (λZ3=>?_) λZ3=>?_)
  ·(with_reducible refine dJ (λhcc=>?_) λhcc=>?_)
   ·refine Ok.nat (by omega) λj hj=>?_;refine Ok.get (by omega) λn hn=>?_;exact Ok.ret λh=>⟨by omega,by omega,n,by simp_all,of_decide_eq_true h⟩
   ·exact Ok.ret λh=>by cases h
  ·exact Ok.ret λh=>by cases h
 ·exact Ok.ret λh=>by cases h
theorem AH{ss bs:List Int}{key tag v n:Int}{back:Bool}(h:LV bs ss) (hv:W16 v) (hn:W16 n):Ok (fY bs key ss tag v n back) λr=>∃t x e,r=(t,x,e,())/\o7 (RK bs ss) (t,x)/\0<=e/\e<=6/\(e=0->x < 512):=by
 have hz:∀e:Int,0 < e->e<=6->∃t x e',((0:Int),(0:Int),e,())=(t,x,e',())/\o7 (RK bs ss) (t,x)/\0<=e'/\e'<=6/\(e'=0->x < 512):=λe h1 h2=>⟨0,0,e,rfl,nn (by decide),by omega,h2,by omega⟩;obtain⟨v0,v1⟩:=hv;obtain⟨n0,n1⟩:=hn;unfold fY
 (with_reducible refine dJ (λZ'=>?_) λZ'=>?_)
 ·exact Ok.ret (hz 3 (by decide) (by decide))
 ·rw[d7 (x:=v) (by omega) (by omega),d7 (x:=n) (by omega) (by omega)];refine (xB h ⟨v0,v1⟩).bind ?_;rintro⟨r,o,ok,_⟩ Y0;dsimp only at Y0 ⊢
  (with_reducible refine dJ (λZ3=>?_) λZ3=>?_)
  ·exact Ok.ret (hz 4 (by decide) (by decide))
  ·obtain⟨b,z,hr0,hb,hzz,ho0,ho1,_⟩:=Y0 Z3;have X4:=h.1.2.2 z (dR hzz);refine Ok.bind (P:=λx=>∃o',x=(ss,bs,key,0,0,r,o',())/\-70000<=o'/\o'<=70000) ?_ ?_
   ·refine Ok.cond (λ_=>?_) λ_=>?_
    all_goals
     (simp (disch:=omega) only [dS,ef,d7,dZ])
     exact Ok.ret ⟨_,rfl,by omega,by omega⟩
   rintro _ ⟨o',rfl,Xx,ho3⟩;dsimp only;refine Dm.bind ?_;rintro⟨q,_⟩ hin;dsimp only at hin ⊢
   (with_reducible refine dJ (λhcc=>?_) λhcc=>?_)
   ·exact Ok.ret (hz 4 (by decide) (by decide))
   ·obtain⟨_,g1,m,g2,g3⟩:=hin hcc;refine Ok.nat hr0 λj hj=>?_;subst hj;rw[oTN] at hb g2;have hjl:=(oGS hb).1;have hrj:=h.2.2 j hjl;unfold yi at hrj;rw[ew hb,ew g2] at hrj;rw[show dM bs j=some b from hb];simp only[oBS];rw[dS (x:=b+o') (by omega) (by omega),ef (x:=b+o') (by omega) (by omega)];exact Ok.ret ⟨_,_,_,rfl,⟨by dsimp only;omega,by dsimp only;omega,by dsimp only;omega,by dsimp only;omega,λ_=>⟨j,b,m,hb,g2,by dsimp only;omega,by dsimp only;omega⟩⟩,by decide,by decide,λ_=>by omega⟩
theorem lh.line{K:Int->Prop}{cs:List DCe}{ls:List DLn}(h:lh K cs ls) {i:Nat}{x:DLn}{f:DLn->DLn}(hx:ls[i]?=some x) (hf:S1 K i (f x)) (hg:Tg cs (f x)):lh K cs (List.modify ls i f):=by
 have key:∀(j:Nat) y,(List.modify ls i f)[j]?=some y->S1 K j y/\Tg cs y:=λj y hy=>by
  by_cases hij:i=j
  ·simp_all
  ·simp[hij] at hy;exact⟨h.lines j y (by simp_all),h.coh j y (by simp_all)⟩
 exact⟨h.clen,h.cells,by rw[oLM];exact h.llen,λj y hy=>(key j y hy).1,λj y hy=>(key j y hy).2⟩
theorem KD{cs xs:List DCe}{lo k:Nat}(h1:lo+4<=cs.length) (h3:4<=xs.length) (hk:k < lo\/lo+4<=k):(s6 cs lo 4 xs)[k]?=cs[k]?:=by
 unfold s6;rcases hk with hk | hk
 ·rw[List.append_assoc,List.getElem?_append_left (by rw[oLT];omega),List.getElem?_take_of_lt hk]
 ·rw[List.getElem?_append_right (by simp;omega),List.getElem?_drop];congr 1;simp;omega
theorem L0{K:Int->Prop}{cs xs:List DCe}{lo n:Nat}(h1:cs.length=512) (h2:lo+n<=512) (h3:n<=xs.length) (hc:∀c∈cs,o7 K c) (hx:∀c∈xs,o7 K c):(s6 cs lo n xs).length=512/\∀c∈s6 cs lo n xs,o7 K c:=by
 unfold s6;refine⟨?_,λc hh=>?_⟩
 ·simp;omega
 ·simp only[List.mem_append] at hh;rcases hh with (hh | hh) | hh
  ·exact hc c (List.mem_of_mem_take hh)
  ·exact hx c (List.mem_of_mem_take hh)
  ·exact hc c (List.mem_of_mem_drop hh)
theorem J7{K:Int->Prop}{cs:List DCe}{ls:List DLn}{a:Int}(h:lh K cs ls) (ha:0<=a/\a < 512):Ok (lH a cs ls) λr=>∃i Z4 Z1 x,r=(i,Z4,Z1,())/\lh K Z4 Z1/\Z1[i]?=some x/\x.1=a / 4/\x.2.2.length=4:=by
 obtain⟨a0,a1⟩:=ha;obtain⟨h1,h2,h3,h4,h5⟩:=id h;unfold lH;rw[Int.tdiv_eq_ediv_of_nonneg a0,dS (x:=a / 4) (by omega) (by omega)];dsimp only;rw[Int.tmod_eq_emod_of_nonneg (show 0<=a / 4 by omega)];refine Ok.nat (by omega) λi hi=>?_
 have YS:i < ls.length:=by omega
 obtain⟨x,hx⟩:∃x,ls[i]?=some x:=⟨_,oGE YS⟩;have hg:dM ls i=some x:=hx;have hL:=h4 i x hx;simp only[hg,oBS]
 (with_reducible refine dJ (λZ'=>?_) λZ'=>?_)
 ·refine Ok.ret ⟨i,cs,ls,x,rfl,h,hx,Z',?_⟩;rcases hL with ⟨g1,_,_⟩ | ⟨_,_,_,g,_⟩
  ·omega
  ·exact g
 ·refine Ok.bind (P:=λr=>∃Z4,r=(a / 4,i,Z4,ls,())/\Z4.length=512/\(∀c∈Z4,o7 K c)/\∀(j:Nat) y,ls[j]?=some y->Tg Z4 y) ?_ ?_
  ·refine Ok.cond (λhd=>?_) λ_=>Ok.ret ⟨cs,rfl,h1,h2,h5⟩;rcases hL with ⟨_,g,_⟩ | ⟨g1,g2,g3,g4,g5⟩
   ·rw[g] at hd;cases hd
   ·rw[dS (x:=x.1*4) (by omega) (by omega)];refine Ok.nat (by omega) λq hq=>?_;refine dK (by unfold iQ;simp;omega) ?_
    try simp only[hg,oBS]
    rw[g4,h1]
    have UT:Nat.min 4 (Nat.sub 512 q)=4:=by
     show min 4 (512 - q)=4;omega
    rw[UT];refine dK (by unfold iQ;simp;omega) ?_;refine dK rfl ?_;obtain⟨s1,s2⟩:=L0 (lo:=q) (n:=4) h1 (by omega) (by omega) h2 g5;refine Ok.ret ⟨_,rfl,s1,s2,λj y hy=>?_⟩;by_cases hij:j=i
    ·subst hij;rw[hx] at hy
     injection hy with hy
     subst hy;exact .inr (.inl hd)
    ·rcases h5 j y hy with g | g | g
     ·exact .inl g
     ·exact .inr (.inl g)
     ·rcases h4 j y hy with ⟨g',_,_⟩ | ⟨y1,y2,y3,y4,y5⟩
      ·exact .inl g'
      ·refine .inr (.inr λo ho=>?_);rw[KD (by omega) (by omega) (by omega)];exact g o ho
  rintro _ ⟨Z4,rfl,c1,c2,c3⟩;dsimp only;rw[dS (x:=a / 4*4) (by omega) (by omega),dS (x:=a / 4+1) (by omega) (by omega),dS (x:=(a / 4+1)*4) (by omega) (by omega)];simp only[hg,oBS];refine Ok.get (by rw[oLM];exact YS) λ_ _=>?_;refine Ok.nat (by omega) λq hq=>?_;refine Ok.nat (by omega) λq2 Yw=>?_;refine dK (by unfold iQ;simp;omega) ?_
  have hw:(m8 Z4 q (Nat.sub q2 q)).length=4:=by
   unfold m8;rw[oLT,List.length_drop];show min (q2 - q) _=4;omega
  refine dK (dX (by omega)) ?_;refine Ok.get (by rw[oLM,oLM];exact YS) λ_ _=>?_;rw[jW,jW,show List.append [] (m8 Z4 q (Nat.sub q2 q))=m8 Z4 q (Nat.sub q2 q) from rfl];have Zv:lh K Z4 ls:=⟨c1,c2,h3,h4,c3⟩;refine Ok.ret ⟨i,Z4,_,_,rfl,Zv.line hx (.inr ⟨by dsimp only;omega,by dsimp only;omega,by dsimp only;omega,hw,λc hc=>c2 c ?_⟩) (.inr (.inr λo ho=>?_)),ul hx,rfl,hw⟩
  ·dsimp only at hc;unfold m8 at hc;exact List.mem_of_mem_drop (List.mem_of_mem_take hc)
  ·dsimp only;unfold m8;rw[hq,oTN,List.getElem?_take_of_lt (show o < Nat.sub q2 q by show o < q2 - q;omega),List.getElem?_drop]
theorem Ni{K:Int->Prop}{cs:List DCe}{ls:List DLn}{a:Int}(h:lh K cs ls) (ha:0<=a/\a < 512):Ok (pE a cs ls) λr=>∃t v Z4 Z1,r=(t,v,Z4,Z1,())/\o7 K (t,v)/\lh K Z4 Z1:=by
 refine (J7 h ha).bind ?_;rintro _ ⟨i,Z4,Z1,x,rfl,hm,hx,Z2,Yp⟩;have hg:dM Z1 i=some x:=hx;simp[hg];rw[Int.tmod_eq_emod_of_nonneg ha.1];refine Ok.nat (by omega) λj hj=>?_;refine Ok.get (by omega) λ_ _=>?_;refine Ok.get (by omega) λc hc=>?_
 have ZP:o7 K c:=by
  rcases hm.lines i x hx with ⟨_,_,g⟩ | ⟨_,_,_,_,g⟩
  ·omega
  ·exact g c (dR hc)
 exact Ok.ret ⟨_,_,_,_,rfl,ZP,hm⟩
theorem C5{K:Int->Prop}{cs:List DCe}{ls:List DLn}{a t v:Int}(h:lh K cs ls) (ha:0<=a/\a < 512) (hc:o7 K (t,v)):Ok (lF a t v cs ls) λr=>∃Z4 Z1,r=(Z4,Z1,())/\lh K Z4 Z1:=by
 refine (J7 h ha).bind ?_;rintro _ ⟨i,Z4,Z1,x,rfl,hm,hx,Z2,Yp⟩;have hg:dM Z1 i=some x:=hx;have YS:=(oGS hx).1;simp[hg];rw[Int.tmod_eq_emod_of_nonneg ha.1];refine Ok.nat (by omega) λj hj=>?_;refine Ok.get (by omega) λ_ _=>?_;refine Ok.get (by omega) λ_ _=>?_;refine Ok.get (by simp_all) λ_ _=>?_;rw[jW];refine Ok.ret ⟨_,_,rfl,hm.line hx ?_ (.inr (.inl rfl))⟩;rcases hm.lines i x hx with ⟨_,_,g⟩ | ⟨g1,g2,g3,g4,g5⟩
 ·omega
 ·exact .inr ⟨g1,g2,g3,by simp_all,jX g5 λ_ _=>hc⟩
theorem qZ(x:Int):W16 (wk .u16 x):=by
 unfold wk;rw[DE];exact⟨by omega,by omega⟩
theorem PO{ss bs:List Int}{key t v t' v':Int}(h:LV bs ss) (hv:W16 v) (Y7:W16 v'):Ok (lE bs key ss t v t' v') λ_=>True:=by
 obtain⟨v0,v1⟩:=hv;obtain⟨u0,u1⟩:=Y7;unfold lE;rw[d7 (x:=v) (by omega) (by omega),d7 (by omega) (by omega)];refine (xB h ⟨v0,v1⟩).bind ?_;rintro⟨r,o,ok,_⟩ _;refine (xB h ⟨u0,u1⟩).bind ?_;rintro⟨r',o',ok',_⟩ _;cases ok<;>cases ok'<;>exact Ok.ret trivial
theorem IW(b:Bool):kY b=some (0,(bif b then 1 else 0),()):=by cases b<;>rfl
theorem Sw{op b c:Int}(hb:W16 b) (hc:W16 c):Ok (lD op b c) λr=>∃v e,r=(0,v,e,())/\W16 v/\0<=e/\e<=6:=by
 obtain⟨b0,b1⟩:=hb;obtain⟨c0,c1⟩:=hc;have ZY:∀x:Int,W16 x->Ok (some ((0:Int),x,(0:Int),())) λr=>∃v e,r=(0,v,e,())/\W16 v/\0<=e/\e<=6:=λx h=>Ok.ret ⟨x,0,rfl,h,by decide,by decide⟩;have z5:Ok (some ((0:Int),(0:Int),(5:Int),())) λr=>∃v e,r=(0,v,e,())/\W16 v/\0<=e/\e<=6:=Ok.ret ⟨0,5,rfl,⟨by decide,by decide⟩,by decide,by decide⟩;have hw:=qZ;unfold lD
 (with_reducible refine dJ (λZ'=>?_) λZ'=>?_)
 ·exact ZY _ (qZ _)
 (with_reducible refine dJ (λZ3=>?_) λZ3=>?_)
 ·exact ZY _ (qZ _)
 (with_reducible refine dJ (λhcc=>?_) λhcc=>?_)
 ·exact ZY _ (qZ _)
 have hq:∀X:Option (Int×Int×Int×Unit),c≠0->(X=(bif (op==6) then (bif (c != 0) then some ((0:Int),wk .u16 (Int.tdiv b c),(0:Int),()) else none) else bif (c != 0) then some ((0:Int),Int.tmod b c,(0:Int),()) else none))->Ok X λr=>∃v e,r=(0,v,e,())/\W16 v/\0<=e/\e<=6:=by
  rintro _ hne rfl;refine Ok.cond (λ_=>dK (by rw[bne_iff_ne];exact hne) (ZY _ (qZ _))) λ_=>dK (by rw[bne_iff_ne];exact hne) (ZY _ ?_);rw[Int.tmod_eq_emod_of_nonneg b0];have h1:=Int.emod_nonneg b hne;have h2:=Int.emod_lt_of_pos b (show 0 < c by omega);exact⟨h1,by omega⟩
 (with_reducible refine dJ (λXp=>?_) λXp=>?_)
 ·(with_reducible refine dJ (λWq=>?_) λWq=>?_)
  ·exact z5
  ·simp_all
 (with_reducible refine dJ (λXp=>?_) λXp=>?_)
 ·(with_reducible refine dJ (λWq=>?_) λWq=>?_)
  ·exact z5
  ·simp_all
 (with_reducible refine dJ (λVG=>?_) λVG=>?_)
 ·exact ZY _ (hw _)
 (with_reducible refine dJ (λVG=>?_) λVG=>?_)
 ·exact ZY _ (hw _)
 (with_reducible refine dJ (λVG=>?_) λVG=>?_)
 ·exact ZY _ (hw _)
 (with_reducible refine dJ (λVG=>?_) λVG=>?_)
 ·rw[Int.tmod_eq_emod_of_nonneg c0];refine Ok.nat (by omega) λj hj=>?_;exact ZY _ (hw _)
 (with_reducible refine dJ (λVG=>?_) λVG=>?_)
 ·rw[Int.tmod_eq_emod_of_nonneg c0];refine Ok.nat (by omega) λj hj=>ZY _ ?_;show W16 (Int.fdiv b (2 ^ (min j 16)));have hp:(0:Int) < 2 ^ (min j 16):=Int.pow_pos (by decide);rw[Int.fdiv_eq_ediv_of_nonneg _ (by omega)];exact⟨Int.ediv_nonneg b0 (by omega),by have:=Int.ediv_le_self (2 ^ (min j 16)) b0;omega⟩
 rw[IW];refine ZY _ ?_;cases decide (b < c)
 ·exact⟨by decide,by decide⟩
 ·exact⟨by decide,by decide⟩
def Qk(K:Int->Prop) (r:Int×Int×Int×Unit):Prop:=∃t v e,r=(t,v,e,())/\o7 K (t,v)/\0<=e/\e<=6
theorem tD{K:Int->Prop}{t v e:Int}(h:o7 K (t,v)) (h0:0<=e) (h1:e<=6):Ok (some (t,v,e,())) (Qk K):=Ok.ret ⟨t,v,e,rfl,h,h0,h1⟩
theorem zY{K:Int->Prop}{v:Int}(h:W16 v):o7 K (0,v):=nn h
theorem Hs{K:Int->Prop}(b:Bool):o7 K (0,bif b then 1 else 0):=zY (by cases b<;>exact⟨by decide,by decide⟩)
theorem vD{K:Int->Prop}:o7 K (0,0):=zY ⟨by decide,by decide⟩
theorem Tq{ss bs:List Int}{key op t v t' v':Int}(h:LV bs ss) (hb:o7 (RK bs ss) (t,v)) (hc:o7 (RK bs ss) (t',v')):Ok (ue bs key ss op t v t' v') (Qk (RK bs ss)):=by
 obtain⟨t0,t2,v0,v1,_⟩:=hb;obtain⟨u0,u2,w0,w1,_⟩:=hc;dsimp only at t0 t2 v0 v1 u0 u2 w0 w1;obtain⟨_,eN,n1,n2,rfl,Wy,hn2,hn3⟩:=Sw (op:=op) (b:=v) (c:=v') ⟨v0,v1⟩ ⟨w0,w1⟩;obtain⟨_,eA,a1,a2,a3,rfl,XF,W3,ha3,_⟩:=AH (key:=key) (tag:=t) (back:=false) h (v:=v) (n:=v') ⟨v0,v1⟩ ⟨w0,w1⟩;obtain⟨_,eB,b1,b2,b3,rfl,hb1,ZZ,Vg,_⟩:=AH (key:=key) (tag:=t') (back:=false) h (v:=v') (n:=v) ⟨w0,w1⟩ ⟨v0,v1⟩;obtain⟨_,eC,c1,c2,c3,rfl,ZW,ZP,hc3,_⟩:=AH (key:=key) (tag:=t) (back:=true) h (v:=v) (n:=v') ⟨v0,v1⟩ ⟨w0,w1⟩;obtain⟨⟨p1,p2,p3,p4,ok,_⟩,eP,_⟩:=PO (key:=key) (t:=t) (t':=t') h (v:=v) (v':=v') ⟨v0,v1⟩ ⟨w0,w1⟩;unfold ue
 (with_reducible refine dJ (λZ'=>?_) λZ'=>?_)
 ·exact tD vD (by decide) (by decide)
 (with_reducible refine dJ (λZ3=>?_) λZ3=>?_)
 ·exact tD vD (by decide) (by decide)
 cases h14:(op==14) with
 | true=>
  simp only[oCT,IW,oBS];exact tD (Hs _) (by decide) (by decide)
 | false=>
  simp only[oCF,eN,eA,eB,eC,eP,oBS]
  rcases (show t=0\/t=1\/t=2 by omega) with rfl | rfl | rfl<;>rcases (show t'=0\/t'=1\/t'=2 by omega) with rfl | rfl | rfl
  all_goals
   cases h3:(op==3)<;>cases h4:(op==4)<;>cases h13:(op==13)<;>simp only[Int.reduceBEq,oCT,oCF,oBS,h3,h4,h13,IW,eN,eA,eB,eC,eP,BEq.rfl]
  all_goals first
   | exact tD (zY Wy) hn2 hn3
   | exact tD XF W3 ha3
   | exact tD hb1 ZZ Vg
   | exact tD ZW ZP hc3
   | exact tD vD (by decide) (by decide)
   | (cases ok<;>first
    | exact tD vD (by decide) (by decide)
    | exact tD (Hs _) (by decide) (by decide)
    | exact tD (zY (qZ _)) (by decide) (by decide))
theorem NW{l:List Int}{k:Int}(h:DOk l k):Ok (n6 l k) λr=>∃t b s k',r=(t,b,s,l,k',())/\0<=t/\t < 4/\0<=b/\b<=63/\DOk l k':=by
 unfold n6
 (with_reducible refine fO (by omega) (by omega) (by omega) (λv0 k0 a0 b0 d0=>?_);try dsimp only)
 (with_reducible refine fO (by omega) (by omega) (by omega) (λv1 k1 a1 b1 d1=>?_);try dsimp only)
 (with_reducible refine Ok.nat (by omega) (λj1 hj1=>?_);try dsimp only)
 have hm:∀x∈[(0:Int),1,2,3,7,63],0<=x/\x<=63:=by simp_all
 refine Ok.get (by simp;omega) λx hx=>?_;refine Ok.get (by simp;omega) λy hy=>?_;have WZ:=hm y (dR hy)
 (with_reducible refine fO (by omega) (by omega) (by omega) (λv2 k2 a2 b2 d2=>?_);try dsimp only)
 exact Ok.ret ⟨_,_,_,_,rfl,a0,b0,WZ.1,WZ.2,d2⟩
def jn:List DTh->Int->List Int
 | [],_=>[]
 | t :: ts,i=>if t.1=1 then i :: jn ts (i+1) else jn ts (i+1)
theorem DP(a b:List DTh) (i:Int):jn (a++b) i=jn a i++jn b (i+a.length):=by
 induction a generalizing i with
 | nil=>simp[jn]
 | cons t a ih=>
  simp[jn,ih];rw[show i+1+(a.length:Int)=i+((a.length+1:Nat):Int) by omega];split<;>rfl
theorem Df(a:List DTh) (i:Int):(jn a i).length<=a.length:=by
 induction a generalizing i with
 | nil=>simp[jn]
 | cons t a ih=>
  simp[jn];have:=ih (i+1);split<;>simp<;>omega
theorem KR{a:List DTh}{i x:Int}(h:x∈jn a i):i<=x/\x < i+a.length/\∃t,a[(x - i).toNat]?=some t/\t.1=1:=by
 induction a generalizing i with
 | nil=>simp[jn] at h
 | cons t a ih=>
  simp[jn] at h
  have key:x∈jn a (i+1)->i<=x/\x < i+((t :: a).length:Int)/\∃t',(t :: a)[(x - i).toNat]?=some t'/\t'.1=1:=by
   intro h;have ⟨h1,h2,t',h3,h4⟩:=ih h;refine⟨by omega,by simp;omega,t',?_,h4⟩;rw[show (x - i).toNat=(x - (i+1)).toNat+1 by omega,List.getElem?_cons_succ];exact h3
  split at h
  ·rename_i ht;rcases List.mem_cons.1 h with rfl | h
   ·exact⟨by omega,by simp;omega,t,by simp,ht⟩
   ·exact key h
  ·exact key h
theorem OY{ts:List DTh}(h:ts.length<=1000):nS ts=some (jn ts 0,()):=by
 have e:dU i9 NN (ts,(ts.length:Int),0,[],())=some (ts,(ts.length:Int),(ts.length:Int),false,jn ts 0,()):=by
  have:=mW (f:=i9) (N:=NN) (st:=λk=>(ts,(ts.length:Int),(k:Int),jn (ts.take k) 0,())) (n:=ts.length) (t:=(ts,(ts.length:Int),(ts.length:Int),false,jn ts 0,())) (by unfold NN;omega) ?_ ?_
  ·exact this
  ·intro k hk;unfold i9;dsimp only
   (with_reducible refine dJ (λZ'=>?_) λZ'=>?_)
   ·rw[dO];simp;obtain⟨x,hx⟩:∃x,ts[k]?=some x:=⟨_,oGE hk⟩;rw[show dM ts k=some x from hx];simp;have hlen:=Df (ts.take k) 0;rw[oLT] at hlen
    have Vm:jn (ts.take (k+1)) 0=jn (ts.take k) 0++(if x.1=1 then [(k:Int)] else []):=by
     rw[List.take_add_one,hx,DP];congr 1;rw[oLT,show 0+((min k ts.length:Nat):Int)=(k:Int) by omega];simp only[Option.toList,jn]
    refine Ok.bind (P:=(·=(ts,(ts.length:Int),(k:Int),jn (ts.take (k+1)) 0,()))) ?_ ?_
    ·(with_reducible refine dJ (λZ3=>?_) λZ3=>?_)
     ·refine dK (dX (by simp;omega)) ?_;rw[Vm,oIP Z3];exact Ok.ret rfl
     ·rw[Vm,oIN Z3,List.append_nil];exact Ok.ret rfl
    ·rintro _ rfl
     (simp (disch:=omega) only [dS,ef,d7,dZ])
     exact Ok.ret rfl
   ·omega
  ·unfold i9;dsimp only
   (with_reducible refine dJ (λZ'=>?_) λZ'=>?_)
   ·omega
   ·rw[List.take_length];exact Ok.ret rfl
 refine eV ?_;unfold nS;delta dN
 try dsimp only
 rw[e];exact Ok.ret rfl
theorem Bu{ow:List Int}{qs:List (List Int)}(h:jO ow qs):nb ow qs=some (ow,qs,()):=by
 have hq4:∀q∈qs,q.length<=4:=λq hq=>h.qlen4 hq;obtain⟨h1,h2,h3,h4⟩:=h
 have e:dU jw NN (qs,(qs.length:Int),0,ow,qs,(),(),ow,[],())=some (qs,(qs.length:Int),(qs.length:Int),false,ow,qs,(),(),ow,qs,()):=by
  have:=mW (f:=jw) (N:=NN) (st:=λk=>(qs,(qs.length:Int),(k:Int),ow,qs,(),(),ow,qs.take k,())) (n:=qs.length) (t:=(qs,(qs.length:Int),(qs.length:Int),false,ow,qs,(),(),ow,qs,())) (by unfold NN;omega) ?_ ?_
  ·exact this
  ·intro k hk;unfold jw
   (with_reducible refine dJ (λZ'=>?_) λZ'=>?_)
   ·rw[dO];refine Ok.get (by omega) λx hx=>?_;have:=hq4 x (dR hx);refine dK (dX (by omega)) (dK (dX (by simp;omega)) ?_)
    (simp (disch:=omega) only [dS,ef,d7,dZ])
    refine Ok.ret ?_;rw[List.take_add_one,hx];rfl
   ·omega
  ·unfold jw
   (with_reducible refine dJ (λZ'=>?_) λZ'=>?_)
   ·omega
   ·rw[List.take_length];exact Ok.ret rfl
 refine eV ?_;refine dK (dX (by omega)) ?_;rw[show List.append [] ow=ow from rfl];delta dN
 try dsimp only
 rw[e];exact Ok.ret rfl
theorem IT{ow:List Int}{qs:List (List Int)}{lock t:Int}(h:jO ow qs):Ok (kW ow qs lock t) λr=>∃Zh qs' n b,r=(Zh,qs',n,b,())/\jO Zh qs'/\-1<=n/\n<=3:=by
 unfold kW;rw[Bu h];obtain⟨h1,h2,h3,h4⟩:=id h;refine Ok.bind (P:=λr=>∃b,r=(lock,b,(),(),ow,qs,())/\(b=false->0<=lock/\lock < 4)) ?_ ?_
 ·(with_reducible refine dJ (λZ'=>?_) λZ'=>?_)
  ·exact Ok.ret ⟨true,rfl,λh=>by cases h⟩
  ·(with_reducible refine dJ (λZ3=>?_) λZ3=>?_)
   ·exact Ok.ret ⟨true,rfl,λh=>by cases h⟩
   ·refine Ok.nat (by omega) λj hj=>?_;refine Ok.get (by omega) λx hx=>?_;exact Ok.ret ⟨_,rfl,λ_=>⟨by omega,by omega⟩⟩
 rintro _ ⟨b,rfl,hb⟩;dsimp only;refine Ok.cond (λ_=>Ok.ret ⟨_,_,_,_,rfl,h,by omega,by omega⟩) λhbf=>?_;obtain⟨l0,l1⟩:=hb hbf;obtain⟨j,rfl⟩:∃j:Nat,lock=j:=⟨lock.toNat,by omega⟩;obtain⟨o,ho⟩:∃o,ow[j]?=some o:=⟨_,oGE (by omega)⟩;obtain⟨q,hq⟩:∃q,qs[j]?=some q:=⟨_,oGE (by omega)⟩;have go:dM ow j=some o:=ho;have gq:dM qs j=some q:=hq;have gm:∀f:Int->Int,dM (List.modify ow j f) j=some (f o):=λf=>ul ho;have gm2:∀f g:Int->Int,dM (List.modify (List.modify ow j f) j g) j=some (g (f o)):=λf g=>ul (ul ho);delta dN;simp only[dO,oBS,go,gq,gm,gm2];have Xu:jO (List.modify ow j λ_=>-1) qs:=⟨by rw[oLM];exact h1,h2,jX h3 λ_ _=>⟨by omega,by omega⟩,h4⟩
 (with_reducible refine dJ (λhcc=>?_) λhcc=>?_)
 ·obtain⟨x,hx⟩:∃x,q[0]?=some x:=⟨_,oGE (by omega)⟩;have gx:dM q 0=some x:=hx;have Yp:=(h4 q (dR hq)).2 x (dR hx);simp only[gx,oBS];refine dK (by unfold iQ;simp;omega) ?_;refine Ok.ret ⟨_,_,_,_,rfl,⟨by rw[oLM,oLM];exact h1,by rw[oLM];exact h2,jX (jX h3 λ_ _=>⟨by omega,by omega⟩) λ_ _=>⟨by omega,by omega⟩,jX h4 λ_ _=>?_⟩,by omega,by omega⟩;obtain⟨q1,q2⟩:=h4 q (dR hq);unfold m8;have hs:(List.take (Nat.sub q.length 1) (List.drop 1 q)).Sublist q:=(List.take_sublist _ _).trans (List.drop_sublist _ _);exact⟨q1.sublist hs,λt ht=>q2 t (hs.subset ht)⟩
 ·exact Ok.ret ⟨_,_,_,_,rfl,Xu,by omega,by omega⟩
theorem K6{q:List Int}{x:Int}(h:q.Nodup) (hx:x ∉ q):(q++[x]).Nodup:=by
 grind
theorem Rz{ow:List Int}{qs:List (List Int)}{t:Int}(h:jO ow qs):Ok (pC ow qs t) λr=>∃Zh qs' nx,r=(Zh,qs',nx,())/\jO Zh qs'/\nx.length<=4/\∀x∈nx,0<=x/\x<=3:=by
 unfold pC;rw[Bu h];delta dN;simp only[oBS];have h2:=h.qlen;refine Ok.loop (P:=λs'=>∃k:Nat,∃qs',s'=(t,(qs.length:Int),(k:Int),(),(),ow,qs',())/\k<=qs.length/\jO ow qs') (R:=λr=>∃a b c qs',r=(t,a,b,c,(),(),ow,qs',())/\jO ow qs') (m:=λs'=>(s'.2.1 - s'.2.2.1).toNat) ⟨0,qs,rfl,by omega,h⟩ (by unfold NN;dsimp only;omega) ?_ ?_
 ·rintro _ ⟨k,qs',rfl,hk,hl⟩;obtain⟨g1,g2,g3,g4⟩:=id hl;unfold sU;dsimp only
  (with_reducible refine dJ (λZ'=>?_) λZ'=>?_)
  ·obtain⟨q,hq⟩:∃q,qs'[k]?=some q:=⟨_,oGE (by omega)⟩;have gq:dM qs' k=some q:=hq;obtain⟨q1,q2⟩:=g4 q (dR hq);have q3:=hl.qlen4 (dR hq);delta dN;simp only[dO,oBS,gq]
   refine Ok.loop (P:=λs'=>∃j:Nat,∃l,s'=(t,(k:Int),(qs.length:Int),(k:Int),k,(q.length:Int),(j:Int),(),(),ow,qs',l,())/\j<=q.length/\l.Sublist (q.take j))
    (R:=λr=>∃a b c d l,r=(t,(k:Int),(qs.length:Int),(k:Int),a,b,c,d,(),(),ow,qs',l,())/\l.Sublist q) (m:=λs'=>(s'.2.2.2.2.2.1 - s'.2.2.2.2.2.2.1).toNat) ⟨0,[],rfl,by omega,by simp⟩ (by unfold NN;dsimp only;omega) ?_ ?_
   ·rintro _ ⟨j,l,rfl,hj,Z9⟩;unfold sV;dsimp only
    (with_reducible refine dJ (λZ3=>?_) λZ3=>?_)
    ·obtain⟨x,hx⟩:∃x,q[j]?=some x:=⟨_,oGE (by omega)⟩;have gx:dM q j=some x:=hx;simp only[dO,oBS,gq,gx];have Xv:=Z9.length_le;rw[oLT] at Xv
     have Uu:q.take (j+1)=q.take j++[x]:=by rw[List.take_add_one,hx];rfl
     refine Ok.bind (P:=λr=>∃l',r=(t,(k:Int),(qs.length:Int),(k:Int),k,(q.length:Int),(j:Int),(),(),ow,qs',l',())/\l'.Sublist (q.take (j+1))) ?_ ?_
     ·refine Ok.cond (λ_=>dK (dX (by simp;omega)) (Ok.ret ⟨_,rfl,?_⟩)) λ_=>Ok.ret ⟨l,rfl,?_⟩
      ·rw[Uu];exact Z9.append (List.Sublist.refl _)
      ·rw[Uu];exact Z9.trans (List.sublist_append_left _ _)
     ·rintro _ ⟨l',rfl,hs⟩;dsimp only
      (simp (disch:=omega) only [dS,ef,d7,dZ])
      exact Ok.ret ⟨⟨j+1,l',rfl,by omega,hs⟩,by dsimp only;omega⟩
    ·exact Ok.ret ⟨_,_,_,_,l,rfl,Z9.trans (List.take_sublist _ _)⟩
   ·rintro _ ⟨a,b,c,d,l,rfl,hs⟩;dsimp only;simp only[dO,oBS,gq]
    (simp (disch:=omega) only [dS,ef,d7,dZ])
    exact Ok.ret ⟨⟨k+1,_,rfl,by omega,⟨g1,by rw[oLM];exact g2,g3,jX g4 λ_ _=>⟨q1.sublist hs,λt ht=>q2 t (hs.subset ht)⟩⟩⟩,by dsimp only;omega⟩
  ·exact Ok.ret ⟨_,_,_,qs',rfl,hl⟩
 ·rintro _ ⟨a,b,c,qs',rfl,hl⟩;dsimp only
  refine Ok.loop (P:=λs'=>∃k:Nat,∃Zh qs' nx,s'=(t,4,(k:Int),(),(),Zh,qs',nx,())/\k<=4/\nx.length<=k/\jO Zh qs'/\∀x∈nx,0<=x/\x<=3) (R:=λr=>∃a b c Zh qs' nx,r=(t,a,b,c,(),(),Zh,qs',nx,())/\jO Zh qs'/\nx.length<=4/\∀x∈nx,0<=x/\x<=3) (m:=λs'=>(4 - s'.2.2.1).toNat)
   ⟨0,ow,qs',[],by rw[hl.olen];rfl,by omega,by simp,hl,eu⟩ (by unfold NN;dsimp only;omega) ?_ ?_
  ·rintro _ ⟨k,Zh,qs',nx,rfl,hk,XI,Zq,W5⟩;unfold sT;dsimp only
   (with_reducible refine dJ (λZ'=>?_) λZ'=>?_)
   ·refine (IT Zq).bind ?_;rintro _ ⟨ow2,qs2,n,bb,rfl,hl2,n0,n1⟩;dsimp only;refine Ok.bind (P:=λr=>∃nx',r=(t,4,(k:Int),(),(),Zh,qs',nx',ow2,qs2,())/\nx'.length<=k+1/\∀x∈nx',0<=x/\x<=3) ?_ ?_
    ·refine Ok.cond (λ_=>?_) λ_=>Ok.ret ⟨nx,rfl,by omega,W5⟩
     (with_reducible refine dJ (λZ3=>?_) λZ3=>?_)
     ·refine dK (dX (by simp;omega)) (Ok.ret ⟨_,rfl,by rw[ft];simp;omega,j6 W5 (all_cons ⟨by omega,n1⟩ eu)⟩)
     ·exact Ok.ret ⟨nx,rfl,by omega,W5⟩
    ·rintro _ ⟨nx',rfl,Wy,hn2⟩;dsimp only
     (simp (disch:=omega) only [dS,ef,d7,dZ])
     exact Ok.ret ⟨⟨k+1,_,_,_,rfl,by omega,Wy,hl2,hn2⟩,by dsimp only;omega⟩
   ·exact Ok.ret ⟨_,_,_,_,_,_,rfl,Zq,by omega,W5⟩
  ·rintro _ ⟨a,b,c,Zh,qs',nx,rfl,Zq,hn4,W5⟩;exact Ok.ret ⟨_,_,_,rfl,Zq,hn4,W5⟩
theorem Qv{ow:List Int}{qs:List (List Int)}{lock t:Int}(h:jO ow qs) (ht:0<=t/\t<=3):Ok (pB ow qs lock t) λr=>∃Zh qs' n,r=(Zh,qs',n,())/\jO Zh qs':=by
 unfold pB;rw[Bu h];simp only[oBS];obtain⟨h1,h2,h3,h4⟩:=id h;refine Ok.bind (P:=λr=>∃b,r=(lock,t,b,ow,qs,(),(),ow,qs,())/\(b=false->0<=lock/\lock < 4)) ?_ ?_
 ·(with_reducible refine dJ (λZ'=>?_) λZ'=>?_)
  ·exact Ok.ret ⟨true,rfl,λh=>by cases h⟩
  ·(with_reducible refine dJ (λZ3=>?_) λZ3=>?_)
   ·exact Ok.ret ⟨true,rfl,λh=>by cases h⟩
   ·refine Ok.nat (by omega) λj hj=>?_;refine Ok.get (by omega) λx hx=>?_;exact Ok.ret ⟨_,rfl,λ_=>⟨by omega,by omega⟩⟩
 rintro _ ⟨b,rfl,hb⟩;dsimp only;refine Ok.cond (λ_=>Ok.ret ⟨_,_,_,rfl,h⟩) λhbf=>?_;obtain⟨l0,l1⟩:=hb hbf;delta dN
 try dsimp only
 obtain⟨r,e,hr⟩:=gG (f:=oD) (n:=NN) (s:=(lock,t,qs,(qs.length:Int),0,ow,qs,(),(),ow,qs,())) (P:=λs'=>∃k:Nat,s'=(lock,t,qs,(qs.length:Int),(k:Int),ow,qs,(),(),ow,qs,())/\k<=qs.length/\∀(i:Nat) q,i < k->qs[i]?=some q->t ∉ q)
  (R:=λr=>r=.inl (2,ow,qs,())\/((∃a b c,r=.inr (lock,t,a,b,c,false,ow,qs,(),(),ow,qs,()))/\∀q∈qs,t ∉ q)) (m:=λs'=>(s'.2.2.2.1 - s'.2.2.2.2.1).toNat) ⟨0,rfl,by omega,λi q hi=>by omega⟩ (by unfold NN;dsimp only;omega) (by
   rintro _ ⟨k,rfl,hk,ZN⟩;unfold oD;dsimp only
   (with_reducible refine dJ (λZ'=>?_) λZ'=>?_)
   ·obtain⟨q,hq⟩:∃q,qs[k]?=some q:=⟨_,oGE (by omega)⟩;have gq:dM qs k=some q:=hq;have q3:=h.qlen4 (dR hq);delta dN;simp only[dO,oBS,gq]
    obtain⟨r,e,hr⟩:=gG (f:=oE) (n:=NN) (s:=(lock,t,qs,(qs.length:Int),(k:Int),q,(q.length:Int),0,ow,qs,(),(),ow,qs,())) (P:=λs'=>∃j:Nat,s'=(lock,t,qs,(qs.length:Int),(k:Int),q,(q.length:Int),(j:Int),ow,qs,(),(),ow,qs,())/\j<=q.length/\∀(i:Nat) x,i < j->q[i]?=some x->x≠t)
     (R:=λr=>r=.inl (2,ow,qs,())\/((∃a b c,r=.inr (lock,t,qs,(qs.length:Int),(k:Int),a,b,c,false,ow,qs,(),(),ow,qs,()))/\t ∉ q)) (m:=λs'=>(s'.2.2.2.2.2.2.1 - s'.2.2.2.2.2.2.2.1).toNat) ⟨0,rfl,by omega,λi x hi=>by omega⟩ (by unfold NN;dsimp only;omega) (by
      rintro _ ⟨j,rfl,hj,hne⟩;unfold oE;dsimp only
      (with_reducible refine dJ (λZ3=>?_) λZ3=>?_)
      ·obtain⟨x,hx⟩:∃x,q[j]?=some x:=⟨_,oGE (by omega)⟩;have gx:dM q j=some x:=hx;simp only[dO,oBS,gx]
       (with_reducible refine dJ (λhcc=>?_) λhcc=>?_)
       ·exact Ok.ret (.inl rfl)
       ·(simp (disch:=omega) only [dS,ef,d7,dZ])
        exact Ok.ret ⟨⟨j+1,rfl,by omega,Kn hne hx hcc⟩,by dsimp only;omega⟩
      ·refine Ok.ret (.inr ⟨⟨_,_,_,rfl⟩,λhm=>?_⟩);obtain⟨i,hi⟩:=List.getElem?_of_mem hm
       exact hne i t (by have:=(oGS hi).1;omega) hi rfl)
    rw[e];rcases hr with rfl | ⟨⟨a,b,c,rfl⟩,hnot⟩
    ·exact Ok.ret (.inl rfl)
    ·dsimp only
     (simp (disch:=omega) only [dS,ef,d7,dZ])
     refine Ok.ret ⟨⟨k+1,rfl,by omega,λi q' hi Us=>?_⟩,by dsimp only;omega⟩;by_cases hik:i=k
     ·simp_all
     ·exact ZN i q' (by omega) Us
   ·refine Ok.ret (.inr ⟨⟨_,_,_,rfl⟩,λq hq=>?_⟩);obtain⟨i,hi⟩:=List.getElem?_of_mem hq
    exact ZN i q (by have:=(oGS hi).1;omega) hi)
 rw[e];rcases hr with rfl | ⟨⟨a,b,c,rfl⟩,hnot⟩
 ·exact Ok.ret ⟨_,_,_,rfl,h⟩
 ·dsimp only;obtain⟨j,rfl⟩:∃j:Nat,lock=j:=⟨lock.toNat,by omega⟩;obtain⟨o,ho⟩:∃o,ow[j]?=some o:=⟨_,oGE (by omega)⟩;obtain⟨q,hq⟩:∃q,qs[j]?=some q:=⟨_,oGE (by omega)⟩;have go:dM ow j=some o:=ho;have gq:dM qs j=some q:=hq;simp only[dO,oBS,go,gq]
  (with_reducible refine dJ (λXp=>?_) λXp=>?_)
  ·exact Ok.ret ⟨_,_,_,rfl,⟨by rw[oLM];exact h1,h2,jX h3 λ_ _=>⟨by omega,ht.2⟩,h4⟩⟩
  ·have q3:=h.qlen4 (dR hq);refine dK (dX (by simp;omega)) (dK (by simp) (Ok.ret ⟨_,_,_,rfl,⟨h1,by rw[oLM];exact h2,h3,jX h4 λ_ _=>⟨?_,?_⟩⟩⟩))
   ·exact K6 (h4 q (dR hq)).1 (hnot q (dR hq))
   ·exact j6 (h4 q (dR hq)).2 (all_cons ht eu)
theorem eG{α:Type}{l:List α}{i:Nat}{a:α}(h:l[i]?=some a) (f:α->α):List.modify l i f=l.set i (f a):=by
 apply List.ext_getElem?
 grind
theorem iK{α:Type}{l:List α}{i:Nat}(h:i < l.length) (a:α):dM (l.set i a) i=some a:=by
 show (l.set i a)[i]?=some a
 simp_all
theorem qv{α:Type}{l:List α}{i:Nat}(h:i < l.length) (a:α) (f:α->α):List.modify (l.set i a) i f=l.set i (f a):=by
 rw[eG (iK h a),List.set_set]
theorem jI{α:Type}{P:α->Prop}{l:List α}{i:Nat}{a:α}(h:∀x∈l,P x) (ha:P a):∀x∈l.set i a,P x:=by
 grind
theorem MOk.set{n:Int}{ss bs:List Int}{cs Z4:List DCe}{ls Z1:List DLn}{ts:List DTh}(h:MOk n ss bs cs ls ts) (hm:lh (RK bs ss) Z4 Z1) {i:Nat}{t:DTh}(ht:BO (RK bs ss) n t):MOk n ss bs Z4 Z1 (ts.set i t):=
 ⟨h.lay,hm,by rw[List.length_set];exact h.tlen,jI h.thr ht⟩
def T3(code:List DIn) (t:DTh) (s:Int) (t':DTh):Prop:=
 (s=-1/\t'.1=1/\((t'.2.2.2.1=t.2.2.2.1/\t'.2.2.1=t.2.2.1+1)\/t'.2.2.2.1=t.2.2.2.1+1))\/(s=2/\t'.1=4/\t'.2.2.2.1=t.2.2.2.1) \/
  (s=1/\t'.1=2/\t'.2.2.2.1=t.2.2.2.1/\∃i:DIn,1<=t'.2.2.1/\code[(t'.2.2.1 - 1).toNat]?=some i/\i.1=23)
def Jk(n key:Int) (code:List DIn) (ss bs:List Int) (ts:List DTh) (i:Nat) (t:DTh) (r:Int×List Int×Int×List DCe×List DLn×List DTh×Unit):Prop:=
 ∃s Z4 Z1 t',r=(s,bs,key,Z4,Z1,ts.set i t',())/\lh (RK bs ss) Z4 Z1/\BO (RK bs ss) n t'/\T3 code t s t'
theorem oP{n key:Int}{code:List DIn}{ss bs:List Int}{ts:List DTh}{i:Nat}{t t':DTh}{Z4:List DCe}{Z1:List DLn}(hm:lh (RK bs ss) Z4 Z1) (ht:BO (RK bs ss) n t') (h1:t'.1=1)
 (h:(t'.2.2.2.1=t.2.2.2.1/\t'.2.2.1=t.2.2.1+1)\/t'.2.2.2.1=t.2.2.2.1+1):Ok (some (-1,bs,key,Z4,Z1,ts.set i t',())) (Jk n key code ss bs ts i t):=Ok.ret ⟨_,_,_,_,rfl,hm,ht,.inl ⟨rfl,h1,h⟩⟩
theorem n7{n key Xn:Int}{code:List DIn}{ss bs:List Int}{ts:List DTh}{i:Nat}{t:DTh}{Z4:List DCe}{Z1:List DLn}(hm:lh (RK bs ss) Z4 Z1) (ht:BO (RK bs ss) n t) (hw:0<=Xn/\Xn<=6) :
 Ok (some (2,bs,key,Z4,Z1,ts.set i (4,t.2.1,t.2.2.1,t.2.2.2.1,t.2.2.2.2.1,t.2.2.2.2.2.1,Xn,0),())) (Jk n key code ss bs ts i t):=Ok.ret ⟨_,_,_,_,rfl,hm,ht.ended hw,.inr (.inl ⟨rfl,rfl,rfl⟩)⟩
theorem jd(op:Int):mN op=some (mB op || op==22 || op==24,()):=by
 unfold mN;rw[vn]
 grind
set_option maxHeartbeats 4000000 in
theorem Sv{n key:Int}{code:List DIn}{ss bs:List Int}{d:List (List Int)}{cs:List DCe}{ls:List DLn}{ts:List DTh}{i:Nat}{t:DTh}(hp:lf code ss d) (h:MOk n ss bs cs ls ts) (ht:ts[i]?=some t) (hs:t.1=1)
 (hc:t.2.2.2.1+1<=n) (hn:n<=1099511627776):Ok (rh code ss d (i:Int) bs key cs ls ts) (Jk n key code ss bs ts i t):=by
 have hok:=h.thr t (dR ht);have hm:=h.mem;obtain⟨_,hl,hr,⟨p0,p1⟩,⟨c0,c1⟩,ha,⟨s0,s1⟩,⟨r0,r1⟩,hco⟩:=id hok;obtain⟨st,rs,pc,ct,hd,sa,tr,co⟩:=t;dsimp only at *;subst hs;have YS:=(oGS ht).1;have hg:dM ts i=some (1,rs,pc,ct,hd,sa,tr,co):=ht;have e1:∀f:DTh->DTh,List.modify ts i f=ts.set i (f (1,rs,pc,ct,hd,sa,tr,co)):=λf=>eG ht f;have e2:∀x,dM (ts.set i x) i=some x:=λx=>iK YS x;have e3:∀(x:DTh) (f:DTh->DTh),List.modify (ts.set i x) i f=ts.set i (f x):=λx f=>qv YS x f
 have eT:∀Xn,fM (i:Nat) Xn ts=some (2,ts.set i (4,rs,pc,ct,hd,sa,Xn,0),()):=λXn=>by rw[Qs (n:=n) ht,e1]
 have mk:∀{rs':List DCe} {pc' ct' sa':Int},rs'.length=8->(∀c∈rs',o7 (RK bs ss) c)->0<=pc'/\pc'<=255->0<=ct'/\ct'<=n->-1<=sa'/\sa'<=255->BO (RK bs ss) n (1,rs',pc',ct',hd,sa',tr,co):=
  λh1 h2 h3 h4 h5=>⟨⟨show (0:Int)<=1 by decide,show (1:Int)<=4 by decide⟩,h1,h2,h3,h4,ha,h5,⟨r0,r1⟩,hco⟩
 unfold rh;rw[dO];delta dN;simp only[hg,oBS]
 (with_reducible refine dJ (λZ'=>?_) λZ'=>?_)
 ·rw[eT 2];exact n7 hm hok (by decide)
 refine Ok.nat p0 λj hj=>?_;subst hj;have Zd:=hp.clen;refine Ok.get (by omega) λx hx=>?_;obtain⟨op,A,B,C,I⟩:=x;obtain⟨⟨o0,o1⟩,⟨A0,A1,_⟩,⟨B0,B1,_⟩,⟨C0,C1,_⟩,⟨I0,I1,_⟩,hlea,hsys,VQ⟩:=hp.ins _ (dR hx);dsimp only at *;obtain⟨A,rfl⟩:∃k:Nat,A=k:=⟨A.toNat,by omega⟩;obtain⟨B,rfl⟩:∃k:Nat,B=k:=⟨B.toNat,by omega⟩;obtain⟨C,rfl⟩:∃k:Nat,C=k:=⟨C.toNat,by omega⟩;obtain⟨I,rfl⟩:∃k:Nat,I=k:=⟨I.toNat,by omega⟩;obtain⟨⟨ta,va⟩,gA⟩:∃c,dM rs A=some c:=⟨_,oGE (by omega)⟩;obtain⟨⟨tb,vb⟩,gB⟩:∃c,dM rs B=some c:=⟨_,oGE (by omega)⟩;obtain⟨⟨tc,vc⟩,gC⟩:∃c,dM rs C=some c:=⟨_,oGE (by omega)⟩;have cA:=hr _ (dR gA);have cB:=hr _ (dR gB);have cC:=hr _ (dR gC);have eR:∀f:DCe->DCe,List.modify rs A f=rs.set A (f (ta,va)):=λf=>eG gA f;have w1:w64 ((j:Int)+1)=(j:Int)+1:=dS (by omega) (by omega);have wI:wk .u16 (I:Int)=I:=ef (by omega) (by omega);have Zm:∀{c:DCe},o7 (RK bs ss) c->(rs.set A c).length=8/\∀x∈rs.set A c,o7 (RK bs ss) x:=λhc=>⟨by rw[List.length_set];exact hl,jI hr hc⟩;have wc:w64 (ct+1)=ct+1:=dS (by omega) (by omega);simp only[dO,hg,gA,gB,oBS,w1,wI];rcases (show op=0\/op=1\/op=2\/op=15\/op=16\/op=17\/op=18\/op=19\/op=20\/op=21\/op=22\/op=23\/op=24\/(3<=op/\op<=14) by omega) with rfl | rfl | rfl | rfl | rfl | rfl | rfl | rfl | rfl | rfl | rfl | rfl | rfl | ⟨q0,q1⟩
 all_goals try simp only[Int.reduceBEq,oCT,oCF,dO,hg,gA,gB,gC,e1,e2,e3,eR,eT,oBS,w1,wI,wc,jd,mB,Bool.or_false,Bool.or_true,Bool.or_self,bne_self_eq_false]
 ·exact oP hm (mk hl hr (by omega) (by omega) (by omega)) rfl (.inl ⟨rfl,rfl⟩)
 ·exact oP hm (mk (Zm (nn (by omega))).1 (Zm (nn (by omega))).2 (by omega) (by omega) (by omega)) rfl (.inl ⟨rfl,rfl⟩)
 ·exact oP hm (mk (Zm cB).1 (Zm cB).2 (by omega) (by omega) (by omega)) rfl (.inl ⟨rfl,rfl⟩)
 ·have hI:=hlea rfl;have VE:=h.lay.2.1;obtain⟨b,hb⟩:∃b,bs[I]?=some b:=⟨_,oGE (by omega)⟩;obtain⟨z,hz⟩:∃z,ss[I]?=some z:=⟨_,oGE (by omega)⟩;have Yh:=h.lay.2.2 I (by omega);unfold yi at Yh;rw[ew hb,ew hz] at Yh;have X4:=h.lay.1.2.2 z (dR hz);have wb:wk .u16 b=b:=ef (by omega) (by omega);have gb:dM bs I=some b:=hb;simp only[gb,wb,Int.reduceBEq,oCT,oCF,dO,hg,gA,gB,gC,e1,e2,e3,eR,eT,oBS,w1,wI,wc,jd,mB,Bool.or_false,Bool.or_true,Bool.or_self,bne_self_eq_false];have Z3:o7 (RK bs ss) (1,b):=⟨by dsimp only;omega,by dsimp only;omega,by dsimp only;omega,by dsimp only;omega,λ_=>⟨I,b,z,hb,hz,by dsimp only;omega,by dsimp only;omega⟩⟩;exact oP hm (mk (Zm Z3).1 (Zm Z3).2 (by omega) (by omega) (by omega)) rfl (.inl ⟨rfl,rfl⟩)
 ·obtain⟨_,em,t1,x1,e,rfl,ZW,VK,VM,WO⟩:=AH (key:=key) (tag:=tb) (v:=vb) (n:=(I:Int)) (back:=false) h.lay ⟨cB.2.2.1,cB.2.2.2.1⟩ ⟨by omega,by omega⟩;simp only[em,oBS];by_cases hne:e=0
  ·subst hne;have wx:wk .i64 x1=x1:=d7 (by have:=ZW.2.2.1;dsimp only at this;omega) (by have:=ZW.2.2.2.1;dsimp only at this;omega);obtain⟨_,el,t2,x2,Vy,V8,rfl,ZP,hm2⟩:=Ni (a:=x1) hm ⟨ZW.2.2.1,WO rfl⟩;simp only[wx,el,Int.reduceBEq,oCT,oCF,dO,hg,gA,gB,gC,e1,e2,e3,eR,eT,oBS,w1,wI,wc,jd,mB,Bool.or_false,Bool.or_true,Bool.or_self,bne_self_eq_false];exact oP hm2 (mk (Zm ZP).1 (Zm ZP).2 (by omega) (by omega) (by omega)) rfl (.inl ⟨rfl,rfl⟩)
  ·simp only[bne_iff_ne.2 hne,oCT];exact n7 hm hok ⟨VK,VM⟩
 ·obtain⟨_,em,t1,x1,e,rfl,ZW,VK,VM,WO⟩:=AH (key:=key) (tag:=ta) (v:=va) (n:=(I:Int)) (back:=false) h.lay ⟨cA.2.2.1,cA.2.2.2.1⟩ ⟨by omega,by omega⟩;simp only[em,oBS];by_cases hne:e=0
  ·subst hne;have wx:wk .i64 x1=x1:=d7 (by have:=ZW.2.2.1;dsimp only at this;omega) (by have:=ZW.2.2.2.1;dsimp only at this;omega);obtain⟨_,el,Vy,V8,rfl,hm2⟩:=C5 (a:=x1) (t:=tb) (v:=vb) hm ⟨ZW.2.2.1,WO rfl⟩ cB;simp only[wx,el,Int.reduceBEq,oCT,oCF,dO,hg,gA,gB,gC,e1,e2,e3,eR,eT,oBS,w1,wI,wc,jd,mB,Bool.or_false,Bool.or_true,Bool.or_self,bne_self_eq_false];exact oP hm2 (mk hl hr (by omega) (by omega) (by omega)) rfl (.inl ⟨rfl,rfl⟩)
  ·simp only[bne_iff_ne.2 hne,oCT];exact n7 hm hok ⟨VK,VM⟩
 ·have:=VQ (by decide);exact oP hm (mk hl hr (by omega) (by omega) (by omega)) rfl (.inr rfl)
 ·have:=VQ (by decide);by_cases hta:ta=0
  ·subst hta
   cases va==0 with
   | true=>
    simp only[BEq.rfl,Int.reduceBEq,oCT,oCF,dO,hg,gA,gB,gC,e1,e2,e3,eR,eT,oBS,w1,wI,wc,jd,mB,Bool.or_false,Bool.or_true,Bool.or_self,bne_self_eq_false];exact oP hm (mk hl hr (by omega) (by omega) (by omega)) rfl (.inr rfl)
   | false=>
    simp only[show (false==true)=false from rfl,Int.reduceBEq,oCT,oCF,dO,hg,gA,gB,gC,e1,e2,e3,eR,eT,oBS,w1,wI,wc,jd,mB,Bool.or_false,Bool.or_true,Bool.or_self,bne_self_eq_false];exact oP hm (mk hl hr (by omega) (by omega) (by omega)) rfl (.inr rfl)
  ·simp only[bne_iff_ne.2 hta,oCT];exact n7 hm hok (by decide)
 ·have:=VQ (by decide);by_cases hta:ta=0
  ·subst hta
   cases va==0 with
   | true=>
    simp only[show (true==false)=false from rfl,Int.reduceBEq,oCT,oCF,dO,hg,gA,gB,gC,e1,e2,e3,eR,eT,oBS,w1,wI,wc,jd,mB,Bool.or_false,Bool.or_true,Bool.or_self,bne_self_eq_false];exact oP hm (mk hl hr (by omega) (by omega) (by omega)) rfl (.inr rfl)
   | false=>
    simp only[BEq.rfl,Int.reduceBEq,oCT,oCF,dO,hg,gA,gB,gC,e1,e2,e3,eR,eT,oBS,w1,wI,wc,jd,mB,Bool.or_false,Bool.or_true,Bool.or_self,bne_self_eq_false];exact oP hm (mk hl hr (by omega) (by omega) (by omega)) rfl (.inr rfl)
  ·simp only[bne_iff_ne.2 hta,oCT];exact n7 hm hok (by decide)
 ·have:=VQ (by decide);have wj:wk .u16 ((j:Int)+1)=(j:Int)+1:=ef (by omega) (by omega);rw[wj];exact oP hm (mk (Zm (nn (by omega))).1 (Zm (nn (by omega))).2 (by omega) (by omega) (by omega)) rfl (.inr rfl)
 ·by_cases hta:ta=0
  ·subst hta;have wa:wk .i64 va=va:=d7 (by have:=cA.2.2.1;dsimp only at this;omega) (by have:=cA.2.2.2.1;dsimp only at this;omega);have a0:=cA.2.2.1;dsimp only at a0;by_cases hva:va > 255
   ·simp only[oDT hva,bne_self_eq_false,oCT,oCF];exact n7 hm hok (by decide)
   ·simp only[oDF hva,wa,Int.reduceBEq,oCT,oCF,dO,hg,gA,gB,gC,e1,e2,e3,eR,eT,oBS,w1,wI,wc,jd,mB,Bool.or_false,Bool.or_true,Bool.or_self,bne_self_eq_false];exact oP hm (mk hl hr (by omega) (by omega) (by omega)) rfl (.inr rfl)
  ·simp only[bne_iff_ne.2 hta,oCT];exact n7 hm hok (by decide)
 ·refine Ok.ret ⟨_,_,_,_,rfl,hm,⟨⟨show (0:Int)<=2 by decide,show (2:Int)<=4 by decide⟩,hl,hr,⟨by dsimp only;omega,by dsimp only;omega⟩,⟨c0,by dsimp only;omega⟩,ha,⟨s0,s1⟩,⟨r0,r1⟩,hco⟩,.inr (.inr ⟨rfl,rfl,rfl,(23,(A:Int),(B:Int),(C:Int),(I:Int)),by dsimp only;omega,?_,rfl⟩)⟩;dsimp only;rw[show (j:Int)+1 - 1=(j:Int) by omega,oTN];exact hx
 ·by_cases hsa:sa=-1
  ·simp only[beq_iff_eq.2 hsa,oCT];exact n7 hm hok (by decide)
  ·simp only[oBF hsa,Int.reduceBEq,oCT,oCF,dO,hg,gA,gB,gC,e1,e2,e3,eR,eT,oBS,w1,wI,wc,jd,mB,Bool.or_false,Bool.or_true,Bool.or_self,bne_self_eq_false];exact oP hm (mk hl hr (by omega) (by omega) (by omega)) rfl (.inr rfl)
 ·obtain⟨_,ed,t1,x1,e,rfl,ZW,VK,VM⟩:=Tq (key:=key) (op:=op) h.lay cB cC;have n0:(op==0)=false:=oBF (by omega);have n1:(op==1)=false:=oBF (by omega);have n2:(op==2)=false:=oBF (by omega);have n15:(op==15)=false:=oBF (by omega);have n16:(op==16)=false:=oBF (by omega);have n17:(op==17)=false:=oBF (by omega);have n18:(op==18)=false:=oBF (by omega);have n19:(op==19)=false:=oBF (by omega);have n20:(op==20)=false:=oBF (by omega);have n21:(op==21)=false:=oBF (by omega);have n22:(op==22)=false:=oBF (by omega);have n23:(op==23)=false:=oBF (by omega);have n24:(op==24)=false:=oBF (by omega);simp only[n0,n1,n2,n15,n16,n17,n18,n19,n20,n21,n22,n23,n24,ed,Int.reduceBEq,oCT,oCF,dO,hg,gA,gB,gC,e1,e2,e3,eR,eT,oBS,w1,wI,wc,jd,mB,Bool.or_false,Bool.or_true,Bool.or_self,bne_self_eq_false];by_cases hne:e=0
  ·subst hne;simp only[n18,n19,n20,n21,n22,n24,Int.reduceBEq,oCT,oCF,dO,hg,gA,gB,gC,e1,e2,e3,eR,eT,oBS,w1,wI,wc,jd,mB,Bool.or_false,Bool.or_true,Bool.or_self,bne_self_eq_false];exact oP hm (mk (Zm ZW).1 (Zm ZW).2 (by omega) (by omega) (by omega)) rfl (.inl ⟨rfl,rfl⟩)
  ·simp only[bne_iff_ne.2 hne,oCT];exact n7 hm hok ⟨VK,VM⟩
theorem BO.mono{K:Int->Prop}{n m:Int}{t:DTh}(h:BO K n t) (hm:n<=m):BO K m t:=⟨h.state,h.len,h.regs,h.pc,⟨h.count.1,by have:=h.count.2;omega⟩,h.handler,h.saved,h.trap,h.code⟩
theorem MOk.mono{n m:Int}{ss bs:List Int}{cs:List DCe}{ls:List DLn}{ts:List DTh}(h:MOk n ss bs cs ls ts) (hm:n<=m):MOk m ss bs cs ls ts:=⟨h.lay,h.mem,h.tlen,λt ht=>(h.thr t ht).mono hm⟩
theorem DK{α:Type}{l:List α}{i:Nat}{a:α}(h:l[i]?=some a):l.set i a=l:=by
 apply List.ext_getElem?
 grind
def TE(code:List DIn) (s:Int) (t':DTh):Prop:=
 (s=0/\t'.1=1)\/(s=2/\t'.1=4)\/(s=1/\t'.1=2/\∃i:DIn,1<=t'.2.2.1/\code[(t'.2.2.1 - 1).toNat]?=some i/\i.1=23)
def RU(n key:Int) (code:List DIn) (ss bs:List Int) (ts:List DTh) (i:Nat) (r:List Int×Int×List DCe×List DLn×List DTh×Int×Int×Unit):Prop:=
 ∃s Z4 Z1 t',r=(bs,key,Z4,Z1,ts.set i t',s,0,())/\lh (RK bs ss) Z4 Z1/\BO (RK bs ss) n t'/\((s=3/\ts[i]?=some t'/\t'.1≠1)\/TE code s t')
def Tj(i:Nat) (s:Int×Int×(List DIn)×(List (Int))×(List (List (Int)))×Unit×Int×Unit×Unit×Unit×(List (Int))×Int×(List DCe)×(List DLn)×(List DTh)×Unit):Nat:=
 match s.2.2.2.2.2.2.2.2.2.2.2.2.2.2.1[i]? with
 | some t=>((s.2.1 - t.2.2.2.1)*256+(255 - t.2.2.1)).toNat
 | none=>0
theorem H3{i:Nat}{a b k:Int}{code:List DIn}{ss bs:List Int}{d:List (List Int)}{cs:List DCe}{ls:List DLn}{ts:List DTh}{t:DTh}(h:ts[i]?=some t):Tj i (a,b,code,ss,d,(),0,(),(),(),bs,k,cs,ls,ts,())=((b - t.2.2.2.1)*256+(255 - t.2.2.1)).toNat:=by
 unfold Tj
 simp_all
theorem Ow{n key k:Int}{code:List DIn}{ss bs:List Int}{d:List (List Int)}{cs:List DCe}{ls:List DLn}{ts:List DTh}{i:Nat}(hp:lf code ss d) (h:MOk n ss bs cs ls ts) (X8:0<=n) (hn:n+64<=1099511627776) (hi:i < 4) (hk:1<=k/\k<=64) :
 Ok (nQ code ss d bs key cs ls ts (i:Int) k) (RU (n+64) key code ss bs ts i):=by
 have XC:=h.tlen;obtain⟨t,ht⟩:∃t,ts[i]?=some t:=⟨_,oGE (by omega)⟩;have hg:dM ts i=some t:=ht
 have YS:i < ts.length:=by omega
 have hok:=h.thr t (dR ht);unfold nQ;rw[xp hp h (by omega)];simp;rw[oDF (show ¬ (i:Int) < 0 by omega),oDF (show ¬ (i:Int)>=4 by omega),oDF (show ¬ k < 1 by omega),oDF (show ¬ k > 64 by omega)];simp only[oBS,oCF,wH h,dO,hg]
 (with_reducible refine dJ (λZ'=>?_) λZ'=>?_)
 ·refine Ok.ret ⟨3,cs,ls,t,?_,h.mem,hok.mono (by omega),.inl ⟨rfl,ht,Z'⟩⟩;rw[DK ht]
 have Uk:=hok.count;have hpc:=hok.pc;rw[dS (x:=t.2.2.2.1+k) (by omega) (by omega)]
 refine Ok.loop (P:=λs'=>∃Z4 Z1 t',s'=((i:Int),t.2.2.2.1+k,code,ss,d,(),0,(),(),(),bs,key,Z4,Z1,ts.set i t',())/\lh (RK bs ss) Z4 Z1/\BO (RK bs ss) (n+64) t'/\t'.1=1/\t'.2.2.2.1 < t.2.2.2.1+k)
  (R:=λr=>∃s Z4 Z1 t',r=(s,0,bs,key,Z4,Z1,ts.set i t',())/\lh (RK bs ss) Z4 Z1/\BO (RK bs ss) (n+64) t'/\TE code s t') (m:=Tj i) ⟨cs,ls,t,by rw[DK ht],h.mem,hok.mono (by omega),Z',by omega⟩ ?_ ?_ ?_
 ·rw[H3 ht];unfold NN;omega
 ·rintro _ ⟨Z4,Z1,t',rfl,hm,X',hr,hlt⟩;have ZK:(ts.set i t')[i]?=some t':=iK YS t';unfold sg;dsimp only;refine (Sv hp (((h.mono (show n<=n+64 by omega)).set hm X'):MOk (n+64) ss bs Z4 Z1 (ts.set i t')) ZK hr (by omega) (by omega)).bind ?_;rintro _ ⟨s,Vy,V8,t2,rfl,hm2,WI,Y5⟩;dsimp only;rw[List.set_set]
  (with_reducible refine dJ (λZ3=>?_) λZ3=>?_)
  ·refine Ok.ret ⟨_,_,_,_,rfl,hm2,WI,?_⟩;rcases Y5 with ⟨q,_⟩ | ⟨q1,q2,_⟩ | ⟨q1,q2,_,q3⟩
   ·exact absurd q Z3
   ·exact .inr (.inl ⟨q1,q2⟩)
   ·exact .inr (.inr ⟨q1,q2,q3⟩)
  ·rw[dO];simp only[oBS,iK YS];have h0:=WI.count;have h1:=WI.pc;have h2:=X'.pc;rcases Y5 with ⟨_,q1,q2⟩ | ⟨q1,_⟩ | ⟨q1,_⟩
   ·(with_reducible refine dJ (λhcc=>?_) λhcc=>?_)
    ·exact Ok.ret ⟨_,_,_,_,rfl,hm2,WI,.inl ⟨rfl,q1⟩⟩
    ·refine Ok.ret ⟨⟨_,_,_,rfl,hm2,WI,q1,by omega⟩,?_⟩;rw[H3 ZK,H3 (iK YS t2)];omega
   ·omega
   ·omega
 ·rintro _ ⟨s,Z4,Z1,t',rfl,hm,X',hs⟩;exact Ok.ret ⟨_,_,_,_,rfl,hm,X',.inr hs⟩
def HP(bs ss:List Int) (a:Int):Nat->Nat->Option (Int×Int)
 | 0,_=>none
 | n+1,k=>if bs.getD k 0<=a/\a < bs.getD k 0+ss.getD k 0 then some ((k:Int),a - bs.getD k 0) else HP bs ss a n (k+1)
def LQ(bs ss:List Int) (a:Int):Option (Int×Int):=HP bs ss a bs.length 0
theorem MI{bs ss:List Int}{a r o:Int}:∀{n k:Nat},k+n=bs.length->bs.length=ss.length->HP bs ss a n k=some (r,o)->∃(j:Nat) (b z:Int),r=j/\o=a - b/\bs[j]?=some b/\ss[j]?=some z/\b<=a/\a < b+z:=by
 intro n
 induction n with
 | zero=>intro k _ _ h;cases h
 | succ n ih=>
  intro k hk hl h;simp only[HP] at h;split at h
  ·rename_i hh
   injection h with h
   injection h with h1 h2
   refine⟨k,_,_,h1.symm,h2.symm,?_,?_,hh.1,hh.2⟩
   all_goals rw[NG (by omega)];exact oGE (by omega)
  ·exact ih (by omega) hl h
theorem MJ{bs ss:List Int}{a:Int}:∀{n k:Nat},k+n=bs.length->HP bs ss a n k=none->∀(j:Nat) (b z:Int),k<=j->bs[j]?=some b->ss[j]?=some z->¬ (b<=a/\a < b+z):=by
 intro n
 induction n with
 | zero=>
  simp_all
 | succ n ih=>
  intro k hk h j b z hj hb hz;simp[HP] at h;split at h
  ·cases h
  ·rename_i hh;by_cases hjk:j=k
   ·simp_all
   ·exact ih (by omega) h j b z (by omega) hb hz
theorem FJ{bs ss:List Int}{a r o:Int}(hl:bs.length=ss.length) (h:LQ bs ss a=some (r,o)):∃(j:Nat) (b z:Int),r=j/\o=a - b/\bs[j]?=some b/\ss[j]?=some z/\b<=a/\a < b+z:=MI (by omega) hl h
theorem Q6{bs ss:List Int}{a:Int}(h:RK bs ss a):∃r o,LQ bs ss a=some (r,o):=by
 cases e:LQ bs ss a with
 | some x=>exact⟨x.1,x.2,rfl⟩
 | none=>
  have ⟨j,b,z,h1,h2,h3,h4⟩:=h;exact absurd ⟨h3,h4⟩ (MJ (by omega) e j b z (by omega) h1 h2)
theorem Dd{bs ss:List Int}{key a:Int}(h:LV bs ss) (ha:W16 a):fw bs key ss a=some (match LQ bs ss a with | some (r,o)=>(r,o,true,()) | none=>(0,0,false,())):=by
 obtain⟨hs,hl,hr⟩:=h;obtain⟨a0,a1⟩:=ha;have XA:=hs.2.1
 have U7:∀(n k N:Nat),k+n=bs.length->n < N->dU eO N (ss,a,bs,(bs.length:Int),(k:Int),bs,key,0,0,())=some (match HP bs ss a n k with | some (r,o)=>.inl (true,r,o,()) | none=>.inr (ss,a,bs,(bs.length:Int),(bs.length:Int),false,bs,key,0,0,())):=by
  intro n
  induction n with
  | zero=>
   intro k N hk hN;obtain⟨N,rfl⟩:∃M,N=M+1:=⟨N - 1,by omega⟩
   obtain rfl:k=bs.length:=by omega
   have e:eO (ss,a,bs,(bs.length:Int),(bs.length:Int),bs,key,0,0,())=some (.inr (.inr (ss,a,bs,(bs.length:Int),(bs.length:Int),false,bs,key,0,0,()))):=by
    refine eV ?_;unfold eO;dsimp only
    (with_reducible refine dJ (λZ'=>?_) λZ'=>?_)
    ·omega
    ·exact Ok.ret rfl
   simp only[dU,e,oBS,HP]
  | succ n ih=>
   intro k N hk hN;obtain⟨N,rfl⟩:∃M,N=M+1:=⟨N - 1,by omega⟩;obtain⟨b,hb⟩:∃b,bs[k]?=some b:=⟨_,oGE (by omega)⟩;obtain⟨z,hz⟩:∃z,ss[k]?=some z:=⟨_,oGE (by omega)⟩;have X4:=hs.2.2 z (dR hz);have WD:=hr k (by omega);unfold yi at WD;rw[ew hb,ew hz] at WD;by_cases hh:b<=a/\a < b+z
   ·have e:eO (ss,a,bs,(bs.length:Int),(k:Int),bs,key,0,0,())=some (.inr (.inl (true,(k:Int),a - b,()))):=by
     refine eV ?_;unfold eO;dsimp only;rw[oDT (show (k:Int) < bs.length by omega),dO];simp only[oCT,oBS,show dM bs k=some b from hb,show dM ss k=some z from hz];rw[oDT (show a>=b by omega),dS (x:=b+z) (by omega) (by omega),oDT hh.2,dS (x:=a - b) (by omega) (by omega)];exact Ok.ret rfl
    simp only[dU,e,oBS,HP,ew hb,ew hz,oIP hh]
   ·have e:eO (ss,a,bs,(bs.length:Int),(k:Int),bs,key,0,0,())=some (.inl (ss,a,bs,(bs.length:Int),((k+1:Nat):Int),bs,key,0,0,())):=by
     refine eV ?_;unfold eO;dsimp only;rw[oDT (show (k:Int) < bs.length by omega),dO];simp only[oCT,oBS,show dM bs k=some b from hb,show dM ss k=some z from hz];rw[dS (x:=b+z) (by omega) (by omega)];by_cases h1:a>=b
     ·rw[oDT h1,oDF (show ¬ a < b+z by omega)];simp only[oCT,oCF];rw[dS (x:=(k:Int)+1) (by omega) (by omega)];exact Ok.ret rfl
     ·rw[oDF h1];simp only[oCF];rw[dS (x:=(k:Int)+1) (by omega) (by omega)];exact Ok.ret rfl
    simp only[dU,e,oBS,HP,ew hb,ew hz,oIN hh];exact ih (k+1) N (by omega) (by omega)
 unfold fw LQ;delta dN
 try dsimp only
 rw[show dU eO NN (ss,a,bs,(bs.length:Int),0,bs,key,0,0,())=_ from U7 bs.length 0 NN (by omega) (by unfold NN;omega)]
 cases HP bs ss a bs.length 0 with
 | some x=>rfl
 | none=>rfl
def qQ(bs ss:List Int) (key:Int) (c:DCe):DCn:=
 if c.1=0 then (0,c.2,0,0) else if c.1=2 then (2,wk .u16 (c.2 - key),0,0) else match LQ bs ss c.2 with | some (r,o)=>(1,0,r,o) | none=>(1,0,-1,c.2)
theorem ur{K:Int->Prop}{bs ss:List Int}{key:Int}{c:DCe}(h:LV bs ss) (hc:o7 K c):iZ bs key ss c.1 c.2=some ((qQ bs ss key c).1,(qQ bs ss key c).2.1,(qQ bs ss key c).2.2.1,(qQ bs ss key c).2.2.2,()):=by
 have ⟨c0,c1,c2,c3,_⟩:=hc;unfold iZ qQ;rw[d7 (by omega) (by omega)];dsimp only;rw[Dd h ⟨c2,c3⟩]
 rcases (show c.1=0\/c.1=1\/c.1=2 by omega) with e | e | e<;>rw[e]
 ·rfl
 ·simp
  cases LQ bs ss c.2 with
  | some x=>rfl
  | none=>rfl
 ·rfl
theorem oz(x:Int):W16 (wk .u16 x):=qZ x
theorem Fj{bs ss:List Int}{key:Int}{c:DCe}(h:LV bs ss) (hc:o7 (RK bs ss) c):Pr ss (qQ bs ss key c):=by
 have ⟨c0,c1,c2,c3,c4⟩:=hc;unfold qQ;rcases (show c.1=0\/c.1=1\/c.1=2 by omega) with e | e | e
 ·rw[oIP e];exact .inl ⟨.inl rfl,rfl,rfl,c2,c3⟩
 ·rw[oIN (by omega),oIN (by omega)];have ⟨r,o,hro⟩:=Q6 (c4 e);rw[hro];obtain⟨j,b,z,rfl,rfl,h1,h2,h3,h4⟩:=FJ h.2.1 hro;exact .inr ⟨rfl,rfl,by simp_all,z,by simp_all,by simp_all,by dsimp only;omega⟩
 ·rw[oIN (by omega),oIP e];exact .inl ⟨.inr rfl,rfl,rfl,oz _⟩
theorem Kh{K:Int->Prop}{bs ss:List Int}{key:Int}{c:DCe}(hc:o7 K c):(qQ bs ss key c).1=c.1/\(c.1=0->(qQ bs ss key c).2.1=c.2):=by
 have ⟨c0,c1,_⟩:=hc;unfold qQ;rcases (show c.1=0\/c.1=1\/c.1=2 by omega) with e | e | e
 ·simp_all
 ·rw[oIN (by omega),oIN (by omega)]
  cases LQ bs ss c.2 with
  | some x=>simp_all
  | none=>simp_all
 ·simp_all
def BZ(cs:List DCe) (ls:List DLn) (a:Int):DCe:=
 match ls[(a / 4 % 4).toNat]? with
 | some x=>if x.1=a / 4 then x.2.2.getD (a % 4).toNat (0,0) else cs.getD a.toNat (0,0)
 | none=>(0,0)
theorem getD_some{α:Type}{l:List α}{k:Nat}{d x:α}(h:l[k]?=some x):l.getD k d=x:=by simp_all
theorem AJ{K:Int->Prop}{cs:List DCe}{ls:List DLn}{a:Int}(h:lh K cs ls) (ha:0<=a/\a < 512):nh cs ls a=some ((BZ cs ls a).1,(BZ cs ls a).2,())/\o7 K (BZ cs ls a):=by
 obtain⟨a0,a1⟩:=ha;obtain⟨h1,h2,h3,h4,_⟩:=id h;unfold nh BZ;rw[Int.tdiv_eq_ediv_of_nonneg a0,dS (x:=a / 4) (by omega) (by omega)];dsimp only;rw[Int.tmod_eq_emod_of_nonneg (show 0<=a / 4 by omega),Int.tmod_eq_emod_of_nonneg a0];obtain⟨i,hi⟩:∃i:Nat,a / 4 % 4=i:=⟨(a / 4 % 4).toNat,by omega⟩;rw[hi,dO,oTN];obtain⟨x,hx⟩:∃x,ls[i]?=some x:=⟨_,oGE (by omega)⟩;simp only[oBS,show dM ls i=some x from hx,hx];by_cases hq:x.1=a / 4
 ·rcases h4 i x hx with ⟨g,_,_⟩ | ⟨_,_,_,g4,g5⟩
  ·omega
  ·obtain⟨j,hj⟩:∃j:Nat,a % 4=j:=⟨(a % 4).toNat,by omega⟩;obtain⟨y,hy⟩:∃y,x.2.2[j]?=some y:=⟨_,oGE (by omega)⟩;rw[hj,dO,oTN,oIP hq,getD_some hy,beq_iff_eq.2 hq];simp only[oCT,oBS,show dM x.2.2 j=some y from hy];exact⟨trivial,g5 y (dR hy)⟩
 ·obtain⟨j,rfl⟩:∃j:Nat,a=j:=⟨a.toNat,by omega⟩;obtain⟨y,hy⟩:∃y,cs[j]?=some y:=⟨_,oGE (by omega)⟩;rw[oIN hq,oBF hq,dO,oTN,getD_some hy];simp only[oCF,oBS,show dM cs j=some y from hy];exact⟨trivial,h2 y (dR hy)⟩
def kB(call:Int):List Int:=
 if call=0\/call=8\/call=9\/call=11\/call=12 then [78] else if call=1\/call=2 then [72,80,78] else if call=3 then [78,78] else if call=4 then [72] else if call=5 then [72,78]
 else if call=10 then [78,88] else if call=13\/call=14 then [78,80,78] else []
theorem Nn(call:Int):(kB call).length<=3:=by
 unfold kB
 repeat' split
 all_goals simp
def BOk(b:ByteArray) (l:List Int):Prop:=DH b=(l.length:Int)/\∀j:Nat,C4 b j=l[j]?
theorem TZ:BOk (bytes []) []:=⟨rfl,λj=>rfl⟩
theorem TY{a:Nat}(h:a < 256):BOk (bytes [a]) [(a:Int)]:=⟨rfl,λj=>by
 match j with
 | 0=>show some (((UInt8.ofNat a).toNat:Nat):Int)=some (a:Int);simp;omega
 | n+1=>rfl⟩
theorem TX{a b:Nat}(h:a < 256) (hb:b < 256):BOk (bytes [a,b]) [(a:Int),(b:Int)]:=⟨rfl,λj=>by
 match j with
 | 0=>show some (((UInt8.ofNat a).toNat:Nat):Int)=some (a:Int);simp;omega
 | 1=>show some (((UInt8.ofNat b).toNat:Nat):Int)=some (b:Int);simp;omega
 | n+2=>rfl⟩
theorem TW{a b c:Nat}(h:a < 256) (hb:b < 256) (hc:c < 256):BOk (bytes [a,b,c]) [(a:Int),(b:Int),(c:Int)]:=⟨rfl,λj=>by
 match j with
 | 0=>show some (((UInt8.ofNat a).toNat:Nat):Int)=some (a:Int);simp;omega
 | 1=>show some (((UInt8.ofNat b).toNat:Nat):Int)=some (b:Int);simp;omega
 | 2=>show some (((UInt8.ofNat c).toNat:Nat):Int)=some (c:Int);simp;omega
 | n+3=>rfl⟩
theorem ye{call:Int}(h:0<=call/\call<=15):call=0\/call=1\/call=2\/call=3\/call=4\/call=5\/call=6\/call=7\/call=8\/call=9\/call=10\/call=11\/call=12\/call=13\/call=14\/call=15:=by omega
theorem DY{call:Int}(h:0<=call/\call<=15):∃b,lB call=some (b,())/\BOk b (kB call):=by
 rcases ye h with rfl | rfl | rfl | rfl | rfl | rfl | rfl | rfl | rfl | rfl | rfl | rfl | rfl | rfl | rfl | rfl
 all_goals first
  | exact⟨_,rfl,TZ⟩
  | exact⟨_,rfl,TY (by decide)⟩
  | exact⟨_,rfl,TX (by decide) (by decide)⟩
  | exact⟨_,rfl,TW (by decide) (by decide) (by decide)⟩
def Py(k t:Int):Bool:=if k=78 then t==0 else if k=72 then t==2 else if k=80 then t==1 else true
theorem NK(k t:Int):ne k t=some (Py k t,()):=by
 unfold ne Py;by_cases h1:k=78
 ·simp[h1]
 ·by_cases h2:k=72
  ·simp[h2]
  ·by_cases h3:k=80
   ·simp[h3]
   ·simp[h1,h2,h3,oBF h1,oBF h2,oBF h3]
def ut(call:Int):Int:=if call=1\/call=13 then 1 else if call=2\/call=14 then 2 else 0
theorem xj{call:Int}(h:0<=call/\call<=15):jf call=some (ut call,()):=by
 rcases ye h with rfl | rfl | rfl | rfl | rfl | rfl | rfl | rfl | rfl | rfl | rfl | rfl | rfl | rfl | rfl | rfl<;>rfl
theorem zn{call:Int}(h:0<=call/\call<=15):iE call=some (((kB call).length:Int),()):=by
 have ⟨b,e,hb⟩:=DY h;unfold iE;rw[oDF (show ¬ call < 0 by omega),oDF (show ¬ call > 15 by omega),e];simp[hb.1]
theorem LS{bs ss:List Int}{key t v n:Int}(h:LV bs ss) (hv:W16 v) (hn:0<=n/\n<=65535):Ok (mM bs key ss t v n) λr=>∃a e,r=(a,e,())/\(e=0->t=1/\a=v/\∃(j:Nat) (b z:Int),bs[j]?=some b/\ss[j]?=some z/\b<=v/\v+n<=b+z/\v < b+z):=by
 obtain⟨v0,v1⟩:=hv;unfold mM
 (with_reducible refine dJ (λZ'=>?_) λZ'=>?_)
 ·exact Ok.ret ⟨_,_,rfl,λh=>by omega⟩
 rw[d7 (x:=v) (by omega) (by omega)];dsimp only;rw[Dd h ⟨v0,v1⟩];simp only[oBS]
 cases e:LQ bs ss v with
 | none=>exact Ok.ret ⟨_,_,rfl,λh=>by omega⟩
 | some x=>
  obtain⟨r,o⟩:=x;obtain⟨j,b,z,rfl,rfl,h1,h2,h3,h4⟩:=FJ h.2.1 e;have hj:=(oGS h1).1;have hr:=h.2.2 j hj;unfold yi at hr;rw[ew h1,ew h2] at hr;rw[oDF (show ¬ n < 0 by omega),dO];simp only[oNT,oCF,oBS,show dM ss j=some z from h2];rw[dS (x:=z - (v - b)) (by omega) (by omega)]
  (with_reducible refine dJ (λZ3=>?_) λZ3=>?_)
  ·exact Ok.ret ⟨_,_,rfl,λh=>by omega⟩
  ·exact Ok.ret ⟨_,_,rfl,λ_=>⟨Z',d7 (by omega) (by omega),j,b,z,h1,h2,h3,by omega,h4⟩⟩
structure Of (call:Int) (m:Int) (bs ss:List Int) (rs:List DCe):Prop where
 fit:∀(j:Nat) k c,(kB call)[j]?=some k->rs[j]?=some c->Py k c.1=true
 buf:0 < ut call->∃p q,rs[1]?=some p/\rs[2]?=some q/\q.2<=16/\p.1=1/\∃(j:Nat) (b z:Int),bs[j]?=some b/\ss[j]?=some z/\b<=p.2/\p.2+q.2<=b+z
 code:call=10\/call=12->∃c,rs[0]?=some c/\c.2 < m
theorem Je{call m:Int}{bs ss:List Int}{rs:List DCe}(h:Of call m bs ss rs):Ok (some ((0:Int),())) λr=>∃e,r=(e,())/\0<=e/\e<=6/\(e=0->Of call m bs ss rs):=Ok.ret ⟨0,rfl,by decide,by decide,λ_=>h⟩
theorem Bz{call m:Int}{bs ss:List Int}{rs:List DCe}:Ok (some ((6:Int),())) λr=>∃e,r=(e,())/\0<=e/\e<=6/\(e=0->Of call m bs ss rs):=Ok.ret ⟨6,rfl,by decide,by decide,λh=>absurd h (by decide)⟩
theorem LF{n key:Int}{code:List DIn}{ss bs:List Int}{d:List (List Int)}{cs:List DCe}{ls:List DLn}{ts:List DTh}{i:Nat}{t:DTh}{x:DIn}(h:MOk n ss bs cs ls ts) (ht:ts[i]?=some t) (hp1:1<=t.2.2.1)
 (hx:code[(t.2.2.1 - 1).toNat]?=some x) (hc:0<=x.2.2.2.2/\x.2.2.2.2<=15):Ok (nP code ss d bs key cs ls ts (i:Int)) λr=>∃e,r=(e,())/\0<=e/\e<=6/\(e=0->Of x.2.2.2.2 code.length bs ss t.2.1):=by
 have hok:=h.thr t (dR ht);obtain⟨_,hl,hr,⟨p0,p1⟩,_⟩:=id hok;obtain⟨o,A,B,C,call⟩:=x;dsimp only at hc ⊢;obtain⟨b,eb,hb1,ZZ⟩:=DY hc;have hk3:=Nn call;obtain⟨st,rs,pc,rest⟩:=t;dsimp only at *;obtain⟨j,hj⟩:∃j:Nat,pc - 1=j:=⟨(pc - 1).toNat,by omega⟩;rw[hj,oTN] at hx;unfold nP;rw[dO];simp only[oBS,show dM ts i=some (st,rs,pc,rest) from ht];rw[dS (x:=pc - 1) (by omega) (by omega),hj,dO];simp only[oBS,show dM code j=some (o,A,B,C,call) from hx,eb,hb1];obtain⟨c0,hc0⟩:∃c,rs[0]?=some c:=⟨_,oGE (by omega)⟩;obtain⟨c1,ZW⟩:∃c,rs[1]?=some c:=⟨_,oGE (by omega)⟩;obtain⟨c2,ZP⟩:∃c,rs[2]?=some c:=⟨_,oGE (by omega)⟩;have v0:=hr c0 (dR hc0);have v1:=hr c1 (dR ZW);have v2:=hr c2 (dR ZP);have g0:dM rs 0=some c0:=hc0;have g1:dM rs 1=some c1:=ZW;have g2:dM rs 2=some c2:=ZP
 obtain⟨y,e,hy⟩:=gG (f:=nB) (n:=NN) (s:=(call,b,((kB call).length:Int),0,code,ss,d,bs,key,cs,ls,ts,st,rs,pc,rest.1,rest.2.1,rest.2.2.1,rest.2.2.2.1,rest.2.2.2.2,()))
  (P:=λs'=>∃q:Nat,s'=(call,b,((kB call).length:Int),(q:Int),code,ss,d,bs,key,cs,ls,ts,st,rs,pc,rest.1,rest.2.1,rest.2.2.1,rest.2.2.2.1,rest.2.2.2.2,())/\q<=(kB call).length/\∀(j:Nat) k c,j < q->(kB call)[j]?=some k->rs[j]?=some c->Py k c.1=true)
  (R:=λr=>r=.inl (6,())\/(∃q,r=.inr (call,b,((kB call).length:Int),q,false,code,ss,d,bs,key,cs,ls,ts,st,rs,pc,rest.1,rest.2.1,rest.2.2.1,rest.2.2.2.1,rest.2.2.2.2,())/\∀(j:Nat) k c,(kB call)[j]?=some k->rs[j]?=some c->Py k c.1=true))
  (m:=λs'=>(s'.2.2.1 - s'.2.2.2.1).toNat) ⟨0,rfl,by omega,λj k c hj=>by omega⟩ (by unfold NN;dsimp only;omega) (by
   rintro _ ⟨q,rfl,hq,ZQ⟩;unfold nB;dsimp only
   (with_reducible refine dJ (λZ'=>?_) λZ'=>?_)
   ·rw[dO];obtain⟨k,hk⟩:∃k,(kB call)[q]?=some k:=⟨_,oGE (by omega)⟩;obtain⟨c,hcq⟩:∃c,rs[q]?=some c:=⟨_,oGE (by omega)⟩;simp only[oBS,ZZ q,hk,show dM rs q=some c from hcq,NK]
    (with_reducible refine dJ (λZ3=>?_) λZ3=>?_)
    ·exact Ok.ret (.inl rfl)
    ·rw[dS (x:=(q:Int)+1) (by omega) (by omega)];refine Ok.ret ⟨⟨q+1,rfl,by omega,λj' k' c' ZR h1 h2=>?_⟩,by dsimp only;omega⟩;by_cases hjq:j'=q
     ·subst hjq;rw[hk] at h1;rw[hcq] at h2;cases h1;cases h2;exact Z3
     ·exact ZQ j' k' c' (by omega) h1 h2
   ·refine Ok.ret (.inr ⟨_,rfl,λj k c h1 h2=>ZQ j k c ?_ h1 h2⟩);have:=(oGS h1).1
    omega)
 rw[e];rcases hy with rfl | ⟨q,rfl,ZQ⟩
 ·exact Bz
 dsimp only;rw[xj hc];delta dN;simp only[oBS,g0,g1,g2];rw[d7 (x:=c2.2) (by have:=v2.2.2.1;omega) (by have:=v2.2.2.2.1;omega),d7 (x:=c0.2) (by have:=v0.2.2.1;omega) (by have:=v0.2.2.2.1;omega)]
 have ZY:(0 < ut call->∃p q,rs[1]?=some p/\rs[2]?=some q/\q.2<=16/\p.1=1/\∃(j:Nat) (b z:Int),bs[j]?=some b/\ss[j]?=some z/\b<=p.2/\p.2+q.2<=b+z)->Ok ((bif (call==10) then (some ((decide (c0.2>=(code.length:Int))),())) else
  bif (call==12) then (some ((decide (c0.2>=(code.length:Int))),())) else some (false,()):Option (Bool×Unit)).bind λ(x35,_)=>bif x35 then (some ((6:Int),())) else some (0,()))
  λr=>∃e,r=(e,())/\0<=e/\e<=6/\(e=0->Of call code.length bs ss rs):=by
  intro hbuf;by_cases q10:call=10
  ·simp only[beq_iff_eq.2 q10,oCT,oBS]
   (with_reducible refine dJ (λZ3=>?_) λZ3=>?_)
   ·exact Bz
   ·exact Je ⟨ZQ,hbuf,λ_=>⟨c0,hc0,by omega⟩⟩
  ·by_cases q12:call=12
   ·simp only[oBF q10,beq_iff_eq.2 q12,oCT,oCF,oBS]
    (with_reducible refine dJ (λZ3=>?_) λZ3=>?_)
    ·exact Bz
    ·exact Je ⟨ZQ,hbuf,λ_=>⟨c0,hc0,by omega⟩⟩
   ·simp only[oBF q10,oBF q12,oCF,oBS];exact Je ⟨ZQ,hbuf,λh=>by omega⟩
 (with_reducible refine dJ (λZ'=>?_) λZ'=>?_)
 ·refine (LS (t:=c1.1) (v:=c1.2) (n:=c2.2) h.lay ⟨v1.2.2.1,v1.2.2.2.1⟩ ⟨v2.2.2.1,v2.2.2.2.1⟩).bind ?_;rintro _ ⟨a,e,rfl,he⟩;dsimp only
  (with_reducible refine dJ (λZ3=>?_) λZ3=>?_)
  ·exact Bz
  obtain⟨w1,_,j,b',z,w2,w3,w4,w5,w6⟩:=he Z3
  (with_reducible refine dJ (λhcc=>?_) λhcc=>?_)
  ·exact Bz
  exact ZY λ_=>⟨c1,c2,ZW,ZP,by omega,w1,j,b',z,w2,w3,w4,w5⟩
 ·exact ZY λh=>by omega
structure CP (n:Int) (ss:List Int) (i stop trap count pc call:Int) (args data:List DCn):Prop where
 hthr:0<=i/\i < 4
 hstop:0<=stop/\stop<=3
 htrap:0<=trap/\trap<=6
 hcnt:0<=count/\count<=n
 hpc:0<=pc/\pc<=255
 hcall:0<=call/\call<=15
 hargs:args.length<=3/\∀c∈args,Pr ss c
 hdata:data.length<=16/\∀c∈data,Pr ss c
 hkind:stop=1->args.length=(kB call).length/\∀(j:Nat) k a,(kB call)[j]?=some k->args[j]?=some a->Py k a.1=true
 hbuf:stop=1->ut call=2->∃a,args[2]?=some a/\a.2.1<=16
def T6(stop trap:Int) (t':DTh):Prop:=(stop=0/\t'.1=1)\/(stop=1/\t'.1=2)\/(stop=2/\t'.1=4/\t'.2.2.2.2.2.2.1=trap)\/(stop=3/\t'.1≠1)
def Kp(n key:Int) (ss bs:List Int) (ts:List DTh) (i:Nat) (r:(List (Int))×Int×(List DCe)×(List DLn)×(List DTh)×Int×Int×Int×Int×Int×Int×(List DCn)×(List DCn)×Int×Unit):Prop:=
 ∃Z4 Z1 t' stop trap call args data,r=(bs,key,Z4,Z1,ts.set i t',(i:Int),stop,trap,t'.2.2.2.1,t'.2.2.1,call,args,data,0,())/\lh (RK bs ss) Z4 Z1/\BO (RK bs ss) n t' /\
  CP n ss i stop trap t'.2.2.2.1 t'.2.2.1 call args data/\T6 stop trap t'/\(stop=3->ts[i]?=some t')
theorem zT{n:Int}{ss bs:List Int}{i:Nat}{t':DTh}{stop trap:Int}(hi:i < 4) (ht:BO (RK bs ss) n t') (hs:0<=stop/\stop<=3) (hs1:stop≠1) (htr:0<=trap/\trap<=6):CP n ss i stop trap t'.2.2.2.1 t'.2.2.1 0 [] []:=
 ⟨⟨by omega,by omega⟩,hs,htr,ht.count,ht.pc,by decide,⟨by decide,eu⟩,⟨by decide,eu⟩,λh=>absurd h hs1,λh=>absurd h hs1⟩
theorem gy{α β:Type}(f:α->β) {l:List α}{k:Nat}{x:α}(h:l[k]?=some x):(l.take k).map f++[f x]=(l.take (k+1)).map f:=by
 rw[List.take_add_one,h];simp
theorem km{β:Type}(f:Nat->β) (k:Nat):(List.range k).map f++[f k]=(List.range (k+1)).map f:=by
 rw[List.range_succ];simp
set_option maxHeartbeats 4000000 in
theorem As{n key k:Int}{code:List DIn}{ss bs:List Int}{d:List (List Int)}{cs:List DCe}{ls:List DLn}{ts:List DTh}{i:Nat}(hp:lf code ss d) (h:MOk n ss bs cs ls ts) (X8:0<=n) (hn:n+64<=1099511627776) (hi:i < 4) (hk:1<=k/\k<=64) :
 Ok (ng code ss d bs key cs ls ts (i:Int) k) (Kp (n+64) key ss bs ts i):=by
 have XC:=h.tlen
 have YS:i < ts.length:=by omega
 unfold ng;refine (Ow hp h X8 hn hi hk).bind ?_;rintro _ ⟨s,Z4,Z1,t',rfl,hm,ZK,hs⟩;have hM:MOk (n+64) ss bs Z4 Z1 (ts.set i t'):=(h.mono (show n<=n+64 by omega)).set hm ZK;have hgt:(ts.set i t')[i]?=some t':=iK YS t';dsimp only;simp only[bne_self_eq_false,oCF,dO,oBS,iK YS];rcases hs with ⟨rfl,hs1,Y5⟩ | ⟨rfl,hs1⟩ | ⟨rfl,hs1⟩ | ⟨rfl,hs1,x,Y5,hs3,XA⟩
 ·exact Ok.ret ⟨_,_,_,_,_,_,_,_,rfl,hm,ZK,zT hi ZK (by decide) (by decide) (by decide),.inr (.inr (.inr ⟨rfl,Y5⟩)),λ_=>hs1⟩
 ·exact Ok.ret ⟨_,_,_,_,_,_,_,_,rfl,hm,ZK,zT hi ZK (by decide) (by decide) (by decide),.inl ⟨rfl,hs1⟩,λh=>absurd h (by decide)⟩
 ·exact Ok.ret ⟨_,_,_,_,_,_,_,_,rfl,hm,ZK,zT hi ZK (by decide) (by decide) ZK.trap,.inr (.inr (.inl ⟨rfl,hs1,rfl⟩)),λh=>absurd h (by decide)⟩
 ·have Ym:=hp.ins x (dR hs3);have hcall:0<=x.2.2.2.2/\x.2.2.2.2<=15:=⟨Ym.imm.1,Ym.sys XA⟩;obtain⟨_,ec,e,rfl,VK,VM,hcok⟩:=LF (key:=key) (d:=d) hM hgt Y5 hs3 hcall;obtain⟨o,A,B,C,call⟩:=x;dsimp only at hcall hcok;have hk3:=Nn call;have hl8:=ZK.len;obtain⟨j,hj⟩:∃j:Nat,t'.2.2.1 - 1=j:=⟨(t'.2.2.1 - 1).toNat,by omega⟩;have hpc:=ZK.pc;rw[hj,oTN] at hs3;rw[dS (x:=t'.2.2.1 - 1) (by omega) (by omega),hj];simp only[Int.reduceBEq,oCT,oCF,ec,oBS,dO,show dM code j=some (o,A,B,C,call) from hs3,zn hcall];by_cases hne:e=0
  ·subst hne;obtain⟨ZQ,hbuf,_⟩:=hcok rfl
   have e1:dU jy NN (((kB call).length:Int),0,code,ss,d,(),0,(),(),(),0,0,0,0,0,0,(),(),bs,key,Z4,Z1,ts.set i t',t'.1,t'.2.1,t'.2.2.1,t'.2.2.2.1,t'.2.2.2.2.1,t'.2.2.2.2.2.1,t'.2.2.2.2.2.2.1,t'.2.2.2.2.2.2.2,(i:Int),1,0,t'.2.2.2.1,t'.2.2.1,call,[],(),()) =
    some (((kB call).length:Int),((kB call).length:Int),false,code,ss,d,(),0,(),(),(),0,0,0,0,0,0,(),(),bs,key,Z4,Z1,ts.set i t',t'.1,t'.2.1,t'.2.2.1,t'.2.2.2.1,t'.2.2.2.2.1,t'.2.2.2.2.2.1,t'.2.2.2.2.2.2.1,t'.2.2.2.2.2.2.2,(i:Int),1,0,t'.2.2.2.1,t'.2.2.1,call,(t'.2.1.take (kB call).length).map (qQ bs ss key),(),()):=by
    refine mW (f:=jy) (N:=NN) (st:=λq=>(((kB call).length:Int),(q:Int),code,ss,d,(),0,(),(),(),0,0,0,0,0,0,(),(),bs,key,Z4,Z1,ts.set i t',t'.1,t'.2.1,t'.2.2.1,t'.2.2.2.1,t'.2.2.2.2.1,t'.2.2.2.2.2.1,t'.2.2.2.2.2.2.1,t'.2.2.2.2.2.2.2,(i:Int),1,0,t'.2.2.2.1,t'.2.2.1,call,(t'.2.1.take q).map (qQ bs ss key),(),())) (n:=(kB call).length) (by unfold NN;omega) ?_ ?_
    ·intro q hq;unfold jy;dsimp only;rw[oDT (show (q:Int) < (kB call).length by omega),dO];simp only[oCT,oBS];refine Ok.get (by omega) λc hc=>?_;rw[ur h.lay (ZK.regs c (dR hc))];simp only[oBS];refine dK (dX (by simp;omega)) ?_;rw[dS (x:=(q:Int)+1) (by omega) (by omega)];refine Ok.ret ?_;rw[<- gy (qQ bs ss key) hc];rfl
    ·unfold jy;dsimp only;rw[oDF (show ¬ ((kB call).length:Int) < (kB call).length by omega)];exact Ok.ret rfl
   have hargs:((t'.2.1.take (kB call).length).map (qQ bs ss key)).length=(kB call).length:=by rw[List.length_map,oLT];omega
   have hgetA:∀(j:Nat) a,((t'.2.1.take (kB call).length).map (qQ bs ss key))[j]?=some a->∃c,t'.2.1[j]?=some c/\a=qQ bs ss key c:=by
    intro j a ha;rw[List.getElem?_map] at ha
    cases hc:(t'.2.1.take (kB call).length)[j]? with
    | none=>rw[hc] at ha;cases ha
    | some c=>
     rw[hc] at ha
     injection ha with ha
     refine⟨c,?_,ha.symm⟩;rw[List.getElem?_take] at hc;split at hc
     ·exact hc
     ·cases hc
   have VD:∀c∈(t'.2.1.take (kB call).length).map (qQ bs ss key),Pr ss c:=by
    intro c hc;obtain⟨c',YB,rfl⟩:=List.mem_map.1 hc;exact Fj h.lay (ZK.regs c' (List.mem_of_mem_take YB))
   have US:∀(j:Nat) k a,(kB call)[j]?=some k->((t'.2.1.take (kB call).length).map (qQ bs ss key))[j]?=some a->Py k a.1=true:=by
    intro j k a hk ha;obtain⟨c,hc,rfl⟩:=hgetA j a ha;rw[(Kh (ZK.regs c (dR hc))).1];exact ZQ j k c hk hc
   have hbuf2:ut call=2->∃a,((t'.2.1.take (kB call).length).map (qQ bs ss key))[2]?=some a/\a.2.1<=16:=by
    intro hb;obtain⟨p,q,hp1,Yw,hq16,_⟩:=hbuf (by omega)
    have hkk:(kB call)[2]?=some 78:=by
     have:call=2\/call=14:=by unfold ut at hb;split at hb<;>first | omega | (split at hb<;>omega)
     rcases this with rfl | rfl<;>rfl
    have hf:=ZQ 2 78 q hkk Yw;have hl3:=(oGS hkk).1;refine⟨qQ bs ss key q,?_,?_⟩
    ·rw[List.getElem?_map,List.getElem?_take,oIP hl3,Yw];rfl
    ·have hq:=(Kh (bs:=bs) (ss:=ss) (key:=key) (ZK.regs q (dR Yw))).2 (by unfold Py at hf;simpa using hf);rw[hq];exact hq16
   simp only[e1,bne_self_eq_false,oCF,oBS,xj hcall]
   have ZY:∀data:List DCn,data.length<=16->(∀c∈data,Pr ss c)->Ok (some (bs,key,Z4,Z1,ts.set i t',(i:Int),(1:Int),(0:Int),t'.2.2.2.1,t'.2.2.1,call,(t'.2.1.take (kB call).length).map (qQ bs ss key),data,(0:Int),())) (Kp (n+64) key ss bs ts i):=
    λdata h1 h2=>Ok.ret ⟨_,_,_,_,_,_,_,_,rfl,hm,ZK,⟨⟨by omega,by omega⟩,by decide,by decide,ZK.count,ZK.pc,hcall,⟨by omega,VD⟩,⟨h1,h2⟩,λ_=>⟨hargs,US⟩,λ_=>hbuf2⟩,.inr (.inl ⟨rfl,hs1⟩),λh=>absurd h (by decide)⟩
   by_cases hb1:ut call=1
   ·obtain⟨p,q,hp1,Yw,hq16,_,jr,b,z,hbz1,hbz2,hbz3,hbz4⟩:=hbuf (by omega);have hp':=ZK.regs p (dR hp1);have Us:=ZK.regs q (dR Yw);have hjr:=(oGS hbz1).1;have hreg:=h.lay.2.2 jr hjr;unfold yi at hreg;rw[ew hbz1,ew hbz2] at hreg;obtain⟨m,hqm⟩:∃m:Nat,q.2=m:=⟨q.2.toNat,by have:=Us.2.2.1;omega⟩
    have e2:dU jx NN ((m:Int),0,code,ss,d,(),0,(),(),(),0,0,0,0,0,0,(),(),bs,key,Z4,Z1,ts.set i t',t'.1,t'.2.1,t'.2.2.1,t'.2.2.2.1,t'.2.2.2.2.1,t'.2.2.2.2.2.1,t'.2.2.2.2.2.2.1,t'.2.2.2.2.2.2.2,(i:Int),1,0,t'.2.2.2.1,t'.2.2.1,call,(t'.2.1.take (kB call).length).map (qQ bs ss key),[],()) =
     some ((m:Int),(m:Int),false,code,ss,d,(),0,(),(),(),0,0,0,0,0,0,(),(),bs,key,Z4,Z1,ts.set i t',t'.1,t'.2.1,t'.2.2.1,t'.2.2.2.1,t'.2.2.2.2.1,t'.2.2.2.2.2.1,t'.2.2.2.2.2.2.1,t'.2.2.2.2.2.2.2,(i:Int),1,0,t'.2.2.2.1,t'.2.2.1,call,(t'.2.1.take (kB call).length).map (qQ bs ss key),(List.range m).map (λj:Nat=>qQ bs ss key (BZ Z4 Z1 (p.2+(j:Int)))),()):=by
     refine mW (f:=jx) (N:=NN) (st:=λq=>((m:Int),(q:Int),code,ss,d,(),0,(),(),(),0,0,0,0,0,0,(),(),bs,key,Z4,Z1,ts.set i t',t'.1,t'.2.1,t'.2.2.1,t'.2.2.2.1,t'.2.2.2.2.1,t'.2.2.2.2.2.1,t'.2.2.2.2.2.2.1,t'.2.2.2.2.2.2.2,(i:Int),1,0,t'.2.2.2.1,t'.2.2.1,call,(t'.2.1.take (kB call).length).map (qQ bs ss key),(List.range q).map (λj:Nat=>qQ bs ss key (BZ Z4 Z1 (p.2+(j:Int)))),())) (n:=m) (by unfold NN;omega) ?_ ?_
     ·intro v hv;unfold jx;dsimp only;have hp0:=hp'.2.2.1;have hp01:=hp'.2.2.2.1;rw[oDT (show (v:Int) < m by omega)];simp only[oCT,oBS,show dM t'.2.1 1=some p from hp1];rw[d7 (x:=p.2) (by omega) (by omega),dS (x:=p.2+v) (by omega) (by omega)];obtain⟨Uo,Vj⟩:=AJ (a:=p.2+v) hm ⟨by omega,by omega⟩;rw[Uo];simp only[oBS];rw[ur h.lay Vj];simp only[oBS];refine dK (dX (by simp;omega)) ?_;rw[dS (x:=(v:Int)+1) (by omega) (by omega)];refine Ok.ret ?_;rw[<- km];rfl
     ·unfold jx;dsimp only;rw[oDF (show ¬ (m:Int) < m by omega)];exact Ok.ret rfl
    simp only[hb1,BEq.rfl,oCT,show dM t'.2.1 2=some q from Yw,oBS];rw[d7 (x:=q.2) (by omega) (by omega),hqm,e2];simp only[oBS];refine ZY _ (by rw[List.length_map,List.length_range];omega) ?_;intro c hc;obtain⟨v,hv,rfl⟩:=List.mem_map.1 hc;have hv:=List.mem_range.1 hv;have hp0:=hp'.2.2.1;exact Fj h.lay (AJ (a:=p.2+v) hm ⟨by omega,by omega⟩).2
   ·simp only[oBF hb1,oCF];exact ZY [] (by decide) eu
  ·unfold oG mL;simp only[bne_iff_ne.2 hne,oCT];rw[dX (show 4<=1000/\0+t'.2.1.length<=1000000 by omega)];simp only[oCT,oBS,dO,iK YS,qv YS];exact Ok.ret ⟨_,_,_,_,_,_,_,_,rfl,hm,ZK.ended ⟨VK,VM⟩,zT hi (ZK.ended ⟨VK,VM⟩) (by decide) (by decide) ⟨VK,VM⟩,.inr (.inr (.inl ⟨rfl,rfl,rfl⟩)),λh=>absurd h (by decide)⟩
theorem Il{a b:Int}:mmR false a b<=a/\mmR false a b<=b/\(mmR false a b=a\/mmR false a b=b):=by
 unfold mmR;simp;omega
theorem ou{α:Type}{l:List α}{i j:Nat}(h:i≠j) (a:α):(l.set i a)[j]?=l[j]?:=by
 simp_all
theorem RX.setFile{d:List (List DCn)}{o:DOp}{f:Nat}{x y:List DCn}(h:RX d o) (hf:d[f]?=some x) (WY:x.length<=y.length):RX (d.set f y) o:=by
 rcases h with h | ⟨h1,z,h2,h3,h4⟩
 ·exact .inl h
 ·refine .inr ⟨h1,?_⟩;by_cases e:f=o.1.toNat
  ·subst e;rw[hf] at h2;cases h2;exact⟨y,iK (oGS hf).1 y,h3,by omega⟩
  ·simp_all
theorem f6.setFile{ss:List Int}{d:List (List DCn)}{os:List DOp}{f:Nat}{x y:List DCn}(h:f6 ss d os) (hf:d[f]?=some x) (h64:y.length<=64) (hc:∀c∈y,Pr ss c) (WY:x.length<=y.length):f6 ss (d.set f y) os:=
 ⟨by rw[List.length_set];exact h.dlen,jI h.flen h64,jI h.cells hc,h.olen,λo ho=>(h.opens o ho).setFile hf WY⟩
theorem f6.setOpen{ss:List Int}{d:List (List DCn)}{os:List DOp}{i:Nat}{o:DOp}(h:f6 ss d os) (ho:RX d o):f6 ss d (os.set i o):=
 ⟨h.dlen,h.flen,h.cells,by rw[List.length_set];exact h.olen,jI h.opens ho⟩
theorem DT{ss:List Int}{d:List (List DCn)}{os:List DOp}{h:Int}(hF:f6 ss d os):∃b,iR d os h=some (b,())/\(b=true->∃(j f:Nat) (o:DOp) (x:List DCn),h=j/\j < 8/\os[j]?=some o/\o.1=f/\d[f]?=some x/\0<=o.2.1/\o.2.1<=x.length):=by
 have:Ok (iR d os h) λr=>∃b,r=(b,())/\(b=true->∃(j f:Nat) (o:DOp) (x:List DCn),h=j/\j < 8/\os[j]?=some o/\o.1=f/\d[f]?=some x/\0<=o.2.1/\o.2.1<=x.length):=by
  unfold iR;delta dN
  (with_reducible refine dJ (λZ'=>?_) λZ'=>?_)
  ·(with_reducible refine dJ (λZ3=>?_) λZ3=>?_)
   ·refine Ok.nat (by omega) λj hj=>?_;have h8:=hF.olen;refine Ok.get (by omega) λo ho=>?_;refine Ok.ret ⟨_,rfl,λhb=>?_⟩;rcases hF.opens o (dR ho) with ⟨h1,_⟩ | ⟨h1,x,h2,h3,h4⟩
    ·simp_all
    ·exact⟨j,o.1.toNat,o,x,hj,by omega,ho,by omega,h2,h3,h4⟩
   ·exact Ok.ret ⟨_,rfl,λh=>by cases h⟩
  ·exact Ok.ret ⟨_,rfl,λh=>by cases h⟩
 obtain⟨_,e,b,rfl,hb⟩:=this;exact⟨b,e,hb⟩
theorem wG{ss:List Int}{d:List (List DCn)}{os:List DOp}(h:f6 ss d os):g9 d os=some (d,os,()):=
 copy17_ok (by have:=h.dlen;omega) (λx hx=>by have:=h.flen x hx;omega) (by have:=h.olen;omega)
theorem Kv{ss:List Int}{d:List (List DCn)}{os:List DOp}{h:Int}{l:List DCn}(hs:yh ss) (hF:f6 ss d os) (hl:l.length<=16) (VT:∀c∈l,Pr ss c) :
 Ok (nM d os h l) λr=>∃d' Zg n b,r=(d',Zg,n,b,())/\f6 ss d' Zg/\0<=n/\n<=16:=by
 obtain⟨b,eo,hb⟩:=DT (h:=h) hF;unfold nM;rw[wG hF];simp only[oBS,eo]
 cases b with
 | false=>
  simp only[Bool.not_false,oCT,oBS];exact Ok.ret ⟨_,_,_,_,rfl,hF,by decide,by decide⟩
 | true=>
  obtain⟨j,f,o,x,rfl,hj,ho,hof,hx,o0,o1⟩:=hb rfl;have hg:dM os j=some o:=ho;have Wv:dM d f=some x:=hx;have hjl:=(oGS ho).1;have ZA:=(oGS hx).1;have U2:=hF.flen x (dR hx);simp only[oNT,oCF,dO,oBS,hg]
  cases hw:o.2.2 with
  | false=>
   simp only[Bool.not_false,oCT,oBS];exact Ok.ret ⟨_,_,_,_,rfl,hF,by decide,by decide⟩
  | true=>
   delta dN;simp only[oNT,oCF,oBS,k9 (n:=(l.length:Int)) hs VT (by omega) (by omega),dO,hg,hof,Wv];rw[dS (x:=64 - o.2.1) (by omega) (by omega)];obtain⟨m1,m2,m3⟩:=Il (a:=(l.length:Int)) (b:=64 - o.2.1);generalize mmR false (l.length:Int) (64 - o.2.1)=k at m1 m2 m3
   refine Ok.loop (P:=λs'=>∃(i:Nat) (y:List DCn),s'=(l,j,k,k,(i:Int),(),(),d,f,os,y,())/\(i:Int)<=k/\(∀c∈y,Pr ss c)/\x.length<=y.length/\o.2.1+i<=y.length/\y.length<=64)
    (R:=λr=>∃y:List DCn,r=(l,j,k,k,k,false,(),(),d,f,os,y,())/\(∀c∈y,Pr ss c)/\x.length<=y.length/\o.2.1+k<=y.length/\y.length<=64) (m:=λs'=>(k - s'.2.2.2.2.1).toNat) ⟨0,x,rfl,by omega,hF.cells x (dR hx),by omega,by omega,U2⟩ (by unfold NN;dsimp only;omega) ?_ ?_
   ·rintro _ ⟨i,y,rfl,hi,hy,WY,hoy,U3⟩;unfold sf;dsimp only
    (with_reducible refine dJ (λZ'=>?_) λZ'=>?_)
    ·delta dN;simp only[hg,oBS,dO];rw[dS (x:=o.2.1+i) (by omega) (by omega)];obtain⟨c,hc⟩:∃c,l[i]?=some c:=⟨_,oGE (by omega)⟩;have ZB:dM l i=some c:=hc;have Uj:=VT c (dR hc);simp only[ZB,oBS];refine Ok.bind (P:=λr=>∃y':List DCn,r=(l,j,k,k,(i:Int),(),(),d,f,os,y',())/\(∀c∈y',Pr ss c)/\x.length<=y'.length/\o.2.1+i+1<=y'.length/\y'.length<=64) ?_ ?_
     ·(with_reducible refine dJ (λZ3=>?_) λZ3=>?_)
      ·refine Ok.nat (by omega) λq hq=>?_;refine Ok.get (by omega) λ_ hz=>?_;refine Ok.get (by omega) λ_ _=>?_;rw[eG hz];exact Ok.ret ⟨_,rfl,jI hy Uj,by rw[List.length_set];omega,by rw[List.length_set];omega,by rw[List.length_set];omega⟩
      ·refine dK (dX (by simp;omega)) ?_;exact Ok.ret ⟨_,rfl,j6 hy (all_cons Uj eu),by rw[ft];omega,by rw[ft,List.length_singleton];omega,by rw[ft,List.length_singleton];omega⟩
     ·rintro _ ⟨y',rfl,g1,g2,g3,g4⟩;dsimp only;rw[dS (x:=(i:Int)+1) (by omega) (by omega)];exact Ok.ret ⟨⟨i+1,y',rfl,by omega,g1,g2,by omega,g4⟩,by dsimp only;omega⟩
    ·obtain rfl:(i:Int)=k:=by omega
     exact Ok.ret ⟨y,rfl,hy,WY,hoy,U3⟩
   ·rintro _ ⟨y,rfl,hy,WY,hoy,U3⟩;dsimp only;simp only[hg,oBS,hof,dO,Wv];refine dK (by simp) ?_;rw[dS (x:=o.2.1+k) (by omega) (by omega),eG hx,eG ho];refine Ok.ret ⟨_,_,_,_,rfl,(hF.setFile hx U3 hy WY).setOpen (.inr ⟨by dsimp only;omega,y,?_,by dsimp only;omega,by dsimp only;omega⟩),by omega,by omega⟩;dsimp only;rw[hof,oTN];exact iK ZA y
theorem MP{ss:List Int}{d:List (List DCn)}{os:List DOp}{h n:Int}(hF:f6 ss d os) (hn:0<=n/\n<=65535) :
 Ok (pz d os h n) λr=>(∃d' Zg,r=.inl (d',Zg,(),false,())/\f6 ss d' Zg)\/(∃d' Zg l,r=.inr (d',Zg,l,true,())/\f6 ss d' Zg/\(l.length:Int)<=n/\l.length<=64/\∀c∈l,Pr ss c):=by
 obtain⟨b,eo,hb⟩:=DT (h:=h) hF;unfold pz;rw[wG hF];simp only[oBS,eo]
 cases b with
 | false=>
  exact Ok.ret (.inl ⟨_,_,rfl,hF⟩)
 | true=>
  obtain⟨j,f,o,x,rfl,hj,ho,hof,hx,o0,o1⟩:=hb rfl;have hg:dM os j=some o:=ho;have Wv:dM d f=some x:=hx;have U2:=hF.flen x (dR hx);rw[oDF (show ¬ n < 0 by omega)];simp only[oNT,oCF,dO,oBS,hg]
  cases hw:o.2.2 with
  | true=>exact Ok.ret (.inl ⟨_,_,rfl,hF⟩)
  | false=>
   delta dN;simp only[oCF,dO,oBS,hg,hof,Wv];rw[dS (x:=(x.length:Int) - o.2.1) (by omega) (by omega)];obtain⟨m1,m2,m3⟩:=Il (a:=n) (b:=(x.length:Int) - o.2.1);generalize mmR false n ((x.length:Int) - o.2.1)=k at m1 m2 m3;rw[dS (x:=o.2.1+k) (by omega) (by omega)];refine Ok.nat o0 λp hp=>?_;refine Ok.nat (by omega) λq hq=>?_;refine dK (by unfold iQ;simp;omega) ?_
   have hw2:(m8 x p (Nat.sub q p)).length=q - p:=by
    unfold m8;rw[oLT,List.length_drop];show min (q - p) _=q - p;omega
   refine dK (dX (by omega)) ?_;rw[eG ho];refine Ok.ret (.inr ⟨_,_,_,rfl,hF.setOpen (.inr ⟨by dsimp only;omega,x,by dsimp only;rw[hof,oTN];exact hx,by dsimp only;omega,by dsimp only;omega⟩),?_,?_,?_⟩)
   ·rw[ft,hw2];simp;omega
   ·rw[ft,hw2];simp;omega
   ·refine j6 eu λc hc=>hF.cells x (dR hx) c ?_;unfold m8 at hc;exact List.mem_of_mem_drop (List.mem_of_mem_take hc)
theorem LB{ss:List Int}{d:List (List DCn)}{os:List DOp}{h:Int}(hF:f6 ss d os):Ok (nN d os h) λr=>∃d' Zg b,r=(d',Zg,b,())/\f6 ss d' Zg:=by
 have ⟨b,eo,hb⟩:=DT (h:=h) hF;unfold nN;rw[wG hF];simp only[eo]
 cases b with
 | false=>exact Ok.ret ⟨_,_,_,rfl,hF⟩
 | true=>
  obtain⟨j,f,o,x,rfl,hj,ho,hof,hx,o0,o1⟩:=hb rfl;have hg:dM os j=some o:=ho;simp only[dO,oBS,hg];rw[eG ho];exact Ok.ret ⟨_,_,_,rfl,hF.setOpen (.inl ⟨rfl,rfl,rfl⟩)⟩
theorem MB{ss:List Int}{d:List (List DCn)}{os:List DOp}{h n:Int}(hF:f6 ss d os):Ok (py d os h n) λr=>∃d' Zg b,r=(d',Zg,b,())/\f6 ss d' Zg:=by
 obtain⟨b,eo,hb⟩:=DT (h:=h) hF;unfold py;rw[wG hF];simp only[eo]
 cases b with
 | false=>
  exact Ok.ret ⟨_,_,_,rfl,hF⟩
 | true=>
  obtain⟨j,f,o,x,rfl,hj,ho,hof,hx,o0,o1⟩:=hb rfl;have hg:dM os j=some o:=ho;have Wv:dM d f=some x:=hx;delta dN;simp only[oNT,oCF,dO,oBS,hg,hof,Wv];by_cases hn:n < 0
  ·simp only[oDT hn,oCT,oBS];exact Ok.ret ⟨_,_,_,rfl,hF⟩
  ·simp only[oDF hn,oCF,oBS]
   (with_reducible refine dJ (λZ'=>?_) λZ'=>?_)
   ·exact Ok.ret ⟨_,_,_,rfl,hF⟩
   ·simp only[dO,oBS,hg];rw[eG ho];exact Ok.ret ⟨_,_,_,rfl,hF.setOpen (.inr ⟨by dsimp only;omega,x,by simp_all,by dsimp only;omega,by dsimp only;omega⟩)⟩
theorem O7{ss:List Int}{d:List (List DCn)}{os:List DOp}{file mode:Int}(hF:f6 ss d os):Ok (pA d os file mode) λr=>∃d' Zg h,r=(d',Zg,h,())/\f6 ss d' Zg/\-1<=h/\h<=7:=by
 have h8:=hF.olen;have hd4:=hF.dlen;unfold pA;rw[wG hF];simp only[oBS];refine Ok.loop (P:=λs'=>∃i:Nat,s'=(file,mode,(i:Int),d,os,(),(),d,os,())/\i<=8) (R:=λr=>∃i:Nat,r=(file,mode,(i:Int),false,d,os,(),(),d,os,())/\i<=8) (m:=λs'=>(8 - s'.2.2.1).toNat) ⟨0,rfl,by omega⟩ (by unfold NN;dsimp only;omega) ?_ ?_
 ·rintro _ ⟨i,rfl,hi⟩;unfold sS;delta dN;simp only[h8,dO,oBS]
  (with_reducible refine dJ (λZ'=>?_) λZ'=>?_)
  ·refine Ok.get (by omega) λo ho=>?_
   (with_reducible refine dJ (λZ3=>?_) λZ3=>?_)
   ·rw[dS (x:=(i:Int)+1) (by omega) (by omega)];exact Ok.ret ⟨⟨i+1,rfl,by omega⟩,by dsimp only;omega⟩
   ·exact Ok.ret ⟨i,rfl,hi⟩
  ·exact Ok.ret ⟨i,rfl,hi⟩
 rintro _ ⟨i,rfl,hi⟩;delta dN;simp only[h8];have bad:f6 ss d os/\(-1:Int)<=-1/\(-1:Int)<=7:=⟨hF,by decide,by decide⟩;refine Ok.bind (P:=λr=>(∃b:Bool,r=(file,mode,(i:Int),b,(),(),d,os,())/\(b=false->0<=file/\file < d.length/\i < 8))) ?_ ?_
 ·(with_reducible refine dJ (λZ'=>?_) λZ'=>?_)
  ·exact Ok.ret ⟨true,rfl,λh=>by cases h⟩
  (with_reducible refine dJ (λZ3=>?_) λZ3=>?_)
  ·exact Ok.ret ⟨true,rfl,λh=>by cases h⟩
  (with_reducible refine dJ (λhcc=>?_) λhcc=>?_)
  ·exact Ok.ret ⟨true,rfl,λh=>by cases h⟩
  (with_reducible refine dJ (λXp=>?_) λXp=>?_)
  ·exact Ok.ret ⟨true,rfl,λh=>by cases h⟩
  exact Ok.ret ⟨_,rfl,λh=>⟨by omega,by omega,by rw[beq_eq_false_iff_ne] at h;omega⟩⟩
 rintro _ ⟨b,rfl,hb⟩;dsimp only
 cases b with
 | true=>exact Ok.ret ⟨_,_,_,rfl,bad⟩
 | false=>
  obtain⟨f0,f1,hi8⟩:=hb rfl;obtain⟨f,rfl⟩:∃f:Nat,file=f:=⟨file.toNat,by omega⟩;obtain⟨x,hx⟩:∃x,d[f]?=some x:=⟨_,oGE (by omega)⟩;obtain⟨o,ho⟩:∃o,os[i]?=some o:=⟨_,oGE (by omega)⟩;have Wv:dM d f=some x:=hx;have hg:dM os i=some o:=ho;have ZA:=(oGS hx).1;have YS:=(oGS ho).1;simp only[oCF,dO,oBS,Wv,hg];by_cases h1:mode=1
  ·subst h1;simp only[BEq.rfl,oCT];rw[eG hx];simp only[h8]
   refine Ok.loop (P:=λs'=>∃(q:Nat) (Zg:List DOp),s'=((f:Int),1,(i:Int),((8:Nat):Int),(q:Int),(),(),d.set f [],Zg,())/\q<=8/\Zg.length=8/\(∀(j:Nat) o,j < q->Zg[j]?=some o->RX (d.set f []) o)/\∀j:Nat,q<=j->Zg[j]?=os[j]?)
    (R:=λr=>∃(z:Int) (Zg:List DOp),r=((f:Int),1,(i:Int),((8:Nat):Int),z,false,(),(),d.set f [],Zg,())/\f6 ss (d.set f []) Zg) (m:=λs'=>(8 - s'.2.2.2.2.1).toNat) ⟨0,os,rfl,by omega,h8,λj o hj=>by omega,λ_ _=>rfl⟩ (by unfold NN;dsimp only;omega) ?_ ?_
   ·rintro _ ⟨q,Zg,rfl,hq,Zq,ha,hr⟩;unfold sR;dsimp only
    (with_reducible refine dJ (λZ'=>?_) λZ'=>?_)
    ·obtain⟨o',Zi⟩:∃o',Zg[q]?=some o':=⟨_,oGE (by omega)⟩;have UO:dM Zg q=some o':=Zi;have hop:=hF.opens o' (dR (by rw[<- hr q (by omega)];exact Zi));simp only[dO,oBS,UO];refine Ok.bind (P:=λr=>∃o2:DOp,RX (d.set f []) o2/\r=((f:Int),1,(i:Int),((8:Nat):Int),(q:Int),(),(),d.set f [],Zg.set q o2,())) ?_ ?_
     ·by_cases hof:o'.1=f
      ·simp only[beq_iff_eq.2 hof,oCT];rw[eG Zi];exact Ok.ret ⟨_,.inr ⟨by dsimp only;omega,[],by dsimp only;rw[hof,oTN];exact iK ZA [],by dsimp only;omega,by simp⟩,rfl⟩
      ·simp only[oBF hof,oCF];refine Ok.ret ⟨o',?_,by rw[DK Zi]⟩;rcases hop with h | ⟨g1,z,g2,g3⟩
       ·exact .inl h
       ·exact .inr ⟨g1,z,by rw[ou (by omega)];exact g2,g3⟩
     ·rintro _ ⟨o2,hop2,rfl⟩;dsimp only;rw[dS (x:=(q:Int)+1) (by omega) (by omega)];refine Ok.ret ⟨⟨q+1,_,rfl,by omega,by rw[List.length_set];exact Zq,λj o hj hjo=>?_,λj hj=>?_⟩,by dsimp only;omega⟩
      ·by_cases e:q=j
       ·subst e;rw[show (Zg.set q o2)[q]?=some o2 from iK (by omega) o2] at hjo;cases hjo;exact hop2
       ·rw[ou e] at hjo;exact ha j o (by omega) hjo
      ·rw[ou (by omega)];exact hr j (by omega)
    ·refine Ok.ret ⟨_,_,rfl,⟨by rw[List.length_set];exact hd4,jI hF.flen (by simp),jI hF.cells eu,Zq,λo' Zi=>?_⟩⟩;obtain⟨j,hj⟩:=List.getElem?_of_mem Zi;have:=(oGS hj).1;exact ha j o' (by omega) hj
   ·rintro _ ⟨z,Zg,rfl,hF'⟩;have Zq:=hF'.olen;obtain⟨o',Zi⟩:∃o',Zg[i]?=some o':=⟨_,oGE (by omega)⟩;have UO:dM Zg i=some o':=Zi;simp only[dO,oBS,UO,show ((1:Int)==2)=false from rfl,oCF];rw[eG Zi];exact Ok.ret ⟨_,_,_,rfl,hF'.setOpen (.inr ⟨by dsimp only;omega,[],by dsimp only;rw[oTN];exact iK ZA [],by dsimp only;omega,by simp⟩),by omega,by omega⟩
  ·simp only[oBF h1,oCF];rw[eG ho];by_cases h2:mode=2
   ·subst h2;simp only[BEq.rfl,oCT,oBS,iK YS,qv YS];exact Ok.ret ⟨_,_,_,rfl,hF.setOpen (.inr ⟨by dsimp only;omega,x,by dsimp only;rw[oTN];exact hx,by dsimp only;omega,by dsimp only;omega⟩),by omega,by omega⟩
   ·simp only[oBF h2,oCF,oBS];exact Ok.ret ⟨_,_,_,rfl,hF.setOpen (.inr ⟨by dsimp only;omega,x,by dsimp only;rw[oTN];exact hx,by dsimp only;omega,by dsimp only;omega⟩),by omega,by omega⟩
theorem g7(n:Int) (b:Bool):∃v,ek n b=some (0,v,0,0,(),-1,false,())/\W16 v:=by
 cases b with
 | true=>exact⟨_,rfl,oz _⟩
 | false=>exact⟨_,rfl,oz _⟩
theorem lQ{ss:List Int}{v:Int}(h:W16 v):Pr ss (0,v,0,0):=.inl ⟨.inl rfl,rfl,rfl,h⟩
theorem P7{ss:List Int}{v:Int}(h:W16 v):Pr ss (2,v,0,0):=.inl ⟨.inr rfl,rfl,rfl,h⟩
theorem MA{ss:List Int}{us:List DOu}{sk:Int}{l:List DCn}(hu:us.length<=200) (ho:∀(i:Nat) x,us[i]?=some x->Te ss i x) (hl:l.length<=16) (VT:∀c∈l,Pr ss c) :
 Ok (px us sk l) λr=>∃UB n b,r=(UB,n,b,())/\UB.length<=200/\∀(i:Nat) x,UB[i]?=some x->Te ss i x:=by
 have hc:kV us=some (us,()):=Hz (by omega) λx hx=>by
  obtain⟨j,hj⟩:=List.getElem?_of_mem hx;have:=(ho j x hj).2.2.2.1;omega
 unfold px;rw[hc];delta dN;refine Ok.bind (P:=λr=>∃b:Bool,r=(us,sk,l,b,us,())/\(b=false->0<=sk/\sk < 2/\us.length < 200)) ?_ ?_
 ·(with_reducible refine dJ (λZ'=>?_) λZ'=>?_)
  ·exact Ok.ret ⟨true,rfl,λh=>by cases h⟩
  (with_reducible refine dJ (λZ3=>?_) λZ3=>?_)
  ·exact Ok.ret ⟨true,rfl,λh=>by cases h⟩
  (with_reducible refine dJ (λhcc=>?_) λhcc=>?_)
  ·exact Ok.ret ⟨true,rfl,λh=>by cases h⟩
  exact Ok.ret ⟨_,rfl,λh=>⟨by omega,by omega,by omega⟩⟩
 rintro _ ⟨b,rfl,hb⟩;dsimp only
 cases b with
 | true=>exact Ok.ret ⟨_,_,_,rfl,hu,ho⟩
 | false=>
  obtain⟨s0,s1,hlt⟩:=hb rfl;simp only[oCF];refine dK (dX (by omega)) (dK (dX (by simp;omega)) ?_);refine Ok.ret ⟨_,_,_,rfl,by rw[ft];simp;omega,λi x hx=>?_⟩;simp at hx;rw[List.getElem?_append] at hx;split at hx
  ·exact ho i x hx
  ·rename_i hi;obtain⟨q,hq⟩:∃q,i - us.length=q:=⟨_,rfl⟩;rw[hq] at hx
   cases q with
   | zero=>
    have:x=((us.length:Int),sk,l):=by simp_all
    subst this;exact⟨by dsimp only;omega,s0,s1,hl,VT⟩
   | succ q=>simp at hx
theorem FM{ss:List Int}{ins:List (List Int)}{sk n:Int}(hi:ins.length<=2) (h:∀x∈ins,x.length<=64/\∀w∈x,W16 w) (hn:0<=n/\n<=65535) :
 Ok (lr ins sk n) λr=>(∃Yq,r=.inl (Yq,(),false,())/\Yq.length<=2/\∀x∈Yq,x.length<=64/\∀w∈x,W16 w) \/
  (∃Yq l,r=.inr (Yq,l,true,())/\(Yq.length<=2/\∀x∈Yq,x.length<=64/\∀w∈x,W16 w)/\(l.length:Int)<=n/\l.length<=64/\∀c∈l,Pr ss c):=by
 unfold lr;rw[Bt (by omega) (λx hx=>by have:=(h x hx).1;omega)];delta dN;simp only[oBS];refine Ok.bind (P:=λr=>∃b:Bool,r=(ins,sk,n,b,ins,())/\(b=false->0<=sk/\sk < ins.length)) ?_ ?_
 ·(with_reducible refine dJ (λZ'=>?_) λZ'=>?_)
  ·exact Ok.ret ⟨true,rfl,λh=>by cases h⟩
  (with_reducible refine dJ (λZ3=>?_) λZ3=>?_)
  ·exact Ok.ret ⟨true,rfl,λh=>by cases h⟩
  exact Ok.ret ⟨_,rfl,λ_=>⟨by omega,by omega⟩⟩
 rintro _ ⟨b,rfl,hb⟩;dsimp only
 cases b with
 | true=>exact Ok.ret (Or.inl ⟨_,rfl,hi,h⟩)
 | false=>
 obtain⟨s0,s1⟩:=hb rfl;obtain⟨j,rfl⟩:∃j:Nat,sk=j:=⟨sk.toNat,by omega⟩;obtain⟨x,hx⟩:∃x,ins[j]?=some x:=⟨_,oGE (by omega)⟩;have Wv:dM ins j=some x:=hx;have hjl:=(oGS hx).1;obtain⟨U2,hxw⟩:=h x (dR hx);simp only[oCF,oBS,dO,Wv];obtain⟨m1,m2,m3⟩:=Il (a:=n) (b:=(x.length:Int));generalize mmR false n (x.length:Int)=k at m1 m2 m3;obtain⟨q,rfl⟩:∃q:Nat,k=q:=⟨k.toNat,by omega⟩;simp only[dO,oBS];refine dK (by unfold iQ;simp;omega) ?_
 have hw:m8 x 0 (Nat.sub q 0)=x.take q:=by unfold m8;rw[List.drop_zero];rfl
 have Ux:(x.take q).length=q:=by rw[oLT];omega
 rw[hw];simp only[Ux]
 have e:dU g8 NN ((j:Int),(q:Int),x.take q,(q:Int),0,ins,[],())=some ((j:Int),(q:Int),x.take q,(q:Int),(q:Int),false,ins,(x.take q).map (λw=>(0,w,0,0)),()):=by
  have:=mW (f:=g8) (N:=NN) (st:=λi=>((j:Int),(q:Int),x.take q,(q:Int),(i:Int),ins,((x.take q).take i).map (λw=>((0:Int),w,(0:Int),(0:Int))),())) (n:=q) (t:=((j:Int),(q:Int),x.take q,(q:Int),(q:Int),false,ins,(x.take q).map (λw=>((0:Int),w,(0:Int),(0:Int))),())) (by unfold NN;omega) ?_ ?_
  ·exact this
  ·intro i hi;unfold g8;dsimp only;rw[oDT (show (i:Int) < q by omega),dO];simp only[oCT,oBS];refine Ok.get (by omega) λw hw=>?_;refine dK (dX (by simp;omega)) ?_;rw[dS (x:=(i:Int)+1) (by omega) (by omega)];refine Ok.ret ?_;rw[<- gy (λw=>((0:Int),w,(0:Int),(0:Int))) hw];rfl
  ·unfold g8;dsimp only;rw[oDF (show ¬ (q:Int) < q by omega)];refine Ok.ret ?_;rw[show (x.take q).take q=x.take q from List.take_of_length_le (by omega)]
 rw[e];simp only[dO,oBS,Wv];refine dK (by unfold iQ;simp;omega) ?_;rw[eG hx]
 have hd:∀c∈m8 x q (Nat.sub x.length q),c∈x:=λc hc=>by
  unfold m8 at hc;exact List.mem_of_mem_drop (List.mem_of_mem_take hc)
 have hdl:(m8 x q (Nat.sub x.length q)).length<=64:=by
  unfold m8;rw[oLT,List.length_drop];omega
 refine Ok.ret (.inr ⟨_,_,rfl,⟨by rw[List.length_set];exact hi,jI h ⟨hdl,λw hw=>hxw w (hd w hw)⟩⟩,by rw[List.length_map,Ux];omega,by rw[List.length_map,Ux];omega,λc hc=>?_⟩);obtain⟨w,hw,rfl⟩:=List.mem_map.1 hc;exact lQ (hxw w (List.mem_of_mem_take hw))
theorem CY{n:Int}{ss:List Int}{i stop trap count pc call:Int}{args data:List DCn}(hs:yh ss) (h:CP n ss i stop trap count pc call args data) (hn:n<=1099511627776):lC i stop trap count pc call args data=some (true,()):=by
 have ⟨⟨a1,a2⟩,⟨b1,b2⟩,⟨c1,c2⟩,⟨d1,d2⟩,⟨e1,e2⟩,⟨f1,f2⟩,⟨g1,g2⟩,⟨k1,k2⟩,_,_⟩:=h;refine eV ?_;unfold lC;rw[k9 hs g2 (by omega) (by omega),k9 hs k2 (by omega) (by omega)];refine dK (oDT a1) (dK (oDT (by omega)) (dK (oDT b1) (dK (oDT b2) (dK (oDT c1) (dK (oDT c2) (dK (oDT d1) (dK (oDT (by omega)) (dK (oDT e1) (dK (oDT e2) (dK (oDT f1) (dK (oDT f2) ?_)))))))))));exact Ok.ret rfl
theorem Le{n:Int}{ss:List Int}{i trap count pc call:Int}{args data:List DCn}(h:CP n ss i 1 trap count pc call args data):nO i 1 trap count pc call args data=some (true,()):=by
 obtain⟨hl,hk⟩:=h.hkind rfl;obtain⟨b,eb,hb1,ZZ⟩:=DY h.hcall;have h3:=Nn call
 have e:dU i8 NN (b,args,(args.length:Int),0,i,1,trap,count,pc,call,args,data,())=some (.inr (b,args,(args.length:Int),(args.length:Int),false,i,1,trap,count,pc,call,args,data,())):=by
  refine mW (f:=i8) (N:=NN) (st:=λq=>(b,args,(args.length:Int),(q:Int),i,1,trap,count,pc,call,args,data,())) (n:=args.length) (by unfold NN;omega) ?_ ?_
  ·intro q hq;obtain⟨k,hkq⟩:∃k,(kB call)[q]?=some k:=⟨_,oGE (by omega)⟩;obtain⟨a,ha⟩:∃a,args[q]?=some a:=⟨_,oGE (by omega)⟩;unfold i8;dsimp only;rw[oDT (show (q:Int) < args.length by omega),dO];simp only[oCT,oBS,show dM args q=some a from ha,ZZ q,hkq,NK,hk q k a hkq ha,oCF];rw[dS (x:=(q:Int)+1) (by omega) (by omega)];exact Ok.ret rfl
  ·unfold i8;dsimp only;rw[oDF (show ¬ (args.length:Int) < args.length by omega)];exact Ok.ret rfl
 unfold nO;delta dN
 simp_all
def RS(call:Int):Bool:=decide ((1<=call/\call<=7)\/call=13\/call=14)
theorem RR{call:Int}(h:0<=call/\call<=15):sQ call=some (RS call,()):=by
 rcases ye h with rfl | rfl | rfl | rfl | rfl | rfl | rfl | rfl | rfl | rfl | rfl | rfl | rfl | rfl | rfl | rfl<;>rfl
structure Tw (ss:List Int) (t v r o:Int) (data:List DCn) (sp:Int) (w:Bool):Prop where
 val:Pr ss (t,v,r,o)
 dat:data.length<=64/\∀c∈data,Pr ss c
 spn:-1<=sp/\sp<=3
def DoP(ss:List Int) (r:(List (Int))×(List (Int))×(List (List (Int)))×(List (List DCn))×(List DOp)×(List DOu)×Int×Int×Int×Int×(List DCn)×Int×Bool×Int×Unit):Prop:=
 ∃ck rn ins d os us t v rg o data,r=(ck,rn,ins,d,os,us,t,v,rg,o,data,-1,false,0,())/\BR ss ck rn ins d os us/\Pr ss (t,v,rg,o)/\data.length<=16/\∀c∈data,Pr ss c
theorem lW{ss:List Int}{ck rn:List Int}{ins:List (List Int)}{d:List (List DCn)}{os:List DOp}{us:List DOu}{t v rg o:Int}{data:List DCn}(h:BR ss ck rn ins d os us) (hv:Pr ss (t,v,rg,o)) (hd:data.length<=16/\∀c∈data,Pr ss c) :
 Ok (some (ck,rn,ins,d,os,us,t,v,rg,o,data,(-1:Int),false,(0:Int),())) (DoP ss):=Ok.ret ⟨_,_,_,_,_,_,_,_,_,_,_,rfl,h,hv,hd⟩
theorem Pr.val{ss:List Int}{c:DCn}(h:Pr ss c):W16 c.2.1:=by
 rcases h with ⟨_,_,_,h⟩ | ⟨_,h,_⟩
 ·exact h
 ·rw[h];exact⟨by decide,by decide⟩
theorem ST{n:Int}{ss:List Int}{i trap count pc call:Int}{args data:List DCn}(h:CP n ss i 1 trap count pc call args data):ut call=0\/ut call=1\/(ut call=2/\∃a,args[2]?=some a/\a.2.1<=16):=by
 by_cases h2:ut call=2
 ·exact .inr (.inr ⟨h2,h.hbuf rfl h2⟩)
 ·have:ut call=0\/ut call=1\/ut call=2:=by unfold ut;split<;>first | omega | (split<;>omega)
  omega
theorem Am{α:Type}{a b:Option α}{Q:α->Prop}(h:Ok a Q) (e:b=a):Ok b Q:=by simp_all
set_option maxHeartbeats 4000000 in
theorem RB{n:Int}{ss:List Int}{ck rn:List Int}{ins:List (List Int)}{d:List (List DCn)}{os:List DOp}{us:List DOu}{i trap count pc call:Int}{args data:List DCn}(hs:yh ss) (hO:BR ss ck rn ins d os us) (hR:CP n ss i 1 trap count pc call args data)
 (ha:RS call=true) (hn:n<=1099511627776):Ok (qm ck rn ins d os us i 1 trap count pc call args data) (DoP ss):=by
 have hc:=hR.hcall;have VJ:=hR.hdata;have V9:=hR.hargs;unfold qm;rw[xo hs hO,CY hs hR hn,RR hc,ha,Le hR,xj hc];simp only[oBS,oNT,oCF,bne_self_eq_false];refine Ok.bind (P:=λr=>r=(false,ck,rn,ins,d,os,us,i,1,trap,count,pc,call,args,data,(),(),(),(),(),(),0,0,0,0,(),0,false,())) ?_ ?_
 ·rcases ST hR with h | h | ⟨h,a,h2,h3⟩
  ·rw[h];exact Ok.ret rfl
  ·rw[h];exact Ok.ret rfl
  ·rw[h];simp only[BEq.rfl,oCT,show dM args 2=some a from h2,oBS];rw[oDF (show ¬ a.2.1 > 16 by omega)];exact Ok.ret rfl
 rintro _ rfl;dsimp only;delta dN;simp only[oCF,Hy hO,oBS]
 refine Ok.loop (P:=λs'=>∃(k:Nat) (vs:List Int),s'=(args,(args.length:Int),(k:Int),ck,rn,ins,d,os,us,i,1,trap,count,pc,call,args,data,(),(),(),(),(),(),0,0,0,0,(),0,false,ck,rn,ins,d,os,us,vs,())/\k<=args.length/\vs.length=3/\(∀v∈vs,W16 v)/\∀(j:Nat) a,j < k->args[j]?=some a->vs[j]?=some a.2.1)
  (R:=λr=>∃(z:Int) (vs:List Int),r=(args,(args.length:Int),z,false,ck,rn,ins,d,os,us,i,1,trap,count,pc,call,args,data,(),(),(),(),(),(),0,0,0,0,(),0,false,ck,rn,ins,d,os,us,vs,())/\vs.length=3/\(∀v∈vs,W16 v)/\∀(j:Nat) a,args[j]?=some a->vs[j]?=some a.2.1) (m:=λs'=>(s'.2.1 - s'.2.2.1).toNat)
  ⟨0,[0,0,0],rfl,by omega,rfl,all_cons ⟨by decide,by decide⟩ (all_cons ⟨by decide,by decide⟩ (all_cons ⟨by decide,by decide⟩ eu)),λj a hj=>by omega⟩ (by unfold NN;dsimp only;omega) ?_ ?_
 ·rintro _ ⟨k,vs,rfl,hk,hv3,Uw,hva⟩;unfold vG;dsimp only
  (with_reducible refine dJ (λZ'=>?_) λZ'=>?_)
  ·simp only[dO,oBS];refine Ok.get (by omega) λa hak=>?_;have hw:=(V9.2 a (dR hak)).val;refine Ok.get (by omega) λv hv=>?_;refine Ok.get (by omega) λ_ _=>?_;rw[d7 (x:=a.2.1) (by have:=hw.1;omega) (by have:=hw.2;omega),dS (x:=(k:Int)+1) (by omega) (by omega),eG hv];refine Ok.ret ⟨⟨k+1,_,rfl,by omega,by rw[List.length_set];exact hv3,jI Uw hw,λj a' hj Uh=>?_⟩,by dsimp only;omega⟩;by_cases e:k=j
   ·subst e;rw[hak] at Uh;cases Uh;exact iK (by omega) _
   ·rw[ou e];exact hva j a' (by omega) Uh
  ·refine Ok.ret ⟨_,vs,rfl,hv3,Uw,λj a Uh=>hva j a ?_ Uh⟩;have:=(oGS Uh).1;omega
 rintro _ ⟨z,vs,rfl,hv3,Uw,hva⟩;obtain⟨v0,Uc,Yo⟩:=g7 0 false
 obtain⟨a0,a1,a2,rfl⟩:∃a b c,vs=[a,b,c]:=by
  match vs,hv3 with
  | [a,b,c],_=>exact⟨a,b,c,rfl⟩
 have w0:W16 a0:=Uw a0 (by simp);have w1:W16 a1:=Uw a1 (by simp);have w2:W16 a2:=Uw a2 (by simp);have g0:dM [a0,a1,a2] 0=some a0:=rfl;have g1:dM [a0,a1,a2] 1=some a1:=rfl;have g2:dM [a0,a1,a2] 2=some a2:=rfl
 have a2le:ut call=2->a2<=16:=λh=>by
  obtain⟨a,h2,h3⟩:=hR.hbuf rfl h;have:=hva 2 a h2
  have:a2=a.2.1:=by simpa using this
  omega
 have ZC:([]:List DCn).length<=16/\∀c∈([]:List DCn),Pr ss c:=⟨by decide,eu⟩;dsimp only;simp only[Uc,oBS,g0,g1,g2];rcases ye hc with rfl | rfl | rfl | rfl | rfl | rfl | rfl | rfl | rfl | rfl | rfl | rfl | rfl | rfl | rfl | rfl
 all_goals first | (exact absurd ha (by decide)) | simp only[Int.reduceBEq,oCT,oCF]
 ·obtain⟨_,e,d1,UA,m,b,rfl,hF,_⟩:=Kv (h:=a0) hs hO.files VJ.1 VJ.2;obtain⟨v,ev,hv⟩:=g7 m b;simp only[e,ev,oBS];exact lW ⟨hO.clock,hO.rand,hO.ilen,hO.inp,hF,hO.ulen,hO.outs⟩ (lQ hv) ZC
 ·have Yn:=a2le rfl;obtain⟨_,e,hr⟩:=MP (h:=a0) (n:=a2) hO.files w2;rcases hr with ⟨d1,UA,rfl,hF⟩ | ⟨d1,UA,l,rfl,hF,hl,_,VT⟩
  ·simp only[e,Uc,oBS];exact lW ⟨hO.clock,hO.rand,hO.ilen,hO.inp,hF,hO.ulen,hO.outs⟩ (lQ Yo) ZC
  ·obtain⟨v,ev,hv⟩:=g7 (l.length:Int) true;simp only[e,ev,oBS];exact lW ⟨hO.clock,hO.rand,hO.ilen,hO.inp,hF,hO.ulen,hO.outs⟩ (lQ hv) ⟨by omega,VT⟩
 ·obtain⟨_,e,d1,UA,h,rfl,hF,h0,h7⟩:=O7 (file:=a0) (mode:=a1) hO.files;simp only[e,oBS];have VY:BR ss ck rn ins d1 UA us:=⟨hO.clock,hO.rand,hO.ilen,hO.inp,hF,hO.ulen,hO.outs⟩;by_cases hh:h>=0
  ·simp only[oDT hh,oCT];exact lW VY (P7 (oz _)) ZC
  ·simp only[oDF hh,oCF];exact lW VY (lQ Yo) ZC
 ·obtain⟨_,e,d1,UA,b,rfl,hF⟩:=LB (h:=a0) hO.files;obtain⟨v,ev,hv⟩:=g7 0 b;simp only[e,ev,oBS];exact lW ⟨hO.clock,hO.rand,hO.ilen,hO.inp,hF,hO.ulen,hO.outs⟩ (lQ hv) ZC
 ·obtain⟨_,e,d1,UA,b,rfl,hF⟩:=MB (h:=a0) (n:=a1) hO.files;obtain⟨v,ev,hv⟩:=g7 0 b;simp only[e,ev,oBS];exact lW ⟨hO.clock,hO.rand,hO.ilen,hO.inp,hF,hO.ulen,hO.outs⟩ (lQ hv) ZC
 ·cases ck with
  | nil=>exact lW hO (lQ Yo) ZC
  | cons x ck=>
   obtain⟨v,ev,hv⟩:=g7 (wk .i64 x) true
   have hw:m8 (x :: ck) 1 (Nat.sub (x :: ck).length 1)=ck:=by unfold m8;simp
   refine Am (lW (ck:=ck) ⟨⟨by have:=hO.clock.1;simp at this;omega,λw hw=>hO.clock.2 w (by simp[hw])⟩,hO.rand,hO.ilen,hO.inp,hO.files,hO.ulen,hO.outs⟩ (lQ hv) ZC) ?_;simp only[oLC,show dM (x :: ck) 0=some x from rfl,oBS,ev];have hd:∀inst:Decidable (((ck.length+1:Nat):Int) > 0),@decide _ inst=true:=λinst=>oDT (by omega);rw[oLC] at hw;rw[hd,show iQ 1 (ck.length+1) (ck.length+1)=true by unfold iQ;simp,hw];rfl
 ·cases rn with
  | nil=>exact lW hO (lQ Yo) ZC
  | cons x rn=>
   obtain⟨v,ev,hv⟩:=g7 (wk .i64 x) true
   have hw:m8 (x :: rn) 1 (Nat.sub (x :: rn).length 1)=rn:=by unfold m8;simp
   refine Am (lW (rn:=rn) ⟨hO.clock,⟨by have:=hO.rand.1;simp at this;omega,λw hw=>hO.rand.2 w (by simp[hw])⟩,hO.ilen,hO.inp,hO.files,hO.ulen,hO.outs⟩ (lQ hv) ZC) ?_;simp only[oLC,show dM (x :: rn) 0=some x from rfl,oBS,ev];have hd:∀inst:Decidable (((rn.length+1:Nat):Int) > 0),@decide _ inst=true:=λinst=>oDT (by omega);rw[oLC] at hw;rw[hd,show iQ 1 (rn.length+1) (rn.length+1)=true by unfold iQ;simp,hw];rfl
 ·obtain⟨_,e,us1,m,b,rfl,hu,ho⟩:=MA (sk:=a0) hO.ulen hO.outs VJ.1 VJ.2;obtain⟨v,ev,hv⟩:=g7 m b;simp only[e,ev,oBS];exact lW ⟨hO.clock,hO.rand,hO.ilen,hO.inp,hO.files,hu,ho⟩ (lQ hv) ZC
 ·have Yn:=a2le rfl;obtain⟨_,e,hr⟩:=FM (ss:=ss) (sk:=a0) (n:=a2) hO.ilen hO.inp w2;rcases hr with ⟨in1,rfl,W4,Yv⟩ | ⟨in1,l,rfl,⟨W4,Yv⟩,hl,_,VT⟩
  ·simp only[e,Uc,oBS];exact lW ⟨hO.clock,hO.rand,W4,Yv,hO.files,hO.ulen,hO.outs⟩ (lQ Yo) ZC
  ·obtain⟨v,ev,hv⟩:=g7 (l.length:Int) true;simp only[e,ev,oBS];exact lW ⟨hO.clock,hO.rand,W4,Yv,hO.files,hO.ulen,hO.outs⟩ (lQ hv) ⟨by omega,VT⟩
def Dg(bs:List Int) (key:Int) (c:DCn):DCe:=if c.1=0 then (0,c.2.1) else if c.1=2 then (2,wk .u16 (c.2.1+key)) else (1,wk .u16 (bs.getD c.2.2.1.toNat 0+c.2.2.2))
theorem JQ{bs ss:List Int}(h:LV bs ss) {r o n:Int}(h1:0<=r) (h2:ss[r.toNat]?=some n) (h3:0<=o) (h4:o < n):∃b,bs[r.toNat]?=some b/\0<=b+o/\b+o < 512/\b<=b+o/\b+o < b+n:=by
 have ⟨hs,hl,hr⟩:=h;have hj:=(oGS h2).1;have ⟨b,hb⟩:∃b,bs[r.toNat]?=some b:=⟨_,oGE (by omega)⟩;have V2:=hr r.toNat (by omega);unfold yi at V2;rw[ew hb,ew h2] at V2;exact⟨b,hb,by omega,by omega,by omega,by omega⟩
theorem AC{bs ss:List Int}{key:Int}{c:DCn}(h:LV bs ss) (hc:Pr ss c):ii bs key ss c.1 c.2.1 c.2.2.1 c.2.2.2=some ((Dg bs key c).1,(Dg bs key c).2,0,())/\o7 (RK bs ss) (Dg bs key c):=by
 unfold ii Dg;rw[oO hc];rcases hc with ⟨h1 | h1,h2,h3,h4⟩ | ⟨h1,h2,h3,n,h5,h6,h7⟩
 ·rw[h1];exact⟨rfl,nn h4⟩
 ·rw[h1];exact⟨rfl,(show (0:Int)<=2 by decide),(show (2:Int)<=2 by decide),(oz _).1,(oz _).2,λe=>absurd (show (2:Int)=1 from e) (by decide)⟩
 ·obtain⟨b,hb,b0,b1,b2,b3⟩:=JQ h h3 h5 h6 h7;obtain⟨j,hj⟩:∃j:Nat,c.2.2.1=j:=⟨c.2.2.1.toNat,by omega⟩;rw[hj] at hb h5 ⊢;rw[h1,ew hb];simp[Int.reduceBEq,Int.reduceEq,oCF,if_false,dO,oBS,show dM bs j=some b from hb];rw[dS (by omega) (by omega),ef (by omega) (by omega)];exact⟨rfl,by omega,by omega,by omega,by omega,λ_=>⟨j,b,n,hb,h5,b2,b3⟩⟩
theorem LL{bs ss:List Int}{key r o n:Int}(h:LV bs ss) (h1:0<=r) (h2:ss[r.toNat]?=some n) (h3:0<=o) (h4:o < n):∃a,lI bs key ss r o=some (a,0,())/\0<=a/\a < 512/\a=bs.getD r.toNat 0+o:=by
 have ⟨b,hb,b0,b1,_⟩:=JQ h h1 h2 h3 h4;obtain⟨j,rfl⟩:∃j:Nat,r=j:=⟨r.toNat,by omega⟩;unfold lI;rw[Gw h1 h2 h3 h4];simp[dO,show dM bs j=some b from hb];rw[dS (by omega) (by omega)]
 simp_all
theorem Pc(pc t v:Int):ri pc t v=some (1,[(t,v),(0,0),(0,0),(0,0),(0,0),(0,0),(0,0),(0,0)],pc,0,-1,-1,0,0,()):=rfl
def Tx(n key:Int) (ss bs:List Int) (r:Bool×(List (Int))×Int×(List DCe)×(List DLn)×(List DTh)×Unit):Prop:=∃b Z4 Z1 Zo,r=(b,bs,key,Z4,Z1,Zo,())/\(b=true->MOk n ss bs Z4 Z1 Zo)
theorem AD{n key:Int}{ss bs:List Int}{cs:List DCe}{ls:List DLn}{ts:List DTh}:Ok (some (false,bs,key,cs,ls,ts,())) (Tx n key ss bs):=Ok.ret ⟨_,_,_,_,rfl,λh=>by cases h⟩
theorem sN{n key ct cv:Int}{ss bs:List Int}{cs:List DCe}{ls:List DLn}{ts:List DTh}{i:Nat}(h:MOk n ss bs cs ls ts) (hi:i < 4) (hc:o7 (RK bs ss) (ct,cv)) :
 Ok ((dM ts i).bind λ_=>(dM ts i).bind λx75=>(dM x75.2.1 0).bind λ_=>(dM ts i).bind λx77=>(dM x77.2.1 0).bind λ_=>(dM (List.modify ts i λe=>(e.1,((List.modify e.2.1 0 λ_=>(ct,cv)),e.2.2))) i).bind λ_=>
  some (true,bs,key,cs,ls,List.modify (List.modify ts i λe=>(e.1,((List.modify e.2.1 0 λ_=>(ct,cv)),e.2.2))) i λe=>((1:Int),e.2),())) (Tx n key ss bs):=by
 have XC:=h.tlen;have ⟨t,ht⟩:∃t,ts[i]?=some t:=⟨_,oGE (by omega)⟩;have hg:dM ts i=some t:=ht;have YS:=(oGS ht).1;have hok:=h.thr t (dR ht);have ⟨c,hc0⟩:∃c,t.2.1[0]?=some c:=⟨_,oGE (by have:=hok.len;omega)⟩;simp[hg,show dM t.2.1 0=some c from hc0,eG ht,eG hc0,iK YS,qv YS];exact Ok.ret ⟨_,_,_,_,rfl,λ_=>h.set h.mem ⟨⟨show (0:Int)<=1 by decide,show (1:Int)<=4 by decide⟩,by dsimp only;rw[List.length_set];exact hok.len,jI hok.regs hc,hok.pc,hok.count,hok.handler,hok.saved,hok.trap,hok.code⟩⟩
theorem Kz{K:Int->Prop}{n pc:Int}{rs:List DCe}(hl:rs.length=8) (hr:∀c∈rs,o7 K c) (hp:0<=pc/\pc<=255) (hn:0<=n):BO K n (1,rs,pc,0,-1,-1,0,0):=
 ⟨⟨show (0:Int)<=1 by decide,show (1:Int)<=4 by decide⟩,hl,hr,hp,⟨show (0:Int)<=0 by decide,hn⟩,⟨show (-1:Int)<=-1 by decide,show (-1:Int)<=255 by decide⟩,⟨show (-1:Int)<=-1 by decide,show (-1:Int)<=255 by decide⟩,⟨show (0:Int)<=0 by decide,show (0:Int)<=6 by decide⟩,⟨show (0:Int)<=0 by decide,show (0:Int)<=65535 by decide⟩⟩
theorem MOk.mk_mem{n:Int}{ss bs:List Int}{cs Z4:List DCe}{ls Z1:List DLn}{ts:List DTh}(h:MOk n ss bs cs ls ts) (hm:lh (RK bs ss) Z4 Z1):MOk n ss bs Z4 Z1 ts:=⟨h.lay,hm,h.tlen,h.thr⟩
set_option maxHeartbeats 4000000 in
theorem O1{n m key:Int}{code:List DIn}{ss bs:List Int}{dd:List (List Int)}{cs:List DCe}{ls:List DLn}{ts:List DTh}{i:Nat}{trap count pc call:Int}{args data:List DCn}{t v rg o sp:Int}{dat:List DCn}{w:Bool}(h:MOk n ss bs cs ls ts) (hi:i < 4)
 (hR:CP m ss (i:Int) 1 trap count pc call args data) (hv:Pr ss (t,v,rg,o)) (hd:dat.length<=16/\∀c∈dat,Pr ss c) (ZE:-1<=sp/\sp<=3) :
 Ok (re code ss dd (i:Int) 1 trap count pc call args data t v rg o dat sp w bs key cs ls ts) (Tx n key ss bs):=by
 have hL:=h.lay;have XC:=h.tlen;obtain⟨YT,Xt⟩:=hR.hkind rfl;have hargs:=hR.hargs;obtain⟨VZ,Yx⟩:=AC (key:=key) hL hv;obtain⟨th,X'⟩:∃th,ts[i]?=some th:=⟨_,oGE (by omega)⟩;have hok:=h.thr th (dR X');have hc0:=hok.count;have YS:=(oGS X').1;dsimp only at VZ;unfold re;delta dN;rw[dO,VZ,xj hR.hcall];simp only[oBS,bne_self_eq_false,oCF];refine Ok.get YS λ_ _=>?_;have ZY:=sN (key:=key) (ct:=(Dg bs key (t,v,rg,o)).1) (cv:=(Dg bs key (t,v,rg,o)).2) h hi Yx
 have buf:ut call=2->dat.length > 0->∃a:DCn,args[1]?=some a/\Pr ss a/\a.1=1/\∃y,dU mJ NN (i,dat,(dat.length:Int),0,bs,key,cs,ls,ts,code,ss,dd,(i:Int),1,trap,count,pc,call,args,data,t,v,rg,o,dat,sp,w,(Dg bs key (t,v,rg,o)).1,(Dg bs key (t,v,rg,o)).2,a.2.2.1,a.2.2.2,())=some y /\
  ((∃Z4 Z1,y=.inl (false,bs,key,Z4,Z1,ts,()))\/(∃Z4 Z1 z f,y=.inr (i,dat,(dat.length:Int),z,false,bs,key,Z4,Z1,ts,code,ss,dd,(i:Int),1,trap,count,pc,call,args,data,t,v,rg,o,dat,sp,w,(Dg bs key (t,v,rg,o)).1,(Dg bs key (t,v,rg,o)).2,a.2.2.1,f,())/\lh (RK bs ss) Z4 Z1)):=by
  intro hb ZT
  have hkk:(kB call)[1]?=some 80:=by
   have:call=2\/call=14:=by unfold ut at hb;split at hb<;>first | omega | (split at hb<;>omega)
   rcases this with rfl | rfl<;>rfl
  have Xu:=(oGS hkk).1;obtain⟨a,ha⟩:∃a,args[1]?=some a:=⟨_,oGE (by omega)⟩;have V9:=hargs.2 a (dR ha);have ZQ:=Xt 1 80 a hkk ha
  have XF:a.1=1:=by unfold Py at ZQ;simpa using ZQ
  have ha32:0<=a.2.2.2/\a.2.2.2<=32:=by
   rcases V9 with ⟨g,_⟩ | ⟨_,_,_,z,g1,g2,g3⟩
   ·omega
   ·have:=hL.1.2.2 z (dR g1);omega
  refine⟨a,ha,V9,XF,?_⟩
  refine gG (f:=mJ) (n:=NN) (P:=λs'=>∃k:Nat,∃Z4 Z1,s'=(i,dat,(dat.length:Int),(k:Int),bs,key,Z4,Z1,ts,code,ss,dd,(i:Int),1,trap,count,pc,call,args,data,t,v,rg,o,dat,sp,w,(Dg bs key (t,v,rg,o)).1,(Dg bs key (t,v,rg,o)).2,a.2.2.1,a.2.2.2+k,())/\k<=dat.length/\lh (RK bs ss) Z4 Z1)
   (R:=λy=>(∃Z4 Z1,y=.inl (false,bs,key,Z4,Z1,ts,()))\/(∃Z4 Z1 z f,y=.inr (i,dat,(dat.length:Int),z,false,bs,key,Z4,Z1,ts,code,ss,dd,(i:Int),1,trap,count,pc,call,args,data,t,v,rg,o,dat,sp,w,(Dg bs key (t,v,rg,o)).1,(Dg bs key (t,v,rg,o)).2,a.2.2.1,f,())/\lh (RK bs ss) Z4 Z1))
   (m:=λs'=>(s'.2.2.1 - s'.2.2.2.1).toNat) ⟨0,cs,ls,by simp,by omega,h.mem⟩ (by unfold NN;dsimp only;omega) ?_
  rintro _ ⟨k,Z4,Z1,rfl,hk,hm⟩;unfold mJ;dsimp only
  (with_reducible refine dJ (λZ'=>?_) λZ'=>?_)
  ·rw[dO];simp only[oBS];refine Ok.get (by omega) λc hc=>?_;obtain⟨Z8,Yh⟩:=AC (key:=key) hL (hd.2 c (dR hc));rw[Z8];simp only[oBS,bne_self_eq_false,oCF];refine Dm.bind ?_;rintro⟨q,_⟩ hin;dsimp only at hin ⊢
   (with_reducible refine dJ (λZ3=>?_) λZ3=>?_)
   ·exact Ok.ret (.inl ⟨_,_,rfl⟩)
   ·obtain⟨g1,g2,z,g3,g4⟩:=hin Z3;obtain⟨ad,ea,a0,a1,_⟩:=LL (key:=key) hL g1 g3 g2 g4;rw[ea];simp only[oBS];refine (C5 hm ⟨a0,a1⟩ Yh).bind ?_;rintro _ ⟨Vy,V8,rfl,hm2⟩;dsimp only;rw[dS (x:=a.2.2.2+k+1) (by omega) (by omega),dS (x:=(k:Int)+1) (by omega) (by omega)];exact Ok.ret ⟨⟨k+1,_,_,by rw[show a.2.2.2+((k+1:Nat):Int)=a.2.2.2+k+1 by omega];rfl,by omega,hm2⟩,by dsimp only;omega⟩
  ·exact Ok.ret (.inr ⟨_,_,_,_,rfl,hm⟩)
 rcases ye hR.hcall with rfl | rfl | rfl | rfl | rfl | rfl | rfl | rfl | rfl | rfl | rfl | rfl | rfl | rfl | rfl | rfl
 case inr.inr.inl=>
  simp only[show ((ut 2)==2)=true from rfl,oCT];by_cases ZT:dat.length > 0
  ·obtain⟨a,ha,V9,XF,y,ey,hy⟩:=buf rfl ZT;simp only[oDT (show ((dat.length:Nat):Int) > 0 by omega),oCT,show dM args 1=some a from ha,oBS,oO V9,oNT,oCF,bne_eq_false_iff_eq.2 XF,ey];rcases hy with ⟨Z4,Z1,rfl⟩ | ⟨Z4,Z1,z,f,rfl,hm⟩
   ·exact AD
   ·simp only[Int.reduceBEq,oCF];exact sN (h.mk_mem hm) hi Yx
  ·simp only[oDF (show ¬ ((dat.length:Nat):Int) > 0 by omega),oCF,Int.reduceBEq];exact ZY
 case inr.inr.inr.inr.inr.inr.inr.inr.inr.inr.inr.inr.inr.inr.inl=>
  simp only[show ((ut 14)==2)=true from rfl,oCT];by_cases ZT:dat.length > 0
  ·obtain⟨a,ha,V9,XF,y,ey,hy⟩:=buf rfl ZT;simp only[oDT (show ((dat.length:Nat):Int) > 0 by omega),oCT,show dM args 1=some a from ha,oBS,oO V9,oNT,oCF,bne_eq_false_iff_eq.2 XF,ey];rcases hy with ⟨Z4,Z1,rfl⟩ | ⟨Z4,Z1,z,f,rfl,hm⟩
   ·exact AD
   ·simp only[Int.reduceBEq,oCF];exact sN (h.mk_mem hm) hi Yx
  ·simp only[oDF (show ¬ ((dat.length:Nat):Int) > 0 by omega),oCF,Int.reduceBEq];exact ZY
 case inr.inr.inr.inr.inr.inr.inr.inr.inr.inr.inr.inr.inl=>
  obtain⟨a,ha⟩:∃a,args[0]?=some a:=⟨_,oGE (by rw[YT];decide)⟩;have hva:=(hargs.2 a (dR ha)).val;simp only[show ((ut 12)==2)=false from rfl,oCF,Int.reduceBEq,oCT,show dM args 0=some a from ha,oBS];rw[d7 (x:=a.2.1) (by have:=hva.1;omega) (by have:=hva.2;omega)];by_cases h1:a.2.1 > 255
  ·simp only[oDT h1,oCT];exact AD
  by_cases h2:a.1=0
  ·simp only[oDF h1,oCF,bne_eq_false_iff_eq.2 h2,show dM ts i=some th from X',oBS,eG X'];exact sN (h.set h.mem ⟨hok.state,hok.len,hok.regs,hok.pc,hok.count,⟨by dsimp only;have:=hva.1;omega,by dsimp only;omega⟩,hok.saved,hok.trap,hok.code⟩) hi Yx
  ·simp only[oDF h1,oCF,bne_iff_ne.2 h2,oCT];exact AD
 case inr.inr.inr.inr.inr.inr.inr.inr.inr.inr.inl=>
  obtain⟨a,ha⟩:∃a,args[0]?=some a:=⟨_,oGE (by rw[YT];decide)⟩;obtain⟨c,hc⟩:∃c,args[1]?=some c:=⟨_,oGE (by rw[YT];decide)⟩;have hva:=(hargs.2 a (dR ha)).val;obtain⟨Z8,Yh⟩:=AC (key:=key) hL (hargs.2 c (dR hc));simp only[show ((ut 10)==2)=false from rfl,oCF,Int.reduceBEq,oCT];by_cases hsp0:sp>=0
  ·obtain⟨j,rfl⟩:∃j:Nat,sp=j:=⟨sp.toNat,by omega⟩;obtain⟨tj,htj⟩:∃tj,ts[j]?=some tj:=⟨_,oGE (by omega)⟩;simp only[oDT hsp0,oCT,show dM args 0=some a from ha,show dM args 1=some c from hc,oBS,Z8,bne_self_eq_false,oCF,dO,show dM ts j=some tj from htj];rw[d7 (x:=a.2.1) (by have:=hva.1;omega) (by have:=hva.2;omega)];by_cases h0:tj.1=0
   ·by_cases h1:a.2.1 > 255
    ·simp only[bne_eq_false_iff_eq.2 h0,oCF,oDT h1,oCT,oBS];exact AD
    by_cases h2:a.1=0
    ·simp only[bne_eq_false_iff_eq.2 h0,oDF h1,oCF,bne_eq_false_iff_eq.2 h2,oBS,show dM args 0=some a from ha,d7 (x:=a.2.1) (by have:=hva.1;omega) (by have:=hva.2;omega),Pc,dO,show dM ts j=some tj from htj,eG htj];refine sN (h.set h.mem (Kz rfl (all_cons Yh ?_) ⟨hva.1,by omega⟩ (by omega))) hi Yx;exact all_cons (nn (by decide)) (all_cons (nn (by decide)) (all_cons (nn (by decide)) (all_cons (nn (by decide)) (all_cons (nn (by decide)) (all_cons (nn (by decide)) (all_cons (nn (by decide)) eu))))))
    ·simp only[bne_eq_false_iff_eq.2 h0,oDF h1,oCF,bne_iff_ne.2 h2,oCT,oBS];exact AD
   ·simp only[bne_iff_ne.2 h0,oCT,oBS];exact AD
  ·simp only[oDF hsp0,oCF];exact ZY
 all_goals
  simp only[show ((ut 0)==2)=false from rfl,show ((ut 1)==2)=false from rfl,show ((ut 3)==2)=false from rfl,show ((ut 4)==2)=false from rfl,show ((ut 5)==2)=false from rfl,show ((ut 6)==2)=false from rfl,show ((ut 7)==2)=false from rfl,
   show ((ut 8)==2)=false from rfl,show ((ut 9)==2)=false from rfl,show ((ut 11)==2)=false from rfl,show ((ut 13)==2)=false from rfl,show ((ut 15)==2)=false from rfl,oCF,Int.reduceBEq]
  exact ZY
theorem CX{ss:List Int}{t v rg o sp:Int}{dat:List DCn}{w:Bool}(hs:yh ss) (hv:Pr ss (t,v,rg,o)) (hd:dat.length<=16/\∀c∈dat,Pr ss c) (ZE:-1<=sp/\sp<=3):lz t v rg o dat sp w=some (true,()):=by
 refine eV ?_;unfold lz;rw[show iS t v rg o=some (true,()) from HE hs hv,k9 hs hd.2 (by omega) (by omega)];refine dK (oDT ZE.1) ?_;exact Ok.ret (by rw[oDT (show sp < 4 by omega)])
theorem SZ{n m key:Int}{code:List DIn}{ss bs:List Int}{dd:List (List Int)}{cs:List DCe}{ls:List DLn}{ts:List DTh}{i:Nat}{trap count pc call:Int}{args data:List DCn}{t v rg o sp:Int}{dat:List DCn}{w:Bool}(hp:lf code ss dd) (h:MOk n ss bs cs ls ts) (hi:i < 4)
 (hn:n<=1099511627776) (hm:m<=1099511627776) (hR:CP m ss (i:Int) 1 trap count pc call args data) (hv:Pr ss (t,v,rg,o)) (hd:dat.length<=16/\∀c∈dat,Pr ss c) (ZE:-1<=sp/\sp<=3) :
 Ok (rf code ss dd bs key cs ls ts (i:Int) 1 trap count pc call args data t v rg o dat sp w) λr=>∃Z4 Z1 Zo b,r=(bs,key,Z4,Z1,Zo,b,())/\MOk n ss bs Z4 Z1 Zo:=by
 have XC:=h.tlen;obtain⟨YT,Xt⟩:=hR.hkind rfl;obtain⟨th,X'⟩:∃th,ts[i]?=some th:=⟨_,oGE (by omega)⟩;have hok:=h.thr th (dR X')
 have YS:=by omega
 have hg:dM ts i=some th:=X';unfold rf;delta dN;rw[xp hp h hn,CY hp.sz hR hm,zn hR.hcall,CX hp.sz hv hd ZE,YT];simp only[oBS,oNT,oCF,bne_self_eq_false,dO,hg];by_cases h2:th.1=2
 ·simp only[bne_eq_false_iff_eq.2 h2,oCF,wH h,oBS,dO,hg];by_cases hc0:call=0
  ·subst hc0;obtain⟨a,ha⟩:∃a,args[0]?=some a:=⟨_,oGE (by rw[YT];decide)⟩;have hva:=(hR.hargs.2 a (dR ha)).val;simp only[BEq.rfl,oCT,show dM args 0=some a from ha,oBS];unfold oG mL;rw[dX (show 4<=1000/\0+th.2.1.length<=1000000 by have:=hok.len;omega)];simp only[oCT,oBS,eG X'];exact Ok.ret ⟨_,_,_,_,rfl,h.set h.mem ⟨⟨show (0:Int)<=4 by decide,show (4:Int)<=4 by decide⟩,by dsimp only;rw[ft];simpa using hok.len,j6 eu hok.regs,hok.pc,hok.count,hok.handler,hok.saved,⟨show (0:Int)<=0 by decide,show (0:Int)<=6 by decide⟩,hva⟩⟩
  ·simp only[oBF hc0,oCF]
   cases w with
   | true=>
    simp only[oCT,eG X'];exact Ok.ret ⟨_,_,_,_,rfl,h.set h.mem ⟨⟨show (0:Int)<=3 by decide,show (3:Int)<=4 by decide⟩,hok.len,hok.regs,hok.pc,hok.count,hok.handler,hok.saved,hok.trap,hok.code⟩⟩
   | false=>
    refine (O1 h hi hR hv hd ZE).bind ?_;rintro _ ⟨b,Z4,Z1,Zo,rfl,hb⟩;dsimp only
    cases b with
    | true=>exact Ok.ret ⟨_,_,_,_,rfl,hb rfl⟩
    | false=>exact Ok.ret ⟨_,_,_,_,rfl,h⟩
 ·simp only[bne_iff_ne.2 h2,oCT];exact Ok.ret ⟨_,_,_,_,rfl,h⟩
theorem N8{n key:Int}{code:List DIn}{ss bs:List Int}{dd:List (List Int)}{cs:List DCe}{ls:List DLn}{ts:List DTh}{i t v rg o sp:Int}{dat:List DCn}{w:Bool}(hp:lf code ss dd) (h:MOk n ss bs cs ls ts)
 (hn:n<=1099511627776) (hv:Pr ss (t,v,rg,o)) (hd:dat.length<=16/\∀c∈dat,Pr ss c) (ZE:-1<=sp/\sp<=3) :
 Ok (nc code ss dd bs key cs ls ts i t v rg o dat sp w) λr=>∃Z4 Z1 Zo b,r=(bs,key,Z4,Z1,Zo,b,())/\MOk n ss bs Z4 Z1 Zo:=by
 have XC:=h.tlen;obtain⟨VZ,Yx⟩:=AC (key:=key) h.lay hv;unfold nc;rw[xp hp h hn,CX hp.sz hv hd ZE];simp only[oBS,oNT,oCF];by_cases h1:i < 0
 ·simp only[oDT h1,oCT];exact Ok.ret ⟨_,_,_,_,rfl,h⟩
 by_cases h2:i>=4
 ·simp only[oDF h1,oDT h2,oCT,oCF,oBS];exact Ok.ret ⟨_,_,_,_,rfl,h⟩
 obtain⟨i,rfl⟩:∃k:Nat,i=k:=⟨i.toNat,by omega⟩;obtain⟨th,X'⟩:∃th,ts[i]?=some th:=⟨_,oGE (by omega)⟩;have hok:=h.thr th (dR X');have YS:=(oGS X').1;have hg:dM ts i=some th:=X';obtain⟨c,hc0⟩:∃c,th.2.1[0]?=some c:=⟨_,oGE (by have:=hok.len;omega)⟩;simp only[oDF h1,oDF h2,oCF,dO,oBS,hg];by_cases h3:th.1=3
 ·simp only[bne_eq_false_iff_eq.2 h3,oCF,VZ,oBS,bne_self_eq_false,wH h,dO,hg,show dM th.2.1 0=some c from hc0,eG X',eG hc0,iK YS,qv YS];exact Ok.ret ⟨_,_,_,_,rfl,h.set h.mem ⟨⟨show (0:Int)<=1 by decide,show (1:Int)<=4 by decide⟩,by dsimp only;rw[List.length_set];exact hok.len,jI hok.regs Yx,hok.pc,hok.count,hok.handler,hok.saved,hok.trap,hok.code⟩⟩
 ·simp only[bne_iff_ne.2 h3,oCT];exact Ok.ret ⟨_,_,_,_,rfl,h⟩
structure kU (n:Int) (q:Nat) (code:List DIn) (ss:List Int) (dt:List (List Int)) (bs:List Int) (cs:List DCe) (ls:List DLn) (ts:List DTh) (ck rn:List Int) (ins:List (List Int)) (d:List (List DCn)) (os:List DOp) (us:List DOu) (ow:List Int) (qs:List (List Int)) (rec:List DEn) (js:List Int):Prop where
 prog:lf code ss dt
 mach:MOk n ss bs cs ls ts
 outs:BR ss ck rn ins d os us
 lock:jO ow qs
 rlen:rec.length<=q
 jlen:js.length=4
def Tv(n key:Int) (q:Nat) (code:List DIn) (ss:List Int) (dt:List (List Int)) (bs:List Int) (r:(List DIn)×(List (Int))×(List (List (Int)))×(List (Int))×Int×(List DCe)×(List DLn)×(List DTh)×(List (Int))×(List (Int))×(List (List (Int)))×(List (List DCn))×(List DOp)×(List DOu)×(List (Int))×(List (List (Int)))×(List DEn)×(List (Int))×Unit):Prop:=
 ∃cs ls ts ck rn ins d os us ow qs rec js,r=(code,ss,dt,bs,key,cs,ls,ts,ck,rn,ins,d,os,us,ow,qs,rec,js,())/\kU n q code ss dt bs cs ls ts ck rn ins d os us ow qs rec js
theorem LT{n:Int}{q:Nat}{code:List DIn}{ss:List Int}{dt:List (List Int)}{bs:List Int}{key:Int}{cs:List DCe}{ls:List DLn}{ts:List DTh}{ck rn:List Int}{ins:List (List Int)}{d:List (List DCn)}{os:List DOp}{us:List DOu}{ow:List Int}{qs:List (List Int)}{rec:List DEn}{js:List Int}{i v:Int}(h:kU n q code ss dt bs cs ls ts ck rn ins d os us ow qs rec js) (hn:n<=1099511627776) (hq:q<=900) (hv:W16 v) :
 Ok (pq i v code ss dt bs key cs ls ts ck rn ins d os us ow qs rec js) (Tv n key (q+1) code ss dt bs):=by
 unfold pq;rw[d7 (by have:=hv.1;omega) (by have:=hv.2;omega)];have ⟨v2,ev,WW⟩:=g7 v true;simp[ev];refine (N8 h.prog h.mach hn (lQ WW) ⟨by decide,eu⟩ (by decide)).bind ?_;rintro _ ⟨Z4,Z1,Zo,b,rfl,hM⟩;have hr:=h.rlen;refine dK (dX (by simp;omega)) ?_;exact Ok.ret ⟨_,_,_,_,_,_,_,_,_,_,_,_,_,rfl,h.prog,hM,h.outs,h.lock,by simp_all,h.jlen⟩
theorem Jo{n:Int}{q:Nat}{code:List DIn}{ss:List Int}{dt:List (List Int)}{bs:List Int}{key:Int}{cs:List DCe}{ls:List DLn}{ts:List DTh}{ck rn:List Int}{ins:List (List Int)}{d:List (List DCn)}{os:List DOp}{us:List DOu}{ow:List Int}{qs:List (List Int)}{rec:List DEn}{js:List Int}{i v:Int}(h:kU n q code ss dt bs cs ls ts ck rn ins d os us ow qs rec js) (hn:n<=1099511627776) (hq:q<=900) (hv:W16 v) :
 Ok (kf i v code ss dt bs key cs ls ts ck rn ins d os us ow qs rec) λr=>∃Z4 Z1 Zo Os,r=(code,ss,dt,bs,key,Z4,Z1,Zo,ck,rn,ins,d,os,us,ow,qs,Os,())/\kU n (q+1) code ss dt bs Z4 Z1 Zo ck rn ins d os us ow qs Os js:=by
 unfold kf;rw[d7 (by have:=hv.1;omega) (by have:=hv.2;omega)];have ⟨v2,ev,WW⟩:=g7 v true;simp[ev];refine (N8 h.prog h.mach hn (lQ WW) ⟨by decide,eu⟩ (by decide)).bind ?_;rintro _ ⟨Z4,Z1,Zo,b,rfl,hM⟩;have hr:=h.rlen;refine dK (dX (by simp;omega)) ?_;exact Ok.ret ⟨_,_,_,_,rfl,h.prog,hM,h.outs,h.lock,by simp_all,h.jlen⟩
def Ty(n key:Int) (q:Nat) (code:List DIn) (ss:List Int) (dt:List (List Int)) (bs:List Int) (cs:List DCe) (ls:List DLn) (ts:List DTh) (rec:List DEn) (r:Int×Int×Int×Int×(List DCn)×Int×Bool×(List DIn)×(List (Int))×(List (List (Int)))×(List (Int))×Int×(List DCe)×(List DLn)×(List DTh)×(List (Int))×(List (Int))×(List (List (Int)))×(List (List DCn))×(List DOp)×(List DOu)×(List (Int))×(List (List (Int)))×(List DEn)×(List (Int))×Unit):Prop:=
 ∃t v rg o dat sp w ck rn ins d os us ow qs js,r=(t,v,rg,o,dat,sp,w,code,ss,dt,bs,key,cs,ls,ts,ck,rn,ins,d,os,us,ow,qs,rec,js,())/\kU n q code ss dt bs cs ls ts ck rn ins d os us ow qs rec js/\Pr ss (t,v,rg,o)/\(dat.length<=16/\∀c∈dat,Pr ss c)/\-1<=sp/\sp<=3
set_option maxHeartbeats 4000000 in
theorem KX{n m:Int}{q:Nat}{code:List DIn}{ss:List Int}{dt:List (List Int)}{bs:List Int}{key:Int}{cs:List DCe}{ls:List DLn}{ts:List DTh}{ck rn:List Int}{ins:List (List Int)}{d:List (List DCn)}{os:List DOp}{us:List DOu}{ow:List Int}{qs:List (List Int)}{rec:List DEn}{js:List Int}{i:Nat}{trap count pc call:Int}{args data:List DCn}(h:kU n q code ss dt bs cs ls ts ck rn ins d os us ow qs rec js) (hi:i < 4) (hm:m<=1099511627776) (hR:CP m ss (i:Int) 1 trap count pc call args data) :
 Ok (lp (i:Int) 1 trap count pc call args data code ss dt bs key cs ls ts ck rn ins d os us ow qs rec js) (Ty n key q code ss dt bs cs ls ts rec):=by
 obtain⟨YT,_⟩:=hR.hkind rfl;have XC:=h.mach.tlen;obtain⟨v0,Uc,Yo⟩:=g7 0 true;obtain⟨v1,ev1,Uv⟩:=g7 0 false;have ZC:([]:List DCn).length<=16/\∀c∈([]:List DCn),Pr ss c:=⟨by decide,eu⟩
 have ZY:∀{v:Int} {w:Bool} {Zh:List Int} {qs':List (List Int)} {js':List Int},W16 v->jO Zh qs'->js'.length=4->Ok (some ((0:Int),v,(0:Int),(0:Int),([]:List DCn),(-1:Int),w,code,ss,dt,bs,key,cs,ls,ts,ck,rn,ins,d,os,us,Zh,qs',rec,js',())) (Ty n key q code ss dt bs cs ls ts rec):=
  λhv hl hj=>Ok.ret ⟨_,_,_,_,_,_,_,_,_,_,_,_,_,_,_,_,rfl,⟨h.prog,h.mach,h.outs,hl,h.rlen,hj⟩,lQ hv,ZC,by decide,by decide⟩
 have hdo:RS call=true->Ok ((qm ck rn ins d os us (i:Int) 1 trap count pc call args data).bind λ(x35,x36,x37,x38,x39,x40,x41,x42,x43,x44,x45,x46,x47,x48,_)=>some (x41,x42,x43,x44,x45,x46,x47,code,ss,dt,bs,key,cs,ls,ts,x35,x36,x37,x38,x39,x40,ow,qs,rec,js,())) (Ty n key q code ss dt bs cs ls ts rec):=by
  intro ha;refine (RB h.prog.sz h.outs hR ha hm).bind ?_;rintro _ ⟨ck',rn',Yq,d',Zg,UB,t,v,rg,o,dat,rfl,hO,hv,YR,hd2⟩;exact Ok.ret ⟨_,_,_,_,_,_,_,_,_,_,_,_,_,_,_,_,rfl,⟨h.prog,h.mach,hO,h.lock,h.rlen,h.jlen⟩,hv,⟨YR,hd2⟩,by decide,by decide⟩
 have UC:0 < (kB call).length->∃a,dM args 0=some a/\W16 a.2.1/\wk .i64 a.2.1=a.2.1:=λhl=>by
  obtain⟨a,ha⟩:∃a,args[0]?=some a:=⟨_,oGE (by omega)⟩;have hva:=(hR.hargs.2 a (dR ha)).val;exact⟨a,ha,hva,d7 (by have:=hva.1;omega) (by have:=hva.2;omega)⟩
 unfold lp;delta dN
 try dsimp only
 rcases ye hR.hcall with rfl | rfl | rfl | rfl | rfl | rfl | rfl | rfl | rfl | rfl | rfl | rfl | rfl | rfl | rfl | rfl
 all_goals simp only[Int.reduceBEq,oCT,oCF,oBS,Uc,ev1]
 all_goals first
  | exact hdo rfl
  | exact ZY Yo h.lock h.jlen
  | skip
 ·obtain⟨a,ga,ha,wa⟩:=UC (by decide);simp only[ga,oBS,wa];refine (Qv h.lock (by omega)).bind ?_;rintro _ ⟨Zh,qs',how,rfl,hl⟩;dsimp only;obtain⟨v,ev,hv⟩:=g7 0 (how != 2);simp only[ev,oBS];exact ZY hv hl h.jlen
 ·obtain⟨a,ga,ha,wa⟩:=UC (by decide);simp only[ga,oBS,wa];refine (IT h.lock).bind ?_;rintro _ ⟨Zh,qs',nx,b,rfl,hl,_⟩;dsimp only;obtain⟨v,ev,hv⟩:=g7 0 b;simp only[ev,oBS];exact ZY hv hl h.jlen
 ·obtain⟨y,e,hy⟩:=gG (f:=ln) (n:=NN) (s:=(ts,(ts.length:Int),0,code,ss,dt,bs,key,cs,ls,ts,ck,rn,ins,d,os,us,ow,qs,rec,js,0,0,0,0,(),0,false,()))
   (P:=λs'=>∃k:Nat,s'=(ts,(ts.length:Int),(k:Int),code,ss,dt,bs,key,cs,ls,ts,ck,rn,ins,d,os,us,ow,qs,rec,js,0,0,0,0,(),0,false,())/\k<=4)
   (R:=λy=>(∃v k,y=.inl (code,ss,dt,bs,key,cs,ls,ts,ck,rn,ins,d,os,us,ow,qs,rec,js,0,v,0,0,(),k,false,())/\W16 v/\0<=k/\k<=3)\/(∃a b c f,y=.inr (a,b,c,f,code,ss,dt,bs,key,cs,ls,ts,ck,rn,ins,d,os,us,ow,qs,rec,js,0,0,0,0,(),0,false,())))
   (m:=λs'=>(s'.2.1 - s'.2.2.1).toNat) ⟨0,rfl,by omega⟩ (by unfold NN;dsimp only;omega) (by
    rintro _ ⟨k,rfl,hk⟩;unfold ln;dsimp only
    (with_reducible refine dJ (λZ'=>?_) λZ'=>?_)
    ·obtain⟨t,ht⟩:∃t,ts[k]?=some t:=⟨_,oGE (by omega)⟩;simp only[dO,oBS,show dM ts k=some t from ht]
     (with_reducible refine dJ (λZ3=>?_) λZ3=>?_)
     ·obtain⟨v,ev,hv⟩:=g7 (k:Int) true;simp only[ev,oBS];exact Ok.ret (.inl ⟨_,_,rfl,hv,by omega,by omega⟩)
     ·rw[dS (x:=(k:Int)+1) (by omega) (by omega)];exact Ok.ret ⟨⟨k+1,rfl,by omega⟩,by dsimp only;omega⟩
    ·exact Ok.ret (.inr ⟨_,_,_,_,rfl⟩))
  simp only[e];rcases hy with ⟨v,k,rfl,hv,k0,k3⟩ | ⟨a,b,c,f,rfl⟩
  ·exact Ok.ret ⟨_,_,_,_,_,_,_,_,_,_,_,_,_,_,_,_,rfl,⟨h.prog,h.mach,h.outs,h.lock,h.rlen,h.jlen⟩,lQ hv,ZC,by omega,by omega⟩
  ·simp only[ev1,oBS];exact ZY Uv h.lock h.jlen
 ·obtain⟨a,ga,ha,wa⟩:=UC (by decide);simp only[ga,oBS,wa];obtain⟨j,hj⟩:∃j:Nat,a.2.1=j:=⟨a.2.1.toNat,by have:=ha.1;omega⟩;simp only[hj];by_cases h1:(j:Int)=i
  ·simp only[beq_iff_eq.2 h1,oCT,oBS,ev1];exact ZY Uv h.lock h.jlen
  by_cases h2:(j:Int)>=4
  ·simp only[oBF h1,oDT h2,oCT,oCF,oBS,ev1];exact ZY Uv h.lock h.jlen
  obtain⟨t,ht⟩:∃t,ts[j]?=some t:=⟨_,oGE (by omega)⟩;simp only[oBF h1,oDF h2,oCF,oBS,dO,show dM ts j=some t from ht]
  cases t.1==0 with
  | true=>
   simp only[oCT,ev1,oBS];exact ZY Uv h.lock h.jlen
  | false=>
   simp only[oCF,dO,oBS,show dM ts j=some t from ht]
   cases t.1==4 with
   | true=>
    obtain⟨v,ev,hv⟩:=g7 (wk .i64 t.2.2.2.2.2.2.2) true;simp only[oCT,ev,oBS];exact ZY hv h.lock h.jlen
   | false=>
    obtain⟨z,hz⟩:∃z,js[i]?=some z:=⟨_,oGE (by have:=h.jlen;omega)⟩;simp only[oCF,show dM js i=some z from hz,oBS,Uc,eG hz];exact ZY Yo h.lock (by rw[List.length_set];exact h.jlen)
theorem BB{n m:Int}{q:Nat}{code:List DIn}{ss:List Int}{dt:List (List Int)}{bs:List Int}{key:Int}{cs:List DCe}{ls:List DLn}{ts:List DTh}{ck rn:List Int}{ins:List (List Int)}{d:List (List DCn)}{os:List DOp}{us:List DOu}{ow:List Int}{qs:List (List Int)}{rec:List DEn}{js:List Int}{i:Nat}{trap count pc call:Int}{args data:List DCn}(h:kU n q code ss dt bs cs ls ts ck rn ins d os us ow qs rec js) (hi:i < 4) (hn:n<=1099511627776) (hm:m<=1099511627776) (hq:q<=800) (hR:CP m ss (i:Int) 1 trap count pc call args data) :
 Ok (kg (i:Int) 1 trap count pc call args data code ss dt bs key cs ls ts ck rn ins d os us ow qs rec js) (Tv n key (q+2) code ss dt bs):=by
 obtain⟨YT,_⟩:=hR.hkind rfl;unfold kg;refine Ok.bind (P:=λr=>∃nx,r=(nx,code,ss,dt,bs,key,cs,ls,ts,ck,rn,ins,d,os,us,ow,qs,rec,js,(i:Int),1,trap,count,pc,call,args,data,())) ?_ ?_
 ·by_cases h9:call=9
  ·subst h9;obtain⟨a,ha⟩:∃a,args[0]?=some a:=⟨_,oGE (by rw[YT];decide)⟩;simp only[BEq.rfl,oCT,show dM args 0=some a from ha,oBS];refine (IT h.lock).bind ?_;rintro _ ⟨Zh,qs',nx,b,rfl,hl,_⟩;exact Ok.ret ⟨nx,rfl⟩
  ·simp only[oBF h9,oCF];exact Ok.ret ⟨_,rfl⟩
 rintro _ ⟨nx,rfl⟩;dsimp only;refine (KX h hi hm hR).bind ?_;rintro _ ⟨t,v,rg,o,dat,sp,w,ck',rn',Yq,d',Zg,UB,Zh,qs',js',rfl,h2,hv,hd,hs1,Y5⟩;dsimp only;refine (SZ h.prog h.mach hi hn hm hR hv hd ⟨hs1,Y5⟩).bind ?_;rintro _ ⟨Z4,Z1,Zo,b,rfl,hM⟩;dsimp only;have hr:=h.rlen;refine dK (dX (by simp;omega)) ?_;have h3:∀e:DEn,kU n (q+1) code ss dt bs Z4 Z1 Zo ck' rn' Yq d' Zg UB Zh qs' (List.append rec [e]) js':=λe=>⟨h2.prog,hM,h2.outs,h2.lock,by rw[ft];simp;omega,h2.jlen⟩
 (with_reducible refine dJ (λZ'=>?_) λZ'=>?_)
 ·refine (LT (h3 _) hn (by omega) ⟨by decide,by decide⟩).bind ?_;rintro _ ⟨Ub,Uz,ts3,ck3,rn3,ins3,d3,os3,us3,ow3,qs3,U9,js3,rfl,h4⟩;exact Ok.ret ⟨_,_,_,_,_,_,_,_,_,_,_,_,_,rfl,h4⟩
 ·have h4:=h3 (2,(i:Int),0,(i:Int),1,trap,count,pc,call,args,data,t,v,rg,o,dat,sp,w);exact Ok.ret ⟨_,_,_,_,_,_,_,_,_,_,_,_,_,rfl,h4.prog,h4.mach,h4.outs,h4.lock,by have:=h4.rlen;omega,h4.jlen⟩
theorem Fa{n:Int}{q:Nat}{code:List DIn}{ss:List Int}{dt:List (List Int)}{bs:List Int}{key:Int}{cs:List DCe}{ls:List DLn}{ts:List DTh}{ck rn:List Int}{ins:List (List Int)}{d:List (List DCn)}{os:List DOp}{us:List DOu}{ow:List Int}{qs:List (List Int)}{rec:List DEn}{js:List Int}{i:Nat}(h:kU n q code ss dt bs cs ls ts ck rn ins d os us ow qs rec js) (hi:i < 4) (hn:n<=1099511627776) (hq:q<=800) :
 Ok (lq (i:Int) code ss dt bs key cs ls ts ck rn ins d os us ow qs rec js) (Tv n key (q+8) code ss dt bs):=by
 unfold lq;delta dN
 try dsimp only
 refine (Rz h.lock).bind ?_;rintro _ ⟨Zh,qs',nx,rfl,hl,hn4,W5⟩;dsimp only
 refine Ok.loop (P:=λs'=>∃k:Nat,∃cs ls ts rec,s'=((i:Int),(nx.length:Int),(k:Int),code,ss,dt,bs,key,cs,ls,ts,ck,rn,ins,d,os,us,Zh,qs',rec,js,nx,())/\k<=nx.length/\kU n (q+k) code ss dt bs cs ls ts ck rn ins d os us Zh qs' rec js)
  (R:=λr=>∃a b f cs ls ts rec,r=((i:Int),a,b,f,code,ss,dt,bs,key,cs,ls,ts,ck,rn,ins,d,os,us,Zh,qs',rec,js,nx,())/\kU n (q+4) code ss dt bs cs ls ts ck rn ins d os us Zh qs' rec js) (m:=λs'=>(s'.2.1 - s'.2.2.1).toNat)
  ⟨0,cs,ls,ts,rec,rfl,by omega,h.prog,h.mach,h.outs,hl,by have:=h.rlen;omega,h.jlen⟩ (by unfold NN;dsimp only;omega) ?_ ?_
 ·rintro _ ⟨k,Vy,V8,ts2,WR,rfl,hk,h2⟩;unfold se;dsimp only
  (with_reducible refine dJ (λZ'=>?_) λZ'=>?_)
  ·obtain⟨x,hx⟩:∃x,nx[k]?=some x:=⟨_,oGE (by omega)⟩;simp only[dO,oBS,show dM nx k=some x from hx];refine (Jo h2 hn (by omega) ⟨by decide,by decide⟩).bind ?_;rintro _ ⟨Ub,Uz,ts3,U9,rfl,h3⟩;dsimp only;rw[dS (x:=(k:Int)+1) (by omega) (by omega)];exact Ok.ret ⟨⟨k+1,_,_,_,_,rfl,by omega,h3⟩,by dsimp only;omega⟩
  ·exact Ok.ret ⟨_,_,_,_,_,_,_,rfl,h2.prog,h2.mach,h2.outs,h2.lock,by have:=h2.rlen;omega,h2.jlen⟩
 rintro _ ⟨a,b,f,Vy,V8,ts2,WR,rfl,h2⟩;dsimp only
 refine Ok.loop (P:=λs'=>∃k:Nat,∃cs ls ts rec js,s'=((i:Int),4,(k:Int),code,ss,dt,bs,key,cs,ls,ts,ck,rn,ins,d,os,us,Zh,qs',rec,js,())/\k<=4/\kU n (q+4+k) code ss dt bs cs ls ts ck rn ins d os us Zh qs' rec js)
  (R:=λr=>∃a b c f cs ls ts rec js,r=(a,b,c,f,code,ss,dt,bs,key,cs,ls,ts,ck,rn,ins,d,os,us,Zh,qs',rec,js,())/\kU n (q+8) code ss dt bs cs ls ts ck rn ins d os us Zh qs' rec js) (m:=λs'=>(s'.2.1 - s'.2.2.1).toNat)
  ⟨0,Vy,V8,ts2,WR,js,by rw[h.jlen];rfl,by omega,h2⟩ (by unfold NN;dsimp only;have:=h.jlen;omega) ?_ ?_
 ·rintro _ ⟨k,Vy,V8,ts2,WR,A',rfl,hk,h2⟩;unfold sd;dsimp only
  (with_reducible refine dJ (λZ'=>?_) λZ'=>?_)
  ·obtain⟨x,hx⟩:∃x,A'[k]?=some x:=⟨_,oGE (by have:=h2.jlen;omega)⟩;obtain⟨t,ht⟩:∃t,ts2[i]?=some t:=⟨_,oGE (by have:=h2.mach.tlen;omega)⟩;have htc:=(h2.mach.thr t (dR ht)).code;simp only[dO,oBS,show dM A' k=some x from hx,show dM ts2 i=some t from ht];refine Ok.bind (P:=λr=>∃cs ls ts rec js,r=((i:Int),4,(k:Int),code,ss,dt,bs,key,cs,ls,ts,ck,rn,ins,d,os,us,Zh,qs',rec,js,())/\kU n (q+4+(k+1)) code ss dt bs cs ls ts ck rn ins d os us Zh qs' rec js) ?_ ?_
   ·(with_reducible refine dJ (λZ3=>?_) λZ3=>?_)
    ·refine (Jo h2 hn (by omega) htc).bind ?_;rintro _ ⟨Ub,Uz,ts3,U9,rfl,h3⟩;simp only[dO,oBS,show dM A' k=some x from hx,eG hx];exact Ok.ret ⟨_,_,_,_,_,rfl,h3.prog,h3.mach,h3.outs,h3.lock,by have:=h3.rlen;omega,by rw[List.length_set];exact h3.jlen⟩
    ·exact Ok.ret ⟨_,_,_,_,_,rfl,h2.prog,h2.mach,h2.outs,h2.lock,by have:=h2.rlen;omega,h2.jlen⟩
   ·rintro _ ⟨Ub,Uz,ts3,U9,js3,rfl,h3⟩;dsimp only;rw[dS (x:=(k:Int)+1) (by omega) (by omega)];exact Ok.ret ⟨⟨k+1,_,_,_,_,_,rfl,by omega,h3⟩,by dsimp only;omega⟩
  ·exact Ok.ret ⟨_,_,_,_,_,_,_,_,_,rfl,h2.prog,h2.mach,h2.outs,h2.lock,by have:=h2.rlen;omega,h2.jlen⟩
 ·rintro _ ⟨a,b,c,f,Vy,V8,ts2,WR,A',rfl,h2⟩;exact Ok.ret ⟨_,_,_,_,_,_,_,_,_,_,_,_,_,rfl,h2⟩
def Tz(n key:Int) (q:Nat) (code:List DIn) (ss:List Int) (dt:List (List Int)) (bs:List Int) (r:(List DIn)×(List (Int))×(List (List (Int)))×(List (Int))×Int×(List DCe)×(List DLn)×(List DTh)×(List (Int))×(List (Int))×(List (List (Int)))×(List (List DCn))×(List DOp)×(List DOu)×(List (Int))×(List (List (Int)))×(List DEn)×(List (Int))×Int×Unit):Prop:=
 (∃e,r=([],[],[],[],0,[],[],[],[],[],[],[],[],[],[],[],[],[],e,())/\e≠0)\/(∃cs ls ts ck rn ins d os us ow qs rec js,r=(code,ss,dt,bs,key,cs,ls,ts,ck,rn,ins,d,os,us,ow,qs,rec,js,0,())/\kU n q code ss dt bs cs ls ts ck rn ins d os us ow qs rec js)
theorem I5{code:List DIn}{ss:List Int}{dt:List (List Int)}{bs:List Int}{key:Int}{cs:List DCe}{ls:List DLn}{ts:List DTh}{ck rn:List Int}{ins:List (List Int)}{d:List (List DCn)}{os:List DOp}{us:List DOu}{ow:List Int}{qs:List (List Int)}{rec:List DEn}{js:List Int}(h1:rec.length<=1000) (h2:js.length<=1000):mI code ss dt bs key cs ls ts ck rn ins d os us ow qs rec js=some (code,ss,dt,bs,key,cs,ls,ts,ck,rn,ins,d,os,us,ow,qs,rec,js,()):=by
 unfold mI;rw[dX (show 8<=1000/\0+js.length<=1000000 by omega),dX (show 184<=1000/\0+rec.length<=1000000 by omega)];rfl
set_option maxHeartbeats 4000000 in
theorem M8{n:Int}{q:Nat}{code:List DIn}{ss:List Int}{dt:List (List Int)}{bs:List Int}{key:Int}{cs:List DCe}{ls:List DLn}{ts:List DTh}{ck rn:List Int}{ins:List (List Int)}{d:List (List DCn)}{os:List DOp}{us:List DOu}{ow:List Int}{qs:List (List Int)}{rec:List DEn}{js:List Int}{c1 c2:Int}{c3:Bool}(h:kU n q code ss dt bs cs ls ts ck rn ins d os us ow qs rec js) (X8:0<=n) (hn:n+64<=1099511627776) (hq:q<=700) (ZW:HN c1) (ZP:HN c2) :
 Ok (pt code ss dt bs key cs ls ts ck rn ins d os us ow qs rec js c1 c2 c3) (Tz (n+64) key (q+12) code ss dt bs):=by
 have XC:=h.mach.tlen;have hr:=h.rlen;unfold pt;delta dN;rw[OY (by omega)];simp only[oBS];have WE:=Df ts 0
 (with_reducible refine dJ (λZ'=>?_) λZ'=>?_)
 ·exact Ok.ret (.inl ⟨15,rfl,by decide⟩)
 (with_reducible refine dJ (λZ3=>?_) λZ3=>?_)
 ·exact Ok.ret (.inl ⟨3,rfl,by decide⟩)
 refine Sz ZW (by omega) (by omega) λv v0 v1=>?_;dsimp only;obtain⟨k,rfl⟩:∃k:Nat,v=k:=⟨v.toNat,by omega⟩;obtain⟨x,hx⟩:∃x,(jn ts 0)[k]?=some x:=⟨_,oGE (by omega)⟩;obtain⟨x0,x1,_⟩:=KR (dR hx);obtain⟨i,rfl⟩:∃i:Nat,x=i:=⟨x.toNat,by omega⟩
 have hi:i < 4:=by omega
 simp only[dO,oBS,show dM (jn ts 0) k=some (i:Int) from hx];refine Sz ZP (by decide) (by decide) λu u0 u1=>?_;dsimp only;rw[dS (x:=1+u) (by omega) (by omega),I5 (by omega) (by have:=h.jlen;omega)]
 have hk:1<=1+u/\1+u<=64:=by omega
 generalize 1+u=kk at hk;simp only[oBS]
 cases c3 with
 | false=>
  simp only[oCF];have h2:kU n (q+1) code ss dt bs cs ls ts ck rn ins d os us ow qs rec js:=⟨h.prog,h.mach,h.outs,h.lock,by omega,h.jlen⟩;have htl2:=h2.mach.tlen;refine (As h2.prog h2.mach X8 hn hi hk).bind ?_;rintro _ ⟨Ub,Uz,t3,stop,trap,call,args,data,rfl,VU,WJ,WC,hask,_⟩;dsimp only;have Yh:=h2.rlen;have Vf:=(h2.mach.mono (show n<=n+64 by omega)).set VU (i:=i) WJ;refine dK (dX (by simp;omega)) ?_;refine Ok.bind (P:=λr=>∃cs ls ts ck rn ins d os us ow qs rec js,r=((i:Int),(),(),(),(),0,(),(),(),(),(),(),(),(),(),(),(),(),(),code,ss,dt,bs,key,cs,ls,ts,ck,rn,ins,d,os,us,ow,qs,rec,js,())/\kU (n+64) (q+4) code ss dt bs cs ls ts ck rn ins d os us ow qs rec js) ?_ ?_
  ·by_cases hs1:stop=1
   ·subst hs1;simp only[BEq.rfl,oCT];refine (BB (q:=q+2) ⟨h2.prog,Vf,h2.outs,h2.lock,by rw[ft];simp;omega,h2.jlen⟩ hi (by omega) hn (by omega) WC).bind ?_;rintro _ ⟨cs4,I',P',ck4,O',WQ,d4,J',Q',M',N0,WS,B',rfl,h4⟩;exact Ok.ret ⟨_,_,_,_,_,_,_,_,_,_,_,_,_,rfl,h4⟩
   ·simp only[oBF hs1,oCF];exact Ok.ret ⟨_,_,_,_,_,_,_,_,_,_,_,_,_,rfl,h2.prog,Vf,h2.outs,h2.lock,by rw[ft];simp;omega,h2.jlen⟩
  rintro _ ⟨cs,ls,ts,ck,rn,ins,d,os,us,ow,qs,rec,js,rfl,h5⟩;dsimp only;obtain⟨t5,ht5⟩:∃t5,ts[i]?=some t5:=⟨_,oGE (by have:=h5.mach.tlen;omega)⟩;simp only[dO,oBS,show dM ts i=some t5 from ht5];refine Ok.bind (P:=λr=>∃cs ls ts ck rn ins d os us ow qs rec js,r=((),(),(),(),0,(),(),(),(),(),(),(),(),(),(),(),(),(),code,ss,dt,bs,key,cs,ls,ts,ck,rn,ins,d,os,us,ow,qs,rec,js,())/\kU (n+64) (q+12) code ss dt bs cs ls ts ck rn ins d os us ow qs rec js) ?_ ?_
  ·(with_reducible refine dJ (λWq=>?_) λWq=>?_)
   ·refine (Fa h5 hi (by omega) (by omega)).bind ?_;rintro _ ⟨cs4,I',P',ck4,O',WQ,d4,J',Q',M',N0,WS,B',rfl,h4⟩;exact Ok.ret ⟨_,_,_,_,_,_,_,_,_,_,_,_,_,rfl,h4⟩
   ·exact Ok.ret ⟨_,_,_,_,_,_,_,_,_,_,_,_,_,rfl,h5.prog,h5.mach,h5.outs,h5.lock,by have:=h5.rlen;omega,h5.jlen⟩
  rintro _ ⟨cs,ls,ts,ck,rn,ins,d,os,us,ow,qs,rec,js,rfl,h6⟩;exact Ok.ret (.inr ⟨_,_,_,_,_,_,_,_,_,_,_,_,_,rfl,h6⟩)
 | true=>
  simp only[oCT];obtain⟨⟨b,_⟩,eC,_⟩:=Qd (key:=key) h.mach (i:Int);simp only[eC,oBS]
  cases b with
  | false=>
   simp only[oCF];have h2:kU n (q+1) code ss dt bs cs ls ts ck rn ins d os us ow qs rec js:=⟨h.prog,h.mach,h.outs,h.lock,by omega,h.jlen⟩;have htl2:=h2.mach.tlen;refine (As h2.prog h2.mach X8 hn hi hk).bind ?_;rintro _ ⟨Ub,Uz,t3,stop,trap,call,args,data,rfl,VU,WJ,WC,hask,_⟩;dsimp only;have Yh:=h2.rlen;have Vf:=(h2.mach.mono (show n<=n+64 by omega)).set VU (i:=i) WJ;refine dK (dX (by simp;omega)) ?_;refine Ok.bind (P:=λr=>∃cs ls ts ck rn ins d os us ow qs rec js,r=((i:Int),(),(),(),(),0,(),(),(),(),(),(),(),(),(),(),(),(),(),code,ss,dt,bs,key,cs,ls,ts,ck,rn,ins,d,os,us,ow,qs,rec,js,())/\kU (n+64) (q+4) code ss dt bs cs ls ts ck rn ins d os us ow qs rec js) ?_ ?_
   ·by_cases hs1:stop=1
    ·subst hs1;simp only[BEq.rfl,oCT];refine (BB (q:=q+2) ⟨h2.prog,Vf,h2.outs,h2.lock,by rw[ft];simp;omega,h2.jlen⟩ hi (by omega) hn (by omega) WC).bind ?_;rintro _ ⟨cs4,I',P',ck4,O',WQ,d4,J',Q',M',N0,WS,B',rfl,h4⟩;exact Ok.ret ⟨_,_,_,_,_,_,_,_,_,_,_,_,_,rfl,h4⟩
    ·simp only[oBF hs1,oCF];exact Ok.ret ⟨_,_,_,_,_,_,_,_,_,_,_,_,_,rfl,h2.prog,Vf,h2.outs,h2.lock,by rw[ft];simp;omega,h2.jlen⟩
   rintro _ ⟨cs,ls,ts,ck,rn,ins,d,os,us,ow,qs,rec,js,rfl,h5⟩;dsimp only;obtain⟨t5,ht5⟩:∃t5,ts[i]?=some t5:=⟨_,oGE (by have:=h5.mach.tlen;omega)⟩;simp only[dO,oBS,show dM ts i=some t5 from ht5];refine Ok.bind (P:=λr=>∃cs ls ts ck rn ins d os us ow qs rec js,r=((),(),(),(),0,(),(),(),(),(),(),(),(),(),(),(),(),(),code,ss,dt,bs,key,cs,ls,ts,ck,rn,ins,d,os,us,ow,qs,rec,js,())/\kU (n+64) (q+12) code ss dt bs cs ls ts ck rn ins d os us ow qs rec js) ?_ ?_
   ·(with_reducible refine dJ (λWq=>?_) λWq=>?_)
    ·refine (Fa h5 hi (by omega) (by omega)).bind ?_;rintro _ ⟨cs4,I',P',ck4,O',WQ,d4,J',Q',M',N0,WS,B',rfl,h4⟩;exact Ok.ret ⟨_,_,_,_,_,_,_,_,_,_,_,_,_,rfl,h4⟩
    ·exact Ok.ret ⟨_,_,_,_,_,_,_,_,_,_,_,_,_,rfl,h5.prog,h5.mach,h5.outs,h5.lock,by have:=h5.rlen;omega,h5.jlen⟩
   rintro _ ⟨cs,ls,ts,ck,rn,ins,d,os,us,ow,qs,rec,js,rfl,h6⟩;exact Ok.ret (.inr ⟨_,_,_,_,_,_,_,_,_,_,_,_,_,rfl,h6⟩)
  | true=>
   obtain⟨_,eD,Zo,b',rfl,hD⟩:=Lv (key:=key) h.mach (i:Int);simp only[oCT,eD,oBS];rw[dX (show 184<=1000/\rec.length + _<=1000000 by simp;omega)];simp only[oCT];have h2:kU n (q+1) code ss dt bs cs ls Zo ck rn ins d os us ow qs (List.append rec [(3,(i:Int),0,0,0,0,0,0,0,[],[],0,0,0,0,[],0,false)]) js:=⟨h.prog,hD,h.outs,h.lock,by rw[ft];simp;omega,h.jlen⟩;have htl2:=h2.mach.tlen;refine (As h2.prog h2.mach X8 hn hi hk).bind ?_;rintro _ ⟨Ub,Uz,t3,stop,trap,call,args,data,rfl,VU,WJ,WC,hask,_⟩;dsimp only;have Yh:=h2.rlen;have Vf:=(h2.mach.mono (show n<=n+64 by omega)).set VU (i:=i) WJ;refine dK (dX (by simp;omega)) ?_;refine Ok.bind (P:=λr=>∃cs ls ts ck rn ins d os us ow qs rec js,r=((i:Int),(),(),(),(),0,(),(),(),(),(),(),(),(),(),(),(),(),(),code,ss,dt,bs,key,cs,ls,ts,ck,rn,ins,d,os,us,ow,qs,rec,js,())/\kU (n+64) (q+4) code ss dt bs cs ls ts ck rn ins d os us ow qs rec js) ?_ ?_
   ·by_cases hs1:stop=1
    ·subst hs1;simp only[BEq.rfl,oCT];refine (BB (q:=q+2) ⟨h2.prog,Vf,h2.outs,h2.lock,by rw[ft];simp;omega,h2.jlen⟩ hi (by omega) hn (by omega) WC).bind ?_;rintro _ ⟨cs4,I',P',ck4,O',WQ,d4,J',Q',M',N0,WS,B',rfl,h4⟩;exact Ok.ret ⟨_,_,_,_,_,_,_,_,_,_,_,_,_,rfl,h4⟩
    ·simp only[oBF hs1,oCF];exact Ok.ret ⟨_,_,_,_,_,_,_,_,_,_,_,_,_,rfl,h2.prog,Vf,h2.outs,h2.lock,by rw[ft];simp;omega,h2.jlen⟩
   rintro _ ⟨cs,ls,ts,ck,rn,ins,d,os,us,ow,qs,rec,js,rfl,h5⟩;dsimp only;obtain⟨t5,ht5⟩:∃t5,ts[i]?=some t5:=⟨_,oGE (by have:=h5.mach.tlen;omega)⟩;simp only[dO,oBS,show dM ts i=some t5 from ht5];refine Ok.bind (P:=λr=>∃cs ls ts ck rn ins d os us ow qs rec js,r=((),(),(),(),0,(),(),(),(),(),(),(),(),(),(),(),(),(),code,ss,dt,bs,key,cs,ls,ts,ck,rn,ins,d,os,us,ow,qs,rec,js,())/\kU (n+64) (q+12) code ss dt bs cs ls ts ck rn ins d os us ow qs rec js) ?_ ?_
   ·(with_reducible refine dJ (λWq=>?_) λWq=>?_)
    ·refine (Fa h5 hi (by omega) (by omega)).bind ?_;rintro _ ⟨cs4,I',P',ck4,O',WQ,d4,J',Q',M',N0,WS,B',rfl,h4⟩;exact Ok.ret ⟨_,_,_,_,_,_,_,_,_,_,_,_,_,rfl,h4⟩
    ·exact Ok.ret ⟨_,_,_,_,_,_,_,_,_,_,_,_,_,rfl,h5.prog,h5.mach,h5.outs,h5.lock,by have:=h5.rlen;omega,h5.jlen⟩
   rintro _ ⟨cs,ls,ts,ck,rn,ins,d,os,us,ow,qs,rec,js,rfl,h6⟩;exact Ok.ret (.inr ⟨_,_,_,_,_,_,_,_,_,_,_,_,_,rfl,h6⟩)
theorem Nl{l ss:List Int}{k:Int}(hs:yh ss) (h:DOk l k):Ok (n5 ss l k) λr=>∃bs key k',r=(bs,key,l,k',())/\LV bs ss/\W16 key/\DOk l k':=by
 unfold n5
 (with_reducible refine fO (by omega) (by omega) (by omega) (λv0 k0 a0 b0 d0=>?_);try dsimp only)
 refine (Ri hs a0 (by omega)).bind ?_;rintro _ ⟨key,rfl,hk⟩;exact Ok.ret ⟨_,_,_,rfl,S2 hs a0,hk,d0⟩
theorem Ss{l:List Int}{k:Int}(h:DOk l k):Ok (ug l k) λr=>∃code ss dt bs key cs ls ts ck rn ins d os us ow qs rec js k',r=(code,ss,dt,bs,key,cs,ls,ts,ck,rn,ins,d,os,us,ow,qs,rec,js,l,k',())/\W16 key/\kU 1152 216 code ss dt bs cs ls ts ck rn ins d os us ow qs rec js/\DOk l k':=by
 unfold ug;refine (KW h).bind ?_;rintro _ ⟨code,ss,dt,k1,rfl,hp,h1⟩;dsimp only;refine (Nl hp.sz h1).bind ?_;rintro _ ⟨bs,key,k2,rfl,hL,X7,h2⟩;dsimp only;refine (K1 hp.sz h2).bind ?_;rintro _ ⟨ck,rn,ins,d,os,k3,rfl,hO,h3⟩;dsimp only;refine (PL hp hL hO).bind ?_;rintro _ ⟨cs,ts,rfl,hM⟩;dsimp only
 (with_reducible refine fO (by assumption) (by omega) (by omega) (λv4 k4 a4 b4 d4=>?_);try dsimp only)
 rw[dS (x:=3+v4) (by omega) (by omega)]
 obtain⟨y,e,hy⟩:=gG (f:=rp) (n:=NN) (s:=(3+v4,l,k4,(),(),(),(),0,(),(),(),(),(),(),(),(),(),(),(),(),(),code,ss,dt,bs,key,cs,fB,ts,ck,rn,ins,d,os,[],[-1,-1,-1,-1],[[],[],[],[]],[],[-1,-1,-1,-1],()))
  (P:=λs'=>∃(c k':Int) (q:Nat),∃cs ls ts ck rn ins d os us ow qs rec js,s'=(c,l,k',(),(),(),(),0,(),(),(),(),(),(),(),(),(),(),(),(),(),code,ss,dt,bs,key,cs,ls,ts,ck,rn,ins,d,os,us,ow,qs,rec,js,())/\0<=c/\c+q<=18/\DOk l k'/\kU (64*q) (12*q) code ss dt bs cs ls ts ck rn ins d os us ow qs rec js)
  (R:=λy=>(∃(c k':Int) (f:Bool) (q:Nat),∃cs ls ts ck rn ins d os us ow qs rec js z1 z2 z3 z4 z5 z6 z7 z8 z9 z10 z11 z12 z13 z14 z15 z16 z17 z18,y=.inl (c,f,l,k',(),(),(),(),0,(),(),(),(),(),(),(),(),(),(),(),(),(),code,ss,dt,bs,key,cs,ls,ts,ck,rn,ins,d,os,us,ow,qs,rec,js,z1,z2,z3,z4,z5,z6,z7,z8,z9,z10,z11,z12,z13,z14,z15,z16,z17,z18,())/\q<=18/\DOk l k'/\kU (64*q) (12*q) code ss dt bs cs ls ts ck rn ins d os us ow qs rec js) \/
   (∃(c k':Int) (f:Bool) (q:Nat),∃cs ls ts ck rn ins d os us ow qs rec js,y=.inr (c,f,l,k',(),(),(),(),0,(),(),(),(),(),(),(),(),(),(),(),(),(),code,ss,dt,bs,key,cs,ls,ts,ck,rn,ins,d,os,us,ow,qs,rec,js,())/\q<=18/\DOk l k'/\kU (64*q) (12*q) code ss dt bs cs ls ts ck rn ins d os us ow qs rec js)) (m:=λs'=>s'.1.toNat)
  ⟨3+v4,k4,0,_,_,_,_,_,_,_,_,_,_,_,_,_,rfl,by omega,by omega,d4,hp,by simpa using hM,hO,SA,by simp,rfl⟩ (by unfold NN;dsimp only;omega) (by
   rintro _ ⟨c,k',q,cs,ls,ts,ck,rn,ins,d,os,us,ow,qs,rec,js,rfl,hc0,hcq,hd,hR⟩;unfold rp;dsimp only
   (with_reducible refine dJ (λZ'=>?_) λZ'=>?_)
   ·refine (NW hd).bind ?_;rintro _ ⟨t,b,s,k5,rfl,t0,t1,b0,b1,hd5⟩;dsimp only;refine (M8 hR (by omega) (by omega) (by omega) ⟨by omega,by omega⟩ ⟨by omega,by omega⟩).bind ?_;rintro _ (⟨e,rfl,he⟩ | ⟨Vy,V8,ts2,ck2,rn2,ins2,d2,os2,us2,ow2,qs2,WR,A',rfl,hR2⟩)
    ·dsimp only;rw[bne_iff_ne.2 he];exact Ok.ret (.inl ⟨_,_,_,q,_,_,_,_,_,_,_,_,_,_,_,_,_,_,_,_,_,_,_,_,_,_,_,_,_,_,_,_,_,_,_,rfl,by omega,hd5,hR⟩)
    ·dsimp only;rw[dS (x:=c - 1) (by omega) (by omega)];refine Ok.ret ⟨⟨_,_,q+1,_,_,_,_,_,_,_,_,_,_,_,_,_,rfl,by omega,by omega,hd5,?_⟩,by dsimp only;omega⟩;rw[show 64*((q+1:Nat):Int)=64*(q:Int)+64 by omega,show 12*(q+1)=12*q+12 by omega];exact hR2
   ·exact Ok.ret (.inr ⟨_,_,_,q,_,_,_,_,_,_,_,_,_,_,_,_,_,rfl,by omega,hd,hR⟩))
 rw[e];have ZY:∀{q:Nat} {cs ls ts ck rn ins d os us ow qs rec js},q<=18->kU (64*q) (12*q) code ss dt bs cs ls ts ck rn ins d os us ow qs rec js->kU 1152 216 code ss dt bs cs ls ts ck rn ins d os us ow qs rec js:=λhq hR=>⟨hR.prog,hR.mach.mono (by omega),hR.outs,hR.lock,by have:=hR.rlen;omega,hR.jlen⟩;rcases hy with ⟨c,k',f,q,cs,ls,ts,ck,rn,ins,d,os,us,ow,qs,rec,js,z1,z2,z3,z4,z5,z6,z7,z8,z9,z10,z11,z12,z13,z14,z15,z16,z17,z18,rfl,hq,hd,hR⟩ | ⟨c,k',f,q,cs,ls,ts,ck,rn,ins,d,os,us,ow,qs,rec,js,rfl,hq,hd,hR⟩
 ·exact Ok.ret ⟨_,_,_,_,_,_,_,_,_,_,_,_,_,_,_,_,_,_,_,rfl,X7,ZY hq hR,hd⟩
 ·exact Ok.ret ⟨_,_,_,_,_,_,_,_,_,_,_,_,_,_,_,_,_,_,_,rfl,X7,ZY hq hR,hd⟩
def P6(bs ss:List Int) (key:Int) (cs:List DCe) (ls:List DLn) (r o:Nat):DCn:=qQ bs ss key (BZ cs ls (bs.getD r 0+o))
def Og(bs ss:List Int) (key:Int) (cs:List DCe) (ls:List DLn) (r:Nat):List DCn:=(List.range (ss.getD r 0).toNat).map (P6 bs ss key cs ls r)
def xn(bs ss:List Int) (key:Int) (cs:List DCe) (ls:List DLn):List (List DCn):=(List.range ss.length).map (Og bs ss key cs ls)
def o8(bs ss:List Int) (key:Int) (t:DTh):DTs:=(t.1,t.2.2.1,t.2.2.2.1,t.2.2.2.2.1,t.2.2.2.2.2.1,t.2.2.2.2.2.2.1,t.2.2.2.2.2.2.2,t.2.1.map (qQ bs ss key))
theorem LV.at_{bs ss:List Int}(h:LV bs ss) {r:Nat}(hr:r < ss.length):∃b z,bs[r]?=some b/\ss[r]?=some z/\1<=z/\z<=32/\0<=b/\b+z<=512:=by
 have ⟨hs,hl,hg⟩:=h;have ⟨z,hz⟩:∃z,ss[r]?=some z:=⟨_,oGE (by omega)⟩;have h1:=hg r (by omega);unfold yi at h1;have h2:=hs.2.2 z (dR hz)
 simp_all
theorem KQ{K:Int->Prop}{bs ss:List Int}{key:Int}{cs:List DCe}{ls:List DLn}(h:LV bs ss) (hm:lh K cs ls):lG cs ls bs key ss=some (xn bs ss key cs ls,()):=by
 have XA:=h.1.2.1
 have e0:∀(r:Nat) (b z:Int),bs[r]?=some b->ss[r]?=some z->1<=z->z<=32->0<=b->b+z<=512->∀(a1 a2 a3:_) (out:List (List DCn)),dU hZ NN (ss,(r:Int),a1,a2,a3,z,0,cs,ls,bs,key,out,[],())=some (ss,(r:Int),a1,a2,a3,z,z,false,cs,ls,bs,key,out,Og bs ss key cs ls r,()):=by
  intro r b z hb hz z1 Va b0 bz a1 a2 a3 out;obtain⟨n,rfl⟩:∃n:Nat,z=n:=⟨z.toNat,by omega⟩
  have e:Og bs ss key cs ls r=(List.range n).map (P6 bs ss key cs ls r):=by unfold Og;rw[ew hz,oTN]
  rw[e];refine mW (f:=hZ) (N:=NN) (st:=λo=>(ss,(r:Int),a1,a2,a3,(n:Int),(o:Int),cs,ls,bs,key,out,(List.range o).map (P6 bs ss key cs ls r),())) (n:=n) (by unfold NN;omega) ?_ ?_
  ·intro o ho;unfold hZ;dsimp only;rw[oDT (show (o:Int) < n by omega),dO];simp only[oCT,oBS,show dM bs r=some b from hb];rw[dS (x:=b+o) (by omega) (by omega)];obtain⟨Uo,Vj⟩:=AJ (a:=b+o) hm ⟨by omega,by omega⟩;rw[Uo];simp only[oBS];rw[ur h Vj];simp only[oBS];refine dK (dX (by simp;omega)) ?_;rw[dS (x:=(o:Int)+1) (by omega) (by omega)];refine Ok.ret ?_;rw[<- km];unfold P6;rw[ew hb];rfl
  ·unfold hZ;dsimp only;rw[oDF (show ¬ (n:Int) < n by omega)];exact Ok.ret rfl
 have e1:dU hY NN (ss,ss,(ss.length:Int),0,cs,ls,bs,key,[],())=some (ss,ss,(ss.length:Int),(ss.length:Int),false,cs,ls,bs,key,xn bs ss key cs ls,()):=by
  refine mW (f:=hY) (N:=NN) (st:=λr=>(ss,ss,(ss.length:Int),(r:Int),cs,ls,bs,key,(List.range r).map (Og bs ss key cs ls),())) (n:=ss.length) (by unfold NN;omega) ?_ ?_
  ·intro r hr;obtain⟨b,z,hb,hz,z1,Va,b0,bz⟩:=h.at_ hr;unfold hY;dsimp only;rw[oDT (show (r:Int) < ss.length by omega),dO];simp only[oCT,oBS,show dM ss r=some z from hz];rw[e0 r b z hb hz z1 Va b0 bz];refine dK (dX (by simp;omega)) ?_;rw[dS (x:=(r:Int)+1) (by omega) (by omega)];refine Ok.ret ?_;rw[<- km];rfl
  ·unfold hY;dsimp only;rw[oDF (show ¬ (ss.length:Int) < ss.length by omega)];exact Ok.ret rfl
 unfold lG;delta dN
 simp_all
theorem Jv{n key:Int}{code:List DIn}{dt:List (List Int)}{bs ss:List Int}{cs:List DCe}{ls:List DLn}{ts:List DTh}(h:MOk n ss bs cs ls ts):lA code ss dt bs key cs ls ts=some (xn bs ss key cs ls,ts.map (o8 bs ss key),()):=by
 have h4:=h.tlen
 have e1:dU i6 NN (ts,(ts.length:Int),0,code,ss,dt,bs,key,cs,ls,ts,(),(),xn bs ss key cs ls,[],())=some (ts,(ts.length:Int),(ts.length:Int),false,code,ss,dt,bs,key,cs,ls,ts,(),(),xn bs ss key cs ls,ts.map (o8 bs ss key),()):=by
  have:=mW (f:=i6) (N:=NN) (st:=λr=>(ts,(ts.length:Int),(r:Int),code,ss,dt,bs,key,cs,ls,ts,(),(),xn bs ss key cs ls,(ts.take r).map (o8 bs ss key),())) (n:=ts.length) (t:=(ts,(ts.length:Int),(ts.length:Int),false,code,ss,dt,bs,key,cs,ls,ts,(),(),xn bs ss key cs ls,ts.map (o8 bs ss key),())) (by unfold NN;omega) ?_ ?_
  ·exact this
  ·intro r hr;obtain⟨t,ht⟩:∃t,ts[r]?=some t:=⟨_,oGE (by omega)⟩;have hok:=h.thr t (dR ht);have h8:=hok.len;unfold i6;delta dN;dsimp only;rw[oDT (show (r:Int) < ts.length by omega),dO];simp only[oCT,oBS,show dM ts r=some t from ht]
   have e0:∀(a1 a2 a3 a4 a5 a6 a7 a8 a9 a10 a11 a12 a13 a14:_),dU i7 NN (ts,(ts.length:Int),(r:Int),t.2.1,(t.2.1.length:Int),0,code,ss,dt,bs,key,cs,ls,ts,(),(),xn bs ss key cs ls,(ts.take r).map (o8 bs ss key),a1,t.2.1,a2,a3,a4,a5,a6,a7,a8,a9,a10,a11,a12,a13,a14,[],()) =
    some (ts,(ts.length:Int),(r:Int),t.2.1,(t.2.1.length:Int),(t.2.1.length:Int),false,code,ss,dt,bs,key,cs,ls,ts,(),(),xn bs ss key cs ls,(ts.take r).map (o8 bs ss key),a1,t.2.1,a2,a3,a4,a5,a6,a7,a8,a9,a10,a11,a12,a13,a14,t.2.1.map (qQ bs ss key),()):=by
    intro a1 a2 a3 a4 a5 a6 a7 a8 a9 a10 a11 a12 a13 a14
    have:=mW (f:=i7) (N:=NN) (st:=λo=>(ts,(ts.length:Int),(r:Int),t.2.1,(t.2.1.length:Int),(o:Int),code,ss,dt,bs,key,cs,ls,ts,(),(),xn bs ss key cs ls,(ts.take r).map (o8 bs ss key),a1,t.2.1,a2,a3,a4,a5,a6,a7,a8,a9,a10,a11,a12,a13,a14,(t.2.1.take o).map (qQ bs ss key),())) (n:=t.2.1.length)
     (t:=(ts,(ts.length:Int),(r:Int),t.2.1,(t.2.1.length:Int),(t.2.1.length:Int),false,code,ss,dt,bs,key,cs,ls,ts,(),(),xn bs ss key cs ls,(ts.take r).map (o8 bs ss key),a1,t.2.1,a2,a3,a4,a5,a6,a7,a8,a9,a10,a11,a12,a13,a14,t.2.1.map (qQ bs ss key),())) (by unfold NN;omega) ?_ ?_
    ·exact this
    ·intro o ho;obtain⟨c,hc⟩:∃c,t.2.1[o]?=some c:=⟨_,oGE ho⟩;unfold i7;dsimp only;rw[oDT (show (o:Int) < t.2.1.length by omega),dO];simp only[oCT,oBS,show dM t.2.1 o=some c from hc];rw[ur h.lay (hok.regs c (dR hc))];refine dK (dX (by simp;omega)) ?_;rw[dS (x:=(o:Int)+1) (by omega) (by omega)];refine Ok.ret ?_;rw[<- gy (qQ bs ss key) hc];rfl
    ·unfold i7;dsimp only;rw[oDF (show ¬ (t.2.1.length:Int) < t.2.1.length by omega),List.take_length];exact Ok.ret rfl
   rw[e0];simp only[oBS];refine dK (dX (by simp;omega)) ?_;rw[dS (x:=(r:Int)+1) (by omega) (by omega)];refine Ok.ret ?_;rw[<- gy (o8 bs ss key) ht];rfl
  ·unfold i6;dsimp only;rw[oDF (show ¬ (ts.length:Int) < ts.length by omega),List.take_length];exact Ok.ret rfl
 unfold lA;delta dN;simp only[KQ h.lay h.mem,oBS]
 simp_all
structure Tu (n:Int) (ss:List Int) (v:DTs):Prop where
 state:0<=v.1/\v.1<=4
 pc:0<=v.2.1/\v.2.1<=255
 count:0<=v.2.2.1/\v.2.2.1<=n
 handler:-1<=v.2.2.2.1/\v.2.2.2.1<=255
 saved:-1<=v.2.2.2.2.1/\v.2.2.2.2.1<=255
 trap:0<=v.2.2.2.2.2.1/\v.2.2.2.2.2.1<=6
 code:W16 v.2.2.2.2.2.2.1
 len:v.2.2.2.2.2.2.2.length=8
 regs:∀c∈v.2.2.2.2.2.2.2,Pr ss c
structure Dz (n:Int) (ss:List Int) (rg:List (List DCn)) (vs:List DTs):Prop where
 rlen:rg.length=ss.length
 fit:∀(j:Nat) x z,rg[j]?=some x->ss[j]?=some z->(x.length:Int)=z
 cells:∀x∈rg,∀c∈x,Pr ss c
 vlen:vs.length=4
 views:∀v∈vs,Tu n ss v
theorem Ju{n key:Int}{bs ss:List Int}{cs:List DCe}{ls:List DLn}{ts:List DTh}(h:MOk n ss bs cs ls ts):Dz n ss (xn bs ss key cs ls) (ts.map (o8 bs ss key)):=by
 refine⟨by unfold xn;simp,λj x z hx hz=>?_,λx hx c hc=>?_,by rw[List.length_map];exact h.tlen,λv hv=>?_⟩
 ·unfold xn at hx;rw[List.getElem?_map,List.getElem?_range (oGS hz).1] at hx
  injection hx with hx
  subst hx;have:=(h.lay.1.2.2 z (dR hz)).1;unfold Og;rw[List.length_map,List.length_range,ew hz];omega
 ·unfold xn at hx;obtain⟨r,hr,rfl⟩:=List.mem_map.1 hx;have hr:=List.mem_range.1 hr;have ⟨b,z,hb,hz,z1,Va,b0,bz⟩:=h.lay.at_ hr;obtain⟨o,ho,rfl⟩:=List.mem_map.1 hc;have ho:=List.mem_range.1 ho;rw[ew hz] at ho;unfold P6;rw[ew hb];exact Fj h.lay (AJ h.mem ⟨by omega,by omega⟩).2
 ·obtain⟨t,ht,rfl⟩:=List.mem_map.1 hv;have hok:=h.thr t ht;refine⟨hok.state,hok.pc,hok.count,hok.handler,hok.saved,hok.trap,hok.code,by unfold o8;dsimp only;rw[List.length_map];exact hok.len,λc hc=>?_⟩;obtain⟨c',YB,rfl⟩:=List.mem_map.1 hc;exact Fj h.lay (hok.regs c' YB)
theorem LX{l:List Int}(h:∀x∈l,1<=x/\x<=32):(l.length:Int)<=l.sum/\l.sum<=32*l.length:=by
 induction l with
 | nil=>simp
 | cons a l ih=>
  have h1:=h a (by simp);have h2:=ih λx hx=>h x (by simp[hx]);rw[List.sum_cons,oLC];omega
theorem RA{l:List Int}{k:Nat}{x:Int}(h:l[k]?=some x):l.drop k=x :: l.drop (k+1):=by
 obtain⟨hk,rfl⟩:=oGS h
 simp_all
theorem Oo{ss:List Int}(h:yh ss):nX ss=some (ss.sum,()):=by
 have e:dU ja NN (0,ss,(ss.length:Int),0,())=some (ss.sum,ss,(ss.length:Int),(ss.length:Int),false,()):=by
  have:=mW (f:=ja) (N:=NN) (st:=λk=>((ss.take k).sum,ss,(ss.length:Int),(k:Int),())) (n:=ss.length) (t:=(ss.sum,ss,(ss.length:Int),(ss.length:Int),false,())) (by unfold NN;have:=h.2.1;omega) ?_ ?_
  ·exact this
  ·intro k hk;obtain⟨x,hx⟩:∃x,ss[k]?=some x:=⟨_,oGE hk⟩;have Yp:=h.2.2 x (dR hx);have hb:=LX (l:=ss.take k) λy hy=>h.2.2 y (List.mem_of_mem_take hy);have hl:=h.2.1;rw[oLT] at hb;unfold ja;dsimp only;rw[oDT (show (k:Int) < ss.length by omega),dO];simp[show dM ss k=some x from hx];rw[dS (x:=(ss.take k).sum+x) (by omega) (by omega),dS (x:=(k:Int)+1) (by omega) (by omega)];refine Ok.ret ?_;rw[show ss.take (k+1)=ss.take k++[x] by rw[List.take_add_one,hx];rfl];simp
  ·unfold ja;dsimp only;rw[oDF (show ¬ (ss.length:Int) < ss.length by omega),List.take_length];exact Ok.ret rfl
 unfold nX;delta dN
 simp_all
theorem Tt{ss:List Int}{i:Int}(h:yh ss) (h0:0<=i) (h1:i < ss.sum):Ok (uf ss i) λr=>∃rg o,r=(rg,o,0,())/\0<=rg/\∃n,ss[rg.toNat]?=some n/\0<=o/\o < n:=by
 have hl:=h.2.1;unfold uf;delta dN
 try dsimp only
 obtain⟨y,e,rg,o,rfl,hy⟩:=gG (f:=rj) (n:=NN) (s:=(i,ss,(ss.length:Int),0,0,0,())) (P:=λs'=>∃(k:Nat) (i':Int),s'=(i',ss,(ss.length:Int),(k:Int),0,0,())/\k<=ss.length/\0<=i'/\i' < (ss.drop k).sum/\i'<=1000)
  (R:=λy=>∃rg o,y=.inl (0,rg,o,())/\0<=rg/\∃n,ss[rg.toNat]?=some n/\0<=o/\o < n) (m:=λs'=>(s'.2.2.1 - s'.2.2.2.1).toNat) ⟨0,i,rfl,by omega,h0,h1,by have:=(LX h.2.2).2;omega⟩ (by unfold NN;dsimp only;omega) (by
   rintro _ ⟨k,i',rfl,hk,i0,i1,i2⟩;unfold rj;dsimp only;by_cases hkl:k=ss.length
   ·subst hkl;simp at i1;omega
   obtain⟨x,hx⟩:∃x,ss[k]?=some x:=⟨_,oGE (by omega)⟩;have Yp:=h.2.2 x (dR hx);rw[RA hx,List.sum_cons] at i1;rw[oDT (show (k:Int) < ss.length by omega),dO];simp only[oCT,oBS,show dM ss k=some x from hx];rw[oDT (show i'>=0 from i0)];by_cases hlt:i' < x
   ·rw[oDT hlt];exact Ok.ret ⟨_,_,rfl,by omega,x,by simp_all,i0,hlt⟩
   ·rw[oDF hlt];simp;rw[dS (x:=i' - x) (by omega) (by omega),dS (x:=(k:Int)+1) (by omega) (by omega)]
    exact Ok.ret ⟨⟨k+1,_,rfl,by omega,by omega,by omega,by omega⟩,by dsimp only;omega⟩)
 rw[e];exact Ok.ret ⟨rg,o,rfl,hy⟩
theorem Kg{ss l:List Int}{k:Int}(hs:yh ss) (h:DOk l k):Ok (ni ss l k) λr=>∃t v rg o k',r=(t,v,rg,o,l,k',())/\Pr ss (t,v,rg,o)/\DOk l k':=by
 unfold ni
 (with_reducible refine fO (by omega) (by omega) (by omega) (λv0 k0 a0 b0 d0=>?_);try dsimp only)
 rw[Oo hs];simp;have hb:=LX hs.2.2;have h1:=hs.1;have h4:=hs.2.1
 (with_reducible refine dJ (λZ'=>?_) λZ'=>?_)
 ·(with_reducible refine fO (by omega) (by omega) (by omega) (λv1 k1 a1 b1 d1=>?_);try dsimp only)
  refine (Tt hs a1 b1).bind ?_;rintro _ ⟨rg,o,rfl,g1,n,g2,g3,g4⟩;exact Ok.ret ⟨_,_,_,_,_,rfl,.inr ⟨rfl,rfl,g1,n,g2,g3,g4⟩,d1⟩
 (with_reducible refine dJ (λZ3=>?_) λZ3=>?_)
 ·(with_reducible refine fO (by omega) (by omega) (by omega) (λv2 k2 a2 b2 d2=>?_);try dsimp only)
  exact Ok.ret ⟨_,_,_,_,_,rfl,P7 (oz _),d2⟩
 ·(with_reducible refine Jn (by omega) (λv3 k3 a3 b3 d3=>?_);try dsimp only)
  exact Ok.ret ⟨_,_,_,_,_,rfl,lQ ⟨by omega,by omega⟩,d3⟩
def BY(v:DTs):List DCn:=v.2.2.2.2.2.2.2
def thF(bs:List Int) (key:Int) (v:DTs):DTh:=(v.1,(BY v).map (Dg bs key),v.2.1,v.2.2.1,v.2.2.2.1,v.2.2.2.2.1,v.2.2.2.2.2.1,v.2.2.2.2.2.2.1)
theorem Fw{n:Int}{ss:List Int}{vs:List DTs}(hs:yh ss) (hl:vs.length=4) (h:∀v∈vs,Tu n ss v) (hn:n<=1099511627776):gK vs=some (true,()):=by
 have e:dU eW NN (vs,vs,(vs.length:Int),0,())=some (.inr (vs,vs,(vs.length:Int),(vs.length:Int),false,())):=by
  refine mW (f:=eW) (N:=NN) (st:=λk=>(vs,vs,(vs.length:Int),(k:Int),())) (n:=vs.length) (by unfold NN;omega) ?_ ?_
  ·intro k hk;obtain⟨v,hv⟩:∃v,vs[k]?=some v:=⟨_,oGE hk⟩;obtain⟨⟨a1,a2⟩,⟨b1,b2⟩,⟨c1,c2⟩,⟨d1,d2⟩,⟨e1,e2⟩,⟨f1,f2⟩,_,hl8,hr⟩:=h v (dR hv);unfold eW;delta dN;dsimp only;rw[oDT (show (k:Int) < vs.length by omega),dO];simp only[oCT,oBS,show dM vs k=some v from hv];rw[oDT (show v.1>=0 from a1),oDT a2,oDT (show v.2.1>=0 from b1),oDT b2,oDT (show v.2.2.1>=0 from c1),oDT (show v.2.2.1<=1099511627776 by omega),oDT (show v.2.2.2.1>=-1 from d1),oDT d2,oDT (show v.2.2.2.2.1>=-1 from e1),oDT e2,oDT (show v.2.2.2.2.2.1>=0 from f1),oDT f2];simp;rw[hl8,k9 (n:=8) hs hr (by omega) (by omega)];simp;rw[dS (x:=(k:Int)+1) (by omega) (by omega)];exact Ok.ret rfl
  ·unfold eW;dsimp only;rw[oDF (show ¬ (vs.length:Int) < vs.length by omega)];exact Ok.ret rfl
 unfold gK;delta dN
 simp_all
theorem Kw{n:Int}{code:List DIn}{ss:List Int}{dt:List (List Int)}{rg:List (List DCn)}{vs:List DTs}(hp:lf code ss dt) (h:Dz n ss rg vs) (hn:n<=1099511627776):iW code ss dt rg vs=some (true,()):=by
 have h4:=hp.sz.2.1;have hl:=h.rlen
 have e:dU fG NN (rg,(rg.length:Int),0,code,ss,dt,rg,vs,())=some (.inr (rg,(rg.length:Int),(rg.length:Int),false,code,ss,dt,rg,vs,())):=by
  refine mW (N:=NN) (st:=λk=>(rg,(rg.length:Int),(k:Int),code,ss,dt,rg,vs,())) (n:=rg.length) (by unfold NN;omega) ?_ ?_
  ·intro k hk;obtain⟨x,hx⟩:∃x,rg[k]?=some x:=⟨_,oGE hk⟩;obtain⟨z,hz⟩:∃z,ss[k]?=some z:=⟨_,oGE (by omega)⟩;have hf:=h.fit k x z hx hz;have X4:=hp.sz.2.2 z (dR hz);unfold fG;delta dN;dsimp only;rw[oDT (show (k:Int) < rg.length by omega),dO];simp only[oCT,oBS,show dM rg k=some x from hx,show dM ss k=some z from hz,hf,bne_self_eq_false,oCF];rw[k9 (n:=32) hp.sz (h.cells x (dR hx)) (by omega) (by omega)];rw[dS (x:=(k:Int)+1) (by omega) (by omega)];exact Ok.ret rfl
  ·unfold fG;dsimp only;rw[oDF (show ¬ (rg.length:Int) < rg.length by omega)];exact Ok.ret rfl
 unfold iW;delta dN;rw[Ag hp,Fw hp.sz h.vlen h.views hn]
 simp_all
theorem Lc{rg:List (List DCn)}{vs:List DTs}(h1:rg.length<=1000) (h2:vs.length<=1000):iV rg vs=some (rg++vs.map BY,()):=by
 have e:dU fF NN (vs,(vs.length:Int),0,rg,vs,rg,())=some (vs,(vs.length:Int),(vs.length:Int),false,rg,vs,rg++vs.map BY,()):=by
  have:=mW (f:=fF) (N:=NN) (st:=λk=>(vs,(vs.length:Int),(k:Int),rg,vs,rg++(vs.take k).map BY,())) (n:=vs.length) (t:=(vs,(vs.length:Int),(vs.length:Int),false,rg,vs,rg++vs.map BY,())) (by unfold NN;omega) ?_ ?_
  ·simp_all
  ·intro k hk;have ⟨v,hv⟩:∃v,vs[k]?=some v:=⟨_,oGE hk⟩;unfold fF;dsimp only;rw[oDT (show (k:Int) < vs.length by omega),dO];simp only[oCT,oBS,show dM vs k=some v from hv];refine dK (dX (by simp;omega)) ?_;rw[dS (x:=(k:Int)+1) (by omega) (by omega)];refine Ok.ret ?_;rw[<- gy BY hv,<- List.append_assoc];rfl
  ·unfold fF;dsimp only;rw[oDF (show ¬ (vs.length:Int) < vs.length by omega),List.take_length];exact Ok.ret rfl
 unfold iV;rw[dX (show 24<=1000/\0+rg.length<=1000000 by omega)];delta dN
 simp_all
theorem LV.apart{bs ss:List Int}(h:LV bs ss) {r r':Nat}{b z b' z' o o':Int}(hne:r≠r') (hb:bs[r]?=some b) (hz:ss[r]?=some z) (YP:bs[r']?=some b') (XL:ss[r']?=some z') (h0:0<=o) (h1:o < z) (h0':0<=o') (h1':o' < z'):b+o≠b'+o':=by
 have ⟨_,hl,hg⟩:=h;have l1:=(oGS hb).1;have l2:=(oGS YP).1;have g1:=hg r l1;have g2:=hg r' l2;unfold yi at g1 g2;rw[ew hb,ew hz] at g1;rw[ew YP,ew XL] at g2;by_cases hlt:r' < r
 ·have:=g1.2.2 r' hlt;rw[ew YP,ew XL] at this;omega
 ·have:=g2.2.2 r (by omega);rw[ew hb,ew hz] at this;omega
def S3(bs:List Int) (key:Int) (rg:List (List DCn)) (cs:List DCe) (r o:Nat):Prop:=∀(r' o':Nat) (x:List DCn) (c:DCn) (b:Int),rg[r']?=some x->x[o']?=some c->bs[r']?=some b->(r' < r\/(r'=r/\o' < o))->cs[(b+o').toNat]?=some (Dg bs key c)
set_option maxHeartbeats 4000000 in
theorem Nw{n key:Int}{code:List DIn}{ss bs:List Int}{dt:List (List Int)}{rg:List (List DCn)}{vs:List DTs}(hp:lf code ss dt) (hL:LV bs ss) (h:Dz n ss rg vs) (hn:n<=1099511627776) :
 Ok (mK code ss dt bs key rg vs) λr=>∃cs,r=(bs,key,cs,fB,vs.map (thF bs key),true,())/\MOk n ss bs cs fB (vs.map (thF bs key))/\S3 bs key rg cs ss.length 0:=by
 have h4:=hp.sz.2.1;have VE:=hL.2.1;have WE:=h.rlen;have YO:=h.vlen;unfold mK;delta dN;rw[Kw hp h hn,ub hL,Lc (by omega) (by omega),Kb];simp only[oBS,oNT,oCF]
 have ZN:∀x∈rg++vs.map BY,x.length<=100/\∀c∈x,Pr ss c:=by
  intro x hx;rcases List.mem_append.1 hx with hx | hx
  ·obtain⟨j,hj⟩:=List.getElem?_of_mem hx;have:=(oGS hj).1;obtain⟨z,hz⟩:∃z,ss[j]?=some z:=⟨_,oGE (by omega)⟩;have:=h.fit j x z hj hz;have:=hp.sz.2.2 z (dR hz);exact⟨by omega,h.cells x hx⟩
  ·obtain⟨v,hv,rfl⟩:=List.mem_map.1 hx;have:=h.views v hv;exact⟨by unfold BY;rw[this.len];omega,this.regs⟩
 have Xv:(rg++vs.map BY).length<=100:=by rw[List.length_append,List.length_map];omega
 generalize rg++vs.map BY=lst at ZN Xv
 have e1:dU iC NN ((lst.length:Int),0,code,ss,dt,bs,key,rg,vs,(),0,(),(),(),lst,())=some (.inr ((lst.length:Int),(lst.length:Int),false,code,ss,dt,bs,key,rg,vs,(),0,(),(),(),lst,())):=by
  refine mW (f:=iC) (N:=NN) (st:=λk=>((lst.length:Int),(k:Int),code,ss,dt,bs,key,rg,vs,(),0,(),(),(),lst,())) (n:=lst.length) (by unfold NN;omega) ?_ ?_
  ·intro k hk;obtain⟨x,hx⟩:∃x,lst[k]?=some x:=⟨_,oGE hk⟩;obtain⟨hxl,hxc⟩:=ZN x (dR hx)
   have e0:dU iD NN ((lst.length:Int),(k:Int),x,(x.length:Int),0,code,ss,dt,bs,key,rg,vs,(),0,(),(),(),lst,())=some (.inr ((lst.length:Int),(k:Int),x,(x.length:Int),(x.length:Int),false,code,ss,dt,bs,key,rg,vs,(),0,(),(),(),lst,())):=by
    refine mW (f:=iD) (N:=NN) (st:=λo=>((lst.length:Int),(k:Int),x,(x.length:Int),(o:Int),code,ss,dt,bs,key,rg,vs,(),0,(),(),(),lst,())) (n:=x.length) (by unfold NN;omega) ?_ ?_
    ·intro o ho;obtain⟨c,hc⟩:∃c,x[o]?=some c:=⟨_,oGE ho⟩;unfold iD;dsimp only;rw[oDT (show (o:Int) < x.length by omega),dO];simp only[oCT,oBS,show dM x o=some c from hc,oO (hxc c (dR hc)),oNT,oCF];rw[dS (x:=(o:Int)+1) (by omega) (by omega)];exact Ok.ret rfl
    ·unfold iD;dsimp only;rw[oDF (show ¬ (x.length:Int) < x.length by omega)];exact Ok.ret rfl
   unfold iC;delta dN;dsimp only;rw[oDT (show (k:Int) < lst.length by omega),dO];simp only[oCT,oBS,show dM lst k=some x from hx,e0];rw[dS (x:=(k:Int)+1) (by omega) (by omega)];exact Ok.ret rfl
  ·unfold iC;dsimp only;rw[oDF (show ¬ (lst.length:Int) < lst.length by omega)];exact Ok.ret rfl
 rw[e1];dsimp only;refine dK (dX (by omega)) (dK (by decide) ?_);rw[show List.append [] bs=bs from rfl]
 refine Ok.loop (P:=λs'=>∃(r:Nat),∃cs,s'=(rg,(rg.length:Int),(r:Int),code,ss,dt,bs,key,rg,vs,(),0,(),(),(),bs,key,cs,fB,(),())/\r<=rg.length/\cs.length=512/\(∀c∈cs,o7 (RK bs ss) c)/\S3 bs key rg cs r 0)
  (R:=λy=>∃a b c f cs,y=(a,b,c,f,code,ss,dt,bs,key,rg,vs,(),0,(),(),(),bs,key,cs,fB,(),())/\cs.length=512/\(∀c∈cs,o7 (RK bs ss) c)/\S3 bs key rg cs ss.length 0) (m:=λs'=>(s'.2.1 - s'.2.2.1).toNat)
  ⟨0,_,rfl,by omega,List.length_replicate,λc hc=>by rw[List.eq_of_mem_replicate hc];exact nn (by decide),λr' o' x c b _ _ _ hlt=>by omega⟩ (by unfold NN;dsimp only;omega) ?_ ?_
 ·rintro _ ⟨r,cs,rfl,hr,ZW,ZP,hI⟩;unfold qn;delta dN;dsimp only
  (with_reducible refine dJ (λZ'=>?_) λZ'=>?_)
  ·obtain⟨x,hx⟩:∃x,rg[r]?=some x:=⟨_,oGE (by omega)⟩;obtain⟨b,z,hb,hz,z1,Va,b0,bz⟩:=hL.at_ (r:=r) (by omega);have hf:=h.fit r x z hx hz;have hxc:=h.cells x (dR hx);rw[dO];simp only[oBS,show dM rg r=some x from hx]
   refine Ok.loop (P:=λs'=>∃(o:Nat),∃cs,s'=((r:Int),rg,(rg.length:Int),(r:Int),x,(x.length:Int),(o:Int),code,ss,dt,bs,key,rg,vs,(),0,(),(),(),bs,key,cs,fB,(),())/\o<=x.length/\cs.length=512/\(∀c∈cs,o7 (RK bs ss) c)/\S3 bs key rg cs r o)
    (R:=λy=>∃a2 a3 a4 f cs,y=((r:Int),rg,(rg.length:Int),(r:Int),a2,a3,a4,f,code,ss,dt,bs,key,rg,vs,(),0,(),(),(),bs,key,cs,fB,(),())/\cs.length=512/\(∀c∈cs,o7 (RK bs ss) c)/\S3 bs key rg cs (r+1) 0) (m:=λs'=>(s'.2.2.2.2.2.1 - s'.2.2.2.2.2.2.1).toNat) ⟨0,cs,rfl,by omega,ZW,ZP,hI⟩ (by unfold NN;dsimp only;omega) ?_ ?_
   ·rintro _ ⟨o,cs,rfl,ho,ZW,ZP,hI⟩;unfold qo;dsimp only
    (with_reducible refine dJ (λZ3=>?_) λZ3=>?_)
    ·obtain⟨c,hc⟩:∃c,x[o]?=some c:=⟨_,oGE (by omega)⟩;obtain⟨Z8,Yh⟩:=AC (key:=key) hL (hxc c (dR hc));simp only[dO,oBS,show dM x o=some c from hc,show dM bs r=some b from hb,Z8];rw[dS (x:=b+o) (by omega) (by omega),dS (x:=(o:Int)+1) (by omega) (by omega)];obtain⟨a,ha⟩:∃a:Nat,b+o=a:=⟨(b+o).toNat,by omega⟩;obtain⟨y,hy⟩:∃y,cs[a]?=some y:=⟨_,oGE (by omega)⟩;rw[ha,dO];simp only[oBS,show dM cs a=some y from hy,eG hy];refine Ok.ret ⟨⟨o+1,_,rfl,by omega,by rw[List.length_set];exact ZW,jI ZP Yh,λr' o' x' c' b' h1 h2 h3 hlt=>?_⟩,by dsimp only;omega⟩;by_cases e:r'=r/\o'=o
     ·obtain⟨rfl,rfl⟩:=e;rw[hx] at h1;cases h1;rw[hc] at h2;cases h2;rw[hb] at h3;cases h3;rw[ha,oTN];exact iK (by omega) _
     ·have hr'l:=(oGS h1).1;obtain⟨b2,z2,ZZ,X4,_,_,b20,b2z⟩:=hL.at_ (r:=r') (by omega)
      have Uf:b2=b':=by rw[ZZ] at h3;injection h3
      subst Uf;have hf2:=h.fit r' x' z2 h1 X4;have ho'l:=(oGS h2).1
      have hne:(b2+o').toNat≠a:=by
       by_cases er:r'=r
       ·subst er;rw[hb] at ZZ;cases ZZ;omega
       ·have:=hL.apart er ZZ X4 hb hz (o:=o') (o':=o) (by omega) (by omega) (by omega) (by omega);omega
      rw[ou (λe=>hne e.symm)];exact hI r' o' x' c' b2 h1 h2 ZZ (by omega)
    ·refine Ok.ret ⟨_,_,_,_,cs,rfl,ZW,ZP,λr' o' x' c' b' h1 h2 h3 hlt=>hI r' o' x' c' b' h1 h2 h3 ?_⟩;by_cases er:r'=r
     ·subst er;rw[hx] at h1;cases h1;have:=(oGS h2).1;omega
     ·omega
   ·rintro _ ⟨a2,a3,a4,f,cs,rfl,ZW,ZP,hI⟩;dsimp only;rw[dS (x:=(r:Int)+1) (by omega) (by omega)];exact Ok.ret ⟨⟨r+1,cs,rfl,by omega,ZW,ZP,hI⟩,by dsimp only;omega⟩
  ·obtain rfl:r=ss.length:=by omega
   exact Ok.ret ⟨_,_,_,_,cs,rfl,ZW,ZP,hI⟩
 rintro _ ⟨a,b,c,f,cs,rfl,ZW,ZP,hI⟩;dsimp only
 have e5:dU iA NN (vs,(vs.length:Int),0,code,ss,dt,bs,key,rg,vs,(),0,(),(),(),bs,key,cs,fB,[],())=some (vs,(vs.length:Int),(vs.length:Int),false,code,ss,dt,bs,key,rg,vs,(),0,(),(),(),bs,key,cs,fB,vs.map (thF bs key),()):=by
  have:=mW (f:=iA) (N:=NN) (st:=λk=>(vs,(vs.length:Int),(k:Int),code,ss,dt,bs,key,rg,vs,(),0,(),(),(),bs,key,cs,fB,(vs.take k).map (thF bs key),())) (n:=vs.length) (t:=(vs,(vs.length:Int),(vs.length:Int),false,code,ss,dt,bs,key,rg,vs,(),0,(),(),(),bs,key,cs,fB,vs.map (thF bs key),())) (by unfold NN;omega) ?_ ?_
  ·exact this
  ·intro k hk;obtain⟨v,hv⟩:∃v,vs[k]?=some v:=⟨_,oGE hk⟩;have Y1:=h.views v (dR hv);have h8:=Y1.len;unfold iA;delta dN;dsimp only;rw[oDT (show (k:Int) < vs.length by omega),dO];simp only[oCT,oBS,show dM vs k=some v from hv]
   have e4:∀(a1 a2 a3 a4 a5 a6 a7 a8 b1 b2 b3 b4 b5 b6 b7:_),dU iB NN (vs,(vs.length:Int),(k:Int),v.2.2.2.2.2.2.2,(v.2.2.2.2.2.2.2.length:Int),0,code,ss,dt,bs,key,rg,vs,(),0,(),(),(),bs,key,cs,fB,(vs.take k).map (thF bs key),a1,a2,a3,a4,a5,a6,a7,a8,b1,[],b2,b3,b4,b5,b6,b7,()) =
    some (vs,(vs.length:Int),(k:Int),v.2.2.2.2.2.2.2,(v.2.2.2.2.2.2.2.length:Int),(v.2.2.2.2.2.2.2.length:Int),false,code,ss,dt,bs,key,rg,vs,(),0,(),(),(),bs,key,cs,fB,(vs.take k).map (thF bs key),a1,a2,a3,a4,a5,a6,a7,a8,b1,v.2.2.2.2.2.2.2.map (Dg bs key),b2,b3,b4,b5,b6,b7,()):=by
    intro a1 a2 a3 a4 a5 a6 a7 a8 b1 b2 b3 b4 b5 b6 b7
    have:=mW (f:=iB) (N:=NN) (st:=λo=>(vs,(vs.length:Int),(k:Int),v.2.2.2.2.2.2.2,(v.2.2.2.2.2.2.2.length:Int),(o:Int),code,ss,dt,bs,key,rg,vs,(),0,(),(),(),bs,key,cs,fB,(vs.take k).map (thF bs key),a1,a2,a3,a4,a5,a6,a7,a8,b1,(v.2.2.2.2.2.2.2.take o).map (Dg bs key),b2,b3,b4,b5,b6,b7,())) (n:=v.2.2.2.2.2.2.2.length)
     (t:=(vs,(vs.length:Int),(k:Int),v.2.2.2.2.2.2.2,(v.2.2.2.2.2.2.2.length:Int),(v.2.2.2.2.2.2.2.length:Int),false,code,ss,dt,bs,key,rg,vs,(),0,(),(),(),bs,key,cs,fB,(vs.take k).map (thF bs key),a1,a2,a3,a4,a5,a6,a7,a8,b1,v.2.2.2.2.2.2.2.map (Dg bs key),b2,b3,b4,b5,b6,b7,())) (by unfold NN;omega) ?_ ?_
    ·exact this
    ·intro o ho;obtain⟨c,hc⟩:∃c,v.2.2.2.2.2.2.2[o]?=some c:=⟨_,oGE ho⟩;unfold iB;dsimp only;rw[oDT (show (o:Int) < v.2.2.2.2.2.2.2.length by omega),dO];simp only[oCT,oBS,show dM v.2.2.2.2.2.2.2 o=some c from hc];rw[(AC (key:=key) hL (Y1.regs c (dR hc))).1];simp only[oBS];refine dK (dX (by simp;omega)) ?_;rw[dS (x:=(o:Int)+1) (by omega) (by omega)];refine Ok.ret ?_;rw[<- gy (Dg bs key) hc];rfl
    ·unfold iB;dsimp only;rw[oDF (show ¬ (v.2.2.2.2.2.2.2.length:Int) < v.2.2.2.2.2.2.2.length by omega),List.take_length];exact Ok.ret rfl
   rw[e4];simp only[oBS];refine dK (dX (by simp;omega)) ?_;rw[dS (x:=(k:Int)+1) (by omega) (by omega)];refine Ok.ret ?_;rw[<- gy (thF bs key) hv];rfl
  ·unfold iA;dsimp only;rw[oDF (show ¬ (vs.length:Int) < vs.length by omega),List.take_length];exact Ok.ret rfl
 rw[e5];refine Ok.ret ⟨cs,rfl,⟨hL,Hw ZW ZP,by rw[List.length_map];exact YO,λt ht=>?_⟩,hI⟩;obtain⟨v,hv,rfl⟩:=List.mem_map.1 ht;have Y1:=h.views v hv;refine⟨Y1.state,by unfold thF;dsimp only;rw[List.length_map];exact Y1.len,λc hc=>?_,Y1.pc,Y1.count,Y1.handler,Y1.saved,Y1.trap,Y1.code⟩;unfold thF at hc;dsimp only at hc;obtain⟨c',YB,rfl⟩:=List.mem_map.1 hc;exact (AC hL (Y1.regs c' YB)).2
theorem Rc{l:List Int}{k n:Int}(h:DOk l k) (hn:0 < n) (hn2:n<=9223372036854775807):Ok (dQ n l k) λr=>∃v k',r=(v,l,k',())/\0<=v/\v < n/\DOk l k':=by
 have:Ok ((dQ n l k).bind some) λr=>∃v k',r=(v,l,k',())/\0<=v/\v < n/\DOk l k':=fO h hn hn2 λv k' h0 h1 h2=>Ok.ret ⟨_,_,rfl,h0,h1,h2⟩
 simp_all
theorem Dz.setReg{n:Int}{ss:List Int}{rg:List (List DCn)}{vs:List DTs}{r o:Nat}{x:List DCn}{c:DCn}(h:Dz n ss rg vs) (hx:rg[r]?=some x) (hc:Pr ss c):Dz n ss (rg.set r (x.set o c)) vs:=by
 refine⟨by rw[List.length_set];exact h.rlen,λj y z hy hz=>?_,jI h.cells (jI (h.cells x (dR hx)) hc),h.vlen,h.views⟩;by_cases e:r=j
 ·subst e;rw[show (rg.set r (x.set o c))[r]?=some (x.set o c) from iK (oGS hx).1 _] at hy;cases hy;rw[List.length_set];exact h.fit r x z hx hz
 ·rw[ou e] at hy;exact h.fit j y z hy hz
theorem Dz.setView{n:Int}{ss:List Int}{rg:List (List DCn)}{vs:List DTs}{k:Nat}{v:DTs}(h:Dz n ss rg vs) (hv:Tu n ss v):Dz n ss rg (vs.set k v):=
 ⟨h.rlen,h.fit,h.cells,by rw[List.length_set];exact h.vlen,jI h.views hv⟩
set_option maxHeartbeats 4000000 in
theorem Lb{l:List Int}{k:Int}(h:DOk l k):Ok (mT l k) λr=>∃code ss dt bs key cs ls ts k',r=(code,ss,dt,bs,key,cs,ls,ts,l,k',())/\lf code ss dt/\W16 key/\MOk 1152 ss bs cs ls ts/\DOk l k':=by
 unfold mT;refine (Ss h).bind ?_;rintro _ ⟨code,ss,dt,bs,key,cs,ls,ts,ck,rn,ins,d,os,us,ow,qs,rec,js,k1,rfl,X7,hR,h1⟩;dsimp only;have hp:=hR.prog;have hM:=hR.mach;have hL:=hM.lay;have hs1:=hp.sz.1;obtain⟨_,en,v,k2,rfl,v0,v1,h2⟩:=Rc (n:=3) h1 (by decide) (by decide);rw[en];simp only[oBS];by_cases hv:v=0
 ·simp only[beq_iff_eq.2 hv,oCT,Jv (code:=code) (dt:=dt) hM,oBS];have hS:=Ju (key:=key) hM;generalize xn bs ss key cs ls=rg at hS;generalize ts.map (o8 bs ss key)=vs at hS;obtain⟨x,hx⟩:∃x,rg[0]?=some x:=⟨_,oGE (by have:=hS.rlen;omega)⟩
  have hxl:x.length<=32:=by
   obtain⟨z,hz⟩:∃z,ss[0]?=some z:=⟨_,oGE (by omega)⟩;have:=hS.fit 0 x z hx hz;have:=hp.sz.2.2 z (dR hz);omega
  delta dN;simp only[show dM rg 0=some x from hx,oBS]
  obtain⟨y,e,YQ,k3,a,b,rfl,hS3,h3⟩:=gG (f:=mw) (n:=NN) (s:=((x.length:Int),0,l,k2,(),(),(),(),0,(),(),(),code,ss,dt,bs,key,cs,ls,ts,ck,rn,ins,d,os,us,ow,qs,rec,js,bs,key,cs,ls,ts,rg,vs,()))
   (P:=λs'=>∃(q:Nat) (k':Int) (YQ:List (List DCn)) (x':List DCn),s'=((x.length:Int),(q:Int),l,k',(),(),(),(),0,(),(),(),code,ss,dt,bs,key,cs,ls,ts,ck,rn,ins,d,os,us,ow,qs,rec,js,bs,key,cs,ls,ts,YQ,vs,())/\DOk l k'/\Dz 1152 ss YQ vs/\YQ[0]?=some x'/\x'.length=x.length)
   (R:=λy=>∃YQ k' a b,y=(a,b,false,l,k',(),(),(),(),0,(),(),(),code,ss,dt,bs,key,cs,ls,ts,ck,rn,ins,d,os,us,ow,qs,rec,js,bs,key,cs,ls,ts,YQ,vs,())/\Dz 1152 ss YQ vs/\DOk l k') (m:=λs'=>(s'.1 - s'.2.1).toNat) ⟨0,k2,rg,x,rfl,h2,hS,hx,rfl⟩ (by unfold NN;dsimp only;omega) (by
    rintro _ ⟨q,k',YQ,x',rfl,hd,YA,V6,V7⟩;unfold mw;dsimp only
    (with_reducible refine dJ (λZ'=>?_) λZ'=>?_)
    ·refine Ok.bind (P:=λr=>∃(k':Int) (YQ:List (List DCn)) (x':List DCn),r=((x.length:Int),(q:Int),l,k',(),(),(),(),0,(),(),(),code,ss,dt,bs,key,cs,ls,ts,ck,rn,ins,d,os,us,ow,qs,rec,js,bs,key,cs,ls,ts,YQ,vs,())/\DOk l k'/\Dz 1152 ss YQ vs/\YQ[0]?=some x'/\x'.length=x.length) ?_ ?_
     ·refine fO (n:=3) hd (by decide) (by decide) λu k4 u0 u1 h4=>?_;dsimp only
      (with_reducible refine dJ (λZ3=>?_) λZ3=>?_)
      ·obtain⟨c,hc⟩:∃c,x'[q]?=some c:=⟨_,oGE (by omega)⟩;simp only[show dM YQ 0=some x' from V6,oBS];refine (Kg hp.sz h4).bind ?_;rintro _ ⟨t,v,rr,o,k5,rfl,Ui,h5⟩;dsimp only;simp only[dO,oBS,show dM x' q=some c from hc,eG V6,eG hc];exact Ok.ret ⟨_,_,_,rfl,h5,YA.setReg V6 Ui,iK (oGS V6).1 _,by rw[List.length_set];exact V7⟩
      ·exact Ok.ret ⟨_,_,_,rfl,h4,YA,V6,V7⟩
     ·rintro _ ⟨k',YQ,x',rfl,hd,YA,V6,V7⟩;dsimp only;rw[dS (x:=(q:Int)+1) (by omega) (by omega)];exact Ok.ret ⟨⟨q+1,k',YQ,x',rfl,hd,YA,V6,V7⟩,by dsimp only;omega⟩
    ·exact Ok.ret ⟨_,_,_,_,rfl,YA,hd⟩)
  simp only[e,oBS]
  obtain⟨y,e,Za,k4,a,b,rfl,hS4,h4⟩:=gG (f:=mu) (n:=NN) (s:=((vs.length:Int),0,l,k3,(),(),(),(),0,(),(),(),code,ss,dt,bs,key,cs,ls,ts,ck,rn,ins,d,os,us,ow,qs,rec,js,bs,key,cs,ls,ts,YQ,vs,()))
   (P:=λs'=>∃(q:Nat) (k':Int) (Za:List DTs),s'=((vs.length:Int),(q:Int),l,k',(),(),(),(),0,(),(),(),code,ss,dt,bs,key,cs,ls,ts,ck,rn,ins,d,os,us,ow,qs,rec,js,bs,key,cs,ls,ts,YQ,Za,())/\DOk l k'/\Dz 1152 ss YQ Za)
   (R:=λy=>∃Za k' a b,y=(a,b,false,l,k',(),(),(),(),0,(),(),(),code,ss,dt,bs,key,cs,ls,ts,ck,rn,ins,d,os,us,ow,qs,rec,js,bs,key,cs,ls,ts,YQ,Za,())/\Dz 1152 ss YQ Za/\DOk l k') (m:=λs'=>(s'.1 - s'.2.1).toNat) ⟨0,k3,vs,rfl,h3,hS3⟩ (by unfold NN;dsimp only;have:=hS3.vlen;omega) (by
    rintro _ ⟨q,k',Za,rfl,hd,YA⟩;have YO:=hS3.vlen;have V5:=YA.vlen;unfold mu;delta dN;dsimp only
    (with_reducible refine dJ (λZ'=>?_) λZ'=>?_)
    ·obtain⟨w,hw⟩:∃w,Za[q]?=some w:=⟨_,oGE (by omega)⟩;have hw8:=(YA.views w (dR hw)).len;rw[dO];simp only[oBS,show dM Za q=some w from hw];refine Ok.bind (P:=λr=>∃(k':Int) (Za:List DTs),r=((vs.length:Int),(q:Int),l,k',(),(),(),(),0,(),(),(),code,ss,dt,bs,key,cs,ls,ts,ck,rn,ins,d,os,us,ow,qs,rec,js,bs,key,cs,ls,ts,YQ,Za,())/\DOk l k'/\Dz 1152 ss YQ Za) ?_ ?_
     ·refine Ok.loop (P:=λs'=>∃(o:Nat) (k':Int) (Za:List DTs),s'=((q:Int),(vs.length:Int),(q:Int),(w.2.2.2.2.2.2.2.length:Int),(o:Int),l,k',(),(),(),(),0,(),(),(),code,ss,dt,bs,key,cs,ls,ts,ck,rn,ins,d,os,us,ow,qs,rec,js,bs,key,cs,ls,ts,YQ,Za,())/\DOk l k'/\Dz 1152 ss YQ Za)
       (R:=λy=>∃Za k' a b c,y=((q:Int),(vs.length:Int),(q:Int),a,b,c,l,k',(),(),(),(),0,(),(),(),code,ss,dt,bs,key,cs,ls,ts,ck,rn,ins,d,os,us,ow,qs,rec,js,bs,key,cs,ls,ts,YQ,Za,())/\Dz 1152 ss YQ Za/\DOk l k') (m:=λs'=>(s'.2.2.2.1 - s'.2.2.2.2.1).toNat) ⟨0,k',Za,rfl,hd,YA⟩ (by unfold NN;dsimp only;omega) ?_ ?_
      ·rintro _ ⟨o,k',Za,rfl,hd,YA⟩;have V5:=YA.vlen;unfold qr;dsimp only
       (with_reducible refine dJ (λZ3=>?_) λZ3=>?_)
       ·refine Ok.bind (P:=λr=>∃(k':Int) (Za:List DTs),r=((q:Int),(vs.length:Int),(q:Int),(w.2.2.2.2.2.2.2.length:Int),(o:Int),l,k',(),(),(),(),0,(),(),(),code,ss,dt,bs,key,cs,ls,ts,ck,rn,ins,d,os,us,ow,qs,rec,js,bs,key,cs,ls,ts,YQ,Za,())/\DOk l k'/\Dz 1152 ss YQ Za) ?_ ?_
        ·refine fO (n:=3) hd (by decide) (by decide) λu k4 u0 u1 h4=>?_;dsimp only
         (with_reducible refine dJ (λhcc=>?_) λhcc=>?_)
         ·obtain⟨w',WN⟩:∃w',Za[q]?=some w':=⟨_,oGE (by omega)⟩;have Y1:=YA.views w' (dR WN);have hw8':=Y1.len;obtain⟨cc,hcc⟩:∃cc,w'.2.2.2.2.2.2.2[o]?=some cc:=⟨_,oGE (by omega)⟩;simp only[dO,oBS,show dM Za q=some w' from WN];refine (Kg hp.sz h4).bind ?_;rintro _ ⟨t,v,rr,o',k5,rfl,Ui,h5⟩;dsimp only;simp only[show dM w'.2.2.2.2.2.2.2 o=some cc from hcc,oBS,eG WN,eG hcc];exact Ok.ret ⟨_,_,rfl,h5,YA.setView ⟨Y1.state,Y1.pc,Y1.count,Y1.handler,Y1.saved,Y1.trap,Y1.code,by dsimp only;rw[List.length_set];exact hw8',jI Y1.regs Ui⟩⟩
         ·exact Ok.ret ⟨_,_,rfl,h4,YA⟩
        ·rintro _ ⟨k',Za,rfl,hd,YA⟩;dsimp only;rw[dS (x:=(o:Int)+1) (by omega) (by omega)];exact Ok.ret ⟨⟨o+1,k',Za,rfl,hd,YA⟩,by dsimp only;omega⟩
       ·exact Ok.ret ⟨_,_,_,_,_,rfl,YA,hd⟩
      ·rintro _ ⟨Za,k',a,b,c,rfl,YA,hd⟩;dsimp only;refine fO (n:=4) hd (by decide) (by decide) λu k4 u0 u1 h4=>?_;dsimp only
       (with_reducible refine dJ (λhcc=>?_) λhcc=>?_)
       ·refine fO (n:=5) h4 (by decide) (by decide) λu2 k5 u20 u21 h5=>?_;dsimp only;obtain⟨w',WN⟩:∃w',Za[q]?=some w':=⟨_,oGE (by have:=YA.vlen;omega)⟩;have Y1:=YA.views w' (dR WN);simp only[dO,oBS,show dM Za q=some w' from WN,eG WN];exact Ok.ret ⟨_,_,rfl,h5,YA.setView ⟨⟨u20,by dsimp only;omega⟩,Y1.pc,Y1.count,Y1.handler,Y1.saved,Y1.trap,Y1.code,Y1.len,Y1.regs⟩⟩
       ·exact Ok.ret ⟨_,_,rfl,h4,YA⟩
     ·rintro _ ⟨k',Za,rfl,hd,YA⟩;dsimp only;rw[dS (x:=(q:Int)+1) (by omega) (by omega)];exact Ok.ret ⟨⟨q+1,k',Za,rfl,hd,YA⟩,by dsimp only;omega⟩
    ·exact Ok.ret ⟨_,_,_,_,rfl,YA,hd⟩)
  simp only[e,oBS];obtain⟨_,ei,Z4,rfl,hM',_⟩:=Nw (key:=key) hp hL hS4 (by decide);simp only[ei,oBS,oCT];exact Ok.ret ⟨_,_,_,_,_,_,_,_,_,rfl,hp,X7,hM',h4⟩
 ·simp only[oBF hv,oCF];exact Ok.ret ⟨_,_,_,_,_,_,_,_,_,rfl,hp,X7,hM,h2⟩
def M9:List CT->CT
 | []=>.nat
 | [t]=>t
 | t :: u :: r=>.pair t (M9 (u :: r))
def uD:(l:List CT)->HL den l->den (M9 l)
 | [],_=>(0:Nat)
 | [_],h=>h.1
 | _ :: u :: r,h=>(h.1,uD (u :: r) h.2)
def encL:(l:List CT)->HL den l->List TV
 | [],_=>[]
 | t :: r,h=>enc t h.1++encL r h.2
theorem J9:∀(l:List CT) (h:HL den l),enc (M9 l) (uD l h)=encL l h
 | [],_=>rfl
 | [_],h=>(List.append_nil _).symm
 | _ :: u :: r,h=>by
  show enc _ h.1++enc (M9 (u :: r)) (uD (u :: r) h.2)=_;rw[J9 (u :: r) h.2];rfl
def Jm:(c:CT)->den c->Prop
 | .int k,n=>(Lit.int k n).wf=true
 | .str,s=>ByteArray.size s<=maxLen
 | .row _ t,xs=>List.length xs<=maxLen/\∀x∈xs,Jm t x
 | .pair a b,x=>Jm a x.1/\Jm b x.2
 | _,_=>True
def GoodL:(l:List CT)->HL den l->Prop
 | [],_=>True
 | t :: r,h=>Jm t h.1/\GoodL r h.2
theorem Hm:∀(l:List CT) (h:HL den l),GoodL l h->Jm (M9 l) (uD l h)
 | [],_,_=>trivial
 | [_],_,g=>g.1
 | _ :: u :: r,h,g=>⟨g.1,Hm (u :: r) h.2 g.2⟩
def appL:(l m:List CT)->HL den l->HL den m->HL den (l++m)
 | [],_,_,k=>k
 | _ :: r,m,h,k=>(h.1,appL r m h.2 k)
theorem Ka:∀(l m:List CT) (h:HL den l) (k:HL den m),encL (l++m) (appL l m h k)=encL l h++encL m k
 | [],_,_,_=>rfl
 | t :: r,m,h,k=>by
  show enc t h.1++encL (r++m) (appL r m h.2 k)=(enc t h.1++encL r h.2)++_;rw[Ka r m h.2 k,List.append_assoc]
theorem J1:∀(l m:List CT) (h:HL den l) (k:HL den m),GoodL l h->GoodL m k->GoodL (l++m) (appL l m h k)
 | [],_,_,_,_,g=>g
 | _ :: r,m,h,k,g,g'=>⟨g.1,J1 r m h.2 k g.2 g'⟩
def RelL(w:World):List TV->List Value->Prop
 | [],[]=>True
 | t :: ts,v :: vs=>qi w (λ_=>True) t v/\RelL w ts vs
 | _,_=>False
theorem RelL.app{w:World}:∀{a:List TV}{x:List Value}{b:List TV}{y:List Value},RelL w a x->RelL w b y->RelL w (a++b) (x++y)
 | [],[],_,_,_,h=>h
 | _ :: a,_ :: x,_,_,g,h=>⟨g.1,RelL.app (a:=a) (x:=x) g.2 h⟩
 | [],_ :: _,_,_,g,_=>g.elim
 | _ :: _,[],_,_,g,_=>g.elim
theorem RelL.len{w:World}:∀{a:List TV}{x:List Value},RelL w a x->a.length=x.length
 | [],[],_=>rfl
 | _ :: a,_ :: x,g=>by rw[oLC,oLC,RelL.len (a:=a) (x:=x) g.2]
 | [],_ :: _,g=>g.elim
 | _ :: _,[],g=>g.elim
theorem RelL.get{w:World}:∀{a:List TV}{x:List Value},RelL w a x->∀j (h:j < a.length) (h':j < x.length),qi w (λ_=>True) a[j] x[j]
 | _ :: _,_ :: _,g,0,_,_=>g.1
 | _ :: a,_ :: x,g,j+1,h,h'=>RelL.get (a:=a) (x:=x) g.2 j (by simpa using h) (by simpa using h')
 | [],_,_,_,h,_=>by simp at h
 | _ :: _,[],g,_,_,_=>g.elim
def Sn(P:Program) (g:TypeId->Option (List CT)):Nat->List Field->Option (List CT)
 | _,[]=>some []
 | off,f :: fs=>match g f.type with
  | some l=>if f.offset=off/\l.length=P.cellsOf f.type then (Sn P g (off+l.length) fs).map (l++·) else none
  | none=>none
def Ay(P:Program):Nat->TypeId->Option (List CT)
 | 0,_=>none
 | n+1,t=>match P.underlying t with
  | some .bool=>some [.bool]
  | some (.int k)=>some [.int k]
  | some .string=>some [.str]
  | some (.slice e)=>match Ay P n e with
   | some l=>if l.length=P.cellsOf e then some [.row false (M9 l)] else none
   | none=>none
  | some (.struct fs)=>match Sn P (Ay P n) 0 fs.toList with
   | some l=>if l.length=P.cellsOf t then some l else none
   | none=>none
  | _=>none
section
variable {H:Type} {ec:TypeId×Value->H} {P:Program} {w:World} {base:Nat} {spare:Nat->Bool} {held:Bool}
theorem Nu{g:TypeId->Option (List CT)}{m:Nat}{cs:List Value}
 (ih:∀t L,g t=some L->∀cs x,DataW.trod ec P w base spare held m t cs=some x->∃h:HL den L,GoodL L h/\RelL w (encL L h) cs) :
 ∀(fs:List Field) (off:Nat) (L:List CT),Sn P g off fs=some L->(∀f∈fs,∃x,DataW.trod ec P w base spare held m f.type ((cs.drop f.offset).take (P.cellsOf f.type))=some x) ->
  ∃h:HL den L,GoodL L h/\RelL w (encL L h) ((cs.drop off).take L.length):=by
 intro fs
 induction fs with
 | nil=>
  intro off L hL _
  injection hL with hL
  subst hL;exact⟨(),trivial,trivial⟩
 | cons f fs ihf=>
  intro off L hL hx;unfold Sn at hL;split at hL
  ·rename_i l hg;split at hL
   ·rename_i ho;obtain⟨rfl,hlen⟩:=ho
    cases hr:Sn P g (f.offset+l.length) fs with
    | none=>simp_all
    | some L2=>
     rw[hr] at hL
     injection hL with hL
     subst hL;obtain⟨x,h1⟩:=hx f List.mem_cons_self;obtain⟨h,g1,r1⟩:=ih _ _ hg _ _ h1;have ⟨k,g2,r2⟩:=ihf _ _ hr λf' hf'=>hx f' (List.mem_cons_of_mem _ hf');refine⟨appL l L2 h k,J1 _ _ _ _ g1 g2,?_⟩;rw[Ka,List.length_append,List.take_add,List.drop_drop];rw[hlen];rw[hlen] at r2;exact r1.app r2
   ·cases hL
  ·cases hL
theorem SF:∀(n:Nat) (t:TypeId) (L:List CT),Ay P n t=some L->∀(Vz:Nat) (cs:List Value) (x:DataW H×List MemPlace),DataW.trod ec P w base spare held Vz t cs=some x ->
 ∃h:HL den L,GoodL L h/\RelL w (encL L h) cs:=by
 intro n
 induction n with
 | zero=>intro t L h;cases h
 | succ n ih=>
  intro t L hL Vz cs x hx;unfold Ay at hL;split at hL
  ·rename_i ht
   injection hL with hL
   subst hL;obtain⟨b,rfl,_⟩:=DataW.trod_bool ht hx;exact⟨(b,()),⟨trivial,trivial⟩,.v rfl,trivial⟩
  ·rename_i k ht
   injection hL with hL
   subst hL;obtain⟨z,rfl,_,hw⟩:=DataW.trod_int ht hx;exact⟨(z,()),⟨hw,trivial⟩,.v rfl,trivial⟩
  ·rename_i ht
   injection hL with hL
   subst hL;obtain⟨s,rfl,_,hs⟩:=DataW.trod_string ht hx;exact⟨(s,()),⟨hs,trivial⟩,.v rfl,trivial⟩
  ·rename_i e ht;split at hL
   ·rename_i l hl;split at hL
    ·rename_i hsz
     injection hL with hL
     subst hL;rcases DataW.trod_slice ht hx with ⟨rfl,_⟩ | ⟨a,len,cap,elems,rest,m,_,rfl,_,_,Yn,hmax,Y4,Z5,_,_⟩
     ·exact⟨([],()),⟨⟨Nat.zero_le _,λx hx=>by cases hx⟩,trivial⟩,.sl (c:=[]) 1 (λ_ _=>undef) (λi h=>by simp at h) (Nat.le_refl _) (Nat.zero_le _) (λ_=>rfl) (λi j h=>by simp at h) (λi j h=>by simp at h),trivial⟩
     ·have each:∀i:Fin len,∃p:HL den l×List Value,GoodL l p.1/\RelL w (encL l p.1) p.2/\w.cells? base (a.add (i.1*P.cellsOf e)) (P.cellsOf e)=some p.2:=by
       intro i;have h1:=Z5 i.1 i.2;rw[oGE (by omega)] at h1;obtain⟨Z4,h2,h3⟩:=Option.bind_eq_some_iff.1 h1;obtain⟨h,g,r⟩:=ih _ _ hl _ _ _ h3;exact⟨(h,Z4),g,r,h2⟩
      obtain⟨f,hf⟩:=Classical.axiomOfChoice each
      have clen:∀i,(encL l (f i).1).length=l.length:=λi=>by
       rw[(hf i).2.1.len,(World.cells?_some (hf i).2.2).2.1,hsz]
      have key:qi w (λ_=>True) (.sl ((List.ofFn λi:Fin len=>uD l (f i).1).map (enc (M9 l)))) (.slice (some a) ((List.ofFn λi:Fin len=>uD l (f i).1).map (enc (M9 l))).length cap):=by
       have el:((List.ofFn λi:Fin len=>uD l (f i).1).map (enc (M9 l))).length=len:=by simp
       have eg:∀i (hi:i < ((List.ofFn λi:Fin len=>uD l (f i).1).map (enc (M9 l))).length),((List.ofFn λi:Fin len=>uD l (f i).1).map (enc (M9 l)))[i]=encL l (f ⟨i,by omega⟩).1:=by
        intro i hi;simp[J9]
       refine .sl l.length (λi j=>if h:i < len then (f ⟨i,h⟩).2.getD j undef else undef) (λi hi=>by rw[eg i hi,clen]) (by rw[el];exact Yn) hmax (λh=>by cases h) (λi j hi hj=>?_) (λi j hi hj=>?_)
       ·rw[el] at hi
        have cell:∀i' (ZD:i' < len) j',j' < l.length->w.cell? ((a.add (i'*l.length)).add j')=some ((f ⟨i',ZD⟩).2.getD j' undef):=by
         intro i' ZD j' ZR;have h1:=World.cells?_some (hf ⟨i',ZD⟩).2.2;have h2:=h1.2.2 j' (by omega);rw[hsz];rw[h2]
         have:j' < (f ⟨i',ZD⟩).2.length:=by rw[h1.2.1];omega
         simp[this]
        have h0:=World.cell?_spot (cell 0 (by omega) 0 (by omega));obtain⟨b,o,spot⟩:=a
        have hspot:spot=none:=by simpa [Addr.add] using h0
        subst hspot;refine⟨b,o,rfl,trivial,?_⟩;have h2:=cell i hi j hj;rw[Go.WideShapes.add_plain,Go.WideShapes.add_plain] at h2;rw[dif_pos hi,<- h2,Nat.add_assoc]
       ·rw[el] at hi;have hr:=(hf ⟨i,hi⟩).2.1
        have XG:j < (encL l (f ⟨i,hi⟩).1).length:=by rw[eg i (by omega)] at hj;exact hj
        have Um:j < (f ⟨i,hi⟩).2.length:=by rw[<- hr.len];exact XG
        have h3:=hr.get j XG Um
        simp_all
      rw[List.length_map,List.length_ofFn] at key;refine⟨(List.ofFn λi:Fin len=>uD l (f i).1,()),⟨⟨by rw[List.length_ofFn];omega,λx hx=>?_⟩,trivial⟩,key,trivial⟩;obtain⟨i,rfl⟩:=List.mem_ofFn.1 hx;exact Hm _ _ (hf i).1
    ·cases hL
   ·cases hL
  ·rename_i fs ht;split at hL
   ·rename_i l hl;split at hL
    ·rename_i hsz
     injection hL with hL
     subst hL;obtain⟨xs,m,_,_,hlen,hxl,hf⟩:=DataW.trod_struct ht hx
     obtain⟨h,g,r⟩:=Nu (cs:=cs) (m:=m) (λt L hL cs x hx=>ih t L hL m cs x hx) fs.toList 0 l hl (by
      intro f hfm;obtain⟨i,hi,rfl⟩:=List.mem_iff_getElem.1 hfm
      have Yv:i < fs.size:=by simpa using hi
      have h1:=hf i fs[i] (by simp[Yv]);rw[oGE (by omega)] at h1
      exact⟨_,by simpa using h1⟩)
     refine⟨h,g,?_⟩;rw[List.drop_zero,hsz,<- hlen,List.take_length] at r;exact r
    ·cases hL
   ·cases hL
  ·cases hL
theorem intake_arg(n:Nat) {t:TypeId}{L:List CT}{v:Value}{d:DataW H}{p:List MemPlace}(hL:Ay P n t=some L) (h:DataW.Trod ec P w base spare held t v d p) :
 ∃h:HL den L,GoodL L h/\RelL w (encL L h) v.cells.toList:=by
 have ⟨Vz,hf⟩:=h;exact SF n t L hL Vz _ _ hf
end
theorem plain_one{w:World}{t:TV}{v:Value}(r:RelL w [t] [v]):Jj w t v:=r.1.plain
theorem Rf{a b:Int}(ha:HN a) (hb:0 < b) (ZZ:b<=9223372036854775807):i3 a b=some (a % b,()):=by
 have hne:(b != 0)=true:=by simp;omega
 have hm:=Int.tmod_lt_of_pos a hb
 have hm2:-b < Int.tmod a b:=by
  have:=Int.tmod_lt_of_pos (-a) hb;rw[Int.neg_tmod] at this;omega
 have hq:a % b=Int.tmod a b % b:=by
  have e:=Int.mul_tdiv_add_tmod a b;rw[Int.add_comm] at e
  conv=>lhs;rw[<- e]
  exact Int.add_mul_emod_self_left ..
 unfold i3;simp only[hne,oCT];by_cases h:Int.tmod a b < 0
 ·simp[h,decide_true,oCT,oBS];rw[dS (by omega) (by omega),hq,<- Int.emod_eq_of_lt (a:=Int.tmod a b+b) (b:=b) (by omega) (by omega),Int.add_emod_right]
 ·simp[h,decide_false,oCF];rw[hq,Int.emod_eq_of_lt (by omega) hm]
theorem vT{a b:Int}(ha:HN a) (hb:0 < b) (ZZ:b<=9223372036854775807):jk a b=some (a % b,()):=by
 unfold jk;rw[Rf ha hb ZZ];rfl
theorem g64{h:den I64}(g:Jm I64 h):HN h:=bounds_i64 g
theorem SH{h:den RI}(g:Jm RI h):(∀z∈(show List Int from h),HN z)/\(show List Int from h).length<=maxLen:=⟨λz hz=>bounds_i64 (g.2 z hz),g.1⟩
theorem P3{S T:Type}{f:S->Option (S⊕T)}(st:Nat->S) {n N:Nat}{bad good:T}(p:Nat->Prop) (hn:n < N)
 (h:∀i,i < n->(∀j,j < i->p j)->(p i/\f (st i)=some (.inl (st (i+1))))\/(¬ p i/\f (st i)=some (.inr bad))) (he:f (st n)=some (.inr good)) :
 ((∀i,i < n->p i)/\dU f N (st 0)=some good)\/((¬ ∀i,i < n->p i)/\dU f N (st 0)=some bad):=by
 have key:∀k i,i+k=n->(∀j,j < i->p j)->∀N,k < N->((∀i,i < n->p i)/\dU f N (st i)=some good)\/((¬ ∀i,i < n->p i)/\dU f N (st i)=some bad):=by
  intro k
  induction k with
  | zero=>
   intro i hi hp N hN
   obtain rfl:i=n:=by omega
   obtain⟨N',rfl⟩:∃N',N=N'+1:=⟨N - 1,by omega⟩;exact .inl ⟨hp,by simp only[dU,he,oBS]⟩
  | succ k ih=>
   intro i hi hp N hN;obtain⟨N',rfl⟩:∃N',N=N'+1:=⟨N - 1,by omega⟩;rcases h i (by omega) hp with ⟨UX,e⟩ | ⟨UX,e⟩
   ·simp only[dU,e];refine ih (i+1) (by omega) (λj hj=>?_) N' (by omega);by_cases hji:j=i
    ·rw[hji];exact UX
    ·exact hp j (by omega)
   ·exact .inr ⟨λg=>UX (g i (by omega)),by simp only[dU,e,oBS]⟩
 simp_all
def BQ(o:Option (Bool×Unit)) (p:Prop):Prop:=(p/\o=some (true,()))\/(¬ p/\o=some (false,()))
theorem BQ.val{o:Option (Bool×Unit)}{p:Prop}(h:BQ o p):∃b,o=some (b,())/\(b=true↔p):=by
 rcases h with ⟨h,e⟩ | ⟨h,e⟩
 all_goals simp_all
theorem BQ.same{o o':Option (Bool×Unit)}{p:Prop}(h:BQ o p) (h':BQ o' p):o=o':=by
 rcases h with ⟨h,e⟩ | ⟨h,e⟩<;>rcases h' with ⟨h',e'⟩ | ⟨h',e'⟩
 ·rw[e,e']
 ·simp_all
 ·simp_all
 ·rw[e,e']
theorem L1{ss:List Int}(h:ss.length<=1000):BQ (fS ss) (yh ss):=by
 have ⟨⟨v,u⟩,e,hv⟩:=HX h
 cases v with
 | true=>exact .inl ⟨hv.1 rfl,e⟩
 | false=>exact .inr ⟨λg=>(by simp_all),e⟩
theorem MM:p9=fS:=rfl
end Go.Proofs.YtjadkocggchfnaaGreat
