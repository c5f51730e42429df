/- Part of the proof; no condition. -/
import Derived.Test.YtjadkocggchfnaaGreatId
import Derived.Deep.Slices
set_option linter.unusedVariables false
set_option linter.unusedSimpArgs false
namespace Go.Proofs.YtjadkocggchfnaaGreat
open Go.RowKit
theorem eu{x:Int}(h0:0<=x) (h1:x<=65535):wk .u16 x=x:=by
 unfold wk;rw[CZ];omega
theorem d8{x:Int}(h0:-9223372036854775808<=x) (h1:x<=9223372036854775807):wk .i64 x=x:=dU h0 h1
theorem dY{b n m:Nat}(h:b<=1000/\n+m<=1000000):d9 b n m=true:=by
 have:=Nat.mul_le_mul h.2 h.1;simp[d9];omega
structure DOk (l:List Int) (k:Int):Prop where
 num:∀x∈l,ze x
 len:l.length<=maxLen
 lo:0<=k
 hi:k<=l.length
theorem EU{l:List Int}(h:∀x∈l,ze x) (hl:l.length<=maxLen):DOk l 0:=⟨h,hl,by omega,by omega⟩
theorem PH{a b:Int}(ha:ze a) (hb:0 < b) (ZZ:b<=9223372036854775807):∃v,iS a b=some (v,())/\0<=v/\v < b:=by
 have hne:(b != 0)=true:=by simp;omega
 have hm:=Int.tmod_lt_of_pos a hb
 have hm2:-b < Int.tmod a b:=by
  have:=Int.tmod_lt_of_pos (-a) hb;rw[Int.neg_tmod] at this;omega
 unfold iS;simp[hne];by_cases h:Int.tmod a b < 0
 ·refine⟨Int.tmod a b+b,?_,by omega,by omega⟩;simp[h,decide_true];rw[dU (by omega) (by omega)]
 ·refine⟨Int.tmod a b,?_,by omega,hm⟩;simp[h,decide_false,oCF]
section
variable {β:Type} {l:List Int} {k n:Int} {Q:β->Prop}
theorem RV{a b:Int}{f:Int×Unit->Option β}(ha:ze a) (hb:0 < b) (ZZ:b<=9223372036854775807) (K:∀v,0<=v->v < b->Ok (f (v,())) Q):Ok ((iS a b).bind f) Q:=by
 have ⟨v,e,h0,h1⟩:=PH ha hb ZZ
 simp_all
theorem fY{f:Int×List Int×Int×Unit->Option β}(h:DOk l k) (hn:0 < n) (hn2:n<=9223372036854775807) (K:∀v k',0<=v->v < n->DOk l k'->Ok (f (v,l,k',())) Q):Ok ((dT n l k).bind f) Q:=by
 have hl:=h.len;have hlo:=h.lo
 have XF:maxLen<=9223372036854775807:=by decide
 by_cases hk:k>=(l.length:Int)
 ·have e:dT n l k=some (0,l,k,()):=by unfold dT;simp[d7,hk]
  simp_all
 ·obtain⟨j,rfl⟩:∃j:Nat,k=j:=⟨k.toNat,by omega⟩
  have hj:j < l.length:=by omega
  obtain⟨v,hv,h0,h1⟩:=PH (h.num _ (List.getElem_mem hj)) hn hn2
  have e:dT n l j=some (v,l,(j:Int)+1,()):=by
   unfold dT;delta dQ
   try dsimp only
   rw[dU (x:=(j:Int)+1) (by omega) (by omega),dU (x:=(j:Int)+1 - 1) (by omega) (by omega)];rw[show (j:Int)+1 - 1=j by omega,dP];simp[hk,decide_false,oCF,oBS,dO,oGE hj,is,hv]
  rw[e];exact K v _ h0 h1 ⟨h.num,hl,by omega,by omega⟩
theorem IQ{f:Int×List Int×Int×Unit->Option β}(h:DOk l k) (K:∀v k',0<=v->v<=65535->DOk l k'->Ok (f (v,l,k',())) Q):Ok ((jz l k).bind f) Q:=by
 have hw:Ok (jz l k) λr=>∃v k',r=(v,l,k',())/\0<=v/\v<=65535/\DOk l k':=by
  unfold jz
  (with_reducible refine fY (by assumption) (by omega) (by omega) (λv k a b d=>?_);try dsimp only)
  refine Ok.bind (P:=λr=>∃b,r=(v,b,l,k,())) ?_ ?_
  ·repeat ((with_reducible refine dM (λhc=>?_) λhc=>?_);· exact Ok.ret ⟨_,rfl⟩)
   exact Ok.ret ⟨_,rfl⟩
  ·rintro _ ⟨b,rfl⟩;refine Ok.cond (λ_=>?_) λ_=>?_
   ·(with_reducible refine fY (by assumption) (by omega) (by omega) (λv k a b d=>?_);try dsimp only)
    (simp (disch:=omega) only [dU,eu,d8,d7])
    exact Ok.ret ⟨_,_,rfl,by omega,by omega,by assumption⟩
   ·(with_reducible refine dM (λhc=>?_) λhc=>?_)
    ·(with_reducible refine fY (by assumption) (by omega) (by omega) (λv k a b d=>?_);try dsimp only)
     (simp (disch:=omega) only [dU,eu,d8,d7])
     exact Ok.ret ⟨_,_,rfl,by omega,by omega,by assumption⟩
    ·(with_reducible refine fY (by omega) (by omega) (by omega) (λv k a b d=>?_);try dsimp only)
     (simp (disch:=omega) only [dU,eu,d8,d7])
     exact Ok.ret ⟨_,_,rfl,by omega,by omega,by omega⟩
 refine hw.bind ?_
 simp_all
end
def xG(s:List Int):Prop:=1<=s.length/\s.length<=4/\∀x∈s,1<=x/\x<=32
theorem Ta{P:Int->Prop}{a b c:Int}(ha:P a) (hb:P b) (hc:P c):∀x∈[a,b,c],P x:=by
 simp_all
theorem NX{l:List Int}{k:Int}(h:DOk l k):Ok (pz l k) λr=>∃s k',r=(s,l,k',())/\xG s/\DOk l k':=by
 unfold pz
 (with_reducible refine fY (by assumption) (by omega) (by omega) (λv0 k0 a0 b0 d0=>?_);try dsimp only)
 (simp (disch:=omega) only [dU,eu,d8,d7])
 (with_reducible refine fY (by assumption) (by omega) (by omega) (λv1 k1 a1 b1 d1=>?_);try dsimp only)
 refine Ok.loop (P:=λ((c,l',k',s,_):Int×List Int×Int×List Int×Unit)=>l'=l/\DOk l k'/\0<=c/\c+s.length<=4/\1<=s.length/\∀x∈s,1<=x/\x<=32)
  (R:=λ((_,_,l',k',s,_):Int×Bool×List Int×Int×List Int×Unit)=>l'=l/\DOk l k'/\xG s) (m:=λs=>s.1.toNat) ⟨rfl,d1,a1,by simp;omega,by simp,by simp;omega⟩ (by unfold NN;dsimp only;omega) ?_ ?_
 ·rintro⟨c,l',k3,s,_⟩ ⟨rfl,X0,hc0,VG,hs1,hs⟩;dsimp only at *;unfold sE;dsimp only
  (with_reducible refine dM (λhc=>?_) λhc=>?_)
  ·(with_reducible refine fY (by assumption) (by omega) (by omega) (λv2 k2 a2 b2 d2=>?_);try dsimp only)
   (with_reducible refine Ok.nat (by omega) (λj hj=>?_);try dsimp only)
   have Zv:∀x∈[(6:Int),12,32],6<=x/\x<=32:=by simp_all
   refine Ok.get (by simp;omega) λa ha=>?_;refine Ok.get (by simp;omega) λb hb=>?_;have h7:=Zv b (dR hb)
   (with_reducible refine fY (by assumption) (by omega) (by omega) (λv3 k3 a3 b3 d3=>?_);try dsimp only)
   (simp (disch:=omega) only [dU,eu,d8,d7])
   refine dL (dY (by simp;omega)) ?_;refine Ok.ret ⟨⟨rfl,by assumption,by omega,?_,?_,?_⟩,?_⟩
   ·simp;omega
   ·simp
   ·intro x hx;simp at hx;rcases hx with hx | rfl
    ·exact hs x hx
    ·omega
   ·dsimp only;omega
  ·exact Ok.ret ⟨rfl,X0,hs1,by dsimp only;omega,hs⟩
 ·rintro⟨a,b,l',k3,s,_⟩ ⟨rfl,X0,hs⟩;exact Ok.ret ⟨_,_,rfl,hs,X0⟩
def qd(op:Int):Bool:=!(op==18 || op==23 || op==0 || op==24)
def qM(op:Int):Bool:=!(op==18 || op==23 || op==0 || op==24 || op==1 || op==15 || op==19 || op==20 || op==21 || op==22)
def qc(op:Int):Bool:=!(op==18 || op==23 || op==0 || op==24 || op==1 || op==15 || op==19 || op==20 || op==21 || op==22 || op==2 || op==16 || op==17)
def qb(op:Int):Bool:=op==1 || op==15 || op==19 || op==20 || op==21 || op==16 || op==17 || op==18 || op==23
def mt(op:Int):Bool:=op==18 || op==19 || op==20 || op==21
theorem Hq{op:Int}(h0:0<=op) (h1:op<=24):jw op=some (qd op,qM op,qc op,qb op,()):=by
 obtain⟨n,rfl⟩:∃n:Nat,op=n:=⟨op.toNat,by omega⟩
 have hn:n < 25:=by omega
 have key:∀n:Fin 25,(jw ((n.val:Nat):Int)).map (λx=>(x.1,x.2.1,x.2.2.1,x.2.2.2.1))=some (qd (n.val:Nat),qM (n.val:Nat),qc (n.val:Nat),qb (n.val:Nat)):=by decide
 have:=key ⟨n,hn⟩
 cases h:jw (n:Int) with
 | none=>simp_all
 | some x=>
  obtain⟨a,b,c,d,_⟩:=x
  simp_all
theorem uV(op:Int):hZ op=some (mt op,()):=by
 unfold hZ mt
 grind
structure jb (n m:Int) (i:DIn):Prop where
 op:0<=i.1/\i.1<=24
 a:0<=i.2.1/\i.2.1 < 8/\(qd i.1=false->i.2.1=0)
 b:0<=i.2.2.1/\i.2.2.1 < 8/\(qM i.1=false->i.2.2.1=0)
 c:0<=i.2.2.2.1/\i.2.2.2.1 < 8/\(qc i.1=false->i.2.2.2.1=0)
 imm:0<=i.2.2.2.2/\i.2.2.2.2<=65535/\(qb i.1=false->i.2.2.2.2=0)
 lea:i.1=15->i.2.2.2.2 < n
 sys:i.1=23->i.2.2.2.2<=15
 jmp:mt i.1=true->i.2.2.2.2 < m
theorem ins_mk{n m o a b c i:Int}(ho:0<=o/\o<=24) (ha:0<=a/\a < 8) (hb:0<=b/\b < 8) (hc:0<=c/\c < 8) (hi:0<=i/\i<=65535) (hA:qd o=true\/a=0) (hB:qM o=true\/b=0) (hC:qc o=true\/c=0) (hI:qb o=true\/i=0)
 (hl:o=15->i < n) (hs:o=23->i<=15) (hj:mt o=true->i < m):jb n m (o,a,b,c,i):=
 ⟨ho,⟨ha.1,ha.2,λh=>hA.elim (λh'=>by simp_all) id⟩,⟨hb.1,hb.2,λh=>hB.elim (λh'=>by simp_all) id⟩,
  ⟨hc.1,hc.2,λh=>hC.elim (λh'=>by simp_all) id⟩,⟨hi.1,hi.2,λh=>hI.elim (λh'=>by simp_all) id⟩,hl,hs,hj⟩
theorem Ft{n m r v:Int}(h:0<=r/\r < 8) (hv:0<=v/\v<=65535):jb n m (1,r,0,0,v):=ins_mk (by decide) h (by decide) (by decide) hv (.inl (by decide)) (.inr rfl) (.inr rfl) (.inl (by decide)) (by omega) (by omega) (λh=>absurd h (by decide))
theorem HM{n m r v:Int}(h:0<=r/\r < 8) (hv:0<=v/\v < 8):jb n m (2,r,v,0,0):=ins_mk (by decide) h hv (by decide) (by decide) (.inl (by decide)) (.inl (by decide)) (.inr rfl) (.inr rfl) (by omega) (by omega) (λh=>absurd h (by decide))
theorem zP{n m v:Int}(hv:0<=v/\v<=15):jb n m (23,0,0,0,v):=ins_mk (by decide) (by decide) (by decide) (by decide) (by omega) (.inr rfl) (.inr rfl) (.inr rfl) (.inl (by decide)) (by omega) (by omega) (λh=>absurd h (by decide))
theorem HQ{n m r v:Int}(h:0<=r/\r < 8) (hv:0<=v/\v < n) (hn:n<=4):jb n m (15,r,0,0,v):=ins_mk (by decide) h (by decide) (by decide) (by omega) (.inl (by decide)) (.inr rfl) (.inr rfl) (.inl (by decide)) (by omega) (by omega) (λh=>absurd h (by decide))
theorem Ln{n m o a b v:Int}(ho:o=16\/o=17) (h:0<=a/\a < 8) (hb:0<=b/\b < 8) (hv:0<=v/\v<=65535):jb n m (o,a,b,0,v):=by
 rcases ho with rfl | rfl
 all_goals exact ins_mk (by decide) h hb (by decide) hv (.inl (by decide)) (.inl (by decide)) (.inr rfl) (.inl (by decide)) (by omega) (by omega) (λh=>absurd h (by decide))
theorem HI{n m o a b c:Int}(ho:3<=o/\o<=14) (h:0<=a/\a < 8) (hb:0<=b/\b < 8) (hc:0<=c/\c < 8):jb n m (o,a,b,c,0):=
 ins_mk (by omega) h hb hc (by decide) (.inl (by unfold qd;simp;omega)) (.inl (by unfold qM;simp;omega)) (.inl (by unfold qc;simp;omega)) (.inr rfl) (by omega) (by omega) (λh=>by unfold mt at h;simp at h;omega)
theorem QS{n m v:Int}(hv:0<=v/\v<=65535) (hm:v < m):jb n m (18,0,0,0,v):=ins_mk (by decide) (by decide) (by decide) (by decide) hv (.inr rfl) (.inr rfl) (.inr rfl) (.inl (by decide)) (by omega) (by omega) (λ_=>hm)
theorem Qx{n m:Int}:jb n m (24,0,0,0,0):=ins_mk (by decide) (by decide) (by decide) (by decide) (by decide) (.inr rfl) (.inr rfl) (.inr rfl) (.inr rfl) (by omega) (by omega) (λh=>absurd h (by decide))
theorem jb.mono{n m m':Int}{i:DIn}(h:jb n m i) (hm:m<=m'):jb n m' i:=⟨h.op,h.a,h.b,h.c,h.imm,h.lea,h.sys,λhj=>by have:=h.jmp hj;omega⟩
theorem H4{n m a v:Int}(h:0<=a/\a < 8) (hv:0<=v/\v<=65535) (hm:v < m):jb n m (20,a,0,0,v):=ins_mk (by decide) h (by decide) (by decide) hv (.inl (by decide)) (.inr rfl) (.inr rfl) (.inl (by decide)) (by omega) (by omega) (λ_=>hm)
theorem OR{n XZ k:Int}{l:List Int}(h:DOk l k) (hn:1<=n/\n<=4) (hm:1<=XZ/\XZ<=100):Ok (pA n XZ l k) λr=>∃o a b c i k',r=(o,a,b,c,i,l,k',())/\jb n XZ (o,a,b,c,i)/\DOk l k':=by
 unfold pA
 (with_reducible refine fY (by assumption) (by omega) (by omega) (λv0 k0 a0 b0 d0=>?_);try dsimp only)
 rw[Hq (by omega) (by omega)];simp only[oBS];refine Ok.bind (P:=λr=>∃x k',r=(n,XZ,l,k',0,0,0,0,0,v0,x,0,0,0,qd v0,qM v0,qc v0,qb v0,())/\0<=x/\x < 8/\(qd v0=false->x=0)/\DOk l k') ?_ ?_
 ·refine Ok.cond (λhc=>?_) λhc=>Ok.ret ⟨_,_,rfl,by omega,by omega,λ_=>rfl,d0⟩
  (with_reducible refine fY (by assumption) (by omega) (by omega) (λv1 k1 a1 b1 d1=>?_);try dsimp only)
  exact Ok.ret ⟨_,_,rfl,a1,b1,(λhh=>by rw[hc] at hh;cases hh),d1⟩
 rintro _ ⟨xa,k1,rfl,ha0,XC,WW,d1⟩;dsimp only;refine Ok.bind (P:=λr=>∃x k',r=(n,XZ,l,k',0,0,0,0,0,v0,xa,x,0,0,qd v0,qM v0,qc v0,qb v0,())/\0<=x/\x < 8/\(qM v0=false->x=0)/\DOk l k') ?_ ?_
 ·refine Ok.cond (λhc=>?_) λhc=>Ok.ret ⟨_,_,rfl,by omega,by omega,λ_=>rfl,d1⟩
  (with_reducible refine fY (by assumption) (by omega) (by omega) (λv2 k2 a2 b2 d2=>?_);try dsimp only)
  exact Ok.ret ⟨_,_,rfl,a2,b2,(λhh=>by rw[hc] at hh;cases hh),d2⟩
 rintro _ ⟨xb,k2,rfl,hb0,hb1,ZZ,d2⟩;dsimp only;refine Ok.bind (P:=λr=>∃x k',r=(n,XZ,l,k',0,0,0,0,0,v0,xa,xb,x,0,qd v0,qM v0,qc v0,qb v0,())/\0<=x/\x < 8/\(qc v0=false->x=0)/\DOk l k') ?_ ?_
 ·refine Ok.cond (λhc=>?_) λhc=>Ok.ret ⟨_,_,rfl,by omega,by omega,λ_=>rfl,d2⟩
  (with_reducible refine fY (by assumption) (by omega) (by omega) (λv3 k3 a3 b3 d3=>?_);try dsimp only)
  exact Ok.ret ⟨_,_,rfl,a3,b3,(λhh=>by rw[hc] at hh;cases hh),d3⟩
 rintro _ ⟨xc,k3,rfl,hc0,ZW,ZO,d3⟩;dsimp only;rw[uV];simp only[oBS];refine Ok.bind (P:=λr=>∃x k',r=(l,k',0,0,0,0,0,v0,xa,xb,xc,x,())/\0<=x/\x<=65535/\(qb v0=false->x=0)/\(v0=15->x < n)/\(v0=23->x<=15)/\(mt v0=true->x < XZ)/\DOk l k') ?_ ?_
 ·refine Ok.cond (λhj=>?_) λhj=>?_
  ·(with_reducible refine fY (by assumption) (by omega) (by omega) (λv4 k4 a4 b4 d4=>?_);try dsimp only)
   have hne:v0≠15/\v0≠23:=by constructor<;>(rintro rfl;exact absurd hj (by decide))
   exact Ok.ret ⟨_,_,rfl,a4,by omega,(λhh=>by
    have:qb v0=true:=by unfold mt at hj;unfold qb;simp at hj ⊢;omega
    rw[this] at hh;cases hh),by omega,by omega,λ_=>b4,d4⟩
  ·(with_reducible refine dM (λUc=>?_) λUc=>?_)
   ·subst Uc
    (with_reducible refine fY (by assumption) (by omega) (by omega) (λv4 k4 a4 b4 d4=>?_);try dsimp only)
    exact Ok.ret ⟨_,_,rfl,a4,by omega,λhh=>absurd hh (by decide),by omega,by omega,λhh=>absurd hh (by decide),d4⟩
   ·(with_reducible refine dM (λhc6=>?_) λhc6=>?_)
    ·subst hc6
     (with_reducible refine fY (by assumption) (by omega) (by omega) (λv4 k4 a4 b4 d4=>?_);try dsimp only)
     exact Ok.ret ⟨_,_,rfl,a4,by omega,λhh=>absurd hh (by decide),by omega,by omega,λhh=>absurd hh (by decide),d4⟩
    ·refine Ok.cond (λhu=>?_) λhu=>?_
     ·(with_reducible refine IQ (by assumption) (λv4 k4 a4 b4 d4=>?_);try dsimp only)
      (simp (disch:=omega) only [dU,eu,d8,d7])
      exact Ok.ret ⟨_,_,rfl,a4,by omega,(λhh=>by rw[hu] at hh;cases hh),by omega,by omega,(λhh=>by rw[show mt v0=false from hj] at hh;cases hh),d4⟩
     ·exact Ok.ret ⟨_,_,rfl,by omega,by omega,λ_=>rfl,by omega,by omega,(λhh=>by rw[show mt v0=false from hj] at hh;cases hh),d3⟩
 rintro _ ⟨xi,k4,rfl,hi0,WX,Xs,hi3,hi4,hi5,d4⟩;exact Ok.ret ⟨_,_,_,_,_,_,rfl,⟨⟨a0,by dsimp only;omega⟩,⟨ha0,XC,WW⟩,⟨hb0,hb1,ZZ⟩,⟨hc0,ZW,ZO⟩,⟨hi0,WX,Xs⟩,hi3,hi4,hi5⟩,d4⟩
theorem of{α β:Type}{l:List α}{i:Nat}{f:α->Option β}{Q:β->Prop}(P:α->Prop) (h:i < l.length) (hP:∀x∈l,P x) (h2:∀a,P a->Ok (f a) Q):Ok ((dO l i).bind f) Q:=Ok.get h λa ha=>h2 a (hP a (dR ha))
theorem eG{α:Type}{P:α->Prop}:∀x∈([]:List α),P x:=λ_ h=>by cases h
theorem all_cons{α:Type}{P:α->Prop}{a:α}{l:List α}(h:P a) (h2:∀x∈l,P x):∀x∈a :: l,P x:=by
 simp_all
theorem RY(a b:Int):jy a b=some (1,a,0,0,b,()):=rfl
theorem RU(a b:Int):nQ a b=some (2,a,b,0,0,()):=rfl
theorem PA(a:Int):iT a=some (23,0,0,0,a,()):=rfl
theorem Tg{x:Int}(h:1<=x):1<=mmR false 5 x/\mmR false 5 x<=5:=by
 unfold mmR;simp;omega
def JS(n at_:Int) (l:List Int) (r:List DIn×List Int×Int×Unit):Prop:=∃xs k',r=(xs,l,k',())/\1<=xs.length/\xs.length<=6/\(∀i∈xs,jb n (at_+xs.length) i)/\DOk l k'
theorem Dg{n at_:Int}{l:List Int}{xs:List DIn}{k:Int}(h1:1<=xs.length/\xs.length<=6) (h2:∀i∈xs,jb n (at_+xs.length) i) (h3:DOk l k):Ok (some (xs,l,k,())) (JS n at_ l):=Ok.ret ⟨xs,k,rfl,h1.1,h1.2,h2,h3⟩
theorem QG{s l:List Int}{at_ k:Int}(h:DOk l k) (hs:xG s) (ha:0<=at_/\at_<=99):Ok (q7 s (at_+1) at_ l k) (JS s.length at_ l):=by
 obtain⟨hs1,W2,hsz⟩:=hs
 have hn:1<=(s.length:Int)/\(s.length:Int)<=4:=by omega
 unfold q7;delta dQ;simp only[RY,RU,PA,oBS]
 (with_reducible refine fY (by assumption) (by omega) (by omega) (λvr kr ar br dr=>?_);try dsimp only)
 refine Ok.nat (by omega) λj hj=>?_;refine of (λa=>1<=a/\a<=32) (by omega) hsz λz hz=>?_
 (simp (disch:=omega) only [dU,eu,d8,d7])
 have h5:=Tg (x:=z+1) (by omega);generalize mmR false 5 (z+1)=mm at h5
 (with_reducible refine fY (by assumption) (by omega) (by omega) (λvu ku au bu du=>?_);try dsimp only)
 (with_reducible refine fY (by assumption) (by omega) (by omega) (λvw kw aw bw dw=>?_);try dsimp only)
 iterate 19
  (with_reducible refine dM (λhcc=>?_) λhcc=>?_)
  ·repeat (first | (simp (disch:=omega) only [dU,eu,d8,d7]) | (with_reducible refine fY (by assumption) (by omega) (by omega) (λv k a b d=>?_);try dsimp only) | (with_reducible refine IQ (by assumption) (λv k a b d=>?_);try dsimp only) | (with_reducible refine Ok.nat (by omega) (λj hj=>?_);try dsimp only) | ((with_reducible first | refine of (λa=>1<=a/\a<=32) (by omega) (by assumption) (λe he=>?_) | refine of (λa=>3<=a/\a<=14) (by simp only[oLC,List.length_nil];omega) (by (first | exact (all_cons (by omega) (all_cons (by omega) eG)) | exact (all_cons (by omega) (all_cons (by omega) (all_cons (by omega) eG))) | exact (all_cons (by omega) (all_cons (by omega) (all_cons (by omega) (all_cons (by omega) (all_cons (by omega) (all_cons (by omega) (all_cons (by omega) (all_cons (by omega) eG)))))))))) (λe he=>?_) | refine of (λa=>0<=a/\a<=15) (by simp only[oLC,List.length_nil];omega) (by (first | exact (all_cons (by omega) (all_cons (by omega) eG)) | exact (all_cons (by omega) (all_cons (by omega) (all_cons (by omega) eG))) | exact (all_cons (by omega) (all_cons (by omega) (all_cons (by omega) (all_cons (by omega) (all_cons (by omega) (all_cons (by omega) (all_cons (by omega) (all_cons (by omega) eG)))))))))) (λe he=>?_) | refine of (λa=>1<=a/\a<=100) (by simp only[oLC,List.length_nil];omega) (by (first | exact (all_cons (by omega) (all_cons (by omega) eG)) | exact (all_cons (by omega) (all_cons (by omega) (all_cons (by omega) eG))) | exact (all_cons (by omega) (all_cons (by omega) (all_cons (by omega) (all_cons (by omega) (all_cons (by omega) (all_cons (by omega) (all_cons (by omega) (all_cons (by omega) eG)))))))))) (λe he=>?_));try dsimp only) | (with_reducible refine dL (dY (by first | omega | simp)) ?_;try dsimp only) | (refine of (λ(a:List DIn)=>(1<=a.length/\a.length<=6)/\∀i∈a,jb s.length (at_+a.length) i) (by simp only[oLC,List.length_nil];omega) (all_cons ⟨by simp,by ((repeat' (first | exact eG | refine all_cons ?_ ?_ | exact Ft (by omega) (by omega) | exact HM (by omega) (by omega) | exact zP (by omega) | exact HQ (by omega) (by omega) (by omega) | exact Ln (by omega) (by omega) (by omega) (by omega) | exact HI (by omega) (by omega) (by omega) (by omega) | exact H4 (by omega) (by omega) (by simp only[oLC,List.length_nil];omega)));done)⟩ (all_cons ⟨by simp,by ((repeat' (first | exact eG | refine all_cons ?_ ?_ | exact Ft (by omega) (by omega) | exact HM (by omega) (by omega) | exact zP (by omega) | exact HQ (by omega) (by omega) (by omega) | exact Ln (by omega) (by omega) (by omega) (by omega) | exact HI (by omega) (by omega) (by omega) (by omega) | exact H4 (by omega) (by omega) (by simp only[oLC,List.length_nil];omega)));done)⟩ eG)) (λe he=>?_);try dsimp only))
   first
    | exact Dg he.1 he.2 (by assumption)
    | (refine Dg (by simp) ?_ (by assumption);try simp only[List.append_eq,List.cons_append,List.nil_append]
       ((repeat' (first | exact eG | refine all_cons ?_ ?_ | exact Ft (by omega) (by omega) | exact HM (by omega) (by omega) | exact zP (by omega) | exact HQ (by omega) (by omega) (by omega) | exact Ln (by omega) (by omega) (by omega) (by omega) | exact HI (by omega) (by omega) (by omega) (by omega) | exact H4 (by omega) (by omega) (by simp only[oLC,List.length_nil];omega)));done))
 refine (OR (by assumption) hn (by omega)).bind ?_;rintro _ ⟨o,a,b,c,i,k',rfl,hi,hd⟩;exact Dg (by simp) (all_cons (hi.mono (by simp)) eG) hd
theorem jZ{α:Type}{P:α->Prop}{l m:List α}(h:∀x∈l,P x) (h2:∀x∈m,P x):∀x∈List.append l m,P x:=λx hx=>(List.mem_append.1 (show x∈l++m from hx)).elim (h x) (h2 x)
theorem fC{α:Type}(l m:List α):(List.append l m).length=l.length+m.length:=List.length_append
theorem qJ{l:List Int}{k n:Int}(h:DOk l k) (hn:0<=n/\n<=1000):Ok (gJ n l k) λr=>∃ws k',r=(ws,l,k',())/\(ws.length:Int)<=n/\(∀w∈ws,W16 w)/\DOk l k':=by
 unfold gJ
 (simp (disch:=omega) only [dU,eu,d8,d7])
 (with_reducible refine fY (by assumption) (by omega) (by omega) (λv0 k0 a0 b0 d0=>?_);try dsimp only)
 refine Ok.loop (P:=λ((c,l',k',s,_):Int×List Int×Int×List Int×Unit)=>l'=l/\DOk l k'/\0<=c/\c+s.length<=n/\∀x∈s,W16 x)
  (R:=λ((_,_,l',k',s,_):Int×Bool×List Int×Int×List Int×Unit)=>l'=l/\DOk l k'/\(s.length:Int)<=n/\∀x∈s,W16 x) (m:=λs=>s.1.toNat) ⟨rfl,d0,a0,by simp;omega,eG⟩ (by unfold NN;dsimp only;omega) ?_ ?_
 ·rintro⟨c,l',k3,s,_⟩ ⟨rfl,X0,hc0,VG,hs⟩;unfold sD;dsimp only
  (with_reducible refine dM (λhcc=>?_) λhcc=>?_)
  ·(with_reducible refine IQ (by assumption) (λv1 k1 a1 b1 d1=>?_);try dsimp only)
   refine dL (dY (by simp;omega)) ?_
   (simp (disch:=omega) only [dU,eu,d8,d7])
   exact Ok.ret ⟨⟨rfl,by omega,by omega,by rw[fC];simp;omega,jZ hs (all_cons ⟨a1,b1⟩ eG)⟩,by omega⟩
  ·exact Ok.ret ⟨rfl,X0,by dsimp only;omega,hs⟩
 ·rintro⟨a,b,l',k3,s,_⟩ ⟨rfl,X0,hs,hw⟩;exact Ok.ret ⟨_,_,rfl,hs,hw,X0⟩
structure jE (code:List DIn) (s:List Int) (d:List (List Int)):Prop where
 sz:xG s
 len:d.length=s.length
 fit:∀(j:Nat) x n,d[j]?=some x->s[j]?=some n->(x.length:Int)<=n
 num:∀x∈d,∀w∈x,W16 w
 clen:1<=code.length/\code.length<=64
 ins:∀i∈code,jb s.length code.length i
theorem Jx{code:List DIn}{s:List Int}{d:List (List Int)}{l:List Int}{k:Int}(hp:jE code s d) :
 Ok (dW iC NN ((code.length:Int),0,l,k,(),(),(),code,s,d,())) λr=>∃a b c,r=(a,b,c,l,k,(),(),(),code,s,d,()):=by
 have:=Ok.loop (f:=iC) (n:=NN) (Q:=λr=>∃a b c,r=(a,b,c,l,k,(),(),(),code,s,d,())) (s:=((code.length:Int),0,l,k,(),(),(),code,s,d,()))
  (P:=λs'=>∃i:Int,s'=((code.length:Int),i,l,k,(),(),(),code,s,d,())/\0<=i/\i<=code.length) (R:=λr=>∃a b c,r=(a,b,c,l,k,(),(),(),code,s,d,())) (m:=λs=>(s.1 - s.2.1).toNat) ⟨0,rfl,by omega,by omega⟩ (by unfold NN;dsimp only;have:=hp.clen;omega) ?_ (λt ht=>Ok.ret ht)
 ·simp_all
 ·rintro _ ⟨i,rfl,hi0,WX⟩;unfold iC;dsimp only;have hc:=hp.clen
  (with_reducible refine dM (λhcc=>?_) λhcc=>?_)
  ·refine Ok.bind (P:=λr=>r=((code.length:Int),i,l,k,(),(),(),code,s,d,())) ?_ ?_
   ·(with_reducible refine Ok.nat (by omega) (λj hj=>?_);try dsimp only)
    refine Ok.get (by omega) λx hx=>?_;have hin:=hp.ins x (dR hx);rw[uV];refine Ok.cond (λhjp=>?_) λ_=>Ok.ret rfl;refine Ok.nat (by omega) λj2 XD=>?_;refine Ok.get (by omega) λy hy=>?_
    have hjj:j2=j:=by omega
    subst hjj;rw[hx] at hy
    injection hy with hy
    subst hy;have:=hin.jmp hjp;refine Ok.cond (λhcc=>?_) (λhcc=>?_)
    ·have h9:(x.2.2.2.2:Int)>=(code.length:Int):=of_decide_eq_true hcc;omega
    ·exact Ok.ret rfl
   ·rintro _ rfl;dsimp only
    (simp (disch:=omega) only [dU,eu,d8,d7])
    exact Ok.ret ⟨⟨i+1,rfl,by omega,by omega⟩,by dsimp only;omega⟩
  ·exact Ok.ret ⟨_,_,_,rfl⟩
theorem Kn{l:List Int}{k:Int}(h:DOk l k):Ok (mJ l k) λr=>∃code s d k',r=(code,s,d,l,k',())/\jE code s d/\DOk l k':=by
 unfold mJ;refine (NX h).bind ?_;rintro _ ⟨s,k1,rfl,hs,hd⟩;obtain⟨hs1,W2,hsz⟩:=id hs;dsimp only;delta dQ
 try dsimp only
 refine Ok.loop (P:=λs'=>∃k' d,s'=((s.length:Int),(d.length:Int),l,k',(),(),(),(),s,d,())/\DOk l k'/\d.length<=s.length/\(∀(j:Nat) x n,d[j]?=some x->s[j]?=some n->(x.length:Int)<=n)/\∀x∈d,∀w∈x,W16 w)
  (R:=λr=>∃a b c k' d,r=(a,b,c,l,k',(),(),(),(),s,d,())/\DOk l k'/\d.length=s.length/\(∀(j:Nat) x n,d[j]?=some x->s[j]?=some n->(x.length:Int)<=n)/\∀x∈d,∀w∈x,W16 w)
  (m:=λs=>(s.1 - s.2.1).toNat) ⟨k1,[],rfl,hd,by simp,by simp,eG⟩ (by unfold NN;dsimp only;omega) ?_ ?_
 ·rintro _ ⟨k',d,rfl,Yy,hdl,ZQ,Xu⟩;unfold qg;dsimp only
  (with_reducible refine dM (λhcc=>?_) λhcc=>?_)
  ·(with_reducible refine Ok.nat (by omega) (λj hj=>?_);try dsimp only)
   refine Ok.get (by omega) λx hx=>?_;refine Ok.get (by omega) λy hy=>?_
   have ZR:j=d.length:=by omega
   subst ZR;have Xl:=hsz y (dR hy);refine (qJ Yy ⟨by omega,by omega⟩).bind ?_;rintro _ ⟨ws,k2,rfl,Vm,hww,hd2⟩;dsimp only;refine dL (dY (by simp;omega)) ?_
   (simp (disch:=omega) only [dU,eu,d8,d7])
   refine Ok.ret ⟨⟨k2,List.append d [ws],by rw[fC];simp,hd2,by rw[fC];simp;omega,?_,jZ Xu (all_cons hww eG)⟩,by dsimp only;omega⟩;intro i x n hx hn;rw[show List.append d [ws]=d++[ws] from rfl,List.getElem?_append] at hx;split at hx
   ·exact ZQ i x n hx hn
   ·rename_i We
    have:i - d.length=0:=by
     rcases Nat.eq_zero_or_pos (i - d.length) with h | h
     ·exact h
     ·rw[oGN (by simp;omega)] at hx;cases hx
    have hi:i=d.length:=by omega
    subst hi;simp at hx;subst hx;rw[hy] at hn
    injection hn with hn
    omega
  ·exact Ok.ret ⟨_,_,_,_,_,rfl,Yy,by omega,ZQ,Xu⟩
 rintro _ ⟨a,b,c,k2,d,rfl,hd2,hdl,ZQ,Xu⟩;dsimp only
 (with_reducible refine fY (by assumption) (by omega) (by omega) (λv0 k0 a0 b0 d0=>?_);try dsimp only)
 (simp (disch:=omega) only [dU,eu,d8,d7])
 refine Ok.loop (P:=λs'=>∃i k' code,s'=(i,l,k',(),(),(),code,s,d,())/\0<=i/\i<=12/\DOk l k'/\code.length<=62/\∀i∈code,jb s.length code.length i)
  (R:=λr=>∃a b k' code,r=(a,b,l,k',(),(),(),code,s,d,())/\DOk l k'/\code.length<=62/\∀i∈code,jb s.length code.length i)
  (m:=λs=>s.1.toNat) ⟨_,_,[],rfl,by omega,by omega,d0,by simp,eG⟩ (by unfold NN;dsimp only;omega) ?_ ?_
 ·rintro _ ⟨i,k',code,rfl,hi0,WX,Yy,Zd,Yo⟩;unfold qf;dsimp only
  (with_reducible refine dM (λhcc=>?_) λhcc=>?_)
  ·refine Ok.bind (P:=λr=>∃k' code,r=(i,l,k',(),(),(),code,s,d,())/\DOk l k'/\code.length<=62/\∀i∈code,jb s.length code.length i) ?_ ?_
   ·(simp (disch:=omega) only [dU,eu,d8,d7])
    refine (QG Yy hs ⟨by omega,by omega⟩).bind ?_;rintro _ ⟨xs,k3,rfl,Z2,hx6,Vn,X0⟩;dsimp only
    (simp (disch:=omega) only [dU,eu,d8,d7])
    (with_reducible refine dM (λhcc=>?_) λhcc=>?_)
    ·refine dL (dY (by omega)) ?_;refine Ok.ret ⟨_,_,rfl,X0,by rw[fC];omega,?_⟩;rw[fC];exact jZ (λi hi=>(Yo i hi).mono (by omega)) (λi hi=>(Vn i hi).mono (by omega))
    ·exact Ok.ret ⟨_,_,rfl,X0,Zd,Yo⟩
   ·rintro _ ⟨k3,Y3,rfl,X0,hcl2,Xe⟩;dsimp only
    (simp (disch:=omega) only [dU,eu,d8,d7])
    exact Ok.ret ⟨⟨_,_,_,rfl,by omega,by omega,X0,hcl2,Xe⟩,by dsimp only;omega⟩
  ·exact Ok.ret ⟨_,_,_,_,rfl,Yy,Zd,Yo⟩
 rintro _ ⟨a,b,k3,code,rfl,X0,Zd,Yo⟩;dsimp only;refine Ok.bind (P:=λr=>∃k' code,r=(l,k',(),(),(),code,s,d,())/\DOk l k'/\code.length<=63/\∀i∈code,jb s.length (code.length+1) i) ?_ ?_
 ·(with_reducible refine fY (by assumption) (by omega) (by omega) (λv1 k1 a1 b1 d1=>?_);try dsimp only)
  (with_reducible refine dM (λhcc=>?_) λhcc=>?_)
  ·(simp (disch:=omega) only [dU,eu,d8,d7])
   (with_reducible refine fY (by assumption) (by omega) (by omega) (λv2 k2 a2 b2 d2=>?_);try dsimp only)
   refine dL (dY (by simp;omega)) ?_;refine Ok.ret ⟨_,_,rfl,d2,by rw[fC];simp;omega,?_⟩;rw[fC];exact jZ (λi hi=>(Yo i hi).mono (by simp;omega)) (all_cons (QS (by omega) (by simp;omega)) eG)
  ·(with_reducible refine dM (λhcc=>?_) λhcc=>?_)
   ·refine dL (dY (by simp;omega)) ?_;refine Ok.ret ⟨_,_,rfl,d1,by rw[fC];simp;omega,?_⟩;rw[fC];exact jZ (λi hi=>(Yo i hi).mono (by simp;omega)) (all_cons Qx eG)
   ·exact Ok.ret ⟨_,_,rfl,d1,by omega,λi hi=>(Yo i hi).mono (by omega)⟩
 rintro _ ⟨k4,Y3,rfl,hd4,hcl2,Xe⟩;dsimp only
 (with_reducible refine fY (by assumption) (by omega) (by omega) (λv3 k3 a3 b3 d3=>?_);try dsimp only)
 simp only[RY,PA,oBS];refine dL (dY (by simp;omega)) ?_;simp only[fC];refine Ok.cond (λhc=>?_) λ_=>?_
 ·have ZP:∀i∈List.append Y3 [(1,0,0,0,v3),(23,0,0,0,0)],jb s.length (Y3.length+1) i:=jZ Xe (all_cons (Ft (by omega) (by omega)) (all_cons (zP (by omega)) eG));simp only[oDE] at hc
  have hcn:(Y3.length:Int)+2 > 64:=by
   have:((Y3.length + [((1:Int),(0:Int),(0:Int),(0:Int),v3),(23,0,0,0,0)].length:Nat):Int) > 64:=hc;simpa using this
  have h63:Y3.length=63:=by omega
  refine dL (by rw[h63];rfl) ?_
  have hlen:(kU (List.append Y3 [((1:Int),(0:Int),(0:Int),(0:Int),v3),(23,0,0,0,0)]) 0 (Nat.sub 64 0)).length=64:=by
   unfold kU;rw[oLT,List.drop_zero,fC,h63];rfl
  have hp:jE (kU (List.append Y3 [((1:Int),(0:Int),(0:Int),(0:Int),v3),(23,0,0,0,0)]) 0 (Nat.sub 64 0)) s d:=by
   refine⟨hs,hdl,ZQ,Xu,by rw[hlen];decide,λi hi=>?_⟩;rw[hlen];refine (ZP i ?_).mono (by omega);unfold kU at hi;exact List.mem_of_mem_drop (List.mem_of_mem_take hi)
  refine (Jx (l:=l) (k:=_) hp).bind ?_;rintro _ ⟨a,b,c,rfl⟩;exact Ok.ret ⟨_,_,_,_,rfl,hp,d3⟩
 ·have hp:jE (List.append Y3 [(1,0,0,0,v3),(23,0,0,0,0)]) s d:=by
   refine⟨hs,hdl,ZQ,Xu,?_,?_⟩
   ·rw[fC];rename_i hc;have hcn:¬ ((Y3.length + [((1:Int),(0:Int),(0:Int),(0:Int),v3),(23,0,0,0,0)].length:Nat):Int) > 64:=of_decide_eq_false hc;simp only[oLC,List.length_nil] at hcn ⊢;omega
   ·rw[fC];exact jZ (λi hi=>(Xe i hi).mono (by simp)) (all_cons (Ft (by omega) (by omega)) (all_cons (zP (by omega)) eG))
  have hf:=Jx (l:=l) (k:=k3) hp;rw[fC] at hf;refine hf.bind ?_;rintro _ ⟨a,b,c,rfl⟩;exact Ok.ret ⟨_,_,_,_,rfl,hp,d3⟩
theorem JN{P:Int->Prop}{s:List Int}{i:Nat}{x:Int}(h:∀(j:Nat) y,j < i->s[j]?=some y->P y) (hx:s[i]?=some x) (hp:P x):∀(j:Nat) y,j < i+1->s[j]?=some y->P y:=by
 grind
theorem Hp{s:List Int}(hl:s.length<=1000):Ok (gH s) λr=>r.1=true↔xG s:=by
 unfold gH;delta dQ
 try dsimp only
 obtain⟨t,e,ht⟩:=gK (f:=nu) (n:=NN) (s:=(s,s,(s.length:Int),0,())) (P:=λs'=>∃i:Nat,s'=(s,s,(s.length:Int),(i:Int),())/\i<=s.length/\∀(j:Nat) y,j < i->s[j]?=some y->1<=y/\y<=32)
  (R:=λr=>(r=.inl (false,())/\∃y∈s,¬ (1<=y/\y<=32))\/((∃a b c d,r=.inr (s,a,b,c,d,()))/\∀y∈s,1<=y/\y<=32)) (m:=λs'=>(s'.2.2.1 - s'.2.2.2.1).toNat) ⟨0,rfl,by omega,λj y hj=>by omega⟩ (by unfold NN;dsimp only;omega) (by
   rintro _ ⟨i,rfl,hi,ZP⟩;unfold nu
   (with_reducible refine dM (λhcc=>?_) λhcc=>?_)
   ·rw[dP];refine Ok.get (by omega) λx hx=>?_
    (with_reducible refine dM (λXo=>?_) λXo=>?_)
    ·exact Ok.ret (.inl ⟨rfl,x,dR hx,by omega⟩)
    ·(with_reducible refine dM (λWn=>?_) λWn=>?_)
     ·exact Ok.ret (.inl ⟨rfl,x,dR hx,by omega⟩)
     ·(simp (disch:=omega) only [dU,eu,d8,d7])
      exact Ok.ret ⟨⟨i+1,rfl,by omega,JN ZP hx ⟨by omega,by omega⟩⟩,by dsimp only;omega⟩
   ·refine Ok.ret (.inr ⟨⟨_,_,_,_,rfl⟩,λy hy=>?_⟩);have ⟨j,hj⟩:=List.getElem?_of_mem hy
    exact ZP j y (by have:=(oGS hj).1;omega) hj)
 rw[e];rcases ht with ⟨rfl,y,hy,hn⟩ | ⟨⟨a,b,c,d,rfl⟩,ZP⟩
 ·exact Ok.ret ⟨λh=>(by cases h),λh=>absurd (h.2.2 y hy) hn⟩
 ·dsimp only
  (with_reducible refine dM (λhcc=>?_) λhcc=>?_)
  ·exact Ok.ret ⟨λh=>⟨by omega,(by have:=of_decide_eq_true h;omega),ZP⟩,λh=>oDT (by have:=h.2.1;omega)⟩
  ·exact Ok.ret ⟨λh=>(by cases h),λh=>by have:=h.1;omega⟩
abbrev VS(xs:List Int):Prop:=xG xs
theorem Na{l:List Int}{k:Nat}(h:k < l.length):l.getD k 0=l[k]:=by simp[List.getD,h]
def p6(bs ss:List Int) (i:Nat):Prop:=
 0<=bs.getD i 0/\bs.getD i 0+ss.getD i 0<=512/\∀k,k < i->¬ (bs.getD i 0<=bs.getD k 0+ss.getD k 0/\bs.getD k 0<=bs.getD i 0+ss.getD i 0)
def LV(bs ss:List Int):Prop:=VS ss/\bs.length=ss.length/\∀i,i < bs.length->p6 bs ss i
theorem VS.at_{ss:List Int}(h:VS ss) {i:Nat}(hi:i < ss.length):1<=ss[i]/\ss[i]<=32:=h.2.2 _ (List.getElem_mem hi)
def um(ss:List Int) (seed:Int):Nat->List Int×Int
 | 0=>(List.replicate ss.length 0,1+seed / ss.length % 50)
 | k+1=>((um ss seed k).1.set (((k+seed) % ss.length).toNat) (um ss seed k).2,(um ss seed k).2+(ss.getD ((k+seed) % ss.length).toNat 0+1+seed / (50*ss.length) % 40))
def mkB(ss:List Int) (seed:Int):List Int:=(um ss seed ss.length).1
theorem OL(ss:List Int) (seed:Int) (k:Nat):(um ss seed k).1.length=ss.length:=by
 induction k with
 | zero=>simp[um]
 | succ k ih=>simp[um,ih]
theorem VS.getD{ss:List Int}(h:VS ss) {i:Nat}(hi:i < ss.length):1<=ss.getD i 0/\ss.getD i 0<=32:=by rw[Na hi];exact h.at_ hi
theorem PD{n k:Nat}{seed:Int}(hn:1<=n):0<=((k:Int)+seed) % n/\((k:Int)+seed) % n < n:=
 ⟨Int.emod_nonneg _ (by omega),Int.emod_lt_of_pos _ (by omega)⟩
theorem QL{ss:List Int}{seed:Int}(h:VS ss) (hs:0<=seed) (k:Nat):1<=(um ss seed k).2/\(um ss seed k).2<=50+72*k:=by
 induction k with
 | zero=>simp[um];omega
 | succ k ih=>
  simp only[um];have hr:=PD (k:=k) (seed:=seed) h.1;have:=h.getD (i:=(((k:Int)+seed) % ss.length).toNat) (by omega);omega
theorem MP{ss:List Int}(h0:1<=ss.length) (h1:ss.length<=4):(∃a,ss=[a])\/(∃a b,ss=[a,b])\/(∃a b c,ss=[a,b,c])\/(∃a b c d,ss=[a,b,c,d]):=by
 match ss,h0,h1 with
 | [a],_,_=>simp_all
 | [a,b],_,_=>simp_all
 | [a,b,c],_,_=>simp_all
 | [a,b,c,d],_,_=>simp_all
theorem zk{P:Nat->Prop}(h0:P 0):∀i,i < 1->P i:=by
 simp_all
theorem Db{P:Nat->Prop}(h0:P 0) (h1:P 1):∀i,i < 2->P i:=by
 grind
theorem Je{P:Nat->Prop}(h0:P 0) (h1:P 1) (h2:P 2):∀i,i < 3->P i:=by
 grind
theorem Ot{P:Nat->Prop}(h0:P 0) (h1:P 1) (h2:P 2) (h3:P 3):∀i,i < 4->P i:=by
 grind
def NK(b s:Int):Prop:=0<=b/\b+s<=512
def g8(b s b' s':Int):Prop:=¬ (b<=b'+s'/\b'<=b+s)
theorem LV1{a x:Int}(hv:VS [a]) (h:NK x a):LV [x] [a]:=
 ⟨hv,rfl,zk ⟨h.1,h.2,λk hk=>by omega⟩⟩
theorem LV2{a b x y:Int}(hv:VS [a,b]) (h:NK x a) (h':NK y b) (h1:g8 y b x a):LV [x,y] [a,b]:=
 ⟨hv,rfl,Db ⟨h.1,h.2,λk hk=>by omega⟩ ⟨h'.1,h'.2,zk h1⟩⟩
theorem LV3{a b c x y z:Int}(hv:VS [a,b,c]) (h:NK x a) (h':NK y b) (h'':NK z c) (h1:g8 y b x a) (h2:g8 z c x a) (h3:g8 z c y b):LV [x,y,z] [a,b,c]:=
 ⟨hv,rfl,Je ⟨h.1,h.2,λk hk=>by omega⟩ ⟨h'.1,h'.2,zk h1⟩ ⟨h''.1,h''.2,Db h2 h3⟩⟩
theorem LV4{a b c d x y z u:Int}(hv:VS [a,b,c,d]) (h:NK x a) (h':NK y b) (h'':NK z c) (h''':NK u d) (h1:g8 y b x a) (h2:g8 z c x a) (h3:g8 z c y b) (h4:g8 u d x a) (h5:g8 u d y b) (h6:g8 u d z c):LV [x,y,z,u] [a,b,c,d]:=
 ⟨hv,rfl,Ot ⟨h.1,h.2,λk hk=>by omega⟩ ⟨h'.1,h'.2,zk h1⟩ ⟨h''.1,h''.2,Db h2 h3⟩ ⟨h'''.1,h'''.2,Je h4 h5 h6⟩⟩
theorem PR{ss:List Int}(hv:VS ss) {seed:Int}(hs:0<=seed):LV (mkB ss seed) ss:=by
 have Yp:=hv;rcases MP hv.1 hv.2.1 with ⟨a,rfl⟩ | ⟨a,b,rfl⟩ | ⟨a,b,c,rfl⟩ | ⟨a,b,c,d,rfl⟩
 ·obtain⟨_,_,hx⟩:=hv;have ha:=hx a (by simp)
  have e0:(((0:Nat):Int)+seed) % 1=0:=by omega
  have hB:mkB [a] seed=[1+seed / 1 % 50]:=by simp[mkB,um,List.replicate]
  rw[hB];exact LV1 Yp ⟨by omega,by omega⟩
 ·obtain⟨_,_,hx⟩:=hv;have ha:=hx a (by simp);have hb:=hx b (by simp);rcases (show seed % 2=0\/seed % 2=1 by omega) with ht | ht
  ·have e1:(1+seed) % 2=1:=by omega
   simp only[mkB,um,oLC,List.length_nil,List.replicate];simp[ht,e1];exact LV2 Yp ⟨by omega,by omega⟩ ⟨by omega,by omega⟩ (by unfold g8;omega)
  ·have e1:(1+seed) % 2=0:=by omega
   simp only[mkB,um,oLC,List.length_nil,List.replicate];simp[ht,e1];exact LV2 Yp ⟨by omega,by omega⟩ ⟨by omega,by omega⟩ (by unfold g8;omega)
 ·obtain⟨_,_,hx⟩:=hv;have ha:=hx a (by simp);have hb:=hx b (by simp);have hc:=hx c (by simp);rcases (show seed % 3=0\/seed % 3=1\/seed % 3=2 by omega) with ht | ht | ht
  ·have e1:(1+seed) % 3=1:=by omega
   have e2:(2+seed) % 3=2:=by omega
   simp only[mkB,um,oLC,List.length_nil,List.replicate];simp[ht,e1,e2];exact LV3 Yp ⟨by omega,by omega⟩ ⟨by omega,by omega⟩ ⟨by omega,by omega⟩ (by unfold g8;omega) (by unfold g8;omega) (by unfold g8;omega)
  ·have e1:(1+seed) % 3=2:=by omega
   have e2:(2+seed) % 3=0:=by omega
   simp only[mkB,um,oLC,List.length_nil,List.replicate];simp[ht,e1,e2];exact LV3 Yp ⟨by omega,by omega⟩ ⟨by omega,by omega⟩ ⟨by omega,by omega⟩ (by unfold g8;omega) (by unfold g8;omega) (by unfold g8;omega)
  ·have e1:(1+seed) % 3=0:=by omega
   have e2:(2+seed) % 3=1:=by omega
   simp only[mkB,um,oLC,List.length_nil,List.replicate];simp[ht,e1,e2];exact LV3 Yp ⟨by omega,by omega⟩ ⟨by omega,by omega⟩ ⟨by omega,by omega⟩ (by unfold g8;omega) (by unfold g8;omega) (by unfold g8;omega)
 ·obtain⟨_,_,hx⟩:=hv;have ha:=hx a (by simp);have hb:=hx b (by simp);have hc:=hx c (by simp);have hd:=hx d (by simp)
  have hq:∀q g:Int,q=1+seed / 4 % 50->g=seed / (50*4) % 40->1<=q/\q<=50/\0<=g/\g < 40:=λq g e e'=>by subst e;subst e';omega
  rcases (show seed % 4=0\/seed % 4=1\/seed % 4=2\/seed % 4=3 by omega) with ht | ht | ht | ht
  ·have e1:(1+seed) % 4=1:=by omega
   have e2:(2+seed) % 4=2:=by omega
   have e3:(3+seed) % 4=3:=by omega
   simp only[mkB,um,oLC,List.length_nil,List.replicate];simp[ht,e1,e2,e3];exact LV4 Yp ⟨by omega,by omega⟩ ⟨by omega,by omega⟩ ⟨by omega,by omega⟩ ⟨by omega,by omega⟩ (by unfold g8;omega) (by unfold g8;omega) (by unfold g8;omega) (by unfold g8;omega) (by unfold g8;omega) (by unfold g8;omega)
  ·have e1:(1+seed) % 4=2:=by omega
   have e2:(2+seed) % 4=3:=by omega
   have e3:(3+seed) % 4=0:=by omega
   simp only[mkB,um,oLC,List.length_nil,List.replicate];simp[ht,e1,e2,e3];exact LV4 Yp ⟨by omega,by omega⟩ ⟨by omega,by omega⟩ ⟨by omega,by omega⟩ ⟨by omega,by omega⟩ (by unfold g8;omega) (by unfold g8;omega) (by unfold g8;omega) (by unfold g8;omega) (by unfold g8;omega) (by unfold g8;omega)
  ·have e1:(1+seed) % 4=3:=by omega
   have e2:(2+seed) % 4=0:=by omega
   have e3:(3+seed) % 4=1:=by omega
   simp only[mkB,um,oLC,List.length_nil,List.replicate];simp[ht,e1,e2,e3];exact LV4 Yp ⟨by omega,by omega⟩ ⟨by omega,by omega⟩ ⟨by omega,by omega⟩ ⟨by omega,by omega⟩ (by unfold g8;omega) (by unfold g8;omega) (by unfold g8;omega) (by unfold g8;omega) (by unfold g8;omega) (by unfold g8;omega)
  ·have e1:(1+seed) % 4=0:=by omega
   have e2:(2+seed) % 4=1:=by omega
   have e3:(3+seed) % 4=2:=by omega
   simp only[mkB,um,oLC,List.length_nil,List.replicate];simp[ht,e1,e2,e3];exact LV4 Yp ⟨by omega,by omega⟩ ⟨by omega,by omega⟩ ⟨by omega,by omega⟩ ⟨by omega,by omega⟩ (by unfold g8;omega) (by unfold g8;omega) (by unfold g8;omega) (by unfold g8;omega) (by unfold g8;omega) (by unfold g8;omega)
theorem Kz{α:Type}(l:List α) (i:Nat) (a:α):List.modify l i (λ_=>a)=l.set i a:=by
 apply List.ext_getElem?
 grind
theorem MJ{s:List Int}{seed:Int}(hs:xG s) (h0:0<=seed) (h1:seed<=1073741824):Ok (m6 s seed) λr=>∃key,r=(mkB s seed,key,0,())/\W16 key:=by
 obtain⟨hs1,W2,hsz⟩:=id hs;unfold m6;delta dQ
 try dsimp only
 refine Ok.bind (P:=λr=>r=(s,seed,false,(),0,())) ?_ ?_
 ·refine (Hp (by omega)).bind ?_;rintro⟨v,_⟩ hv;have hv:v=true:=hv.2 hs;subst hv;simp only[oNT,oCF]
  (with_reducible refine dM (λZ3=>?_) λZ3=>?_)
  ·omega
  ·exact Ok.ret (by rw[oDF (by omega)])
 rintro _ rfl;dsimp only;refine Ok.cond (λh=>by cases h) λ_=>?_;rw[dP];simp only[oBS];refine dL (by unfold sK;rw[oBA];exact⟨oDT rfl,oDT (by omega)⟩) ?_;refine dL (by rw[bne_iff_ne];omega) ?_;have YP:Int.tdiv seed s.length=seed / s.length:=Int.tdiv_eq_ediv_of_nonneg h0;have hq:0<=seed / (s.length:Int)/\seed / (s.length:Int)<=seed:=⟨Int.ediv_nonneg h0 (by omega),Int.ediv_le_self _ h0⟩;have hm1:Int.tmod (seed / (s.length:Int)) 50=seed / (s.length:Int) % 50:=Int.tmod_eq_emod_of_nonneg hq.1;rw[YP,dU (x:=seed / (s.length:Int)) (by omega) (by omega),hm1,dU (x:=1+seed / (s.length:Int) % 50) (by omega) (by omega)]
 have X6:W16 (wk .u16 (w64 (40503*seed))):=by
  unfold wk;rw[CZ];exact⟨by omega,by omega⟩
 generalize wk .u16 (w64 (40503*seed))=key at X6
 refine Ok.loop (P:=λs'=>∃k:Nat,s'=(s,seed,(s.length:Int),(um s seed k).2,(s.length:Int),(k:Int),(),0,(um s seed k).1,key,())/\k<=s.length) (R:=λr=>∃a b c d e f g h,r=(a,b,c,d,e,f,g,(),h,(um s seed s.length).1,key,()))
  (m:=λs'=>(s'.2.2.2.2.1 - s'.2.2.2.2.2.1).toNat) ⟨0,rfl,by omega⟩ (by unfold NN;dsimp only;omega) ?_ ?_
 ·rintro _ ⟨k,rfl,hk⟩;unfold sC;dsimp only;have hb:=QL hs h0 k
  (with_reducible refine dM (λhcc=>?_) λhcc=>?_)
  ·have hr:=PD (k:=k) (seed:=seed) hs1;rw[dU (x:=(k:Int)+seed) (by omega) (by omega)];refine dL (by rw[bne_iff_ne];omega) ?_;rw[Int.tmod_eq_emod_of_nonneg (show 0<=(k:Int)+seed by omega)];refine Ok.nat hr.1 λr V1=>?_;have hl:=OL s seed k;refine Ok.get (by omega) λx hx=>?_;refine Ok.get (by omega) λy hy=>?_;refine Ok.nat hr.1 λr2 hrr2=>?_
   have:r2=r:=by omega
   subst this;refine Ok.get (by omega) λz hz=>?_;have Yc:=hsz z (dR hz);rw[dU (x:=z+1) (by omega) (by omega),dU (x:=50*(s.length:Int)) (by omega) (by omega)];refine dL (by rw[bne_iff_ne];omega) ?_;have hd2:Int.tdiv seed (50*(s.length:Int))=seed / (50*s.length):=Int.tdiv_eq_ediv_of_nonneg h0;have Yw:0<=seed / (50*(s.length:Int))/\seed / (50*(s.length:Int))<=seed:=⟨Int.ediv_nonneg h0 (by omega),Int.ediv_le_self _ h0⟩;have VT:Int.tmod (seed / (50*(s.length:Int))) 40=seed / (50*s.length) % 40:=Int.tmod_eq_emod_of_nonneg Yw.1;rw[hd2,dU (x:=seed / (50*(s.length:Int))) (by omega) (by omega),VT];generalize hg:seed / (50*(s.length:Int)) % 40=g
   have ZE:0<=g/\g < 40:=by omega
   rw[dU (x:=z+1+g) (by omega) (by omega),dU (x:=(um s seed k).2+(z+1+g)) (by omega) (by omega),dU (x:=(k:Int)+1) (by omega) (by omega),Kz]
   have e1:(um s seed (k+1)).1=(um s seed k).1.set r2 (um s seed k).2:=by
    simp only[um];rw[V1];rfl
   have e2:(um s seed (k+1)).2=(um s seed k).2+(z+1+g):=by
    simp only[um];rw[V1,hg,oTN,oGD,hz];rfl
   refine Ok.ret ⟨⟨k+1,?_,by omega⟩,by dsimp only;omega⟩;rw[e1,e2];rfl
  ·have:k=s.length:=by omega
   subst this;exact Ok.ret ⟨_,_,_,_,_,_,_,_,rfl⟩
 ·rintro _ ⟨a,b,c,d,e,f,g,h,rfl⟩;exact Ok.ret ⟨key,rfl,X6⟩
theorem kO{S T:Type}{f:S->Option (S⊕T)}(st:Nat->S) {n N:Nat}{t:T}(hn:n < N) (h:∀i,i < n->Ok (f (st i)) (·=.inl (st (i+1)))) (he:Ok (f (st n)) (·=.inr t)):dW f N (st 0)=some t:=by
 have key:∀k i,i+k=n->∀N,k < N->dW f N (st i)=some t:=by
  intro k
  induction k with
  | zero=>
   intro i hi N hN;obtain⟨x,e,hx⟩:=he
   have:i=n:=by omega
   subst this;obtain⟨N',rfl⟩:∃N',N=N'+1:=⟨N - 1,by omega⟩;simp[dW,e,hx]
  | succ k ih=>
   intro i hi N hN;have ⟨x,e,hx⟩:=h i (by omega);obtain⟨N',rfl⟩:∃N',N=N'+1:=⟨N - 1,by omega⟩;simp[dW,e,hx];exact ih (i+1) (by omega) N' (by omega)
 simp_all
theorem fk{α:Type}{o:Option α}{a:α}(h:Ok o (·=a)):o=some a:=by
 obtain⟨x,e,rfl⟩:=h;exact e
theorem ef{l:List Int}{k:Nat}{x:Int}(h:l[k]?=some x):l.getD k 0=x:=by simp_all
theorem Ck{s:List Int}(h:xG s):gH s=some (true,()):=by
 have ⟨⟨v,u⟩,e,hv⟩:=Hp (s:=s) (by have:=h.2.1;omega)
 simp_all
theorem qa{bs ss:List Int}{key:Int}(h:LV bs ss):gG bs key ss=some (true,()):=by
 obtain⟨hs,hl,hr⟩:=h;have h4:=hs.2.1;unfold gG;rw[Ck hs];delta dQ;simp only[oBS,oNT,oCF,hl,bne_self_eq_false]
 have e:dW fN NN (ss,bs,(ss.length:Int),0,bs,key,())=some (.inr (ss,bs,(ss.length:Int),(ss.length:Int),false,bs,key,())):=by
  refine kO (st:=λi=>(ss,bs,(ss.length:Int),(i:Int),bs,key,())) (n:=ss.length) (by unfold NN;omega) ?_ ?_
  ·intro i hi;unfold fN;dsimp only;have hri:=hr i (by omega);unfold p6 at hri
   (with_reducible refine dM (λZ'=>?_) λZ'=>?_)
   ·rw[dP];simp only[oBS];refine Ok.get (by omega) λb hb=>?_;rw[ef hb] at hri
    (with_reducible refine dM (λZ3=>?_) λZ3=>?_)
    ·omega
    ·refine Ok.get (by omega) λz hz=>?_;rw[ef hz] at hri;have Yc:=hs.2.2 z (dR hz)
     (simp (disch:=omega) only [dU,eu,d8,d7])
     (with_reducible refine dM (λhcc=>?_) λhcc=>?_)
     ·omega
     ·refine dL (by unfold ir;simp;omega) ?_
      have Vm:(kU bs 0 (Nat.sub i 0)).length=i:=by unfold kU;rw[oLT,List.drop_zero];show min i _=i;omega
      rw[Vm]
      have e:dW fO NN (ss,(i:Int),b,bs,(ss.length:Int),(i:Int),kU bs 0 (Nat.sub i 0),(i:Int),0,bs,key,())=some (.inr (ss,(i:Int),b,bs,(ss.length:Int),(i:Int),kU bs 0 (Nat.sub i 0),(i:Int),(i:Int),false,bs,key,())):=by
       refine kO (st:=λj=>(ss,(i:Int),b,bs,(ss.length:Int),(i:Int),kU bs 0 (Nat.sub i 0),(i:Int),(j:Int),bs,key,())) (n:=i) (by unfold NN;omega) ?_ ?_
       ·intro j hj;unfold fO;dsimp only
        (with_reducible refine dM (λZ'=>?_) λZ'=>?_)
        ·rw[dP,dP];simp only[oBS]
         have hx:(dO (kU bs 0 (Nat.sub i 0)) j)=bs[j]?:=by
          unfold dO kU;rw[List.getElem?_take,List.drop_zero];exact oIP hj
         rw[hx];obtain⟨c,hc⟩:∃c,bs[j]?=some c:=⟨_,oGE (by omega)⟩;obtain⟨y,hy⟩:∃y,ss[j]?=some y:=⟨_,oGE (by omega)⟩;have Xl:=hs.2.2 y (dR hy);have X4:dO ss i=some z:=hz;have WJ:dO ss j=some y:=hy;rw[hc,X4,WJ];simp only[oBS];have hrj:=(hr j (by omega)).1;have TD:=(hr j (by omega)).2.1;rw[ef hc] at hrj TD;rw[ef hy] at TD;have Wb:=hri.2.2 j hj;rw[ef hc,ef hy] at Wb;rw[dU (x:=b+z) (by omega) (by omega),dU (x:=c+y) (by omega) (by omega)];by_cases h1:b+z>=c
         ·have h2:¬ c+y>=b:=by omega
          simp only[h1,h2,decide_true,decide_false,oCT,oCF]
          (simp (disch:=omega) only [dU,eu,d8,d7])
          exact Ok.ret rfl
         ·simp only[h1,decide_false,oCF]
          (simp (disch:=omega) only [dU,eu,d8,d7])
          exact Ok.ret rfl
        ·omega
       ·unfold fO;dsimp only
        (with_reducible refine dM (λZ'=>?_) λZ'=>?_)
        ·omega
        ·exact Ok.ret rfl
      rw[e]
      (simp (disch:=omega) only [dU,eu,d8,d7])
      exact Ok.ret rfl
   ·omega
  ·unfold fN;dsimp only
   (with_reducible refine dM (λZ'=>?_) λZ'=>?_)
   ·omega
   ·exact Ok.ret rfl
 rw[e]
theorem M0{n m o a b c i:Int}(h:jb n m (o,a,b,c,i)) (hn:n<=4) (hm:m<=64):nM o a b c i=some (true,()):=by
 obtain⟨⟨o0,o1⟩,⟨a0,a1,a2⟩,⟨b0,b1,b2⟩,⟨c0,c1,c2⟩,⟨i0,i1,i2⟩,hl,hs,hj⟩:=h;dsimp only at *
 have Ys:∀(k:Nat) (x:Int) (u:Bool),k < 3->[a,b,c][k]?=some x->(k=0->u=qd o)->(k=1->u=qM o)->(k=2->u=qc o)->0<=x->x < 8->(u=false->x=0) ->
  Ok (kz (3,(k:Int),o,a,b,c,i,qd o,qM o,qc o,qb o,[a,b,c],())) (·=.inl (3,((k+1:Nat):Int),o,a,b,c,i,qd o,qM o,qc o,qb o,[a,b,c],())):=by
  intro k x u hk hx h0 h1 h2 hx0 Z2 Yq;unfold kz;dsimp only
  (with_reducible refine dM (λZ'=>?_) λZ'=>?_)
  ·rw[dP];simp only[oBS];rw[show dO [a,b,c] k=some x from hx];simp only[oBS];rw[oDF (show ¬ x < 0 by omega),oDF (show ¬ x>=8 by omega)];simp only[oCF];have ZY:Ok (some ((3:Int),(k:Int),false,o,a,b,c,i,qd o,qM o,qc o,qb o,[a,b,c],())) (·=((3:Int),(k:Int),false,o,a,b,c,i,qd o,qM o,qc o,qb o,[a,b,c],())):=Ok.ret rfl
   have Ux:u=false->(x != 0)=false:=λh=>by rw[Yq h];rfl
   refine Ok.bind (P:=(·=((3:Int),(k:Int),false,o,a,b,c,i,qd o,qM o,qc o,qb o,[a,b,c],()))) ?_ ?_
   ·rcases (show k=0\/k=1\/k=2 by omega) with rfl | rfl | rfl
    ·rw[<- h0 rfl] at ZY ⊢;refine dL rfl ?_;refine Ok.cond (λhu=>?_) λ_=>ZY;rw[Ux (by simpa using hu)];exact ZY
    ·rw[<- h1 rfl] at ZY ⊢;refine Ok.cond (λhu=>by cases hu) λ_=>dL rfl (Ok.cond (λhu=>?_) λ_=>ZY);rw[Ux (by simpa using hu)];exact ZY
    ·rw[<- h2 rfl] at ZY ⊢;refine Ok.cond (λhu=>by cases hu) λ_=>Ok.cond (λhu=>by cases hu) λ_=>dL rfl (Ok.cond (λhu=>?_) λ_=>ZY);rw[Ux (by simpa using hu)];exact ZY
   ·rintro _ rfl;dsimp only;rw[dU (x:=(k:Int)+1) (by omega) (by omega)];exact Ok.ret rfl
  ·omega
 have e:dW kz NN (3,0,o,a,b,c,i,qd o,qM o,qc o,qb o,[a,b,c],())=some (.inr (3,3,false,o,a,b,c,i,qd o,qM o,qc o,qb o,[a,b,c],())):=by
  refine kO (st:=λk=>(3,(k:Int),o,a,b,c,i,qd o,qM o,qc o,qb o,[a,b,c],())) (n:=3) (by unfold NN;omega) ?_ ?_
  ·intro k hk;rcases (show k=0\/k=1\/k=2 by omega) with rfl | rfl | rfl
   ·exact Ys 0 a _ (by omega) rfl (λ_=>rfl) (by omega) (by omega) a0 a1 a2
   ·exact Ys 1 b _ (by omega) rfl (by omega) (λ_=>rfl) (by omega) b0 b1 b2
   ·exact Ys 2 c _ (by omega) rfl (by omega) (by omega) (λ_=>rfl) c0 c1 c2
  ·exact Ok.ret rfl
 refine fk ?_;unfold nM;rw[oDF (show ¬ o < 0 by omega),oDF (show ¬ o > 24 by omega),Hq o0 o1];simp only[oCF,oBS];rw[show dQ [a,b,c].length=3 from rfl,e];dsimp only;rw[oDF (show ¬ i < 0 by omega),oDF (show ¬ i > 65535 by omega)];simp only[oCF];refine Ok.bind (P:=(·=(false,o,a,b,c,i,()))) ?_ ?_
 ·refine Ok.cond (λhu=>?_) λ_=>Ok.ret rfl;exact Ok.ret (by rw[i2 (by simpa using hu)];rfl)
 rintro _ rfl;dsimp only;rw[uV];simp only[oCF,oBS];refine Ok.cond (λhu=>?_) λ_=>?_
 ·exact Ok.ret (by rw[oDT (by have:=hj hu;omega)])
 ·(with_reducible refine dM (λhcc=>?_) λhcc=>?_)
  ·exact Ok.ret (by rw[oDT (by have:=hl hcc;omega)])
  ·(with_reducible refine dM (λXo=>?_) λXo=>?_)
   ·exact Ok.ret (by rw[oDT (by have:=hs Xo;omega)])
   ·exact Ok.ret rfl
theorem zB{code:List DIn}{s:List Int}{d:List (List Int)}(h:jE code s d):iQ code s d=some (0,()):=by
 have hs:=h.sz;have W2:=hs.2.1;have hc:=h.clen;have hl:=h.len
 have e0:dW ky NN (d,(d.length:Int),0,code,s,d,())=some (.inr (d,(d.length:Int),(d.length:Int),false,code,s,d,())):=by
  refine kO (st:=λk=>(d,(d.length:Int),(k:Int),code,s,d,())) (n:=d.length) (by unfold NN;omega) ?_ ?_
  ·intro k hk;unfold ky;dsimp only
   (with_reducible refine dM (λZ'=>?_) λZ'=>?_)
   ·rw[dP];delta dQ;simp only[oBS];refine Ok.get (by omega) λx hx=>?_;refine Ok.get (by omega) λy hy=>?_;have:=h.fit k x y hx hy
    (with_reducible refine dM (λZ3=>?_) λZ3=>?_)
    ·omega
    ·(simp (disch:=omega) only [dU,eu,d8,d7])
     exact Ok.ret rfl
   ·omega
  ·unfold ky;dsimp only
   (with_reducible refine dM (λZ'=>?_) λZ'=>?_)
   ·omega
   ·exact Ok.ret rfl
 have e1:dW kx NN (code,(code.length:Int),0,code,s,d,())=some (.inr (code,(code.length:Int),(code.length:Int),false,code,s,d,())):=by
  refine kO (st:=λk=>(code,(code.length:Int),(k:Int),code,s,d,())) (n:=code.length) (by unfold NN;omega) ?_ ?_
  ·intro k hk;unfold kx;dsimp only
   (with_reducible refine dM (λZ'=>?_) λZ'=>?_)
   ·rw[dP];simp only[oBS];refine Ok.get (by omega) λx hx=>?_;obtain⟨o,a,b,c,i⟩:=x;rw[M0 (h.ins _ (dR hx)) (by omega) (by omega)]
    (simp (disch:=omega) only [dU,eu,d8,d7])
    exact Ok.ret rfl
   ·omega
  ·unfold kx;dsimp only
   (with_reducible refine dM (λZ'=>?_) λZ'=>?_)
   ·omega
   ·exact Ok.ret rfl
 have e3:dW kv NN (code,(code.length:Int),0,code,s,d,())=some (.inr (code,(code.length:Int),(code.length:Int),false,code,s,d,())):=by
  refine kO (st:=λk=>(code,(code.length:Int),(k:Int),code,s,d,())) (n:=code.length) (by unfold NN;omega) ?_ ?_
  ·intro k hk;unfold kv;dsimp only
   (with_reducible refine dM (λZ'=>?_) λZ'=>?_)
   ·rw[dP];simp only[oBS];refine Ok.get (by omega) λx hx=>?_;have hp:=h.ins x (dR hx);rw[uV];simp only[oBS];refine Ok.bind (P:=(·=(code,(code.length:Int),(k:Int),false,code,s,d,()))) ?_ ?_
    ·refine Ok.cond (λhj=>?_) λ_=>?_
     ·have:=hp.jmp hj
      (with_reducible refine dM (λZ3=>?_) λZ3=>?_)
      ·have Z3:x.2.2.2.2>=(code.length:Int):=Z3;omega
      ·(with_reducible refine dM (λhcc=>?_) λhcc=>?_)
       ·exact Ok.ret (by rw[oDF (show ¬ x.2.2.2.2>=dQ s.length by rw[d7];have:=hp.lea hcc;omega)])
       ·exact Ok.ret rfl
     ·(with_reducible refine dM (λhcc=>?_) λhcc=>?_)
      ·exact Ok.ret (by rw[oDF (show ¬ x.2.2.2.2>=dQ s.length by rw[d7];have:=hp.lea hcc;omega)])
      ·exact Ok.ret rfl
    ·rintro _ rfl;dsimp only;simp only[oCF]
     (simp (disch:=omega) only [dU,eu,d8,d7])
     exact Ok.ret rfl
   ·omega
  ·unfold kv;dsimp only
   (with_reducible refine dM (λZ'=>?_) λZ'=>?_)
   ·omega
   ·exact Ok.ret rfl
 refine fk ?_;unfold iQ;rw[Ck hs];delta dQ;simp only[oBS,oNT,oCF,hl,bne_self_eq_false];rw[hl] at e0;rw[e0];dsimp only
 (with_reducible refine dM (λZ'=>?_) λZ'=>?_)
 ·omega
 ·(with_reducible refine dM (λZ3=>?_) λZ3=>?_)
  ·omega
  ·rw[e1];dsimp only;rw[e3];exact Ok.ret rfl
def RK(bs ss:List Int) (a:Int):Prop:=∃(j:Nat) (b z:Int),bs[j]?=some b/\ss[j]?=some z/\b<=a/\a < b+z
def oQ(K:Int->Prop) (c:DCe):Prop:=0<=c.1/\c.1<=2/\0<=c.2/\c.2<=65535/\(c.1=1->K c.2)
theorem oQ.mono{K K':Int->Prop}{c:DCe}(h:oQ K c) (hk:∀a,K a->K' a):oQ K' c:=⟨h.1,h.2.1,h.2.2.1,h.2.2.2.1,λe=>hk _ (h.2.2.2.2 e)⟩
theorem nd{K:Int->Prop}{v:Int}(h:0<=v/\v<=65535):oQ K (0,v):=⟨by omega,by omega,h.1,h.2,λe=>absurd (show (0:Int)=1 from e) (by decide)⟩
def Sr(K:Int->Prop) (i:Nat) (x:DLn):Prop:=(x.1=-1/\x.2.1=false/\x.2.2=[])\/(0<=x.1/\x.1 < 128/\x.1 % 4=i/\x.2.2.length=4/\∀c∈x.2.2,oQ K c)
def SH(cs:List DCe) (x:DLn):Prop:=x.1=-1\/x.2.1=true\/∀o:Nat,o < 4->cs[(x.1*4).toNat+o]?=x.2.2[o]?
structure kV (K:Int->Prop) (cs:List DCe) (ls:List DLn):Prop where
 clen:cs.length=512
 cells:∀c∈cs,oQ K c
 llen:ls.length=4
 lines:∀(i:Nat) x,ls[i]?=some x->Sr K i x
 coh:∀(i:Nat) x,ls[i]?=some x->SH cs x
structure Be (K:Int->Prop) (n:Int) (t:DTh):Prop where
 state:0<=t.1/\t.1<=4
 len:t.2.1.length=8
 regs:∀c∈t.2.1,oQ K c
 pc:0<=t.2.2.1/\t.2.2.1<=255
 count:0<=t.2.2.2.1/\t.2.2.2.1<=n
 handler:-1<=t.2.2.2.2.1/\t.2.2.2.2.1<=255
 saved:-1<=t.2.2.2.2.2.1/\t.2.2.2.2.2.1<=255
 trap:0<=t.2.2.2.2.2.2.1/\t.2.2.2.2.2.2.1<=6
 code:W16 t.2.2.2.2.2.2.2
structure MOk (n:Int) (ss bs:List Int) (cs:List DCe) (ls:List DLn) (ts:List DTh):Prop where
 lay:LV bs ss
 mem:kV (RK bs ss) cs ls
 tlen:ts.length=4
 thr:∀t∈ts,Be (RK bs ss) n t
theorem JO{K:Int->Prop}{l:List DCe}(hl:l.length<=1000) (h:∀c∈l,oQ K c):ov l=some (true,()):=by
 have e:dW mH NN (l,(l.length:Int),0,())=some (.inr (l,(l.length:Int),(l.length:Int),false,())):=by
  refine kO (st:=λk=>(l,(l.length:Int),(k:Int),())) (n:=l.length) (by unfold NN;omega) ?_ ?_
  ·intro k hk;unfold mH
   (with_reducible refine dM (λZ'=>?_) λZ'=>?_)
   ·rw[dP];refine Ok.get (by omega) λx hx=>?_;have:=h x (dR hx);unfold lE;rw[oDT (show x.1<=2 from this.2.1)]
    (simp (disch:=omega) only [dU,eu,d8,d7])
    exact Ok.ret rfl
   ·omega
  ·unfold mH
   (with_reducible refine dM (λZ'=>?_) λZ'=>?_)
   ·omega
   ·exact Ok.ret rfl
 refine fk ?_;unfold ov;delta dQ
 try dsimp only
 rw[e];exact Ok.ret rfl
theorem JZ{K:Int->Prop}{cs:List DCe}{ls:List DLn}(h:kV K cs ls):nN cs ls=some (true,()):=by
 obtain⟨h1,h2,h3,h4,_⟩:=h
 have e:dW kA NN (ls,4,0,cs,ls,())=some (.inr (ls,4,4,false,cs,ls,())):=by
  refine kO (st:=λk=>(ls,4,(k:Int),cs,ls,())) (n:=4) (by unfold NN;omega) ?_ ?_
  ·intro k hk;unfold kA;dsimp only
   (with_reducible refine dM (λZ'=>?_) λZ'=>?_)
   ·rw[dP];simp only[oBS];refine Ok.get (by omega) λx hx=>?_;rcases h4 k x hx with ⟨e1,e2,e3⟩ | ⟨g1,g2,g3,g4,g5⟩
    ·rw[e1,e2,e3]
     (simp (disch:=omega) only [dU,eu,d8,d7])
     exact Ok.ret rfl
    ·rw[show (x.1==-1)=false by rw[beq_eq_false_iff_ne];omega,oDF (show ¬ x.1 < 0 by omega),oDF (show ¬ x.1>=128 by omega),Int.tmod_eq_emod_of_nonneg g1,g3,g4,JO (by omega) g5];simp;refine Ok.bind (P:=(·=(ls,4,(k:Int),false,cs,ls,()))) ?_ ?_
     ·refine Ok.cond (λh=>by cases h) λ_=>Ok.ret rfl
     ·rintro _ rfl;dsimp only;simp only[oCF]
      (simp (disch:=omega) only [dU,eu,d8,d7])
      exact Ok.ret rfl
   ·omega
  ·unfold kA;exact Ok.ret rfl
 refine fk ?_;unfold nN;delta dQ;simp only[h1,h3,JO (show cs.length<=1000 by omega) h2,oBS,oNT];refine Ok.bind (P:=(·=(false,cs,ls,()))) ?_ ?_
 ·exact Ok.ret rfl
 ·rintro _ rfl;dsimp only;simp only[oCF];rw[h3,show ((4:Nat):Int)=4 from rfl,e];exact Ok.ret rfl
theorem JY{K:Int->Prop}{t:DTh}(h:Be K 1099511627776 t):nJ t.1 t.2.1 t.2.2.1 t.2.2.2.1 t.2.2.2.2.1 t.2.2.2.2.2.1 t.2.2.2.2.2.2.1 t.2.2.2.2.2.2.2=some (true,()):=by
 obtain⟨⟨a1,a2⟩,hl,hr,⟨b1,b2⟩,⟨c1,c2⟩,⟨d1,d2⟩,⟨e1,e2⟩,⟨f1,f2⟩,_⟩:=h;obtain⟨s,rs,pc,ct,ha,sa,tr,co⟩:=t;dsimp only at *
 have e:dW kt NN (rs,(rs.length:Int),0,s,rs,pc,ct,ha,sa,tr,co,())=some (.inr (rs,(rs.length:Int),(rs.length:Int),false,s,rs,pc,ct,ha,sa,tr,co,())):=by
  refine kO (st:=λk=>(rs,(rs.length:Int),(k:Int),s,rs,pc,ct,ha,sa,tr,co,())) (n:=rs.length) (by unfold NN;omega) ?_ ?_
  ·intro k hk;unfold kt
   (with_reducible refine dM (λZ'=>?_) λZ'=>?_)
   ·rw[dP];refine Ok.get (by omega) λx hx=>?_;have:=hr x (dR hx);unfold lE;rw[oDT (show x.1<=2 from this.2.1)]
    (simp (disch:=omega) only [dU,eu,d8,d7])
    exact Ok.ret rfl
   ·omega
  ·unfold kt
   (with_reducible refine dM (λZ'=>?_) λZ'=>?_)
   ·omega
   ·exact Ok.ret rfl
 refine fk ?_;unfold nJ;delta dQ
 try dsimp only
 rw[e];dsimp only;rw[hl];refine dL (oDT a1) (dL (oDT a2) (dL rfl (dL (oDT b1) (dL (oDT b2) (dL (oDT c1) (dL (oDT c2) (dL (oDT d1) (dL (oDT d2) (dL (oDT e1) (dL (oDT e2) (dL (oDT f1) ?_)))))))))));exact Ok.ret (by simp_all)
theorem wO{code:List DIn}{ss bs:List Int}{d:List (List Int)}{n key:Int}{cs:List DCe}{ls:List DLn}{ts:List DTh}(hp:jE code ss d) (h:MOk n ss bs cs ls ts) (hn:n<=1099511627776):jM code ss d bs key cs ls ts=some (true,()):=by
 have ⟨h1,h2,h3,h4⟩:=h
 have e:dW nq NN (ts,4,0,bs,key,cs,ls,ts,())=some (.inr (ts,4,4,false,bs,key,cs,ls,ts,())):=by
  refine kO (st:=λk=>(ts,4,(k:Int),bs,key,cs,ls,ts,())) (n:=4) (by unfold NN;omega) ?_ ?_
  ·intro k hk;unfold nq
   (with_reducible refine dM (λZ'=>?_) λZ'=>?_)
   ·rw[dP];refine Ok.get (by omega) λx hx=>?_;have ht:=h4 x (dR hx);rw[JY ⟨ht.state,ht.len,ht.regs,ht.pc,⟨ht.count.1,by have:=ht.count.2;omega⟩,ht.handler,ht.saved,ht.trap,ht.code⟩]
    (simp (disch:=omega) only [dU,eu,d8,d7])
    exact Ok.ret rfl
   ·omega
  ·exact Ok.ret rfl
 refine fk ?_;unfold jM;rw[zB hp,qa h1,JZ h2];delta dQ;simp only[oBS,oNT,oCF,bne_self_eq_false,h3];rw[show ((4:Nat):Int)=4 from rfl,e];exact Ok.ret rfl
def eq:List DLn:=[(-1,false,[]),(-1,false,[]),(-1,false,[]),(-1,false,[])]
theorem ED:nO=some (eq,()):=by kernel_rfl
theorem GX{K:Int->Prop}{cs:List DCe}(h:cs.length=512) (hc:∀c∈cs,oQ K c):kV K cs eq:=by
 have key:∀(i:Nat) x,eq[i]?=some x->x=(-1,false,[]):=λi x hx=>by
  have:=dR hx;simp[eq] at this;exact this
 exact⟨h,hc,rfl,λi x hx=>by rw[key i x hx];exact .inl ⟨rfl,rfl,rfl⟩,λi x hx=>by rw[key i x hx];exact .inl rfl⟩
theorem jO{α:Type}{P:α->Prop}{l:List α}{i:Nat}{f:α->α}(h:∀x∈l,P x) (hf:∀x,P x->P (f x)):∀x∈List.modify l i f,P x:=by
 intro x hx;have ⟨j,hj⟩:=List.getElem?_of_mem hx
 grind
theorem QO{code:List DIn}{ss bs:List Int}{d:List (List Int)}{key:Int}(hp:jE code ss d) (hl:LV bs ss):Ok (pq code ss d bs key) λr=>∃cs,r=(cs,eq,0,())/\cs.length=512/\∀c∈cs,oQ (λ_=>False) c:=by
 unfold pq;rw[qa hl,ED];delta dQ;simp only[oBS,oNT,oCF,hp.len,bne_self_eq_false];refine dL (by decide) ?_
 obtain⟨t,e,ht⟩:=gK (f:=ox) (n:=NN) (s:=(d,(ss.length:Int),0,code,ss,d,bs,key,(),(),List.replicate 512 (0,0),eq,()))
  (P:=λs'=>∃k:Nat,∃cs,s'=(d,(ss.length:Int),(k:Int),code,ss,d,bs,key,(),(),cs,eq,())/\k<=ss.length/\cs.length=512/\∀c∈cs,oQ (λ_=>False) c)
  (R:=λr=>∃a b c e cs,r=.inr (a,b,c,e,code,ss,d,bs,key,(),(),cs,eq,())/\cs.length=512/\∀c∈cs,oQ (λ_=>False) c) (m:=λs'=>(s'.2.1 - s'.2.2.1).toNat)
  ⟨0,_,rfl,by omega,List.length_replicate,λc hc=>by rw[List.eq_of_mem_replicate hc];exact nd (by decide)⟩ (by unfold NN;dsimp only;have:=hp.sz.2.1;omega) (by
   rintro _ ⟨k,cs,rfl,hk,ZW,ZO⟩;unfold ox;dsimp only;have hlen:=hp.len;have W2:=hp.sz.2.1
   (with_reducible refine dM (λZ'=>?_) λZ'=>?_)
   ·rw[dP];delta dQ;simp only[oBS];refine Ok.get (by omega) λx hx=>?_;refine Ok.get (by omega) λy hy=>?_;have hf:=hp.fit k x y hx hy;have Xu:=hp.num x (dR hx);obtain⟨_,Wl,hr⟩:=hl;have Vk:=hr k (by omega);unfold p6 at Vk;obtain⟨b,hb⟩:∃b,bs[k]?=some b:=⟨_,oGE (by omega)⟩;rw[ef hb,ef hy] at Vk
    (with_reducible refine dM (λZ3=>?_) λZ3=>?_)
    ·omega
    ·refine Ok.loop (P:=λs'=>∃j:Nat,∃cs,s'=((k:Int),d,(ss.length:Int),(k:Int),x,(x.length:Int),(j:Int),code,ss,d,bs,key,(),(),cs,eq,())/\j<=x.length/\cs.length=512/\∀c∈cs,oQ (λ_=>False) c)
      (R:=λr=>∃a b c e cs,r=(a,d,(ss.length:Int),(k:Int),b,c,e,false,code,ss,d,bs,key,(),(),cs,eq,())/\cs.length=512/\∀c∈cs,oQ (λ_=>False) c) (m:=λs'=>(s'.2.2.2.2.2.1 - s'.2.2.2.2.2.2.1).toNat)
      ⟨0,cs,rfl,by omega,ZW,ZO⟩ (by unfold NN;dsimp only;omega) ?_ ?_
     ·rintro _ ⟨j,cs,rfl,hj,ZW,ZO⟩;unfold sB;dsimp only
      (with_reducible refine dM (λhcc=>?_) λhcc=>?_)
      ·rw[dP,dP];simp only[oBS];refine Ok.get (by omega) λv hv=>?_;have WR:=Xu v (dR hv);rw[show dO bs k=some b from hb];simp only[oBS]
       (simp (disch:=omega) only [dU,eu,d8,d7])
       refine Ok.nat (by omega) λa ha=>?_;refine Ok.get (by omega) λc hc=>?_;refine Ok.get (by omega) λc' YN=>?_;exact Ok.ret ⟨⟨j+1,_,rfl,by omega,by rw[oLM];exact ZW,jO ZO λz hz=>⟨hz.1,hz.2.1,WR.1,WR.2,hz.2.2.2.2⟩⟩,by dsimp only;omega⟩
      ·exact Ok.ret ⟨_,_,_,_,_,rfl,ZW,ZO⟩
     ·rintro _ ⟨a,b,c,e,cs,rfl,ZW,ZO⟩;dsimp only
      (simp (disch:=omega) only [dU,eu,d8,d7])
      exact Ok.ret ⟨⟨k+1,_,rfl,by omega,ZW,ZO⟩,by dsimp only;omega⟩
   ·exact Ok.ret ⟨_,_,_,_,_,rfl,ZW,ZO⟩)
 rw[e];obtain⟨a,b,c,e,cs,rfl,ZW,ZO⟩:=ht;exact Ok.ret ⟨cs,rfl,ZW,ZO⟩
theorem Rx{K:Int->Prop}:∀c∈List.replicate 8 ((0:Int),(0:Int)),oQ K c:=λc hc=>by rw[List.eq_of_mem_replicate hc];exact nd (by decide)
theorem PZ{K:Int->Prop}{s:Int}(h:0<=s/\s<=4):Be K 0 (s,List.replicate 8 (0,0),0,0,-1,-1,0,0):=
 ⟨h,rfl,Rx,⟨by simp_all,by simp_all⟩,⟨by simp_all,by simp_all⟩,⟨by simp_all,by simp_all⟩,⟨by simp_all,by simp_all⟩,⟨by simp_all,by simp_all⟩,⟨by simp_all,by simp_all⟩⟩
theorem NU{code:List DIn}{ss bs:List Int}{d:List (List Int)}{key:Int}(hp:jE code ss d) (hl:LV bs ss):Ok (nL code ss d bs key) λr=>∃cs ts,r=(bs,key,cs,eq,ts,0,())/\MOk 0 ss bs cs eq ts:=by
 unfold nL;rw[zB hp,qa hl];refine (QO hp hl).bind ?_;rintro _ ⟨cs,rfl,ZW,ZO⟩;dsimp only;have Wl:=hl.2.1;have W2:=hp.sz.2.1;refine dL (dY (by omega)) ?_
 refine Ok.loop (P:=λs'=>∃k:Nat,∃ts,s'=((k:Int),(),0,(),(),(),bs,key,cs,eq,ts,())/\k<=4/\ts.length=k/\∀t∈ts,Be (RK bs ss) 0 t)
  (R:=λr=>∃a b ts,r=(a,b,(),0,(),(),(),bs,key,cs,eq,ts,())/\ts.length=4/\∀t∈ts,Be (RK bs ss) 0 t) (m:=λs'=>(4 - s'.1).toNat) ⟨0,[],rfl,by omega,rfl,eG⟩ (by unfold NN;dsimp only;omega) ?_ ?_
 ·rintro _ ⟨k,ts,rfl,hk,X3,YZ⟩;unfold rU;dsimp only
  (with_reducible refine dM (λZ'=>?_) λZ'=>?_)
  ·refine dL (by decide) ?_;refine Ok.bind (P:=λr=>∃s,(0<=s/\s<=4)/\r=((k:Int),(),0,(),(),(),bs,key,cs,eq,ts,s,List.replicate 8 (0,0),0,0,-1,-1,0,0,())) ?_ ?_
   ·(with_reducible refine dM (λZ3=>?_) λZ3=>?_)
    ·exact Ok.ret ⟨1,by decide,rfl⟩
    ·exact Ok.ret ⟨0,by decide,rfl⟩
   ·rintro _ ⟨s,hs,rfl⟩;dsimp only;refine dL (dY (by simp;omega)) ?_
    (simp (disch:=omega) only [dU,eu,d8,d7])
    exact Ok.ret ⟨⟨k+1,_,rfl,by omega,by rw[fC,X3];rfl,jZ YZ (all_cons (PZ hs) eG)⟩,by dsimp only;omega⟩
  ·exact Ok.ret ⟨_,_,_,rfl,by omega,YZ⟩
 ·rintro _ ⟨a,b,ts,rfl,X3,YZ⟩;exact Ok.ret ⟨cs,ts,rfl,hl,GX ZW λc hc=>(ZO c hc).mono λ_ h=>h.elim,X3,YZ⟩
def Pr(ss:List Int) (c:DCn):Prop:=
 ((c.1=0\/c.1=2)/\c.2.2.1=0/\c.2.2.2=0/\W16 c.2.1)\/(c.1=1/\c.2.1=0/\0<=c.2.2.1/\∃n,ss[c.2.2.1.toNat]?=some n/\0<=c.2.2.2/\c.2.2.2 < n)
theorem Hb{ss:List Int}{c:DCn}(hs:xG ss) (h:Pr ss c):iM c.1 c.2.1 c.2.2.1 c.2.2.2=some (true,()):=by
 refine fk ?_;unfold iM;rcases h with ⟨h1,h2,h3,_⟩ | ⟨h1,h2,h3,n,h4,h5,h6⟩
 ·rw[h2,h3]
  rcases h1 with h1 | h1<;>rw[h1]<;>exact Ok.ret rfl
 ·have hn:=hs.2.2 n (dR h4);have hl:=(oGS h4).1;have W2:=hs.2.1;rw[h1,h2,show (c.2.2.1==-1)=false by rw[beq_eq_false_iff_ne];omega];refine Ok.cond (λh=>by cases h) λ_=>Ok.cond (λh=>by cases h) λ_=>dL rfl ?_;refine Ok.cond (λh=>by cases h) λ_=>dL rfl ?_;exact dL (oDT h3) (dL (oDT (by omega)) (dL (oDT h5) (Ok.ret (by rw[oDT (show c.2.2.2 < 32 by omega)]))))
theorem kQ{ss:List Int}{l:List DCn}{n:Int}(hs:xG ss) (h:∀c∈l,Pr ss c) (hn:(l.length:Int)<=n) (hl:l.length<=1000):fA l n=some (true,()):=by
 have e:dW g9 NN (l,n,l,(l.length:Int),0,())=some (.inr (l,n,l,(l.length:Int),(l.length:Int),false,())):=by
  refine kO (st:=λk=>(l,n,l,(l.length:Int),(k:Int),())) (n:=l.length) (by unfold NN;omega) ?_ ?_
  ·intro k hk;unfold g9
   (with_reducible refine dM (λZ'=>?_) λZ'=>?_)
   ·rw[dP];refine Ok.get (by omega) λx hx=>?_;rw[Hb hs (h x (dR hx))]
    (simp (disch:=omega) only [dU,eu,d8,d7])
    exact Ok.ret rfl
   ·omega
  ·unfold g9
   (with_reducible refine dM (λZ'=>?_) λZ'=>?_)
   ·omega
   ·exact Ok.ret rfl
 refine fk ?_;unfold fA;delta dQ
 try dsimp only
 rw[e];exact Ok.ret (congrArg (λb=>(b,())) (oDT hn))
def Rn(d:List (List DCn)) (o:DOp):Prop:=(o.1=-1/\o.2.1=0/\o.2.2=false)\/(0<=o.1/\∃x,d[o.1.toNat]?=some x/\0<=o.2.1/\o.2.1<=x.length)
structure gi (ss:List Int) (d:List (List DCn)) (os:List DOp):Prop where
 dlen:d.length<=4
 flen:∀x∈d,x.length<=64
 cells:∀x∈d,∀c∈x,Pr ss c
 olen:os.length=8
 opens:∀o∈os,Rn d o
theorem Ch{ss:List Int}{d:List (List DCn)}{os:List DOp}(hs:xG ss) (h:gi ss d os):li d os=some (true,()):=by
 obtain⟨h1,h2,h3,h4,h5⟩:=h
 have e0:dW kq NN (d,(d.length:Int),0,d,os,())=some (.inr (d,(d.length:Int),(d.length:Int),false,d,os,())):=by
  refine kO (st:=λk=>(d,(d.length:Int),(k:Int),d,os,())) (n:=d.length) (by unfold NN;omega) ?_ ?_
  ·intro k hk;unfold kq;dsimp only
   (with_reducible refine dM (λZ'=>?_) λZ'=>?_)
   ·rw[dP];simp only[oBS];refine Ok.get (by omega) λx hx=>?_;have:=h2 x (dR hx);rw[kQ hs (h3 x (dR hx)) (by omega) (by omega)];simp only[oBS,oNT,oCF]
    (simp (disch:=omega) only [dU,eu,d8,d7])
    exact Ok.ret rfl
   ·omega
  ·unfold kq;dsimp only
   (with_reducible refine dM (λZ'=>?_) λZ'=>?_)
   ·omega
   ·exact Ok.ret rfl
 have e2:dW nk NN (os,8,0,d,os,())=some (.inr (os,8,8,false,d,os,())):=by
  refine kO (st:=λk=>(os,8,(k:Int),d,os,())) (n:=8) (by unfold NN;omega) ?_ ?_
  ·intro k hk;unfold nk;dsimp only
   (with_reducible refine dM (λZ'=>?_) λZ'=>?_)
   ·rw[dP];simp only[oBS];refine Ok.get (by omega) λx hx=>?_;obtain⟨f,o,w⟩:=x;refine Ok.bind (P:=(·=(os,8,(k:Int),false,d,os,f,o,w,()))) ?_ ?_
    ·rcases h5 _ (dR hx) with ⟨g1,g2,g3⟩ | ⟨g1,y,g2,g3,g4⟩
     ·have g1:f=-1:=g1;have g2:o=0:=g2;have g3:w=false:=g3;subst g1 g2 g3;dsimp only;refine dL rfl (Ok.cond (λh=>by cases h) λ_=>Ok.cond (λh=>by cases h) λ_=>Ok.cond (λh=>by cases h) λ_=>Ok.cond (λh=>?_) λ_=>Ok.cond (λh=>by cases h) λ_=>Ok.ret rfl);have h:(-1:Int)>=(d.length:Int):=of_decide_eq_true h;omega
     ·dsimp only at g1 g2 g3 g4 ⊢;have hl:=(oGS g2).1;rw[show (f==-1)=false by rw[beq_eq_false_iff_ne];omega,oDF (show ¬ f < -1 by omega)];simp only[oCF];refine Ok.cond (λh=>?_) λ_=>dL (oDT g1) ?_
      ·have h:f>=(d.length:Int):=of_decide_eq_true h;omega
      ·rw[oDF (show ¬ o < 0 by omega)];simp only[oCF];refine Ok.nat g1 λj hj=>?_;refine Ok.get (by omega) λz hz=>?_
       have hjj:j=f.toNat:=by omega
       subst hjj;rw[g2] at hz
       injection hz with hz
       subst hz;exact Ok.ret (by rw[oDF (show ¬ o > dQ y.length from λh=>by rw[d7] at h;omega)])
    ·rintro _ rfl;dsimp only;simp only[oCF]
     (simp (disch:=omega) only [dU,eu,d8,d7])
     exact Ok.ret rfl
   ·omega
  ·exact Ok.ret rfl
 refine fk ?_;unfold li;delta dQ
 try dsimp only
 (with_reducible refine dM (λZ'=>?_) λZ'=>?_)
 ·omega
 ·rw[h4];rw[e0];dsimp only;rw[h4,show ((8:Nat):Int)=8 from rfl,e2];exact Ok.ret rfl
def SG(ss:List Int) (i:Nat) (x:DOu):Prop:=x.1=i/\0<=x.2.1/\x.2.1 < 2/\x.2.2.length<=16/\∀c∈x.2.2,Pr ss c
structure Bf (ss:List Int) (ck rn:List Int) (ins:List (List Int)) (d:List (List DCn)) (os:List DOp) (us:List DOu):Prop where
 clock:ck.length<=64/\∀w∈ck,W16 w
 rand:rn.length<=64/\∀w∈rn,W16 w
 ilen:ins.length<=2
 inp:∀x∈ins,x.length<=64/\∀w∈x,W16 w
 files:gi ss d os
 ulen:us.length<=200
 outs:∀(i:Nat) x,us[i]?=some x->SG ss i x
theorem Kt{ss:List Int}{us:List DOu}(hl:us.length<=200) (h:∀(i:Nat) x,us[i]?=some x->SG ss i x):lh us=some (true,()):=by
 have e:dW jh NN (us,(us.length:Int),0,())=some (.inr (us,(us.length:Int),(us.length:Int),false,())):=by
  refine kO (st:=λk=>(us,(us.length:Int),(k:Int),())) (n:=us.length) (by unfold NN;omega) ?_ ?_
  ·intro k hk;unfold jh
   (with_reducible refine dM (λZ'=>?_) λZ'=>?_)
   ·rw[dP];refine Ok.get (by omega) λx hx=>?_;have ⟨g1,g2,g3,g4,g5⟩:=h k x hx;rw[g1,oDF (show ¬ x.2.1 < 0 by omega),oDF (show ¬ x.2.1>=2 by omega)];simp;refine Ok.cond (λh=>?_) λ_=>?_
    ·have h:(x.2.2.length:Int) > 16:=of_decide_eq_true h;omega
    ·(simp (disch:=omega) only [dU,eu,d8,d7])
     exact Ok.ret rfl
   ·omega
  ·unfold jh
   (with_reducible refine dM (λZ'=>?_) λZ'=>?_)
   ·omega
   ·exact Ok.ret rfl
 refine fk ?_;unfold lh;delta dQ
 try dsimp only
 rw[e];exact Ok.ret rfl
theorem wN{ss ck rn:List Int}{ins:List (List Int)}{d:List (List DCn)}{os:List DOp}{us:List DOu}(hs:xG ss) (h:Bf ss ck rn ins d os us):jK ck rn ins d os us=some (true,()):=by
 have e0:dW kp NN (ins,(ins.length:Int),0,ck,rn,ins,d,os,us,())=some (.inr (ins,(ins.length:Int),(ins.length:Int),false,ck,rn,ins,d,os,us,())):=by
  refine kO (st:=λk=>(ins,(ins.length:Int),(k:Int),ck,rn,ins,d,os,us,())) (n:=ins.length) (by unfold NN;have:=h.ilen;omega) ?_ ?_
  ·intro k hk;have YQ:=h.ilen;unfold kp;dsimp only
   (with_reducible refine dM (λZ'=>?_) λZ'=>?_)
   ·rw[dP];delta dQ;simp only[oBS];refine Ok.get (by omega) λx hx=>?_;have:=(h.inp x (dR hx)).1
    (with_reducible refine dM (λZ3=>?_) λZ3=>?_)
    ·omega
    ·(simp (disch:=omega) only [dU,eu,d8,d7])
     exact Ok.ret rfl
   ·omega
  ·unfold kp;dsimp only
   (with_reducible refine dM (λZ'=>?_) λZ'=>?_)
   ·omega
   ·exact Ok.ret rfl
 have e1:dW ko NN (us,(us.length:Int),0,ck,rn,ins,d,os,us,())=some (.inr (us,(us.length:Int),(us.length:Int),false,ck,rn,ins,d,os,us,())):=by
  refine kO (st:=λk=>(us,(us.length:Int),(k:Int),ck,rn,ins,d,os,us,())) (n:=us.length) (by unfold NN;have:=h.ulen;omega) ?_ ?_
  ·intro k hk;have hul:=h.ulen;unfold ko;dsimp only
   (with_reducible refine dM (λZ'=>?_) λZ'=>?_)
   ·rw[dP];simp only[oBS];refine Ok.get (by omega) λx hx=>?_;obtain⟨_,_,_,g4,g5⟩:=h.outs k x hx;rw[kQ hs g5 (by omega) (by omega)]
    (simp (disch:=omega) only [dU,eu,d8,d7])
    exact Ok.ret rfl
   ·omega
  ·unfold ko;dsimp only
   (with_reducible refine dM (λZ'=>?_) λZ'=>?_)
   ·omega
   ·exact Ok.ret rfl
 have c1:=h.clock.1;have c2:=h.rand.1;have c3:=h.ilen;have c4:=h.ulen;refine fk ?_;unfold jK;delta dQ
 try dsimp only
 rw[e0];dsimp only;rw[e1];dsimp only;refine dL (oDT (show (ck.length:Int)<=64 by omega)) (dL (oDT (show (rn.length:Int)<=64 by omega)) (dL (oDT (show (ins.length:Int)<=2 by omega)) ?_));rw[Ch hs h.files];refine dL (oDT (show (us.length:Int)<=200 by omega)) ?_;rw[Kt h.ulen h.outs];exact Ok.ret rfl
def ry:List DOp:=List.replicate 8 (-1,0,false)
theorem OC(a:List (List Int)):dW ul NN (a,8,0,(),(),(),List.replicate 8 (0,(0,false)),())=some (a,8,8,false,(),(),(),ry,()):=by
 rfl
theorem OH{ss:List Int}{a:List (List Int)}(hs:xG ss) (hl:a.length<=4) (h:∀x∈a,x.length<=64/\∀w∈x,W16 w):Ok (qQ a) λr=>∃d,r=(d,ry,0,())/\gi ss d ry:=by
 unfold qQ;refine dL (by decide) ?_;dsimp only;rw[show dQ (List.replicate 8 ((0:Int),((0:Int),false))).length=8 from rfl,OC];delta dQ;simp only[oBS]
 refine Ok.loop (P:=λs'=>∃k:Nat,∃d,s'=(a,(a.length:Int),(k:Int),(),(),d,ry,())/\k<=a.length/\d.length=k/\(∀x∈d,x.length<=64)/\∀x∈d,∀c∈x,Pr ss c)
  (R:=λr=>∃e b c f d,r=(e,b,c,f,(),(),d,ry,())/\d.length<=4/\(∀x∈d,x.length<=64)/\∀x∈d,∀c∈x,Pr ss c) (m:=λs'=>(s'.2.1 - s'.2.2.1).toNat) ⟨0,[],rfl,by omega,rfl,eG,eG⟩ (by unfold NN;dsimp only;omega) ?_ ?_
 ·rintro _ ⟨k,d,rfl,hk,YP,hd2,X0⟩;unfold uj;dsimp only
  (with_reducible refine dM (λZ'=>?_) λZ'=>?_)
  ·rw[dP];delta dQ;simp only[oBS];refine Ok.get (by omega) λx hx=>?_;obtain⟨Z2,Yq⟩:=h x (dR hx)
   refine Ok.loop (P:=λs'=>∃j:Nat,∃l,s'=(a,(a.length:Int),(k:Int),x,(x.length:Int),(j:Int),(),(),d,ry,l,())/\j<=x.length/\l.length=j/\∀c∈l,Pr ss c)
    (R:=λr=>∃b c e f l,r=(a,(a.length:Int),(k:Int),b,c,e,f,(),(),d,ry,l,())/\l.length<=64/\∀c∈l,Pr ss c) (m:=λs'=>(s'.2.2.2.2.1 - s'.2.2.2.2.2.1).toNat) ⟨0,[],rfl,by omega,rfl,eG⟩ (by unfold NN;dsimp only;omega) ?_ ?_
   ·rintro _ ⟨j,l,rfl,hj,Xt,X7⟩;unfold uk;dsimp only
    (with_reducible refine dM (λZ3=>?_) λZ3=>?_)
    ·rw[dP];simp only[oBS];refine Ok.get (by omega) λv hv=>?_;refine dL (dY (by simp;omega)) ?_
     (simp (disch:=omega) only [dU,eu,d8,d7])
     exact Ok.ret ⟨⟨j+1,_,rfl,by omega,by rw[fC,Xt];rfl,jZ X7 (all_cons (.inl ⟨.inl rfl,rfl,rfl,Yq v (dR hv)⟩) eG)⟩,by dsimp only;omega⟩
    ·exact Ok.ret ⟨_,_,_,_,_,rfl,by omega,X7⟩
   ·rintro _ ⟨b,c,e,f,l,rfl,Xt,X7⟩;dsimp only;refine dL (dY (by simp;omega)) ?_
    (simp (disch:=omega) only [dU,eu,d8,d7])
    exact Ok.ret ⟨⟨k+1,_,rfl,by omega,by rw[fC,YP];rfl,jZ hd2 (all_cons Xt eG),jZ X0 (all_cons X7 eG)⟩,by dsimp only;omega⟩
  ·exact Ok.ret ⟨_,_,_,_,_,rfl,by omega,hd2,X0⟩
 ·rintro _ ⟨e,b,c,f,d,rfl,YP,hd2,X0⟩;have hf:gi ss d ry:=⟨YP,hd2,X0,rfl,λo ho=>by rw[List.eq_of_mem_replicate ho];exact .inl ⟨rfl,rfl,rfl⟩⟩;dsimp only;rw[Ch hs hf];exact Ok.ret ⟨d,rfl,hf⟩
theorem AS{a:List (List Int)}(hl:a.length<=1000) (h:∀x∈a,x.length<=1000):gk a=some (a,()):=by
 have e:dW f8 NN (a,(a.length:Int),0,[],())=some (a,(a.length:Int),(a.length:Int),false,a,()):=by
  have:=kO (f:=f8) (N:=NN) (st:=λk=>(a,(a.length:Int),(k:Int),a.take k,())) (n:=a.length) (t:=(a,(a.length:Int),(a.length:Int),false,a,())) (by unfold NN;omega) ?_ ?_
  ·exact this
  ·intro k hk;unfold f8
   (with_reducible refine dM (λZ'=>?_) λZ'=>?_)
   ·rw[dP];refine Ok.get (by omega) λx hx=>?_;have:=h x (dR hx);refine dL (dY (by omega)) (dL (dY (by simp;omega)) ?_)
    (simp (disch:=omega) only [dU,eu,d8,d7])
    refine Ok.ret ?_;rw[List.take_add_one,hx];rfl
   ·omega
  ·unfold f8
   (with_reducible refine dM (λZ'=>?_) λZ'=>?_)
   ·omega
   ·rw[List.take_length];exact Ok.ret rfl
 refine fk ?_;unfold gk;delta dQ
 try dsimp only
 rw[e];exact Ok.ret rfl
theorem Ks{ss l:List Int}{k:Int}(hs:xG ss) (h:DOk l k):Ok (mK l k) λr=>∃ck rn ins d os k',r=(ck,rn,ins,d,os,(),l,k',())/\Bf ss ck rn ins d os []/\DOk l k':=by
 unfold mK;refine (qJ h (by decide)).bind ?_;rintro _ ⟨w1,k1,rfl,h1,g1,d1⟩;refine (qJ d1 (by decide)).bind ?_;rintro _ ⟨w2,k2,rfl,h2,g2,d2⟩;dsimp only;refine (qJ d2 (by decide)).bind ?_;rintro _ ⟨w3,k3,rfl,h3,g3,d3⟩;dsimp only;refine (qJ d3 (by decide)).bind ?_;rintro _ ⟨w4,k4,rfl,h4,g4,d4⟩;dsimp only;refine (qJ d4 (by decide)).bind ?_;rintro _ ⟨w5,k5,rfl,h5,g5,d5⟩;dsimp only;refine (qJ d5 (by decide)).bind ?_;rintro _ ⟨w6,k6,rfl,h6,g6,d6⟩;dsimp only;refine Ok.bind (P:=λr=>∃ck rn ins d os,r=(ck,rn,ins,d,os,(),0,())/\Bf ss ck rn ins d os []) ?_ ?_
 ·unfold qP;refine (OH (ss:=ss) (a:=[w1,w2]) hs (by simp) (all_cons ⟨by omega,g1⟩ (all_cons ⟨by omega,g2⟩ eG))).bind ?_;rintro _ ⟨d,rfl,hf⟩;refine Ok.cond (λh=>by cases h) λ_=>?_;refine dL (dY (by omega)) (dL (dY (by omega)) ?_);have ho:Bf ss w5 w6 [w3,w4] d ry []:=⟨⟨by omega,g5⟩,⟨by omega,g6⟩,by simp,all_cons ⟨by omega,g3⟩ (all_cons ⟨by omega,g4⟩ eG),hf,by simp,λi x hx=>by simp_all⟩;rw[AS (by simp) (all_cons (by omega) (all_cons (by omega) eG))];simp only[oBS];rw[show List.append [] w5=w5 from rfl,show List.append [] w6=w6 from rfl,wN hs ho];exact Ok.ret ⟨_,_,_,_,_,rfl,ho⟩
 ·rintro _ ⟨ck,rn,ins,d,os,rfl,ho⟩;exact Ok.ret ⟨_,_,_,_,_,_,rfl,ho,d6⟩
theorem FY{ss:List Int}{r o n:Int}(h1:0<=r) (h2:ss[r.toNat]?=some n) (h3:0<=o) (h4:o < n):fR ss r o=some (true,()):=by
 refine fk ?_;have hl:=(oGS h2).1;refine dL (oDT h1) (dL (oDT (show r < (ss.length:Int) by omega)) (dL (oDT h3) ?_));obtain⟨j,rfl⟩:∃j:Nat,r=j:=⟨r.toNat,by omega⟩;rw[dP];simp;rw[show dO ss j=some n from h2];exact Ok.ret (by simp_all)
theorem kF{ss:List Int}{c:DCn}(h:Pr ss c):fQ ss c.1 c.2.1 c.2.2.1 c.2.2.2=some (true,()):=by
 refine fk ?_;unfold fQ;rcases h with ⟨h1,h2,h3,_⟩ | ⟨h1,h2,h3,n,h4,h5,h6⟩
 ·rw[h2,h3]
  rcases h1 with h1 | h1<;>rw[h1]<;>exact Ok.ret rfl
 ·rw[h1,h2,FY h3 h4 h5 h6];exact Ok.ret rfl
theorem HG{ss:List Int}{d:List (List DCn)}{os:List DOp}(h:gi ss d os):mB ss d os=some (true,()):=by
 obtain⟨h1,h2,h3,h4,h5⟩:=h
 have e0:dW jI NN (ss,d,(d.length:Int),0,d,os,())=some (.inr (ss,d,(d.length:Int),(d.length:Int),false,d,os,())):=by
  refine kO (st:=λk=>(ss,d,(d.length:Int),(k:Int),d,os,())) (n:=d.length) (by unfold NN;omega) ?_ ?_
  ·intro k hk;unfold jI;dsimp only
   (with_reducible refine dM (λZ'=>?_) λZ'=>?_)
   ·rw[dP];delta dQ;refine Ok.get (by omega) λx hx=>?_;have Z2:=h2 x (dR hx)
    have e:dW jJ NN (ss,d,(d.length:Int),(k:Int),x,(x.length:Int),0,d,os,())=some (.inr (ss,d,(d.length:Int),(k:Int),x,(x.length:Int),(x.length:Int),false,d,os,())):=by
     refine kO (st:=λj=>(ss,d,(d.length:Int),(k:Int),x,(x.length:Int),(j:Int),d,os,())) (n:=x.length) (by unfold NN;omega) ?_ ?_
     ·intro j hj;unfold jJ
      (with_reducible refine dM (λZ'=>?_) λZ'=>?_)
      ·rw[dP];refine Ok.get (by omega) λy hy=>?_;rw[kF (h3 x (dR hx) y (dR hy))]
       (simp (disch:=omega) only [dU,eu,d8,d7])
       exact Ok.ret rfl
      ·omega
     ·unfold jJ
      (with_reducible refine dM (λZ'=>?_) λZ'=>?_)
      ·omega
      ·exact Ok.ret rfl
    rw[e];dsimp only
    (simp (disch:=omega) only [dU,eu,d8,d7])
    exact Ok.ret rfl
   ·omega
  ·unfold jI;dsimp only
   (with_reducible refine dM (λZ'=>?_) λZ'=>?_)
   ·omega
   ·exact Ok.ret rfl
 refine fk ?_;unfold mB;delta dQ
 try dsimp only
 rw[e0];exact Ok.ret rfl
theorem copy17_ok{d:List (List DCn)}{os:List DOp}(h1:d.length<=1000) (h2:∀x∈d,x.length<=1000) (h3:os.length<=1000):hY d os=some (d,os,()):=by
 have e:dW jo NN (d,(d.length:Int),0,d,os,(),(),[],os,())=some (d,(d.length:Int),(d.length:Int),false,d,os,(),(),d,os,()):=by
  have:=kO (f:=jo) (N:=NN) (st:=λk=>(d,(d.length:Int),(k:Int),d,os,(),(),d.take k,os,())) (n:=d.length) (t:=(d,(d.length:Int),(d.length:Int),false,d,os,(),(),d,os,())) (by unfold NN;omega) ?_ ?_
  ·exact this
  ·intro k hk;unfold jo
   (with_reducible refine dM (λZ'=>?_) λZ'=>?_)
   ·rw[dP];refine Ok.get (by omega) λx hx=>?_;have:=h2 x (dR hx);refine dL (dY (by omega)) (dL (dY (by simp;omega)) ?_)
    (simp (disch:=omega) only [dU,eu,d8,d7])
    refine Ok.ret ?_;rw[List.take_add_one,hx];rfl
   ·omega
  ·unfold jo
   (with_reducible refine dM (λZ'=>?_) λZ'=>?_)
   ·omega
   ·rw[List.take_length];exact Ok.ret rfl
 refine fk ?_;refine dL (dY (by omega)) ?_;rw[show List.append [] os=os from rfl];delta dQ
 try dsimp only
 rw[e];exact Ok.ret rfl
theorem G6{us:List DOu}(h1:us.length<=1000) (h2:∀x∈us,x.2.2.length<=1000):kJ us=some (us,()):=by
 have e:dW jn NN (us,(us.length:Int),0,[],())=some (us,(us.length:Int),(us.length:Int),false,us,()):=by
  have:=kO (f:=jn) (N:=NN) (st:=λk=>(us,(us.length:Int),(k:Int),us.take k,())) (n:=us.length) (t:=(us,(us.length:Int),(us.length:Int),false,us,())) (by unfold NN;omega) ?_ ?_
  ·exact this
  ·intro k hk;unfold jn
   (with_reducible refine dM (λZ'=>?_) λZ'=>?_)
   ·rw[dP];refine Ok.get (by omega) λx hx=>?_;have:=h2 x (dR hx);refine dL (dY (by omega)) (dL (dY (by simp;omega)) ?_)
    (simp (disch:=omega) only [dU,eu,d8,d7])
    refine Ok.ret ?_;rw[List.take_add_one,hx];rfl
   ·omega
  ·unfold jn
   (with_reducible refine dM (λZ'=>?_) λZ'=>?_)
   ·omega
   ·rw[List.take_length];exact Ok.ret rfl
 refine fk ?_;unfold kJ;delta dQ
 try dsimp only
 rw[e];exact Ok.ret rfl
theorem GZ{ss ck rn:List Int}{ins:List (List Int)}{d:List (List DCn)}{os:List DOp}{us:List DOu}(h:Bf ss ck rn ins d os us):pa ck rn ins d os us=some (ck,rn,ins,d,os,us,()):=by
 have h1:=h.clock.1;have h2:=h.rand.1;have h3:=h.ilen;have h4:=h.ulen;have h5:=h.files.olen;have h6:=h.files.dlen;refine fk ?_;refine dL (dY (by omega)) (dL (dY (by omega)) ?_)
 rw[AS (by omega) (λx hx=>by have:=(h.inp x hx).1;omega),copy17_ok (by omega) (λx hx=>by have:=h.files.flen x hx;omega) (by omega),G6 (by omega) (λx hx=>by
  have ⟨i,hi⟩:=List.getElem?_of_mem hx;have:=(h.outs i x hi).2.2.2.1
  omega)]
 exact Ok.ret rfl
theorem MM:uO=some ([-1,-1,-1,-1],[[],[],[],[]],()):=by kernel_rfl
structure jF (ow:List Int) (qs:List (List Int)):Prop where
 olen:ow.length=4
 qlen:qs.length=4
 owner:∀o∈ow,-1<=o/\o<=3
 queue:∀q∈qs,q.Nodup/\∀t∈q,0<=t/\t<=3
theorem MC:∀{n:Nat}{q:List Int},q.Nodup->(∀t∈q,0<=t/\t < n)->q.length<=n:=by
 intro n
 induction n with
 | zero=>
  intro q _ h
  cases q with
  | nil=>simp
  | cons x q=>have:=h x (by simp);omega
 | succ n ih=>
  intro q hq h;have h1:(q.erase (n:Int)).Nodup:=hq.erase _
  have h2:∀t∈q.erase (n:Int),0<=t/\t < n:=λt ht=>by
   have hm:=(hq.mem_erase_iff).1 ht;have:=h t hm.2;omega
  have h3:=ih h1 h2;have h4:=List.length_erase (a:=(n:Int)) (l:=q);split at h4<;>omega
theorem jF.qlen4{ow:List Int}{qs:List (List Int)}(h:jF ow qs) {q:List Int}(hq:q∈qs):q.length<=4:=MC (h.queue q hq).1 λt ht=>by have:=(h.queue q hq).2 t ht;omega
theorem RX:jF [-1,-1,-1,-1] [[],[],[],[]]:=⟨rfl,rfl,by decide,by decide⟩
theorem Pi{code:List DIn}{ss bs:List Int}{dt:List (List Int)}{key:Int}{ck rn:List Int}{ins:List (List Int)}{d:List (List DCn)}{os:List DOp}{us:List DOu}(hp:jE code ss dt) (hl:LV bs ss) (ho:Bf ss ck rn ins d os us) :
 Ok (qO code ss dt bs key ck rn ins d os us) λr=>∃cs ts,r=(code,ss,dt,bs,key,cs,eq,ts,ck,rn,ins,d,os,us,[-1,-1,-1,-1],[[],[],[],[]],(),[-1,-1,-1,-1],0,())/\MOk 0 ss bs cs eq ts:=by
 refine (NU hp hl).bind ?_;rintro _ ⟨cs,ts,rfl,hm⟩;rw[wN hp.sz ho,HG ho.files,GZ ho,MM];exact Ok.ret ⟨cs,ts,rfl,hm⟩
theorem Sr.len{K:Int->Prop}{i:Nat}{x:DLn}(h:Sr K i x):x.2.2.length<=4:=by
 rcases h with ⟨_,_,h⟩ | ⟨_,_,_,h,_⟩
 ·simp_all
 ·omega
theorem Nk{K:Int->Prop}{cs:List DCe}{ls:List DLn}(h:kV K cs ls):pt cs ls=some (cs,ls,()):=by
 obtain⟨h1,h2,h3,h4,_⟩:=h
 have e:dW jx NN (ls,(ls.length:Int),0,cs,ls,(),(),cs,[],())=some (ls,(ls.length:Int),(ls.length:Int),false,cs,ls,(),(),cs,ls,()):=by
  have:=kO (f:=jx) (N:=NN) (st:=λk=>(ls,(ls.length:Int),(k:Int),cs,ls,(),(),cs,ls.take k,())) (n:=ls.length) (t:=(ls,(ls.length:Int),(ls.length:Int),false,cs,ls,(),(),cs,ls,())) (by unfold NN;omega) ?_ ?_
  ·exact this
  ·intro k hk;unfold jx
   (with_reducible refine dM (λZ'=>?_) λZ'=>?_)
   ·rw[dP];refine Ok.get (by omega) λx hx=>?_;have:=(h4 k x hx).len;refine dL (dY (by omega)) (dL (dY (by simp;omega)) ?_)
    (simp (disch:=omega) only [dU,eu,d8,d7])
    refine Ok.ret ?_;rw[List.take_add_one,hx];rfl
   ·omega
  ·unfold jx
   (with_reducible refine dM (λZ'=>?_) λZ'=>?_)
   ·omega
   ·rw[List.take_length];exact Ok.ret rfl
 refine fk ?_;unfold pt;refine dL (dY (by omega)) ?_;rw[show List.append [] cs=cs from rfl];delta dQ
 try dsimp only
 rw[e];exact Ok.ret rfl
theorem vW{n key:Int}{ss bs:List Int}{cs:List DCe}{ls:List DLn}{ts:List DTh}(h:MOk n ss bs cs ls ts):jv bs key cs ls ts=some (bs,key,cs,ls,ts,()):=by
 obtain⟨h1,h2,h3,h4⟩:=h;have hb:=h1.2.1;have W2:=h1.1.2.1
 have e:dW ju NN (ts,(ts.length:Int),0,bs,key,cs,ls,ts,(),0,(),(),(),bs,key,cs,ls,[],())=some (ts,(ts.length:Int),(ts.length:Int),false,bs,key,cs,ls,ts,(),0,(),(),(),bs,key,cs,ls,ts,()):=by
  have:=kO (f:=ju) (N:=NN) (st:=λk=>(ts,(ts.length:Int),(k:Int),bs,key,cs,ls,ts,(),0,(),(),(),bs,key,cs,ls,ts.take k,())) (n:=ts.length) (t:=(ts,(ts.length:Int),(ts.length:Int),false,bs,key,cs,ls,ts,(),0,(),(),(),bs,key,cs,ls,ts,())) (by unfold NN;omega) ?_ ?_
  ·exact this
  ·intro k hk;unfold ju;dsimp only
   (with_reducible refine dM (λZ'=>?_) λZ'=>?_)
   ·rw[dP];refine Ok.get (by omega) λx hx=>?_;have:=(h4 x (dR hx)).len;refine dL (dY (by omega)) (dL (dY (by simp;omega)) ?_)
    (simp (disch:=omega) only [dU,eu,d8,d7])
    refine Ok.ret ?_;rw[List.take_add_one,hx];rfl
   ·omega
  ·unfold ju
   (with_reducible refine dM (λZ'=>?_) λZ'=>?_)
   ·omega
   ·rw[List.take_length];exact Ok.ret rfl
 refine fk ?_;unfold jv;refine dL (dY (by omega)) ?_;rw[Nk h2,show List.append [] bs=bs from rfl];delta dQ;simp;rw[e];exact Ok.ret rfl
theorem tV{α:Type}{l:List α}{i:Nat}{f:α->α}{a:α}(h:l[i]?=some a):(List.modify l i f)[i]?=some (f a):=by simp_all
theorem jN{α:Type}(l:List α) (i:Nat) (f g:α->α):List.modify (List.modify l i f) i g=List.modify l i λa=>g (f a):=by
 apply List.ext_getElem?
 grind
theorem MOk.thread{n:Int}{ss bs:List Int}{cs:List DCe}{ls:List DLn}{ts:List DTh}(h:MOk n ss bs cs ls ts) {i:Nat}{t:DTh}{f:DTh->DTh}(ht:ts[i]?=some t) (hf:Be (RK bs ss) n (f t)):MOk n ss bs cs ls (List.modify ts i f):=by
 refine⟨h.lay,h.mem,by rw[oLM];exact h.tlen,λx hx=>?_⟩;have ⟨j,hj⟩:=List.getElem?_of_mem hx;by_cases hij:i=j
 ·simp_all
 ·simp[hij] at hj
  have:ts[j]?=some x:=by simp_all
  exact h.thr x (dR this)
theorem PL{n key:Int}{ss bs:List Int}{cs:List DCe}{ls:List DLn}{ts:List DTh}(h:MOk n ss bs cs ls ts) (i:Int):Ok (oo bs key cs ls ts i) λr=>r.1=true->0<=i/\i < 4/\∀t,ts[i.toNat]?=some t->t.2.2.2.2.1≠-1:=by
 unfold oo;delta dQ;have:=h.tlen
 (with_reducible refine dM (λZ'=>?_) λZ'=>?_)
 ·exact Ok.ret (λh=>by cases h)
 ·(with_reducible refine dM (λZ3=>?_) λZ3=>?_)
  ·exact Ok.ret (λh=>by cases h)
  ·refine Ok.nat (by omega) λj hj=>?_;refine Ok.get (by omega) λt ht=>?_;subst hj
   (with_reducible refine dM (λhcc=>?_) λhcc=>?_)
   ·(with_reducible refine dM (λXo=>?_) λXo=>?_)
    ·exact Ok.ret (λ_=>⟨by omega,by omega,λt' ZK=>by
      rw[oTN,ht] at ZK
      injection ZK with ZK
      rw[<- ZK]
      exact Xo⟩)
    ·exact Ok.ret (λh=>by cases h)
   ·exact Ok.ret (λh=>by cases h)
theorem KV{n key:Int}{ss bs:List Int}{cs:List DCe}{ls:List DLn}{ts:List DTh}(h:MOk n ss bs cs ls ts) (i:Int):Ok (lj bs key cs ls ts i) λr=>∃Zp b,r=(bs,key,cs,ls,Zp,b,())/\MOk n ss bs cs ls Zp:=by
 unfold lj;rw[vW h];refine (PL h i).bind ?_;rintro⟨b,_⟩ hb
 (with_reducible refine dM (λZ'=>?_) λZ'=>?_)
 ·exact Ok.ret ⟨ts,false,rfl,h⟩
 ·have hb:=hb Z';have Xz:=h.tlen;obtain⟨hb1,ZZ,U'⟩:=hb;refine Ok.nat hb1 λj hj=>?_;refine Ok.get (by omega) λt ht=>?_;refine Ok.get (by omega) λt1 X3=>?_;refine Ok.get (by omega) λt2 YZ=>?_;refine Ok.get (by omega) λt3 ht3=>?_;rw[ht] at X3 YZ ht3
  injection X3 with X3
  injection YZ with YZ
  subst X3 YZ;refine Ok.get (by rw[oLM];omega) λt4 ht4=>?_;have hne:=U' t (by simp_all);have hok:=h.thr t (dR ht);rw[jN];exact Ok.ret ⟨_,_,rfl,h.thread ht ⟨hok.state,hok.len,hok.regs,⟨by have:=hok.handler;dsimp only;omega,hok.handler.2⟩,hok.count,hok.handler,⟨by have:=hok.pc;dsimp only;omega,hok.pc.2⟩,hok.trap,hok.code⟩⟩
theorem PY{n Xm:Int}{ts:List DTh}{i:Nat}{t:DTh}(ht:ts[i]?=some t):fW i Xm ts=some (2,List.modify ts i λt=>(4,t.2.1,t.2.2.1,t.2.2.2.1,t.2.2.2.2.1,t.2.2.2.2.2.1,Xm,0),()):=by
 refine fk ?_;have hl:=(oGS ht).1;refine Ok.get hl λ_ _=>?_;refine Ok.get (by simp_all) λ_ _=>?_;refine Ok.get (by simp_all) λ_ _=>?_;rw[jN,jN];exact Ok.ret rfl
theorem Be.ended{K:Int->Prop}{n Xm:Int}{t:DTh}(h:Be K n t) (hw:0<=Xm/\Xm<=6):Be K n (4,t.2.1,t.2.2.1,t.2.2.2.1,t.2.2.2.2.1,t.2.2.2.2.2.1,Xm,0):=
 ⟨⟨by omega,by omega⟩,h.len,h.regs,h.pc,h.count,h.handler,h.saved,hw,⟨by simp_all,by simp_all⟩⟩
theorem wZ{ss bs:List Int}{key a:Int}(h:LV bs ss) (ha:0<=a/\a<=65535):Ok (fG bs key ss a) λr=>(r.2.2.1=true->∃b n,0<=r.1/\bs[r.1.toNat]?=some b/\ss[r.1.toNat]?=some n/\0<=r.2.1/\r.2.1 < n/\a=b+r.2.1):=by
 obtain⟨hs,hl,hr⟩:=h;have W2:=hs.2.1;unfold fG;delta dQ
 try dsimp only
 obtain⟨t,e,ht⟩:=gK (f:=eY) (n:=NN) (s:=(ss,a,bs,(bs.length:Int),0,bs,key,0,0,())) (P:=λs'=>∃k:Nat,s'=(ss,a,bs,(bs.length:Int),(k:Int),bs,key,0,0,())/\k<=bs.length)
  (R:=λr=>(∃x y,r=.inl (true,x,y,())/\∃b n,0<=x/\bs[x.toNat]?=some b/\ss[x.toNat]?=some n/\0<=y/\y < n/\a=b+y)\/∃z,r=.inr z) (m:=λs'=>(s'.2.2.2.1 - s'.2.2.2.2.1).toNat) ⟨0,rfl,by omega⟩ (by unfold NN;dsimp only;omega) (by
   rintro _ ⟨k,rfl,hk⟩;unfold eY;dsimp only
   (with_reducible refine dM (λZ'=>?_) λZ'=>?_)
   ·rw[dP];simp only[oBS];obtain⟨b,hb⟩:∃b,bs[k]?=some b:=⟨_,oGE (by omega)⟩;obtain⟨y,hy⟩:∃y,ss[k]?=some y:=⟨_,oGE (by omega)⟩;have Xl:=hs.2.2 y (dR hy);have Vk:=hr k (by omega);unfold p6 at Vk;rw[ef hb,ef hy] at Vk;rw[show dO bs k=some b from hb];rw[show dO ss k=some y from hy];simp only[oBS];rw[dU (x:=b+y) (by omega) (by omega)];by_cases h1:a>=b
    ·by_cases h2:a < b+y
     ·simp only[h1,h2,decide_true,oCT];rw[dU (x:=a - b) (by omega) (by omega)];exact Ok.ret (.inl ⟨_,_,rfl,b,y,by omega,by rw[oTN];exact hb,by rw[oTN];exact hy,by omega,by omega,by omega⟩)
     ·simp only[h1,h2,decide_true,decide_false,oCT,oCF]
      (simp (disch:=omega) only [dU,eu,d8,d7])
      exact Ok.ret ⟨⟨k+1,rfl,by omega⟩,by dsimp only;omega⟩
    ·simp only[h1,decide_false,oCF]
     (simp (disch:=omega) only [dU,eu,d8,d7])
     exact Ok.ret ⟨⟨k+1,rfl,by omega⟩,by dsimp only;omega⟩
   ·exact Ok.ret (.inr ⟨_,rfl⟩))
 rw[e];rcases ht with ⟨x,y,rfl,WT⟩ | ⟨z,rfl⟩
 ·exact Ok.ret λ_=>WT
 ·exact Ok.ret λh=>by cases h
theorem CH{ss:List Int}{r o:Int}:Ok (fR ss r o) λx=>x.1=true->0<=r/\0<=o/\∃n,ss[r.toNat]?=some n/\o < n:=by
 unfold fR;delta dQ
 (with_reducible refine dM (λZ'=>?_) λZ'=>?_)
 ·(with_reducible refine dM (λZ3=>?_) λZ3=>?_)
  ·(with_reducible refine dM (λhcc=>?_) λhcc=>?_)
   ·refine Ok.nat (by omega) λj hj=>?_;refine Ok.get (by omega) λn hn=>?_;exact Ok.ret λh=>⟨by omega,by omega,n,by simp_all,of_decide_eq_true h⟩
   ·exact Ok.ret λh=>by cases h
  ·exact Ok.ret λh=>by cases h
 ·exact Ok.ret λh=>by cases h
theorem Ab{ss bs:List Int}{key tag v n:Int}{back:Bool}(h:LV bs ss) (hv:W16 v) (hn:W16 n):Ok (f9 bs key ss tag v n back) λr=>∃t x e,r=(t,x,e,())/\oQ (RK bs ss) (t,x)/\0<=e/\e<=6/\(e=0->x < 512):=by
 have hz:∀e:Int,0 < e->e<=6->∃t x e',((0:Int),(0:Int),e,())=(t,x,e',())/\oQ (RK bs ss) (t,x)/\0<=e'/\e'<=6/\(e'=0->x < 512):=λe h1 h2=>⟨0,0,e,rfl,nd (by decide),by omega,h2,by omega⟩;obtain⟨v0,v1⟩:=hv;obtain⟨n0,n1⟩:=hn;unfold f9
 (with_reducible refine dM (λZ'=>?_) λZ'=>?_)
 ·exact Ok.ret (hz 3 (by decide) (by decide))
 ·rw[d8 (x:=v) (by omega) (by omega),d8 (x:=n) (by omega) (by omega)];refine (wZ h ⟨v0,v1⟩).bind ?_;rintro⟨r,o,ok,_⟩ Y1;dsimp only at Y1 ⊢
  (with_reducible refine dM (λZ3=>?_) λZ3=>?_)
  ·exact Ok.ret (hz 4 (by decide) (by decide))
  ·obtain⟨b,z,hr0,hb,hzz,ho0,ho1,_⟩:=Y1 Z3;have Yc:=h.1.2.2 z (dR hzz);refine Ok.bind (P:=λx=>∃o',x=(ss,bs,key,0,0,r,o',())/\-70000<=o'/\o'<=70000) ?_ ?_
   ·refine Ok.cond (λ_=>?_) λ_=>?_
    all_goals
     (simp (disch:=omega) only [dU,eu,d8,d7])
     exact Ok.ret ⟨_,rfl,by omega,by omega⟩
   rintro _ ⟨o',rfl,Xv,ho3⟩;dsimp only;refine CH.bind ?_;rintro⟨q,_⟩ hin;dsimp only at hin ⊢
   (with_reducible refine dM (λhcc=>?_) λhcc=>?_)
   ·exact Ok.ret (hz 4 (by decide) (by decide))
   ·obtain⟨_,g1,m,g2,g3⟩:=hin hcc;refine Ok.nat hr0 λj hj=>?_;subst hj;rw[oTN] at hb g2;have hjl:=(oGS hb).1;have hrj:=h.2.2 j hjl;unfold p6 at hrj;rw[ef hb,ef g2] at hrj;rw[show dO bs j=some b from hb];simp only[oBS];rw[dU (x:=b+o') (by omega) (by omega),eu (x:=b+o') (by omega) (by omega)];exact Ok.ret ⟨_,_,_,rfl,⟨by dsimp only;omega,by dsimp only;omega,by dsimp only;omega,by dsimp only;omega,λ_=>⟨j,b,m,hb,g2,by dsimp only;omega,by dsimp only;omega⟩⟩,by decide,by decide,λ_=>by omega⟩
theorem kV.line{K:Int->Prop}{cs:List DCe}{ls:List DLn}(h:kV K cs ls) {i:Nat}{x:DLn}{f:DLn->DLn}(hx:ls[i]?=some x) (hf:Sr K i (f x)) (hg:SH cs (f x)):kV K cs (List.modify ls i f):=by
 have key:∀(j:Nat) y,(List.modify ls i f)[j]?=some y->Sr K j y/\SH cs y:=λj y hy=>by
  by_cases hij:i=j
  ·simp_all
  ·simp[hij] at hy;exact⟨h.lines j y (by simp_all),h.coh j y (by simp_all)⟩
 exact⟨h.clen,h.cells,by rw[oLM];exact h.llen,λj y hy=>(key j y hy).1,λj y hy=>(key j y hy).2⟩
theorem J4{cs xs:List DCe}{lo k:Nat}(h1:lo+4<=cs.length) (h3:4<=xs.length) (hk:k < lo\/lo+4<=k):(sF cs lo 4 xs)[k]?=cs[k]?:=by
 unfold sF;rcases hk with hk | hk
 ·rw[List.append_assoc,List.getElem?_append_left (by rw[oLT];omega),List.getElem?_take_of_lt hk]
 ·rw[List.getElem?_append_right (by simp;omega),List.getElem?_drop];congr 1;simp;omega
theorem Lp{K:Int->Prop}{cs xs:List DCe}{lo n:Nat}(h1:cs.length=512) (h2:lo+n<=512) (h3:n<=xs.length) (hc:∀c∈cs,oQ K c) (hx:∀c∈xs,oQ K c):(sF cs lo n xs).length=512/\∀c∈sF cs lo n xs,oQ K c:=by
 unfold sF;refine⟨?_,λc hh=>?_⟩
 ·simp;omega
 ·simp only[List.mem_append] at hh;rcases hh with (hh | hh) | hh
  ·exact hc c (List.mem_of_mem_take hh)
  ·exact hx c (List.mem_of_mem_take hh)
  ·exact hc c (List.mem_of_mem_drop hh)
theorem Jy{K:Int->Prop}{cs:List DCe}{ls:List DLn}{a:Int}(h:kV K cs ls) (ha:0<=a/\a < 512):Ok (lz a cs ls) λr=>∃i Z4 Z1 x,r=(i,Z4,Z1,())/\kV K Z4 Z1/\Z1[i]?=some x/\x.1=a / 4/\x.2.2.length=4:=by
 obtain⟨a0,a1⟩:=ha;obtain⟨h1,h2,h3,h4,h5⟩:=id h;unfold lz;rw[Int.tdiv_eq_ediv_of_nonneg a0,dU (x:=a / 4) (by omega) (by omega)];dsimp only;rw[Int.tmod_eq_emod_of_nonneg (show 0<=a / 4 by omega)];refine Ok.nat (by omega) λi hi=>?_
 have YQ:i < ls.length:=by omega
 obtain⟨x,hx⟩:∃x,ls[i]?=some x:=⟨_,oGE YQ⟩;have hg:dO ls i=some x:=hx;have hL:=h4 i x hx;simp only[hg,oBS]
 (with_reducible refine dM (λZ'=>?_) λZ'=>?_)
 ·refine Ok.ret ⟨i,cs,ls,x,rfl,h,hx,Z',?_⟩;rcases hL with ⟨g1,_,_⟩ | ⟨_,_,_,g,_⟩
  ·omega
  ·exact g
 ·refine Ok.bind (P:=λr=>∃Z4,r=(a / 4,i,Z4,ls,())/\Z4.length=512/\(∀c∈Z4,oQ K c)/\∀(j:Nat) y,ls[j]?=some y->SH Z4 y) ?_ ?_
  ·refine Ok.cond (λhd=>?_) λ_=>Ok.ret ⟨cs,rfl,h1,h2,h5⟩;rcases hL with ⟨_,g,_⟩ | ⟨g1,g2,g3,g4,g5⟩
   ·rw[g] at hd;cases hd
   ·rw[dU (x:=x.1*4) (by omega) (by omega)];refine Ok.nat (by omega) λq hq=>?_;refine dL (by unfold ir;simp;omega) ?_
    try simp only[hg,oBS]
    rw[g4,h1]
    have UO:Nat.min 4 (Nat.sub 512 q)=4:=by
     show min 4 (512 - q)=4;omega
    rw[UO];refine dL (by unfold ir;simp;omega) ?_;refine dL rfl ?_;obtain⟨s1,s2⟩:=Lp (lo:=q) (n:=4) h1 (by omega) (by omega) h2 g5;refine Ok.ret ⟨_,rfl,s1,s2,λj y hy=>?_⟩;by_cases hij:j=i
    ·subst hij;rw[hx] at hy
     injection hy with hy
     subst hy;exact .inr (.inl hd)
    ·rcases h5 j y hy with g | g | g
     ·exact .inl g
     ·exact .inr (.inl g)
     ·rcases h4 j y hy with ⟨g',_,_⟩ | ⟨y1,y2,y3,y4,y5⟩
      ·exact .inl g'
      ·refine .inr (.inr λo ho=>?_);rw[J4 (by omega) (by omega) (by omega)];exact g o ho
  rintro _ ⟨Z4,rfl,c1,c2,c3⟩;dsimp only;rw[dU (x:=a / 4*4) (by omega) (by omega),dU (x:=a / 4+1) (by omega) (by omega),dU (x:=(a / 4+1)*4) (by omega) (by omega)];simp only[hg,oBS];refine Ok.get (by rw[oLM];exact YQ) λ_ _=>?_;refine Ok.nat (by omega) λq hq=>?_;refine Ok.nat (by omega) λq2 Yw=>?_;refine dL (by unfold ir;simp;omega) ?_
  have hw:(kU Z4 q (Nat.sub q2 q)).length=4:=by
   unfold kU;rw[oLT,List.length_drop];show min (q2 - q) _=4;omega
  refine dL (dY (by omega)) ?_;refine Ok.get (by rw[oLM,oLM];exact YQ) λ_ _=>?_;rw[jN,jN,show List.append [] (kU Z4 q (Nat.sub q2 q))=kU Z4 q (Nat.sub q2 q) from rfl];have Zv:kV K Z4 ls:=⟨c1,c2,h3,h4,c3⟩;refine Ok.ret ⟨i,Z4,_,_,rfl,Zv.line hx (.inr ⟨by dsimp only;omega,by dsimp only;omega,by dsimp only;omega,hw,λc hc=>c2 c ?_⟩) (.inr (.inr λo ho=>?_)),tV hx,rfl,hw⟩
  ·dsimp only at hc;unfold kU at hc;exact List.mem_of_mem_drop (List.mem_of_mem_take hc)
  ·dsimp only;unfold kU;rw[hq,oTN,List.getElem?_take_of_lt (show o < Nat.sub q2 q by show o < q2 - q;omega),List.getElem?_drop]
theorem MO{K:Int->Prop}{cs:List DCe}{ls:List DLn}{a:Int}(h:kV K cs ls) (ha:0<=a/\a < 512):Ok (pn a cs ls) λr=>∃t v Z4 Z1,r=(t,v,Z4,Z1,())/\oQ K (t,v)/\kV K Z4 Z1:=by
 refine (Jy h ha).bind ?_;rintro _ ⟨i,Z4,Z1,x,rfl,hm,hx,Z2,Yq⟩;have hg:dO Z1 i=some x:=hx;simp[hg];rw[Int.tmod_eq_emod_of_nonneg ha.1];refine Ok.nat (by omega) λj hj=>?_;refine Ok.get (by omega) λ_ _=>?_;refine Ok.get (by omega) λc hc=>?_
 have ZO:oQ K c:=by
  rcases hm.lines i x hx with ⟨_,_,g⟩ | ⟨_,_,_,_,g⟩
  ·omega
  ·exact g c (dR hc)
 exact Ok.ret ⟨_,_,_,_,rfl,ZO,hm⟩
theorem Cn{K:Int->Prop}{cs:List DCe}{ls:List DLn}{a t v:Int}(h:kV K cs ls) (ha:0<=a/\a < 512) (hc:oQ K (t,v)):Ok (lw a t v cs ls) λr=>∃Z4 Z1,r=(Z4,Z1,())/\kV K Z4 Z1:=by
 refine (Jy h ha).bind ?_;rintro _ ⟨i,Z4,Z1,x,rfl,hm,hx,Z2,Yq⟩;have hg:dO Z1 i=some x:=hx;have YQ:=(oGS hx).1;simp[hg];rw[Int.tmod_eq_emod_of_nonneg ha.1];refine Ok.nat (by omega) λj hj=>?_;refine Ok.get (by omega) λ_ _=>?_;refine Ok.get (by omega) λ_ _=>?_;refine Ok.get (by simp_all) λ_ _=>?_;rw[jN];refine Ok.ret ⟨_,_,rfl,hm.line hx ?_ (.inr (.inl rfl))⟩;rcases hm.lines i x hx with ⟨_,_,g⟩ | ⟨g1,g2,g3,g4,g5⟩
 ·omega
 ·exact .inr ⟨g1,g2,g3,by simp_all,jO g5 λ_ _=>hc⟩
theorem qK(x:Int):W16 (wk .u16 x):=by
 unfold wk;rw[CZ];exact⟨by omega,by omega⟩
theorem Pl{ss bs:List Int}{key t v t' v':Int}(h:LV bs ss) (hv:W16 v) (Y7:W16 v'):Ok (lu bs key ss t v t' v') λ_=>True:=by
 obtain⟨v0,v1⟩:=hv;obtain⟨u0,u1⟩:=Y7;unfold lu;rw[d8 (x:=v) (by omega) (by omega),d8 (by omega) (by omega)];refine (wZ h ⟨v0,v1⟩).bind ?_;rintro⟨r,o,ok,_⟩ _;refine (wZ h ⟨u0,u1⟩).bind ?_;rintro⟨r',o',ok',_⟩ _;cases ok<;>cases ok'<;>exact Ok.ret trivial
theorem Iq(b:Bool):kL b=some (0,(bif b then 1 else 0),()):=by cases b<;>rfl
theorem RS{op b c:Int}(hb:W16 b) (hc:W16 c):Ok (lr op b c) λr=>∃v e,r=(0,v,e,())/\W16 v/\0<=e/\e<=6:=by
 obtain⟨b0,b1⟩:=hb;obtain⟨c0,c1⟩:=hc;have ZY:∀x:Int,W16 x->Ok (some ((0:Int),x,(0:Int),())) λr=>∃v e,r=(0,v,e,())/\W16 v/\0<=e/\e<=6:=λx h=>Ok.ret ⟨x,0,rfl,h,by decide,by decide⟩;have z5:Ok (some ((0:Int),(0:Int),(5:Int),())) λr=>∃v e,r=(0,v,e,())/\W16 v/\0<=e/\e<=6:=Ok.ret ⟨0,5,rfl,⟨by decide,by decide⟩,by decide,by decide⟩;have hw:=qK;unfold lr
 (with_reducible refine dM (λZ'=>?_) λZ'=>?_)
 ·exact ZY _ (qK _)
 (with_reducible refine dM (λZ3=>?_) λZ3=>?_)
 ·exact ZY _ (qK _)
 (with_reducible refine dM (λhcc=>?_) λhcc=>?_)
 ·exact ZY _ (qK _)
 have hq:∀X:Option (Int×Int×Int×Unit),c≠0->(X=(bif (op==6) then (bif (c != 0) then some ((0:Int),wk .u16 (Int.tdiv b c),(0:Int),()) else none) else bif (c != 0) then some ((0:Int),Int.tmod b c,(0:Int),()) else none))->Ok X λr=>∃v e,r=(0,v,e,())/\W16 v/\0<=e/\e<=6:=by
  rintro _ hne rfl;refine Ok.cond (λ_=>dL (by rw[bne_iff_ne];exact hne) (ZY _ (qK _))) λ_=>dL (by rw[bne_iff_ne];exact hne) (ZY _ ?_);rw[Int.tmod_eq_emod_of_nonneg b0];have h1:=Int.emod_nonneg b hne;have h2:=Int.emod_lt_of_pos b (show 0 < c by omega);exact⟨h1,by omega⟩
 (with_reducible refine dM (λXo=>?_) λXo=>?_)
 ·(with_reducible refine dM (λWn=>?_) λWn=>?_)
  ·exact z5
  ·simp_all
 (with_reducible refine dM (λXo=>?_) λXo=>?_)
 ·(with_reducible refine dM (λWn=>?_) λWn=>?_)
  ·exact z5
  ·simp_all
 (with_reducible refine dM (λVE=>?_) λVE=>?_)
 ·exact ZY _ (hw _)
 (with_reducible refine dM (λVE=>?_) λVE=>?_)
 ·exact ZY _ (hw _)
 (with_reducible refine dM (λVE=>?_) λVE=>?_)
 ·exact ZY _ (hw _)
 (with_reducible refine dM (λVE=>?_) λVE=>?_)
 ·rw[Int.tmod_eq_emod_of_nonneg c0];refine Ok.nat (by omega) λj hj=>?_;exact ZY _ (hw _)
 (with_reducible refine dM (λVE=>?_) λVE=>?_)
 ·rw[Int.tmod_eq_emod_of_nonneg c0];refine Ok.nat (by omega) λj hj=>ZY _ ?_;show W16 (Int.fdiv b (2 ^ (min j 16)));have hp:(0:Int) < 2 ^ (min j 16):=Int.pow_pos (by decide);rw[Int.fdiv_eq_ediv_of_nonneg _ (by omega)];exact⟨Int.ediv_nonneg b0 (by omega),by have:=Int.ediv_le_self (2 ^ (min j 16)) b0;omega⟩
 rw[Iq];refine ZY _ ?_;cases decide (b < c)
 ·exact⟨by decide,by decide⟩
 ·exact⟨by decide,by decide⟩
def PT(K:Int->Prop) (r:Int×Int×Int×Unit):Prop:=∃t v e,r=(t,v,e,())/\oQ K (t,v)/\0<=e/\e<=6
theorem sY{K:Int->Prop}{t v e:Int}(h:oQ K (t,v)) (h0:0<=e) (h1:e<=6):Ok (some (t,v,e,())) (PT K):=Ok.ret ⟨t,v,e,rfl,h,h0,h1⟩
theorem zo{K:Int->Prop}{v:Int}(h:W16 v):oQ K (0,v):=nd h
theorem GT{K:Int->Prop}(b:Bool):oQ K (0,bif b then 1 else 0):=zo (by cases b<;>exact⟨by decide,by decide⟩)
theorem u9{K:Int->Prop}:oQ K (0,0):=zo ⟨by decide,by decide⟩
theorem SS{ss bs:List Int}{key op t v t' v':Int}(h:LV bs ss) (hb:oQ (RK bs ss) (t,v)) (hc:oQ (RK bs ss) (t',v')):Ok (tO bs key ss op t v t' v') (PT (RK bs ss)):=by
 obtain⟨t0,t2,v0,v1,_⟩:=hb;obtain⟨u0,u2,w0,w1,_⟩:=hc;dsimp only at t0 t2 v0 v1 u0 u2 w0 w1;obtain⟨_,eN,n1,n2,rfl,Wv,hn2,hn3⟩:=RS (op:=op) (b:=v) (c:=v') ⟨v0,v1⟩ ⟨w0,w1⟩;obtain⟨_,eA,a1,a2,a3,rfl,XC,WW,ha3,_⟩:=Ab (key:=key) (tag:=t) (back:=false) h (v:=v) (n:=v') ⟨v0,v1⟩ ⟨w0,w1⟩;obtain⟨_,eB,b1,b2,b3,rfl,hb1,ZZ,U',_⟩:=Ab (key:=key) (tag:=t') (back:=false) h (v:=v') (n:=v) ⟨w0,w1⟩ ⟨v0,v1⟩;obtain⟨_,eC,c1,c2,c3,rfl,ZW,ZO,hc3,_⟩:=Ab (key:=key) (tag:=t) (back:=true) h (v:=v) (n:=v') ⟨v0,v1⟩ ⟨w0,w1⟩;obtain⟨⟨p1,p2,p3,p4,ok,_⟩,eP,_⟩:=Pl (key:=key) (t:=t) (t':=t') h (v:=v) (v':=v') ⟨v0,v1⟩ ⟨w0,w1⟩;unfold tO
 (with_reducible refine dM (λZ'=>?_) λZ'=>?_)
 ·exact sY u9 (by decide) (by decide)
 (with_reducible refine dM (λZ3=>?_) λZ3=>?_)
 ·exact sY u9 (by decide) (by decide)
 cases h14:(op==14) with
 | true=>
  simp only[oCT,Iq,oBS];exact sY (GT _) (by decide) (by decide)
 | false=>
  simp only[oCF,eN,eA,eB,eC,eP,oBS]
  rcases (show t=0\/t=1\/t=2 by omega) with rfl | rfl | rfl<;>rcases (show t'=0\/t'=1\/t'=2 by omega) with rfl | rfl | rfl
  all_goals
   cases h3:(op==3)<;>cases h4:(op==4)<;>cases h13:(op==13)<;>simp only[Int.reduceBEq,oCT,oCF,oBS,h3,h4,h13,Iq,eN,eA,eB,eC,eP,BEq.rfl]
  all_goals first
   | exact sY (zo Wv) hn2 hn3
   | exact sY XC WW ha3
   | exact sY hb1 ZZ U'
   | exact sY ZW ZO hc3
   | exact sY u9 (by decide) (by decide)
   | (cases ok<;>first
    | exact sY u9 (by decide) (by decide)
    | exact sY (GT _) (by decide) (by decide)
    | exact sY (zo (qK _)) (by decide) (by decide))
theorem Np{l:List Int}{k:Int}(h:DOk l k):Ok (nT l k) λr=>∃t b s k',r=(t,b,s,l,k',())/\0<=t/\t < 4/\0<=b/\b<=63/\DOk l k':=by
 unfold nT
 (with_reducible refine fY (by omega) (by omega) (by omega) (λv0 k0 a0 b0 d0=>?_);try dsimp only)
 (with_reducible refine fY (by omega) (by omega) (by omega) (λv1 k1 a1 b1 d1=>?_);try dsimp only)
 (with_reducible refine Ok.nat (by omega) (λj1 hj1=>?_);try dsimp only)
 have hm:∀x∈[(0:Int),1,2,3,7,63],0<=x/\x<=63:=by simp_all
 refine Ok.get (by simp;omega) λx hx=>?_;refine Ok.get (by simp;omega) λy hy=>?_;have Xl:=hm y (dR hy)
 (with_reducible refine fY (by omega) (by omega) (by omega) (λv2 k2 a2 b2 d2=>?_);try dsimp only)
 exact Ok.ret ⟨_,_,_,_,rfl,a0,b0,Xl.1,Xl.2,d2⟩
def ji:List DTh->Int->List Int
 | [],_=>[]
 | t :: ts,i=>if t.1=1 then i :: ji ts (i+1) else ji ts (i+1)
theorem Dc(a b:List DTh) (i:Int):ji (a++b) i=ji a i++ji b (i+a.length):=by
 induction a generalizing i with
 | nil=>simp[ji]
 | cons t a ih=>
  simp[ji,ih];rw[show i+1+(a.length:Int)=i+((a.length+1:Nat):Int) by omega];split<;>rfl
theorem Cz(a:List DTh) (i:Int):(ji a i).length<=a.length:=by
 induction a generalizing i with
 | nil=>simp[ji]
 | cons t a ih=>
  simp[ji];have:=ih (i+1);split<;>simp<;>omega
theorem Ki{a:List DTh}{i x:Int}(h:x∈ji a i):i<=x/\x < i+a.length/\∃t,a[(x - i).toNat]?=some t/\t.1=1:=by
 induction a generalizing i with
 | nil=>simp[ji] at h
 | cons t a ih=>
  simp[ji] at h
  have key:x∈ji a (i+1)->i<=x/\x < i+((t :: a).length:Int)/\∃t',(t :: a)[(x - i).toNat]?=some t'/\t'.1=1:=by
   intro h;have ⟨h1,h2,t',h3,h4⟩:=ih h;refine⟨by omega,by simp;omega,t',?_,h4⟩;rw[show (x - i).toNat=(x - (i+1)).toNat+1 by omega,List.getElem?_cons_succ];exact h3
  split at h
  ·rename_i ht;rcases List.mem_cons.1 h with rfl | h
   ·exact⟨by omega,by simp;omega,t,by simp,ht⟩
   ·exact key h
  ·exact key h
theorem Ov{ts:List DTh}(h:ts.length<=1000):nK ts=some (ji ts 0,()):=by
 have e:dW i5 NN (ts,(ts.length:Int),0,[],())=some (ts,(ts.length:Int),(ts.length:Int),false,ji ts 0,()):=by
  have:=kO (f:=i5) (N:=NN) (st:=λk=>(ts,(ts.length:Int),(k:Int),ji (ts.take k) 0,())) (n:=ts.length) (t:=(ts,(ts.length:Int),(ts.length:Int),false,ji ts 0,())) (by unfold NN;omega) ?_ ?_
  ·exact this
  ·intro k hk;unfold i5;dsimp only
   (with_reducible refine dM (λZ'=>?_) λZ'=>?_)
   ·rw[dP];simp;obtain⟨x,hx⟩:∃x,ts[k]?=some x:=⟨_,oGE hk⟩;rw[show dO ts k=some x from hx];simp;have hlen:=Cz (ts.take k) 0;rw[oLT] at hlen
    have Ve:ji (ts.take (k+1)) 0=ji (ts.take k) 0++(if x.1=1 then [(k:Int)] else []):=by
     rw[List.take_add_one,hx,Dc];congr 1;rw[oLT,show 0+((min k ts.length:Nat):Int)=(k:Int) by omega];simp only[Option.toList,ji]
    refine Ok.bind (P:=(·=(ts,(ts.length:Int),(k:Int),ji (ts.take (k+1)) 0,()))) ?_ ?_
    ·(with_reducible refine dM (λZ3=>?_) λZ3=>?_)
     ·refine dL (dY (by simp;omega)) ?_;rw[Ve,oIP Z3];exact Ok.ret rfl
     ·rw[Ve,oIN Z3,List.append_nil];exact Ok.ret rfl
    ·rintro _ rfl
     (simp (disch:=omega) only [dU,eu,d8,d7])
     exact Ok.ret rfl
   ·omega
  ·unfold i5;dsimp only
   (with_reducible refine dM (λZ'=>?_) λZ'=>?_)
   ·omega
   ·rw[List.take_length];exact Ok.ret rfl
 refine fk ?_;unfold nK;delta dQ
 try dsimp only
 rw[e];exact Ok.ret rfl
theorem AT{ow:List Int}{qs:List (List Int)}(h:jF ow qs):mV ow qs=some (ow,qs,()):=by
 have hq4:∀q∈qs,q.length<=4:=λq hq=>h.qlen4 hq;obtain⟨h1,h2,h3,h4⟩:=h
 have e:dW jp NN (qs,(qs.length:Int),0,ow,qs,(),(),ow,[],())=some (qs,(qs.length:Int),(qs.length:Int),false,ow,qs,(),(),ow,qs,()):=by
  have:=kO (f:=jp) (N:=NN) (st:=λk=>(qs,(qs.length:Int),(k:Int),ow,qs,(),(),ow,qs.take k,())) (n:=qs.length) (t:=(qs,(qs.length:Int),(qs.length:Int),false,ow,qs,(),(),ow,qs,())) (by unfold NN;omega) ?_ ?_
  ·exact this
  ·intro k hk;unfold jp
   (with_reducible refine dM (λZ'=>?_) λZ'=>?_)
   ·rw[dP];refine Ok.get (by omega) λx hx=>?_;have:=hq4 x (dR hx);refine dL (dY (by omega)) (dL (dY (by simp;omega)) ?_)
    (simp (disch:=omega) only [dU,eu,d8,d7])
    refine Ok.ret ?_;rw[List.take_add_one,hx];rfl
   ·omega
  ·unfold jp
   (with_reducible refine dM (λZ'=>?_) λZ'=>?_)
   ·omega
   ·rw[List.take_length];exact Ok.ret rfl
 refine fk ?_;refine dL (dY (by omega)) ?_;rw[show List.append [] ow=ow from rfl];delta dQ
 try dsimp only
 rw[e];exact Ok.ret rfl
theorem In{ow:List Int}{qs:List (List Int)}{lock t:Int}(h:jF ow qs):Ok (kK ow qs lock t) λr=>∃Zi qs' n b,r=(Zi,qs',n,b,())/\jF Zi qs'/\-1<=n/\n<=3:=by
 unfold kK;rw[AT h];obtain⟨h1,h2,h3,h4⟩:=id h;refine Ok.bind (P:=λr=>∃b,r=(lock,b,(),(),ow,qs,())/\(b=false->0<=lock/\lock < 4)) ?_ ?_
 ·(with_reducible refine dM (λZ'=>?_) λZ'=>?_)
  ·exact Ok.ret ⟨true,rfl,λh=>by cases h⟩
  ·(with_reducible refine dM (λZ3=>?_) λZ3=>?_)
   ·exact Ok.ret ⟨true,rfl,λh=>by cases h⟩
   ·refine Ok.nat (by omega) λj hj=>?_;refine Ok.get (by omega) λx hx=>?_;exact Ok.ret ⟨_,rfl,λ_=>⟨by omega,by omega⟩⟩
 rintro _ ⟨b,rfl,hb⟩;dsimp only;refine Ok.cond (λ_=>Ok.ret ⟨_,_,_,_,rfl,h,by omega,by omega⟩) λhbf=>?_;obtain⟨l0,l1⟩:=hb hbf;obtain⟨j,rfl⟩:∃j:Nat,lock=j:=⟨lock.toNat,by omega⟩;obtain⟨o,ho⟩:∃o,ow[j]?=some o:=⟨_,oGE (by omega)⟩;obtain⟨q,hq⟩:∃q,qs[j]?=some q:=⟨_,oGE (by omega)⟩;have go:dO ow j=some o:=ho;have gq:dO qs j=some q:=hq;have gm:∀f:Int->Int,dO (List.modify ow j f) j=some (f o):=λf=>tV ho;have gm2:∀f g:Int->Int,dO (List.modify (List.modify ow j f) j g) j=some (g (f o)):=λf g=>tV (tV ho);delta dQ;simp only[dP,oBS,go,gq,gm,gm2];have Xt:jF (List.modify ow j λ_=>-1) qs:=⟨by rw[oLM];exact h1,h2,jO h3 λ_ _=>⟨by omega,by omega⟩,h4⟩
 (with_reducible refine dM (λhcc=>?_) λhcc=>?_)
 ·obtain⟨x,hx⟩:∃x,q[0]?=some x:=⟨_,oGE (by omega)⟩;have gx:dO q 0=some x:=hx;have Yq:=(h4 q (dR hq)).2 x (dR hx);simp only[gx,oBS];refine dL (by unfold ir;simp;omega) ?_;refine Ok.ret ⟨_,_,_,_,rfl,⟨by rw[oLM,oLM];exact h1,by rw[oLM];exact h2,jO (jO h3 λ_ _=>⟨by omega,by omega⟩) λ_ _=>⟨by omega,by omega⟩,jO h4 λ_ _=>?_⟩,by omega,by omega⟩;obtain⟨q1,q2⟩:=h4 q (dR hq);unfold kU;have hs:(List.take (Nat.sub q.length 1) (List.drop 1 q)).Sublist q:=(List.take_sublist _ _).trans (List.drop_sublist _ _);exact⟨q1.sublist hs,λt ht=>q2 t (hs.subset ht)⟩
 ·exact Ok.ret ⟨_,_,_,_,rfl,Xt,by omega,by omega⟩
theorem Kx{q:List Int}{x:Int}(h:q.Nodup) (hx:x ∉ q):(q++[x]).Nodup:=by
 grind
theorem Q3{ow:List Int}{qs:List (List Int)}{t:Int}(h:jF ow qs):Ok (pi ow qs t) λr=>∃Zi qs' nx,r=(Zi,qs',nx,())/\jF Zi qs'/\nx.length<=4/\∀x∈nx,0<=x/\x<=3:=by
 unfold pi;rw[AT h];delta dQ;simp only[oBS];have h2:=h.qlen;refine Ok.loop (P:=λs'=>∃k:Nat,∃qs',s'=(t,(qs.length:Int),(k:Int),(),(),ow,qs',())/\k<=qs.length/\jF ow qs') (R:=λr=>∃a b c qs',r=(t,a,b,c,(),(),ow,qs',())/\jF ow qs') (m:=λs'=>(s'.2.1 - s'.2.2.1).toNat) ⟨0,qs,rfl,by omega,h⟩ (by unfold NN;dsimp only;omega) ?_ ?_
 ·rintro _ ⟨k,qs',rfl,hk,hl⟩;obtain⟨g1,g2,g3,g4⟩:=id hl;unfold sy;dsimp only
  (with_reducible refine dM (λZ'=>?_) λZ'=>?_)
  ·obtain⟨q,hq⟩:∃q,qs'[k]?=some q:=⟨_,oGE (by omega)⟩;have gq:dO qs' k=some q:=hq;obtain⟨q1,q2⟩:=g4 q (dR hq);have q3:=hl.qlen4 (dR hq);delta dQ;simp only[dP,oBS,gq]
   refine Ok.loop (P:=λs'=>∃j:Nat,∃l,s'=(t,(k:Int),(qs.length:Int),(k:Int),k,(q.length:Int),(j:Int),(),(),ow,qs',l,())/\j<=q.length/\l.Sublist (q.take j))
    (R:=λr=>∃a b c d l,r=(t,(k:Int),(qs.length:Int),(k:Int),a,b,c,d,(),(),ow,qs',l,())/\l.Sublist q) (m:=λs'=>(s'.2.2.2.2.2.1 - s'.2.2.2.2.2.2.1).toNat) ⟨0,[],rfl,by omega,by simp⟩ (by unfold NN;dsimp only;omega) ?_ ?_
   ·rintro _ ⟨j,l,rfl,hj,Z9⟩;unfold sA;dsimp only
    (with_reducible refine dM (λZ3=>?_) λZ3=>?_)
    ·obtain⟨x,hx⟩:∃x,q[j]?=some x:=⟨_,oGE (by omega)⟩;have gx:dO q j=some x:=hx;simp only[dP,oBS,gq,gx];have WQ:=Z9.length_le;rw[oLT] at WQ
     have htk:q.take (j+1)=q.take j++[x]:=by rw[List.take_add_one,hx];rfl
     refine Ok.bind (P:=λr=>∃l',r=(t,(k:Int),(qs.length:Int),(k:Int),k,(q.length:Int),(j:Int),(),(),ow,qs',l',())/\l'.Sublist (q.take (j+1))) ?_ ?_
     ·refine Ok.cond (λ_=>dL (dY (by simp;omega)) (Ok.ret ⟨_,rfl,?_⟩)) λ_=>Ok.ret ⟨l,rfl,?_⟩
      ·rw[htk];exact Z9.append (List.Sublist.refl _)
      ·rw[htk];exact Z9.trans (List.sublist_append_left _ _)
     ·rintro _ ⟨l',rfl,hs⟩;dsimp only
      (simp (disch:=omega) only [dU,eu,d8,d7])
      exact Ok.ret ⟨⟨j+1,l',rfl,by omega,hs⟩,by dsimp only;omega⟩
    ·exact Ok.ret ⟨_,_,_,_,l,rfl,Z9.trans (List.take_sublist _ _)⟩
   ·rintro _ ⟨a,b,c,d,l,rfl,hs⟩;dsimp only;simp only[dP,oBS,gq]
    (simp (disch:=omega) only [dU,eu,d8,d7])
    exact Ok.ret ⟨⟨k+1,_,rfl,by omega,⟨g1,by rw[oLM];exact g2,g3,jO g4 λ_ _=>⟨q1.sublist hs,λt ht=>q2 t (hs.subset ht)⟩⟩⟩,by dsimp only;omega⟩
  ·exact Ok.ret ⟨_,_,_,qs',rfl,hl⟩
 ·rintro _ ⟨a,b,c,qs',rfl,hl⟩;dsimp only
  refine Ok.loop (P:=λs'=>∃k:Nat,∃Zi qs' nx,s'=(t,4,(k:Int),(),(),Zi,qs',nx,())/\k<=4/\nx.length<=k/\jF Zi qs'/\∀x∈nx,0<=x/\x<=3) (R:=λr=>∃a b c Zi qs' nx,r=(t,a,b,c,(),(),Zi,qs',nx,())/\jF Zi qs'/\nx.length<=4/\∀x∈nx,0<=x/\x<=3) (m:=λs'=>(4 - s'.2.2.1).toNat)
   ⟨0,ow,qs',[],by rw[hl.olen];rfl,by omega,by simp,hl,eG⟩ (by unfold NN;dsimp only;omega) ?_ ?_
  ·rintro _ ⟨k,Zi,qs',nx,rfl,hk,XG,Zg,WY⟩;unfold sx;dsimp only
   (with_reducible refine dM (λZ'=>?_) λZ'=>?_)
   ·refine (In Zg).bind ?_;rintro _ ⟨ow2,qs2,n,bb,rfl,X7,n0,n1⟩;dsimp only;refine Ok.bind (P:=λr=>∃nx',r=(t,4,(k:Int),(),(),Zi,qs',nx',ow2,qs2,())/\nx'.length<=k+1/\∀x∈nx',0<=x/\x<=3) ?_ ?_
    ·refine Ok.cond (λ_=>?_) λ_=>Ok.ret ⟨nx,rfl,by omega,WY⟩
     (with_reducible refine dM (λZ3=>?_) λZ3=>?_)
     ·refine dL (dY (by simp;omega)) (Ok.ret ⟨_,rfl,by rw[fC];simp;omega,jZ WY (all_cons ⟨by omega,n1⟩ eG)⟩)
     ·exact Ok.ret ⟨nx,rfl,by omega,WY⟩
    ·rintro _ ⟨nx',rfl,Wv,hn2⟩;dsimp only
     (simp (disch:=omega) only [dU,eu,d8,d7])
     exact Ok.ret ⟨⟨k+1,_,_,_,rfl,by omega,Wv,X7,hn2⟩,by dsimp only;omega⟩
   ·exact Ok.ret ⟨_,_,_,_,_,_,rfl,Zg,by omega,WY⟩
  ·rintro _ ⟨a,b,c,Zi,qs',nx,rfl,Zg,hn4,WY⟩;exact Ok.ret ⟨_,_,_,rfl,Zg,hn4,WY⟩
theorem P1{ow:List Int}{qs:List (List Int)}{lock t:Int}(h:jF ow qs) (ht:0<=t/\t<=3):Ok (ph ow qs lock t) λr=>∃Zi qs' n,r=(Zi,qs',n,())/\jF Zi qs':=by
 unfold ph;rw[AT h];simp only[oBS];obtain⟨h1,h2,h3,h4⟩:=id h;refine Ok.bind (P:=λr=>∃b,r=(lock,t,b,ow,qs,(),(),ow,qs,())/\(b=false->0<=lock/\lock < 4)) ?_ ?_
 ·(with_reducible refine dM (λZ'=>?_) λZ'=>?_)
  ·exact Ok.ret ⟨true,rfl,λh=>by cases h⟩
  ·(with_reducible refine dM (λZ3=>?_) λZ3=>?_)
   ·exact Ok.ret ⟨true,rfl,λh=>by cases h⟩
   ·refine Ok.nat (by omega) λj hj=>?_;refine Ok.get (by omega) λx hx=>?_;exact Ok.ret ⟨_,rfl,λ_=>⟨by omega,by omega⟩⟩
 rintro _ ⟨b,rfl,hb⟩;dsimp only;refine Ok.cond (λ_=>Ok.ret ⟨_,_,_,rfl,h⟩) λhbf=>?_;obtain⟨l0,l1⟩:=hb hbf;delta dQ
 try dsimp only
 obtain⟨r,e,hr⟩:=gK (f:=oq) (n:=NN) (s:=(lock,t,qs,(qs.length:Int),0,ow,qs,(),(),ow,qs,())) (P:=λs'=>∃k:Nat,s'=(lock,t,qs,(qs.length:Int),(k:Int),ow,qs,(),(),ow,qs,())/\k<=qs.length/\∀(i:Nat) q,i < k->qs[i]?=some q->t ∉ q)
  (R:=λr=>r=.inl (2,ow,qs,())\/((∃a b c,r=.inr (lock,t,a,b,c,false,ow,qs,(),(),ow,qs,()))/\∀q∈qs,t ∉ q)) (m:=λs'=>(s'.2.2.2.1 - s'.2.2.2.2.1).toNat) ⟨0,rfl,by omega,λi q hi=>by omega⟩ (by unfold NN;dsimp only;omega) (by
   rintro _ ⟨k,rfl,hk,ZP⟩;unfold oq;dsimp only
   (with_reducible refine dM (λZ'=>?_) λZ'=>?_)
   ·obtain⟨q,hq⟩:∃q,qs[k]?=some q:=⟨_,oGE (by omega)⟩;have gq:dO qs k=some q:=hq;have q3:=h.qlen4 (dR hq);delta dQ;simp only[dP,oBS,gq]
    obtain⟨r,e,hr⟩:=gK (f:=ot) (n:=NN) (s:=(lock,t,qs,(qs.length:Int),(k:Int),q,(q.length:Int),0,ow,qs,(),(),ow,qs,())) (P:=λs'=>∃j:Nat,s'=(lock,t,qs,(qs.length:Int),(k:Int),q,(q.length:Int),(j:Int),ow,qs,(),(),ow,qs,())/\j<=q.length/\∀(i:Nat) x,i < j->q[i]?=some x->x≠t)
     (R:=λr=>r=.inl (2,ow,qs,())\/((∃a b c,r=.inr (lock,t,qs,(qs.length:Int),(k:Int),a,b,c,false,ow,qs,(),(),ow,qs,()))/\t ∉ q)) (m:=λs'=>(s'.2.2.2.2.2.2.1 - s'.2.2.2.2.2.2.2.1).toNat) ⟨0,rfl,by omega,λi x hi=>by omega⟩ (by unfold NN;dsimp only;omega) (by
      rintro _ ⟨j,rfl,hj,hne⟩;unfold ot;dsimp only
      (with_reducible refine dM (λZ3=>?_) λZ3=>?_)
      ·obtain⟨x,hx⟩:∃x,q[j]?=some x:=⟨_,oGE (by omega)⟩;have gx:dO q j=some x:=hx;simp only[dP,oBS,gx]
       (with_reducible refine dM (λhcc=>?_) λhcc=>?_)
       ·exact Ok.ret (.inl rfl)
       ·(simp (disch:=omega) only [dU,eu,d8,d7])
        exact Ok.ret ⟨⟨j+1,rfl,by omega,JN hne hx hcc⟩,by dsimp only;omega⟩
      ·refine Ok.ret (.inr ⟨⟨_,_,_,rfl⟩,λhm=>?_⟩);obtain⟨i,hi⟩:=List.getElem?_of_mem hm
       exact hne i t (by have:=(oGS hi).1;omega) hi rfl)
    rw[e];rcases hr with rfl | ⟨⟨a,b,c,rfl⟩,hnot⟩
    ·exact Ok.ret (.inl rfl)
    ·dsimp only
     (simp (disch:=omega) only [dU,eu,d8,d7])
     refine Ok.ret ⟨⟨k+1,rfl,by omega,λi q' hi Un=>?_⟩,by dsimp only;omega⟩;by_cases hik:i=k
     ·simp_all
     ·exact ZP i q' (by omega) Un
   ·refine Ok.ret (.inr ⟨⟨_,_,_,rfl⟩,λq hq=>?_⟩);obtain⟨i,hi⟩:=List.getElem?_of_mem hq
    exact ZP i q (by have:=(oGS hi).1;omega) hi)
 rw[e];rcases hr with rfl | ⟨⟨a,b,c,rfl⟩,hnot⟩
 ·exact Ok.ret ⟨_,_,_,rfl,h⟩
 ·dsimp only;obtain⟨j,rfl⟩:∃j:Nat,lock=j:=⟨lock.toNat,by omega⟩;obtain⟨o,ho⟩:∃o,ow[j]?=some o:=⟨_,oGE (by omega)⟩;obtain⟨q,hq⟩:∃q,qs[j]?=some q:=⟨_,oGE (by omega)⟩;have go:dO ow j=some o:=ho;have gq:dO qs j=some q:=hq;simp only[dP,oBS,go,gq]
  (with_reducible refine dM (λXo=>?_) λXo=>?_)
  ·exact Ok.ret ⟨_,_,_,rfl,⟨by rw[oLM];exact h1,h2,jO h3 λ_ _=>⟨by omega,ht.2⟩,h4⟩⟩
  ·have q3:=h.qlen4 (dR hq);refine dL (dY (by simp;omega)) (dL (by simp) (Ok.ret ⟨_,_,_,rfl,⟨h1,by rw[oLM];exact h2,h3,jO h4 λ_ _=>⟨?_,?_⟩⟩⟩))
   ·exact Kx (h4 q (dR hq)).1 (hnot q (dR hq))
   ·exact jZ (h4 q (dR hq)).2 (all_cons ht eG)
theorem eJ{α:Type}{l:List α}{i:Nat}{a:α}(h:l[i]?=some a) (f:α->α):List.modify l i f=l.set i (f a):=by
 apply List.ext_getElem?
 grind
theorem iF{α:Type}{l:List α}{i:Nat}(h:i < l.length) (a:α):dO (l.set i a) i=some a:=by
 show (l.set i a)[i]?=some a
 simp_all
theorem qk{α:Type}{l:List α}{i:Nat}(h:i < l.length) (a:α) (f:α->α):List.modify (l.set i a) i f=l.set i (f a):=by
 rw[eJ (iF h a),List.set_set]
theorem jA{α:Type}{P:α->Prop}{l:List α}{i:Nat}{a:α}(h:∀x∈l,P x) (ha:P a):∀x∈l.set i a,P x:=by
 grind
theorem MOk.set{n:Int}{ss bs:List Int}{cs Z4:List DCe}{ls Z1:List DLn}{ts:List DTh}(h:MOk n ss bs cs ls ts) (hm:kV (RK bs ss) Z4 Z1) {i:Nat}{t:DTh}(ht:Be (RK bs ss) n t):MOk n ss bs Z4 Z1 (ts.set i t):=
 ⟨h.lay,hm,by rw[List.length_set];exact h.tlen,jA h.thr ht⟩
def Tv(code:List DIn) (t:DTh) (s:Int) (t':DTh):Prop:=
 (s=-1/\t'.1=1/\((t'.2.2.2.1=t.2.2.2.1/\t'.2.2.1=t.2.2.1+1)\/t'.2.2.2.1=t.2.2.2.1+1))\/(s=2/\t'.1=4/\t'.2.2.2.1=t.2.2.2.1) \/
  (s=1/\t'.1=2/\t'.2.2.2.1=t.2.2.2.1/\∃i:DIn,1<=t'.2.2.1/\code[(t'.2.2.1 - 1).toNat]?=some i/\i.1=23)
def IM(n key:Int) (code:List DIn) (ss bs:List Int) (ts:List DTh) (i:Nat) (t:DTh) (r:Int×List Int×Int×List DCe×List DLn×List DTh×Unit):Prop:=
 ∃s Z4 Z1 t',r=(s,bs,key,Z4,Z1,ts.set i t',())/\kV (RK bs ss) Z4 Z1/\Be (RK bs ss) n t'/\Tv code t s t'
theorem oD{n key:Int}{code:List DIn}{ss bs:List Int}{ts:List DTh}{i:Nat}{t t':DTh}{Z4:List DCe}{Z1:List DLn}(hm:kV (RK bs ss) Z4 Z1) (ht:Be (RK bs ss) n t') (h1:t'.1=1)
 (h:(t'.2.2.2.1=t.2.2.2.1/\t'.2.2.1=t.2.2.1+1)\/t'.2.2.2.1=t.2.2.2.1+1):Ok (some (-1,bs,key,Z4,Z1,ts.set i t',())) (IM n key code ss bs ts i t):=Ok.ret ⟨_,_,_,_,rfl,hm,ht,.inl ⟨rfl,h1,h⟩⟩
theorem nU{n key Xm:Int}{code:List DIn}{ss bs:List Int}{ts:List DTh}{i:Nat}{t:DTh}{Z4:List DCe}{Z1:List DLn}(hm:kV (RK bs ss) Z4 Z1) (ht:Be (RK bs ss) n t) (hw:0<=Xm/\Xm<=6) :
 Ok (some (2,bs,key,Z4,Z1,ts.set i (4,t.2.1,t.2.2.1,t.2.2.2.1,t.2.2.2.2.1,t.2.2.2.2.2.1,Xm,0),())) (IM n key code ss bs ts i t):=Ok.ret ⟨_,_,_,_,rfl,hm,ht.ended hw,.inr (.inl ⟨rfl,rfl,rfl⟩)⟩
theorem ja(op:Int):mG op=some (mt op || op==22 || op==24,()):=by
 unfold mG;rw[uV]
 grind
set_option maxHeartbeats 4000000 in
theorem RR{n key:Int}{code:List DIn}{ss bs:List Int}{d:List (List Int)}{cs:List DCe}{ls:List DLn}{ts:List DTh}{i:Nat}{t:DTh}(hp:jE code ss d) (h:MOk n ss bs cs ls ts) (ht:ts[i]?=some t) (hs:t.1=1)
 (hc:t.2.2.2.1+1<=n) (hn:n<=1099511627776):Ok (qU code ss d (i:Int) bs key cs ls ts) (IM n key code ss bs ts i t):=by
 have hok:=h.thr t (dR ht);have hm:=h.mem;obtain⟨_,hl,hr,⟨p0,p1⟩,⟨c0,c1⟩,ha,⟨s0,s1⟩,⟨r0,r1⟩,hco⟩:=id hok;obtain⟨st,rs,pc,ct,hd,sa,tr,co⟩:=t;dsimp only at *;subst hs;have YQ:=(oGS ht).1;have hg:dO ts i=some (1,rs,pc,ct,hd,sa,tr,co):=ht;have e1:∀f:DTh->DTh,List.modify ts i f=ts.set i (f (1,rs,pc,ct,hd,sa,tr,co)):=λf=>eJ ht f;have e2:∀x,dO (ts.set i x) i=some x:=λx=>iF YQ x;have e3:∀(x:DTh) (f:DTh->DTh),List.modify (ts.set i x) i f=ts.set i (f x):=λx f=>qk YQ x f
 have eT:∀Xm,fW (i:Nat) Xm ts=some (2,ts.set i (4,rs,pc,ct,hd,sa,Xm,0),()):=λXm=>by rw[PY (n:=n) ht,e1]
 have mk:∀{rs':List DCe} {pc' ct' sa':Int},rs'.length=8->(∀c∈rs',oQ (RK bs ss) c)->0<=pc'/\pc'<=255->0<=ct'/\ct'<=n->-1<=sa'/\sa'<=255->Be (RK bs ss) n (1,rs',pc',ct',hd,sa',tr,co):=
  λh1 h2 h3 h4 h5=>⟨⟨show (0:Int)<=1 by decide,show (1:Int)<=4 by decide⟩,h1,h2,h3,h4,ha,h5,⟨r0,r1⟩,hco⟩
 unfold qU;rw[dP];delta dQ;simp only[hg,oBS]
 (with_reducible refine dM (λZ'=>?_) λZ'=>?_)
 ·rw[eT 2];exact nU hm hok (by decide)
 refine Ok.nat p0 λj hj=>?_;subst hj;have Zd:=hp.clen;refine Ok.get (by omega) λx hx=>?_;obtain⟨op,A,B,C,I⟩:=x;obtain⟨⟨o0,o1⟩,⟨A0,A1,_⟩,⟨B0,B1,_⟩,⟨C0,C1,_⟩,⟨I0,I1,_⟩,hlea,hsys,VP⟩:=hp.ins _ (dR hx);dsimp only at *;obtain⟨A,rfl⟩:∃k:Nat,A=k:=⟨A.toNat,by omega⟩;obtain⟨B,rfl⟩:∃k:Nat,B=k:=⟨B.toNat,by omega⟩;obtain⟨C,rfl⟩:∃k:Nat,C=k:=⟨C.toNat,by omega⟩;obtain⟨I,rfl⟩:∃k:Nat,I=k:=⟨I.toNat,by omega⟩;obtain⟨⟨ta,va⟩,gA⟩:∃c,dO rs A=some c:=⟨_,oGE (by omega)⟩;obtain⟨⟨tb,vb⟩,gB⟩:∃c,dO rs B=some c:=⟨_,oGE (by omega)⟩;obtain⟨⟨tc,vc⟩,gC⟩:∃c,dO rs C=some c:=⟨_,oGE (by omega)⟩;have cA:=hr _ (dR gA);have cB:=hr _ (dR gB);have cC:=hr _ (dR gC);have eR:∀f:DCe->DCe,List.modify rs A f=rs.set A (f (ta,va)):=λf=>eJ gA f;have w1:w64 ((j:Int)+1)=(j:Int)+1:=dU (by omega) (by omega);have wI:wk .u16 (I:Int)=I:=eu (by omega) (by omega);have Zn:∀{c:DCe},oQ (RK bs ss) c->(rs.set A c).length=8/\∀x∈rs.set A c,oQ (RK bs ss) x:=λhc=>⟨by rw[List.length_set];exact hl,jA hr hc⟩;have wc:w64 (ct+1)=ct+1:=dU (by omega) (by omega);simp only[dP,hg,gA,gB,oBS,w1,wI];rcases (show op=0\/op=1\/op=2\/op=15\/op=16\/op=17\/op=18\/op=19\/op=20\/op=21\/op=22\/op=23\/op=24\/(3<=op/\op<=14) by omega) with rfl | rfl | rfl | rfl | rfl | rfl | rfl | rfl | rfl | rfl | rfl | rfl | rfl | ⟨q0,q1⟩
 all_goals try simp only[Int.reduceBEq,oCT,oCF,dP,hg,gA,gB,gC,e1,e2,e3,eR,eT,oBS,w1,wI,wc,ja,mt,Bool.or_false,Bool.or_true,Bool.or_self,bne_self_eq_false]
 ·exact oD hm (mk hl hr (by omega) (by omega) (by omega)) rfl (.inl ⟨rfl,rfl⟩)
 ·exact oD hm (mk (Zn (nd (by omega))).1 (Zn (nd (by omega))).2 (by omega) (by omega) (by omega)) rfl (.inl ⟨rfl,rfl⟩)
 ·exact oD hm (mk (Zn cB).1 (Zn cB).2 (by omega) (by omega) (by omega)) rfl (.inl ⟨rfl,rfl⟩)
 ·have hI:=hlea rfl;have Wl:=h.lay.2.1;obtain⟨b,hb⟩:∃b,bs[I]?=some b:=⟨_,oGE (by omega)⟩;obtain⟨z,hz⟩:∃z,ss[I]?=some z:=⟨_,oGE (by omega)⟩;have Yj:=h.lay.2.2 I (by omega);unfold p6 at Yj;rw[ef hb,ef hz] at Yj;have Yc:=h.lay.1.2.2 z (dR hz);have wb:wk .u16 b=b:=eu (by omega) (by omega);have gb:dO bs I=some b:=hb;simp only[gb,wb,Int.reduceBEq,oCT,oCF,dP,hg,gA,gB,gC,e1,e2,e3,eR,eT,oBS,w1,wI,wc,ja,mt,Bool.or_false,Bool.or_true,Bool.or_self,bne_self_eq_false];have Z3:oQ (RK bs ss) (1,b):=⟨by dsimp only;omega,by dsimp only;omega,by dsimp only;omega,by dsimp only;omega,λ_=>⟨I,b,z,hb,hz,by dsimp only;omega,by dsimp only;omega⟩⟩;exact oD hm (mk (Zn Z3).1 (Zn Z3).2 (by omega) (by omega) (by omega)) rfl (.inl ⟨rfl,rfl⟩)
 ·obtain⟨_,em,t1,x1,e,rfl,ZW,VI,VJ,WI⟩:=Ab (key:=key) (tag:=tb) (v:=vb) (n:=(I:Int)) (back:=false) h.lay ⟨cB.2.2.1,cB.2.2.2.1⟩ ⟨by omega,by omega⟩;simp only[em,oBS];by_cases hne:e=0
  ·subst hne;have wx:wk .i64 x1=x1:=d8 (by have:=ZW.2.2.1;dsimp only at this;omega) (by have:=ZW.2.2.2.1;dsimp only at this;omega);obtain⟨_,el,t2,x2,Vx,V9,rfl,ZO,hm2⟩:=MO (a:=x1) hm ⟨ZW.2.2.1,WI rfl⟩;simp only[wx,el,Int.reduceBEq,oCT,oCF,dP,hg,gA,gB,gC,e1,e2,e3,eR,eT,oBS,w1,wI,wc,ja,mt,Bool.or_false,Bool.or_true,Bool.or_self,bne_self_eq_false];exact oD hm2 (mk (Zn ZO).1 (Zn ZO).2 (by omega) (by omega) (by omega)) rfl (.inl ⟨rfl,rfl⟩)
  ·simp only[bne_iff_ne.2 hne,oCT];exact nU hm hok ⟨VI,VJ⟩
 ·obtain⟨_,em,t1,x1,e,rfl,ZW,VI,VJ,WI⟩:=Ab (key:=key) (tag:=ta) (v:=va) (n:=(I:Int)) (back:=false) h.lay ⟨cA.2.2.1,cA.2.2.2.1⟩ ⟨by omega,by omega⟩;simp only[em,oBS];by_cases hne:e=0
  ·subst hne;have wx:wk .i64 x1=x1:=d8 (by have:=ZW.2.2.1;dsimp only at this;omega) (by have:=ZW.2.2.2.1;dsimp only at this;omega);obtain⟨_,el,Vx,V9,rfl,hm2⟩:=Cn (a:=x1) (t:=tb) (v:=vb) hm ⟨ZW.2.2.1,WI rfl⟩ cB;simp only[wx,el,Int.reduceBEq,oCT,oCF,dP,hg,gA,gB,gC,e1,e2,e3,eR,eT,oBS,w1,wI,wc,ja,mt,Bool.or_false,Bool.or_true,Bool.or_self,bne_self_eq_false];exact oD hm2 (mk hl hr (by omega) (by omega) (by omega)) rfl (.inl ⟨rfl,rfl⟩)
  ·simp only[bne_iff_ne.2 hne,oCT];exact nU hm hok ⟨VI,VJ⟩
 ·have:=VP (by decide);exact oD hm (mk hl hr (by omega) (by omega) (by omega)) rfl (.inr rfl)
 ·have:=VP (by decide);by_cases hta:ta=0
  ·subst hta
   cases va==0 with
   | true=>
    simp only[BEq.rfl,Int.reduceBEq,oCT,oCF,dP,hg,gA,gB,gC,e1,e2,e3,eR,eT,oBS,w1,wI,wc,ja,mt,Bool.or_false,Bool.or_true,Bool.or_self,bne_self_eq_false];exact oD hm (mk hl hr (by omega) (by omega) (by omega)) rfl (.inr rfl)
   | false=>
    simp only[show (false==true)=false from rfl,Int.reduceBEq,oCT,oCF,dP,hg,gA,gB,gC,e1,e2,e3,eR,eT,oBS,w1,wI,wc,ja,mt,Bool.or_false,Bool.or_true,Bool.or_self,bne_self_eq_false];exact oD hm (mk hl hr (by omega) (by omega) (by omega)) rfl (.inr rfl)
  ·simp only[bne_iff_ne.2 hta,oCT];exact nU hm hok (by decide)
 ·have:=VP (by decide);by_cases hta:ta=0
  ·subst hta
   cases va==0 with
   | true=>
    simp only[show (true==false)=false from rfl,Int.reduceBEq,oCT,oCF,dP,hg,gA,gB,gC,e1,e2,e3,eR,eT,oBS,w1,wI,wc,ja,mt,Bool.or_false,Bool.or_true,Bool.or_self,bne_self_eq_false];exact oD hm (mk hl hr (by omega) (by omega) (by omega)) rfl (.inr rfl)
   | false=>
    simp only[BEq.rfl,Int.reduceBEq,oCT,oCF,dP,hg,gA,gB,gC,e1,e2,e3,eR,eT,oBS,w1,wI,wc,ja,mt,Bool.or_false,Bool.or_true,Bool.or_self,bne_self_eq_false];exact oD hm (mk hl hr (by omega) (by omega) (by omega)) rfl (.inr rfl)
  ·simp only[bne_iff_ne.2 hta,oCT];exact nU hm hok (by decide)
 ·have:=VP (by decide);have wj:wk .u16 ((j:Int)+1)=(j:Int)+1:=eu (by omega) (by omega);rw[wj];exact oD hm (mk (Zn (nd (by omega))).1 (Zn (nd (by omega))).2 (by omega) (by omega) (by omega)) rfl (.inr rfl)
 ·by_cases hta:ta=0
  ·subst hta;have wa:wk .i64 va=va:=d8 (by have:=cA.2.2.1;dsimp only at this;omega) (by have:=cA.2.2.2.1;dsimp only at this;omega);have a0:=cA.2.2.1;dsimp only at a0;by_cases hva:va > 255
   ·simp only[oDT hva,bne_self_eq_false,oCT,oCF];exact nU hm hok (by decide)
   ·simp only[oDF hva,wa,Int.reduceBEq,oCT,oCF,dP,hg,gA,gB,gC,e1,e2,e3,eR,eT,oBS,w1,wI,wc,ja,mt,Bool.or_false,Bool.or_true,Bool.or_self,bne_self_eq_false];exact oD hm (mk hl hr (by omega) (by omega) (by omega)) rfl (.inr rfl)
  ·simp only[bne_iff_ne.2 hta,oCT];exact nU hm hok (by decide)
 ·refine Ok.ret ⟨_,_,_,_,rfl,hm,⟨⟨show (0:Int)<=2 by decide,show (2:Int)<=4 by decide⟩,hl,hr,⟨by dsimp only;omega,by dsimp only;omega⟩,⟨c0,by dsimp only;omega⟩,ha,⟨s0,s1⟩,⟨r0,r1⟩,hco⟩,.inr (.inr ⟨rfl,rfl,rfl,(23,(A:Int),(B:Int),(C:Int),(I:Int)),by dsimp only;omega,?_,rfl⟩)⟩;dsimp only;rw[show (j:Int)+1 - 1=(j:Int) by omega,oTN];exact hx
 ·by_cases hsa:sa=-1
  ·simp only[beq_iff_eq.2 hsa,oCT];exact nU hm hok (by decide)
  ·simp only[oBF hsa,Int.reduceBEq,oCT,oCF,dP,hg,gA,gB,gC,e1,e2,e3,eR,eT,oBS,w1,wI,wc,ja,mt,Bool.or_false,Bool.or_true,Bool.or_self,bne_self_eq_false];exact oD hm (mk hl hr (by omega) (by omega) (by omega)) rfl (.inr rfl)
 ·obtain⟨_,ed,t1,x1,e,rfl,ZW,VI,VJ⟩:=SS (key:=key) (op:=op) h.lay cB cC;have n0:(op==0)=false:=oBF (by omega);have n1:(op==1)=false:=oBF (by omega);have n2:(op==2)=false:=oBF (by omega);have n15:(op==15)=false:=oBF (by omega);have n16:(op==16)=false:=oBF (by omega);have n17:(op==17)=false:=oBF (by omega);have n18:(op==18)=false:=oBF (by omega);have n19:(op==19)=false:=oBF (by omega);have n20:(op==20)=false:=oBF (by omega);have n21:(op==21)=false:=oBF (by omega);have n22:(op==22)=false:=oBF (by omega);have n23:(op==23)=false:=oBF (by omega);have n24:(op==24)=false:=oBF (by omega);simp only[n0,n1,n2,n15,n16,n17,n18,n19,n20,n21,n22,n23,n24,ed,Int.reduceBEq,oCT,oCF,dP,hg,gA,gB,gC,e1,e2,e3,eR,eT,oBS,w1,wI,wc,ja,mt,Bool.or_false,Bool.or_true,Bool.or_self,bne_self_eq_false];by_cases hne:e=0
  ·subst hne;simp only[n18,n19,n20,n21,n22,n24,Int.reduceBEq,oCT,oCF,dP,hg,gA,gB,gC,e1,e2,e3,eR,eT,oBS,w1,wI,wc,ja,mt,Bool.or_false,Bool.or_true,Bool.or_self,bne_self_eq_false];exact oD hm (mk (Zn ZW).1 (Zn ZW).2 (by omega) (by omega) (by omega)) rfl (.inl ⟨rfl,rfl⟩)
  ·simp only[bne_iff_ne.2 hne,oCT];exact nU hm hok ⟨VI,VJ⟩
theorem Be.mono{K:Int->Prop}{n m:Int}{t:DTh}(h:Be K n t) (hm:n<=m):Be K m t:=⟨h.state,h.len,h.regs,h.pc,⟨h.count.1,by have:=h.count.2;omega⟩,h.handler,h.saved,h.trap,h.code⟩
theorem MOk.mono{n m:Int}{ss bs:List Int}{cs:List DCe}{ls:List DLn}{ts:List DTh}(h:MOk n ss bs cs ls ts) (hm:n<=m):MOk m ss bs cs ls ts:=⟨h.lay,h.mem,h.tlen,λt ht=>(h.thr t ht).mono hm⟩
theorem C7{α:Type}{l:List α}{i:Nat}{a:α}(h:l[i]?=some a):l.set i a=l:=by
 apply List.ext_getElem?
 grind
def S7(code:List DIn) (s:Int) (t':DTh):Prop:=
 (s=0/\t'.1=1)\/(s=2/\t'.1=4)\/(s=1/\t'.1=2/\∃i:DIn,1<=t'.2.2.1/\code[(t'.2.2.1 - 1).toNat]?=some i/\i.1=23)
def Rl(n key:Int) (code:List DIn) (ss bs:List Int) (ts:List DTh) (i:Nat) (r:List Int×Int×List DCe×List DLn×List DTh×Int×Int×Unit):Prop:=
 ∃s Z4 Z1 t',r=(bs,key,Z4,Z1,ts.set i t',s,0,())/\kV (RK bs ss) Z4 Z1/\Be (RK bs ss) n t'/\((s=3/\ts[i]?=some t'/\t'.1≠1)\/S7 code s t')
def SK(i:Nat) (s:Int×Int×(List DIn)×(List (Int))×(List (List (Int)))×Unit×Int×Unit×Unit×Unit×(List (Int))×Int×(List DCe)×(List DLn)×(List DTh)×Unit):Nat:=
 match s.2.2.2.2.2.2.2.2.2.2.2.2.2.2.1[i]? with
 | some t=>((s.2.1 - t.2.2.2.1)*256+(255 - t.2.2.1)).toNat
 | none=>0
theorem Hs{i:Nat}{a b k:Int}{code:List DIn}{ss bs:List Int}{d:List (List Int)}{cs:List DCe}{ls:List DLn}{ts:List DTh}{t:DTh}(h:ts[i]?=some t):SK i (a,b,code,ss,d,(),0,(),(),(),bs,k,cs,ls,ts,())=((b - t.2.2.2.1)*256+(255 - t.2.2.1)).toNat:=by
 unfold SK
 simp_all
theorem NW{n key k:Int}{code:List DIn}{ss bs:List Int}{d:List (List Int)}{cs:List DCe}{ls:List DLn}{ts:List DTh}{i:Nat}(hp:jE code ss d) (h:MOk n ss bs cs ls ts) (X9:0<=n) (hn:n+64<=1099511627776) (hi:i < 4) (hk:1<=k/\k<=64) :
 Ok (nI code ss d bs key cs ls ts (i:Int) k) (Rl (n+64) key code ss bs ts i):=by
 have Xz:=h.tlen;obtain⟨t,ht⟩:∃t,ts[i]?=some t:=⟨_,oGE (by omega)⟩;have hg:dO ts i=some t:=ht
 have YQ:i < ts.length:=by omega
 have hok:=h.thr t (dR ht);unfold nI;rw[wO hp h (by omega)];simp;rw[oDF (show ¬ (i:Int) < 0 by omega),oDF (show ¬ (i:Int)>=4 by omega),oDF (show ¬ k < 1 by omega),oDF (show ¬ k > 64 by omega)];simp only[oBS,oCF,vW h,dP,hg]
 (with_reducible refine dM (λZ'=>?_) λZ'=>?_)
 ·refine Ok.ret ⟨3,cs,ls,t,?_,h.mem,hok.mono (by omega),.inl ⟨rfl,ht,Z'⟩⟩;rw[C7 ht]
 have Ue:=hok.count;have hpc:=hok.pc;rw[dU (x:=t.2.2.2.1+k) (by omega) (by omega)]
 refine Ok.loop (P:=λs'=>∃Z4 Z1 t',s'=((i:Int),t.2.2.2.1+k,code,ss,d,(),0,(),(),(),bs,key,Z4,Z1,ts.set i t',())/\kV (RK bs ss) Z4 Z1/\Be (RK bs ss) (n+64) t'/\t'.1=1/\t'.2.2.2.1 < t.2.2.2.1+k)
  (R:=λr=>∃s Z4 Z1 t',r=(s,0,bs,key,Z4,Z1,ts.set i t',())/\kV (RK bs ss) Z4 Z1/\Be (RK bs ss) (n+64) t'/\S7 code s t') (m:=SK i) ⟨cs,ls,t,by rw[C7 ht],h.mem,hok.mono (by omega),Z',by omega⟩ ?_ ?_ ?_
 ·rw[Hs ht];unfold NN;omega
 ·rintro _ ⟨Z4,Z1,t',rfl,hm,Ya,hr,hlt⟩;have ZK:(ts.set i t')[i]?=some t':=iF YQ t';unfold rT;dsimp only;refine (RR hp (((h.mono (show n<=n+64 by omega)).set hm Ya):MOk (n+64) ss bs Z4 Z1 (ts.set i t')) ZK hr (by omega) (by omega)).bind ?_;rintro _ ⟨s,Vx,V9,t2,rfl,hm2,WC,Y6⟩;dsimp only;rw[List.set_set]
  (with_reducible refine dM (λZ3=>?_) λZ3=>?_)
  ·refine Ok.ret ⟨_,_,_,_,rfl,hm2,WC,?_⟩;rcases Y6 with ⟨q,_⟩ | ⟨q1,q2,_⟩ | ⟨q1,q2,_,q3⟩
   ·exact absurd q Z3
   ·exact .inr (.inl ⟨q1,q2⟩)
   ·exact .inr (.inr ⟨q1,q2,q3⟩)
  ·rw[dP];simp only[oBS,iF YQ];have h0:=WC.count;have h1:=WC.pc;have h2:=Ya.pc;rcases Y6 with ⟨_,q1,q2⟩ | ⟨q1,_⟩ | ⟨q1,_⟩
   ·(with_reducible refine dM (λhcc=>?_) λhcc=>?_)
    ·exact Ok.ret ⟨_,_,_,_,rfl,hm2,WC,.inl ⟨rfl,q1⟩⟩
    ·refine Ok.ret ⟨⟨_,_,_,rfl,hm2,WC,q1,by omega⟩,?_⟩;rw[Hs ZK,Hs (iF YQ t2)];omega
   ·omega
   ·omega
 ·rintro _ ⟨s,Z4,Z1,t',rfl,hm,Ya,hs⟩;exact Ok.ret ⟨_,_,_,_,rfl,hm,Ya,.inr hs⟩
def Md(bs ss:List Int) (a:Int):Nat->Nat->Option (Int×Int)
 | 0,_=>none
 | n+1,k=>if bs.getD k 0<=a/\a < bs.getD k 0+ss.getD k 0 then some ((k:Int),a - bs.getD k 0) else Md bs ss a n (k+1)
def Oo(bs ss:List Int) (a:Int):Option (Int×Int):=Md bs ss a bs.length 0
theorem Mb{bs ss:List Int}{a r o:Int}:∀{n k:Nat},k+n=bs.length->bs.length=ss.length->Md bs ss a n k=some (r,o)->∃(j:Nat) (b z:Int),r=j/\o=a - b/\bs[j]?=some b/\ss[j]?=some z/\b<=a/\a < b+z:=by
 intro n
 induction n with
 | zero=>intro k _ _ h;cases h
 | succ n ih=>
  intro k hk hl h;simp only[Md] at h;split at h
  ·rename_i hh
   injection h with h
   injection h with h1 h2
   refine⟨k,_,_,h1.symm,h2.symm,?_,?_,hh.1,hh.2⟩
   all_goals rw[Na (by omega)];exact oGE (by omega)
  ·exact ih (by omega) hl h
theorem Mc{bs ss:List Int}{a:Int}:∀{n k:Nat},k+n=bs.length->Md bs ss a n k=none->∀(j:Nat) (b z:Int),k<=j->bs[j]?=some b->ss[j]?=some z->¬ (b<=a/\a < b+z):=by
 intro n
 induction n with
 | zero=>
  simp_all
 | succ n ih=>
  intro k hk h j b z hj hb hz;simp[Md] at h;split at h
  ·cases h
  ·rename_i hh;by_cases hjk:j=k
   ·simp_all
   ·exact ih (by omega) h j b z (by omega) hb hz
theorem Fa{bs ss:List Int}{a r o:Int}(hl:bs.length=ss.length) (h:Oo bs ss a=some (r,o)):∃(j:Nat) (b z:Int),r=j/\o=a - b/\bs[j]?=some b/\ss[j]?=some z/\b<=a/\a < b+z:=Mb (by omega) hl h
theorem QC{bs ss:List Int}{a:Int}(h:RK bs ss a):∃r o,Oo bs ss a=some (r,o):=by
 cases e:Oo bs ss a with
 | some x=>exact⟨x.1,x.2,rfl⟩
 | none=>
  have ⟨j,b,z,h1,h2,h3,h4⟩:=h;exact absurd ⟨h3,h4⟩ (Mc (by omega) e j b z (by omega) h1 h2)
theorem Cw{bs ss:List Int}{key a:Int}(h:LV bs ss) (ha:W16 a):fG bs key ss a=some (match Oo bs ss a with | some (r,o)=>(r,o,true,()) | none=>(0,0,false,())):=by
 obtain⟨hs,hl,hr⟩:=h;obtain⟨a0,a1⟩:=ha;have W2:=hs.2.1
 have key1:∀(n k N:Nat),k+n=bs.length->n < N->dW eY N (ss,a,bs,(bs.length:Int),(k:Int),bs,key,0,0,())=some (match Md bs ss a n k with | some (r,o)=>.inl (true,r,o,()) | none=>.inr (ss,a,bs,(bs.length:Int),(bs.length:Int),false,bs,key,0,0,())):=by
  intro n
  induction n with
  | zero=>
   intro k N hk hN;obtain⟨N,rfl⟩:∃M,N=M+1:=⟨N - 1,by omega⟩
   obtain rfl:k=bs.length:=by omega
   have e:eY (ss,a,bs,(bs.length:Int),(bs.length:Int),bs,key,0,0,())=some (.inr (.inr (ss,a,bs,(bs.length:Int),(bs.length:Int),false,bs,key,0,0,()))):=by
    refine fk ?_;unfold eY;dsimp only
    (with_reducible refine dM (λZ'=>?_) λZ'=>?_)
    ·omega
    ·exact Ok.ret rfl
   simp only[dW,e,oBS,Md]
  | succ n ih=>
   intro k N hk hN;obtain⟨N,rfl⟩:∃M,N=M+1:=⟨N - 1,by omega⟩;obtain⟨b,hb⟩:∃b,bs[k]?=some b:=⟨_,oGE (by omega)⟩;obtain⟨z,hz⟩:∃z,ss[k]?=some z:=⟨_,oGE (by omega)⟩;have Yc:=hs.2.2 z (dR hz);have Vk:=hr k (by omega);unfold p6 at Vk;rw[ef hb,ef hz] at Vk;by_cases hh:b<=a/\a < b+z
   ·have e:eY (ss,a,bs,(bs.length:Int),(k:Int),bs,key,0,0,())=some (.inr (.inl (true,(k:Int),a - b,()))):=by
     refine fk ?_;unfold eY;dsimp only;rw[oDT (show (k:Int) < bs.length by omega),dP];simp only[oCT,oBS,show dO bs k=some b from hb,show dO ss k=some z from hz];rw[oDT (show a>=b by omega),dU (x:=b+z) (by omega) (by omega),oDT hh.2,dU (x:=a - b) (by omega) (by omega)];exact Ok.ret rfl
    simp only[dW,e,oBS,Md,ef hb,ef hz,oIP hh]
   ·have e:eY (ss,a,bs,(bs.length:Int),(k:Int),bs,key,0,0,())=some (.inl (ss,a,bs,(bs.length:Int),((k+1:Nat):Int),bs,key,0,0,())):=by
     refine fk ?_;unfold eY;dsimp only;rw[oDT (show (k:Int) < bs.length by omega),dP];simp only[oCT,oBS,show dO bs k=some b from hb,show dO ss k=some z from hz];rw[dU (x:=b+z) (by omega) (by omega)];by_cases h1:a>=b
     ·rw[oDT h1,oDF (show ¬ a < b+z by omega)];simp only[oCT,oCF];rw[dU (x:=(k:Int)+1) (by omega) (by omega)];exact Ok.ret rfl
     ·rw[oDF h1];simp only[oCF];rw[dU (x:=(k:Int)+1) (by omega) (by omega)];exact Ok.ret rfl
    simp only[dW,e,oBS,Md,ef hb,ef hz,oIN hh];exact ih (k+1) N (by omega) (by omega)
 unfold fG Oo;delta dQ
 try dsimp only
 rw[show dW eY NN (ss,a,bs,(bs.length:Int),0,bs,key,0,0,())=_ from key1 bs.length 0 NN (by omega) (by unfold NN;omega)]
 cases Md bs ss a bs.length 0 with
 | some x=>rfl
 | none=>rfl
def ut(bs ss:List Int) (key:Int) (c:DCe):DCn:=
 if c.1=0 then (0,c.2,0,0) else if c.1=2 then (2,wk .u16 (c.2 - key),0,0) else match Oo bs ss c.2 with | some (r,o)=>(1,0,r,o) | none=>(1,0,-1,c.2)
theorem t6{K:Int->Prop}{bs ss:List Int}{key:Int}{c:DCe}(h:LV bs ss) (hc:oQ K c):iR bs key ss c.1 c.2=some ((ut bs ss key c).1,(ut bs ss key c).2.1,(ut bs ss key c).2.2.1,(ut bs ss key c).2.2.2,()):=by
 have ⟨c0,c1,c2,c3,_⟩:=hc;unfold iR ut;rw[d8 (by omega) (by omega)];dsimp only;rw[Cw h ⟨c2,c3⟩]
 rcases (show c.1=0\/c.1=1\/c.1=2 by omega) with e | e | e<;>rw[e]
 ·rfl
 ·simp
  cases Oo bs ss c.2 with
  | some x=>rfl
  | none=>rfl
 ·rfl
theorem om(x:Int):W16 (wk .u16 x):=qK x
theorem EL{bs ss:List Int}{key:Int}{c:DCe}(h:LV bs ss) (hc:oQ (RK bs ss) c):Pr ss (ut bs ss key c):=by
 have ⟨c0,c1,c2,c3,c4⟩:=hc;unfold ut;rcases (show c.1=0\/c.1=1\/c.1=2 by omega) with e | e | e
 ·rw[oIP e];exact .inl ⟨.inl rfl,rfl,rfl,c2,c3⟩
 ·rw[oIN (by omega),oIN (by omega)];have ⟨r,o,hro⟩:=QC (c4 e);rw[hro];obtain⟨j,b,z,rfl,rfl,h1,h2,h3,h4⟩:=Fa h.2.1 hro;exact .inr ⟨rfl,rfl,by simp_all,z,by simp_all,by simp_all,by dsimp only;omega⟩
 ·rw[oIN (by omega),oIP e];exact .inl ⟨.inr rfl,rfl,rfl,om _⟩
theorem JH{K:Int->Prop}{bs ss:List Int}{key:Int}{c:DCe}(hc:oQ K c):(ut bs ss key c).1=c.1/\(c.1=0->(ut bs ss key c).2.1=c.2):=by
 have ⟨c0,c1,_⟩:=hc;unfold ut;rcases (show c.1=0\/c.1=1\/c.1=2 by omega) with e | e | e
 ·simp_all
 ·rw[oIN (by omega),oIN (by omega)]
  cases Oo bs ss c.2 with
  | some x=>simp_all
  | none=>simp_all
 ·simp_all
def HO(cs:List DCe) (ls:List DLn) (a:Int):DCe:=
 match ls[(a / 4 % 4).toNat]? with
 | some x=>if x.1=a / 4 then x.2.2.getD (a % 4).toNat (0,0) else cs.getD a.toNat (0,0)
 | none=>(0,0)
theorem getD_some{α:Type}{l:List α}{k:Nat}{d x:α}(h:l[k]?=some x):l.getD k d=x:=by simp_all
theorem Dl{K:Int->Prop}{cs:List DCe}{ls:List DLn}{a:Int}(h:kV K cs ls) (ha:0<=a/\a < 512):mZ cs ls a=some ((HO cs ls a).1,(HO cs ls a).2,())/\oQ K (HO cs ls a):=by
 obtain⟨a0,a1⟩:=ha;obtain⟨h1,h2,h3,h4,_⟩:=id h;unfold mZ HO;rw[Int.tdiv_eq_ediv_of_nonneg a0,dU (x:=a / 4) (by omega) (by omega)];dsimp only;rw[Int.tmod_eq_emod_of_nonneg (show 0<=a / 4 by omega),Int.tmod_eq_emod_of_nonneg a0];obtain⟨i,hi⟩:∃i:Nat,a / 4 % 4=i:=⟨(a / 4 % 4).toNat,by omega⟩;rw[hi,dP,oTN];obtain⟨x,hx⟩:∃x,ls[i]?=some x:=⟨_,oGE (by omega)⟩;simp only[oBS,show dO ls i=some x from hx,hx];by_cases hq:x.1=a / 4
 ·rcases h4 i x hx with ⟨g,_,_⟩ | ⟨_,_,_,g4,g5⟩
  ·omega
  ·obtain⟨j,hj⟩:∃j:Nat,a % 4=j:=⟨(a % 4).toNat,by omega⟩;obtain⟨y,hy⟩:∃y,x.2.2[j]?=some y:=⟨_,oGE (by omega)⟩;rw[hj,dP,oTN,oIP hq,getD_some hy,beq_iff_eq.2 hq];simp only[oCT,oBS,show dO x.2.2 j=some y from hy];exact⟨trivial,g5 y (dR hy)⟩
 ·obtain⟨j,rfl⟩:∃j:Nat,a=j:=⟨a.toNat,by omega⟩;obtain⟨y,hy⟩:∃y,cs[j]?=some y:=⟨_,oGE (by omega)⟩;rw[oIN hq,oBF hq,dP,oTN,getD_some hy];simp only[oCF,oBS,show dO cs j=some y from hy];exact⟨trivial,h2 y (dR hy)⟩
def kB(call:Int):List Int:=
 if call=0\/call=8\/call=9\/call=11\/call=12 then [78] else if call=1\/call=2 then [72,80,78] else if call=3 then [78,78] else if call=4 then [72] else if call=5 then [72,78]
 else if call=10 then [78,88] else if call=13\/call=14 then [78,80,78] else []
theorem MS(call:Int):(kB call).length<=3:=by
 unfold kB
 repeat' split
 all_goals simp
def BOk(b:ByteArray) (l:List Int):Prop:=C4 b=(l.length:Int)/\∀j:Nat,Cm b j=l[j]?
theorem Tq:BOk (bytes []) []:=⟨rfl,λj=>rfl⟩
theorem Tp{a:Nat}(h:a < 256):BOk (bytes [a]) [(a:Int)]:=⟨rfl,λj=>by
 match j with
 | 0=>show some (((UInt8.ofNat a).toNat:Nat):Int)=some (a:Int);simp;omega
 | n+1=>rfl⟩
theorem To{a b:Nat}(h:a < 256) (hb:b < 256):BOk (bytes [a,b]) [(a:Int),(b:Int)]:=⟨rfl,λj=>by
 match j with
 | 0=>show some (((UInt8.ofNat a).toNat:Nat):Int)=some (a:Int);simp;omega
 | 1=>show some (((UInt8.ofNat b).toNat:Nat):Int)=some (b:Int);simp;omega
 | n+2=>rfl⟩
theorem Tn{a b c:Nat}(h:a < 256) (hb:b < 256) (hc:c < 256):BOk (bytes [a,b,c]) [(a:Int),(b:Int),(c:Int)]:=⟨rfl,λj=>by
 match j with
 | 0=>show some (((UInt8.ofNat a).toNat:Nat):Int)=some (a:Int);simp;omega
 | 1=>show some (((UInt8.ofNat b).toNat:Nat):Int)=some (b:Int);simp;omega
 | 2=>show some (((UInt8.ofNat c).toNat:Nat):Int)=some (c:Int);simp;omega
 | n+3=>rfl⟩
theorem xD{call:Int}(h:0<=call/\call<=15):call=0\/call=1\/call=2\/call=3\/call=4\/call=5\/call=6\/call=7\/call=8\/call=9\/call=10\/call=11\/call=12\/call=13\/call=14\/call=15:=by omega
theorem Dn{call:Int}(h:0<=call/\call<=15):∃b,ln call=some (b,())/\BOk b (kB call):=by
 rcases xD h with rfl | rfl | rfl | rfl | rfl | rfl | rfl | rfl | rfl | rfl | rfl | rfl | rfl | rfl | rfl | rfl
 all_goals first
  | exact⟨_,rfl,Tq⟩
  | exact⟨_,rfl,Tp (by decide)⟩
  | exact⟨_,rfl,To (by decide) (by decide)⟩
  | exact⟨_,rfl,Tn (by decide) (by decide) (by decide)⟩
def O7(k t:Int):Bool:=if k=78 then t==0 else if k=72 then t==2 else if k=80 then t==1 else true
theorem Nf(k t:Int):mX k t=some (O7 k t,()):=by
 unfold mX O7;by_cases h1:k=78
 ·simp[h1]
 ·by_cases h2:k=72
  ·simp[h2]
  ·by_cases h3:k=80
   ·simp[h3]
   ·simp[h1,h2,h3,oBF h1,oBF h2,oBF h3]
def t7(call:Int):Int:=if call=1\/call=13 then 1 else if call=2\/call=14 then 2 else 0
theorem wJ{call:Int}(h:0<=call/\call<=15):jc call=some (t7 call,()):=by
 rcases xD h with rfl | rfl | rfl | rfl | rfl | rfl | rfl | rfl | rfl | rfl | rfl | rfl | rfl | rfl | rfl | rfl<;>rfl
theorem yN{call:Int}(h:0<=call/\call<=15):ix call=some (((kB call).length:Int),()):=by
 have ⟨b,e,hb⟩:=Dn h;unfold ix;rw[oDF (show ¬ call < 0 by omega),oDF (show ¬ call > 15 by omega),e];simp[hb.1]
theorem Lg{bs ss:List Int}{key t v n:Int}(h:LV bs ss) (hv:W16 v) (hn:0<=n/\n<=65535):Ok (mF bs key ss t v n) λr=>∃a e,r=(a,e,())/\(e=0->t=1/\a=v/\∃(j:Nat) (b z:Int),bs[j]?=some b/\ss[j]?=some z/\b<=v/\v+n<=b+z/\v < b+z):=by
 obtain⟨v0,v1⟩:=hv;unfold mF
 (with_reducible refine dM (λZ'=>?_) λZ'=>?_)
 ·exact Ok.ret ⟨_,_,rfl,λh=>by omega⟩
 rw[d8 (x:=v) (by omega) (by omega)];dsimp only;rw[Cw h ⟨v0,v1⟩];simp only[oBS]
 cases e:Oo bs ss v with
 | none=>exact Ok.ret ⟨_,_,rfl,λh=>by omega⟩
 | some x=>
  obtain⟨r,o⟩:=x;obtain⟨j,b,z,rfl,rfl,h1,h2,h3,h4⟩:=Fa h.2.1 e;have hj:=(oGS h1).1;have hr:=h.2.2 j hj;unfold p6 at hr;rw[ef h1,ef h2] at hr;rw[oDF (show ¬ n < 0 by omega),dP];simp only[oNT,oCF,oBS,show dO ss j=some z from h2];rw[dU (x:=z - (v - b)) (by omega) (by omega)]
  (with_reducible refine dM (λZ3=>?_) λZ3=>?_)
  ·exact Ok.ret ⟨_,_,rfl,λh=>by omega⟩
  ·exact Ok.ret ⟨_,_,rfl,λ_=>⟨Z',d8 (by omega) (by omega),j,b,z,h1,h2,h3,by omega,h4⟩⟩
structure NI (call:Int) (m:Int) (bs ss:List Int) (rs:List DCe):Prop where
 fit:∀(j:Nat) k c,(kB call)[j]?=some k->rs[j]?=some c->O7 k c.1=true
 buf:0 < t7 call->∃p q,rs[1]?=some p/\rs[2]?=some q/\q.2<=16/\p.1=1/\∃(j:Nat) (b z:Int),bs[j]?=some b/\ss[j]?=some z/\b<=p.2/\p.2+q.2<=b+z
 code:call=10\/call=12->∃c,rs[0]?=some c/\c.2 < m
theorem IF{call m:Int}{bs ss:List Int}{rs:List DCe}(h:NI call m bs ss rs):Ok (some ((0:Int),())) λr=>∃e,r=(e,())/\0<=e/\e<=6/\(e=0->NI call m bs ss rs):=Ok.ret ⟨0,rfl,by decide,by decide,λ_=>h⟩
theorem AY{call m:Int}{bs ss:List Int}{rs:List DCe}:Ok (some ((6:Int),())) λr=>∃e,r=(e,())/\0<=e/\e<=6/\(e=0->NI call m bs ss rs):=Ok.ret ⟨6,rfl,by decide,by decide,λh=>absurd h (by decide)⟩
theorem K5{n key:Int}{code:List DIn}{ss bs:List Int}{d:List (List Int)}{cs:List DCe}{ls:List DLn}{ts:List DTh}{i:Nat}{t:DTh}{x:DIn}(h:MOk n ss bs cs ls ts) (ht:ts[i]?=some t) (hp1:1<=t.2.2.1)
 (hx:code[(t.2.2.1 - 1).toNat]?=some x) (hc:0<=x.2.2.2.2/\x.2.2.2.2<=15):Ok (nH code ss d bs key cs ls ts (i:Int)) λr=>∃e,r=(e,())/\0<=e/\e<=6/\(e=0->NI x.2.2.2.2 code.length bs ss t.2.1):=by
 have hok:=h.thr t (dR ht);obtain⟨_,hl,hr,⟨p0,p1⟩,_⟩:=id hok;obtain⟨o,A,B,C,call⟩:=x;dsimp only at hc ⊢;obtain⟨b,eb,hb1,ZZ⟩:=Dn hc;have hk3:=MS call;obtain⟨st,rs,pc,rest⟩:=t;dsimp only at *;obtain⟨j,hj⟩:∃j:Nat,pc - 1=j:=⟨(pc - 1).toNat,by omega⟩;rw[hj,oTN] at hx;unfold nH;rw[dP];simp only[oBS,show dO ts i=some (st,rs,pc,rest) from ht];rw[dU (x:=pc - 1) (by omega) (by omega),hj,dP];simp only[oBS,show dO code j=some (o,A,B,C,call) from hx,eb,hb1];obtain⟨c0,hc0⟩:∃c,rs[0]?=some c:=⟨_,oGE (by omega)⟩;obtain⟨c1,ZW⟩:∃c,rs[1]?=some c:=⟨_,oGE (by omega)⟩;obtain⟨c2,ZO⟩:∃c,rs[2]?=some c:=⟨_,oGE (by omega)⟩;have v0:=hr c0 (dR hc0);have v1:=hr c1 (dR ZW);have v2:=hr c2 (dR ZO);have g0:dO rs 0=some c0:=hc0;have g1:dO rs 1=some c1:=ZW;have g2:dO rs 2=some c2:=ZO
 obtain⟨y,e,hy⟩:=gK (f:=nn) (n:=NN) (s:=(call,b,((kB call).length:Int),0,code,ss,d,bs,key,cs,ls,ts,st,rs,pc,rest.1,rest.2.1,rest.2.2.1,rest.2.2.2.1,rest.2.2.2.2,()))
  (P:=λs'=>∃q:Nat,s'=(call,b,((kB call).length:Int),(q:Int),code,ss,d,bs,key,cs,ls,ts,st,rs,pc,rest.1,rest.2.1,rest.2.2.1,rest.2.2.2.1,rest.2.2.2.2,())/\q<=(kB call).length/\∀(j:Nat) k c,j < q->(kB call)[j]?=some k->rs[j]?=some c->O7 k c.1=true)
  (R:=λr=>r=.inl (6,())\/(∃q,r=.inr (call,b,((kB call).length:Int),q,false,code,ss,d,bs,key,cs,ls,ts,st,rs,pc,rest.1,rest.2.1,rest.2.2.1,rest.2.2.2.1,rest.2.2.2.2,())/\∀(j:Nat) k c,(kB call)[j]?=some k->rs[j]?=some c->O7 k c.1=true))
  (m:=λs'=>(s'.2.2.1 - s'.2.2.2.1).toNat) ⟨0,rfl,by omega,λj k c hj=>by omega⟩ (by unfold NN;dsimp only;omega) (by
   rintro _ ⟨q,rfl,hq,ZQ⟩;unfold nn;dsimp only
   (with_reducible refine dM (λZ'=>?_) λZ'=>?_)
   ·rw[dP];obtain⟨k,hk⟩:∃k,(kB call)[q]?=some k:=⟨_,oGE (by omega)⟩;obtain⟨c,hcq⟩:∃c,rs[q]?=some c:=⟨_,oGE (by omega)⟩;simp only[oBS,ZZ q,hk,show dO rs q=some c from hcq,Nf]
    (with_reducible refine dM (λZ3=>?_) λZ3=>?_)
    ·exact Ok.ret (.inl rfl)
    ·rw[dU (x:=(q:Int)+1) (by omega) (by omega)];refine Ok.ret ⟨⟨q+1,rfl,by omega,λj' k' c' ZR h1 h2=>?_⟩,by dsimp only;omega⟩;by_cases hjq:j'=q
     ·subst hjq;rw[hk] at h1;rw[hcq] at h2;cases h1;cases h2;exact Z3
     ·exact ZQ j' k' c' (by omega) h1 h2
   ·refine Ok.ret (.inr ⟨_,rfl,λj k c h1 h2=>ZQ j k c ?_ h1 h2⟩);have:=(oGS h1).1
    omega)
 rw[e];rcases hy with rfl | ⟨q,rfl,ZQ⟩
 ·exact AY
 dsimp only;rw[wJ hc];delta dQ;simp only[oBS,g0,g1,g2];rw[d8 (x:=c2.2) (by have:=v2.2.2.1;omega) (by have:=v2.2.2.2.1;omega),d8 (x:=c0.2) (by have:=v0.2.2.1;omega) (by have:=v0.2.2.2.1;omega)]
 have ZY:(0 < t7 call->∃p q,rs[1]?=some p/\rs[2]?=some q/\q.2<=16/\p.1=1/\∃(j:Nat) (b z:Int),bs[j]?=some b/\ss[j]?=some z/\b<=p.2/\p.2+q.2<=b+z)->Ok ((bif (call==10) then (some ((decide (c0.2>=(code.length:Int))),())) else
  bif (call==12) then (some ((decide (c0.2>=(code.length:Int))),())) else some (false,()):Option (Bool×Unit)).bind λ(x35,_)=>bif x35 then (some ((6:Int),())) else some (0,()))
  λr=>∃e,r=(e,())/\0<=e/\e<=6/\(e=0->NI call code.length bs ss rs):=by
  intro hbuf;by_cases q10:call=10
  ·simp only[beq_iff_eq.2 q10,oCT,oBS]
   (with_reducible refine dM (λZ3=>?_) λZ3=>?_)
   ·exact AY
   ·exact IF ⟨ZQ,hbuf,λ_=>⟨c0,hc0,by omega⟩⟩
  ·by_cases q12:call=12
   ·simp only[oBF q10,beq_iff_eq.2 q12,oCT,oCF,oBS]
    (with_reducible refine dM (λZ3=>?_) λZ3=>?_)
    ·exact AY
    ·exact IF ⟨ZQ,hbuf,λ_=>⟨c0,hc0,by omega⟩⟩
   ·simp only[oBF q10,oBF q12,oCF,oBS];exact IF ⟨ZQ,hbuf,λh=>by omega⟩
 (with_reducible refine dM (λZ'=>?_) λZ'=>?_)
 ·refine (Lg (t:=c1.1) (v:=c1.2) (n:=c2.2) h.lay ⟨v1.2.2.1,v1.2.2.2.1⟩ ⟨v2.2.2.1,v2.2.2.2.1⟩).bind ?_;rintro _ ⟨a,e,rfl,he⟩;dsimp only
  (with_reducible refine dM (λZ3=>?_) λZ3=>?_)
  ·exact AY
  obtain⟨w1,_,j,b',z,w2,w3,w4,w5,w6⟩:=he Z3
  (with_reducible refine dM (λhcc=>?_) λhcc=>?_)
  ·exact AY
  exact ZY λ_=>⟨c1,c2,ZW,ZO,by omega,w1,j,b',z,w2,w3,w4,w5⟩
 ·exact ZY λh=>by omega
structure Cc (n:Int) (ss:List Int) (i stop trap count pc call:Int) (args data:List DCn):Prop where
 hthr:0<=i/\i < 4
 hstop:0<=stop/\stop<=3
 htrap:0<=trap/\trap<=6
 hcnt:0<=count/\count<=n
 hpc:0<=pc/\pc<=255
 hcall:0<=call/\call<=15
 hargs:args.length<=3/\∀c∈args,Pr ss c
 hdata:data.length<=16/\∀c∈data,Pr ss c
 hkind:stop=1->args.length=(kB call).length/\∀(j:Nat) k a,(kB call)[j]?=some k->args[j]?=some a->O7 k a.1=true
 hbuf:stop=1->t7 call=2->∃a,args[2]?=some a/\a.2.1<=16
def Ty(stop trap:Int) (t':DTh):Prop:=(stop=0/\t'.1=1)\/(stop=1/\t'.1=2)\/(stop=2/\t'.1=4/\t'.2.2.2.2.2.2.1=trap)\/(stop=3/\t'.1≠1)
def JQ(n key:Int) (ss bs:List Int) (ts:List DTh) (i:Nat) (r:(List (Int))×Int×(List DCe)×(List DLn)×(List DTh)×Int×Int×Int×Int×Int×Int×(List DCn)×(List DCn)×Int×Unit):Prop:=
 ∃Z4 Z1 t' stop trap call args data,r=(bs,key,Z4,Z1,ts.set i t',(i:Int),stop,trap,t'.2.2.2.1,t'.2.2.1,call,args,data,0,())/\kV (RK bs ss) Z4 Z1/\Be (RK bs ss) n t' /\
  Cc n ss i stop trap t'.2.2.2.1 t'.2.2.1 call args data/\Ty stop trap t'/\(stop=3->ts[i]?=some t')
theorem zj{n:Int}{ss bs:List Int}{i:Nat}{t':DTh}{stop trap:Int}(hi:i < 4) (ht:Be (RK bs ss) n t') (hs:0<=stop/\stop<=3) (hs1:stop≠1) (htr:0<=trap/\trap<=6):Cc n ss i stop trap t'.2.2.2.1 t'.2.2.1 0 [] []:=
 ⟨⟨by omega,by omega⟩,hs,htr,ht.count,ht.pc,by decide,⟨by decide,eG⟩,⟨by decide,eG⟩,λh=>absurd h hs1,λh=>absurd h hs1⟩
theorem fT{α β:Type}(f:α->β) {l:List α}{k:Nat}{x:α}(h:l[k]?=some x):(l.take k).map f++[f x]=(l.take (k+1)).map f:=by
 rw[List.take_add_one,h];simp
theorem pV{β:Type}(f:Nat->β) (k:Nat):(List.range k).map f++[f k]=(List.range (k+1)).map f:=by
 rw[List.range_succ];simp
set_option maxHeartbeats 4000000 in
theorem zN{n key k:Int}{code:List DIn}{ss bs:List Int}{d:List (List Int)}{cs:List DCe}{ls:List DLn}{ts:List DTh}{i:Nat}(hp:jE code ss d) (h:MOk n ss bs cs ls ts) (X9:0<=n) (hn:n+64<=1099511627776) (hi:i < 4) (hk:1<=k/\k<=64) :
 Ok (mY code ss d bs key cs ls ts (i:Int) k) (JQ (n+64) key ss bs ts i):=by
 have Xz:=h.tlen
 have YQ:i < ts.length:=by omega
 unfold mY;refine (NW hp h X9 hn hi hk).bind ?_;rintro _ ⟨s,Z4,Z1,t',rfl,hm,ZK,hs⟩;have hM:MOk (n+64) ss bs Z4 Z1 (ts.set i t'):=(h.mono (show n<=n+64 by omega)).set hm ZK;have hgt:(ts.set i t')[i]?=some t':=iF YQ t';dsimp only;simp only[bne_self_eq_false,oCF,dP,oBS,iF YQ];rcases hs with ⟨rfl,hs1,Y6⟩ | ⟨rfl,hs1⟩ | ⟨rfl,hs1⟩ | ⟨rfl,hs1,x,Y6,hs3,W2⟩
 ·exact Ok.ret ⟨_,_,_,_,_,_,_,_,rfl,hm,ZK,zj hi ZK (by decide) (by decide) (by decide),.inr (.inr (.inr ⟨rfl,Y6⟩)),λ_=>hs1⟩
 ·exact Ok.ret ⟨_,_,_,_,_,_,_,_,rfl,hm,ZK,zj hi ZK (by decide) (by decide) (by decide),.inl ⟨rfl,hs1⟩,λh=>absurd h (by decide)⟩
 ·exact Ok.ret ⟨_,_,_,_,_,_,_,_,rfl,hm,ZK,zj hi ZK (by decide) (by decide) ZK.trap,.inr (.inr (.inl ⟨rfl,hs1,rfl⟩)),λh=>absurd h (by decide)⟩
 ·have Yo:=hp.ins x (dR hs3);have hcall:0<=x.2.2.2.2/\x.2.2.2.2<=15:=⟨Yo.imm.1,Yo.sys W2⟩;obtain⟨_,ec,e,rfl,VI,VJ,hcok⟩:=K5 (key:=key) (d:=d) hM hgt Y6 hs3 hcall;obtain⟨o,A,B,C,call⟩:=x;dsimp only at hcall hcok;have hk3:=MS call;have hl8:=ZK.len;obtain⟨j,hj⟩:∃j:Nat,t'.2.2.1 - 1=j:=⟨(t'.2.2.1 - 1).toNat,by omega⟩;have hpc:=ZK.pc;rw[hj,oTN] at hs3;rw[dU (x:=t'.2.2.1 - 1) (by omega) (by omega),hj];simp only[Int.reduceBEq,oCT,oCF,ec,oBS,dP,show dO code j=some (o,A,B,C,call) from hs3,yN hcall];by_cases hne:e=0
  ·subst hne;obtain⟨ZQ,hbuf,_⟩:=hcok rfl
   have e1:dW jt NN (((kB call).length:Int),0,code,ss,d,(),0,(),(),(),0,0,0,0,0,0,(),(),bs,key,Z4,Z1,ts.set i t',t'.1,t'.2.1,t'.2.2.1,t'.2.2.2.1,t'.2.2.2.2.1,t'.2.2.2.2.2.1,t'.2.2.2.2.2.2.1,t'.2.2.2.2.2.2.2,(i:Int),1,0,t'.2.2.2.1,t'.2.2.1,call,[],(),()) =
    some (((kB call).length:Int),((kB call).length:Int),false,code,ss,d,(),0,(),(),(),0,0,0,0,0,0,(),(),bs,key,Z4,Z1,ts.set i t',t'.1,t'.2.1,t'.2.2.1,t'.2.2.2.1,t'.2.2.2.2.1,t'.2.2.2.2.2.1,t'.2.2.2.2.2.2.1,t'.2.2.2.2.2.2.2,(i:Int),1,0,t'.2.2.2.1,t'.2.2.1,call,(t'.2.1.take (kB call).length).map (ut bs ss key),(),()):=by
    refine kO (f:=jt) (N:=NN) (st:=λq=>(((kB call).length:Int),(q:Int),code,ss,d,(),0,(),(),(),0,0,0,0,0,0,(),(),bs,key,Z4,Z1,ts.set i t',t'.1,t'.2.1,t'.2.2.1,t'.2.2.2.1,t'.2.2.2.2.1,t'.2.2.2.2.2.1,t'.2.2.2.2.2.2.1,t'.2.2.2.2.2.2.2,(i:Int),1,0,t'.2.2.2.1,t'.2.2.1,call,(t'.2.1.take q).map (ut bs ss key),(),())) (n:=(kB call).length) (by unfold NN;omega) ?_ ?_
    ·intro q hq;unfold jt;dsimp only;rw[oDT (show (q:Int) < (kB call).length by omega),dP];simp only[oCT,oBS];refine Ok.get (by omega) λc hc=>?_;rw[t6 h.lay (ZK.regs c (dR hc))];simp only[oBS];refine dL (dY (by simp;omega)) ?_;rw[dU (x:=(q:Int)+1) (by omega) (by omega)];refine Ok.ret ?_;rw[<- fT (ut bs ss key) hc];rfl
    ·unfold jt;dsimp only;rw[oDF (show ¬ ((kB call).length:Int) < (kB call).length by omega)];exact Ok.ret rfl
   have hargs:((t'.2.1.take (kB call).length).map (ut bs ss key)).length=(kB call).length:=by rw[List.length_map,oLT];omega
   have hgetA:∀(j:Nat) a,((t'.2.1.take (kB call).length).map (ut bs ss key))[j]?=some a->∃c,t'.2.1[j]?=some c/\a=ut bs ss key c:=by
    intro j a ha;rw[List.getElem?_map] at ha
    cases hc:(t'.2.1.take (kB call).length)[j]? with
    | none=>rw[hc] at ha;cases ha
    | some c=>
     rw[hc] at ha
     injection ha with ha
     refine⟨c,?_,ha.symm⟩;rw[List.getElem?_take] at hc;split at hc
     ·exact hc
     ·cases hc
   have VC:∀c∈(t'.2.1.take (kB call).length).map (ut bs ss key),Pr ss c:=by
    intro c hc;obtain⟨c',YN,rfl⟩:=List.mem_map.1 hc;exact EL h.lay (ZK.regs c' (List.mem_of_mem_take YN))
   have UN:∀(j:Nat) k a,(kB call)[j]?=some k->((t'.2.1.take (kB call).length).map (ut bs ss key))[j]?=some a->O7 k a.1=true:=by
    intro j k a hk ha;obtain⟨c,hc,rfl⟩:=hgetA j a ha;rw[(JH (ZK.regs c (dR hc))).1];exact ZQ j k c hk hc
   have hbuf2:t7 call=2->∃a,((t'.2.1.take (kB call).length).map (ut bs ss key))[2]?=some a/\a.2.1<=16:=by
    intro hb;obtain⟨p,q,hp1,Yw,P',_⟩:=hbuf (by omega)
    have hkk:(kB call)[2]?=some 78:=by
     have:call=2\/call=14:=by unfold t7 at hb;split at hb<;>first | omega | (split at hb<;>omega)
     rcases this with rfl | rfl<;>rfl
    have hf:=ZQ 2 78 q hkk Yw;have hl3:=(oGS hkk).1;refine⟨ut bs ss key q,?_,?_⟩
    ·rw[List.getElem?_map,List.getElem?_take,oIP hl3,Yw];rfl
    ·have hq:=(JH (bs:=bs) (ss:=ss) (key:=key) (ZK.regs q (dR Yw))).2 (by unfold O7 at hf;simpa using hf);rw[hq];exact P'
   simp only[e1,bne_self_eq_false,oCF,oBS,wJ hcall]
   have ZY:∀data:List DCn,data.length<=16->(∀c∈data,Pr ss c)->Ok (some (bs,key,Z4,Z1,ts.set i t',(i:Int),(1:Int),(0:Int),t'.2.2.2.1,t'.2.2.1,call,(t'.2.1.take (kB call).length).map (ut bs ss key),data,(0:Int),())) (JQ (n+64) key ss bs ts i):=
    λdata h1 h2=>Ok.ret ⟨_,_,_,_,_,_,_,_,rfl,hm,ZK,⟨⟨by omega,by omega⟩,by decide,by decide,ZK.count,ZK.pc,hcall,⟨by omega,VC⟩,⟨h1,h2⟩,λ_=>⟨hargs,UN⟩,λ_=>hbuf2⟩,.inr (.inl ⟨rfl,hs1⟩),λh=>absurd h (by decide)⟩
   by_cases hb1:t7 call=1
   ·obtain⟨p,q,hp1,Yw,P',_,jr,b,z,hbz1,hbz2,hbz3,hbz4⟩:=hbuf (by omega);have hp':=ZK.regs p (dR hp1);have Un:=ZK.regs q (dR Yw);have hjr:=(oGS hbz1).1;have Q':=h.lay.2.2 jr hjr;unfold p6 at Q';rw[ef hbz1,ef hbz2] at Q';obtain⟨m,hqm⟩:∃m:Nat,q.2=m:=⟨q.2.toNat,by have:=Un.2.2.1;omega⟩
    have e2:dW jq NN ((m:Int),0,code,ss,d,(),0,(),(),(),0,0,0,0,0,0,(),(),bs,key,Z4,Z1,ts.set i t',t'.1,t'.2.1,t'.2.2.1,t'.2.2.2.1,t'.2.2.2.2.1,t'.2.2.2.2.2.1,t'.2.2.2.2.2.2.1,t'.2.2.2.2.2.2.2,(i:Int),1,0,t'.2.2.2.1,t'.2.2.1,call,(t'.2.1.take (kB call).length).map (ut bs ss key),[],()) =
     some ((m:Int),(m:Int),false,code,ss,d,(),0,(),(),(),0,0,0,0,0,0,(),(),bs,key,Z4,Z1,ts.set i t',t'.1,t'.2.1,t'.2.2.1,t'.2.2.2.1,t'.2.2.2.2.1,t'.2.2.2.2.2.1,t'.2.2.2.2.2.2.1,t'.2.2.2.2.2.2.2,(i:Int),1,0,t'.2.2.2.1,t'.2.2.1,call,(t'.2.1.take (kB call).length).map (ut bs ss key),(List.range m).map (λj:Nat=>ut bs ss key (HO Z4 Z1 (p.2+(j:Int)))),()):=by
     refine kO (f:=jq) (N:=NN) (st:=λq=>((m:Int),(q:Int),code,ss,d,(),0,(),(),(),0,0,0,0,0,0,(),(),bs,key,Z4,Z1,ts.set i t',t'.1,t'.2.1,t'.2.2.1,t'.2.2.2.1,t'.2.2.2.2.1,t'.2.2.2.2.2.1,t'.2.2.2.2.2.2.1,t'.2.2.2.2.2.2.2,(i:Int),1,0,t'.2.2.2.1,t'.2.2.1,call,(t'.2.1.take (kB call).length).map (ut bs ss key),(List.range q).map (λj:Nat=>ut bs ss key (HO Z4 Z1 (p.2+(j:Int)))),())) (n:=m) (by unfold NN;omega) ?_ ?_
     ·intro v hv;unfold jq;dsimp only;have hp0:=hp'.2.2.1;have hp01:=hp'.2.2.2.1;rw[oDT (show (v:Int) < m by omega)];simp only[oCT,oBS,show dO t'.2.1 1=some p from hp1];rw[d8 (x:=p.2) (by omega) (by omega),dU (x:=p.2+v) (by omega) (by omega)];obtain⟨Ui,Uj⟩:=Dl (a:=p.2+v) hm ⟨by omega,by omega⟩;rw[Ui];simp only[oBS];rw[t6 h.lay Uj];simp only[oBS];refine dL (dY (by simp;omega)) ?_;rw[dU (x:=(v:Int)+1) (by omega) (by omega)];refine Ok.ret ?_;rw[<- pV];rfl
     ·unfold jq;dsimp only;rw[oDF (show ¬ (m:Int) < m by omega)];exact Ok.ret rfl
    simp only[hb1,BEq.rfl,oCT,show dO t'.2.1 2=some q from Yw,oBS];rw[d8 (x:=q.2) (by omega) (by omega),hqm,e2];simp only[oBS];refine ZY _ (by rw[List.length_map,List.length_range];omega) ?_;intro c hc;obtain⟨v,hv,rfl⟩:=List.mem_map.1 hc;have hv:=List.mem_range.1 hv;have hp0:=hp'.2.2.1;exact EL h.lay (Dl (a:=p.2+v) hm ⟨by omega,by omega⟩).2
   ·simp only[oBF hb1,oCF];exact ZY [] (by decide) eG
  ·unfold ou mE;simp only[bne_iff_ne.2 hne,oCT];rw[dY (show 4<=1000/\0+t'.2.1.length<=1000000 by omega)];simp only[oCT,oBS,dP,iF YQ,qk YQ];exact Ok.ret ⟨_,_,_,_,_,_,_,_,rfl,hm,ZK.ended ⟨VI,VJ⟩,zj hi (ZK.ended ⟨VI,VJ⟩) (by decide) (by decide) ⟨VI,VJ⟩,.inr (.inr (.inl ⟨rfl,rfl,rfl⟩)),λh=>absurd h (by decide)⟩
theorem HN{a b:Int}:mmR false a b<=a/\mmR false a b<=b/\(mmR false a b=a\/mmR false a b=b):=by
 unfold mmR;simp;omega
theorem oh{α:Type}{l:List α}{i j:Nat}(h:i≠j) (a:α):(l.set i a)[j]?=l[j]?:=by
 simp_all
theorem Rn.setFile{d:List (List DCn)}{o:DOp}{f:Nat}{x y:List DCn}(h:Rn d o) (hf:d[f]?=some x) (WT:x.length<=y.length):Rn (d.set f y) o:=by
 rcases h with h | ⟨h1,z,h2,h3,h4⟩
 ·exact .inl h
 ·refine .inr ⟨h1,?_⟩;by_cases e:f=o.1.toNat
  ·subst e;rw[hf] at h2;cases h2;exact⟨y,iF (oGS hf).1 y,h3,by omega⟩
  ·simp_all
theorem gi.setFile{ss:List Int}{d:List (List DCn)}{os:List DOp}{f:Nat}{x y:List DCn}(h:gi ss d os) (hf:d[f]?=some x) (h64:y.length<=64) (hc:∀c∈y,Pr ss c) (WT:x.length<=y.length):gi ss (d.set f y) os:=
 ⟨by rw[List.length_set];exact h.dlen,jA h.flen h64,jA h.cells hc,h.olen,λo ho=>(h.opens o ho).setFile hf WT⟩
theorem gi.setOpen{ss:List Int}{d:List (List DCn)}{os:List DOp}{i:Nat}{o:DOp}(h:gi ss d os) (ho:Rn d o):gi ss d (os.set i o):=
 ⟨h.dlen,h.flen,h.cells,by rw[List.length_set];exact h.olen,jA h.opens ho⟩
theorem Dh{ss:List Int}{d:List (List DCn)}{os:List DOp}{h:Int}(hF:gi ss d os):∃b,iL d os h=some (b,())/\(b=true->∃(j f:Nat) (o:DOp) (x:List DCn),h=j/\j < 8/\os[j]?=some o/\o.1=f/\d[f]?=some x/\0<=o.2.1/\o.2.1<=x.length):=by
 have:Ok (iL d os h) λr=>∃b,r=(b,())/\(b=true->∃(j f:Nat) (o:DOp) (x:List DCn),h=j/\j < 8/\os[j]?=some o/\o.1=f/\d[f]?=some x/\0<=o.2.1/\o.2.1<=x.length):=by
  unfold iL;delta dQ
  (with_reducible refine dM (λZ'=>?_) λZ'=>?_)
  ·(with_reducible refine dM (λZ3=>?_) λZ3=>?_)
   ·refine Ok.nat (by omega) λj hj=>?_;have h8:=hF.olen;refine Ok.get (by omega) λo ho=>?_;refine Ok.ret ⟨_,rfl,λhb=>?_⟩;rcases hF.opens o (dR ho) with ⟨h1,_⟩ | ⟨h1,x,h2,h3,h4⟩
    ·simp_all
    ·exact⟨j,o.1.toNat,o,x,hj,by omega,ho,by omega,h2,h3,h4⟩
   ·exact Ok.ret ⟨_,rfl,λh=>by cases h⟩
  ·exact Ok.ret ⟨_,rfl,λh=>by cases h⟩
 obtain⟨_,e,b,rfl,hb⟩:=this;exact⟨b,e,hb⟩
theorem vV{ss:List Int}{d:List (List DCn)}{os:List DOp}(h:gi ss d os):hY d os=some (d,os,()):=
 copy17_ok (by have:=h.dlen;omega) (λx hx=>by have:=h.flen x hx;omega) (by have:=h.olen;omega)
theorem JW{ss:List Int}{d:List (List DCn)}{os:List DOp}{h:Int}{l:List DCn}(hs:xG ss) (hF:gi ss d os) (hl:l.length<=16) (VR:∀c∈l,Pr ss c) :
 Ok (nE d os h l) λr=>∃d' Zh n b,r=(d',Zh,n,b,())/\gi ss d' Zh/\0<=n/\n<=16:=by
 obtain⟨b,eo,hb⟩:=Dh (h:=h) hF;unfold nE;rw[vV hF];simp only[oBS,eo]
 cases b with
 | false=>
  simp only[Bool.not_false,oCT,oBS];exact Ok.ret ⟨_,_,_,_,rfl,hF,by decide,by decide⟩
 | true=>
  obtain⟨j,f,o,x,rfl,hj,ho,hof,hx,o0,o1⟩:=hb rfl;have hg:dO os j=some o:=ho;have Ws:dO d f=some x:=hx;have hjl:=(oGS ho).1;have Zy:=(oGS hx).1;have UX:=hF.flen x (dR hx);simp only[oNT,oCF,dP,oBS,hg]
  cases hw:o.2.2 with
  | false=>
   simp only[Bool.not_false,oCT,oBS];exact Ok.ret ⟨_,_,_,_,rfl,hF,by decide,by decide⟩
  | true=>
   delta dQ;simp only[oNT,oCF,oBS,kQ (n:=(l.length:Int)) hs VR (by omega) (by omega),dP,hg,hof,Ws];rw[dU (x:=64 - o.2.1) (by omega) (by omega)];obtain⟨m1,m2,m3⟩:=HN (a:=(l.length:Int)) (b:=64 - o.2.1);generalize mmR false (l.length:Int) (64 - o.2.1)=k at m1 m2 m3
   refine Ok.loop (P:=λs'=>∃(i:Nat) (y:List DCn),s'=(l,j,k,k,(i:Int),(),(),d,f,os,y,())/\(i:Int)<=k/\(∀c∈y,Pr ss c)/\x.length<=y.length/\o.2.1+i<=y.length/\y.length<=64)
    (R:=λr=>∃y:List DCn,r=(l,j,k,k,k,false,(),(),d,f,os,y,())/\(∀c∈y,Pr ss c)/\x.length<=y.length/\o.2.1+k<=y.length/\y.length<=64) (m:=λs'=>(k - s'.2.2.2.2.1).toNat) ⟨0,x,rfl,by omega,hF.cells x (dR hx),by omega,by omega,UX⟩ (by unfold NN;dsimp only;omega) ?_ ?_
   ·rintro _ ⟨i,y,rfl,hi,hy,WT,hoy,UY⟩;unfold rS;dsimp only
    (with_reducible refine dM (λZ'=>?_) λZ'=>?_)
    ·delta dQ;simp only[hg,oBS,dP];rw[dU (x:=o.2.1+i) (by omega) (by omega)];obtain⟨c,hc⟩:∃c,l[i]?=some c:=⟨_,oGE (by omega)⟩;have ZJ:dO l i=some c:=hc;have Ud:=VR c (dR hc);simp only[ZJ,oBS];refine Ok.bind (P:=λr=>∃y':List DCn,r=(l,j,k,k,(i:Int),(),(),d,f,os,y',())/\(∀c∈y',Pr ss c)/\x.length<=y'.length/\o.2.1+i+1<=y'.length/\y'.length<=64) ?_ ?_
     ·(with_reducible refine dM (λZ3=>?_) λZ3=>?_)
      ·refine Ok.nat (by omega) λq hq=>?_;refine Ok.get (by omega) λ_ hz=>?_;refine Ok.get (by omega) λ_ _=>?_;rw[eJ hz];exact Ok.ret ⟨_,rfl,jA hy Ud,by rw[List.length_set];omega,by rw[List.length_set];omega,by rw[List.length_set];omega⟩
      ·refine dL (dY (by simp;omega)) ?_;exact Ok.ret ⟨_,rfl,jZ hy (all_cons Ud eG),by rw[fC];omega,by rw[fC,List.length_singleton];omega,by rw[fC,List.length_singleton];omega⟩
     ·rintro _ ⟨y',rfl,g1,g2,g3,g4⟩;dsimp only;rw[dU (x:=(i:Int)+1) (by omega) (by omega)];exact Ok.ret ⟨⟨i+1,y',rfl,by omega,g1,g2,by omega,g4⟩,by dsimp only;omega⟩
    ·obtain rfl:(i:Int)=k:=by omega
     exact Ok.ret ⟨y,rfl,hy,WT,hoy,UY⟩
   ·rintro _ ⟨y,rfl,hy,WT,hoy,UY⟩;dsimp only;simp only[hg,oBS,hof,dP,Ws];refine dL (by simp) ?_;rw[dU (x:=o.2.1+k) (by omega) (by omega),eJ hx,eJ ho];refine Ok.ret ⟨_,_,_,_,rfl,(hF.setFile hx UY hy WT).setOpen (.inr ⟨by dsimp only;omega,y,?_,by dsimp only;omega,by dsimp only;omega⟩),by omega,by omega⟩;dsimp only;rw[hof,oTN];exact iF Zy y
theorem Mi{ss:List Int}{d:List (List DCn)}{os:List DOp}{h n:Int}(hF:gi ss d os) (hn:0<=n/\n<=65535) :
 Ok (pe d os h n) λr=>(∃d' Zh,r=.inl (d',Zh,(),false,())/\gi ss d' Zh)\/(∃d' Zh l,r=.inr (d',Zh,l,true,())/\gi ss d' Zh/\(l.length:Int)<=n/\l.length<=64/\∀c∈l,Pr ss c):=by
 obtain⟨b,eo,hb⟩:=Dh (h:=h) hF;unfold pe;rw[vV hF];simp only[oBS,eo]
 cases b with
 | false=>
  exact Ok.ret (.inl ⟨_,_,rfl,hF⟩)
 | true=>
  obtain⟨j,f,o,x,rfl,hj,ho,hof,hx,o0,o1⟩:=hb rfl;have hg:dO os j=some o:=ho;have Ws:dO d f=some x:=hx;have UX:=hF.flen x (dR hx);rw[oDF (show ¬ n < 0 by omega)];simp only[oNT,oCF,dP,oBS,hg]
  cases hw:o.2.2 with
  | true=>exact Ok.ret (.inl ⟨_,_,rfl,hF⟩)
  | false=>
   delta dQ;simp only[oCF,dP,oBS,hg,hof,Ws];rw[dU (x:=(x.length:Int) - o.2.1) (by omega) (by omega)];obtain⟨m1,m2,m3⟩:=HN (a:=n) (b:=(x.length:Int) - o.2.1);generalize mmR false n ((x.length:Int) - o.2.1)=k at m1 m2 m3;rw[dU (x:=o.2.1+k) (by omega) (by omega)];refine Ok.nat o0 λp hp=>?_;refine Ok.nat (by omega) λq hq=>?_;refine dL (by unfold ir;simp;omega) ?_
   have hw2:(kU x p (Nat.sub q p)).length=q - p:=by
    unfold kU;rw[oLT,List.length_drop];show min (q - p) _=q - p;omega
   refine dL (dY (by omega)) ?_;rw[eJ ho];refine Ok.ret (.inr ⟨_,_,_,rfl,hF.setOpen (.inr ⟨by dsimp only;omega,x,by dsimp only;rw[hof,oTN];exact hx,by dsimp only;omega,by dsimp only;omega⟩),?_,?_,?_⟩)
   ·rw[fC,hw2];simp;omega
   ·rw[fC,hw2];simp;omega
   ·refine jZ eG λc hc=>hF.cells x (dR hx) c ?_;unfold kU at hc;exact List.mem_of_mem_drop (List.mem_of_mem_take hc)
theorem K1{ss:List Int}{d:List (List DCn)}{os:List DOp}{h:Int}(hF:gi ss d os):Ok (nF d os h) λr=>∃d' Zh b,r=(d',Zh,b,())/\gi ss d' Zh:=by
 have ⟨b,eo,hb⟩:=Dh (h:=h) hF;unfold nF;rw[vV hF];simp only[eo]
 cases b with
 | false=>exact Ok.ret ⟨_,_,_,rfl,hF⟩
 | true=>
  obtain⟨j,f,o,x,rfl,hj,ho,hof,hx,o0,o1⟩:=hb rfl;have hg:dO os j=some o:=ho;simp only[dP,oBS,hg];rw[eJ ho];exact Ok.ret ⟨_,_,_,rfl,hF.setOpen (.inl ⟨rfl,rfl,rfl⟩)⟩
theorem L3{ss:List Int}{d:List (List DCn)}{os:List DOp}{h n:Int}(hF:gi ss d os):Ok (pd d os h n) λr=>∃d' Zh b,r=(d',Zh,b,())/\gi ss d' Zh:=by
 obtain⟨b,eo,hb⟩:=Dh (h:=h) hF;unfold pd;rw[vV hF];simp only[eo]
 cases b with
 | false=>
  exact Ok.ret ⟨_,_,_,rfl,hF⟩
 | true=>
  obtain⟨j,f,o,x,rfl,hj,ho,hof,hx,o0,o1⟩:=hb rfl;have hg:dO os j=some o:=ho;have Ws:dO d f=some x:=hx;delta dQ;simp only[oNT,oCF,dP,oBS,hg,hof,Ws];by_cases hn:n < 0
  ·simp only[oDT hn,oCT,oBS];exact Ok.ret ⟨_,_,_,rfl,hF⟩
  ·simp only[oDF hn,oCF,oBS]
   (with_reducible refine dM (λZ'=>?_) λZ'=>?_)
   ·exact Ok.ret ⟨_,_,_,rfl,hF⟩
   ·simp only[dP,oBS,hg];rw[eJ ho];exact Ok.ret ⟨_,_,_,rfl,hF.setOpen (.inr ⟨by dsimp only;omega,x,by simp_all,by dsimp only;omega,by dsimp only;omega⟩)⟩
theorem OD{ss:List Int}{d:List (List DCn)}{os:List DOp}{file mode:Int}(hF:gi ss d os):Ok (pf d os file mode) λr=>∃d' Zh h,r=(d',Zh,h,())/\gi ss d' Zh/\-1<=h/\h<=7:=by
 have h8:=hF.olen;have hd4:=hF.dlen;unfold pf;rw[vV hF];simp only[oBS];refine Ok.loop (P:=λs'=>∃i:Nat,s'=(file,mode,(i:Int),d,os,(),(),d,os,())/\i<=8) (R:=λr=>∃i:Nat,r=(file,mode,(i:Int),false,d,os,(),(),d,os,())/\i<=8) (m:=λs'=>(8 - s'.2.2.1).toNat) ⟨0,rfl,by omega⟩ (by unfold NN;dsimp only;omega) ?_ ?_
 ·rintro _ ⟨i,rfl,hi⟩;unfold sw;delta dQ;simp only[h8,dP,oBS]
  (with_reducible refine dM (λZ'=>?_) λZ'=>?_)
  ·refine Ok.get (by omega) λo ho=>?_
   (with_reducible refine dM (λZ3=>?_) λZ3=>?_)
   ·rw[dU (x:=(i:Int)+1) (by omega) (by omega)];exact Ok.ret ⟨⟨i+1,rfl,by omega⟩,by dsimp only;omega⟩
   ·exact Ok.ret ⟨i,rfl,hi⟩
  ·exact Ok.ret ⟨i,rfl,hi⟩
 rintro _ ⟨i,rfl,hi⟩;delta dQ;simp only[h8];have bad:gi ss d os/\(-1:Int)<=-1/\(-1:Int)<=7:=⟨hF,by decide,by decide⟩;refine Ok.bind (P:=λr=>(∃b:Bool,r=(file,mode,(i:Int),b,(),(),d,os,())/\(b=false->0<=file/\file < d.length/\i < 8))) ?_ ?_
 ·(with_reducible refine dM (λZ'=>?_) λZ'=>?_)
  ·exact Ok.ret ⟨true,rfl,λh=>by cases h⟩
  (with_reducible refine dM (λZ3=>?_) λZ3=>?_)
  ·exact Ok.ret ⟨true,rfl,λh=>by cases h⟩
  (with_reducible refine dM (λhcc=>?_) λhcc=>?_)
  ·exact Ok.ret ⟨true,rfl,λh=>by cases h⟩
  (with_reducible refine dM (λXo=>?_) λXo=>?_)
  ·exact Ok.ret ⟨true,rfl,λh=>by cases h⟩
  exact Ok.ret ⟨_,rfl,λh=>⟨by omega,by omega,by rw[beq_eq_false_iff_ne] at h;omega⟩⟩
 rintro _ ⟨b,rfl,hb⟩;dsimp only
 cases b with
 | true=>exact Ok.ret ⟨_,_,_,rfl,bad⟩
 | false=>
  obtain⟨f0,f1,hi8⟩:=hb rfl;obtain⟨f,rfl⟩:∃f:Nat,file=f:=⟨file.toNat,by omega⟩;obtain⟨x,hx⟩:∃x,d[f]?=some x:=⟨_,oGE (by omega)⟩;obtain⟨o,ho⟩:∃o,os[i]?=some o:=⟨_,oGE (by omega)⟩;have Ws:dO d f=some x:=hx;have hg:dO os i=some o:=ho;have Zy:=(oGS hx).1;have YQ:=(oGS ho).1;simp only[oCF,dP,oBS,Ws,hg];by_cases h1:mode=1
  ·subst h1;simp only[BEq.rfl,oCT];rw[eJ hx];simp only[h8]
   refine Ok.loop (P:=λs'=>∃(q:Nat) (Zh:List DOp),s'=((f:Int),1,(i:Int),((8:Nat):Int),(q:Int),(),(),d.set f [],Zh,())/\q<=8/\Zh.length=8/\(∀(j:Nat) o,j < q->Zh[j]?=some o->Rn (d.set f []) o)/\∀j:Nat,q<=j->Zh[j]?=os[j]?)
    (R:=λr=>∃(z:Int) (Zh:List DOp),r=((f:Int),1,(i:Int),((8:Nat):Int),z,false,(),(),d.set f [],Zh,())/\gi ss (d.set f []) Zh) (m:=λs'=>(8 - s'.2.2.2.2.1).toNat) ⟨0,os,rfl,by omega,h8,λj o hj=>by omega,λ_ _=>rfl⟩ (by unfold NN;dsimp only;omega) ?_ ?_
   ·rintro _ ⟨q,Zh,rfl,hq,Zg,ha,hr⟩;unfold su;dsimp only
    (with_reducible refine dM (λZ'=>?_) λZ'=>?_)
    ·obtain⟨o',Zj⟩:∃o',Zh[q]?=some o':=⟨_,oGE (by omega)⟩;have UJ:dO Zh q=some o':=Zj;have hop:=hF.opens o' (dR (by rw[<- hr q (by omega)];exact Zj));simp only[dP,oBS,UJ];refine Ok.bind (P:=λr=>∃o2:DOp,Rn (d.set f []) o2/\r=((f:Int),1,(i:Int),((8:Nat):Int),(q:Int),(),(),d.set f [],Zh.set q o2,())) ?_ ?_
     ·by_cases hof:o'.1=f
      ·simp only[beq_iff_eq.2 hof,oCT];rw[eJ Zj];exact Ok.ret ⟨_,.inr ⟨by dsimp only;omega,[],by dsimp only;rw[hof,oTN];exact iF Zy [],by dsimp only;omega,by simp⟩,rfl⟩
      ·simp only[oBF hof,oCF];refine Ok.ret ⟨o',?_,by rw[C7 Zj]⟩;rcases hop with h | ⟨g1,z,g2,g3⟩
       ·exact .inl h
       ·exact .inr ⟨g1,z,by rw[oh (by omega)];exact g2,g3⟩
     ·rintro _ ⟨o2,hop2,rfl⟩;dsimp only;rw[dU (x:=(q:Int)+1) (by omega) (by omega)];refine Ok.ret ⟨⟨q+1,_,rfl,by omega,by rw[List.length_set];exact Zg,λj o hj hjo=>?_,λj hj=>?_⟩,by dsimp only;omega⟩
      ·by_cases e:q=j
       ·subst e;rw[show (Zh.set q o2)[q]?=some o2 from iF (by omega) o2] at hjo;cases hjo;exact hop2
       ·rw[oh e] at hjo;exact ha j o (by omega) hjo
      ·rw[oh (by omega)];exact hr j (by omega)
    ·refine Ok.ret ⟨_,_,rfl,⟨by rw[List.length_set];exact hd4,jA hF.flen (by simp),jA hF.cells eG,Zg,λo' Zj=>?_⟩⟩;obtain⟨j,hj⟩:=List.getElem?_of_mem Zj;have:=(oGS hj).1;exact ha j o' (by omega) hj
   ·rintro _ ⟨z,Zh,rfl,hF'⟩;have Zg:=hF'.olen;obtain⟨o',Zj⟩:∃o',Zh[i]?=some o':=⟨_,oGE (by omega)⟩;have UJ:dO Zh i=some o':=Zj;simp only[dP,oBS,UJ,show ((1:Int)==2)=false from rfl,oCF];rw[eJ Zj];exact Ok.ret ⟨_,_,_,rfl,hF'.setOpen (.inr ⟨by dsimp only;omega,[],by dsimp only;rw[oTN];exact iF Zy [],by dsimp only;omega,by simp⟩),by omega,by omega⟩
  ·simp only[oBF h1,oCF];rw[eJ ho];by_cases h2:mode=2
   ·subst h2;simp only[BEq.rfl,oCT,oBS,iF YQ,qk YQ];exact Ok.ret ⟨_,_,_,rfl,hF.setOpen (.inr ⟨by dsimp only;omega,x,by dsimp only;rw[oTN];exact hx,by dsimp only;omega,by dsimp only;omega⟩),by omega,by omega⟩
   ·simp only[oBF h2,oCF,oBS];exact Ok.ret ⟨_,_,_,rfl,hF.setOpen (.inr ⟨by dsimp only;omega,x,by dsimp only;rw[oTN];exact hx,by dsimp only;omega,by dsimp only;omega⟩),by omega,by omega⟩
theorem hJ(n:Int) (b:Bool):∃v,eE n b=some (0,v,0,0,(),-1,false,())/\W16 v:=by
 cases b with
 | true=>exact⟨_,rfl,om _⟩
 | false=>exact⟨_,rfl,om _⟩
theorem lN{ss:List Int}{v:Int}(h:W16 v):Pr ss (0,v,0,0):=.inl ⟨.inl rfl,rfl,rfl,h⟩
theorem PF{ss:List Int}{v:Int}(h:W16 v):Pr ss (2,v,0,0):=.inl ⟨.inr rfl,rfl,rfl,h⟩
theorem L1{ss:List Int}{us:List DOu}{sk:Int}{l:List DCn}(hu:us.length<=200) (ho:∀(i:Nat) x,us[i]?=some x->SG ss i x) (hl:l.length<=16) (VR:∀c∈l,Pr ss c) :
 Ok (pb us sk l) λr=>∃Uv n b,r=(Uv,n,b,())/\Uv.length<=200/\∀(i:Nat) x,Uv[i]?=some x->SG ss i x:=by
 have hc:kJ us=some (us,()):=G6 (by omega) λx hx=>by
  obtain⟨j,hj⟩:=List.getElem?_of_mem hx;have:=(ho j x hj).2.2.2.1;omega
 unfold pb;rw[hc];delta dQ;refine Ok.bind (P:=λr=>∃b:Bool,r=(us,sk,l,b,us,())/\(b=false->0<=sk/\sk < 2/\us.length < 200)) ?_ ?_
 ·(with_reducible refine dM (λZ'=>?_) λZ'=>?_)
  ·exact Ok.ret ⟨true,rfl,λh=>by cases h⟩
  (with_reducible refine dM (λZ3=>?_) λZ3=>?_)
  ·exact Ok.ret ⟨true,rfl,λh=>by cases h⟩
  (with_reducible refine dM (λhcc=>?_) λhcc=>?_)
  ·exact Ok.ret ⟨true,rfl,λh=>by cases h⟩
  exact Ok.ret ⟨_,rfl,λh=>⟨by omega,by omega,by omega⟩⟩
 rintro _ ⟨b,rfl,hb⟩;dsimp only
 cases b with
 | true=>exact Ok.ret ⟨_,_,_,rfl,hu,ho⟩
 | false=>
  obtain⟨s0,s1,hlt⟩:=hb rfl;simp only[oCF];refine dL (dY (by omega)) (dL (dY (by simp;omega)) ?_);refine Ok.ret ⟨_,_,_,rfl,by rw[fC];simp;omega,λi x hx=>?_⟩;simp at hx;rw[List.getElem?_append] at hx;split at hx
  ·exact ho i x hx
  ·rename_i hi;obtain⟨q,hq⟩:∃q,i - us.length=q:=⟨_,rfl⟩;rw[hq] at hx
   cases q with
   | zero=>
    have:x=((us.length:Int),sk,l):=by simp_all
    subst this;exact⟨by dsimp only;omega,s0,s1,hl,VR⟩
   | succ q=>simp at hx
theorem Fd{ss:List Int}{ins:List (List Int)}{sk n:Int}(hi:ins.length<=2) (h:∀x∈ins,x.length<=64/\∀w∈x,W16 w) (hn:0<=n/\n<=65535) :
 Ok (lf ins sk n) λr=>(∃Yr,r=.inl (Yr,(),false,())/\Yr.length<=2/\∀x∈Yr,x.length<=64/\∀w∈x,W16 w) \/
  (∃Yr l,r=.inr (Yr,l,true,())/\(Yr.length<=2/\∀x∈Yr,x.length<=64/\∀w∈x,W16 w)/\(l.length:Int)<=n/\l.length<=64/\∀c∈l,Pr ss c):=by
 unfold lf;rw[AS (by omega) (λx hx=>by have:=(h x hx).1;omega)];delta dQ;simp only[oBS];refine Ok.bind (P:=λr=>∃b:Bool,r=(ins,sk,n,b,ins,())/\(b=false->0<=sk/\sk < ins.length)) ?_ ?_
 ·(with_reducible refine dM (λZ'=>?_) λZ'=>?_)
  ·exact Ok.ret ⟨true,rfl,λh=>by cases h⟩
  (with_reducible refine dM (λZ3=>?_) λZ3=>?_)
  ·exact Ok.ret ⟨true,rfl,λh=>by cases h⟩
  exact Ok.ret ⟨_,rfl,λ_=>⟨by omega,by omega⟩⟩
 rintro _ ⟨b,rfl,hb⟩;dsimp only
 cases b with
 | true=>exact Ok.ret (Or.inl ⟨_,rfl,hi,h⟩)
 | false=>
 obtain⟨s0,s1⟩:=hb rfl;obtain⟨j,rfl⟩:∃j:Nat,sk=j:=⟨sk.toNat,by omega⟩;obtain⟨x,hx⟩:∃x,ins[j]?=some x:=⟨_,oGE (by omega)⟩;have Ws:dO ins j=some x:=hx;have hjl:=(oGS hx).1;obtain⟨UX,hxw⟩:=h x (dR hx);simp only[oCF,oBS,dP,Ws];obtain⟨m1,m2,m3⟩:=HN (a:=n) (b:=(x.length:Int));generalize mmR false n (x.length:Int)=k at m1 m2 m3;obtain⟨q,rfl⟩:∃q:Nat,k=q:=⟨k.toNat,by omega⟩;simp only[dP,oBS];refine dL (by unfold ir;simp;omega) ?_
 have hw:kU x 0 (Nat.sub q 0)=x.take q:=by unfold kU;rw[List.drop_zero];rfl
 have Vm:(x.take q).length=q:=by rw[oLT];omega
 rw[hw];simp only[Vm]
 have e:dW hU NN ((j:Int),(q:Int),x.take q,(q:Int),0,ins,[],())=some ((j:Int),(q:Int),x.take q,(q:Int),(q:Int),false,ins,(x.take q).map (λw=>(0,w,0,0)),()):=by
  have:=kO (f:=hU) (N:=NN) (st:=λi=>((j:Int),(q:Int),x.take q,(q:Int),(i:Int),ins,((x.take q).take i).map (λw=>((0:Int),w,(0:Int),(0:Int))),())) (n:=q) (t:=((j:Int),(q:Int),x.take q,(q:Int),(q:Int),false,ins,(x.take q).map (λw=>((0:Int),w,(0:Int),(0:Int))),())) (by unfold NN;omega) ?_ ?_
  ·exact this
  ·intro i hi;unfold hU;dsimp only;rw[oDT (show (i:Int) < q by omega),dP];simp only[oCT,oBS];refine Ok.get (by omega) λw hw=>?_;refine dL (dY (by simp;omega)) ?_;rw[dU (x:=(i:Int)+1) (by omega) (by omega)];refine Ok.ret ?_;rw[<- fT (λw=>((0:Int),w,(0:Int),(0:Int))) hw];rfl
  ·unfold hU;dsimp only;rw[oDF (show ¬ (q:Int) < q by omega)];refine Ok.ret ?_;rw[show (x.take q).take q=x.take q from List.take_of_length_le (by omega)]
 rw[e];simp only[dP,oBS,Ws];refine dL (by unfold ir;simp;omega) ?_;rw[eJ hx]
 have hd:∀c∈kU x q (Nat.sub x.length q),c∈x:=λc hc=>by
  unfold kU at hc;exact List.mem_of_mem_drop (List.mem_of_mem_take hc)
 have hdl:(kU x q (Nat.sub x.length q)).length<=64:=by
  unfold kU;rw[oLT,List.length_drop];omega
 refine Ok.ret (.inr ⟨_,_,rfl,⟨by rw[List.length_set];exact hi,jA h ⟨hdl,λw hw=>hxw w (hd w hw)⟩⟩,by rw[List.length_map,Vm];omega,by rw[List.length_map,Vm];omega,λc hc=>?_⟩);obtain⟨w,hw,rfl⟩:=List.mem_map.1 hc;exact lN (hxw w (List.mem_of_mem_take hw))
theorem Cj{n:Int}{ss:List Int}{i stop trap count pc call:Int}{args data:List DCn}(hs:xG ss) (h:Cc n ss i stop trap count pc call args data) (hn:n<=1099511627776):lp i stop trap count pc call args data=some (true,()):=by
 have ⟨⟨a1,a2⟩,⟨b1,b2⟩,⟨c1,c2⟩,⟨d1,d2⟩,⟨e1,e2⟩,⟨f1,f2⟩,⟨g1,g2⟩,⟨k1,k2⟩,_,_⟩:=h;refine fk ?_;unfold lp;rw[kQ hs g2 (by omega) (by omega),kQ hs k2 (by omega) (by omega)];refine dL (oDT a1) (dL (oDT (by omega)) (dL (oDT b1) (dL (oDT b2) (dL (oDT c1) (dL (oDT c2) (dL (oDT d1) (dL (oDT (by omega)) (dL (oDT e1) (dL (oDT e2) (dL (oDT f1) (dL (oDT f2) ?_)))))))))));exact Ok.ret rfl
theorem KE{n:Int}{ss:List Int}{i trap count pc call:Int}{args data:List DCn}(h:Cc n ss i 1 trap count pc call args data):nG i 1 trap count pc call args data=some (true,()):=by
 obtain⟨hl,hk⟩:=h.hkind rfl;obtain⟨b,eb,hb1,ZZ⟩:=Dn h.hcall;have h3:=MS call
 have e:dW i4 NN (b,args,(args.length:Int),0,i,1,trap,count,pc,call,args,data,())=some (.inr (b,args,(args.length:Int),(args.length:Int),false,i,1,trap,count,pc,call,args,data,())):=by
  refine kO (f:=i4) (N:=NN) (st:=λq=>(b,args,(args.length:Int),(q:Int),i,1,trap,count,pc,call,args,data,())) (n:=args.length) (by unfold NN;omega) ?_ ?_
  ·intro q hq;obtain⟨k,hkq⟩:∃k,(kB call)[q]?=some k:=⟨_,oGE (by omega)⟩;obtain⟨a,ha⟩:∃a,args[q]?=some a:=⟨_,oGE (by omega)⟩;unfold i4;dsimp only;rw[oDT (show (q:Int) < args.length by omega),dP];simp only[oCT,oBS,show dO args q=some a from ha,ZZ q,hkq,Nf,hk q k a hkq ha,oCF];rw[dU (x:=(q:Int)+1) (by omega) (by omega)];exact Ok.ret rfl
  ·unfold i4;dsimp only;rw[oDF (show ¬ (args.length:Int) < args.length by omega)];exact Ok.ret rfl
 unfold nG;delta dQ
 simp_all
def Rk(call:Int):Bool:=decide ((1<=call/\call<=7)\/call=13\/call=14)
theorem Rj{call:Int}(h:0<=call/\call<=15):sr call=some (Rk call,()):=by
 rcases xD h with rfl | rfl | rfl | rfl | rfl | rfl | rfl | rfl | rfl | rfl | rfl | rfl | rfl | rfl | rfl | rfl<;>rfl
structure S1 (ss:List Int) (t v r o:Int) (data:List DCn) (sp:Int) (w:Bool):Prop where
 val:Pr ss (t,v,r,o)
 dat:data.length<=64/\∀c∈data,Pr ss c
 spn:-1<=sp/\sp<=3
def DoP(ss:List Int) (r:(List (Int))×(List (Int))×(List (List (Int)))×(List (List DCn))×(List DOp)×(List DOu)×Int×Int×Int×Int×(List DCn)×Int×Bool×Int×Unit):Prop:=
 ∃ck rn ins d os us t v rg o data,r=(ck,rn,ins,d,os,us,t,v,rg,o,data,-1,false,0,())/\Bf ss ck rn ins d os us/\Pr ss (t,v,rg,o)/\data.length<=16/\∀c∈data,Pr ss c
theorem lS{ss:List Int}{ck rn:List Int}{ins:List (List Int)}{d:List (List DCn)}{os:List DOp}{us:List DOu}{t v rg o:Int}{data:List DCn}(h:Bf ss ck rn ins d os us) (hv:Pr ss (t,v,rg,o)) (hd:data.length<=16/\∀c∈data,Pr ss c) :
 Ok (some (ck,rn,ins,d,os,us,t,v,rg,o,data,(-1:Int),false,(0:Int),())) (DoP ss):=Ok.ret ⟨_,_,_,_,_,_,_,_,_,_,_,rfl,h,hv,hd⟩
theorem Pr.val{ss:List Int}{c:DCn}(h:Pr ss c):W16 c.2.1:=by
 rcases h with ⟨_,_,_,h⟩ | ⟨_,h,_⟩
 ·exact h
 ·rw[h];exact⟨by decide,by decide⟩
theorem Sg{n:Int}{ss:List Int}{i trap count pc call:Int}{args data:List DCn}(h:Cc n ss i 1 trap count pc call args data):t7 call=0\/t7 call=1\/(t7 call=2/\∃a,args[2]?=some a/\a.2.1<=16):=by
 by_cases h2:t7 call=2
 ·exact .inr (.inr ⟨h2,h.hbuf rfl h2⟩)
 ·have:t7 call=0\/t7 call=1\/t7 call=2:=by unfold t7;split<;>first | omega | (split<;>omega)
  omega
theorem zI{α:Type}{a b:Option α}{Q:α->Prop}(h:Ok a Q) (e:b=a):Ok b Q:=by simp_all
set_option maxHeartbeats 4000000 in
theorem Q5{n:Int}{ss:List Int}{ck rn:List Int}{ins:List (List Int)}{d:List (List DCn)}{os:List DOp}{us:List DOu}{i trap count pc call:Int}{args data:List DCn}(hs:xG ss) (hO:Bf ss ck rn ins d os us) (hR:Cc n ss i 1 trap count pc call args data)
 (ha:Rk call=true) (hn:n<=1099511627776):Ok (qe ck rn ins d os us i 1 trap count pc call args data) (DoP ss):=by
 have hc:=hR.hcall;have VH:=hR.hdata;have Wb:=hR.hargs;unfold qe;rw[wN hs hO,Cj hs hR hn,Rj hc,ha,KE hR,wJ hc];simp only[oBS,oNT,oCF,bne_self_eq_false];refine Ok.bind (P:=λr=>r=(false,ck,rn,ins,d,os,us,i,1,trap,count,pc,call,args,data,(),(),(),(),(),(),0,0,0,0,(),0,false,())) ?_ ?_
 ·rcases Sg hR with h | h | ⟨h,a,h2,h3⟩
  ·rw[h];exact Ok.ret rfl
  ·rw[h];exact Ok.ret rfl
  ·rw[h];simp only[BEq.rfl,oCT,show dO args 2=some a from h2,oBS];rw[oDF (show ¬ a.2.1 > 16 by omega)];exact Ok.ret rfl
 rintro _ rfl;dsimp only;delta dQ;simp only[oCF,GZ hO,oBS]
 refine Ok.loop (P:=λs'=>∃(k:Nat) (vs:List Int),s'=(args,(args.length:Int),(k:Int),ck,rn,ins,d,os,us,i,1,trap,count,pc,call,args,data,(),(),(),(),(),(),0,0,0,0,(),0,false,ck,rn,ins,d,os,us,vs,())/\k<=args.length/\vs.length=3/\(∀v∈vs,W16 v)/\∀(j:Nat) a,j < k->args[j]?=some a->vs[j]?=some a.2.1)
  (R:=λr=>∃(z:Int) (vs:List Int),r=(args,(args.length:Int),z,false,ck,rn,ins,d,os,us,i,1,trap,count,pc,call,args,data,(),(),(),(),(),(),0,0,0,0,(),0,false,ck,rn,ins,d,os,us,vs,())/\vs.length=3/\(∀v∈vs,W16 v)/\∀(j:Nat) a,args[j]?=some a->vs[j]?=some a.2.1) (m:=λs'=>(s'.2.1 - s'.2.2.1).toNat)
  ⟨0,[0,0,0],rfl,by omega,rfl,all_cons ⟨by decide,by decide⟩ (all_cons ⟨by decide,by decide⟩ (all_cons ⟨by decide,by decide⟩ eG)),λj a hj=>by omega⟩ (by unfold NN;dsimp only;omega) ?_ ?_
 ·rintro _ ⟨k,vs,rfl,hk,hv3,Ur,hva⟩;unfold vg;dsimp only
  (with_reducible refine dM (λZ'=>?_) λZ'=>?_)
  ·simp only[dP,oBS];refine Ok.get (by omega) λa hak=>?_;have hw:=(Wb.2 a (dR hak)).val;refine Ok.get (by omega) λv hv=>?_;refine Ok.get (by omega) λ_ _=>?_;rw[d8 (x:=a.2.1) (by have:=hw.1;omega) (by have:=hw.2;omega),dU (x:=(k:Int)+1) (by omega) (by omega),eJ hv];refine Ok.ret ⟨⟨k+1,_,rfl,by omega,by rw[List.length_set];exact hv3,jA Ur hw,λj a' hj Ub=>?_⟩,by dsimp only;omega⟩;by_cases e:k=j
   ·subst e;rw[hak] at Ub;cases Ub;exact iF (by omega) _
   ·rw[oh e];exact hva j a' (by omega) Ub
  ·refine Ok.ret ⟨_,vs,rfl,hv3,Ur,λj a Ub=>hva j a ?_ Ub⟩;have:=(oGS Ub).1;omega
 rintro _ ⟨z,vs,rfl,hv3,Ur,hva⟩;obtain⟨v0,T6,Yp⟩:=hJ 0 false
 obtain⟨a0,a1,a2,rfl⟩:∃a b c,vs=[a,b,c]:=by
  match vs,hv3 with
  | [a,b,c],_=>exact⟨a,b,c,rfl⟩
 have w0:W16 a0:=Ur a0 (by simp);have w1:W16 a1:=Ur a1 (by simp);have w2:W16 a2:=Ur a2 (by simp);have g0:dO [a0,a1,a2] 0=some a0:=rfl;have g1:dO [a0,a1,a2] 1=some a1:=rfl;have g2:dO [a0,a1,a2] 2=some a2:=rfl
 have a2le:t7 call=2->a2<=16:=λh=>by
  obtain⟨a,h2,h3⟩:=hR.hbuf rfl h;have:=hva 2 a h2
  have:a2=a.2.1:=by simpa using this
  omega
 have ZB:([]:List DCn).length<=16/\∀c∈([]:List DCn),Pr ss c:=⟨by decide,eG⟩;dsimp only;simp only[T6,oBS,g0,g1,g2];rcases xD hc with rfl | rfl | rfl | rfl | rfl | rfl | rfl | rfl | rfl | rfl | rfl | rfl | rfl | rfl | rfl | rfl
 all_goals first | (exact absurd ha (by decide)) | simp only[Int.reduceBEq,oCT,oCF]
 ·obtain⟨_,e,d1,Uu,m,b,rfl,hF,_⟩:=JW (h:=a0) hs hO.files VH.1 VH.2;obtain⟨v,ev,hv⟩:=hJ m b;simp only[e,ev,oBS];exact lS ⟨hO.clock,hO.rand,hO.ilen,hO.inp,hF,hO.ulen,hO.outs⟩ (lN hv) ZB
 ·have X8:=a2le rfl;obtain⟨_,e,hr⟩:=Mi (h:=a0) (n:=a2) hO.files w2;rcases hr with ⟨d1,Uu,rfl,hF⟩ | ⟨d1,Uu,l,rfl,hF,hl,_,VR⟩
  ·simp only[e,T6,oBS];exact lS ⟨hO.clock,hO.rand,hO.ilen,hO.inp,hF,hO.ulen,hO.outs⟩ (lN Yp) ZB
  ·obtain⟨v,ev,hv⟩:=hJ (l.length:Int) true;simp only[e,ev,oBS];exact lS ⟨hO.clock,hO.rand,hO.ilen,hO.inp,hF,hO.ulen,hO.outs⟩ (lN hv) ⟨by omega,VR⟩
 ·obtain⟨_,e,d1,Uu,h,rfl,hF,h0,h7⟩:=OD (file:=a0) (mode:=a1) hO.files;simp only[e,oBS];have VX:Bf ss ck rn ins d1 Uu us:=⟨hO.clock,hO.rand,hO.ilen,hO.inp,hF,hO.ulen,hO.outs⟩;by_cases hh:h>=0
  ·simp only[oDT hh,oCT];exact lS VX (PF (om _)) ZB
  ·simp only[oDF hh,oCF];exact lS VX (lN Yp) ZB
 ·obtain⟨_,e,d1,Uu,b,rfl,hF⟩:=K1 (h:=a0) hO.files;obtain⟨v,ev,hv⟩:=hJ 0 b;simp only[e,ev,oBS];exact lS ⟨hO.clock,hO.rand,hO.ilen,hO.inp,hF,hO.ulen,hO.outs⟩ (lN hv) ZB
 ·obtain⟨_,e,d1,Uu,b,rfl,hF⟩:=L3 (h:=a0) (n:=a1) hO.files;obtain⟨v,ev,hv⟩:=hJ 0 b;simp only[e,ev,oBS];exact lS ⟨hO.clock,hO.rand,hO.ilen,hO.inp,hF,hO.ulen,hO.outs⟩ (lN hv) ZB
 ·cases ck with
  | nil=>exact lS hO (lN Yp) ZB
  | cons x ck=>
   obtain⟨v,ev,hv⟩:=hJ (wk .i64 x) true
   have hw:kU (x :: ck) 1 (Nat.sub (x :: ck).length 1)=ck:=by unfold kU;simp
   refine zI (lS (ck:=ck) ⟨⟨by have:=hO.clock.1;simp at this;omega,λw hw=>hO.clock.2 w (by simp[hw])⟩,hO.rand,hO.ilen,hO.inp,hO.files,hO.ulen,hO.outs⟩ (lN hv) ZB) ?_;simp only[oLC,show dO (x :: ck) 0=some x from rfl,oBS,ev];have hd:∀inst:Decidable (((ck.length+1:Nat):Int) > 0),@decide _ inst=true:=λinst=>oDT (by omega);rw[oLC] at hw;rw[hd,show ir 1 (ck.length+1) (ck.length+1)=true by unfold ir;simp,hw];rfl
 ·cases rn with
  | nil=>exact lS hO (lN Yp) ZB
  | cons x rn=>
   obtain⟨v,ev,hv⟩:=hJ (wk .i64 x) true
   have hw:kU (x :: rn) 1 (Nat.sub (x :: rn).length 1)=rn:=by unfold kU;simp
   refine zI (lS (rn:=rn) ⟨hO.clock,⟨by have:=hO.rand.1;simp at this;omega,λw hw=>hO.rand.2 w (by simp[hw])⟩,hO.ilen,hO.inp,hO.files,hO.ulen,hO.outs⟩ (lN hv) ZB) ?_;simp only[oLC,show dO (x :: rn) 0=some x from rfl,oBS,ev];have hd:∀inst:Decidable (((rn.length+1:Nat):Int) > 0),@decide _ inst=true:=λinst=>oDT (by omega);rw[oLC] at hw;rw[hd,show ir 1 (rn.length+1) (rn.length+1)=true by unfold ir;simp,hw];rfl
 ·obtain⟨_,e,us1,m,b,rfl,hu,ho⟩:=L1 (sk:=a0) hO.ulen hO.outs VH.1 VH.2;obtain⟨v,ev,hv⟩:=hJ m b;simp only[e,ev,oBS];exact lS ⟨hO.clock,hO.rand,hO.ilen,hO.inp,hO.files,hu,ho⟩ (lN hv) ZB
 ·have X8:=a2le rfl;obtain⟨_,e,hr⟩:=Fd (ss:=ss) (sk:=a0) (n:=a2) hO.ilen hO.inp w2;rcases hr with ⟨in1,rfl,WX,Xs⟩ | ⟨in1,l,rfl,⟨WX,Xs⟩,hl,_,VR⟩
  ·simp only[e,T6,oBS];exact lS ⟨hO.clock,hO.rand,WX,Xs,hO.files,hO.ulen,hO.outs⟩ (lN Yp) ZB
  ·obtain⟨v,ev,hv⟩:=hJ (l.length:Int) true;simp only[e,ev,oBS];exact lS ⟨hO.clock,hO.rand,WX,Xs,hO.files,hO.ulen,hO.outs⟩ (lN hv) ⟨by omega,VR⟩
def rY(bs:List Int) (key:Int) (c:DCn):DCe:=if c.1=0 then (0,c.2.1) else if c.1=2 then (2,wk .u16 (c.2.1+key)) else (1,wk .u16 (bs.getD c.2.2.1.toNat 0+c.2.2.2))
theorem Df{bs ss:List Int}(h:LV bs ss) {r o n:Int}(h1:0<=r) (h2:ss[r.toNat]?=some n) (h3:0<=o) (h4:o < n):∃b,bs[r.toNat]?=some b/\0<=b+o/\b+o < 512/\b<=b+o/\b+o < b+n:=by
 have ⟨hs,hl,hr⟩:=h;have hj:=(oGS h2).1;have ⟨b,hb⟩:∃b,bs[r.toNat]?=some b:=⟨_,oGE (by omega)⟩;have V1:=hr r.toNat (by omega);unfold p6 at V1;rw[ef hb,ef h2] at V1;exact⟨b,hb,by omega,by omega,by omega,by omega⟩
theorem vp{bs ss:List Int}{key:Int}{c:DCn}(h:LV bs ss) (hc:Pr ss c):ii bs key ss c.1 c.2.1 c.2.2.1 c.2.2.2=some ((rY bs key c).1,(rY bs key c).2,0,())/\oQ (RK bs ss) (rY bs key c):=by
 unfold ii rY;rw[kF hc];rcases hc with ⟨h1 | h1,h2,h3,h4⟩ | ⟨h1,h2,h3,n,h5,h6,h7⟩
 ·rw[h1];exact⟨rfl,nd h4⟩
 ·rw[h1];exact⟨rfl,(show (0:Int)<=2 by decide),(show (2:Int)<=2 by decide),(om _).1,(om _).2,λe=>absurd (show (2:Int)=1 from e) (by decide)⟩
 ·obtain⟨b,hb,b0,b1,b2,b3⟩:=Df h h3 h5 h6 h7;obtain⟨j,hj⟩:∃j:Nat,c.2.2.1=j:=⟨c.2.2.1.toNat,by omega⟩;rw[hj] at hb h5 ⊢;rw[h1,ef hb];simp[Int.reduceBEq,Int.reduceEq,oCF,if_false,dP,oBS,show dO bs j=some b from hb];rw[dU (by omega) (by omega),eu (by omega) (by omega)];exact⟨rfl,by omega,by omega,by omega,by omega,λ_=>⟨j,b,n,hb,h5,b2,b3⟩⟩
theorem La{bs ss:List Int}{key r o n:Int}(h:LV bs ss) (h1:0<=r) (h2:ss[r.toNat]?=some n) (h3:0<=o) (h4:o < n):∃a,lD bs key ss r o=some (a,0,())/\0<=a/\a < 512/\a=bs.getD r.toNat 0+o:=by
 have ⟨b,hb,b0,b1,_⟩:=Df h h1 h2 h3 h4;obtain⟨j,rfl⟩:∃j:Nat,r=j:=⟨r.toNat,by omega⟩;unfold lD;rw[FY h1 h2 h3 h4];simp[dP,show dO bs j=some b from hb];rw[dU (by omega) (by omega)]
 simp_all
theorem OI(pc t v:Int):qV pc t v=some (1,[(t,v),(0,0),(0,0),(0,0),(0,0),(0,0),(0,0),(0,0)],pc,0,-1,-1,0,0,()):=rfl
def S2(n key:Int) (ss bs:List Int) (r:Bool×(List (Int))×Int×(List DCe)×(List DLn)×(List DTh)×Unit):Prop:=∃b Z4 Z1 Zp,r=(b,bs,key,Z4,Z1,Zp,())/\(b=true->MOk n ss bs Z4 Z1 Zp)
theorem zX{n key:Int}{ss bs:List Int}{cs:List DCe}{ls:List DLn}{ts:List DTh}:Ok (some (false,bs,key,cs,ls,ts,())) (S2 n key ss bs):=Ok.ret ⟨_,_,_,_,rfl,λh=>by cases h⟩
theorem so{n key ct cv:Int}{ss bs:List Int}{cs:List DCe}{ls:List DLn}{ts:List DTh}{i:Nat}(h:MOk n ss bs cs ls ts) (hi:i < 4) (hc:oQ (RK bs ss) (ct,cv)) :
 Ok ((dO ts i).bind λ_=>(dO ts i).bind λx75=>(dO x75.2.1 0).bind λ_=>(dO ts i).bind λx77=>(dO x77.2.1 0).bind λ_=>(dO (List.modify ts i λe=>(e.1,((List.modify e.2.1 0 λ_=>(ct,cv)),e.2.2))) i).bind λ_=>
  some (true,bs,key,cs,ls,List.modify (List.modify ts i λe=>(e.1,((List.modify e.2.1 0 λ_=>(ct,cv)),e.2.2))) i λe=>((1:Int),e.2),())) (S2 n key ss bs):=by
 have Xz:=h.tlen;have ⟨t,ht⟩:∃t,ts[i]?=some t:=⟨_,oGE (by omega)⟩;have hg:dO ts i=some t:=ht;have YQ:=(oGS ht).1;have hok:=h.thr t (dR ht);have ⟨c,hc0⟩:∃c,t.2.1[0]?=some c:=⟨_,oGE (by have:=hok.len;omega)⟩;simp[hg,show dO t.2.1 0=some c from hc0,eJ ht,eJ hc0,iF YQ,qk YQ];exact Ok.ret ⟨_,_,_,_,rfl,λ_=>h.set h.mem ⟨⟨show (0:Int)<=1 by decide,show (1:Int)<=4 by decide⟩,by dsimp only;rw[List.length_set];exact hok.len,jA hok.regs hc,hok.pc,hok.count,hok.handler,hok.saved,hok.trap,hok.code⟩⟩
theorem J0{K:Int->Prop}{n pc:Int}{rs:List DCe}(hl:rs.length=8) (hr:∀c∈rs,oQ K c) (hp:0<=pc/\pc<=255) (hn:0<=n):Be K n (1,rs,pc,0,-1,-1,0,0):=
 ⟨⟨show (0:Int)<=1 by decide,show (1:Int)<=4 by decide⟩,hl,hr,hp,⟨show (0:Int)<=0 by decide,hn⟩,⟨show (-1:Int)<=-1 by decide,show (-1:Int)<=255 by decide⟩,⟨show (-1:Int)<=-1 by decide,show (-1:Int)<=255 by decide⟩,⟨show (0:Int)<=0 by decide,show (0:Int)<=6 by decide⟩,⟨show (0:Int)<=0 by decide,show (0:Int)<=65535 by decide⟩⟩
theorem MOk.mk_mem{n:Int}{ss bs:List Int}{cs Z4:List DCe}{ls Z1:List DLn}{ts:List DTh}(h:MOk n ss bs cs ls ts) (hm:kV (RK bs ss) Z4 Z1):MOk n ss bs Z4 Z1 ts:=⟨h.lay,hm,h.tlen,h.thr⟩
set_option maxHeartbeats 4000000 in
theorem Ox{n m key:Int}{code:List DIn}{ss bs:List Int}{dd:List (List Int)}{cs:List DCe}{ls:List DLn}{ts:List DTh}{i:Nat}{trap count pc call:Int}{args data:List DCn}{t v rg o sp:Int}{dat:List DCn}{w:Bool}(h:MOk n ss bs cs ls ts) (hi:i < 4)
 (hR:Cc m ss (i:Int) 1 trap count pc call args data) (hv:Pr ss (t,v,rg,o)) (hd:dat.length<=16/\∀c∈dat,Pr ss c) (ZC:-1<=sp/\sp<=3) :
 Ok (qR code ss dd (i:Int) 1 trap count pc call args data t v rg o dat sp w bs key cs ls ts) (S2 n key ss bs):=by
 have hL:=h.lay;have Xz:=h.tlen;obtain⟨YR,XE⟩:=hR.hkind rfl;have hargs:=hR.hargs;obtain⟨VY,Yx⟩:=vp (key:=key) hL hv;obtain⟨th,Ya⟩:∃th,ts[i]?=some th:=⟨_,oGE (by omega)⟩;have hok:=h.thr th (dR Ya);have hc0:=hok.count;have YQ:=(oGS Ya).1;dsimp only at VY;unfold qR;delta dQ;rw[dP,VY,wJ hR.hcall];simp only[oBS,bne_self_eq_false,oCF];refine Ok.get YQ λ_ _=>?_;have ZY:=so (key:=key) (ct:=(rY bs key (t,v,rg,o)).1) (cv:=(rY bs key (t,v,rg,o)).2) h hi Yx
 have buf:t7 call=2->dat.length > 0->∃a:DCn,args[1]?=some a/\Pr ss a/\a.1=1/\∃y,dW mD NN (i,dat,(dat.length:Int),0,bs,key,cs,ls,ts,code,ss,dd,(i:Int),1,trap,count,pc,call,args,data,t,v,rg,o,dat,sp,w,(rY bs key (t,v,rg,o)).1,(rY bs key (t,v,rg,o)).2,a.2.2.1,a.2.2.2,())=some y /\
  ((∃Z4 Z1,y=.inl (false,bs,key,Z4,Z1,ts,()))\/(∃Z4 Z1 z f,y=.inr (i,dat,(dat.length:Int),z,false,bs,key,Z4,Z1,ts,code,ss,dd,(i:Int),1,trap,count,pc,call,args,data,t,v,rg,o,dat,sp,w,(rY bs key (t,v,rg,o)).1,(rY bs key (t,v,rg,o)).2,a.2.2.1,f,())/\kV (RK bs ss) Z4 Z1)):=by
  intro hb ZT
  have hkk:(kB call)[1]?=some 80:=by
   have:call=2\/call=14:=by unfold t7 at hb;split at hb<;>first | omega | (split at hb<;>omega)
   rcases this with rfl | rfl<;>rfl
  have Xt:=(oGS hkk).1;obtain⟨a,ha⟩:∃a,args[1]?=some a:=⟨_,oGE (by omega)⟩;have Wb:=hargs.2 a (dR ha);have ZQ:=XE 1 80 a hkk ha
  have XC:a.1=1:=by unfold O7 at ZQ;simpa using ZQ
  have ha32:0<=a.2.2.2/\a.2.2.2<=32:=by
   rcases Wb with ⟨g,_⟩ | ⟨_,_,_,z,g1,g2,g3⟩
   ·omega
   ·have:=hL.1.2.2 z (dR g1);omega
  refine⟨a,ha,Wb,XC,?_⟩
  refine gK (f:=mD) (n:=NN) (P:=λs'=>∃k:Nat,∃Z4 Z1,s'=(i,dat,(dat.length:Int),(k:Int),bs,key,Z4,Z1,ts,code,ss,dd,(i:Int),1,trap,count,pc,call,args,data,t,v,rg,o,dat,sp,w,(rY bs key (t,v,rg,o)).1,(rY bs key (t,v,rg,o)).2,a.2.2.1,a.2.2.2+k,())/\k<=dat.length/\kV (RK bs ss) Z4 Z1)
   (R:=λy=>(∃Z4 Z1,y=.inl (false,bs,key,Z4,Z1,ts,()))\/(∃Z4 Z1 z f,y=.inr (i,dat,(dat.length:Int),z,false,bs,key,Z4,Z1,ts,code,ss,dd,(i:Int),1,trap,count,pc,call,args,data,t,v,rg,o,dat,sp,w,(rY bs key (t,v,rg,o)).1,(rY bs key (t,v,rg,o)).2,a.2.2.1,f,())/\kV (RK bs ss) Z4 Z1))
   (m:=λs'=>(s'.2.2.1 - s'.2.2.2.1).toNat) ⟨0,cs,ls,by simp,by omega,h.mem⟩ (by unfold NN;dsimp only;omega) ?_
  rintro _ ⟨k,Z4,Z1,rfl,hk,hm⟩;unfold mD;dsimp only
  (with_reducible refine dM (λZ'=>?_) λZ'=>?_)
  ·rw[dP];simp only[oBS];refine Ok.get (by omega) λc hc=>?_;obtain⟨Z8,Yj⟩:=vp (key:=key) hL (hd.2 c (dR hc));rw[Z8];simp only[oBS,bne_self_eq_false,oCF];refine CH.bind ?_;rintro⟨q,_⟩ hin;dsimp only at hin ⊢
   (with_reducible refine dM (λZ3=>?_) λZ3=>?_)
   ·exact Ok.ret (.inl ⟨_,_,rfl⟩)
   ·obtain⟨g1,g2,z,g3,g4⟩:=hin Z3;obtain⟨ad,ea,a0,a1,_⟩:=La (key:=key) hL g1 g3 g2 g4;rw[ea];simp only[oBS];refine (Cn hm ⟨a0,a1⟩ Yj).bind ?_;rintro _ ⟨Vx,V9,rfl,hm2⟩;dsimp only;rw[dU (x:=a.2.2.2+k+1) (by omega) (by omega),dU (x:=(k:Int)+1) (by omega) (by omega)];exact Ok.ret ⟨⟨k+1,_,_,by rw[show a.2.2.2+((k+1:Nat):Int)=a.2.2.2+k+1 by omega];rfl,by omega,hm2⟩,by dsimp only;omega⟩
  ·exact Ok.ret (.inr ⟨_,_,_,_,rfl,hm⟩)
 rcases xD hR.hcall with rfl | rfl | rfl | rfl | rfl | rfl | rfl | rfl | rfl | rfl | rfl | rfl | rfl | rfl | rfl | rfl
 case inr.inr.inl=>
  simp only[show ((t7 2)==2)=true from rfl,oCT];by_cases ZT:dat.length > 0
  ·obtain⟨a,ha,Wb,XC,y,ey,hy⟩:=buf rfl ZT;simp only[oDT (show ((dat.length:Nat):Int) > 0 by omega),oCT,show dO args 1=some a from ha,oBS,kF Wb,oNT,oCF,bne_eq_false_iff_eq.2 XC,ey];rcases hy with ⟨Z4,Z1,rfl⟩ | ⟨Z4,Z1,z,f,rfl,hm⟩
   ·exact zX
   ·simp only[Int.reduceBEq,oCF];exact so (h.mk_mem hm) hi Yx
  ·simp only[oDF (show ¬ ((dat.length:Nat):Int) > 0 by omega),oCF,Int.reduceBEq];exact ZY
 case inr.inr.inr.inr.inr.inr.inr.inr.inr.inr.inr.inr.inr.inr.inl=>
  simp only[show ((t7 14)==2)=true from rfl,oCT];by_cases ZT:dat.length > 0
  ·obtain⟨a,ha,Wb,XC,y,ey,hy⟩:=buf rfl ZT;simp only[oDT (show ((dat.length:Nat):Int) > 0 by omega),oCT,show dO args 1=some a from ha,oBS,kF Wb,oNT,oCF,bne_eq_false_iff_eq.2 XC,ey];rcases hy with ⟨Z4,Z1,rfl⟩ | ⟨Z4,Z1,z,f,rfl,hm⟩
   ·exact zX
   ·simp only[Int.reduceBEq,oCF];exact so (h.mk_mem hm) hi Yx
  ·simp only[oDF (show ¬ ((dat.length:Nat):Int) > 0 by omega),oCF,Int.reduceBEq];exact ZY
 case inr.inr.inr.inr.inr.inr.inr.inr.inr.inr.inr.inr.inl=>
  obtain⟨a,ha⟩:∃a,args[0]?=some a:=⟨_,oGE (by rw[YR];decide)⟩;have hva:=(hargs.2 a (dR ha)).val;simp only[show ((t7 12)==2)=false from rfl,oCF,Int.reduceBEq,oCT,show dO args 0=some a from ha,oBS];rw[d8 (x:=a.2.1) (by have:=hva.1;omega) (by have:=hva.2;omega)];by_cases h1:a.2.1 > 255
  ·simp only[oDT h1,oCT];exact zX
  by_cases h2:a.1=0
  ·simp only[oDF h1,oCF,bne_eq_false_iff_eq.2 h2,show dO ts i=some th from Ya,oBS,eJ Ya];exact so (h.set h.mem ⟨hok.state,hok.len,hok.regs,hok.pc,hok.count,⟨by dsimp only;have:=hva.1;omega,by dsimp only;omega⟩,hok.saved,hok.trap,hok.code⟩) hi Yx
  ·simp only[oDF h1,oCF,bne_iff_ne.2 h2,oCT];exact zX
 case inr.inr.inr.inr.inr.inr.inr.inr.inr.inr.inl=>
  obtain⟨a,ha⟩:∃a,args[0]?=some a:=⟨_,oGE (by rw[YR];decide)⟩;obtain⟨c,hc⟩:∃c,args[1]?=some c:=⟨_,oGE (by rw[YR];decide)⟩;have hva:=(hargs.2 a (dR ha)).val;obtain⟨Z8,Yj⟩:=vp (key:=key) hL (hargs.2 c (dR hc));simp only[show ((t7 10)==2)=false from rfl,oCF,Int.reduceBEq,oCT];by_cases hsp0:sp>=0
  ·obtain⟨j,rfl⟩:∃j:Nat,sp=j:=⟨sp.toNat,by omega⟩;obtain⟨tj,htj⟩:∃tj,ts[j]?=some tj:=⟨_,oGE (by omega)⟩;simp only[oDT hsp0,oCT,show dO args 0=some a from ha,show dO args 1=some c from hc,oBS,Z8,bne_self_eq_false,oCF,dP,show dO ts j=some tj from htj];rw[d8 (x:=a.2.1) (by have:=hva.1;omega) (by have:=hva.2;omega)];by_cases h0:tj.1=0
   ·by_cases h1:a.2.1 > 255
    ·simp only[bne_eq_false_iff_eq.2 h0,oCF,oDT h1,oCT,oBS];exact zX
    by_cases h2:a.1=0
    ·simp only[bne_eq_false_iff_eq.2 h0,oDF h1,oCF,bne_eq_false_iff_eq.2 h2,oBS,show dO args 0=some a from ha,d8 (x:=a.2.1) (by have:=hva.1;omega) (by have:=hva.2;omega),OI,dP,show dO ts j=some tj from htj,eJ htj];refine so (h.set h.mem (J0 rfl (all_cons Yj ?_) ⟨hva.1,by omega⟩ (by omega))) hi Yx;exact all_cons (nd (by decide)) (all_cons (nd (by decide)) (all_cons (nd (by decide)) (all_cons (nd (by decide)) (all_cons (nd (by decide)) (all_cons (nd (by decide)) (all_cons (nd (by decide)) eG))))))
    ·simp only[bne_eq_false_iff_eq.2 h0,oDF h1,oCF,bne_iff_ne.2 h2,oCT,oBS];exact zX
   ·simp only[bne_iff_ne.2 h0,oCT,oBS];exact zX
  ·simp only[oDF hsp0,oCF];exact ZY
 all_goals
  simp only[show ((t7 0)==2)=false from rfl,show ((t7 1)==2)=false from rfl,show ((t7 3)==2)=false from rfl,show ((t7 4)==2)=false from rfl,show ((t7 5)==2)=false from rfl,show ((t7 6)==2)=false from rfl,show ((t7 7)==2)=false from rfl,
   show ((t7 8)==2)=false from rfl,show ((t7 9)==2)=false from rfl,show ((t7 11)==2)=false from rfl,show ((t7 13)==2)=false from rfl,show ((t7 15)==2)=false from rfl,oCF,Int.reduceBEq]
  exact ZY
theorem Ci{ss:List Int}{t v rg o sp:Int}{dat:List DCn}{w:Bool}(hs:xG ss) (hv:Pr ss (t,v,rg,o)) (hd:dat.length<=16/\∀c∈dat,Pr ss c) (ZC:-1<=sp/\sp<=3):lk t v rg o dat sp w=some (true,()):=by
 refine fk ?_;unfold lk;rw[show iM t v rg o=some (true,()) from Hb hs hv,kQ hs hd.2 (by omega) (by omega)];refine dL (oDT ZC.1) ?_;exact Ok.ret (by rw[oDT (show sp < 4 by omega)])
theorem Sp{n m key:Int}{code:List DIn}{ss bs:List Int}{dd:List (List Int)}{cs:List DCe}{ls:List DLn}{ts:List DTh}{i:Nat}{trap count pc call:Int}{args data:List DCn}{t v rg o sp:Int}{dat:List DCn}{w:Bool}(hp:jE code ss dd) (h:MOk n ss bs cs ls ts) (hi:i < 4)
 (hn:n<=1099511627776) (hm:m<=1099511627776) (hR:Cc m ss (i:Int) 1 trap count pc call args data) (hv:Pr ss (t,v,rg,o)) (hd:dat.length<=16/\∀c∈dat,Pr ss c) (ZC:-1<=sp/\sp<=3) :
 Ok (qT code ss dd bs key cs ls ts (i:Int) 1 trap count pc call args data t v rg o dat sp w) λr=>∃Z4 Z1 Zp b,r=(bs,key,Z4,Z1,Zp,b,())/\MOk n ss bs Z4 Z1 Zp:=by
 have Xz:=h.tlen;obtain⟨YR,XE⟩:=hR.hkind rfl;obtain⟨th,Ya⟩:∃th,ts[i]?=some th:=⟨_,oGE (by omega)⟩;have hok:=h.thr th (dR Ya)
 have YQ:=by omega
 have hg:dO ts i=some th:=Ya;unfold qT;delta dQ;rw[wO hp h hn,Cj hp.sz hR hm,yN hR.hcall,Ci hp.sz hv hd ZC,YR];simp only[oBS,oNT,oCF,bne_self_eq_false,dP,hg];by_cases h2:th.1=2
 ·simp only[bne_eq_false_iff_eq.2 h2,oCF,vW h,oBS,dP,hg];by_cases hc0:call=0
  ·subst hc0;obtain⟨a,ha⟩:∃a,args[0]?=some a:=⟨_,oGE (by rw[YR];decide)⟩;have hva:=(hR.hargs.2 a (dR ha)).val;simp only[BEq.rfl,oCT,show dO args 0=some a from ha,oBS];unfold ou mE;rw[dY (show 4<=1000/\0+th.2.1.length<=1000000 by have:=hok.len;omega)];simp only[oCT,oBS,eJ Ya];exact Ok.ret ⟨_,_,_,_,rfl,h.set h.mem ⟨⟨show (0:Int)<=4 by decide,show (4:Int)<=4 by decide⟩,by dsimp only;rw[fC];simpa using hok.len,jZ eG hok.regs,hok.pc,hok.count,hok.handler,hok.saved,⟨show (0:Int)<=0 by decide,show (0:Int)<=6 by decide⟩,hva⟩⟩
  ·simp only[oBF hc0,oCF]
   cases w with
   | true=>
    simp only[oCT,eJ Ya];exact Ok.ret ⟨_,_,_,_,rfl,h.set h.mem ⟨⟨show (0:Int)<=3 by decide,show (3:Int)<=4 by decide⟩,hok.len,hok.regs,hok.pc,hok.count,hok.handler,hok.saved,hok.trap,hok.code⟩⟩
   | false=>
    refine (Ox h hi hR hv hd ZC).bind ?_;rintro _ ⟨b,Z4,Z1,Zp,rfl,hb⟩;dsimp only
    cases b with
    | true=>exact Ok.ret ⟨_,_,_,_,rfl,hb rfl⟩
    | false=>exact Ok.ret ⟨_,_,_,_,rfl,h⟩
 ·simp only[bne_iff_ne.2 h2,oCT];exact Ok.ret ⟨_,_,_,_,rfl,h⟩
theorem Nz{n key:Int}{code:List DIn}{ss bs:List Int}{dd:List (List Int)}{cs:List DCe}{ls:List DLn}{ts:List DTh}{i t v rg o sp:Int}{dat:List DCn}{w:Bool}(hp:jE code ss dd) (h:MOk n ss bs cs ls ts)
 (hn:n<=1099511627776) (hv:Pr ss (t,v,rg,o)) (hd:dat.length<=16/\∀c∈dat,Pr ss c) (ZC:-1<=sp/\sp<=3) :
 Ok (mW code ss dd bs key cs ls ts i t v rg o dat sp w) λr=>∃Z4 Z1 Zp b,r=(bs,key,Z4,Z1,Zp,b,())/\MOk n ss bs Z4 Z1 Zp:=by
 have Xz:=h.tlen;obtain⟨VY,Yx⟩:=vp (key:=key) h.lay hv;unfold mW;rw[wO hp h hn,Ci hp.sz hv hd ZC];simp only[oBS,oNT,oCF];by_cases h1:i < 0
 ·simp only[oDT h1,oCT];exact Ok.ret ⟨_,_,_,_,rfl,h⟩
 by_cases h2:i>=4
 ·simp only[oDF h1,oDT h2,oCT,oCF,oBS];exact Ok.ret ⟨_,_,_,_,rfl,h⟩
 obtain⟨i,rfl⟩:∃k:Nat,i=k:=⟨i.toNat,by omega⟩;obtain⟨th,Ya⟩:∃th,ts[i]?=some th:=⟨_,oGE (by omega)⟩;have hok:=h.thr th (dR Ya);have YQ:=(oGS Ya).1;have hg:dO ts i=some th:=Ya;obtain⟨c,hc0⟩:∃c,th.2.1[0]?=some c:=⟨_,oGE (by have:=hok.len;omega)⟩;simp only[oDF h1,oDF h2,oCF,dP,oBS,hg];by_cases h3:th.1=3
 ·simp only[bne_eq_false_iff_eq.2 h3,oCF,VY,oBS,bne_self_eq_false,vW h,dP,hg,show dO th.2.1 0=some c from hc0,eJ Ya,eJ hc0,iF YQ,qk YQ];exact Ok.ret ⟨_,_,_,_,rfl,h.set h.mem ⟨⟨show (0:Int)<=1 by decide,show (1:Int)<=4 by decide⟩,by dsimp only;rw[List.length_set];exact hok.len,jA hok.regs Yx,hok.pc,hok.count,hok.handler,hok.saved,hok.trap,hok.code⟩⟩
 ·simp only[bne_iff_ne.2 h3,oCT];exact Ok.ret ⟨_,_,_,_,rfl,h⟩
structure kI (n:Int) (q:Nat) (code:List DIn) (ss:List Int) (dt:List (List Int)) (bs:List Int) (cs:List DCe) (ls:List DLn) (ts:List DTh) (ck rn:List Int) (ins:List (List Int)) (d:List (List DCn)) (os:List DOp) (us:List DOu) (ow:List Int) (qs:List (List Int)) (rec:List DEn) (js:List Int):Prop where
 prog:jE code ss dt
 mach:MOk n ss bs cs ls ts
 outs:Bf ss ck rn ins d os us
 lock:jF ow qs
 rlen:rec.length<=q
 jlen:js.length=4
def S0(n key:Int) (q:Nat) (code:List DIn) (ss:List Int) (dt:List (List Int)) (bs:List Int) (r:(List DIn)×(List (Int))×(List (List (Int)))×(List (Int))×Int×(List DCe)×(List DLn)×(List DTh)×(List (Int))×(List (Int))×(List (List (Int)))×(List (List DCn))×(List DOp)×(List DOu)×(List (Int))×(List (List (Int)))×(List DEn)×(List (Int))×Unit):Prop:=
 ∃cs ls ts ck rn ins d os us ow qs rec js,r=(code,ss,dt,bs,key,cs,ls,ts,ck,rn,ins,d,os,us,ow,qs,rec,js,())/\kI n q code ss dt bs cs ls ts ck rn ins d os us ow qs rec js
theorem Lh{n:Int}{q:Nat}{code:List DIn}{ss:List Int}{dt:List (List Int)}{bs:List Int}{key:Int}{cs:List DCe}{ls:List DLn}{ts:List DTh}{ck rn:List Int}{ins:List (List Int)}{d:List (List DCn)}{os:List DOp}{us:List DOu}{ow:List Int}{qs:List (List Int)}{rec:List DEn}{js:List Int}{i v:Int}(h:kI n q code ss dt bs cs ls ts ck rn ins d os us ow qs rec js) (hn:n<=1099511627776) (hq:q<=900) (hv:W16 v) :
 Ok (o8 i v code ss dt bs key cs ls ts ck rn ins d os us ow qs rec js) (S0 n key (q+1) code ss dt bs):=by
 unfold o8;rw[d8 (by have:=hv.1;omega) (by have:=hv.2;omega)];have ⟨v2,ev,WR⟩:=hJ v true;simp[ev];refine (Nz h.prog h.mach hn (lN WR) ⟨by decide,eG⟩ (by decide)).bind ?_;rintro _ ⟨Z4,Z1,Zp,b,rfl,hM⟩;have hr:=h.rlen;refine dL (dY (by simp;omega)) ?_;exact Ok.ret ⟨_,_,_,_,_,_,_,_,_,_,_,_,_,rfl,h.prog,hM,h.outs,h.lock,by simp_all,h.jlen⟩
theorem IR{n:Int}{q:Nat}{code:List DIn}{ss:List Int}{dt:List (List Int)}{bs:List Int}{key:Int}{cs:List DCe}{ls:List DLn}{ts:List DTh}{ck rn:List Int}{ins:List (List Int)}{d:List (List DCn)}{os:List DOp}{us:List DOu}{ow:List Int}{qs:List (List Int)}{rec:List DEn}{js:List Int}{i v:Int}(h:kI n q code ss dt bs cs ls ts ck rn ins d os us ow qs rec js) (hn:n<=1099511627776) (hq:q<=900) (hv:W16 v) :
 Ok (j7 i v code ss dt bs key cs ls ts ck rn ins d os us ow qs rec) λr=>∃Z4 Z1 Zp TY,r=(code,ss,dt,bs,key,Z4,Z1,Zp,ck,rn,ins,d,os,us,ow,qs,TY,())/\kI n (q+1) code ss dt bs Z4 Z1 Zp ck rn ins d os us ow qs TY js:=by
 unfold j7;rw[d8 (by have:=hv.1;omega) (by have:=hv.2;omega)];have ⟨v2,ev,WR⟩:=hJ v true;simp[ev];refine (Nz h.prog h.mach hn (lN WR) ⟨by decide,eG⟩ (by decide)).bind ?_;rintro _ ⟨Z4,Z1,Zp,b,rfl,hM⟩;have hr:=h.rlen;refine dL (dY (by simp;omega)) ?_;exact Ok.ret ⟨_,_,_,_,rfl,h.prog,hM,h.outs,h.lock,by simp_all,h.jlen⟩
def S3(n key:Int) (q:Nat) (code:List DIn) (ss:List Int) (dt:List (List Int)) (bs:List Int) (cs:List DCe) (ls:List DLn) (ts:List DTh) (rec:List DEn) (r:Int×Int×Int×Int×(List DCn)×Int×Bool×(List DIn)×(List (Int))×(List (List (Int)))×(List (Int))×Int×(List DCe)×(List DLn)×(List DTh)×(List (Int))×(List (Int))×(List (List (Int)))×(List (List DCn))×(List DOp)×(List DOu)×(List (Int))×(List (List (Int)))×(List DEn)×(List (Int))×Unit):Prop:=
 ∃t v rg o dat sp w ck rn ins d os us ow qs js,r=(t,v,rg,o,dat,sp,w,code,ss,dt,bs,key,cs,ls,ts,ck,rn,ins,d,os,us,ow,qs,rec,js,())/\kI n q code ss dt bs cs ls ts ck rn ins d os us ow qs rec js/\Pr ss (t,v,rg,o)/\(dat.length<=16/\∀c∈dat,Pr ss c)/\-1<=sp/\sp<=3
set_option maxHeartbeats 4000000 in
theorem Ko{n m:Int}{q:Nat}{code:List DIn}{ss:List Int}{dt:List (List Int)}{bs:List Int}{key:Int}{cs:List DCe}{ls:List DLn}{ts:List DTh}{ck rn:List Int}{ins:List (List Int)}{d:List (List DCn)}{os:List DOp}{us:List DOu}{ow:List Int}{qs:List (List Int)}{rec:List DEn}{js:List Int}{i:Nat}{trap count pc call:Int}{args data:List DCn}(h:kI n q code ss dt bs cs ls ts ck rn ins d os us ow qs rec js) (hi:i < 4) (hm:m<=1099511627776) (hR:Cc m ss (i:Int) 1 trap count pc call args data) :
 Ok (lc (i:Int) 1 trap count pc call args data code ss dt bs key cs ls ts ck rn ins d os us ow qs rec js) (S3 n key q code ss dt bs cs ls ts rec):=by
 obtain⟨YR,_⟩:=hR.hkind rfl;have Xz:=h.mach.tlen;obtain⟨v0,T6,Yp⟩:=hJ 0 true;obtain⟨v1,ev1,Up⟩:=hJ 0 false;have ZB:([]:List DCn).length<=16/\∀c∈([]:List DCn),Pr ss c:=⟨by decide,eG⟩
 have ZY:∀{v:Int} {w:Bool} {Zi:List Int} {qs':List (List Int)} {js':List Int},W16 v->jF Zi qs'->js'.length=4->Ok (some ((0:Int),v,(0:Int),(0:Int),([]:List DCn),(-1:Int),w,code,ss,dt,bs,key,cs,ls,ts,ck,rn,ins,d,os,us,Zi,qs',rec,js',())) (S3 n key q code ss dt bs cs ls ts rec):=
  λhv hl hj=>Ok.ret ⟨_,_,_,_,_,_,_,_,_,_,_,_,_,_,_,_,rfl,⟨h.prog,h.mach,h.outs,hl,h.rlen,hj⟩,lN hv,ZB,by decide,by decide⟩
 have hdo:Rk call=true->Ok ((qe ck rn ins d os us (i:Int) 1 trap count pc call args data).bind λ(x35,x36,x37,x38,x39,x40,x41,x42,x43,x44,x45,x46,x47,x48,_)=>some (x41,x42,x43,x44,x45,x46,x47,code,ss,dt,bs,key,cs,ls,ts,x35,x36,x37,x38,x39,x40,ow,qs,rec,js,())) (S3 n key q code ss dt bs cs ls ts rec):=by
  intro ha;refine (Q5 h.prog.sz h.outs hR ha hm).bind ?_;rintro _ ⟨ck',rn',Yr,d',Zh,Uv,t,v,rg,o,dat,rfl,hO,hv,YP,hd2⟩;exact Ok.ret ⟨_,_,_,_,_,_,_,_,_,_,_,_,_,_,_,_,rfl,⟨h.prog,h.mach,hO,h.lock,h.rlen,h.jlen⟩,hv,⟨YP,hd2⟩,by decide,by decide⟩
 have Uw:0 < (kB call).length->∃a,dO args 0=some a/\W16 a.2.1/\wk .i64 a.2.1=a.2.1:=λhl=>by
  obtain⟨a,ha⟩:∃a,args[0]?=some a:=⟨_,oGE (by omega)⟩;have hva:=(hR.hargs.2 a (dR ha)).val;exact⟨a,ha,hva,d8 (by have:=hva.1;omega) (by have:=hva.2;omega)⟩
 unfold lc;delta dQ
 try dsimp only
 rcases xD hR.hcall with rfl | rfl | rfl | rfl | rfl | rfl | rfl | rfl | rfl | rfl | rfl | rfl | rfl | rfl | rfl | rfl
 all_goals simp only[Int.reduceBEq,oCT,oCF,oBS,T6,ev1]
 all_goals first
  | exact hdo rfl
  | exact ZY Yp h.lock h.jlen
  | skip
 ·obtain⟨a,ga,ha,wa⟩:=Uw (by decide);simp only[ga,oBS,wa];refine (P1 h.lock (by omega)).bind ?_;rintro _ ⟨Zi,qs',how,rfl,hl⟩;dsimp only;obtain⟨v,ev,hv⟩:=hJ 0 (how != 2);simp only[ev,oBS];exact ZY hv hl h.jlen
 ·obtain⟨a,ga,ha,wa⟩:=Uw (by decide);simp only[ga,oBS,wa];refine (In h.lock).bind ?_;rintro _ ⟨Zi,qs',nx,b,rfl,hl,_⟩;dsimp only;obtain⟨v,ev,hv⟩:=hJ 0 b;simp only[ev,oBS];exact ZY hv hl h.jlen
 ·obtain⟨y,e,hy⟩:=gK (f:=la) (n:=NN) (s:=(ts,(ts.length:Int),0,code,ss,dt,bs,key,cs,ls,ts,ck,rn,ins,d,os,us,ow,qs,rec,js,0,0,0,0,(),0,false,()))
   (P:=λs'=>∃k:Nat,s'=(ts,(ts.length:Int),(k:Int),code,ss,dt,bs,key,cs,ls,ts,ck,rn,ins,d,os,us,ow,qs,rec,js,0,0,0,0,(),0,false,())/\k<=4)
   (R:=λy=>(∃v k,y=.inl (code,ss,dt,bs,key,cs,ls,ts,ck,rn,ins,d,os,us,ow,qs,rec,js,0,v,0,0,(),k,false,())/\W16 v/\0<=k/\k<=3)\/(∃a b c f,y=.inr (a,b,c,f,code,ss,dt,bs,key,cs,ls,ts,ck,rn,ins,d,os,us,ow,qs,rec,js,0,0,0,0,(),0,false,())))
   (m:=λs'=>(s'.2.1 - s'.2.2.1).toNat) ⟨0,rfl,by omega⟩ (by unfold NN;dsimp only;omega) (by
    rintro _ ⟨k,rfl,hk⟩;unfold la;dsimp only
    (with_reducible refine dM (λZ'=>?_) λZ'=>?_)
    ·obtain⟨t,ht⟩:∃t,ts[k]?=some t:=⟨_,oGE (by omega)⟩;simp only[dP,oBS,show dO ts k=some t from ht]
     (with_reducible refine dM (λZ3=>?_) λZ3=>?_)
     ·obtain⟨v,ev,hv⟩:=hJ (k:Int) true;simp only[ev,oBS];exact Ok.ret (.inl ⟨_,_,rfl,hv,by omega,by omega⟩)
     ·rw[dU (x:=(k:Int)+1) (by omega) (by omega)];exact Ok.ret ⟨⟨k+1,rfl,by omega⟩,by dsimp only;omega⟩
    ·exact Ok.ret (.inr ⟨_,_,_,_,rfl⟩))
  simp only[e];rcases hy with ⟨v,k,rfl,hv,k0,k3⟩ | ⟨a,b,c,f,rfl⟩
  ·exact Ok.ret ⟨_,_,_,_,_,_,_,_,_,_,_,_,_,_,_,_,rfl,⟨h.prog,h.mach,h.outs,h.lock,h.rlen,h.jlen⟩,lN hv,ZB,by omega,by omega⟩
  ·simp only[ev1,oBS];exact ZY Up h.lock h.jlen
 ·obtain⟨a,ga,ha,wa⟩:=Uw (by decide);simp only[ga,oBS,wa];obtain⟨j,hj⟩:∃j:Nat,a.2.1=j:=⟨a.2.1.toNat,by have:=ha.1;omega⟩;simp only[hj];by_cases h1:(j:Int)=i
  ·simp only[beq_iff_eq.2 h1,oCT,oBS,ev1];exact ZY Up h.lock h.jlen
  by_cases h2:(j:Int)>=4
  ·simp only[oBF h1,oDT h2,oCT,oCF,oBS,ev1];exact ZY Up h.lock h.jlen
  obtain⟨t,ht⟩:∃t,ts[j]?=some t:=⟨_,oGE (by omega)⟩;simp only[oBF h1,oDF h2,oCF,oBS,dP,show dO ts j=some t from ht]
  cases t.1==0 with
  | true=>
   simp only[oCT,ev1,oBS];exact ZY Up h.lock h.jlen
  | false=>
   simp only[oCF,dP,oBS,show dO ts j=some t from ht]
   cases t.1==4 with
   | true=>
    obtain⟨v,ev,hv⟩:=hJ (wk .i64 t.2.2.2.2.2.2.2) true;simp only[oCT,ev,oBS];exact ZY hv h.lock h.jlen
   | false=>
    obtain⟨z,hz⟩:∃z,js[i]?=some z:=⟨_,oGE (by have:=h.jlen;omega)⟩;simp only[oCF,show dO js i=some z from hz,oBS,T6,eJ hz];exact ZY Yp h.lock (by rw[List.length_set];exact h.jlen)
theorem A3{n m:Int}{q:Nat}{code:List DIn}{ss:List Int}{dt:List (List Int)}{bs:List Int}{key:Int}{cs:List DCe}{ls:List DLn}{ts:List DTh}{ck rn:List Int}{ins:List (List Int)}{d:List (List DCn)}{os:List DOp}{us:List DOu}{ow:List Int}{qs:List (List Int)}{rec:List DEn}{js:List Int}{i:Nat}{trap count pc call:Int}{args data:List DCn}(h:kI n q code ss dt bs cs ls ts ck rn ins d os us ow qs rec js) (hi:i < 4) (hn:n<=1099511627776) (hm:m<=1099511627776) (hq:q<=800) (hR:Cc m ss (i:Int) 1 trap count pc call args data) :
 Ok (j8 (i:Int) 1 trap count pc call args data code ss dt bs key cs ls ts ck rn ins d os us ow qs rec js) (S0 n key (q+2) code ss dt bs):=by
 obtain⟨YR,_⟩:=hR.hkind rfl;unfold j8;refine Ok.bind (P:=λr=>∃nx,r=(nx,code,ss,dt,bs,key,cs,ls,ts,ck,rn,ins,d,os,us,ow,qs,rec,js,(i:Int),1,trap,count,pc,call,args,data,())) ?_ ?_
 ·by_cases h9:call=9
  ·subst h9;obtain⟨a,ha⟩:∃a,args[0]?=some a:=⟨_,oGE (by rw[YR];decide)⟩;simp only[BEq.rfl,oCT,show dO args 0=some a from ha,oBS];refine (In h.lock).bind ?_;rintro _ ⟨Zi,qs',nx,b,rfl,hl,_⟩;exact Ok.ret ⟨nx,rfl⟩
  ·simp only[oBF h9,oCF];exact Ok.ret ⟨_,rfl⟩
 rintro _ ⟨nx,rfl⟩;dsimp only;refine (Ko h hi hm hR).bind ?_;rintro _ ⟨t,v,rg,o,dat,sp,w,ck',rn',Yr,d',Zh,Uv,Zi,qs',js',rfl,h2,hv,hd,hs1,Y6⟩;dsimp only;refine (Sp h.prog h.mach hi hn hm hR hv hd ⟨hs1,Y6⟩).bind ?_;rintro _ ⟨Z4,Z1,Zp,b,rfl,hM⟩;dsimp only;have hr:=h.rlen;refine dL (dY (by simp;omega)) ?_;have h3:∀e:DEn,kI n (q+1) code ss dt bs Z4 Z1 Zp ck' rn' Yr d' Zh Uv Zi qs' (List.append rec [e]) js':=λe=>⟨h2.prog,hM,h2.outs,h2.lock,by rw[fC];simp;omega,h2.jlen⟩
 (with_reducible refine dM (λZ'=>?_) λZ'=>?_)
 ·refine (Lh (h3 _) hn (by omega) ⟨by decide,by decide⟩).bind ?_;rintro _ ⟨T5,Ut,ts3,ck3,rn3,ins3,d3,os3,us3,ow3,qs3,U2,js3,rfl,h4⟩;exact Ok.ret ⟨_,_,_,_,_,_,_,_,_,_,_,_,_,rfl,h4⟩
 ·have h4:=h3 (2,(i:Int),0,(i:Int),1,trap,count,pc,call,args,data,t,v,rg,o,dat,sp,w);exact Ok.ret ⟨_,_,_,_,_,_,_,_,_,_,_,_,_,rfl,h4.prog,h4.mach,h4.outs,h4.lock,by have:=h4.rlen;omega,h4.jlen⟩
theorem EB{n:Int}{q:Nat}{code:List DIn}{ss:List Int}{dt:List (List Int)}{bs:List Int}{key:Int}{cs:List DCe}{ls:List DLn}{ts:List DTh}{ck rn:List Int}{ins:List (List Int)}{d:List (List DCn)}{os:List DOp}{us:List DOu}{ow:List Int}{qs:List (List Int)}{rec:List DEn}{js:List Int}{i:Nat}(h:kI n q code ss dt bs cs ls ts ck rn ins d os us ow qs rec js) (hi:i < 4) (hn:n<=1099511627776) (hq:q<=800) :
 Ok (ld (i:Int) code ss dt bs key cs ls ts ck rn ins d os us ow qs rec js) (S0 n key (q+8) code ss dt bs):=by
 unfold ld;delta dQ
 try dsimp only
 refine (Q3 h.lock).bind ?_;rintro _ ⟨Zi,qs',nx,rfl,hl,hn4,WY⟩;dsimp only
 refine Ok.loop (P:=λs'=>∃k:Nat,∃cs ls ts rec,s'=((i:Int),(nx.length:Int),(k:Int),code,ss,dt,bs,key,cs,ls,ts,ck,rn,ins,d,os,us,Zi,qs',rec,js,nx,())/\k<=nx.length/\kI n (q+k) code ss dt bs cs ls ts ck rn ins d os us Zi qs' rec js)
  (R:=λr=>∃a b f cs ls ts rec,r=((i:Int),a,b,f,code,ss,dt,bs,key,cs,ls,ts,ck,rn,ins,d,os,us,Zi,qs',rec,js,nx,())/\kI n (q+4) code ss dt bs cs ls ts ck rn ins d os us Zi qs' rec js) (m:=λs'=>(s'.2.1 - s'.2.2.1).toNat)
  ⟨0,cs,ls,ts,rec,rfl,by omega,h.prog,h.mach,h.outs,hl,by have:=h.rlen;omega,h.jlen⟩ (by unfold NN;dsimp only;omega) ?_ ?_
 ·rintro _ ⟨k,Vx,V9,ts2,WL,rfl,hk,h2⟩;unfold rR;dsimp only
  (with_reducible refine dM (λZ'=>?_) λZ'=>?_)
  ·obtain⟨x,hx⟩:∃x,nx[k]?=some x:=⟨_,oGE (by omega)⟩;simp only[dP,oBS,show dO nx k=some x from hx];refine (IR h2 hn (by omega) ⟨by decide,by decide⟩).bind ?_;rintro _ ⟨T5,Ut,ts3,U2,rfl,h3⟩;dsimp only;rw[dU (x:=(k:Int)+1) (by omega) (by omega)];exact Ok.ret ⟨⟨k+1,_,_,_,_,rfl,by omega,h3⟩,by dsimp only;omega⟩
  ·exact Ok.ret ⟨_,_,_,_,_,_,_,rfl,h2.prog,h2.mach,h2.outs,h2.lock,by have:=h2.rlen;omega,h2.jlen⟩
 rintro _ ⟨a,b,f,Vx,V9,ts2,WL,rfl,h2⟩;dsimp only
 refine Ok.loop (P:=λs'=>∃k:Nat,∃cs ls ts rec js,s'=((i:Int),4,(k:Int),code,ss,dt,bs,key,cs,ls,ts,ck,rn,ins,d,os,us,Zi,qs',rec,js,())/\k<=4/\kI n (q+4+k) code ss dt bs cs ls ts ck rn ins d os us Zi qs' rec js)
  (R:=λr=>∃a b c f cs ls ts rec js,r=(a,b,c,f,code,ss,dt,bs,key,cs,ls,ts,ck,rn,ins,d,os,us,Zi,qs',rec,js,())/\kI n (q+8) code ss dt bs cs ls ts ck rn ins d os us Zi qs' rec js) (m:=λs'=>(s'.2.1 - s'.2.2.1).toNat)
  ⟨0,Vx,V9,ts2,WL,js,by rw[h.jlen];rfl,by omega,h2⟩ (by unfold NN;dsimp only;have:=h.jlen;omega) ?_ ?_
 ·rintro _ ⟨k,Vx,V9,ts2,WL,TQ,rfl,hk,h2⟩;unfold rQ;dsimp only
  (with_reducible refine dM (λZ'=>?_) λZ'=>?_)
  ·obtain⟨x,hx⟩:∃x,TQ[k]?=some x:=⟨_,oGE (by have:=h2.jlen;omega)⟩;obtain⟨t,ht⟩:∃t,ts2[i]?=some t:=⟨_,oGE (by have:=h2.mach.tlen;omega)⟩;have htc:=(h2.mach.thr t (dR ht)).code;simp only[dP,oBS,show dO TQ k=some x from hx,show dO ts2 i=some t from ht];refine Ok.bind (P:=λr=>∃cs ls ts rec js,r=((i:Int),4,(k:Int),code,ss,dt,bs,key,cs,ls,ts,ck,rn,ins,d,os,us,Zi,qs',rec,js,())/\kI n (q+4+(k+1)) code ss dt bs cs ls ts ck rn ins d os us Zi qs' rec js) ?_ ?_
   ·(with_reducible refine dM (λZ3=>?_) λZ3=>?_)
    ·refine (IR h2 hn (by omega) htc).bind ?_;rintro _ ⟨T5,Ut,ts3,U2,rfl,h3⟩;simp only[dP,oBS,show dO TQ k=some x from hx,eJ hx];exact Ok.ret ⟨_,_,_,_,_,rfl,h3.prog,h3.mach,h3.outs,h3.lock,by have:=h3.rlen;omega,by rw[List.length_set];exact h3.jlen⟩
    ·exact Ok.ret ⟨_,_,_,_,_,rfl,h2.prog,h2.mach,h2.outs,h2.lock,by have:=h2.rlen;omega,h2.jlen⟩
   ·rintro _ ⟨T5,Ut,ts3,U2,js3,rfl,h3⟩;dsimp only;rw[dU (x:=(k:Int)+1) (by omega) (by omega)];exact Ok.ret ⟨⟨k+1,_,_,_,_,_,rfl,by omega,h3⟩,by dsimp only;omega⟩
  ·exact Ok.ret ⟨_,_,_,_,_,_,_,_,_,rfl,h2.prog,h2.mach,h2.outs,h2.lock,by have:=h2.rlen;omega,h2.jlen⟩
 ·rintro _ ⟨a,b,c,f,Vx,V9,ts2,WL,TQ,rfl,h2⟩;exact Ok.ret ⟨_,_,_,_,_,_,_,_,_,_,_,_,_,rfl,h2⟩
def S4(n key:Int) (q:Nat) (code:List DIn) (ss:List Int) (dt:List (List Int)) (bs:List Int) (r:(List DIn)×(List (Int))×(List (List (Int)))×(List (Int))×Int×(List DCe)×(List DLn)×(List DTh)×(List (Int))×(List (Int))×(List (List (Int)))×(List (List DCn))×(List DOp)×(List DOu)×(List (Int))×(List (List (Int)))×(List DEn)×(List (Int))×Int×Unit):Prop:=
 (∃e,r=([],[],[],[],0,[],[],[],[],[],[],[],[],[],[],[],[],[],e,())/\e≠0)\/(∃cs ls ts ck rn ins d os us ow qs rec js,r=(code,ss,dt,bs,key,cs,ls,ts,ck,rn,ins,d,os,us,ow,qs,rec,js,0,())/\kI n q code ss dt bs cs ls ts ck rn ins d os us ow qs rec js)
theorem Iw{code:List DIn}{ss:List Int}{dt:List (List Int)}{bs:List Int}{key:Int}{cs:List DCe}{ls:List DLn}{ts:List DTh}{ck rn:List Int}{ins:List (List Int)}{d:List (List DCn)}{os:List DOp}{us:List DOu}{ow:List Int}{qs:List (List Int)}{rec:List DEn}{js:List Int}(h1:rec.length<=1000) (h2:js.length<=1000):mC code ss dt bs key cs ls ts ck rn ins d os us ow qs rec js=some (code,ss,dt,bs,key,cs,ls,ts,ck,rn,ins,d,os,us,ow,qs,rec,js,()):=by
 unfold mC;rw[dY (show 8<=1000/\0+js.length<=1000000 by omega),dY (show 184<=1000/\0+rec.length<=1000000 by omega)];rfl
set_option maxHeartbeats 4000000 in
theorem MD{n:Int}{q:Nat}{code:List DIn}{ss:List Int}{dt:List (List Int)}{bs:List Int}{key:Int}{cs:List DCe}{ls:List DLn}{ts:List DTh}{ck rn:List Int}{ins:List (List Int)}{d:List (List DCn)}{os:List DOp}{us:List DOu}{ow:List Int}{qs:List (List Int)}{rec:List DEn}{js:List Int}{c1 c2:Int}{c3:Bool}(h:kI n q code ss dt bs cs ls ts ck rn ins d os us ow qs rec js) (X9:0<=n) (hn:n+64<=1099511627776) (hq:q<=700) (ZW:ze c1) (ZO:ze c2) :
 Ok (o9 code ss dt bs key cs ls ts ck rn ins d os us ow qs rec js c1 c2 c3) (S4 (n+64) key (q+12) code ss dt bs):=by
 have Xz:=h.mach.tlen;have hr:=h.rlen;unfold o9;delta dQ;rw[Ov (by omega)];simp only[oBS];have XU:=Cz ts 0
 (with_reducible refine dM (λZ'=>?_) λZ'=>?_)
 ·exact Ok.ret (.inl ⟨15,rfl,by decide⟩)
 (with_reducible refine dM (λZ3=>?_) λZ3=>?_)
 ·exact Ok.ret (.inl ⟨3,rfl,by decide⟩)
 refine RV ZW (by omega) (by omega) λv v0 v1=>?_;dsimp only;obtain⟨k,rfl⟩:∃k:Nat,v=k:=⟨v.toNat,by omega⟩;obtain⟨x,hx⟩:∃x,(ji ts 0)[k]?=some x:=⟨_,oGE (by omega)⟩;obtain⟨x0,x1,_⟩:=Ki (dR hx);obtain⟨i,rfl⟩:∃i:Nat,x=i:=⟨x.toNat,by omega⟩
 have hi:i < 4:=by omega
 simp only[dP,oBS,show dO (ji ts 0) k=some (i:Int) from hx];refine RV ZO (by decide) (by decide) λu u0 u1=>?_;dsimp only;rw[dU (x:=1+u) (by omega) (by omega),Iw (by omega) (by have:=h.jlen;omega)]
 have hk:1<=1+u/\1+u<=64:=by omega
 generalize 1+u=kk at hk;simp only[oBS]
 cases c3 with
 | false=>
  simp only[oCF];have h2:kI n (q+1) code ss dt bs cs ls ts ck rn ins d os us ow qs rec js:=⟨h.prog,h.mach,h.outs,h.lock,by omega,h.jlen⟩;have TK:=h2.mach.tlen;refine (zN h2.prog h2.mach X9 hn hi hk).bind ?_;rintro _ ⟨T5,Ut,t3,stop,trap,call,args,data,rfl,VT,WD,Wz,hask,_⟩;dsimp only;have Yj:=h2.rlen;have U9:=(h2.mach.mono (show n<=n+64 by omega)).set VT (i:=i) WD;refine dL (dY (by simp;omega)) ?_;refine Ok.bind (P:=λr=>∃cs ls ts ck rn ins d os us ow qs rec js,r=((i:Int),(),(),(),(),0,(),(),(),(),(),(),(),(),(),(),(),(),(),code,ss,dt,bs,key,cs,ls,ts,ck,rn,ins,d,os,us,ow,qs,rec,js,())/\kI (n+64) (q+4) code ss dt bs cs ls ts ck rn ins d os us ow qs rec js) ?_ ?_
  ·by_cases hs1:stop=1
   ·subst hs1;simp only[BEq.rfl,oCT];refine (A3 (q:=q+2) ⟨h2.prog,U9,h2.outs,h2.lock,by rw[fC];simp;omega,h2.jlen⟩ hi (by omega) hn (by omega) Wz).bind ?_;rintro _ ⟨cs4,TS,T0,ck4,TZ,WK,d4,TU,T1,TW,TX,WM,TR,rfl,h4⟩;exact Ok.ret ⟨_,_,_,_,_,_,_,_,_,_,_,_,_,rfl,h4⟩
   ·simp only[oBF hs1,oCF];exact Ok.ret ⟨_,_,_,_,_,_,_,_,_,_,_,_,_,rfl,h2.prog,U9,h2.outs,h2.lock,by rw[fC];simp;omega,h2.jlen⟩
  rintro _ ⟨cs,ls,ts,ck,rn,ins,d,os,us,ow,qs,rec,js,rfl,h5⟩;dsimp only;obtain⟨t5,TH⟩:∃t5,ts[i]?=some t5:=⟨_,oGE (by have:=h5.mach.tlen;omega)⟩;simp only[dP,oBS,show dO ts i=some t5 from TH];refine Ok.bind (P:=λr=>∃cs ls ts ck rn ins d os us ow qs rec js,r=((),(),(),(),0,(),(),(),(),(),(),(),(),(),(),(),(),(),code,ss,dt,bs,key,cs,ls,ts,ck,rn,ins,d,os,us,ow,qs,rec,js,())/\kI (n+64) (q+12) code ss dt bs cs ls ts ck rn ins d os us ow qs rec js) ?_ ?_
  ·(with_reducible refine dM (λWn=>?_) λWn=>?_)
   ·refine (EB h5 hi (by omega) (by omega)).bind ?_;rintro _ ⟨cs4,TS,T0,ck4,TZ,WK,d4,TU,T1,TW,TX,WM,TR,rfl,h4⟩;exact Ok.ret ⟨_,_,_,_,_,_,_,_,_,_,_,_,_,rfl,h4⟩
   ·exact Ok.ret ⟨_,_,_,_,_,_,_,_,_,_,_,_,_,rfl,h5.prog,h5.mach,h5.outs,h5.lock,by have:=h5.rlen;omega,h5.jlen⟩
  rintro _ ⟨cs,ls,ts,ck,rn,ins,d,os,us,ow,qs,rec,js,rfl,h6⟩;exact Ok.ret (.inr ⟨_,_,_,_,_,_,_,_,_,_,_,_,_,rfl,h6⟩)
 | true=>
  simp only[oCT];obtain⟨⟨b,_⟩,eC,_⟩:=PL (key:=key) h.mach (i:Int);simp only[eC,oBS]
  cases b with
  | false=>
   simp only[oCF];have h2:kI n (q+1) code ss dt bs cs ls ts ck rn ins d os us ow qs rec js:=⟨h.prog,h.mach,h.outs,h.lock,by omega,h.jlen⟩;have TK:=h2.mach.tlen;refine (zN h2.prog h2.mach X9 hn hi hk).bind ?_;rintro _ ⟨T5,Ut,t3,stop,trap,call,args,data,rfl,VT,WD,Wz,hask,_⟩;dsimp only;have Yj:=h2.rlen;have U9:=(h2.mach.mono (show n<=n+64 by omega)).set VT (i:=i) WD;refine dL (dY (by simp;omega)) ?_;refine Ok.bind (P:=λr=>∃cs ls ts ck rn ins d os us ow qs rec js,r=((i:Int),(),(),(),(),0,(),(),(),(),(),(),(),(),(),(),(),(),(),code,ss,dt,bs,key,cs,ls,ts,ck,rn,ins,d,os,us,ow,qs,rec,js,())/\kI (n+64) (q+4) code ss dt bs cs ls ts ck rn ins d os us ow qs rec js) ?_ ?_
   ·by_cases hs1:stop=1
    ·subst hs1;simp only[BEq.rfl,oCT];refine (A3 (q:=q+2) ⟨h2.prog,U9,h2.outs,h2.lock,by rw[fC];simp;omega,h2.jlen⟩ hi (by omega) hn (by omega) Wz).bind ?_;rintro _ ⟨cs4,TS,T0,ck4,TZ,WK,d4,TU,T1,TW,TX,WM,TR,rfl,h4⟩;exact Ok.ret ⟨_,_,_,_,_,_,_,_,_,_,_,_,_,rfl,h4⟩
    ·simp only[oBF hs1,oCF];exact Ok.ret ⟨_,_,_,_,_,_,_,_,_,_,_,_,_,rfl,h2.prog,U9,h2.outs,h2.lock,by rw[fC];simp;omega,h2.jlen⟩
   rintro _ ⟨cs,ls,ts,ck,rn,ins,d,os,us,ow,qs,rec,js,rfl,h5⟩;dsimp only;obtain⟨t5,TH⟩:∃t5,ts[i]?=some t5:=⟨_,oGE (by have:=h5.mach.tlen;omega)⟩;simp only[dP,oBS,show dO ts i=some t5 from TH];refine Ok.bind (P:=λr=>∃cs ls ts ck rn ins d os us ow qs rec js,r=((),(),(),(),0,(),(),(),(),(),(),(),(),(),(),(),(),(),code,ss,dt,bs,key,cs,ls,ts,ck,rn,ins,d,os,us,ow,qs,rec,js,())/\kI (n+64) (q+12) code ss dt bs cs ls ts ck rn ins d os us ow qs rec js) ?_ ?_
   ·(with_reducible refine dM (λWn=>?_) λWn=>?_)
    ·refine (EB h5 hi (by omega) (by omega)).bind ?_;rintro _ ⟨cs4,TS,T0,ck4,TZ,WK,d4,TU,T1,TW,TX,WM,TR,rfl,h4⟩;exact Ok.ret ⟨_,_,_,_,_,_,_,_,_,_,_,_,_,rfl,h4⟩
    ·exact Ok.ret ⟨_,_,_,_,_,_,_,_,_,_,_,_,_,rfl,h5.prog,h5.mach,h5.outs,h5.lock,by have:=h5.rlen;omega,h5.jlen⟩
   rintro _ ⟨cs,ls,ts,ck,rn,ins,d,os,us,ow,qs,rec,js,rfl,h6⟩;exact Ok.ret (.inr ⟨_,_,_,_,_,_,_,_,_,_,_,_,_,rfl,h6⟩)
  | true=>
   obtain⟨_,eD,Zp,b',rfl,hD⟩:=KV (key:=key) h.mach (i:Int);simp only[oCT,eD,oBS];rw[dY (show 184<=1000/\rec.length + _<=1000000 by simp;omega)];simp only[oCT];have h2:kI n (q+1) code ss dt bs cs ls Zp ck rn ins d os us ow qs (List.append rec [(3,(i:Int),0,0,0,0,0,0,0,[],[],0,0,0,0,[],0,false)]) js:=⟨h.prog,hD,h.outs,h.lock,by rw[fC];simp;omega,h.jlen⟩;have TK:=h2.mach.tlen;refine (zN h2.prog h2.mach X9 hn hi hk).bind ?_;rintro _ ⟨T5,Ut,t3,stop,trap,call,args,data,rfl,VT,WD,Wz,hask,_⟩;dsimp only;have Yj:=h2.rlen;have U9:=(h2.mach.mono (show n<=n+64 by omega)).set VT (i:=i) WD;refine dL (dY (by simp;omega)) ?_;refine Ok.bind (P:=λr=>∃cs ls ts ck rn ins d os us ow qs rec js,r=((i:Int),(),(),(),(),0,(),(),(),(),(),(),(),(),(),(),(),(),(),code,ss,dt,bs,key,cs,ls,ts,ck,rn,ins,d,os,us,ow,qs,rec,js,())/\kI (n+64) (q+4) code ss dt bs cs ls ts ck rn ins d os us ow qs rec js) ?_ ?_
   ·by_cases hs1:stop=1
    ·subst hs1;simp only[BEq.rfl,oCT];refine (A3 (q:=q+2) ⟨h2.prog,U9,h2.outs,h2.lock,by rw[fC];simp;omega,h2.jlen⟩ hi (by omega) hn (by omega) Wz).bind ?_;rintro _ ⟨cs4,TS,T0,ck4,TZ,WK,d4,TU,T1,TW,TX,WM,TR,rfl,h4⟩;exact Ok.ret ⟨_,_,_,_,_,_,_,_,_,_,_,_,_,rfl,h4⟩
    ·simp only[oBF hs1,oCF];exact Ok.ret ⟨_,_,_,_,_,_,_,_,_,_,_,_,_,rfl,h2.prog,U9,h2.outs,h2.lock,by rw[fC];simp;omega,h2.jlen⟩
   rintro _ ⟨cs,ls,ts,ck,rn,ins,d,os,us,ow,qs,rec,js,rfl,h5⟩;dsimp only;obtain⟨t5,TH⟩:∃t5,ts[i]?=some t5:=⟨_,oGE (by have:=h5.mach.tlen;omega)⟩;simp only[dP,oBS,show dO ts i=some t5 from TH];refine Ok.bind (P:=λr=>∃cs ls ts ck rn ins d os us ow qs rec js,r=((),(),(),(),0,(),(),(),(),(),(),(),(),(),(),(),(),(),code,ss,dt,bs,key,cs,ls,ts,ck,rn,ins,d,os,us,ow,qs,rec,js,())/\kI (n+64) (q+12) code ss dt bs cs ls ts ck rn ins d os us ow qs rec js) ?_ ?_
   ·(with_reducible refine dM (λWn=>?_) λWn=>?_)
    ·refine (EB h5 hi (by omega) (by omega)).bind ?_;rintro _ ⟨cs4,TS,T0,ck4,TZ,WK,d4,TU,T1,TW,TX,WM,TR,rfl,h4⟩;exact Ok.ret ⟨_,_,_,_,_,_,_,_,_,_,_,_,_,rfl,h4⟩
    ·exact Ok.ret ⟨_,_,_,_,_,_,_,_,_,_,_,_,_,rfl,h5.prog,h5.mach,h5.outs,h5.lock,by have:=h5.rlen;omega,h5.jlen⟩
   rintro _ ⟨cs,ls,ts,ck,rn,ins,d,os,us,ow,qs,rec,js,rfl,h6⟩;exact Ok.ret (.inr ⟨_,_,_,_,_,_,_,_,_,_,_,_,_,rfl,h6⟩)
theorem MQ{l ss:List Int}{k:Int}(hs:xG ss) (h:DOk l k):Ok (nS ss l k) λr=>∃bs key k',r=(bs,key,l,k',())/\LV bs ss/\W16 key/\DOk l k':=by
 unfold nS
 (with_reducible refine fY (by omega) (by omega) (by omega) (λv0 k0 a0 b0 d0=>?_);try dsimp only)
 refine (MJ hs a0 (by omega)).bind ?_;rintro _ ⟨key,rfl,hk⟩;exact Ok.ret ⟨_,_,_,rfl,PR hs a0,hk,d0⟩
theorem RJ{l:List Int}{k:Int}(h:DOk l k):Ok (tQ l k) λr=>∃code ss dt bs key cs ls ts ck rn ins d os us ow qs rec js k',r=(code,ss,dt,bs,key,cs,ls,ts,ck,rn,ins,d,os,us,ow,qs,rec,js,l,k',())/\W16 key/\kI 1152 216 code ss dt bs cs ls ts ck rn ins d os us ow qs rec js/\DOk l k':=by
 unfold tQ;refine (Kn h).bind ?_;rintro _ ⟨code,ss,dt,k1,rfl,hp,h1⟩;dsimp only;refine (MQ hp.sz h1).bind ?_;rintro _ ⟨bs,key,k2,rfl,hL,X6,h2⟩;dsimp only;refine (Ks hp.sz h2).bind ?_;rintro _ ⟨ck,rn,ins,d,os,k3,rfl,hO,h3⟩;dsimp only;refine (Pi hp hL hO).bind ?_;rintro _ ⟨cs,ts,rfl,hM⟩;dsimp only
 (with_reducible refine fY (by assumption) (by omega) (by omega) (λv4 k4 a4 b4 d4=>?_);try dsimp only)
 rw[dU (x:=3+v4) (by omega) (by omega)]
 obtain⟨y,e,hy⟩:=gK (f:=q8) (n:=NN) (s:=(3+v4,l,k4,(),(),(),(),0,(),(),(),(),(),(),(),(),(),(),(),(),(),code,ss,dt,bs,key,cs,eq,ts,ck,rn,ins,d,os,[],[-1,-1,-1,-1],[[],[],[],[]],[],[-1,-1,-1,-1],()))
  (P:=λs'=>∃(c k':Int) (q:Nat),∃cs ls ts ck rn ins d os us ow qs rec js,s'=(c,l,k',(),(),(),(),0,(),(),(),(),(),(),(),(),(),(),(),(),(),code,ss,dt,bs,key,cs,ls,ts,ck,rn,ins,d,os,us,ow,qs,rec,js,())/\0<=c/\c+q<=18/\DOk l k'/\kI (64*q) (12*q) code ss dt bs cs ls ts ck rn ins d os us ow qs rec js)
  (R:=λy=>(∃(c k':Int) (f:Bool) (q:Nat),∃cs ls ts ck rn ins d os us ow qs rec js z1 z2 z3 z4 z5 z6 z7 z8 z9 z10 z11 z12 z13 z14 z15 z16 z17 z18,y=.inl (c,f,l,k',(),(),(),(),0,(),(),(),(),(),(),(),(),(),(),(),(),(),code,ss,dt,bs,key,cs,ls,ts,ck,rn,ins,d,os,us,ow,qs,rec,js,z1,z2,z3,z4,z5,z6,z7,z8,z9,z10,z11,z12,z13,z14,z15,z16,z17,z18,())/\q<=18/\DOk l k'/\kI (64*q) (12*q) code ss dt bs cs ls ts ck rn ins d os us ow qs rec js) \/
   (∃(c k':Int) (f:Bool) (q:Nat),∃cs ls ts ck rn ins d os us ow qs rec js,y=.inr (c,f,l,k',(),(),(),(),0,(),(),(),(),(),(),(),(),(),(),(),(),(),code,ss,dt,bs,key,cs,ls,ts,ck,rn,ins,d,os,us,ow,qs,rec,js,())/\q<=18/\DOk l k'/\kI (64*q) (12*q) code ss dt bs cs ls ts ck rn ins d os us ow qs rec js)) (m:=λs'=>s'.1.toNat)
  ⟨3+v4,k4,0,_,_,_,_,_,_,_,_,_,_,_,_,_,rfl,by omega,by omega,d4,hp,by simpa using hM,hO,RX,by simp,rfl⟩ (by unfold NN;dsimp only;omega) (by
   rintro _ ⟨c,k',q,cs,ls,ts,ck,rn,ins,d,os,us,ow,qs,rec,js,rfl,hc0,hcq,hd,hR⟩;unfold q8;dsimp only
   (with_reducible refine dM (λZ'=>?_) λZ'=>?_)
   ·refine (Np hd).bind ?_;rintro _ ⟨t,b,s,k5,rfl,t0,t1,b0,b1,hd5⟩;dsimp only;refine (MD hR (by omega) (by omega) (by omega) ⟨by omega,by omega⟩ ⟨by omega,by omega⟩).bind ?_;rintro _ (⟨e,rfl,he⟩ | ⟨Vx,V9,ts2,ck2,rn2,ins2,d2,os2,us2,ow2,qs2,WL,TQ,rfl,hR2⟩)
    ·dsimp only;rw[bne_iff_ne.2 he];exact Ok.ret (.inl ⟨_,_,_,q,_,_,_,_,_,_,_,_,_,_,_,_,_,_,_,_,_,_,_,_,_,_,_,_,_,_,_,_,_,_,_,rfl,by omega,hd5,hR⟩)
    ·dsimp only;rw[dU (x:=c - 1) (by omega) (by omega)];refine Ok.ret ⟨⟨_,_,q+1,_,_,_,_,_,_,_,_,_,_,_,_,_,rfl,by omega,by omega,hd5,?_⟩,by dsimp only;omega⟩;rw[show 64*((q+1:Nat):Int)=64*(q:Int)+64 by omega,show 12*(q+1)=12*q+12 by omega];exact hR2
   ·exact Ok.ret (.inr ⟨_,_,_,q,_,_,_,_,_,_,_,_,_,_,_,_,_,rfl,by omega,hd,hR⟩))
 rw[e];have ZY:∀{q:Nat} {cs ls ts ck rn ins d os us ow qs rec js},q<=18->kI (64*q) (12*q) code ss dt bs cs ls ts ck rn ins d os us ow qs rec js->kI 1152 216 code ss dt bs cs ls ts ck rn ins d os us ow qs rec js:=λhq hR=>⟨hR.prog,hR.mach.mono (by omega),hR.outs,hR.lock,by have:=hR.rlen;omega,hR.jlen⟩;rcases hy with ⟨c,k',f,q,cs,ls,ts,ck,rn,ins,d,os,us,ow,qs,rec,js,z1,z2,z3,z4,z5,z6,z7,z8,z9,z10,z11,z12,z13,z14,z15,z16,z17,z18,rfl,hq,hd,hR⟩ | ⟨c,k',f,q,cs,ls,ts,ck,rn,ins,d,os,us,ow,qs,rec,js,rfl,hq,hd,hR⟩
 ·exact Ok.ret ⟨_,_,_,_,_,_,_,_,_,_,_,_,_,_,_,_,_,_,_,rfl,X6,ZY hq hR,hd⟩
 ·exact Ok.ret ⟨_,_,_,_,_,_,_,_,_,_,_,_,_,_,_,_,_,_,_,rfl,X6,ZY hq hR,hd⟩
def RP(bs ss:List Int) (key:Int) (cs:List DCe) (ls:List DLn) (r o:Nat):DCn:=ut bs ss key (HO cs ls (bs.getD r 0+o))
def Rq(bs ss:List Int) (key:Int) (cs:List DCe) (ls:List DLn) (r:Nat):List DCn:=(List.range (ss.getD r 0).toNat).map (RP bs ss key cs ls r)
def Fc(bs ss:List Int) (key:Int) (cs:List DCe) (ls:List DLn):List (List DCn):=(List.range ss.length).map (Rq bs ss key cs ls)
def wM(bs ss:List Int) (key:Int) (t:DTh):DTs:=(t.1,t.2.2.1,t.2.2.2.1,t.2.2.2.2.1,t.2.2.2.2.2.1,t.2.2.2.2.2.2.1,t.2.2.2.2.2.2.2,t.2.1.map (ut bs ss key))
theorem LV.at_{bs ss:List Int}(h:LV bs ss) {r:Nat}(hr:r < ss.length):∃b z,bs[r]?=some b/\ss[r]?=some z/\1<=z/\z<=32/\0<=b/\b+z<=512:=by
 have ⟨hs,hl,hg⟩:=h;have ⟨z,hz⟩:∃z,ss[r]?=some z:=⟨_,oGE (by omega)⟩;have h1:=hg r (by omega);unfold p6 at h1;have h2:=hs.2.2 z (dR hz)
 simp_all
theorem Kh{K:Int->Prop}{bs ss:List Int}{key:Int}{cs:List DCe}{ls:List DLn}(h:LV bs ss) (hm:kV K cs ls):ly cs ls bs key ss=some (Fc bs ss key cs ls,()):=by
 have W2:=h.1.2.1
 have e0:∀(r:Nat) (b z:Int),bs[r]?=some b->ss[r]?=some z->1<=z->z<=32->0<=b->b+z<=512->∀(a1 a2 a3:_) (out:List (List DCn)),dW ib NN (ss,(r:Int),a1,a2,a3,z,0,cs,ls,bs,key,out,[],())=some (ss,(r:Int),a1,a2,a3,z,z,false,cs,ls,bs,key,out,Rq bs ss key cs ls r,()):=by
  intro r b z hb hz z1 U4 b0 bz a1 a2 a3 out;obtain⟨n,rfl⟩:∃n:Nat,z=n:=⟨z.toNat,by omega⟩
  have e:Rq bs ss key cs ls r=(List.range n).map (RP bs ss key cs ls r):=by unfold Rq;rw[ef hz,oTN]
  rw[e];refine kO (f:=ib) (N:=NN) (st:=λo=>(ss,(r:Int),a1,a2,a3,(n:Int),(o:Int),cs,ls,bs,key,out,(List.range o).map (RP bs ss key cs ls r),())) (n:=n) (by unfold NN;omega) ?_ ?_
  ·intro o ho;unfold ib;dsimp only;rw[oDT (show (o:Int) < n by omega),dP];simp only[oCT,oBS,show dO bs r=some b from hb];rw[dU (x:=b+o) (by omega) (by omega)];obtain⟨Ui,Uj⟩:=Dl (a:=b+o) hm ⟨by omega,by omega⟩;rw[Ui];simp only[oBS];rw[t6 h Uj];simp only[oBS];refine dL (dY (by simp;omega)) ?_;rw[dU (x:=(o:Int)+1) (by omega) (by omega)];refine Ok.ret ?_;rw[<- pV];unfold RP;rw[ef hb];rfl
  ·unfold ib;dsimp only;rw[oDF (show ¬ (n:Int) < n by omega)];exact Ok.ret rfl
 have e1:dW ia NN (ss,ss,(ss.length:Int),0,cs,ls,bs,key,[],())=some (ss,ss,(ss.length:Int),(ss.length:Int),false,cs,ls,bs,key,Fc bs ss key cs ls,()):=by
  refine kO (f:=ia) (N:=NN) (st:=λr=>(ss,ss,(ss.length:Int),(r:Int),cs,ls,bs,key,(List.range r).map (Rq bs ss key cs ls),())) (n:=ss.length) (by unfold NN;omega) ?_ ?_
  ·intro r hr;obtain⟨b,z,hb,hz,z1,U4,b0,bz⟩:=h.at_ hr;unfold ia;dsimp only;rw[oDT (show (r:Int) < ss.length by omega),dP];simp only[oCT,oBS,show dO ss r=some z from hz];rw[e0 r b z hb hz z1 U4 b0 bz];refine dL (dY (by simp;omega)) ?_;rw[dU (x:=(r:Int)+1) (by omega) (by omega)];refine Ok.ret ?_;rw[<- pV];rfl
  ·unfold ia;dsimp only;rw[oDF (show ¬ (ss.length:Int) < ss.length by omega)];exact Ok.ret rfl
 unfold ly;delta dQ
 simp_all
theorem IX{n key:Int}{code:List DIn}{dt:List (List Int)}{bs ss:List Int}{cs:List DCe}{ls:List DLn}{ts:List DTh}(h:MOk n ss bs cs ls ts):lm code ss dt bs key cs ls ts=some (Fc bs ss key cs ls,ts.map (wM bs ss key),()):=by
 have h4:=h.tlen
 have e1:dW iZ NN (ts,(ts.length:Int),0,code,ss,dt,bs,key,cs,ls,ts,(),(),Fc bs ss key cs ls,[],())=some (ts,(ts.length:Int),(ts.length:Int),false,code,ss,dt,bs,key,cs,ls,ts,(),(),Fc bs ss key cs ls,ts.map (wM bs ss key),()):=by
  have:=kO (f:=iZ) (N:=NN) (st:=λr=>(ts,(ts.length:Int),(r:Int),code,ss,dt,bs,key,cs,ls,ts,(),(),Fc bs ss key cs ls,(ts.take r).map (wM bs ss key),())) (n:=ts.length) (t:=(ts,(ts.length:Int),(ts.length:Int),false,code,ss,dt,bs,key,cs,ls,ts,(),(),Fc bs ss key cs ls,ts.map (wM bs ss key),())) (by unfold NN;omega) ?_ ?_
  ·exact this
  ·intro r hr;obtain⟨t,ht⟩:∃t,ts[r]?=some t:=⟨_,oGE (by omega)⟩;have hok:=h.thr t (dR ht);have h8:=hok.len;unfold iZ;delta dQ;dsimp only;rw[oDT (show (r:Int) < ts.length by omega),dP];simp only[oCT,oBS,show dO ts r=some t from ht]
   have e0:∀(a1 a2 a3 a4 a5 a6 a7 a8 a9 a10 a11 a12 a13 a14:_),dW i3 NN (ts,(ts.length:Int),(r:Int),t.2.1,(t.2.1.length:Int),0,code,ss,dt,bs,key,cs,ls,ts,(),(),Fc bs ss key cs ls,(ts.take r).map (wM bs ss key),a1,t.2.1,a2,a3,a4,a5,a6,a7,a8,a9,a10,a11,a12,a13,a14,[],()) =
    some (ts,(ts.length:Int),(r:Int),t.2.1,(t.2.1.length:Int),(t.2.1.length:Int),false,code,ss,dt,bs,key,cs,ls,ts,(),(),Fc bs ss key cs ls,(ts.take r).map (wM bs ss key),a1,t.2.1,a2,a3,a4,a5,a6,a7,a8,a9,a10,a11,a12,a13,a14,t.2.1.map (ut bs ss key),()):=by
    intro a1 a2 a3 a4 a5 a6 a7 a8 a9 a10 a11 a12 a13 a14
    have:=kO (f:=i3) (N:=NN) (st:=λo=>(ts,(ts.length:Int),(r:Int),t.2.1,(t.2.1.length:Int),(o:Int),code,ss,dt,bs,key,cs,ls,ts,(),(),Fc bs ss key cs ls,(ts.take r).map (wM bs ss key),a1,t.2.1,a2,a3,a4,a5,a6,a7,a8,a9,a10,a11,a12,a13,a14,(t.2.1.take o).map (ut bs ss key),())) (n:=t.2.1.length)
     (t:=(ts,(ts.length:Int),(r:Int),t.2.1,(t.2.1.length:Int),(t.2.1.length:Int),false,code,ss,dt,bs,key,cs,ls,ts,(),(),Fc bs ss key cs ls,(ts.take r).map (wM bs ss key),a1,t.2.1,a2,a3,a4,a5,a6,a7,a8,a9,a10,a11,a12,a13,a14,t.2.1.map (ut bs ss key),())) (by unfold NN;omega) ?_ ?_
    ·exact this
    ·intro o ho;obtain⟨c,hc⟩:∃c,t.2.1[o]?=some c:=⟨_,oGE ho⟩;unfold i3;dsimp only;rw[oDT (show (o:Int) < t.2.1.length by omega),dP];simp only[oCT,oBS,show dO t.2.1 o=some c from hc];rw[t6 h.lay (hok.regs c (dR hc))];refine dL (dY (by simp;omega)) ?_;rw[dU (x:=(o:Int)+1) (by omega) (by omega)];refine Ok.ret ?_;rw[<- fT (ut bs ss key) hc];rfl
    ·unfold i3;dsimp only;rw[oDF (show ¬ (t.2.1.length:Int) < t.2.1.length by omega),List.take_length];exact Ok.ret rfl
   rw[e0];simp only[oBS];refine dL (dY (by simp;omega)) ?_;rw[dU (x:=(r:Int)+1) (by omega) (by omega)];refine Ok.ret ?_;rw[<- fT (wM bs ss key) ht];rfl
  ·unfold iZ;dsimp only;rw[oDF (show ¬ (ts.length:Int) < ts.length by omega),List.take_length];exact Ok.ret rfl
 unfold lm;delta dQ;simp only[Kh h.lay h.mem,oBS]
 simp_all
structure SY (n:Int) (ss:List Int) (v:DTs):Prop where
 state:0<=v.1/\v.1<=4
 pc:0<=v.2.1/\v.2.1<=255
 count:0<=v.2.2.1/\v.2.2.1<=n
 handler:-1<=v.2.2.2.1/\v.2.2.2.1<=255
 saved:-1<=v.2.2.2.2.1/\v.2.2.2.2.1<=255
 trap:0<=v.2.2.2.2.2.1/\v.2.2.2.2.2.1<=6
 code:W16 v.2.2.2.2.2.2.1
 len:v.2.2.2.2.2.2.2.length=8
 regs:∀c∈v.2.2.2.2.2.2.2,Pr ss c
structure CU (n:Int) (ss:List Int) (rg:List (List DCn)) (vs:List DTs):Prop where
 rlen:rg.length=ss.length
 fit:∀(j:Nat) x z,rg[j]?=some x->ss[j]?=some z->(x.length:Int)=z
 cells:∀x∈rg,∀c∈x,Pr ss c
 vlen:vs.length=4
 views:∀v∈vs,SY n ss v
theorem IW{n key:Int}{bs ss:List Int}{cs:List DCe}{ls:List DLn}{ts:List DTh}(h:MOk n ss bs cs ls ts):CU n ss (Fc bs ss key cs ls) (ts.map (wM bs ss key)):=by
 refine⟨by unfold Fc;simp,λj x z hx hz=>?_,λx hx c hc=>?_,by rw[List.length_map];exact h.tlen,λv hv=>?_⟩
 ·unfold Fc at hx;rw[List.getElem?_map,List.getElem?_range (oGS hz).1] at hx
  injection hx with hx
  subst hx;have:=(h.lay.1.2.2 z (dR hz)).1;unfold Rq;rw[List.length_map,List.length_range,ef hz];omega
 ·unfold Fc at hx;obtain⟨r,hr,rfl⟩:=List.mem_map.1 hx;have hr:=List.mem_range.1 hr;have ⟨b,z,hb,hz,z1,U4,b0,bz⟩:=h.lay.at_ hr;obtain⟨o,ho,rfl⟩:=List.mem_map.1 hc;have ho:=List.mem_range.1 ho;rw[ef hz] at ho;unfold RP;rw[ef hb];exact EL h.lay (Dl h.mem ⟨by omega,by omega⟩).2
 ·obtain⟨t,ht,rfl⟩:=List.mem_map.1 hv;have hok:=h.thr t ht;refine⟨hok.state,hok.pc,hok.count,hok.handler,hok.saved,hok.trap,hok.code,by unfold wM;dsimp only;rw[List.length_map];exact hok.len,λc hc=>?_⟩;obtain⟨c',YN,rfl⟩:=List.mem_map.1 hc;exact EL h.lay (hok.regs c' YN)
theorem Lm{l:List Int}(h:∀x∈l,1<=x/\x<=32):(l.length:Int)<=l.sum/\l.sum<=32*l.length:=by
 induction l with
 | nil=>simp
 | cons a l ih=>
  have h1:=h a (by simp);have h2:=ih λx hx=>h x (by simp[hx]);rw[List.sum_cons,oLC];omega
theorem Q4{l:List Int}{k:Nat}{x:Int}(h:l[k]?=some x):l.drop k=x :: l.drop (k+1):=by
 obtain⟨hk,rfl⟩:=oGS h
 simp_all
theorem NQ{ss:List Int}(h:xG ss):nP ss=some (ss.sum,()):=by
 have e:dW i6 NN (0,ss,(ss.length:Int),0,())=some (ss.sum,ss,(ss.length:Int),(ss.length:Int),false,()):=by
  have:=kO (f:=i6) (N:=NN) (st:=λk=>((ss.take k).sum,ss,(ss.length:Int),(k:Int),())) (n:=ss.length) (t:=(ss.sum,ss,(ss.length:Int),(ss.length:Int),false,())) (by unfold NN;have:=h.2.1;omega) ?_ ?_
  ·exact this
  ·intro k hk;obtain⟨x,hx⟩:∃x,ss[k]?=some x:=⟨_,oGE hk⟩;have Yq:=h.2.2 x (dR hx);have hb:=Lm (l:=ss.take k) λy hy=>h.2.2 y (List.mem_of_mem_take hy);have hl:=h.2.1;rw[oLT] at hb;unfold i6;dsimp only;rw[oDT (show (k:Int) < ss.length by omega),dP];simp[show dO ss k=some x from hx];rw[dU (x:=(ss.take k).sum+x) (by omega) (by omega),dU (x:=(k:Int)+1) (by omega) (by omega)];refine Ok.ret ?_;rw[show ss.take (k+1)=ss.take k++[x] by rw[List.take_add_one,hx];rfl];simp
  ·unfold i6;dsimp only;rw[oDF (show ¬ (ss.length:Int) < ss.length by omega),List.take_length];exact Ok.ret rfl
 unfold nP;delta dQ
 simp_all
theorem SW{ss:List Int}{i:Int}(h:xG ss) (h0:0<=i) (h1:i < ss.sum):Ok (tP ss i) λr=>∃rg o,r=(rg,o,0,())/\0<=rg/\∃n,ss[rg.toNat]?=some n/\0<=o/\o < n:=by
 have hl:=h.2.1;unfold tP;delta dQ
 try dsimp only
 obtain⟨y,e,rg,o,rfl,hy⟩:=gK (f:=qW) (n:=NN) (s:=(i,ss,(ss.length:Int),0,0,0,())) (P:=λs'=>∃(k:Nat) (i':Int),s'=(i',ss,(ss.length:Int),(k:Int),0,0,())/\k<=ss.length/\0<=i'/\i' < (ss.drop k).sum/\i'<=1000)
  (R:=λy=>∃rg o,y=.inl (0,rg,o,())/\0<=rg/\∃n,ss[rg.toNat]?=some n/\0<=o/\o < n) (m:=λs'=>(s'.2.2.1 - s'.2.2.2.1).toNat) ⟨0,i,rfl,by omega,h0,h1,by have:=(Lm h.2.2).2;omega⟩ (by unfold NN;dsimp only;omega) (by
   rintro _ ⟨k,i',rfl,hk,i0,i1,i2⟩;unfold qW;dsimp only;by_cases hkl:k=ss.length
   ·subst hkl;simp at i1;omega
   obtain⟨x,hx⟩:∃x,ss[k]?=some x:=⟨_,oGE (by omega)⟩;have Yq:=h.2.2 x (dR hx);rw[Q4 hx,List.sum_cons] at i1;rw[oDT (show (k:Int) < ss.length by omega),dP];simp only[oCT,oBS,show dO ss k=some x from hx];rw[oDT (show i'>=0 from i0)];by_cases hlt:i' < x
   ·rw[oDT hlt];exact Ok.ret ⟨_,_,rfl,by omega,x,by simp_all,i0,hlt⟩
   ·rw[oDF hlt];simp;rw[dU (x:=i' - x) (by omega) (by omega),dU (x:=(k:Int)+1) (by omega) (by omega)]
    exact Ok.ret ⟨⟨k+1,_,rfl,by omega,by omega,by omega,by omega⟩,by dsimp only;omega⟩)
 rw[e];exact Ok.ret ⟨rg,o,rfl,hy⟩
theorem JG{ss l:List Int}{k:Int}(hs:xG ss) (h:DOk l k):Ok (na ss l k) λr=>∃t v rg o k',r=(t,v,rg,o,l,k',())/\Pr ss (t,v,rg,o)/\DOk l k':=by
 unfold na
 (with_reducible refine fY (by omega) (by omega) (by omega) (λv0 k0 a0 b0 d0=>?_);try dsimp only)
 rw[NQ hs];simp;have hb:=Lm hs.2.2;have h1:=hs.1;have h4:=hs.2.1
 (with_reducible refine dM (λZ'=>?_) λZ'=>?_)
 ·(with_reducible refine fY (by omega) (by omega) (by omega) (λv1 k1 a1 b1 d1=>?_);try dsimp only)
  refine (SW hs a1 b1).bind ?_;rintro _ ⟨rg,o,rfl,g1,n,g2,g3,g4⟩;exact Ok.ret ⟨_,_,_,_,_,rfl,.inr ⟨rfl,rfl,g1,n,g2,g3,g4⟩,d1⟩
 (with_reducible refine dM (λZ3=>?_) λZ3=>?_)
 ·(with_reducible refine fY (by omega) (by omega) (by omega) (λv2 k2 a2 b2 d2=>?_);try dsimp only)
  exact Ok.ret ⟨_,_,_,_,_,rfl,PF (om _),d2⟩
 ·(with_reducible refine IQ (by omega) (λv3 k3 a3 b3 d3=>?_);try dsimp only)
  exact Ok.ret ⟨_,_,_,_,_,rfl,lN ⟨by omega,by omega⟩,d3⟩
def uc(v:DTs):List DCn:=v.2.2.2.2.2.2.2
def thF(bs:List Int) (key:Int) (v:DTs):DTh:=(v.1,(uc v).map (rY bs key),v.2.1,v.2.2.1,v.2.2.2.1,v.2.2.2.2.1,v.2.2.2.2.2.1,v.2.2.2.2.2.2.1)
theorem EY{n:Int}{ss:List Int}{vs:List DTs}(hs:xG ss) (hl:vs.length=4) (h:∀v∈vs,SY n ss v) (hn:n<=1099511627776):iw vs=some (true,()):=by
 have e:dW fc NN (vs,vs,(vs.length:Int),0,())=some (.inr (vs,vs,(vs.length:Int),(vs.length:Int),false,())):=by
  refine kO (f:=fc) (N:=NN) (st:=λk=>(vs,vs,(vs.length:Int),(k:Int),())) (n:=vs.length) (by unfold NN;omega) ?_ ?_
  ·intro k hk;obtain⟨v,hv⟩:∃v,vs[k]?=some v:=⟨_,oGE hk⟩;obtain⟨⟨a1,a2⟩,⟨b1,b2⟩,⟨c1,c2⟩,⟨d1,d2⟩,⟨e1,e2⟩,⟨f1,f2⟩,_,hl8,hr⟩:=h v (dR hv);unfold fc;delta dQ;dsimp only;rw[oDT (show (k:Int) < vs.length by omega),dP];simp only[oCT,oBS,show dO vs k=some v from hv];rw[oDT (show v.1>=0 from a1),oDT a2,oDT (show v.2.1>=0 from b1),oDT b2,oDT (show v.2.2.1>=0 from c1),oDT (show v.2.2.1<=1099511627776 by omega),oDT (show v.2.2.2.1>=-1 from d1),oDT d2,oDT (show v.2.2.2.2.1>=-1 from e1),oDT e2,oDT (show v.2.2.2.2.2.1>=0 from f1),oDT f2];simp;rw[hl8,kQ (n:=8) hs hr (by omega) (by omega)];simp;rw[dU (x:=(k:Int)+1) (by omega) (by omega)];exact Ok.ret rfl
  ·unfold fc;dsimp only;rw[oDF (show ¬ (vs.length:Int) < vs.length by omega)];exact Ok.ret rfl
 unfold iw;delta dQ
 simp_all
theorem JX{n:Int}{code:List DIn}{ss:List Int}{dt:List (List Int)}{rg:List (List DCn)}{vs:List DTs}(hp:jE code ss dt) (h:CU n ss rg vs) (hn:n<=1099511627776):iP code ss dt rg vs=some (true,()):=by
 have h4:=hp.sz.2.1;have hl:=h.rlen
 have e:dW fM NN (rg,(rg.length:Int),0,code,ss,dt,rg,vs,())=some (.inr (rg,(rg.length:Int),(rg.length:Int),false,code,ss,dt,rg,vs,())):=by
  refine kO (N:=NN) (st:=λk=>(rg,(rg.length:Int),(k:Int),code,ss,dt,rg,vs,())) (n:=rg.length) (by unfold NN;omega) ?_ ?_
  ·intro k hk;obtain⟨x,hx⟩:∃x,rg[k]?=some x:=⟨_,oGE hk⟩;obtain⟨z,hz⟩:∃z,ss[k]?=some z:=⟨_,oGE (by omega)⟩;have hf:=h.fit k x z hx hz;have Yc:=hp.sz.2.2 z (dR hz);unfold fM;delta dQ;dsimp only;rw[oDT (show (k:Int) < rg.length by omega),dP];simp only[oCT,oBS,show dO rg k=some x from hx,show dO ss k=some z from hz,hf,bne_self_eq_false,oCF];rw[kQ (n:=32) hp.sz (h.cells x (dR hx)) (by omega) (by omega)];rw[dU (x:=(k:Int)+1) (by omega) (by omega)];exact Ok.ret rfl
  ·unfold fM;dsimp only;rw[oDF (show ¬ (rg.length:Int) < rg.length by omega)];exact Ok.ret rfl
 unfold iP;delta dQ;rw[zB hp,EY hp.sz h.vlen h.views hn]
 simp_all
theorem CE{rg:List (List DCn)}{vs:List DTs}(h1:rg.length<=1000) (h2:vs.length<=1000):jL rg vs=some (rg++vs.map uc,()):=by
 have e:dW fL NN (vs,(vs.length:Int),0,rg,vs,rg,())=some (vs,(vs.length:Int),(vs.length:Int),false,rg,vs,rg++vs.map uc,()):=by
  have:=kO (f:=fL) (N:=NN) (st:=λk=>(vs,(vs.length:Int),(k:Int),rg,vs,rg++(vs.take k).map uc,())) (n:=vs.length) (t:=(vs,(vs.length:Int),(vs.length:Int),false,rg,vs,rg++vs.map uc,())) (by unfold NN;omega) ?_ ?_
  ·simp_all
  ·intro k hk;have ⟨v,hv⟩:∃v,vs[k]?=some v:=⟨_,oGE hk⟩;unfold fL;dsimp only;rw[oDT (show (k:Int) < vs.length by omega),dP];simp only[oCT,oBS,show dO vs k=some v from hv];refine dL (dY (by simp;omega)) ?_;rw[dU (x:=(k:Int)+1) (by omega) (by omega)];refine Ok.ret ?_;rw[<- fT uc hv,<- List.append_assoc];rfl
  ·unfold fL;dsimp only;rw[oDF (show ¬ (vs.length:Int) < vs.length by omega),List.take_length];exact Ok.ret rfl
 unfold jL;rw[dY (show 24<=1000/\0+rg.length<=1000000 by omega)];delta dQ
 simp_all
theorem LV.apart{bs ss:List Int}(h:LV bs ss) {r r':Nat}{b z b' z' o o':Int}(hne:r≠r') (hb:bs[r]?=some b) (hz:ss[r]?=some z) (Y0:bs[r']?=some b') (X4:ss[r']?=some z') (h0:0<=o) (h1:o < z) (h0':0<=o') (h1':o' < z'):b+o≠b'+o':=by
 have ⟨_,hl,hg⟩:=h;have l1:=(oGS hb).1;have l2:=(oGS Y0).1;have g1:=hg r l1;have g2:=hg r' l2;unfold p6 at g1 g2;rw[ef hb,ef hz] at g1;rw[ef Y0,ef X4] at g2;by_cases hlt:r' < r
 ·have:=g1.2.2 r' hlt;rw[ef Y0,ef X4] at this;omega
 ·have:=g2.2.2 r (by omega);rw[ef hb,ef hz] at this;omega
def Su(bs:List Int) (key:Int) (rg:List (List DCn)) (cs:List DCe) (r o:Nat):Prop:=∀(r' o':Nat) (x:List DCn) (c:DCn) (b:Int),rg[r']?=some x->x[o']?=some c->bs[r']?=some b->(r' < r\/(r'=r/\o' < o))->cs[(b+o').toNat]?=some (rY bs key c)
set_option maxHeartbeats 4000000 in
theorem M1{n key:Int}{code:List DIn}{ss bs:List Int}{dt:List (List Int)}{rg:List (List DCn)}{vs:List DTs}(hp:jE code ss dt) (hL:LV bs ss) (h:CU n ss rg vs) (hn:n<=1099511627776) :
 Ok (fF code ss dt bs key rg vs) λr=>∃cs,r=(bs,key,cs,eq,vs.map (thF bs key),true,())/\MOk n ss bs cs eq (vs.map (thF bs key))/\Su bs key rg cs ss.length 0:=by
 have h4:=hp.sz.2.1;have Wl:=hL.2.1;have XU:=h.rlen;have YV:=h.vlen;unfold fF;delta dQ;rw[JX hp h hn,qa hL,CE (by omega) (by omega),ED];simp only[oBS,oNT,oCF]
 have ZP:∀x∈rg++vs.map uc,x.length<=100/\∀c∈x,Pr ss c:=by
  intro x hx;rcases List.mem_append.1 hx with hx | hx
  ·obtain⟨j,hj⟩:=List.getElem?_of_mem hx;have:=(oGS hj).1;obtain⟨z,hz⟩:∃z,ss[j]?=some z:=⟨_,oGE (by omega)⟩;have:=h.fit j x z hj hz;have:=hp.sz.2.2 z (dR hz);exact⟨by omega,h.cells x hx⟩
  ·obtain⟨v,hv,rfl⟩:=List.mem_map.1 hx;have:=h.views v hv;exact⟨by unfold uc;rw[this.len];omega,this.regs⟩
 have WQ:(rg++vs.map uc).length<=100:=by rw[List.length_append,List.length_map];omega
 generalize rg++vs.map uc=lst at ZP WQ
 have e1:dW eH NN ((lst.length:Int),0,code,ss,dt,bs,key,rg,vs,(),0,(),(),(),lst,())=some (.inr ((lst.length:Int),(lst.length:Int),false,code,ss,dt,bs,key,rg,vs,(),0,(),(),(),lst,())):=by
  refine kO (f:=eH) (N:=NN) (st:=λk=>((lst.length:Int),(k:Int),code,ss,dt,bs,key,rg,vs,(),0,(),(),(),lst,())) (n:=lst.length) (by unfold NN;omega) ?_ ?_
  ·intro k hk;obtain⟨x,hx⟩:∃x,lst[k]?=some x:=⟨_,oGE hk⟩;obtain⟨hxl,V6⟩:=ZP x (dR hx)
   have e0:dW eI NN ((lst.length:Int),(k:Int),x,(x.length:Int),0,code,ss,dt,bs,key,rg,vs,(),0,(),(),(),lst,())=some (.inr ((lst.length:Int),(k:Int),x,(x.length:Int),(x.length:Int),false,code,ss,dt,bs,key,rg,vs,(),0,(),(),(),lst,())):=by
    refine kO (f:=eI) (N:=NN) (st:=λo=>((lst.length:Int),(k:Int),x,(x.length:Int),(o:Int),code,ss,dt,bs,key,rg,vs,(),0,(),(),(),lst,())) (n:=x.length) (by unfold NN;omega) ?_ ?_
    ·intro o ho;obtain⟨c,hc⟩:∃c,x[o]?=some c:=⟨_,oGE ho⟩;unfold eI;dsimp only;rw[oDT (show (o:Int) < x.length by omega),dP];simp only[oCT,oBS,show dO x o=some c from hc,kF (V6 c (dR hc)),oNT,oCF];rw[dU (x:=(o:Int)+1) (by omega) (by omega)];exact Ok.ret rfl
    ·unfold eI;dsimp only;rw[oDF (show ¬ (x.length:Int) < x.length by omega)];exact Ok.ret rfl
   unfold eH;delta dQ;dsimp only;rw[oDT (show (k:Int) < lst.length by omega),dP];simp only[oCT,oBS,show dO lst k=some x from hx,e0];rw[dU (x:=(k:Int)+1) (by omega) (by omega)];exact Ok.ret rfl
  ·unfold eH;dsimp only;rw[oDF (show ¬ (lst.length:Int) < lst.length by omega)];exact Ok.ret rfl
 rw[e1];dsimp only;refine dL (dY (by omega)) (dL (by decide) ?_);rw[show List.append [] bs=bs from rfl]
 refine Ok.loop (P:=λs'=>∃(r:Nat),∃cs,s'=(rg,(rg.length:Int),(r:Int),code,ss,dt,bs,key,rg,vs,(),0,(),(),(),bs,key,cs,eq,(),())/\r<=rg.length/\cs.length=512/\(∀c∈cs,oQ (RK bs ss) c)/\Su bs key rg cs r 0)
  (R:=λy=>∃a b c f cs,y=(a,b,c,f,code,ss,dt,bs,key,rg,vs,(),0,(),(),(),bs,key,cs,eq,(),())/\cs.length=512/\(∀c∈cs,oQ (RK bs ss) c)/\Su bs key rg cs ss.length 0) (m:=λs'=>(s'.2.1 - s'.2.2.1).toNat)
  ⟨0,_,rfl,by omega,List.length_replicate,λc hc=>by rw[List.eq_of_mem_replicate hc];exact nd (by decide),λr' o' x c b _ _ _ hlt=>by omega⟩ (by unfold NN;dsimp only;omega) ?_ ?_
 ·rintro _ ⟨r,cs,rfl,hr,ZW,ZO,hI⟩;unfold gL;delta dQ;dsimp only
  (with_reducible refine dM (λZ'=>?_) λZ'=>?_)
  ·obtain⟨x,hx⟩:∃x,rg[r]?=some x:=⟨_,oGE (by omega)⟩;obtain⟨b,z,hb,hz,z1,U4,b0,bz⟩:=hL.at_ (r:=r) (by omega);have hf:=h.fit r x z hx hz;have V6:=h.cells x (dR hx);rw[dP];simp only[oBS,show dO rg r=some x from hx]
   refine Ok.loop (P:=λs'=>∃(o:Nat),∃cs,s'=((r:Int),rg,(rg.length:Int),(r:Int),x,(x.length:Int),(o:Int),code,ss,dt,bs,key,rg,vs,(),0,(),(),(),bs,key,cs,eq,(),())/\o<=x.length/\cs.length=512/\(∀c∈cs,oQ (RK bs ss) c)/\Su bs key rg cs r o)
    (R:=λy=>∃a2 a3 a4 f cs,y=((r:Int),rg,(rg.length:Int),(r:Int),a2,a3,a4,f,code,ss,dt,bs,key,rg,vs,(),0,(),(),(),bs,key,cs,eq,(),())/\cs.length=512/\(∀c∈cs,oQ (RK bs ss) c)/\Su bs key rg cs (r+1) 0) (m:=λs'=>(s'.2.2.2.2.2.1 - s'.2.2.2.2.2.2.1).toNat) ⟨0,cs,rfl,by omega,ZW,ZO,hI⟩ (by unfold NN;dsimp only;omega) ?_ ?_
   ·rintro _ ⟨o,cs,rfl,ho,ZW,ZO,hI⟩;unfold gM;dsimp only
    (with_reducible refine dM (λZ3=>?_) λZ3=>?_)
    ·obtain⟨c,hc⟩:∃c,x[o]?=some c:=⟨_,oGE (by omega)⟩;obtain⟨Z8,Yj⟩:=vp (key:=key) hL (V6 c (dR hc));simp only[dP,oBS,show dO x o=some c from hc,show dO bs r=some b from hb,Z8];rw[dU (x:=b+o) (by omega) (by omega),dU (x:=(o:Int)+1) (by omega) (by omega)];obtain⟨a,ha⟩:∃a:Nat,b+o=a:=⟨(b+o).toNat,by omega⟩;obtain⟨y,hy⟩:∃y,cs[a]?=some y:=⟨_,oGE (by omega)⟩;rw[ha,dP];simp only[oBS,show dO cs a=some y from hy,eJ hy];refine Ok.ret ⟨⟨o+1,_,rfl,by omega,by rw[List.length_set];exact ZW,jA ZO Yj,λr' o' x' c' b' h1 h2 h3 hlt=>?_⟩,by dsimp only;omega⟩;by_cases e:r'=r/\o'=o
     ·obtain⟨rfl,rfl⟩:=e;rw[hx] at h1;cases h1;rw[hc] at h2;cases h2;rw[hb] at h3;cases h3;rw[ha,oTN];exact iF (by omega) _
     ·have hr'l:=(oGS h1).1;obtain⟨b2,z2,ZZ,Yc,_,_,b20,b2z⟩:=hL.at_ (r:=r') (by omega)
      have T9:b2=b':=by rw[ZZ] at h3;injection h3
      subst T9;have hf2:=h.fit r' x' z2 h1 Yc;have ho'l:=(oGS h2).1
      have hne:(b2+o').toNat≠a:=by
       by_cases er:r'=r
       ·subst er;rw[hb] at ZZ;cases ZZ;omega
       ·have:=hL.apart er ZZ Yc hb hz (o:=o') (o':=o) (by omega) (by omega) (by omega) (by omega);omega
      rw[oh (λe=>hne e.symm)];exact hI r' o' x' c' b2 h1 h2 ZZ (by omega)
    ·refine Ok.ret ⟨_,_,_,_,cs,rfl,ZW,ZO,λr' o' x' c' b' h1 h2 h3 hlt=>hI r' o' x' c' b' h1 h2 h3 ?_⟩;by_cases er:r'=r
     ·subst er;rw[hx] at h1;cases h1;have:=(oGS h2).1;omega
     ·omega
   ·rintro _ ⟨a2,a3,a4,f,cs,rfl,ZW,ZO,hI⟩;dsimp only;rw[dU (x:=(r:Int)+1) (by omega) (by omega)];exact Ok.ret ⟨⟨r+1,cs,rfl,by omega,ZW,ZO,hI⟩,by dsimp only;omega⟩
  ·obtain rfl:r=ss.length:=by omega
   exact Ok.ret ⟨_,_,_,_,cs,rfl,ZW,ZO,hI⟩
 rintro _ ⟨a,b,c,f,cs,rfl,ZW,ZO,hI⟩;dsimp only
 have e5:dW fv NN (vs,(vs.length:Int),0,code,ss,dt,bs,key,rg,vs,(),0,(),(),(),bs,key,cs,eq,[],())=some (vs,(vs.length:Int),(vs.length:Int),false,code,ss,dt,bs,key,rg,vs,(),0,(),(),(),bs,key,cs,eq,vs.map (thF bs key),()):=by
  have:=kO (f:=fv) (N:=NN) (st:=λk=>(vs,(vs.length:Int),(k:Int),code,ss,dt,bs,key,rg,vs,(),0,(),(),(),bs,key,cs,eq,(vs.take k).map (thF bs key),())) (n:=vs.length) (t:=(vs,(vs.length:Int),(vs.length:Int),false,code,ss,dt,bs,key,rg,vs,(),0,(),(),(),bs,key,cs,eq,vs.map (thF bs key),())) (by unfold NN;omega) ?_ ?_
  ·exact this
  ·intro k hk;obtain⟨v,hv⟩:∃v,vs[k]?=some v:=⟨_,oGE hk⟩;have Y2:=h.views v (dR hv);have h8:=Y2.len;unfold fv;delta dQ;dsimp only;rw[oDT (show (k:Int) < vs.length by omega),dP];simp only[oCT,oBS,show dO vs k=some v from hv]
   have e4:∀(a1 a2 a3 a4 a5 a6 a7 a8 b1 b2 b3 b4 b5 b6 b7:_),dW fw NN (vs,(vs.length:Int),(k:Int),v.2.2.2.2.2.2.2,(v.2.2.2.2.2.2.2.length:Int),0,code,ss,dt,bs,key,rg,vs,(),0,(),(),(),bs,key,cs,eq,(vs.take k).map (thF bs key),a1,a2,a3,a4,a5,a6,a7,a8,b1,[],b2,b3,b4,b5,b6,b7,()) =
    some (vs,(vs.length:Int),(k:Int),v.2.2.2.2.2.2.2,(v.2.2.2.2.2.2.2.length:Int),(v.2.2.2.2.2.2.2.length:Int),false,code,ss,dt,bs,key,rg,vs,(),0,(),(),(),bs,key,cs,eq,(vs.take k).map (thF bs key),a1,a2,a3,a4,a5,a6,a7,a8,b1,v.2.2.2.2.2.2.2.map (rY bs key),b2,b3,b4,b5,b6,b7,()):=by
    intro a1 a2 a3 a4 a5 a6 a7 a8 b1 b2 b3 b4 b5 b6 b7
    have:=kO (f:=fw) (N:=NN) (st:=λo=>(vs,(vs.length:Int),(k:Int),v.2.2.2.2.2.2.2,(v.2.2.2.2.2.2.2.length:Int),(o:Int),code,ss,dt,bs,key,rg,vs,(),0,(),(),(),bs,key,cs,eq,(vs.take k).map (thF bs key),a1,a2,a3,a4,a5,a6,a7,a8,b1,(v.2.2.2.2.2.2.2.take o).map (rY bs key),b2,b3,b4,b5,b6,b7,())) (n:=v.2.2.2.2.2.2.2.length)
     (t:=(vs,(vs.length:Int),(k:Int),v.2.2.2.2.2.2.2,(v.2.2.2.2.2.2.2.length:Int),(v.2.2.2.2.2.2.2.length:Int),false,code,ss,dt,bs,key,rg,vs,(),0,(),(),(),bs,key,cs,eq,(vs.take k).map (thF bs key),a1,a2,a3,a4,a5,a6,a7,a8,b1,v.2.2.2.2.2.2.2.map (rY bs key),b2,b3,b4,b5,b6,b7,())) (by unfold NN;omega) ?_ ?_
    ·exact this
    ·intro o ho;obtain⟨c,hc⟩:∃c,v.2.2.2.2.2.2.2[o]?=some c:=⟨_,oGE ho⟩;unfold fw;dsimp only;rw[oDT (show (o:Int) < v.2.2.2.2.2.2.2.length by omega),dP];simp only[oCT,oBS,show dO v.2.2.2.2.2.2.2 o=some c from hc];rw[(vp (key:=key) hL (Y2.regs c (dR hc))).1];simp only[oBS];refine dL (dY (by simp;omega)) ?_;rw[dU (x:=(o:Int)+1) (by omega) (by omega)];refine Ok.ret ?_;rw[<- fT (rY bs key) hc];rfl
    ·unfold fw;dsimp only;rw[oDF (show ¬ (v.2.2.2.2.2.2.2.length:Int) < v.2.2.2.2.2.2.2.length by omega),List.take_length];exact Ok.ret rfl
   rw[e4];simp only[oBS];refine dL (dY (by simp;omega)) ?_;rw[dU (x:=(k:Int)+1) (by omega) (by omega)];refine Ok.ret ?_;rw[<- fT (thF bs key) hv];rfl
  ·unfold fv;dsimp only;rw[oDF (show ¬ (vs.length:Int) < vs.length by omega),List.take_length];exact Ok.ret rfl
 rw[e5];refine Ok.ret ⟨cs,rfl,⟨hL,GX ZW ZO,by rw[List.length_map];exact YV,λt ht=>?_⟩,hI⟩;obtain⟨v,hv,rfl⟩:=List.mem_map.1 ht;have Y2:=h.views v hv;refine⟨Y2.state,by unfold thF;dsimp only;rw[List.length_map];exact Y2.len,λc hc=>?_,Y2.pc,Y2.count,Y2.handler,Y2.saved,Y2.trap,Y2.code⟩;unfold thF at hc;dsimp only at hc;obtain⟨c',YN,rfl⟩:=List.mem_map.1 hc;exact (vp hL (Y2.regs c' YN)).2
theorem QH{l:List Int}{k n:Int}(h:DOk l k) (hn:0 < n) (hn2:n<=9223372036854775807):Ok (dT n l k) λr=>∃v k',r=(v,l,k',())/\0<=v/\v < n/\DOk l k':=by
 have:Ok ((dT n l k).bind some) λr=>∃v k',r=(v,l,k',())/\0<=v/\v < n/\DOk l k':=fY h hn hn2 λv k' h0 h1 h2=>Ok.ret ⟨_,_,rfl,h0,h1,h2⟩
 simp_all
theorem CU.setReg{n:Int}{ss:List Int}{rg:List (List DCn)}{vs:List DTs}{r o:Nat}{x:List DCn}{c:DCn}(h:CU n ss rg vs) (hx:rg[r]?=some x) (hc:Pr ss c):CU n ss (rg.set r (x.set o c)) vs:=by
 refine⟨by rw[List.length_set];exact h.rlen,λj y z hy hz=>?_,jA h.cells (jA (h.cells x (dR hx)) hc),h.vlen,h.views⟩;by_cases e:r=j
 ·subst e;rw[show (rg.set r (x.set o c))[r]?=some (x.set o c) from iF (oGS hx).1 _] at hy;cases hy;rw[List.length_set];exact h.fit r x z hx hz
 ·rw[oh e] at hy;exact h.fit j y z hy hz
theorem CU.setView{n:Int}{ss:List Int}{rg:List (List DCn)}{vs:List DTs}{k:Nat}{v:DTs}(h:CU n ss rg vs) (hv:SY n ss v):CU n ss rg (vs.set k v):=
 ⟨h.rlen,h.fit,h.cells,by rw[List.length_set];exact h.vlen,jA h.views hv⟩
set_option maxHeartbeats 4000000 in
theorem KC{l:List Int}{k:Int}(h:DOk l k):Ok (mL l k) λr=>∃code ss dt bs key cs ls ts k',r=(code,ss,dt,bs,key,cs,ls,ts,l,k',())/\jE code ss dt/\W16 key/\MOk 1152 ss bs cs ls ts/\DOk l k':=by
 unfold mL;refine (RJ h).bind ?_;rintro _ ⟨code,ss,dt,bs,key,cs,ls,ts,ck,rn,ins,d,os,us,ow,qs,rec,js,k1,rfl,X6,hR,h1⟩;dsimp only;have hp:=hR.prog;have hM:=hR.mach;have hL:=hM.lay;have hs1:=hp.sz.1;obtain⟨_,en,v,k2,rfl,v0,v1,h2⟩:=QH (n:=3) h1 (by decide) (by decide);rw[en];simp only[oBS];by_cases hv:v=0
 ·simp only[beq_iff_eq.2 hv,oCT,IX (code:=code) (dt:=dt) hM,oBS];have hS:=IW (key:=key) hM;generalize Fc bs ss key cs ls=rg at hS;generalize ts.map (wM bs ss key)=vs at hS;obtain⟨x,hx⟩:∃x,rg[0]?=some x:=⟨_,oGE (by have:=hS.rlen;omega)⟩
  have hxl:x.length<=32:=by
   obtain⟨z,hz⟩:∃z,ss[0]?=some z:=⟨_,oGE (by omega)⟩;have:=hS.fit 0 x z hx hz;have:=hp.sz.2.2 z (dR hz);omega
  delta dQ;simp only[show dO rg 0=some x from hx,oBS]
  obtain⟨y,e,YO,k3,a,b,rfl,hS3,h3⟩:=gK (f:=mp) (n:=NN) (s:=((x.length:Int),0,l,k2,(),(),(),(),0,(),(),(),code,ss,dt,bs,key,cs,ls,ts,ck,rn,ins,d,os,us,ow,qs,rec,js,bs,key,cs,ls,ts,rg,vs,()))
   (P:=λs'=>∃(q:Nat) (k':Int) (YO:List (List DCn)) (x':List DCn),s'=((x.length:Int),(q:Int),l,k',(),(),(),(),0,(),(),(),code,ss,dt,bs,key,cs,ls,ts,ck,rn,ins,d,os,us,ow,qs,rec,js,bs,key,cs,ls,ts,YO,vs,())/\DOk l k'/\CU 1152 ss YO vs/\YO[0]?=some x'/\x'.length=x.length)
   (R:=λy=>∃YO k' a b,y=(a,b,false,l,k',(),(),(),(),0,(),(),(),code,ss,dt,bs,key,cs,ls,ts,ck,rn,ins,d,os,us,ow,qs,rec,js,bs,key,cs,ls,ts,YO,vs,())/\CU 1152 ss YO vs/\DOk l k') (m:=λs'=>(s'.1 - s'.2.1).toNat) ⟨0,k2,rg,x,rfl,h2,hS,hx,rfl⟩ (by unfold NN;dsimp only;omega) (by
    rintro _ ⟨q,k',YO,x',rfl,hd,YA,V5,V7⟩;unfold mp;dsimp only
    (with_reducible refine dM (λZ'=>?_) λZ'=>?_)
    ·refine Ok.bind (P:=λr=>∃(k':Int) (YO:List (List DCn)) (x':List DCn),r=((x.length:Int),(q:Int),l,k',(),(),(),(),0,(),(),(),code,ss,dt,bs,key,cs,ls,ts,ck,rn,ins,d,os,us,ow,qs,rec,js,bs,key,cs,ls,ts,YO,vs,())/\DOk l k'/\CU 1152 ss YO vs/\YO[0]?=some x'/\x'.length=x.length) ?_ ?_
     ·refine fY (n:=3) hd (by decide) (by decide) λu k4 u0 u1 h4=>?_;dsimp only
      (with_reducible refine dM (λZ3=>?_) λZ3=>?_)
      ·obtain⟨c,hc⟩:∃c,x'[q]?=some c:=⟨_,oGE (by omega)⟩;simp only[show dO YO 0=some x' from V5,oBS];refine (JG hp.sz h4).bind ?_;rintro _ ⟨t,v,rr,o,k5,rfl,Uc,h5⟩;dsimp only;simp only[dP,oBS,show dO x' q=some c from hc,eJ V5,eJ hc];exact Ok.ret ⟨_,_,_,rfl,h5,YA.setReg V5 Uc,iF (oGS V5).1 _,by rw[List.length_set];exact V7⟩
      ·exact Ok.ret ⟨_,_,_,rfl,h4,YA,V5,V7⟩
     ·rintro _ ⟨k',YO,x',rfl,hd,YA,V5,V7⟩;dsimp only;rw[dU (x:=(q:Int)+1) (by omega) (by omega)];exact Ok.ret ⟨⟨q+1,k',YO,x',rfl,hd,YA,V5,V7⟩,by dsimp only;omega⟩
    ·exact Ok.ret ⟨_,_,_,_,rfl,YA,hd⟩)
  simp only[e,oBS]
  obtain⟨y,e,Za,k4,a,b,rfl,hS4,h4⟩:=gK (f:=mo) (n:=NN) (s:=((vs.length:Int),0,l,k3,(),(),(),(),0,(),(),(),code,ss,dt,bs,key,cs,ls,ts,ck,rn,ins,d,os,us,ow,qs,rec,js,bs,key,cs,ls,ts,YO,vs,()))
   (P:=λs'=>∃(q:Nat) (k':Int) (Za:List DTs),s'=((vs.length:Int),(q:Int),l,k',(),(),(),(),0,(),(),(),code,ss,dt,bs,key,cs,ls,ts,ck,rn,ins,d,os,us,ow,qs,rec,js,bs,key,cs,ls,ts,YO,Za,())/\DOk l k'/\CU 1152 ss YO Za)
   (R:=λy=>∃Za k' a b,y=(a,b,false,l,k',(),(),(),(),0,(),(),(),code,ss,dt,bs,key,cs,ls,ts,ck,rn,ins,d,os,us,ow,qs,rec,js,bs,key,cs,ls,ts,YO,Za,())/\CU 1152 ss YO Za/\DOk l k') (m:=λs'=>(s'.1 - s'.2.1).toNat) ⟨0,k3,vs,rfl,h3,hS3⟩ (by unfold NN;dsimp only;have:=hS3.vlen;omega) (by
    rintro _ ⟨q,k',Za,rfl,hd,YA⟩;have YV:=hS3.vlen;have V4:=YA.vlen;unfold mo;delta dQ;dsimp only
    (with_reducible refine dM (λZ'=>?_) λZ'=>?_)
    ·obtain⟨w,hw⟩:∃w,Za[q]?=some w:=⟨_,oGE (by omega)⟩;have hw8:=(YA.views w (dR hw)).len;rw[dP];simp only[oBS,show dO Za q=some w from hw];refine Ok.bind (P:=λr=>∃(k':Int) (Za:List DTs),r=((vs.length:Int),(q:Int),l,k',(),(),(),(),0,(),(),(),code,ss,dt,bs,key,cs,ls,ts,ck,rn,ins,d,os,us,ow,qs,rec,js,bs,key,cs,ls,ts,YO,Za,())/\DOk l k'/\CU 1152 ss YO Za) ?_ ?_
     ·refine Ok.loop (P:=λs'=>∃(o:Nat) (k':Int) (Za:List DTs),s'=((q:Int),(vs.length:Int),(q:Int),(w.2.2.2.2.2.2.2.length:Int),(o:Int),l,k',(),(),(),(),0,(),(),(),code,ss,dt,bs,key,cs,ls,ts,ck,rn,ins,d,os,us,ow,qs,rec,js,bs,key,cs,ls,ts,YO,Za,())/\DOk l k'/\CU 1152 ss YO Za)
       (R:=λy=>∃Za k' a b c,y=((q:Int),(vs.length:Int),(q:Int),a,b,c,l,k',(),(),(),(),0,(),(),(),code,ss,dt,bs,key,cs,ls,ts,ck,rn,ins,d,os,us,ow,qs,rec,js,bs,key,cs,ls,ts,YO,Za,())/\CU 1152 ss YO Za/\DOk l k') (m:=λs'=>(s'.2.2.2.1 - s'.2.2.2.2.1).toNat) ⟨0,k',Za,rfl,hd,YA⟩ (by unfold NN;dsimp only;omega) ?_ ?_
      ·rintro _ ⟨o,k',Za,rfl,hd,YA⟩;have V4:=YA.vlen;unfold qh;dsimp only
       (with_reducible refine dM (λZ3=>?_) λZ3=>?_)
       ·refine Ok.bind (P:=λr=>∃(k':Int) (Za:List DTs),r=((q:Int),(vs.length:Int),(q:Int),(w.2.2.2.2.2.2.2.length:Int),(o:Int),l,k',(),(),(),(),0,(),(),(),code,ss,dt,bs,key,cs,ls,ts,ck,rn,ins,d,os,us,ow,qs,rec,js,bs,key,cs,ls,ts,YO,Za,())/\DOk l k'/\CU 1152 ss YO Za) ?_ ?_
        ·refine fY (n:=3) hd (by decide) (by decide) λu k4 u0 u1 h4=>?_;dsimp only
         (with_reducible refine dM (λhcc=>?_) λhcc=>?_)
         ·obtain⟨w',WH⟩:∃w',Za[q]?=some w':=⟨_,oGE (by omega)⟩;have Y2:=YA.views w' (dR WH);have hw8':=Y2.len;obtain⟨cc,hcc⟩:∃cc,w'.2.2.2.2.2.2.2[o]?=some cc:=⟨_,oGE (by omega)⟩;simp only[dP,oBS,show dO Za q=some w' from WH];refine (JG hp.sz h4).bind ?_;rintro _ ⟨t,v,rr,o',k5,rfl,Uc,h5⟩;dsimp only;simp only[show dO w'.2.2.2.2.2.2.2 o=some cc from hcc,oBS,eJ WH,eJ hcc];exact Ok.ret ⟨_,_,rfl,h5,YA.setView ⟨Y2.state,Y2.pc,Y2.count,Y2.handler,Y2.saved,Y2.trap,Y2.code,by dsimp only;rw[List.length_set];exact hw8',jA Y2.regs Uc⟩⟩
         ·exact Ok.ret ⟨_,_,rfl,h4,YA⟩
        ·rintro _ ⟨k',Za,rfl,hd,YA⟩;dsimp only;rw[dU (x:=(o:Int)+1) (by omega) (by omega)];exact Ok.ret ⟨⟨o+1,k',Za,rfl,hd,YA⟩,by dsimp only;omega⟩
       ·exact Ok.ret ⟨_,_,_,_,_,rfl,YA,hd⟩
      ·rintro _ ⟨Za,k',a,b,c,rfl,YA,hd⟩;dsimp only;refine fY (n:=4) hd (by decide) (by decide) λu k4 u0 u1 h4=>?_;dsimp only
       (with_reducible refine dM (λhcc=>?_) λhcc=>?_)
       ·refine fY (n:=5) h4 (by decide) (by decide) λu2 k5 u20 u21 h5=>?_;dsimp only;obtain⟨w',WH⟩:∃w',Za[q]?=some w':=⟨_,oGE (by have:=YA.vlen;omega)⟩;have Y2:=YA.views w' (dR WH);simp only[dP,oBS,show dO Za q=some w' from WH,eJ WH];exact Ok.ret ⟨_,_,rfl,h5,YA.setView ⟨⟨u20,by dsimp only;omega⟩,Y2.pc,Y2.count,Y2.handler,Y2.saved,Y2.trap,Y2.code,Y2.len,Y2.regs⟩⟩
       ·exact Ok.ret ⟨_,_,rfl,h4,YA⟩
     ·rintro _ ⟨k',Za,rfl,hd,YA⟩;dsimp only;rw[dU (x:=(q:Int)+1) (by omega) (by omega)];exact Ok.ret ⟨⟨q+1,k',Za,rfl,hd,YA⟩,by dsimp only;omega⟩
    ·exact Ok.ret ⟨_,_,_,_,rfl,YA,hd⟩)
  simp only[e,oBS];obtain⟨_,ei,Z4,rfl,hM',_⟩:=M1 (key:=key) hp hL hS4 (by decide);simp only[ei,oBS,oCT];exact Ok.ret ⟨_,_,_,_,_,_,_,_,_,rfl,hp,X6,hM',h4⟩
 ·simp only[oBF hv,oCF];exact Ok.ret ⟨_,_,_,_,_,_,_,_,_,rfl,hp,X6,hM,h2⟩
def ME:List CT->CT
 | []=>.nat
 | [t]=>t
 | t :: u :: r=>.pair t (ME (u :: r))
def ui:(l:List CT)->HL den l->den (ME l)
 | [],_=>(0:Nat)
 | [_],h=>h.1
 | _ :: u :: r,h=>(h.1,ui (u :: r) h.2)
def encL:(l:List CT)->HL den l->List TV
 | [],_=>[]
 | t :: r,h=>enc t h.1++encL r h.2
theorem JA:∀(l:List CT) (h:HL den l),enc (ME l) (ui l h)=encL l h
 | [],_=>rfl
 | [_],h=>(List.append_nil _).symm
 | _ :: u :: r,h=>by
  show enc _ h.1++enc (ME (u :: r)) (ui (u :: r) h.2)=_;rw[JA (u :: r) h.2];rfl
def IO:(c:CT)->den c->Prop
 | .int k,n=>(Lit.int k n).wf=true
 | .str,s=>ByteArray.size s<=maxLen
 | .row _ t,xs=>List.length xs<=maxLen/\∀x∈xs,IO t x
 | .pair a b,x=>IO a x.1/\IO b x.2
 | _,_=>True
def GoodL:(l:List CT)->HL den l->Prop
 | [],_=>True
 | t :: r,h=>IO t h.1/\GoodL r h.2
theorem GM:∀(l:List CT) (h:HL den l),GoodL l h->IO (ME l) (ui l h)
 | [],_,_=>trivial
 | [_],_,g=>g.1
 | _ :: u :: r,h,g=>⟨g.1,GM (u :: r) h.2 g.2⟩
def appL:(l m:List CT)->HL den l->HL den m->HL den (l++m)
 | [],_,_,k=>k
 | _ :: r,m,h,k=>(h.1,appL r m h.2 k)
theorem JB:∀(l m:List CT) (h:HL den l) (k:HL den m),encL (l++m) (appL l m h k)=encL l h++encL m k
 | [],_,_,_=>rfl
 | t :: r,m,h,k=>by
  show enc t h.1++encL (r++m) (appL r m h.2 k)=(enc t h.1++encL r h.2)++_;rw[JB r m h.2 k,List.append_assoc]
theorem Js:∀(l m:List CT) (h:HL den l) (k:HL den m),GoodL l h->GoodL m k->GoodL (l++m) (appL l m h k)
 | [],_,_,_,_,g=>g
 | _ :: r,m,h,k,g,g'=>⟨g.1,Js r m h.2 k g.2 g'⟩
def RelL(w:World):List TV->List Value->Prop
 | [],[]=>True
 | t :: ts,v :: vs=>p8 w (λ_=>True) t v/\RelL w ts vs
 | _,_=>False
theorem RelL.app{w:World}:∀{a:List TV}{x:List Value}{b:List TV}{y:List Value},RelL w a x->RelL w b y->RelL w (a++b) (x++y)
 | [],[],_,_,_,h=>h
 | _ :: a,_ :: x,_,_,g,h=>⟨g.1,RelL.app (a:=a) (x:=x) g.2 h⟩
 | [],_ :: _,_,_,g,_=>g.elim
 | _ :: _,[],_,_,g,_=>g.elim
theorem RelL.len{w:World}:∀{a:List TV}{x:List Value},RelL w a x->a.length=x.length
 | [],[],_=>rfl
 | _ :: a,_ :: x,g=>by rw[oLC,oLC,RelL.len (a:=a) (x:=x) g.2]
 | [],_ :: _,g=>g.elim
 | _ :: _,[],g=>g.elim
theorem RelL.get{w:World}:∀{a:List TV}{x:List Value},RelL w a x->∀j (h:j < a.length) (h':j < x.length),p8 w (λ_=>True) a[j] x[j]
 | _ :: _,_ :: _,g,0,_,_=>g.1
 | _ :: a,_ :: x,g,j+1,h,h'=>RelL.get (a:=a) (x:=x) g.2 j (by simpa using h) (by simpa using h')
 | [],_,_,_,h,_=>by simp at h
 | _ :: _,[],g,_,_,_=>g.elim
def RG(P:Program) (g:TypeId->Option (List CT)):Nat->List Field->Option (List CT)
 | _,[]=>some []
 | off,f :: fs=>match g f.type with
  | some l=>if f.offset=off/\l.length=P.cellsOf f.type then (RG P g (off+l.length) fs).map (l++·) else none
  | none=>none
def zU(P:Program):Nat->TypeId->Option (List CT)
 | 0,_=>none
 | n+1,t=>match P.underlying t with
  | some .bool=>some [.bool]
  | some (.int k)=>some [.int k]
  | some .string=>some [.str]
  | some (.slice e)=>match zU P n e with
   | some l=>if l.length=P.cellsOf e then some [.row false (ME l)] else none
   | none=>none
  | some (.struct fs)=>match RG P (zU P n) 0 fs.toList with
   | some l=>if l.length=P.cellsOf t then some l else none
   | none=>none
  | _=>none
section
variable {H:Type} {ec:TypeId×Value->H} {P:Program} {w:World} {base:Nat} {spare:Nat->Bool} {held:Bool}
theorem MZ{g:TypeId->Option (List CT)}{m:Nat}{cs:List Value}
 (ih:∀t L,g t=some L->∀cs x,DataW.trod ec P w base spare held m t cs=some x->∃h:HL den L,GoodL L h/\RelL w (encL L h) cs) :
 ∀(fs:List Field) (off:Nat) (L:List CT),RG P g off fs=some L->(∀f∈fs,∃x,DataW.trod ec P w base spare held m f.type ((cs.drop f.offset).take (P.cellsOf f.type))=some x) ->
  ∃h:HL den L,GoodL L h/\RelL w (encL L h) ((cs.drop off).take L.length):=by
 intro fs
 induction fs with
 | nil=>
  intro off L hL _
  injection hL with hL
  subst hL;exact⟨(),trivial,trivial⟩
 | cons f fs ihf=>
  intro off L hL hx;unfold RG at hL;split at hL
  ·rename_i l hg;split at hL
   ·rename_i ho;obtain⟨rfl,hlen⟩:=ho
    cases hr:RG P g (f.offset+l.length) fs with
    | none=>simp_all
    | some L2=>
     rw[hr] at hL
     injection hL with hL
     subst hL;obtain⟨x,h1⟩:=hx f List.mem_cons_self;obtain⟨h,g1,r1⟩:=ih _ _ hg _ _ h1;have ⟨k,g2,r2⟩:=ihf _ _ hr λf' hf'=>hx f' (List.mem_cons_of_mem _ hf');refine⟨appL l L2 h k,Js _ _ _ _ g1 g2,?_⟩;rw[JB,List.length_append,List.take_add,List.drop_drop];rw[hlen];rw[hlen] at r2;exact r1.app r2
   ·cases hL
  ·cases hL
theorem R1:∀(n:Nat) (t:TypeId) (L:List CT),zU P n t=some L->∀(Vy:Nat) (cs:List Value) (x:DataW H×List MemPlace),DataW.trod ec P w base spare held Vy t cs=some x ->
 ∃h:HL den L,GoodL L h/\RelL w (encL L h) cs:=by
 intro n
 induction n with
 | zero=>intro t L h;cases h
 | succ n ih=>
  intro t L hL Vy cs x hx;unfold zU at hL;split at hL
  ·rename_i ht
   injection hL with hL
   subst hL;obtain⟨b,rfl,_⟩:=DataW.trod_bool ht hx;exact⟨(b,()),⟨trivial,trivial⟩,.v rfl,trivial⟩
  ·rename_i k ht
   injection hL with hL
   subst hL;obtain⟨z,rfl,_,hw⟩:=DataW.trod_int ht hx;exact⟨(z,()),⟨hw,trivial⟩,.v rfl,trivial⟩
  ·rename_i ht
   injection hL with hL
   subst hL;obtain⟨s,rfl,_,hs⟩:=DataW.trod_string ht hx;exact⟨(s,()),⟨hs,trivial⟩,.v rfl,trivial⟩
  ·rename_i e ht;split at hL
   ·rename_i l hl;split at hL
    ·rename_i hsz
     injection hL with hL
     subst hL;rcases DataW.trod_slice ht hx with ⟨rfl,_⟩ | ⟨a,len,cap,elems,rest,m,_,rfl,_,_,X8,hmax,Y5,Z5,_,_⟩
     ·exact⟨([],()),⟨⟨Nat.zero_le _,λx hx=>by cases hx⟩,trivial⟩,.sl (c:=[]) 1 (λ_ _=>undef) (λi h=>by simp at h) (Nat.le_refl _) (Nat.zero_le _) (λ_=>rfl) (λi j h=>by simp at h) (λi j h=>by simp at h),trivial⟩
     ·have each:∀i:Fin len,∃p:HL den l×List Value,GoodL l p.1/\RelL w (encL l p.1) p.2/\w.cells? base (a.add (i.1*P.cellsOf e)) (P.cellsOf e)=some p.2:=by
       intro i;have h1:=Z5 i.1 i.2;rw[oGE (by omega)] at h1;obtain⟨Z4,h2,h3⟩:=Option.bind_eq_some_iff.1 h1;obtain⟨h,g,r⟩:=ih _ _ hl _ _ _ h3;exact⟨(h,Z4),g,r,h2⟩
      obtain⟨f,hf⟩:=Classical.axiomOfChoice each
      have clen:∀i,(encL l (f i).1).length=l.length:=λi=>by
       rw[(hf i).2.1.len,(World.cells?_some (hf i).2.2).2.1,hsz]
      have key:p8 w (λ_=>True) (.sl ((List.ofFn λi:Fin len=>ui l (f i).1).map (enc (ME l)))) (.slice (some a) ((List.ofFn λi:Fin len=>ui l (f i).1).map (enc (ME l))).length cap):=by
       have el:((List.ofFn λi:Fin len=>ui l (f i).1).map (enc (ME l))).length=len:=by simp
       have eg:∀i (hi:i < ((List.ofFn λi:Fin len=>ui l (f i).1).map (enc (ME l))).length),((List.ofFn λi:Fin len=>ui l (f i).1).map (enc (ME l)))[i]=encL l (f ⟨i,by omega⟩).1:=by
        intro i hi;simp[JA]
       refine .sl l.length (λi j=>if h:i < len then (f ⟨i,h⟩).2.getD j undef else undef) (λi hi=>by rw[eg i hi,clen]) (by rw[el];exact X8) hmax (λh=>by cases h) (λi j hi hj=>?_) (λi j hi hj=>?_)
       ·rw[el] at hi
        have cell:∀i' (ZG:i' < len) j',j' < l.length->w.cell? ((a.add (i'*l.length)).add j')=some ((f ⟨i',ZG⟩).2.getD j' undef):=by
         intro i' ZG j' ZR;have h1:=World.cells?_some (hf ⟨i',ZG⟩).2.2;have h2:=h1.2.2 j' (by omega);rw[hsz];rw[h2]
         have:j' < (f ⟨i',ZG⟩).2.length:=by rw[h1.2.1];omega
         simp[this]
        have h0:=World.cell?_spot (cell 0 (by omega) 0 (by omega));obtain⟨b,o,spot⟩:=a
        have TF:spot=none:=by simpa [Addr.add] using h0
        subst TF;refine⟨b,o,rfl,trivial,?_⟩;have h2:=cell i hi j hj;rw[Go.WideShapes.add_plain,Go.WideShapes.add_plain] at h2;rw[dif_pos hi,<- h2,Nat.add_assoc]
       ·rw[el] at hi;have hr:=(hf ⟨i,hi⟩).2.1
        have XD:j < (encL l (f ⟨i,hi⟩).1).length:=by rw[eg i (by omega)] at hj;exact hj
        have Ug:j < (f ⟨i,hi⟩).2.length:=by rw[<- hr.len];exact XD
        have h3:=hr.get j XD Ug
        simp_all
      rw[List.length_map,List.length_ofFn] at key;refine⟨(List.ofFn λi:Fin len=>ui l (f i).1,()),⟨⟨by rw[List.length_ofFn];omega,λx hx=>?_⟩,trivial⟩,key,trivial⟩;obtain⟨i,rfl⟩:=List.mem_ofFn.1 hx;exact GM _ _ (hf i).1
    ·cases hL
   ·cases hL
  ·rename_i fs ht;split at hL
   ·rename_i l hl;split at hL
    ·rename_i hsz
     injection hL with hL
     subst hL;obtain⟨xs,m,_,_,hlen,hxl,hf⟩:=DataW.trod_struct ht hx
     obtain⟨h,g,r⟩:=MZ (cs:=cs) (m:=m) (λt L hL cs x hx=>ih t L hL m cs x hx) fs.toList 0 l hl (by
      intro f hfm;obtain⟨i,hi,rfl⟩:=List.mem_iff_getElem.1 hfm
      have Xs:i < fs.size:=by simpa using hi
      have h1:=hf i fs[i] (by simp[Xs]);rw[oGE (by omega)] at h1
      exact⟨_,by simpa using h1⟩)
     refine⟨h,g,?_⟩;rw[List.drop_zero,hsz,<- hlen,List.take_length] at r;exact r
    ·cases hL
   ·cases hL
  ·cases hL
theorem intake_arg(n:Nat) {t:TypeId}{L:List CT}{v:Value}{d:DataW H}{p:List MemPlace}(hL:zU P n t=some L) (h:DataW.Trod ec P w base spare held t v d p) :
 ∃h:HL den L,GoodL L h/\RelL w (encL L h) v.cells.toList:=by
 have ⟨Vy,hf⟩:=h;exact R1 n t L hL Vy _ _ hf
end
theorem plain_one{w:World}{t:TV}{v:Value}(r:RelL w [t] [v]):IL w t v:=r.1.plain
theorem QK{a b:Int}(ha:ze a) (hb:0 < b) (ZZ:b<=9223372036854775807):iS a b=some (a % b,()):=by
 have hne:(b != 0)=true:=by simp;omega
 have hm:=Int.tmod_lt_of_pos a hb
 have hm2:-b < Int.tmod a b:=by
  have:=Int.tmod_lt_of_pos (-a) hb;rw[Int.neg_tmod] at this;omega
 have hq:a % b=Int.tmod a b % b:=by
  have e:=Int.mul_tdiv_add_tmod a b;rw[Int.add_comm] at e
  conv=>lhs;rw[<- e]
  exact Int.add_mul_emod_self_left ..
 unfold iS;simp only[hne,oCT];by_cases h:Int.tmod a b < 0
 ·simp[h,decide_true,oCT,oBS];rw[dU (by omega) (by omega),hq,<- Int.emod_eq_of_lt (a:=Int.tmod a b+b) (b:=b) (by omega) (by omega),Int.add_emod_right]
 ·simp[h,decide_false,oCF];rw[hq,Int.emod_eq_of_lt (by omega) hm]
theorem sJ{a b:Int}(ha:ze a) (hb:0 < b) (ZZ:b<=9223372036854775807):is a b=some (a % b,()):=by
 unfold is;rw[QK ha hb ZZ];rfl
theorem g64{h:den I64}(g:IO I64 h):ze h:=bounds_i64 g
theorem R4{h:den RI}(g:IO RI h):(∀z∈(show List Int from h),ze z)/\(show List Int from h).length<=maxLen:=⟨λz hz=>bounds_i64 (g.2 z hz),g.1⟩
theorem Ri{bs ss:List Int}{key:Int}{r:Nat}{o b z:Int}(h:LV bs ss) (hb:bs[r]?=some b) (hz:ss[r]?=some z) (o0:0<=o) (o1:o < z) (bz:b+z<=512) (b0:0<=b):kC bs key ss (r:Int) o=some (b+o,0,()):=by
 have hr:=(oGS hz).1;have Yj:=(oGS hb).1;unfold kC k9;delta dQ;dsimp only;rw[oDT (show (r:Int)>=0 by omega),oDT (show (r:Int) < ss.length by omega),oDT (show o>=0 by omega),oDF (show ¬ (r:Int)>=bs.length by omega),dP];simp[show dO ss r=some z from hz,show dO bs r=some b from hb];rw[oDT o1,dU (by omega) (by omega)];rfl
theorem Qv{S T:Type}{f:S->Option (S⊕T)}(st:Nat->S) {n N:Nat}{bad good:T}(p:Nat->Prop) (hn:n < N)
 (h:∀i,i < n->(∀j,j < i->p j)->(p i/\f (st i)=some (.inl (st (i+1))))\/(¬ p i/\f (st i)=some (.inr bad))) (he:f (st n)=some (.inr good)) :
 ((∀i,i < n->p i)/\dW f N (st 0)=some good)\/((¬ ∀i,i < n->p i)/\dW f N (st 0)=some bad):=by
 have key:∀k i,i+k=n->(∀j,j < i->p j)->∀N,k < N->((∀i,i < n->p i)/\dW f N (st i)=some good)\/((¬ ∀i,i < n->p i)/\dW f N (st i)=some bad):=by
  intro k
  induction k with
  | zero=>
   intro i hi hp N hN
   obtain rfl:i=n:=by omega
   obtain⟨N',rfl⟩:∃N',N=N'+1:=⟨N - 1,by omega⟩;exact .inl ⟨hp,by simp only[dW,he,oBS]⟩
  | succ k ih=>
   intro i hi hp N hN;obtain⟨N',rfl⟩:∃N',N=N'+1:=⟨N - 1,by omega⟩;rcases h i (by omega) hp with ⟨US,e⟩ | ⟨US,e⟩
   ·simp only[dW,e];refine ih (i+1) (by omega) (λj hj=>?_) N' (by omega);by_cases hji:j=i
    ·rw[hji];exact US
    ·exact hp j (by omega)
   ·exact .inr ⟨λg=>US (g i (by omega)),by simp only[dW,e,oBS]⟩
 simp_all
def Cb(o:Option (Bool×Unit)) (p:Prop):Prop:=(p/\o=some (true,()))\/(¬ p/\o=some (false,()))
theorem Cb.val{o:Option (Bool×Unit)}{p:Prop}(h:Cb o p):∃b,o=some (b,())/\(b=true↔p):=by
 rcases h with ⟨h,e⟩ | ⟨h,e⟩
 all_goals simp_all
theorem Cb.same{o o':Option (Bool×Unit)}{p:Prop}(h:Cb o p) (h':Cb o' p):o=o':=by
 rcases h with ⟨h,e⟩ | ⟨h,e⟩<;>rcases h' with ⟨h',e'⟩ | ⟨h',e'⟩
 ·rw[e,e']
 ·simp_all
 ·simp_all
 ·rw[e,e']
theorem Ht{ss:List Int}(h:ss.length<=1000):Cb (gH ss) (xG ss):=by
 have ⟨⟨v,u⟩,e,hv⟩:=Hp h
 cases v with
 | true=>exact .inl ⟨hv.1 rfl,e⟩
 | false=>exact .inr ⟨λg=>(by simp_all),e⟩
theorem SN{bs ss:List Int}{key:Int}(hb:bs.length<=1000) (hs:ss.length<=1000) (hi:∀b∈bs,ze b):Cb (gG bs key ss) (LV bs ss):=by
 unfold gG;rcases Ht hs with ⟨hz,e⟩ | ⟨hz,e⟩
 rotate_left
 ·rw[e];exact .inr ⟨λh=>hz h.1,rfl⟩
 rw[e];delta dQ;simp only[oBS,oNT,oCF];by_cases hl:(bs.length:Int)=ss.length
 rotate_left
 ·rw[bne_iff_ne.2 hl];exact .inr ⟨λh=>hl (by rw[h.2.1]),rfl⟩
 rw[bne_eq_false_iff_eq.2 hl];have h4:=hz.2.1
 have W5:=Qv (f:=fN) (N:=NN) (bad:=.inl (false,())) (good:=.inr (ss,bs,(bs.length:Int),(bs.length:Int),false,bs,key,())) (λi=>(ss,bs,(bs.length:Int),(i:Int),bs,key,())) (n:=bs.length) (λi=>p6 bs ss i) (by unfold NN;omega) (λi ZG WZ=>by
  obtain⟨b,X2⟩:∃b,bs[i]?=some b:=⟨_,oGE ZG⟩;obtain⟨z,Xc⟩:∃z,ss[i]?=some z:=⟨_,oGE (by omega)⟩;have Yc:=hz.2.2 z (dR Xc);have UB:=hi b (dR X2);unfold ze at UB;unfold fN;delta dQ;dsimp only;rw[oDT (show (i:Int) < bs.length by omega),dP];simp only[oCT,oBS,show dO bs i=some b from X2,show dO ss i=some z from Xc];rw[dU (x:=512 - z) (by omega) (by omega)];by_cases h0:b < 0
  ·rw[oDT h0];exact .inr ⟨λh=>by unfold p6 at h;rw[ef X2] at h;omega,rfl⟩
  rw[oDF h0];by_cases h1:b > 512 - z
  ·rw[oDT h1];exact .inr ⟨λh=>by unfold p6 at h;rw[ef X2,ef Xc] at h;omega,rfl⟩
  rw[oDF h1]
  have Vm:(kU bs 0 (Nat.sub i 0)).length=i:=by unfold kU;rw[oLT,List.drop_zero];show min i _=i;omega
  rw[show ir 0 i bs.length=true by unfold ir;simp;omega,Vm];simp only[oCT,oCF]
  rcases Qv (f:=fO) (N:=NN) (bad:=.inl (false,())) (good:=.inr (ss,(i:Int),b,bs,(bs.length:Int),(i:Int),kU bs 0 (Nat.sub i 0),(i:Int),(i:Int),false,bs,key,())) (λj=>(ss,(i:Int),b,bs,(bs.length:Int),(i:Int),kU bs 0 (Nat.sub i 0),(i:Int),(j:Int),bs,key,())) (n:=i) (λk=>¬ (bs.getD i 0<=bs.getD k 0+ss.getD k 0/\bs.getD k 0<=bs.getD i 0+ss.getD i 0)) (by unfold NN;omega) (λj hj _=>by
   obtain⟨c,ZJ⟩:∃c,bs[j]?=some c:=⟨_,oGE (by omega)⟩;obtain⟨y,VM⟩:∃y,ss[j]?=some y:=⟨_,oGE (by omega)⟩;have Xl:=hz.2.2 y (dR VM);have hc:=WZ j hj;unfold p6 at hc;rw[ef ZJ,ef VM] at hc
   have hx:(dO (kU bs 0 (Nat.sub i 0)) j)=some c:=by
    unfold dO kU;rw[List.getElem?_take,List.drop_zero,<- ZJ];exact oIP hj
   unfold fO;dsimp only;rw[oDT (show (j:Int) < i by omega),dP,dP];simp only[oCT,oBS,hx,show dO ss j=some y from VM,show dO ss i=some z from Xc];rw[dU (x:=b+z) (by omega) (by omega),dU (x:=c+y) (by omega) (by omega),ef X2,ef Xc,ef ZJ,ef VM];by_cases g1:b+z>=c
   ·rw[oDT g1];by_cases g2:c+y>=b
    ·simp_all
    ·rw[oDF g2];simp only[oCT,oCF];rw[dU (x:=(j:Int)+1) (by omega) (by omega)];exact .inl ⟨λh=>g2 (by omega),rfl⟩
   ·rw[oDF g1];simp only[oCT,oCF];rw[dU (x:=(j:Int)+1) (by omega) (by omega)]
    exact .inl ⟨λh=>g1 (by omega),rfl⟩) (by
   unfold fO;dsimp only;rw[oDF (show ¬ (i:Int) < i by omega)]
   rfl) with ⟨hp,e⟩ | ⟨hp,e⟩
  ·rw[show dW fO NN (ss,(i:Int),b,bs,(bs.length:Int),(i:Int),kU bs 0 (Nat.sub i 0),(i:Int),0,bs,key,())=_ from e];dsimp only;rw[dU (x:=(i:Int)+1) (by omega) (by omega)];refine .inl ⟨⟨?_,?_,hp⟩,rfl⟩
   ·rw[ef X2];omega
   ·rw[ef X2,ef Xc];omega
  ·rw[show dW fO NN (ss,(i:Int),b,bs,(bs.length:Int),(i:Int),kU bs 0 (Nat.sub i 0),(i:Int),0,bs,key,())=_ from e]
   exact .inr ⟨λh=>hp h.2.2,rfl⟩) (by
  unfold fN;dsimp only;rw[oDF (show ¬ (bs.length:Int) < bs.length by omega)]
  rfl)
 simp only[oCF];rcases W5 with ⟨hp,e⟩ | ⟨hp,e⟩
 ·rw[show dW fN NN (ss,bs,(bs.length:Int),0,bs,key,())=_ from e];exact .inl ⟨⟨hz,by omega,hp⟩,rfl⟩
 ·rw[show dW fN NN (ss,bs,(bs.length:Int),0,bs,key,())=_ from e];exact .inr ⟨λh=>hp h.2.2,rfl⟩
theorem Fb:mA=gH:=rfl
theorem Th{bs ss:List Int}{key:Int}(hb:bs.length<=1000) (hs:ss.length<=1000) (hi:∀b∈bs,ze b):Cb (j9 bs key ss) (LV bs ss):=by
 unfold j9;rw[Fb];rcases Ht hs with ⟨hz,e⟩ | ⟨hz,e⟩
 rotate_left
 ·rw[e];exact .inr ⟨λh=>hz h.1,rfl⟩
 rw[e];delta dQ;simp only[oBS,oNT,oCF];by_cases hl:(bs.length:Int)=ss.length
 rotate_left
 ·rw[bne_iff_ne.2 hl];exact .inr ⟨λh=>hl (by rw[h.2.1]),rfl⟩
 rw[bne_eq_false_iff_eq.2 hl];have h4:=hz.2.1
 have W5:=Qv (f:=gN) (N:=NN) (bad:=.inl (false,())) (good:=.inr (ss,bs,(bs.length:Int),(bs.length:Int),false,bs,key,())) (λi=>(ss,bs,(bs.length:Int),(i:Int),bs,key,())) (n:=bs.length) (λi=>p6 bs ss i) (by unfold NN;omega) (λi ZG WZ=>by
  obtain⟨b,X2⟩:∃b,bs[i]?=some b:=⟨_,oGE ZG⟩;obtain⟨z,Xc⟩:∃z,ss[i]?=some z:=⟨_,oGE (by omega)⟩;have Yc:=hz.2.2 z (dR Xc);have UB:=hi b (dR X2);unfold ze at UB;unfold gN;dsimp only;rw[oDT (show (i:Int) < bs.length by omega),dP];simp only[oCT,oBS,show dO bs i=some b from X2,show dO ss i=some z from Xc];by_cases h0:b < 0
  ·rw[oDT h0];exact .inr ⟨λh=>by unfold p6 at h;rw[ef X2] at h;omega,rfl⟩
  rw[oDF h0];by_cases h1:b>=512
  ·rw[oDT h1];exact .inr ⟨λh=>by unfold p6 at h;rw[ef X2,ef Xc] at h;omega,rfl⟩
  rw[oDF h1,dU (x:=b+z) (by omega) (by omega)];by_cases h2:b+z > 512
  ·rw[oDT h2];exact .inr ⟨λh=>by unfold p6 at h;rw[ef X2,ef Xc] at h;omega,rfl⟩
  rw[oDF h2];simp only[oCF,oBS]
  rcases Qv (f:=gO) (N:=NN) (bad:=.inl (false,())) (good:=.inr (ss,(i:Int),b,bs,(bs.length:Int),(i:Int),(i:Int),(i:Int),false,bs,key,())) (λj=>(ss,(i:Int),b,bs,(bs.length:Int),(i:Int),(i:Int),(j:Int),bs,key,())) (n:=i) (λk=>¬ (bs.getD i 0<=bs.getD k 0+ss.getD k 0/\bs.getD k 0<=bs.getD i 0+ss.getD i 0)) (by unfold NN;omega) (λj hj _=>by
   obtain⟨c,ZJ⟩:∃c,bs[j]?=some c:=⟨_,oGE (by omega)⟩;obtain⟨y,VM⟩:∃y,ss[j]?=some y:=⟨_,oGE (by omega)⟩;have Xl:=hz.2.2 y (dR VM);have hc:=WZ j hj;unfold p6 at hc;rw[ef ZJ,ef VM] at hc;unfold gO;dsimp only;rw[oDT (show (j:Int) < i by omega),dP,dP];simp only[oCT,oBS,show dO bs j=some c from ZJ,show dO ss j=some y from VM,show dO ss i=some z from Xc];rw[dU (x:=b+z) (by omega) (by omega),dU (x:=c+y) (by omega) (by omega),ef X2,ef Xc,ef ZJ,ef VM];by_cases g1:b<=c+y
   ·rw[oDT g1];by_cases g2:c<=b+z
    ·simp_all
    ·rw[oDF g2];simp only[oCT,oCF];rw[dU (x:=(j:Int)+1) (by omega) (by omega)];exact .inl ⟨λh=>g2 (by omega),rfl⟩
   ·rw[oDF g1];simp only[oCT,oCF];rw[dU (x:=(j:Int)+1) (by omega) (by omega)]
    exact .inl ⟨λh=>g1 (by omega),rfl⟩) (by
   unfold gO;dsimp only;rw[oDF (show ¬ (i:Int) < i by omega)]
   rfl) with ⟨hp,e⟩ | ⟨hp,e⟩
  ·rw[show dW gO NN (ss,(i:Int),b,bs,(bs.length:Int),(i:Int),(i:Int),0,bs,key,())=_ from e];dsimp only;rw[dU (x:=(i:Int)+1) (by omega) (by omega)];refine .inl ⟨⟨?_,?_,hp⟩,rfl⟩
   ·rw[ef X2];omega
   ·rw[ef X2,ef Xc];omega
  ·rw[show dW gO NN (ss,(i:Int),b,bs,(bs.length:Int),(i:Int),(i:Int),0,bs,key,())=_ from e]
   exact .inr ⟨λh=>hp h.2.2,rfl⟩) (by
  unfold gN;dsimp only;rw[oDF (show ¬ (bs.length:Int) < bs.length by omega)]
  rfl)
 simp only[oCF];rcases W5 with ⟨hp,e⟩ | ⟨hp,e⟩
 ·rw[show dW gN NN (ss,bs,(bs.length:Int),0,bs,key,())=_ from e];exact .inl ⟨⟨hz,by omega,hp⟩,rfl⟩
 ·rw[show dW gN NN (ss,bs,(bs.length:Int),0,bs,key,())=_ from e];exact .inr ⟨λh=>hp h.2.2,rfl⟩
theorem zt{α:Type}{l:List α}{k:Nat}{d a:α}(h:l[k]?=some a):l.getD k d=a:=by rw[oGD,h];rfl
structure StW (ss:List Int) (rg:List (List DCn)) (vs:List DTs):Prop where
 rlen:rg.length=ss.length
 fit:∀(j:Nat) x z,rg[j]?=some x->ss[j]?=some z->(x.length:Int)=z
 cells:∀x∈rg,∀c∈x,Pr ss c
 vlen:vs.length=4
 len:∀v∈vs,v.2.2.2.2.2.2.2.length=8
 regs:∀v∈vs,∀c∈v.2.2.2.2.2.2.2,Pr ss c
def Cv(bs:List Int) (key b:Int) (x:List DCn) (cs:List DCe):Nat->List DCe
 | 0=>cs
 | k+1=>(Cv bs key b x cs k).set (b+k).toNat (rY bs key (x.getD k (0,0,0,0)))
theorem zi{bs:List Int}{key b:Int}{x:List DCn}{cs:List DCe}:∀k,(Cv bs key b x cs k).length=cs.length
 | 0=>rfl
 | k+1=>by rw[Cv,List.length_set,zi k]
def EQ(bs:List Int) (key:Int) (rg:List (List DCn)):Nat->List DCe
 | 0=>List.replicate 512 (0,0)
 | r+1=>Cv bs key (bs.getD r 0) (rg.getD r []) (EQ bs key rg r) (rg.getD r []).length
theorem zq{bs:List Int}{key:Int}{rg:List (List DCn)}:∀r,(EQ bs key rg r).length=512
 | 0=>List.length_replicate
 | r+1=>by rw[EQ,zi,zq r]
theorem Fi:lG=fQ:=rfl
theorem MK{bs ss:List Int}{key:Int}{c:DCn}(h:LV bs ss) (hc:Pr ss c):m7 bs key ss c.1 c.2.1 c.2.2.1 c.2.2.2=some ((rY bs key c).1,(rY bs key c).2,0,()):=by
 unfold m7 rY;rw[Fi,kF hc];simp only[oBS,oNT,oCF];rcases hc with ⟨h1 | h1,h2,h3,h4⟩ | ⟨h1,h2,h3,n,h5,h6,h7⟩
 ·rw[h1];rfl
 ·rw[h1];rfl
 ·obtain⟨b,hb,b0,b1,b2,b3⟩:=Df h h3 h5 h6 h7;obtain⟨j,hj⟩:∃j:Nat,c.2.2.1=j:=⟨c.2.2.1.toNat,by omega⟩;rw[hj] at hb h5 ⊢;rw[oTN] at hb h5 ⊢;have hlt:=(oGS h5).1;obtain⟨b',z,Y0,hz,z1,U4,b0',bz⟩:=h.at_ (r:=j) hlt;rw[hb] at Y0;cases Y0;rw[h5] at hz;cases hz;rw[h1,ef hb,Ri h hb h5 h6 h7 bz b0'];rfl
section
variable {key:Int} {code:List DIn} {ss bs:List Int} {dt:List (List Int)} {rg:List (List DCn)} {vs:List DTs}
theorem RM(hL:LV bs ss) (h:StW ss rg vs) {r:Nat}(hr:r < rg.length) {x:List DCn}(hx:rg[r]?=some x) {cs:List DCe}(hc:cs.length=512) :
 dW gh NN (code,ss,dt,bs,key,rg,vs,(r:Int),rg,(rg.length:Int),(r:Int),x,(x.length:Int),0,(),0,(),(),(),bs,key,cs,eq,(),()) =
  some (code,ss,dt,bs,key,rg,vs,(r:Int),rg,(rg.length:Int),(r:Int),x,(x.length:Int),(x.length:Int),false,(),0,(),(),(),bs,key,Cv bs key (bs.getD r 0) x cs x.length,eq,(),()):=by
 have XU:=h.rlen;obtain⟨b,z,hb,hz,z1,U4,b0,bz⟩:=hL.at_ (r:=r) (by omega);have hf:=h.fit r x z hx hz;have V6:=h.cells x (dR hx);have hbd:bs.getD r 0=b:=ef hb;rw[hbd];refine kO (f:=gh) (N:=NN) (st:=λo=>(code,ss,dt,bs,key,rg,vs,(r:Int),rg,(rg.length:Int),(r:Int),x,(x.length:Int),(o:Int),(),0,(),(),(),bs,key,Cv bs key b x cs o,eq,(),())) (n:=x.length) (by unfold NN;omega) ?_ ?_
 ·intro o ho;obtain⟨c,YN⟩:∃c,x[o]?=some c:=⟨_,oGE ho⟩;unfold gh;dsimp only;rw[oDT (show (o:Int) < x.length by omega),dP,dP];simp only[oCT,oBS,show dO x o=some c from YN,show dO bs r=some b from hb,MK (key:=key) hL (V6 c (dR YN))];rw[dU (x:=b+o) (by omega) (by omega),dU (x:=(o:Int)+1) (by omega) (by omega)];obtain⟨a,ha⟩:∃a:Nat,b+o=a:=⟨(b+o).toNat,by omega⟩;obtain⟨y,hy⟩:∃y,(Cv bs key b x cs o)[a]?=some y:=⟨_,oGE (by rw[zi];omega)⟩;rw[ha,dP];simp only[oBS,show dO (Cv bs key b x cs o) a=some y from hy,eJ hy];refine Ok.ret ?_
  have e:Cv bs key b x cs (o+1)=(Cv bs key b x cs o).set a (rY bs key c):=by rw[Cv,ha,zt YN];rfl
  rw[e];rfl
 ·unfold gh;dsimp only;rw[oDF (show ¬ (x.length:Int) < x.length by omega)];exact Ok.ret rfl
theorem RL(hL:LV bs ss) (h:StW ss rg vs) {r:Nat}(hr:r < rg.length) {x:List DCn}(hx:rg[r]?=some x) {cs:List DCe}(hc:cs.length=512) :
 dW gM NN ((r:Int),rg,(rg.length:Int),(r:Int),x,(x.length:Int),0,code,ss,dt,bs,key,rg,vs,(),0,(),(),(),bs,key,cs,eq,(),()) =
  some ((r:Int),rg,(rg.length:Int),(r:Int),x,(x.length:Int),(x.length:Int),false,code,ss,dt,bs,key,rg,vs,(),0,(),(),(),bs,key,Cv bs key (bs.getD r 0) x cs x.length,eq,(),()):=by
 have XU:=h.rlen;obtain⟨b,z,hb,hz,z1,U4,b0,bz⟩:=hL.at_ (r:=r) (by omega);have hf:=h.fit r x z hx hz;have V6:=h.cells x (dR hx);have hbd:bs.getD r 0=b:=ef hb;rw[hbd];refine kO (f:=gM) (N:=NN) (st:=λo=>((r:Int),rg,(rg.length:Int),(r:Int),x,(x.length:Int),(o:Int),code,ss,dt,bs,key,rg,vs,(),0,(),(),(),bs,key,Cv bs key b x cs o,eq,(),())) (n:=x.length) (by unfold NN;omega) ?_ ?_
 ·intro o ho;obtain⟨c,YN⟩:∃c,x[o]?=some c:=⟨_,oGE ho⟩;unfold gM;dsimp only;rw[oDT (show (o:Int) < x.length by omega),dP,dP];simp only[oCT,oBS,show dO x o=some c from YN,show dO bs r=some b from hb,(vp (key:=key) hL (V6 c (dR YN))).1];rw[dU (x:=b+o) (by omega) (by omega),dU (x:=(o:Int)+1) (by omega) (by omega)];obtain⟨a,ha⟩:∃a:Nat,b+o=a:=⟨(b+o).toNat,by omega⟩;obtain⟨y,hy⟩:∃y,(Cv bs key b x cs o)[a]?=some y:=⟨_,oGE (by rw[zi];omega)⟩;rw[ha,dP];simp only[oBS,show dO (Cv bs key b x cs o) a=some y from hy,eJ hy];refine Ok.ret ?_
  have e:Cv bs key b x cs (o+1)=(Cv bs key b x cs o).set a (rY bs key c):=by rw[Cv,ha,zt YN];rfl
  rw[e];rfl
 ·unfold gM;dsimp only;rw[oDF (show ¬ (x.length:Int) < x.length by omega)];exact Ok.ret rfl
theorem RO(hL:LV bs ss) (h:StW ss rg vs) (h4:ss.length<=4) :
 dW gg NN (code,ss,dt,bs,key,rg,vs,rg,(rg.length:Int),0,(),0,(),(),(),bs,key,List.replicate 512 (0,0),eq,(),()) =
  some (code,ss,dt,bs,key,rg,vs,rg,(rg.length:Int),(rg.length:Int),false,(),0,(),(),(),bs,key,EQ bs key rg rg.length,eq,(),()):=by
 have XU:=h.rlen;refine kO (f:=gg) (N:=NN) (st:=λr=>(code,ss,dt,bs,key,rg,vs,rg,(rg.length:Int),(r:Int),(),0,(),(),(),bs,key,EQ bs key rg r,eq,(),())) (n:=rg.length) (by unfold NN;omega) ?_ ?_
 ·intro r hr;obtain⟨x,hx⟩:∃x,rg[r]?=some x:=⟨_,oGE hr⟩;unfold gg;delta dQ;dsimp only;rw[oDT (show (r:Int) < rg.length by omega),dP];simp only[oCT,oBS,show dO rg r=some x from hx];rw[RM hL h hr hx (zq r)];simp only[oBS];rw[dU (by omega) (by omega)];refine Ok.ret ?_
  have e:EQ bs key rg (r+1)=Cv bs key (bs.getD r 0) x (EQ bs key rg r) x.length:=by rw[EQ,zt hx]
  rw[e];rfl
 ·unfold gg;dsimp only;rw[oDF (show ¬ (rg.length:Int) < rg.length by omega)];exact Ok.ret rfl
theorem RN(hL:LV bs ss) (h:StW ss rg vs) (h4:ss.length<=4) :
 dW gL NN (rg,(rg.length:Int),0,code,ss,dt,bs,key,rg,vs,(),0,(),(),(),bs,key,List.replicate 512 (0,0),eq,(),()) =
  some (rg,(rg.length:Int),(rg.length:Int),false,code,ss,dt,bs,key,rg,vs,(),0,(),(),(),bs,key,EQ bs key rg rg.length,eq,(),()):=by
 have XU:=h.rlen;refine kO (f:=gL) (N:=NN) (st:=λr=>(rg,(rg.length:Int),(r:Int),code,ss,dt,bs,key,rg,vs,(),0,(),(),(),bs,key,EQ bs key rg r,eq,(),())) (n:=rg.length) (by unfold NN;omega) ?_ ?_
 ·intro r hr;obtain⟨x,hx⟩:∃x,rg[r]?=some x:=⟨_,oGE hr⟩;unfold gL;delta dQ;dsimp only;rw[oDT (show (r:Int) < rg.length by omega),dP];simp only[oCT,oBS,show dO rg r=some x from hx];rw[RL hL h hr hx (zq r)];simp only[oBS];rw[dU (by omega) (by omega)];refine Ok.ret ?_
  have e:EQ bs key rg (r+1)=Cv bs key (bs.getD r 0) x (EQ bs key rg r) x.length:=by rw[EQ,zt hx]
  rw[e];rfl
 ·unfold gL;dsimp only;rw[oDF (show ¬ (rg.length:Int) < rg.length by omega)];exact Ok.ret rfl
end
end Go.Proofs.YtjadkocggchfnaaGreat
