/- Part of the proof; no condition. -/
import Derived.Test.YtjadkocggchfnaaGreatCe
set_option linter.unusedVariables false
set_option linter.unusedSimpArgs false
namespace Go.Proofs.YtjadkocggchfnaaGreat
open Go.RowKit
theorem eI{b n m:Nat}(hb:b<=1000) (h:n+m<=1000000):dY b n m=true:=by
 have h2:=Nat.mul_le_mul h hb;simp[dY];omega
theorem Sp{S T:Type}{f:S->Option (S⊕T)}(st:Nat->S) {n N:Nat}{bad:Nat->T}{good:T}(p:Nat->Prop) (hn:n < N)
 (h:∀i,i < n->(p i/\f (st i)=some (.inl (st (i+1))))\/(¬ p i/\f (st i)=some (.inr (bad i)))) (he:f (st n)=some (.inr good)) :
 ((∀i,i < n->p i)/\dU f N (st 0)=some good)\/((¬ ∀i,i < n->p i)/\∃i,dU f N (st 0)=some (bad i)):=by
 have key:∀k i,i+k=n->(∀j,j < i->p j)->∀N,k < N->((∀i,i < n->p i)/\dU f N (st i)=some good)\/((¬ ∀i,i < n->p i)/\∃j,dU f N (st i)=some (bad j)):=by
  intro k
  induction k with
  | zero=>
   intro i hi hp N hN
   obtain rfl:i=n:=by omega
   obtain⟨N',rfl⟩:∃N',N=N'+1:=⟨N - 1,by omega⟩;exact .inl ⟨hp,by simp only[dU,he,oBS]⟩
  | succ k ih=>
   intro i hi hp N hN;obtain⟨N',rfl⟩:∃N',N=N'+1:=⟨N - 1,by omega⟩;rcases h i (by omega) with ⟨UX,e⟩ | ⟨UX,e⟩
   ·simp only[dU,e];refine ih (i+1) (by omega) (λj hj=>?_) N' (by omega);by_cases hji:j=i
    ·rw[hji];exact UX
    ·exact hp j (by omega)
   ·exact .inr ⟨λg=>UX (g i (by omega)),i,by simp only[dU,e,oBS]⟩
 simp_all
theorem z0{S T:Type}{f:S->Option (S⊕T)}(P:S->Prop) (Q:T->Prop) (m:S->Nat)
 (h:∀s,P s->(∃s',f s=some (.inl s')/\P s'/\m s' < m s)\/∃t,f s=some (.inr t)/\Q t):∀n s,P s->m s < n->∃t,dU f n s=some t/\Q t:=by
 intro n
 induction n with
 | zero=>omega
 | succ n ih=>
  intro s hp hm;rcases h s hp with ⟨s',e,hp',hm'⟩ | ⟨t,e,hq⟩
  ·have ⟨t,e2,hq⟩:=ih s' hp' (by omega);exact⟨t,by simp[dU,e];exact e2,hq⟩
  ·exact⟨t,by simp[dU,e],hq⟩
def DB(c:Int×Int×Int×Int):Prop:=
 ((c.1=0\/c.1=2)/\c.2.2.1=0/\c.2.2.2=0/\0<=c.2.1/\c.2.1<=65535) \/
 (c.1=1/\c.2.1=0/\((c.2.2.1=-1/\0<=c.2.2.2/\c.2.2.2<=65535)\/(0<=c.2.2.1/\c.2.2.1 < 4/\0<=c.2.2.2/\c.2.2.2 < 32)))
def be:Nat->Int->List Int
 | 0,_=>[]
 | n+1,v=>(v / 256 ^ n) % 256 :: be n v
theorem mb:∀(n:Nat) (v:Int),(be n v).length=n:=by
 intro n
 induction n with
 | zero=>intro v;rfl
 | succ n ih=>intro v;simp[be,ih]
theorem HU(x:Int):wk .u8 x=x % 256:=Qm x
theorem P2(v:Int) {n:Nat}(h:n<=7):shR .shr .i64 v (8*n)=v / 256 ^ n:=by
 have e:min (8*n) (IntKind.bits .i64)=8*n:=by simp[IntKind.bits];omega
 have e2:(2:Int) ^ (8*n)=256 ^ n:=by rw[Int.pow_mul];rfl
 show v.fdiv (2 ^ (min (8*n) (IntKind.bits .i64)))=_
 grind
theorem O0(v:Int):∀(n:Nat),n<=7->∀(m:Nat) (b:List Int),n < m->b.length+n<=100000->dU kj m ((n:Int) - 1,v,b,())=some (-1,v,false,b++be n v,()):=by
 intro n
 induction n with
 | zero=>
  intro _ m b hm _;obtain⟨m,rfl⟩:∃m',m=m'+1:=⟨m - 1,by omega⟩;simp[dU,kj,be]
 | succ n ih=>
  intro hn m b hm hb;obtain⟨m,rfl⟩:∃m',m=m'+1:=⟨m - 1,by omega⟩
  have e1:((n+1:Nat):Int) - 1=n:=by omega
  have e2:w64 (8*(n:Int))=((8*n:Nat):Int):=by rw[dS (by omega) (by omega)];omega
  have e3:w64 ((n:Int) - 1)=(n:Int) - 1:=dS (by omega) (by omega)
  have WF:kj (((n+1:Nat):Int) - 1,v,b,())=some (.inl ((n:Int) - 1,v,b++[(v / 256 ^ n) % 256],())):=by
   unfold kj;rw[e1]
   have h0:decide ((n:Int)>=0)=true:=by simp
   simp only[h0,e2,dO,oBS,P2 v (by omega:n<=7),HU,e3];rw[eI (by decide) (by simp;omega)];rfl
  simp only[dU,WF,oBS];rw[ih (by omega) m _ (by omega) (by simp;omega)];simp[be]
theorem JN{n:Nat}{v:Int}{b:List Int}(hn:n<=7) (hb:b.length<=90000):ge n v b=some (b++be n v,()):=by
 unfold ge;rw[dS (x:=(n:Int) - 1) (by omega) (by omega)];simp[O0 v n hn NN b (by unfold NN;omega) (by omega)]
def cb(c:Int×Int×Int×Int):List Int:=if c.1=1 then [1,c.2.2.1+1]++be 2 c.2.2.2 else [c.1,0]++be 2 c.2.1
theorem SS(c:Int×Int×Int×Int):(cb c).length=4:=by
 unfold cb;split<;>simp[mb]
theorem RC{c:Int×Int×Int×Int}{b:List Int}(h:DB c) (hb:b.length<=80000):pJ c.1 c.2.1 c.2.2.1 c.2.2.2 b=some (b++cb c,()):=by
 obtain⟨t,v,r,o⟩:=c;unfold pJ cb;rcases h with ⟨h1,h2,h3,h4,h5⟩ | ⟨h1,h2,h3⟩
 ·simp only at h1 h2 h3 h4 h5
  have ht:(t==1)=false:=by simp;omega
  simp only[ht,oCF];rw[eI (by decide) (by simp;omega)];have e:wk .i64 v=v:=DF (by omega) (by omega);have hp:=JN (n:=2) (v:=v) (b:=b.append [t,0]) (by decide) (by show (b++[t,0]).length<=90000;simp;omega)
  simp_all
 ·simp only at h1 h2 h3;subst h1;simp only[beq_self_eq_true,oCT];rw[dS (x:=r+1) (by omega) (by omega),HU,Int.emod_eq_of_lt (by omega) (by omega)];rw[eI (by decide) (by simp;omega)];simp only[oCT];have hp:=JN (n:=2) (v:=o) (b:=b.append [1,r+1]) (by decide) (by show (b++[1,r+1]).length<=90000;simp;omega)
  simp_all
theorem vv:∀l:List (Int×Int×Int×Int),(l.flatMap cb).length=4*l.length:=by
 intro l
 induction l with
 | nil=>rfl
 | cons x l ih=>rw[List.flatMap_cons,List.length_append,ih,SS,oLC];omega
def lb(xs:List (Int×Int×Int×Int)):List Int:=(xs.length:Int) :: xs.flatMap cb
theorem Nj{xs:List (Int×Int×Int×Int)}{b:List Int}(h:∀c∈xs,DB c) (hl:xs.length<=255) (hb:b.length<=70000):jE xs b=some (b++lb xs,()):=by
 unfold jE;simp only[dZ,HU];rw[Int.emod_eq_of_lt (by omega) (by omega),eI (by decide) (by simp;omega)]
 obtain⟨t,e,x6,x7,rfl⟩:=z0 (f:=oJ)
  (λs=>∃i:Nat,i<=xs.length/\s=(xs,(xs.length:Int),(i:Int),b++(xs.length:Int) :: (xs.take i).flatMap cb,()))
  (λt=>∃x6 x7,t=(xs,(xs.length:Int),x6,x7,b++lb xs,()))
  (λs=>(s.2.1 - s.2.2.1).toNat) (by
   rintro _ ⟨i,hi,rfl⟩;unfold oJ;by_cases hn:(i:Int) < xs.length
   ·left
    have Yv:i < xs.length:=by omega
    have ZA:((xs.take i).flatMap cb).length<=4*i:=by
     rw[vv,oLT];omega
    have Uu:(xs.take (i+1)).flatMap cb=(xs.take i).flatMap cb++cb xs[i]:=by
     rw[List.take_succ_eq_append_getElem Yv,List.flatMap_append];simp
    simp only[hn,decide_true,oCT,dO,oBS,dM,oGE Yv];rw[RC (h _ (List.getElem_mem Yv)) (by rw[List.length_append,oLC];omega)];rw[dS (x:=(i:Int)+1) (by omega) (by omega)];refine⟨_,rfl,⟨i+1,by omega,?_⟩,by simp only;omega⟩
    simp_all
   ·right;simp only[hn,decide_false,oCF]
    have:i=xs.length:=by omega
    subst this
    exact⟨_,rfl,_,_,by rw[List.take_length];rfl⟩) NN (xs,(xs.length:Int),0,b.append [(xs.length:Int)],()) ⟨0,by omega,by simp⟩ (by show ((xs.length:Int) - 0).toNat < NN;unfold NN;omega)
 simp_all
def kx(c:Int×Int×Int×Int):Prop:=
 ((c.1=0\/c.1=2)/\c.2.2.1=0/\c.2.2.2=0) \/
 (c.1=1/\c.2.1=0/\((c.2.2.1=-1/\0<=c.2.2.2/\c.2.2.2<=65535)\/(0<=c.2.2.1/\c.2.2.1 < 4/\0<=c.2.2.2/\c.2.2.2 < 32)))
instance (c:Int×Int×Int×Int):Decidable (kx c):=by unfold kx;exact inferInstance
def zP(c:Int×Int×Int×Int):Prop:=0<=c.2.1/\c.2.1<=65535
theorem kx.ok{c:Int×Int×Int×Int}(h:kx c) (t:zP c):DB c:=by
 rcases h with ⟨h1,h2,h3⟩ | h
 ·exact .inl ⟨h1,h2,h3,t.1,t.2⟩
 ·exact .inr h
theorem DB.v{c:Int×Int×Int×Int}(h:DB c):kx c:=by
 rcases h with ⟨h1,h2,h3,_⟩ | h
 ·exact .inl ⟨h1,h2,h3⟩
 ·exact .inr h
theorem zQ{P:Prop} [Decidable P] {b:Bool}(h:b=true↔P):some (b,())=some (decide P,()):=by
 rw[show b=decide P by grind]
theorem MK(c:Int×Int×Int×Int):mG c.1 c.2.1 c.2.2.1 c.2.2.2=some (decide (kx c),()):=by
 obtain⟨t,v,r,o⟩:=c;unfold mG kx;simp only;by_cases h0:t=0
 ·by_cases hr:r=0<;>by_cases ho:o=0<;>simp[Bool.cond_eq_ite,h0,hr,ho]
 by_cases h2:t=2
 ·by_cases hr:r=0<;>by_cases ho:o=0<;>simp[Bool.cond_eq_ite,h2,hr,ho]
 by_cases h1:t=1
 ·subst h1;by_cases hv:v=0
  ·by_cases hr:r=-1
   ·subst hr;by_cases ho:0<=o<;>by_cases hp:o<=65535<;>simp[Bool.cond_eq_ite,hv,ho,hp]
   ·by_cases r0:0<=r<;>by_cases r1:r < 4<;>by_cases o0:0<=o<;>by_cases o1:o < 32<;>simp[Bool.cond_eq_ite,hv,hr,r0,r1,o0,o1]
  ·by_cases hr:r=-1
   ·subst hr;by_cases ho:0<=o<;>simp[Bool.cond_eq_ite,hv,ho]
   ·simp[Bool.cond_eq_ite,hv,hr]
 ·simp[Bool.cond_eq_ite,h0,h1,h2]
theorem MO(c:Int×Int×Int×Int):iS c.1 c.2.1 c.2.2.1 c.2.2.2=some (decide (kx c),()):=by
 obtain⟨t,v,r,o⟩:=c;unfold iS kx;simp only;by_cases h0:t=0
 ·by_cases hr:r=0<;>by_cases ho:o=0<;>simp[Bool.cond_eq_ite,h0,hr,ho]
 by_cases h2:t=2
 ·by_cases hr:r=0<;>by_cases ho:o=0<;>simp[Bool.cond_eq_ite,h2,hr,ho]
 by_cases h1:t=1
 ·subst h1;by_cases hv:v=0
  ·by_cases hr:r=-1
   ·subst hr;by_cases ho:0<=o<;>by_cases hp:o<=65535<;>simp[Bool.cond_eq_ite,hv,ho,hp]
   ·by_cases r0:0<=r<;>by_cases r1:r < 4<;>by_cases o0:0<=o<;>by_cases o1:o < 32<;>simp[Bool.cond_eq_ite,hv,hr,r0,r1,o0,o1]
  ·by_cases hr:r=-1
   ·subst hr;by_cases ho:0<=o<;>simp[Bool.cond_eq_ite,hv,ho]
   ·simp[Bool.cond_eq_ite,hv,hr]
 ·simp[Bool.cond_eq_ite,h0,h1,h2]
theorem ND{α:Type}{xs:List α}{i:Nat}(h:i < xs.length):dM xs i=some xs[i]:=oGE h
theorem Km{α:Type}{P:α->Prop}{xs:List α}{i:Nat}(h:i < xs.length) (ha:∀x∈xs.take i,P x) (hx:P xs[i]):∀x∈xs.take (i+1),P x:=by
 intro x hm;rw[List.take_succ_eq_append_getElem h] at hm;rcases List.mem_append.1 hm with h1 | h1
 all_goals simp_all
theorem xE{xs:List (Int×Int×Int×Int)}{n:Int}(hl:xs.length<=100000):ff xs n=some (decide ((∀c∈xs,kx c)/\(xs.length:Int)<=n),()):=by
 unfold ff
 obtain⟨t,e,ht⟩:=z0 (f:=gY)
  (λs=>∃i:Nat,i<=xs.length/\s=(xs,n,xs,(xs.length:Int),(i:Int),())/\∀c∈xs.take i,kx c)
  (λt=>(t=.inl (false,())/\¬ ∀c∈xs,kx c)\/((∃x3 x4 x5 x6,t=.inr (xs,n,x3,x4,x5,x6,()))/\∀c∈xs,kx c))
  (λs=>(s.2.2.2.1 - s.2.2.2.2.1).toNat) (by
   rintro _ ⟨i,hi,rfl,hv⟩;unfold gY;by_cases hn:(i:Int) < xs.length
   ·have Yv:i < xs.length:=by omega
    simp only[hn,decide_true,oCT,dO,oBS,ND Yv,MO];by_cases hc:kx xs[i]
    ·left;simp only[hc,decide_true,oNT,oCF];rw[dS (x:=(i:Int)+1) (by omega) (by omega)];exact⟨_,rfl,⟨i+1,by omega,rfl,Km Yv hv hc⟩,by simp only;omega⟩
    ·right;simp only[hc,decide_false,Bool.not_false,oCT];exact⟨_,rfl,.inl ⟨rfl,λh=>hc (h _ (List.getElem_mem Yv))⟩⟩
   ·right;simp only[hn,decide_false,oCF]
    have:i=xs.length:=by omega
    subst this
    exact⟨_,rfl,.inr ⟨⟨_,_,_,_,rfl⟩,by simp_all⟩⟩) NN (xs,n,xs,(xs.length:Int),0,()) ⟨0,by omega,rfl,by simp⟩ (by show ((xs.length:Int) - 0).toNat < NN;unfold NN;omega)
 simp only[dZ,e];rcases ht with ⟨rfl,h⟩ | ⟨⟨x3,x4,x5,x6,rfl⟩,h⟩
 ·simp only;exact zQ ⟨λq=>absurd q (by decide),λq=>absurd q.1 h⟩
 ·simp only;exact zQ ⟨λq=>⟨h,of_decide_eq_true q⟩,λq=>oDT q.2⟩
theorem xC{xs:List (Int×Int×Int×Int)}{n:Int}(hl:xs.length<=100000):fU xs n=some (decide ((∀c∈xs,kx c)/\(xs.length:Int)<=n),()):=by
 have XT:∃v,f7 xs=some (v,())/\(v < 0↔∀c∈xs,kx c):=by
  unfold f7
  obtain⟨t,e,ht⟩:=z0 (f:=gI)
   (λs=>∃i:Nat,i<=xs.length/\s=(xs,(xs.length:Int),(i:Int),())/\∀c∈xs.take i,kx c)
   (λt=>(∃v,0<=v/\t=.inl (v,())/\¬ ∀c∈xs,kx c)\/((∃x1 x2 x3 x4,t=.inr (x1,x2,x3,x4,()))/\∀c∈xs,kx c))
   (λs=>(s.2.1 - s.2.2.1).toNat) (by
    rintro _ ⟨i,hi,rfl,hv⟩;unfold gI;by_cases hn2:(i:Int) < xs.length
    ·have Yv:i < xs.length:=by omega
     simp only[hn2,decide_true,oCT,dO,oBS,ND Yv,ms,MK];by_cases hc:kx xs[i]
     ·left;simp only[hc,decide_true,oNT,oCF];rw[dS (x:=(i:Int)+1) (by omega) (by omega)];exact⟨_,rfl,⟨i+1,by omega,rfl,Km Yv hv hc⟩,by simp only;omega⟩
     ·right;simp only[hc,decide_false,Bool.not_false,oCT];exact⟨_,rfl,.inl ⟨_,by omega,rfl,λh=>hc (h _ (List.getElem_mem Yv))⟩⟩
    ·right;simp only[hn2,decide_false,oCF]
     have:i=xs.length:=by omega
     subst this
     exact⟨_,rfl,.inr ⟨⟨_,_,_,_,rfl⟩,by rw[List.take_length] at hv;exact hv⟩⟩) NN (xs,(xs.length:Int),0,()) ⟨0,by omega,rfl,by simp⟩ (by show ((xs.length:Int) - 0).toNat < NN;unfold NN;omega)
  simp only[dZ,e];rcases ht with ⟨v,hv,rfl,h⟩ | ⟨⟨x1,x2,x3,x4,rfl⟩,h⟩
  ·exact⟨v,rfl,by constructor<;>intro h2<;>first | omega | exact absurd h2 h⟩
  ·simp_all
 obtain⟨v,e,hv⟩:=XT;unfold fU gJ;simp only[dZ];by_cases hln:(xs.length:Int)<=n
 ·simp only[hln,decide_true,oCT,e,oBS];exact zQ (by rw[<- hv];simp)
 ·simp only[hln,decide_false,oCF];exact zQ (by simp)
theorem Ib(v:Int):∀(n:Nat),n<=7->∀(m:Nat) (b:List Int),n < m->b.length+n<=100000->dU iv m (v,(n:Int),b,())=some (v,0,false,b++be n v,()):=by
 intro n
 induction n with
 | zero=>
  intro _ m b hm _;obtain⟨m,rfl⟩:∃m',m=m'+1:=⟨m - 1,by omega⟩;simp[dU,iv,be]
 | succ n ih=>
  intro hn m b hm hb;obtain⟨m,rfl⟩:∃m',m=m'+1:=⟨m - 1,by omega⟩
  have e1:w64 (((n+1:Nat):Int) - 1)=n:=by rw[dS (by omega) (by omega)];omega
  have e2:w64 (8*(n:Int))=((8*n:Nat):Int):=by rw[dS (by omega) (by omega)];omega
  have e3:wk .u64 ((8*n:Nat):Int)=((8*n:Nat):Int):=by
   unfold wk;rw[Ol];omega
  have WF:iv (v,((n+1:Nat):Int),b,())=some (.inl (v,(n:Int),b++[(v / 256 ^ n) % 256],())):=by
   unfold iv
   have h0:decide (((n+1:Nat):Int) > 0)=true:=by simp_all
   simp only[h0,oCT,e1,e2,e3,dO,oBS,P2 v (by omega:n<=7),HU];rw[eI (by decide) (by simp;omega)];rfl
  simp only[dU,WF,oBS];rw[ih (by omega) m _ (by omega) (by simp;omega)];simp[be]
theorem FL{n:Nat}{v:Int}(hn:n<=7):fv v n=some (be n v,()):=by
 unfold fv;simp[Ib v n hn NN [] (by unfold NN;omega) (by simp;omega)]
theorem MN(v:Int):fv v 2=some (be 2 v,()):=FL (n:=2) (by decide)
theorem Q8(v:Int):fv v 6=some (be 6 v,()):=FL (n:=6) (by decide)
theorem Sf{x:Int}(h0:0<=x) (h1:x<=255):wk .u8 x=x:=by rw[HU];exact Int.emod_eq_of_lt h0 (by omega)
theorem R1{α:Type}(a b:List α):List.append a b=a++b:=rfl
theorem De{xs:List (Int×Int×Int×Int)}(h:∀c∈xs,DB c) (hl:xs.length<=255):nd xs=some (lb xs,()):=by
 unfold nd;simp only[dZ,Sf (x:=(xs.length:Int)) (by omega) (by omega)]
 obtain⟨t,e,x3,x4,x5,x6,rfl⟩:=z0 (f:=oF)
  (λs=>∃i:Nat,i<=xs.length/\s=(xs,(xs.length:Int),(i:Int),(xs.length:Int) :: (xs.take i).flatMap cb,()))
  (λt=>∃x3 x4 x5 x6,t=(x3,x4,x5,x6,lb xs,()))
  (λs=>(s.2.1 - s.2.2.1).toNat) (by
   rintro _ ⟨i,hi,rfl⟩;unfold oF;by_cases hn:(i:Int) < xs.length
   ·left
    have Yv:i < xs.length:=by omega
    have ZA:((xs.take i).flatMap cb).length<=4*i:=by
     rw[vv,oLT];omega
    have Uu:(xs.take (i+1)).flatMap cb=(xs.take i).flatMap cb++cb xs[i]:=by
     rw[List.take_succ_eq_append_getElem Yv,List.flatMap_append];simp
    have hc:=h _ (List.getElem_mem Yv);refine⟨(xs,(xs.length:Int),((i+1:Nat):Int),(xs.length:Int) :: (xs.take (i+1)).flatMap cb,()),?_,⟨i+1,by omega,rfl⟩,by simp only;omega⟩;simp only[hn,decide_true,oCT,dO,oBS,ND Yv,MN];rw[Uu];clear Uu;generalize xs[i]=c at hc;generalize (xs.take i).flatMap cb=fl at ZA;obtain⟨t,v,r,o⟩:=c;have a1:∀(b:List Int),b.length<=3->dY 1 (List.length ((xs.length:Int) :: fl)) b.length=true:=λb hb=>eI (by decide) (by simp only[oLC];omega);have a2:∀(b:List Int),b.length<=3->∀u,dY 1 (List.length (((xs.length:Int) :: fl)++b)) (be 2 u).length=true:=λb hb u=>eI (by decide) (by simp only[List.length_append,oLC,mb];omega)
    have ei:w64 ((i:Int)+1)=((i+1:Nat):Int):=by rw[dS (by omega) (by omega)];omega
    unfold cb;rcases hc with ⟨h1,h2,h3,h4,h5⟩ | ⟨h1,h2,h3⟩
    ·simp only at h1 h2 h3 h4 h5
     have ht:(t==1)=false:=by simp;omega
     have Y6:¬ t=1:=by omega
     have e:wk .i64 v=v:=DF (by omega) (by omega);simp only[ht,oCF,a1 [t,0] (by simp),oCT,R1,a2 [t,0] (by simp),oBS,oIN Y6,e,ei];simp
    ·simp only at h1 h2 h3;subst h1;simp only[beq_self_eq_true,oCT,dS (x:=r+1) (by omega) (by omega),Sf (x:=r+1) (by omega) (by omega),a1 [1,r+1] (by simp),R1,a2 [1,r+1] (by simp),oBS,if_true,ei];simp
   ·right;simp only[hn,decide_false,oCF]
    have:i=xs.length:=by omega
    subst this
    exact⟨_,rfl,_,_,_,_,by rw[List.take_length];rfl⟩) NN (xs,(xs.length:Int),0,[(xs.length:Int)],()) ⟨0,by omega,by simp⟩ (by show ((xs.length:Int) - 0).toNat < NN;unfold NN;omega)
 rw[e];rfl
def N9(v:DTs):Prop:=(0<=v.1/\v.1<=4)/\(0<=v.2.1/\v.2.1<=255)/\(0<=v.2.2.1/\v.2.2.1<=1099511627776)/\(-1<=v.2.2.2.1/\v.2.2.2.1<=255)/\(-1<=v.2.2.2.2.1/\v.2.2.2.2.1<=255)/\(0<=v.2.2.2.2.2.1/\v.2.2.2.2.2.1<=6)/\v.2.2.2.2.2.2.2.length=8/\∀c∈v.2.2.2.2.2.2.2,kx c
def Dy(T:List DTs):Prop:=T.length=4/\∀v∈T,N9 v
theorem mc{α:Type}{l:List α}{P:α->Prop}:(∀i,i < l.length->∀c,l[i]?=some c->P c)↔∀c∈l,P c:=
 ⟨λh c hc=>by
  have ⟨i,hi⟩:=List.getElem?_of_mem hc
  exact h i (oGS hi).1 c hi,λh i _ c hc=>h c (dR hc)⟩
theorem Fy{T:List DTs}(h:T.length<=1000) (hr:∀v∈T,v.2.2.2.2.2.2.2.length<=1000):BQ (gK T) (Dy T):=by
 unfold gK;delta dN;dsimp only
 have key:=P3 (f:=eW) (N:=NN) (bad:=.inl (false,())) (good:=.inr (T,T,(T.length:Int),(T.length:Int),false,())) (λi=>(T,T,(T.length:Int),(i:Int),())) (n:=T.length) (λi=>∀v,T[i]?=some v->N9 v) (by unfold NN;omega) (λi hi _=>by
  obtain⟨v,hv⟩:∃v,T[i]?=some v:=⟨_,oGE hi⟩;have hlen:=hr v (dR hv);unfold eW;delta dN;dsimp only;rw[oDT (show (i:Int) < T.length by omega),dO];simp only[oCT,oBS,show dM T i=some v from hv];by_cases c0:v.1>=0
  rotate_left
  ·rw[oDF c0];exact .inr ⟨λg=>c0 (g v hv).1.1,rfl⟩
  rw[oDT c0];simp only[oCT];by_cases c1:v.1<=4
  rotate_left
  ·rw[oDF c1];exact .inr ⟨λg=>c1 (g v hv).1.2,rfl⟩
  rw[oDT c1];simp only[oCT];by_cases c2:v.2.1>=0
  rotate_left
  ·rw[oDF c2];exact .inr ⟨λg=>c2 (g v hv).2.1.1,rfl⟩
  rw[oDT c2];simp only[oCT];by_cases c3:v.2.1<=255
  rotate_left
  ·rw[oDF c3];exact .inr ⟨λg=>c3 (g v hv).2.1.2,rfl⟩
  rw[oDT c3];simp only[oCT];by_cases c4:v.2.2.1>=0
  rotate_left
  ·rw[oDF c4];exact .inr ⟨λg=>c4 (g v hv).2.2.1.1,rfl⟩
  rw[oDT c4];simp only[oCT];by_cases c5:v.2.2.1<=1099511627776
  rotate_left
  ·rw[oDF c5];exact .inr ⟨λg=>c5 (g v hv).2.2.1.2,rfl⟩
  rw[oDT c5];simp only[oCT];by_cases c6:v.2.2.2.1>=-1
  rotate_left
  ·rw[oDF c6];exact .inr ⟨λg=>c6 (g v hv).2.2.2.1.1,rfl⟩
  rw[oDT c6];simp only[oCT];by_cases c7:v.2.2.2.1<=255
  rotate_left
  ·rw[oDF c7];exact .inr ⟨λg=>c7 (g v hv).2.2.2.1.2,rfl⟩
  rw[oDT c7];simp only[oCT];by_cases c8:v.2.2.2.2.1>=-1
  rotate_left
  ·rw[oDF c8];exact .inr ⟨λg=>c8 (g v hv).2.2.2.2.1.1,rfl⟩
  rw[oDT c8];simp only[oCT];by_cases c9:v.2.2.2.2.1<=255
  rotate_left
  ·rw[oDF c9];exact .inr ⟨λg=>c9 (g v hv).2.2.2.2.1.2,rfl⟩
  rw[oDT c9];simp only[oCT];by_cases c10:v.2.2.2.2.2.1>=0
  rotate_left
  ·rw[oDF c10];exact .inr ⟨λg=>c10 (g v hv).2.2.2.2.2.1.1,rfl⟩
  rw[oDT c10];simp only[oCT];by_cases c11:v.2.2.2.2.2.1<=6
  rotate_left
  ·rw[oDF c11];exact .inr ⟨λg=>c11 (g v hv).2.2.2.2.2.1.2,rfl⟩
  rw[oDT c11];simp only[oCT,oBS,oNT,oCF];by_cases c12:(v.2.2.2.2.2.2.2.length:Int)=8
  rotate_left
  ·rw[bne_iff_ne.2 c12];exact .inr ⟨λg=>c12 (by rw[(g v hv).2.2.2.2.2.2.1];rfl),rfl⟩
  rw[bne_eq_false_iff_eq.2 c12,xE (by omega)];simp only[oCF,oBS];by_cases c13:(∀c∈v.2.2.2.2.2.2.2,kx c)/\(v.2.2.2.2.2.2.2.length:Int)<=8
  ·rw[oDT c13];refine .inl ⟨λv' Y7=>?_,by simp only[oNT,oCF];rw[dS (x:=(i:Int)+1) (by omega) (by omega)];rfl⟩;rw[hv] at Y7
   injection Y7 with Y7
   subst Y7;exact⟨⟨c0,c1⟩,⟨c2,c3⟩,⟨c4,c5⟩,⟨c6,c7⟩,⟨c8,c9⟩,⟨c10,c11⟩,by omega,c13.1⟩
  ·rw[oDF c13]
   exact .inr ⟨λg=>c13 ⟨(g v hv).2.2.2.2.2.2.2,by omega⟩,rfl⟩) (by
  unfold eW;dsimp only;rw[oDF (show ¬ (T.length:Int) < T.length by omega)]
  rfl)
 rcases key with ⟨g,e⟩ | ⟨g,e⟩
 ·have e0:dU eW NN (T,T,(T.length:Int),0,())=_:=e;rw[e0];dsimp only;by_cases h4:(T.length:Int)=4
  ·rw[beq_iff_eq.2 h4];exact .inl ⟨⟨by omega,mc.1 g⟩,rfl⟩
  ·rw[oBF h4];exact .inr ⟨λx=>h4 (by rw[x.1];rfl),rfl⟩
 ·have e0:dU eW NN (T,T,(T.length:Int),0,())=_:=e;rw[e0];exact .inr ⟨λx=>g (mc.2 x.2),rfl⟩
theorem Om(x lo hi:Int):fC x lo hi=some (decide (lo<=x/\x<=hi),()):=by
 unfold fC;by_cases h:lo<=x
 ·simp_all
 ·rw[oDF (show ¬ x>=lo from h),oDF (show ¬ (lo<=x/\x<=hi) from λg=>h g.1)];rfl
theorem TI:gV (List.replicate 8 (0,0))=some (false,()):=by kernel_rfl
theorem Sd(v:DTs) (hlen:v.2.2.2.2.2.2.2.length<=1000):(N9 v/\fZ v.1 v.2.1 v.2.2.1 v.2.2.2.1 v.2.2.2.2.1 v.2.2.2.2.2.1 v.2.2.2.2.2.2.1 v.2.2.2.2.2.2.2=some (false,()))\/(¬ N9 v/\fZ v.1 v.2.1 v.2.2.1 v.2.2.2.1 v.2.2.2.2.1 v.2.2.2.2.2.1 v.2.2.2.2.2.2.1 v.2.2.2.2.2.2.2=some (true,())):=by
 unfold fZ gZ mQ;rw[show uy 8 8 2=true from rfl];simp only[oCT,oBS];unfold p8;delta dN;simp only[Om,oBS,List.length_replicate];by_cases c0:0<=v.1/\v.1<=4
 rotate_left
 ·rw[oDF c0];exact .inr ⟨λg=>c0 g.1,rfl⟩
 rw[oDT c0];simp only[oCT,oBS];by_cases c1:0<=v.2.1/\v.2.1<=255
 rotate_left
 ·rw[oDF c1];exact .inr ⟨λg=>c1 g.2.1,rfl⟩
 rw[oDT c1];simp only[oCT,oBS];by_cases c2:0<=v.2.2.1/\v.2.2.1<=1099511627776
 rotate_left
 ·rw[oDF c2];exact .inr ⟨λg=>c2 g.2.2.1,rfl⟩
 rw[oDT c2];simp only[oCT,oBS];by_cases c3:-1<=v.2.2.2.1/\v.2.2.2.1<=255
 rotate_left
 ·rw[oDF c3];exact .inr ⟨λg=>c3 g.2.2.2.1,rfl⟩
 rw[oDT c3];simp only[oCT,oBS];by_cases c4:-1<=v.2.2.2.2.1/\v.2.2.2.2.1<=255
 rotate_left
 ·rw[oDF c4];exact .inr ⟨λg=>c4 g.2.2.2.2.1,rfl⟩
 rw[oDT c4];simp only[oCT,oBS];by_cases c5:0<=v.2.2.2.2.2.1/\v.2.2.2.2.2.1<=6
 rotate_left
 ·rw[oDF c5];exact .inr ⟨λg=>c5 g.2.2.2.2.2.1,rfl⟩
 rw[oDT c5];by_cases c12:(v.2.2.2.2.2.2.2.length:Int)=8
 rotate_left
 ·rw[bne_iff_ne.2 c12];exact .inr ⟨λg=>c12 (by rw[g.2.2.2.2.2.2.1];rfl),rfl⟩
 rw[bne_eq_false_iff_eq.2 c12,xC (by omega)];simp only[oCF,oBS];by_cases c13:(∀c∈v.2.2.2.2.2.2.2,kx c)/\(v.2.2.2.2.2.2.2.length:Int)<=8
 ·rw[oDT c13];exact .inl ⟨⟨c0,c1,c2,c3,c4,c5,by omega,c13.1⟩,rfl⟩
 ·rw[oDF c13];exact .inr ⟨λg=>c13 ⟨g.2.2.2.2.2.2.2,by omega⟩,rfl⟩
theorem Js{T:List DTs}(h:T.length<=1000) (hr:∀v∈T,v.2.2.2.2.2.2.2.length<=1000):BQ (gM T) (Dy T):=by
 unfold gM;delta dN;dsimp only;by_cases h4:(T.length:Int)=4
 rotate_left
 ·rw[oBF h4];exact .inr ⟨λx=>h4 (by rw[x.1];rfl),rfl⟩
 rw[beq_iff_eq.2 h4];simp only[oCT];unfold gU iU;delta dN;dsimp only
 have key:=Sp (f:=eY) (N:=NN) (bad:=λi=>.inl ((i:Int),())) (good:=.inr (T,(T.length:Int),(T.length:Int),false,())) (λi=>(T,(T.length:Int),(i:Int),())) (n:=T.length) (λi=>∀v,T[i]?=some v->N9 v) (by unfold NN;omega) (λi hi=>by
  obtain⟨v,hv⟩:∃v,T[i]?=some v:=⟨_,oGE hi⟩;have hlen:=hr v (dR hv);unfold eY;dsimp only;rw[oDT (show (i:Int) < T.length by omega),dO];simp only[oCT,oBS,show dM T i=some v from hv];rw[dS (x:=(i:Int)+1) (by omega) (by omega)];rcases Sd v hlen with ⟨g,e⟩ | ⟨g,e⟩
  ·simp_all
  ·rw[e]
   exact .inr ⟨λx=>g (x v hv),rfl⟩) (by
  unfold eY;dsimp only;rw[oDF (show ¬ (T.length:Int) < T.length by omega)]
  rfl)
 rcases key with ⟨g,e⟩ | ⟨g,i,e⟩
 ·have e0:dU eY NN (T,(T.length:Int),0,())=_:=e;rw[e0];exact .inl ⟨⟨by omega,mc.1 g⟩,rfl⟩
 ·have e0:dU eY NN (T,(T.length:Int),0,())=_:=e;rw[e0];exact .inr ⟨λx=>g (mc.2 x.2),rfl⟩
theorem xT{α:Type}{f:List α×Int×Int×Unit->Option ((List α×Int×Int×Unit)⊕((Int×Unit)⊕(List α×Int×Int×Bool×Unit)))}{l:List α}(hl:l.length<=1000) (W:α->Prop)
 (h:∀(i:Nat) x,i < l.length->l[i]?=some x->(W x/\f (l,(l.length:Int),(i:Int),())=some (.inr (.inl ((i:Int),()))))\/(¬ W x/\f (l,(l.length:Int),(i:Int),())=some (.inl (l,(l.length:Int),(i:Int)+1,()))))
 (he:f (l,(l.length:Int),(l.length:Int),())=some (.inr (.inr (l,(l.length:Int),(l.length:Int),false,())))) :
 ((∃x∈l,W x)/\∃i:Nat,dU f NN (l,(l.length:Int),0,())=some (.inl ((i:Int),())))\/((¬ ∃x∈l,W x)/\dU f NN (l,(l.length:Int),0,())=some (.inr (l,(l.length:Int),(l.length:Int),false,()))):=by
 have key:=Sp (f:=f) (N:=NN) (bad:=λi=>.inl ((i:Int),())) (good:=.inr (l,(l.length:Int),(l.length:Int),false,())) (λi=>(l,(l.length:Int),(i:Int),())) (λi=>∀x,l[i]?=some x->¬ W x) (by unfold NN;omega) (λi hi=>by
  have ⟨x,hx⟩:∃x,l[i]?=some x:=⟨_,oGE hi⟩;rcases h i x hi hx with ⟨g,e⟩ | ⟨g,e⟩
  ·simp_all
  ·refine .inl ⟨λy hy=>?_,e⟩;rw[hx] at hy
   injection hy with hy
   exact hy ▸ g) he
 rcases key with ⟨g,e⟩ | ⟨g,i,e⟩
 ·exact .inr ⟨λ⟨x,hx,k⟩=>mc.1 g x hx k,e⟩
 ·refine .inl ⟨Classical.byContradiction λk=>g (mc.2 λx hx w=>k ⟨x,hx,w⟩),i,e⟩
def zO(c:DCn):Prop:=c.1=1/\c.2.2.1=-1
theorem Qo(c:DCn):BQ (jl c.1 c.2.1 c.2.2.1 c.2.2.2) (zO c):=by
 unfold jl;by_cases h:c.1=1
 ·rw[beq_iff_eq.2 h];by_cases h2:c.2.2.1=-1
  ·exact .inl ⟨⟨h,h2⟩,by simp_all⟩
  ·exact .inr ⟨λg=>h2 g.2,by simp_all⟩
 ·exact .inr ⟨λg=>h g.1,by grind⟩
theorem CS{l:List DCn}(h:l.length<=1000):BQ (fb l) (∃c∈l,zO c):=by
 unfold fb gT;delta dN;dsimp only
 rcases xT (f:=fE) h zO (λi x hi hx=>by
  unfold fE;dsimp only;rw[oDT (show (i:Int) < l.length by omega),dO];simp[show dM l i=some x from hx];rw[dS (x:=(i:Int)+1) (by omega) (by omega)];rcases Qo x with ⟨g,e⟩ | ⟨g,e⟩
  ·simp_all
  ·rw[e];exact .inr ⟨g,rfl⟩) (by
  unfold fE;dsimp only;rw[oDF (show ¬ (l.length:Int) < l.length by omega)]
  rfl) with ⟨g,i,e⟩ | ⟨g,e⟩
 ·rw[e];exact .inl ⟨g,rfl⟩
 ·rw[e];exact .inr ⟨g,rfl⟩
def RT(R:List (List DCn)) (T:List DTs):Prop:=(∃l∈R,∃c∈l,zO c)\/∃v∈T,∃c∈v.2.2.2.2.2.2.2,zO c
theorem CU{R:List (List DCn)}{T:List DTs}(h:R.length<=1000) (h1:∀l∈R,l.length<=1000) (h2:T.length<=1000) (h3:∀v∈T,v.2.2.2.2.2.2.2.length<=1000):BQ (kN R T) (RT R T):=by
 unfold kN kR gd gS;delta dN;dsimp only
 rcases xT (f:=fD) h (λl=>∃c∈l,zO c) (λi x hi hx=>by
  unfold fD;dsimp only;rw[oDT (show (i:Int) < R.length by omega),dO];simp only[oCT,oBS,show dM R i=some x from hx];rw[dS (x:=(i:Int)+1) (by omega) (by omega)];unfold jG;rcases CS (h1 x (dR hx)) with ⟨g,e⟩ | ⟨g,e⟩
  ·rw[e];exact .inl ⟨g,rfl⟩
  ·rw[e];exact .inr ⟨g,rfl⟩) (by
  unfold fD;dsimp only;rw[oDF (show ¬ (R.length:Int) < R.length by omega)]
  rfl) with ⟨g,i,e⟩ | ⟨g,e⟩
 ·rw[e];simp only[oBS];rw[oDT (show (i:Int)>=0 by omega)];exact .inl ⟨.inl g,rfl⟩
 rw[e];simp only[oBS];unfold gw ig;delta dN;simp only[oCF]
 rcases xT (f:=fI) h2 (λv=>∃c∈v.2.2.2.2.2.2.2,zO c) (λi x hi hx=>by
  unfold fI;dsimp only;rw[oDT (show (i:Int) < T.length by omega),dO];simp only[oCT,oBS,show dM T i=some x from hx];rw[dS (x:=(i:Int)+1) (by omega) (by omega)];unfold jF;rcases CS (h3 x (dR hx)) with ⟨g,e⟩ | ⟨g,e⟩
  ·simp_all
  ·rw[e];exact .inr ⟨g,rfl⟩) (by
  unfold fI;dsimp only;rw[oDF (show ¬ (T.length:Int) < T.length by omega)]
  rfl) with ⟨g2,i,e2⟩ | ⟨g2,e2⟩
 ·rw[e2];simp only[oBS];rw[oDT (show (i:Int)>=0 by omega)];exact .inl ⟨.inr g2,rfl⟩
 ·rw[e2];exact .inr ⟨λk=>k.elim g g2,rfl⟩
theorem Rl{R:List (List DCn)}{T:List DTs}(h:R.length<=1000) (h2:T.length<=1000):iV R T=some (R++T.map (λv=>v.2.2.2.2.2.2.2),()):=by
 have e1:dU fF NN (T,(T.length:Int),0,R,T,R,())=some (T,(T.length:Int),(T.length:Int),false,R,T,R++T.map (λv=>v.2.2.2.2.2.2.2),()):=by
  have:=mW (f:=fF) (N:=NN) (st:=λr=>(T,(T.length:Int),(r:Int),R,T,R++(T.take r).map (λv=>v.2.2.2.2.2.2.2),())) (n:=T.length) (t:=(T,(T.length:Int),(T.length:Int),false,R,T,R++T.map (λv=>v.2.2.2.2.2.2.2),())) (by unfold NN;omega) ?_ ?_
  ·simp_all
  ·intro r hr;have hx:=oGE hr;unfold fF;dsimp only;rw[oDT (show (r:Int) < T.length by omega),dO];simp only[oCT,oBS,show dM T r=some T[r] from hx];rw[eI (by decide) (by simp;omega),dS (x:=(r:Int)+1) (by omega) (by omega)]
   have e:List.append (R++(T.take r).map (λv:DTs=>v.2.2.2.2.2.2.2)) [T[r].2.2.2.2.2.2.2]=R++(T.take (r+1)).map (λv=>v.2.2.2.2.2.2.2):=by
    show _++[_]=_;rw[List.take_add_one,hx,List.map_append,List.append_assoc];rfl
   rw[e];exact Ok.ret rfl
  ·unfold fF;dsimp only;rw[oDF (show ¬ (T.length:Int) < T.length by omega),List.take_length];exact Ok.ret rfl
 unfold iV;delta dN;rw[eI (by decide) (by omega)]
 simp_all
theorem HW{R:List (List DCn)}{T:List DTs}(h:R.length<=1000) (h1:∀l∈R,l.length<=1000) (h2:T.length<=1000) (h3:∀v∈T,v.2.2.2.2.2.2.2.length<=1000):BQ (pD R T) (RT R T):=by
 unfold pD;rw[Rl h h2];simp only[oBS];obtain⟨L,hL⟩:∃L,L=R++T.map (λv=>v.2.2.2.2.2.2.2):=⟨_,rfl⟩;rw[<- hL]
 have hlen:L.length<=2000:=by rw[hL];simp;omega
 have Yn:∀l∈L,l.length<=1000:=by
  intro l hl;rw[hL] at hl;rcases List.mem_append.1 hl with g | g
  ·exact h1 l g
  ·obtain⟨v,hv,rfl⟩:=List.mem_map.1 g;exact h3 v hv
 have hiff:(∃l∈L,∃c∈l,zO c)↔RT R T:=by
  rw[hL];constructor
  ·rintro⟨l,hl,g⟩;rcases List.mem_append.1 hl with k | k
   ·exact .inl ⟨l,k,g⟩
   ·obtain⟨v,hv,rfl⟩:=List.mem_map.1 k;exact .inr ⟨v,hv,g⟩
  ·rintro (⟨l,hl,g⟩ | ⟨v,hv,g⟩)
   ·exact⟨l,List.mem_append_left _ hl,g⟩
   ·exact⟨_,List.mem_append_right _ (List.mem_map.2 ⟨v,hv,rfl⟩),g⟩
 delta dN
 have key:=P3 (f:=iw) (N:=NN) (bad:=.inl (true,())) (good:=.inr ((L.length:Int),(L.length:Int),false,L,())) (λi=>((L.length:Int),(i:Int),L,())) (n:=L.length) (λi=>∀l,L[i]?=some l->¬ ∃c∈l,zO c) (by unfold NN;omega) (λi hi _=>by
  obtain⟨l,hl⟩:∃l,L[i]?=some l:=⟨_,oGE hi⟩;have Xv:=Yn l (dR hl);unfold iw;delta dN;dsimp only;rw[oDT (show (i:Int) < L.length by omega),dO];simp only[oCT,oBS,show dM L i=some l from hl]
  rcases P3 (f:=ix) (N:=NN) (bad:=.inl (true,())) (good:=.inr ((L.length:Int),(i:Int),l,(l.length:Int),(l.length:Int),false,L,())) (λj=>((L.length:Int),(i:Int),l,(l.length:Int),(j:Int),L,())) (n:=l.length) (λj=>∀c,l[j]?=some c->¬ zO c) (by unfold NN;omega) (λj hj _=>by
   obtain⟨c,hc⟩:∃c,l[j]?=some c:=⟨_,oGE hj⟩;unfold ix;dsimp only;rw[oDT (show (j:Int) < l.length by omega),dO];simp only[oCT,oBS,show dM l j=some c from hc]
   have ok:¬ zO c->∀c',l[j]?=some c'->¬ zO c':=λg c' YB=>by
    rw[hc] at YB
    injection YB with YB
    exact YB ▸ g
   by_cases g1:c.1=1
   ·rw[beq_iff_eq.2 g1];by_cases g2:c.2.2.1=-1
    ·rw[beq_iff_eq.2 g2];exact .inr ⟨λk=>k c hc ⟨g1,g2⟩,rfl⟩
    ·rw[oBF g2];refine .inl ⟨ok λk=>g2 k.2,?_⟩;simp only[oCT,oCF];rw[dS (x:=(j:Int)+1) (by omega) (by omega)];rfl
   ·rw[oBF g1];refine .inl ⟨ok λk=>g1 k.1,?_⟩;simp only[oCF];rw[dS (x:=(j:Int)+1) (by omega) (by omega)]
    rfl) (by
   unfold ix;dsimp only;rw[oDF (show ¬ (l.length:Int) < l.length by omega)]
   rfl) with ⟨g,e⟩ | ⟨g,e⟩
  ·have e0:dU ix NN ((L.length:Int),(i:Int),l,(l.length:Int),0,L,())=_:=e;rw[e0];dsimp only;rw[dS (x:=(i:Int)+1) (by omega) (by omega)];refine .inl ⟨λl' Zq=>?_,rfl⟩;rw[hl] at Zq
   injection Zq with Zq
   subst Zq;exact λ⟨c,hc,k⟩=>mc.1 g c hc k
  ·have e0:dU ix NN ((L.length:Int),(i:Int),l,(l.length:Int),0,L,())=_:=e;rw[e0]
   exact .inr ⟨λk=>g (mc.2 λc hc w=>k l hl ⟨c,hc,w⟩),rfl⟩) (by
  unfold iw;dsimp only;rw[oDF (show ¬ (L.length:Int) < L.length by omega)]
  rfl)
 rcases key with ⟨g,e⟩ | ⟨g,e⟩
 ·have e0:dU iw NN ((L.length:Int),0,L,())=_:=e;rw[e0];exact .inr ⟨λk=>by obtain⟨l,hl,w⟩:=hiff.2 k;exact mc.1 g l hl w,rfl⟩
 ·have e0:dU iw NN ((L.length:Int),0,L,())=_:=e;rw[e0];exact .inl ⟨Classical.byContradiction λk=>g (mc.2 λl hl w=>k (hiff.1 ⟨l,hl,w⟩)),rfl⟩
def TD(ss:List Int) (R:List (List DCn)) (T:List DTs):Prop:=R.length=ss.length/\Dy T/\∀i,i < R.length->∀l,R[i]?=some l->(l.length:Int)=ss.getD i 0/\∀c∈l,kx c
theorem Aq{code:List DIn}{ss:List Int}{dt:List (List Int)}{R:List (List DCn)}{T:List DTs}(hp:lM code ss dt=some (0,())) (hz:yh ss) (h:R.length<=1000) (h1:∀l∈R,l.length<=1000) (h2:T.length<=1000) (h3:∀v∈T,v.2.2.2.2.2.2.2.length<=1000):BQ (jU code ss dt R T) (TD ss R T):=by
 unfold jU;rw[hp];delta dN;simp only[oBS,bne_self_eq_false,oCF];by_cases hl:(R.length:Int)=ss.length
 rotate_left
 ·rw[bne_iff_ne.2 hl];exact .inr ⟨λg=>hl (by rw[g.1]),rfl⟩
 rw[bne_eq_false_iff_eq.2 hl];simp only[oCF]
 have key:=P3 (f:=fL) (N:=NN) (bad:=.inl (false,())) (good:=.inr (R,(R.length:Int),(R.length:Int),false,code,ss,dt,R,T,())) (λi=>(R,(R.length:Int),(i:Int),code,ss,dt,R,T,())) (n:=R.length) (λi=>∀l,R[i]?=some l->(l.length:Int)=ss.getD i 0/\∀c∈l,kx c) (by unfold NN;omega) (λi hi _=>by
  obtain⟨l,Zq⟩:∃l,R[i]?=some l:=⟨_,oGE hi⟩;obtain⟨z,XL⟩:∃z,ss[i]?=some z:=⟨_,oGE (by omega)⟩;have Xv:=h1 l (dR Zq);unfold fL;delta dN;dsimp only;rw[oDT (show (i:Int) < R.length by omega),dO];simp only[oCT,oBS,show dM R i=some l from Zq,show dM ss i=some z from XL];by_cases g1:(l.length:Int)=z
  rotate_left
  ·rw[bne_iff_ne.2 g1]
   simp_all
  rw[bne_eq_false_iff_eq.2 g1,xC (by omega),dS (x:=(i:Int)+1) (by omega) (by omega)];simp only[oCF,oBS];by_cases g2:(∀c∈l,kx c)/\(l.length:Int)<=z
  ·simp_all
  ·rw[oDF g2]
   exact .inr ⟨λk=>g2 ⟨(k l Zq).2,by omega⟩,rfl⟩) (by
  unfold fL;dsimp only;rw[oDF (show ¬ (R.length:Int) < R.length by omega)]
  rfl)
 rcases key with ⟨g,e⟩ | ⟨g,e⟩
 ·have e0:dU fL NN (R,(R.length:Int),0,code,ss,dt,R,T,())=_:=e;rw[e0];dsimp only;rcases Js h2 h3 with ⟨k,e2⟩ | ⟨k,e2⟩
  ·rw[e2];exact .inl ⟨⟨by omega,k,g⟩,rfl⟩
  ·rw[e2];exact .inr ⟨λx=>k x.2.1,rfl⟩
 ·have e0:dU fL NN (R,(R.length:Int),0,code,ss,dt,R,T,())=_:=e;rw[e0];exact .inr ⟨λx=>g x.2.2,rfl⟩
theorem Ft{code:List DIn}{ss:List Int}{dt:List (List Int)}{R:List (List DCn)}{T:List DTs}(hp:iX code ss dt=some (0,())) (hz:yh ss) (h:R.length<=1000) (h1:∀l∈R,l.length<=1000) (h2:T.length<=1000) (h3:∀v∈T,v.2.2.2.2.2.2.2.length<=1000):BQ (iW code ss dt R T) (TD ss R T):=by
 unfold iW;rw[hp];delta dN;simp only[oBS,bne_self_eq_false,oCF];by_cases hl:(R.length:Int)=ss.length
 rotate_left
 ·rw[bne_iff_ne.2 hl];exact .inr ⟨λg=>hl (by rw[g.1]),rfl⟩
 rw[bne_eq_false_iff_eq.2 hl];simp only[oCF];rcases Fy h2 h3 with ⟨k,e2⟩ | ⟨k,e2⟩
 rotate_left
 ·rw[e2];exact .inr ⟨λx=>k x.2.1,rfl⟩
 rw[e2];simp only[oBS,oNT,oCF]
 have key:=P3 (f:=fG) (N:=NN) (bad:=.inl (false,())) (good:=.inr (R,(R.length:Int),(R.length:Int),false,code,ss,dt,R,T,())) (λi=>(R,(R.length:Int),(i:Int),code,ss,dt,R,T,())) (n:=R.length) (λi=>∀l,R[i]?=some l->(l.length:Int)=ss.getD i 0/\∀c∈l,kx c) (by unfold NN;omega) (λi hi _=>by
  obtain⟨l,Zq⟩:∃l,R[i]?=some l:=⟨_,oGE hi⟩;obtain⟨z,XL⟩:∃z,ss[i]?=some z:=⟨_,oGE (by omega)⟩;have Xv:=h1 l (dR Zq);have hz32:=(hz.2.2 z (dR XL)).2;unfold fG;delta dN;dsimp only;rw[oDT (show (i:Int) < R.length by omega),dO];simp only[oCT,oBS,show dM R i=some l from Zq,show dM ss i=some z from XL];by_cases g1:(l.length:Int)=z
  rotate_left
  ·rw[bne_iff_ne.2 g1]
   simp_all
  rw[bne_eq_false_iff_eq.2 g1,xE (by omega),dS (x:=(i:Int)+1) (by omega) (by omega)];simp only[oCF,oBS];by_cases g2:(∀c∈l,kx c)/\(l.length:Int)<=32
  ·simp_all
  ·rw[oDF g2]
   exact .inr ⟨λk=>g2 ⟨(k l Zq).2,by omega⟩,rfl⟩) (by
  unfold fG;dsimp only;rw[oDF (show ¬ (R.length:Int) < R.length by omega)]
  rfl)
 rcases key with ⟨g,e⟩ | ⟨g,e⟩
 ·have e0:dU fG NN (R,(R.length:Int),0,code,ss,dt,R,T,())=_:=e;rw[e0];exact .inl ⟨⟨by omega,k,g⟩,rfl⟩
 ·have e0:dU fG NN (R,(R.length:Int),0,code,ss,dt,R,T,())=_:=e;rw[e0];exact .inr ⟨λx=>g x.2.2,rfl⟩
theorem Bq{α S T:Type}{f:S->Option (S⊕T)}(st:Nat->S) {a b:List α}{N:Nat}{bad good:T}(Wn:a.length=b.length) (hn:a.length < N)
 (h:∀(i:Nat) x y,i < a.length->a[i]?=some x->b[i]?=some y->(x=y/\f (st i)=some (.inl (st (i+1))))\/(x≠y/\f (st i)=some (.inr bad))) (he:f (st a.length)=some (.inr good)) :
 (a=b/\dU f N (st 0)=some good)\/(a≠b/\dU f N (st 0)=some bad):=by
 rcases P3 st (λi=>a[i]?=b[i]?) hn (λi hi _=>by
  obtain⟨x,hx⟩:∃x,a[i]?=some x:=⟨_,oGE hi⟩;have ⟨y,hy⟩:∃y,b[i]?=some y:=⟨_,oGE (by omega)⟩;rcases h i x y hi hx hy with ⟨g,e⟩ | ⟨g,e⟩
  ·simp_all
  ·exact .inr ⟨λk=>g (by simp_all),e⟩) he with ⟨g,e⟩ | ⟨g,e⟩
 ·refine .inl ⟨List.ext_getElem? λi=>?_,e⟩;by_cases hi:i < a.length
  all_goals simp_all
 ·exact .inr ⟨λk=>g λi _=>by rw[k],e⟩
theorem RD(x y:DCn):(x=y/\(!((x.1==y.1) && ((x.2.1==y.2.1) && ((x.2.2.1==y.2.2.1) && ((x.2.2.2==y.2.2.2) && true)))))=false)\/(x≠y/\(!((x.1==y.1) && ((x.2.1==y.2.1) && ((x.2.2.1==y.2.2.1) && ((x.2.2.2==y.2.2.2) && true)))))=true):=by
 by_cases h:x=y
 ·simp_all
 ·refine .inr ⟨h,?_⟩;rw[Bool.not_eq_true',<- Bool.not_eq_true];intro g;simp only[oBA,beq_iff_eq] at g;exact h (Prod.ext g.1 (Prod.ext g.2.1 (Prod.ext g.2.2.1 g.2.2.2.1)))
theorem jJ{a b:List DCn}(ha:a.length<=1000) (hb:b.length<=1000):BQ (fK a b) (a=b):=by
 unfold fK;delta dN;dsimp only;by_cases hl:(a.length:Int)=b.length
 rotate_left
 ·rw[bne_iff_ne.2 hl];exact .inr ⟨λg=>hl (by rw[g]),rfl⟩
 rw[bne_eq_false_iff_eq.2 hl]
 rcases Bq (f:=fm) (N:=NN) (a:=a) (b:=b) (bad:=.inl (false,())) (good:=.inr (a,b,(a.length:Int),(a.length:Int),false,())) (λi=>(a,b,(a.length:Int),(i:Int),())) (by omega) (by unfold NN;omega) (λi x y hi hx hy=>by
  unfold fm;dsimp only;rw[oDT (show (i:Int) < a.length by omega),dO];simp only[oBS,show dM a i=some x from hx,show dM b i=some y from hy];rw[dS (x:=(i:Int)+1) (by omega) (by omega)];rcases RD x y with ⟨g,e⟩ | ⟨g,e⟩
  ·simp_all
  ·rw[e];exact .inr ⟨g,rfl⟩) (by
  unfold fm;dsimp only;rw[oDF (show ¬ (a.length:Int) < a.length by omega)]
  rfl) with ⟨g,e⟩ | ⟨g,e⟩
 ·have e0:dU fm NN (a,b,(a.length:Int),0,())=_:=e;rw[e0];exact .inl ⟨g,rfl⟩
 ·have e0:dU fm NN (a,b,(a.length:Int),0,())=_:=e;rw[e0];exact .inr ⟨g,rfl⟩
theorem Sq:fR=fK:=rfl
theorem pU{a b:List DCn}(ha:a.length<=1000) (hb:b.length<=1000):BQ (fR a b) (a=b):=by
 exact jJ ha hb
theorem SR:ve (List.replicate 8 (0,0)) (List.replicate 8 (0,0))=some (true,()):=by kernel_rfl
theorem Qr(x y:DTs) (hx:x.2.2.2.2.2.2.2.length<=1000) (hy:y.2.2.2.2.2.2.2.length<=1000):BQ (jm x.1 x.2.1 x.2.2.1 x.2.2.2.1 x.2.2.2.2.1 x.2.2.2.2.2.1 x.2.2.2.2.2.2.1 x.2.2.2.2.2.2.2 y.1 y.2.1 y.2.2.1 y.2.2.2.1 y.2.2.2.2.1 y.2.2.2.2.2.1 y.2.2.2.2.2.2.1 y.2.2.2.2.2.2.2) (x=y):=by
 unfold jm gZ mQ;rw[show uy 8 8 2=true from rfl];simp only[oCT,oBS];unfold q9;rw[SR];simp only[oBS];by_cases c0:x.1=y.1
 rotate_left
 ·rw[oBF c0];exact .inr ⟨λg=>c0 (by rw[g]),rfl⟩
 rw[beq_iff_eq.2 c0];simp only[oCT,oBS];by_cases c1:x.2.1=y.2.1
 rotate_left
 ·rw[oBF c1];exact .inr ⟨λg=>c1 (by rw[g]),rfl⟩
 rw[beq_iff_eq.2 c1];simp only[oCT,oBS];by_cases c2:x.2.2.1=y.2.2.1
 rotate_left
 ·rw[oBF c2];exact .inr ⟨λg=>c2 (by rw[g]),rfl⟩
 rw[beq_iff_eq.2 c2];simp only[oCT,oBS];by_cases c3:x.2.2.2.1=y.2.2.2.1
 rotate_left
 ·rw[oBF c3];exact .inr ⟨λg=>c3 (by rw[g]),rfl⟩
 rw[beq_iff_eq.2 c3];simp only[oCT,oBS];by_cases c4:x.2.2.2.2.1=y.2.2.2.2.1
 rotate_left
 ·rw[oBF c4];exact .inr ⟨λg=>c4 (by rw[g]),rfl⟩
 rw[beq_iff_eq.2 c4];simp only[oCT,oBS];by_cases c5:x.2.2.2.2.2.1=y.2.2.2.2.2.1
 rotate_left
 ·rw[oBF c5];exact .inr ⟨λg=>c5 (by rw[g]),rfl⟩
 rw[beq_iff_eq.2 c5];by_cases c6:x.2.2.2.2.2.2.1=y.2.2.2.2.2.2.1
 rotate_left
 ·rw[oBF c6];exact .inr ⟨λg=>c6 (by rw[g]),rfl⟩
 rw[beq_iff_eq.2 c6];rcases jJ hx hy with ⟨c7,e⟩ | ⟨c7,e⟩
 ·rw[e];exact .inl ⟨(Prod.ext c0 (Prod.ext c1 (Prod.ext c2 (Prod.ext c3 (Prod.ext c4 (Prod.ext c5 (Prod.ext c6 c7))))))),rfl⟩
 ·rw[e];exact .inr ⟨λg=>c7 (by rw[g]),rfl⟩
theorem Ry{a b:List (List DCn)}(ha:a.length<=1000) (hb:b.length<=1000) (h1:∀l∈a,l.length<=1000) (h2:∀l∈b,l.length<=1000):BQ (f8 a b) (a=b):=by
 unfold f8;delta dN;dsimp only;by_cases hl:(a.length:Int)=b.length
 rotate_left
 ·rw[bne_iff_ne.2 hl];exact .inr ⟨λg=>hl (by rw[g]),rfl⟩
 rw[bne_eq_false_iff_eq.2 hl]
 rcases Bq (f:=eU) (N:=NN) (a:=a) (b:=b) (bad:=.inl (false,())) (good:=.inr (b,a,(a.length:Int),(a.length:Int),false,())) (λi=>(b,a,(a.length:Int),(i:Int),())) (by omega) (by unfold NN;omega) (λi x y hi hx hy=>by
  unfold eU;dsimp only;rw[oDT (show (i:Int) < a.length by omega),dO];simp[oCT,oBS,show dM a i=some x from hx,show dM b i=some y from hy];rw[dS (x:=(i:Int)+1) (by omega) (by omega)];rcases jJ (h1 x (dR hx)) (h2 y (dR hy)) with ⟨g,e⟩ | ⟨g,e⟩
  ·simp_all
  ·rw[e];exact .inr ⟨g,rfl⟩) (by
  unfold eU;dsimp only;rw[oDF (show ¬ (a.length:Int) < a.length by omega)]
  rfl) with ⟨g,e⟩ | ⟨g,e⟩
 ·have e0:dU eU NN (b,a,(a.length:Int),0,())=_:=e;rw[e0];exact .inl ⟨g,rfl⟩
 ·have e0:dU eU NN (b,a,(a.length:Int),0,())=_:=e;rw[e0];exact .inr ⟨g,rfl⟩
theorem PB{a b:List DTs}(ha:a.length<=1000) (hb:b.length<=1000) (h1:∀v∈a,v.2.2.2.2.2.2.2.length<=1000) (h2:∀v∈b,v.2.2.2.2.2.2.2.length<=1000):BQ (gu a b) (a=b):=by
 unfold gu;delta dN;dsimp only;by_cases hl:(a.length:Int)=b.length
 rotate_left
 ·rw[bne_iff_ne.2 hl];exact .inr ⟨λg=>hl (by rw[g]),rfl⟩
 rw[bne_eq_false_iff_eq.2 hl];simp only[oCF]
 rcases Bq (f:=eZ) (N:=NN) (a:=a) (b:=b) (bad:=.inl (false,())) (good:=.inr (b,a,(a.length:Int),(a.length:Int),false,())) (λi=>(b,a,(a.length:Int),(i:Int),())) (by omega) (by unfold NN;omega) (λi x y hi hx hy=>by
  unfold eZ;dsimp only;rw[oDT (show (i:Int) < a.length by omega),dO];simp only[oCT,oBS,show dM a i=some x from hx,show dM b i=some y from hy];rw[dS (x:=(i:Int)+1) (by omega) (by omega)];rcases Qr x y (h1 x (dR hx)) (h2 y (dR hy)) with ⟨g,e⟩ | ⟨g,e⟩
  ·simp_all
  ·rw[e];exact .inr ⟨g,rfl⟩) (by
  unfold eZ;dsimp only;rw[oDF (show ¬ (a.length:Int) < a.length by omega)]
  rfl) with ⟨g,e⟩ | ⟨g,e⟩
 ·have e0:dU eZ NN (b,a,(a.length:Int),0,())=_:=e;rw[e0];exact .inl ⟨g,rfl⟩
 ·have e0:dU eZ NN (b,a,(a.length:Int),0,())=_:=e;rw[e0];exact .inr ⟨g,rfl⟩
theorem Db{R R':List (List DCn)}{T T':List DTs}(r1:R.length<=1000) (r2:R'.length<=1000) (r3:∀l∈R,l.length<=1000) (r4:∀l∈R',l.length<=1000) (t1:T.length<=1000) (t2:T'.length<=1000) (t3:∀v∈T,v.2.2.2.2.2.2.2.length<=1000) (t4:∀v∈T',v.2.2.2.2.2.2.2.length<=1000):BQ (kO R T R' T') (R=R'/\T=T'):=by
 unfold kO;rcases Ry r1 r2 r3 r4 with ⟨g,e⟩ | ⟨g,e⟩
 ·rw[e];rcases PB t1 t2 t3 t4 with ⟨g2,e2⟩ | ⟨g2,e2⟩
  ·rw[e2];exact .inl ⟨⟨g,g2⟩,rfl⟩
  ·rw[e2];exact .inr ⟨λk=>g2 k.2,rfl⟩
 ·rw[e];exact .inr ⟨λk=>g k.1,rfl⟩
theorem Az{R R':List (List DCn)}{T T':List DTs}(r1:R.length<=1000) (r2:R'.length<=1000) (r3:∀l∈R,l.length<=1000) (r4:∀l∈R',l.length<=1000) (t1:T.length<=1000) (t2:T'.length<=1000) (t3:∀v∈T,v.2.2.2.2.2.2.2.length<=1000) (t4:∀v∈T',v.2.2.2.2.2.2.2.length<=1000):BQ (kX R T R' T') (R=R'/\T=T'):=by
 unfold kX;delta dN;dsimp only;by_cases hl:(R.length:Int)=R'.length
 rotate_left
 ·rw[bne_iff_ne.2 hl];exact .inr ⟨λg=>hl (by rw[g.1]),rfl⟩
 rw[bne_eq_false_iff_eq.2 hl];by_cases hl2:(T.length:Int)=T'.length
 rotate_left
 ·rw[bne_iff_ne.2 hl2];exact .inr ⟨λg=>hl2 (by rw[g.2]),rfl⟩
 rw[bne_eq_false_iff_eq.2 hl2];simp only[oCF]
 rcases Bq (f:=iz) (N:=NN) (a:=R) (b:=R') (bad:=.inl (false,())) (good:=.inr ((R.length:Int),(R.length:Int),false,R,T,R',T',())) (λi=>((R.length:Int),(i:Int),R,T,R',T',())) (by omega) (by unfold NN;omega) (λi x y hi hx hy=>by
  unfold iz;dsimp only;rw[oDT (show (i:Int) < R.length by omega),dO];simp only[oCT,oBS,show dM R i=some x from hx,show dM R' i=some y from hy];rw[dS (x:=(i:Int)+1) (by omega) (by omega)];rcases pU (r3 x (dR hx)) (r4 y (dR hy)) with ⟨g,e⟩ | ⟨g,e⟩
  ·rw[e];exact .inl ⟨g,rfl⟩
  ·rw[e];exact .inr ⟨g,rfl⟩) (by
  unfold iz;dsimp only;rw[oDF (show ¬ (R.length:Int) < R.length by omega)]
  rfl) with ⟨g,e⟩ | ⟨g,e⟩
 rotate_left
 ·have e0:dU iz NN ((R.length:Int),0,R,T,R',T',())=_:=e;rw[e0];exact .inr ⟨λk=>g k.1,rfl⟩
 have e0:dU iz NN ((R.length:Int),0,R,T,R',T',())=_:=e;rw[e0];dsimp only
 rcases Bq (f:=iy) (N:=NN) (a:=T) (b:=T') (bad:=.inl (false,())) (good:=.inr (T,(T.length:Int),(T.length:Int),false,R,T,R',T',())) (λi=>(T,(T.length:Int),(i:Int),R,T,R',T',())) (by omega) (by unfold NN;omega) (λi x y hi hx hy=>by
  unfold iy;dsimp only;rw[oDT (show (i:Int) < T.length by omega),dO];simp only[oCT,oBS,show dM T i=some x from hx,show dM T' i=some y from hy];by_cases c0:x.1=y.1
  rotate_left
  ·rw[bne_iff_ne.2 c0];exact .inr ⟨λg=>c0 (by rw[g]),rfl⟩
  rw[bne_eq_false_iff_eq.2 c0];simp only[oCF];by_cases c1:x.2.1=y.2.1
  rotate_left
  ·rw[bne_iff_ne.2 c1];exact .inr ⟨λg=>c1 (by rw[g]),rfl⟩
  rw[bne_eq_false_iff_eq.2 c1];simp only[oCF];by_cases c2:x.2.2.1=y.2.2.1
  rotate_left
  ·rw[bne_iff_ne.2 c2];exact .inr ⟨λg=>c2 (by rw[g]),rfl⟩
  rw[bne_eq_false_iff_eq.2 c2];simp only[oCF];by_cases c3:x.2.2.2.1=y.2.2.2.1
  rotate_left
  ·rw[bne_iff_ne.2 c3];exact .inr ⟨λg=>c3 (by rw[g]),rfl⟩
  rw[bne_eq_false_iff_eq.2 c3];simp only[oCF];by_cases c4:x.2.2.2.2.1=y.2.2.2.2.1
  rotate_left
  ·rw[bne_iff_ne.2 c4];exact .inr ⟨λg=>c4 (by rw[g]),rfl⟩
  rw[bne_eq_false_iff_eq.2 c4];simp only[oCF];by_cases c5:x.2.2.2.2.2.1=y.2.2.2.2.2.1
  rotate_left
  ·rw[bne_iff_ne.2 c5];exact .inr ⟨λg=>c5 (by rw[g]),rfl⟩
  rw[bne_eq_false_iff_eq.2 c5];simp only[oCF];by_cases c6:x.2.2.2.2.2.2.1=y.2.2.2.2.2.2.1
  rotate_left
  ·rw[bne_iff_ne.2 c6];exact .inr ⟨λg=>c6 (by rw[g]),rfl⟩
  rw[bne_eq_false_iff_eq.2 c6];simp only[oCF];rcases pU (t3 x (dR hx)) (t4 y (dR hy)) with ⟨c7,e⟩ | ⟨c7,e⟩
  ·rw[e];simp only[oBS,oNT,oCF];rw[dS (x:=(i:Int)+1) (by omega) (by omega)];exact .inl ⟨(Prod.ext c0 (Prod.ext c1 (Prod.ext c2 (Prod.ext c3 (Prod.ext c4 (Prod.ext c5 (Prod.ext c6 c7))))))),rfl⟩
  ·rw[e]
   exact .inr ⟨λg=>c7 (by rw[g]),rfl⟩) (by
  unfold iy;dsimp only;rw[oDF (show ¬ (T.length:Int) < T.length by omega)]
  rfl) with ⟨g2,e2⟩ | ⟨g2,e2⟩
 ·have e3:dU iy NN (T,(T.length:Int),0,R,T,R',T',())=_:=e2;rw[e3];exact .inl ⟨⟨g,g2⟩,rfl⟩
 ·have e3:dU iy NN (T,(T.length:Int),0,R,T,R',T',())=_:=e2;rw[e3];exact .inr ⟨λk=>g2 k.2,rfl⟩
def vb(v:DTs):List Int:=[wk .u8 v.1,wk .u8 v.2.1,wk .u8 v.2.2.2.2.2.1]++(be 6 v.2.2.1++(be 2 (w64 (v.2.2.2.1+1))++(be 2 (w64 (v.2.2.2.2.1+1))++(be 2 (wk .i64 v.2.2.2.2.2.2.1)++lb v.2.2.2.2.2.2.2))))
theorem mi(xs:List DCn):(lb xs).length=4*xs.length+1:=by unfold lb;rw[oLC,vv]
theorem rI:∀{R:List (List DCn)},(∀l∈R,l.length<=1000)->(R.flatMap lb).length<=4001*R.length:=by
 intro R
 induction R with
 | nil=>simp_all
 | cons l R ih=>
  intro h;have:=ih λx hx=>h x (List.mem_cons_of_mem _ hx);have h1:=h l List.mem_cons_self;rw[List.flatMap_cons,List.length_append,mi,oLC];omega
theorem Se(v:DTs):(vb v).length=16+4*v.2.2.2.2.2.2.2.length:=by
 unfold vb;simp[mb,mi];omega
theorem Bk:∀{T:List DTs},(∀v∈T,v.2.2.2.2.2.2.2.length<=1000)->(T.flatMap vb).length<=4016*T.length:=by
 intro T
 induction T with
 | nil=>simp_all
 | cons v T ih=>
  intro h;have:=ih λx hx=>h x (List.mem_cons_of_mem _ hx);have h1:=h v List.mem_cons_self;rw[List.flatMap_cons,List.length_append,Se,oLC];omega
theorem wC{α:Type}{l:List α}{i:Nat}{x:α}(g:α->List Int) (h:l[i]?=some x):(l.take (i+1)).flatMap g=(l.take i).flatMap g++g x:=by
 rw[List.take_add_one,h];simp
theorem TJ(v:Int) {b:List Int}(hb:b.length<=90000):ge 6 v b=some (b++be 6 v,()):=JN (n:=6) (by decide) hb
theorem Tk(v:Int) {b:List Int}(hb:b.length<=90000):ge 2 v b=some (b++be 2 v,()):=JN (n:=2) (by decide) hb
def TF(l:List DCn):Prop:=l≠[]/\(∀c∈l,kx c)/\(l.length:Int)<=32
def OkB(R:List (List DCn)) (T:List DTs):Prop:=(1<=R.length/\R.length<=4)/\Dy T/\∀l∈R,TF l
def sb(R:List (List DCn)) (T:List DTs):List Int:=([(R.length:Int)]++R.flatMap lb)++T.flatMap vb
def HO(o:Option (List Int×Int×Unit)) (R:List (List DCn)) (T:List DTs):Prop:=(OkB R T/\o=some (sb R T,0,()))\/(¬ OkB R T/\o=some ([],1,()))
theorem HO.same{o o':Option (List Int×Int×Unit)}{R:List (List DCn)}{T:List DTs}(h:HO o R T) (h':HO o' R T):o=o':=by
 rcases h with ⟨h,e⟩ | ⟨h,e⟩<;>rcases h' with ⟨h',e'⟩ | ⟨h',e'⟩
 ·rw[e,e']
 ·simp_all
 ·simp_all
 ·rw[e,e']
theorem Sc{R:List (List DCn)}{T:List DTs}{b:List Int}(hv:Dy T) (ht:∀v∈T,∀c∈v.2.2.2.2.2.2.2,zP c) (hb:b.length<=20000) :
 dU fA NN (T,(T.length:Int),0,R,T,b,())=some (T,(T.length:Int),(T.length:Int),false,R,T,b++T.flatMap vb,()):=by
 have h4:=hv.1
 have h8:∀v∈T,v.2.2.2.2.2.2.2.length<=1000:=λv hx=>by rw[(hv.2 v hx).2.2.2.2.2.2.1];decide
 have:=mW (f:=fA) (N:=NN) (st:=λr=>(T,(T.length:Int),(r:Int),R,T,b++(T.take r).flatMap vb,())) (n:=T.length) (t:=(T,(T.length:Int),(T.length:Int),false,R,T,b++T.flatMap vb,())) (by unfold NN;omega) ?_ ?_
 ·simpa using this
 ·intro r hr;obtain⟨v,hx⟩:∃v,T[r]?=some v:=⟨_,oGE hr⟩;have U1:=hv.2 v (dR hx);have hl8:=U1.2.2.2.2.2.2.1;have X5:=Bk (T:=T.take r) λv hv=>h8 v (List.mem_of_mem_take hv);rw[oLT] at X5;unfold fA;dsimp only;rw[oDT (show (r:Int) < T.length by omega),dO];simp only[oCT,oBS,show dM T r=some v from hx];rw[eI (by decide) (by simp only[List.length_append,oLC,List.length_nil,mb,mi];omega)];simp only[oCT,R1];rw[TJ _ (by simp only[List.length_append,oLC,List.length_nil,mb,mi];omega)];simp only[oBS];rw[Tk _ (by simp only[List.length_append,oLC,List.length_nil,mb,mi];omega)];simp only[oBS];rw[Tk _ (by simp only[List.length_append,oLC,List.length_nil,mb,mi];omega)];simp only[oBS];rw[Tk _ (by simp only[List.length_append,oLC,List.length_nil,mb,mi];omega)];simp only[oBS];rw[Nj (λc hc=>(U1.2.2.2.2.2.2.2 c hc).ok (ht v (dR hx) c hc)) (by omega) (by simp only[List.length_append,oLC,List.length_nil,mb,mi];omega)];rw[dS (x:=(r:Int)+1) (by omega) (by omega),wC vb hx];refine Ok.ret ?_;unfold vb;simp only[List.append_assoc];rfl
 ·unfold fA;dsimp only;rw[oDF (show ¬ (T.length:Int) < T.length by omega),List.take_length];exact Ok.ret rfl
theorem Qq{R:List (List DCn)}{T:List DTs}{b:List Int}(hv:Dy T) (ht:∀v∈T,∀c∈v.2.2.2.2.2.2.2,zP c) (hb:b.length<=20000) :
 dU fW NN (T,(T.length:Int),0,R,T,b,())=some (T,(T.length:Int),(T.length:Int),false,R,T,b++T.flatMap vb,()):=by
 have h4:=hv.1
 have h8:∀v∈T,v.2.2.2.2.2.2.2.length<=1000:=λv hx=>by rw[(hv.2 v hx).2.2.2.2.2.2.1];decide
 have:=mW (f:=fW) (N:=NN) (st:=λr=>(T,(T.length:Int),(r:Int),R,T,b++(T.take r).flatMap vb,())) (n:=T.length) (t:=(T,(T.length:Int),(T.length:Int),false,R,T,b++T.flatMap vb,())) (by unfold NN;omega) ?_ ?_
 ·simpa using this
 ·intro r hr;obtain⟨v,hx⟩:∃v,T[r]?=some v:=⟨_,oGE hr⟩;have U1:=hv.2 v (dR hx);have hl8:=U1.2.2.2.2.2.2.1;have X5:=Bk (T:=T.take r) λv hv=>h8 v (List.mem_of_mem_take hv);rw[oLT] at X5;unfold fW;dsimp only;rw[oDT (show (r:Int) < T.length by omega),dO];simp only[oCT,oBS,show dM T r=some v from hx,Q8,MN];rw[eI (by decide) (by simp only[List.length_append,oLC,List.length_nil,mb,mi];omega)];simp only[oCT,R1];rw[eI (by decide) (by simp only[List.length_append,oLC,List.length_nil,mb,mi];omega)];simp only[oCT];rw[eI (by decide) (by simp only[List.length_append,oLC,List.length_nil,mb,mi];omega)];simp only[oCT];rw[eI (by decide) (by simp only[List.length_append,oLC,List.length_nil,mb,mi];omega)];simp only[oCT];rw[eI (by decide) (by simp only[List.length_append,oLC,List.length_nil,mb,mi];omega)];simp only[oCT];rw[De (λc hc=>(U1.2.2.2.2.2.2.2 c hc).ok (ht v (dR hx) c hc)) (by omega)];simp only[oBS];rw[eI (by decide) (by simp only[List.length_append,oLC,List.length_nil,mb,mi];omega)];rw[dS (x:=(r:Int)+1) (by omega) (by omega),wC vb hx];refine Ok.ret ?_;unfold vb;simp only[List.append_assoc];rfl
 ·unfold fW;dsimp only;rw[oDF (show ¬ (T.length:Int) < T.length by omega),List.take_length];exact Ok.ret rfl
theorem QZ{R:List (List DCn)}{T:List DTs}(h:R.length<=1000) (h1:∀l∈R,l.length<=1000) (h2:T.length<=1000) (h3:∀v∈T,v.2.2.2.2.2.2.2.length<=1000) (r5:∀l∈R,∀c∈l,zP c) (t5:∀v∈T,∀c∈v.2.2.2.2.2.2.2,zP c):HO (gQ R T) R T:=by
 unfold gQ;delta dN;dsimp only;by_cases c0:(R.length:Int) < 1
 ·rw[oDT c0];exact .inr ⟨λg=>by have:=g.1.1;omega,rfl⟩
 rw[oDF c0];by_cases c1:(R.length:Int) > 4
 ·rw[oDT c1];exact .inr ⟨λg=>by have:=g.1.2;omega,rfl⟩
 rw[oDF c1];simp only[oCF];rcases Js h2 h3 with ⟨k,e2⟩ | ⟨k,e2⟩
 rotate_left
 ·rw[e2];exact .inr ⟨λg=>k g.2.1,rfl⟩
 rw[e2];simp;rw[HU,Int.emod_eq_of_lt (show (0:Int)<=R.length by omega) (by omega)]
 rcases P3 (f:=fe) (N:=NN) (bad:=.inl (1,(),())) (good:=.inr (R,(R.length:Int),(R.length:Int),false,R,T,[(R.length:Int)]++R.flatMap lb,())) (λi=>(R,(R.length:Int),(i:Int),R,T,[(R.length:Int)]++(R.take i).flatMap lb,())) (n:=R.length) (λi=>∀l,R[i]?=some l->TF l) (by unfold NN;omega) (λi hi _=>by
  obtain⟨l,hl⟩:∃l,R[i]?=some l:=⟨_,oGE hi⟩;have Xv:=h1 l (dR hl);have X5:=rI (R:=R.take i) λv hv=>h1 v (List.mem_of_mem_take hv);rw[oLT] at X5;unfold fe;delta dN;dsimp only;rw[oDT (show (i:Int) < R.length by omega),dO];simp only[oCT,oBS,show dM R i=some l from hl];by_cases g0:(l.length:Int)=0
  ·rw[beq_iff_eq.2 g0];exact .inr ⟨λg=>(g l hl).1 (List.length_eq_zero_iff.1 (by omega)),rfl⟩
  rw[oBF g0,xC (by omega)];simp only[oCF,oBS];by_cases g1:(∀c∈l,kx c)/\(l.length:Int)<=32
  rotate_left
  ·rw[oDF g1];exact .inr ⟨λg=>g1 (g l hl).2,rfl⟩
  rw[oDT g1];simp only[oNT,oCF];rw[Nj (λc hc=>(g1.1 c hc).ok (r5 l (dR hl) c hc)) (by omega) (by simp only[List.length_append,oLC,List.length_nil,mb,mi];omega)];simp only[oBS];rw[dS (x:=(i:Int)+1) (by omega) (by omega),wC lb hl];refine .inl ⟨λl2 hl2=>?_,by rw[List.append_assoc];rfl⟩;rw[hl] at hl2
  injection hl2 with hl2
  subst hl2
  exact⟨λg=>g0 (by rw[g];rfl),g1.1,g1.2⟩) (by
  unfold fe;dsimp only;rw[oDF (show ¬ (R.length:Int) < R.length by omega),List.take_length]
  rfl) with ⟨g,e⟩ | ⟨g,e⟩
 ·have e0:dU fe NN (R,(R.length:Int),0,R,T,[(R.length:Int)],())=_:=e;rw[e0];dsimp only;have X5:=rI (R:=R) h1;rw[Sc k t5 (by simp only[List.length_append,oLC,List.length_nil,mb,mi];omega)];exact .inl ⟨⟨⟨by omega,by omega⟩,k,mc.1 g⟩,rfl⟩
 ·have e0:dU fe NN (R,(R.length:Int),0,R,T,[(R.length:Int)],())=_:=e;rw[e0];exact .inr ⟨λx=>g (mc.2 x.2.2),rfl⟩
theorem JK{R:List (List DCn)}{T:List DTs}(h:R.length<=1000) (h1:∀l∈R,l.length<=1000) (h2:T.length<=1000) (h3:∀v∈T,v.2.2.2.2.2.2.2.length<=1000) (r5:∀l∈R,∀c∈l,zP c) (t5:∀v∈T,∀c∈v.2.2.2.2.2.2.2,zP c):HO (hJ R T) R T:=by
 unfold hJ;delta dN;dsimp only
 rcases P3 (f:=fH) (N:=NN) (bad:=.inl (1,(),())) (good:=.inr (R,(R.length:Int),(R.length:Int),false,R,T,R.map (λl=>(l.length:Int)),())) (λi=>(R,(R.length:Int),(i:Int),R,T,(R.take i).map (λl=>(l.length:Int)),())) (n:=R.length) (λi=>∀l,R[i]?=some l->(∀c∈l,kx c)/\(l.length:Int)<=32) (by unfold NN;omega) (λi hi _=>by
  obtain⟨l,hl⟩:∃l,R[i]?=some l:=⟨_,oGE hi⟩;have Xv:=h1 l (dR hl);unfold fH;delta dN;dsimp only;rw[oDT (show (i:Int) < R.length by omega),dO];simp only[oCT,oBS,show dM R i=some l from hl];rw[eI (by decide) (by simp;omega),xE (by omega)];simp only[oCT,oBS];by_cases g1:(∀c∈l,kx c)/\(l.length:Int)<=32
  rotate_left
  ·rw[oDF g1];exact .inr ⟨λg=>g1 (g l hl),rfl⟩
  rw[oDT g1];simp only[oNT,oCF];rw[dS (x:=(i:Int)+1) (by omega) (by omega),R1]
  have e:(R.take (i+1)).map (λl:List DCn=>(l.length:Int))=(R.take i).map (λl=>(l.length:Int))++[(l.length:Int)]:=by
   rw[List.take_add_one,hl];simp
  rw[e];refine .inl ⟨λl2 hl2=>?_,rfl⟩;rw[hl] at hl2
  injection hl2 with hl2
  subst hl2
  exact g1) (by
  unfold fH;dsimp only;rw[oDF (show ¬ (R.length:Int) < R.length by omega),List.take_length]
  rfl) with ⟨g,e⟩ | ⟨g,e⟩
 rotate_left
 ·have e0:dU fH NN (R,(R.length:Int),0,R,T,[],())=_:=e;rw[e0];exact .inr ⟨λx=>g (mc.2 λl hl=>(x.2.2 l hl).2),rfl⟩
 have e0:dU fH NN (R,(R.length:Int),0,R,T,[],())=_:=e;rw[e0];dsimp only;have hg:=mc.1 g;rcases L1 (ss:=R.map (λl=>(l.length:Int))) (by simpa using h) with ⟨z,ez⟩ | ⟨z,ez⟩
 rotate_left
 ·rw[ez];refine .inr ⟨λx=>z ⟨by simpa using x.1.1,by simpa using x.1.2,λn hn=>?_⟩,rfl⟩;obtain⟨l,hl,rfl⟩:=List.mem_map.1 hn;have:=x.2.2 l hl;have h0:l.length≠0:=λk=>this.1 (List.length_eq_zero_iff.1 k);exact⟨by omega,this.2.2⟩
 rw[ez];simp only[oBS,oNT,oCF];have zl:1<=R.length/\R.length<=4:=⟨by simpa using z.1,by simpa using z.2.1⟩;rcases Fy h2 h3 with ⟨k,e2⟩ | ⟨k,e2⟩
 rotate_left
 ·rw[e2];exact .inr ⟨λx=>k x.2.1,rfl⟩
 rw[e2];simp;rw[HU,Int.emod_eq_of_lt (show (0:Int)<=R.length by omega) (by omega)]
 have e3:dU fX NN (R,(R.length:Int),0,R,T,[(R.length:Int)],())=some (R,(R.length:Int),(R.length:Int),false,R,T,[(R.length:Int)]++R.flatMap lb,()):=by
  have:=mW (f:=fX) (N:=NN) (st:=λr=>(R,(R.length:Int),(r:Int),R,T,[(R.length:Int)]++(R.take r).flatMap lb,())) (n:=R.length) (t:=(R,(R.length:Int),(R.length:Int),false,R,T,[(R.length:Int)]++R.flatMap lb,())) (by unfold NN;omega) ?_ ?_
  ·simpa using this
  ·intro r hr;obtain⟨l,hl⟩:∃l,R[r]?=some l:=⟨_,oGE hr⟩;have Xv:=hg l (dR hl);have X5:=rI (R:=R.take r) λv hv=>h1 v (List.mem_of_mem_take hv);rw[oLT] at X5;unfold fX;dsimp only;rw[oDT (show (r:Int) < R.length by omega),dO];simp only[oCT,oBS,show dM R r=some l from hl];rw[De (λc hc=>(Xv.1 c hc).ok (r5 l (dR hl) c hc)) (by omega)];simp only[oBS];rw[eI (by decide) (by simp only[List.length_append,oLC,List.length_nil,mb,mi];omega),dS (x:=(r:Int)+1) (by omega) (by omega),wC lb hl,R1];simp only[oCT];exact Ok.ret (by rw[List.append_assoc];rfl)
  ·unfold fX;dsimp only;rw[oDF (show ¬ (R.length:Int) < R.length by omega),List.take_length];exact Ok.ret rfl
 rw[e3];simp only[oBS];have X5:=rI (R:=R) h1;rw[Qq k t5 (by simp only[List.length_append,oLC,List.length_nil,mb,mi];omega)];refine .inl ⟨⟨zl,k,λl hl=>⟨λg0=>?_,(hg l hl).1,(hg l hl).2⟩⟩,rfl⟩;have:=(z.2.2 _ (List.mem_map.2 ⟨l,hl,rfl⟩)).1;rw[g0] at this;exact absurd this (by decide)
structure SB (R:List (List DCn)) (T:List DTs):Prop where
 r:R.length<=8
 rl:∀l∈R,l.length<=40
 rc:∀l∈R,∀c∈l,zP c
 t:T.length<=8
 tl:∀v∈T,v.2.2.2.2.2.2.2.length<=40
 tc:∀v∈T,∀c∈v.2.2.2.2.2.2.2,zP c
theorem xM{α:Type}{l:List α}{i:Nat}{f:α->α}{a:α}(h:a∈l.modify i f):a∈l\/∃x∈l,a=f x:=by
 have ⟨j,hj⟩:=List.getElem?_of_mem h
 grind
theorem AI{α:Type}{l:List α}{i n:Nat}{a:α}(h:a∈m8 l i n):a∈l:=List.mem_of_mem_drop (List.mem_of_mem_take h)
theorem SB.modT{R:List (List DCn)}{T:List DTs}(h:SB R T) {k:Nat}{f:DTs->DTs}(h1:∀v∈T,(f v).2.2.2.2.2.2.2.length<=40) (h2:∀v∈T,∀c∈(f v).2.2.2.2.2.2.2,zP c):SB R (T.modify k f):=by
 refine⟨h.r,h.rl,h.rc,by rw[oLM];exact h.t,λv hv=>?_,λv hv=>?_⟩
 ·rcases xM hv with g | ⟨x,g,rfl⟩
  ·exact h.tl v g
  ·simp_all
 ·rcases xM hv with g | ⟨x,g,rfl⟩
  ·exact h.tc v g
  ·exact h2 x g
theorem SB.modR{R:List (List DCn)}{T:List DTs}(h:SB R T) {k:Nat}{f:List DCn->List DCn}(h1:∀v∈R,(f v).length<=40) (h2:∀v∈R,∀c∈f v,zP c):SB (R.modify k f) T:=by
 refine⟨by rw[oLM];exact h.r,λv hv=>?_,λv hv=>?_,h.t,h.tl,h.tc⟩
 ·rcases xM hv with g | ⟨x,g,rfl⟩
  ·exact h.rl v g
  ·simp_all
 ·rcases xM hv with g | ⟨x,g,rfl⟩
  ·exact h.rc v g
  ·exact h2 x g
theorem HV{α:Type}{l:List α}{i n:Nat}:(m8 l i n).length<=l.length:=by
 unfold m8;rw[oLT,List.length_drop];omega
theorem SB.winR{R:List (List DCn)}{T:List DTs}(h:SB R T) {k n:Nat}:SB (m8 R k n) T:=
 ⟨Nat.le_trans HV h.r,λv hv=>h.rl v (AI hv),λv hv=>h.rc v (AI hv),h.t,h.tl,h.tc⟩
theorem SB.winT{R:List (List DCn)}{T:List DTs}(h:SB R T) {k n:Nat}:SB R (m8 T k n):=
 ⟨h.r,h.rl,h.rc,Nat.le_trans HV h.t,λv hv=>h.tl v (AI hv),λv hv=>h.tc v (AI hv)⟩
theorem Fz{α:Type}{l:List α}{i:Nat}{x:α}(h:l[i]?=some x):l.take (i+1)=l.take i++[x]:=by
 rw[List.take_add_one,h];rfl
theorem LZ{R:List (List DCn)}{T:List DTs}{YY at_ W1:Int}(h:SB R T) (r1:1<=R.length) (rl1:∀l∈R,1<=l.length) (rl:∀l∈R,l.length<=32) (t4:T.length=4) (tl:∀v∈T,v.2.2.2.2.2.2.2.length=8) (h0:HN YY) (h1:HN at_) (h2:HN W1) :
 Ok (mP R T YY at_ W1) λr=>∃R' T',r=(R',T',())/\SB R' T':=by
 have hr8:=h.r
 have e1:dU iG NN (YY,at_,W1,R,(R.length:Int),0,R,T,(),(),[],(),())=some (YY,at_,W1,R,(R.length:Int),(R.length:Int),false,R,T,(),(),R,(),()):=by
  have:=mW (f:=iG) (N:=NN) (st:=λr=>(YY,at_,W1,R,(R.length:Int),(r:Int),R,T,(),(),R.take r,(),())) (n:=R.length) (t:=(YY,at_,W1,R,(R.length:Int),(R.length:Int),false,R,T,(),(),R,(),())) (by unfold NN;omega) ?_ ?_
  ·simpa using this
  ·intro r hr;obtain⟨l,hl⟩:∃l,R[r]?=some l:=⟨_,oGE hr⟩;have:=h.rl l (dR hl);unfold iG;dsimp only;rw[oDT (show (r:Int) < R.length by omega),dO];simp only[oCT,oBS,show dM R r=some l from hl];rw[eI (by decide) (by omega),eI (by decide) (by simp;omega)];simp only[oCT];rw[dS (x:=(r:Int)+1) (by omega) (by omega),Fz hl];exact Ok.ret rfl
  ·unfold iG;dsimp only;rw[oDF (show ¬ (R.length:Int) < R.length by omega),List.take_length];exact Ok.ret rfl
 have e2:dU iF NN (YY,at_,W1,T,(T.length:Int),0,R,T,(),(),R,[],())=some (YY,at_,W1,T,(T.length:Int),(T.length:Int),false,R,T,(),(),R,T,()):=by
  have:=mW (f:=iF) (N:=NN) (st:=λr=>(YY,at_,W1,T,(T.length:Int),(r:Int),R,T,(),(),R,T.take r,())) (n:=T.length) (t:=(YY,at_,W1,T,(T.length:Int),(T.length:Int),false,R,T,(),(),R,T,())) (by unfold NN;omega) ?_ ?_
  ·simpa using this
  ·intro r hr;obtain⟨v,hv⟩:∃v,T[r]?=some v:=⟨_,oGE hr⟩;have:=h.tl v (dR hv);unfold iF;dsimp only;rw[oDT (show (r:Int) < T.length by omega),dO];simp only[oCT,oBS,show dM T r=some v from hv];rw[eI (by decide) (by omega),eI (by decide) (by simp;omega)];simp only[oCT];rw[dS (x:=(r:Int)+1) (by omega) (by omega),Fz hv];exact Ok.ret rfl
  ·unfold iF;dsimp only;rw[oDF (show ¬ (T.length:Int) < T.length by omega),List.take_length];exact Ok.ret rfl
 unfold mP;delta dN;dsimp only;rw[e1];simp only[oBS];rw[e2];simp only[oBS];rw[vT h1 (by omega) (by omega)];simp only[oBS];rw[vT h2 (b:=11) (by decide) (by decide)];simp only[oBS];refine Ok.nat (by omega) λq hq=>?_;refine Ok.get (by simp;omega) λz hz=>?_;obtain⟨VL,hVL⟩:∃VL:List Int,VL=[-2,-1,0,1,4,5,6,7,255,256,1099511627777]:=⟨_,rfl⟩;rw[<- hVL] at hz ⊢;rw[show dM VL q=some z from hz];simp only[oBS];have m0:=Int.emod_nonneg at_ (show (T.length:Int)≠0 by omega);have m1:=Int.emod_lt_of_pos at_ (show 0 < (T.length:Int) by omega);obtain⟨k,hk⟩:∃k:Nat,at_ % (T.length:Int)=k:=⟨(at_ % (T.length:Int)).toNat,by omega⟩
 have hkl:k < T.length:=by omega
 obtain⟨v,hv⟩:∃v,T[k]?=some v:=⟨_,oGE hkl⟩;obtain⟨l,hl⟩:∃l,R[0]?=some l:=⟨_,oGE (by omega)⟩;have Xv:=rl l (dR hl);have Xu:=rl1 l (dR hl);have hv8:=tl v (dR hv);have gv:dM T k=some v:=hv;have gl:dM R 0=some l:=hl;rw[hk,vT h0 (b:=10) (by decide) (by decide)];obtain⟨x,hx⟩:∃x,YY % 10=x:=⟨_,rfl⟩
 have hx0:0<=x/\x < 10:=by omega
 rw[hx];simp only[oBS,dO,gv,gl]
 rcases (show x=0\/x=1\/x=2\/x=3\/x=4\/x=5\/x=6\/x=7\/x=8\/x=9 by omega) with rfl | rfl | rfl | rfl | rfl | rfl | rfl | rfl | rfl | rfl<;>simp only[Int.reduceBEq,BEq.rfl,oCT,oCF]
 ·exact Ok.ret ⟨_,_,rfl,h.modT (λv hv=>h.tl v hv) λv hv=>h.tc v hv⟩
 ·exact Ok.ret ⟨_,_,rfl,h.modT (λv hv=>h.tl v hv) λv hv=>h.tc v hv⟩
 ·exact Ok.ret ⟨_,_,rfl,h.modT (λv hv=>h.tl v hv) λv hv=>h.tc v hv⟩
 ·exact Ok.ret ⟨_,_,rfl,h.modT (λv hv=>h.tl v hv) λv hv=>h.tc v hv⟩
 ·rw[show iQ 1 v.2.2.2.2.2.2.2.length v.2.2.2.2.2.2.2.length=true by unfold iQ;simp;omega];simp only[oCT];exact Ok.ret ⟨_,_,rfl,h.modT (λ_ _=>Nat.le_trans HV (h.tl v (dR hv))) λ_ _ c hc=>h.tc v (dR hv) c (AI hc)⟩
 ·rw[show iQ 1 R.length R.length=true by unfold iQ;simp;omega];simp only[oCT];exact Ok.ret ⟨_,_,rfl,h.winR⟩
 ·rw[eI (by decide) (by simp;omega)];simp only[oCT];refine Ok.ret ⟨_,_,rfl,h.modR (λ_ _=>by show (l++[_]).length<=40;simp;omega) λ_ _ c hc=>?_⟩;rcases List.mem_append.1 hc with g | g
  ·exact h.rc l (dR hl) c g
  ·rw[List.mem_singleton.1 g];show (0:Int)<=0/\(0:Int)<=65535;decide
 ·rw[vT h1 (b:=(l.length:Int)) (by omega) (by omega),vT h2 (b:=4) (by decide) (by decide),vT h2 (b:=6) (by decide) (by decide),vT h1 (b:=36) (by decide) (by decide)];have n0:=Int.emod_nonneg at_ (show (l.length:Int)≠0 by omega);have n1:=Int.emod_lt_of_pos at_ (show 0 < (l.length:Int) by omega);obtain⟨j,hj⟩:∃j:Nat,at_ % (l.length:Int)=j:=⟨(at_ % (l.length:Int)).toNat,by omega⟩
  have hjl:j < l.length:=by omega
  obtain⟨c,hc⟩:∃c,l[j]?=some c:=⟨_,oGE hjl⟩;rw[hj];simp only[oBS,dO,show dM l j=some c from hc];refine Ok.ret ⟨_,_,rfl,h.modR (λy hy=>by rw[oLM];exact h.rl y hy) λy hy c hc=>?_⟩;rcases xM hc with g | ⟨x,g,rfl⟩
  ·exact h.rc y hy c g
  ·show (0:Int)<=0/\(0:Int)<=65535;decide
 ·rw[show iQ 1 T.length T.length=true by unfold iQ;simp;omega];simp only[oCT];exact Ok.ret ⟨_,_,rfl,h.winT⟩
 ·obtain⟨c,hc⟩:∃c,v.2.2.2.2.2.2.2[0]?=some c:=⟨_,oGE (by omega)⟩;rw[vT h2 (b:=5) (by decide) (by decide),vT h1 (b:=36) (by decide) (by decide)];simp only[oBS,show dM v.2.2.2.2.2.2.2 0=some c from hc];refine Ok.ret ⟨_,_,rfl,h.modT (λy hy=>by show (List.modify _ _ _).length<=40;rw[oLM];exact h.tl y hy) λy hy c hc=>?_⟩;rcases xM hc with g | ⟨x,g,rfl⟩
  ·exact h.tc y hy c g
  ·show (0:Int)<=0/\(0:Int)<=65535;decide
theorem Rj{bs ss:List Int}{key a:Int}(h:LV bs ss) (ha:W16 a):kL bs key ss a=some (match LQ bs ss a with | some (r,o)=>(r,o,true,()) | none=>(0,0,false,())):=by
 obtain⟨hs,hl,hr⟩:=h;obtain⟨a0,a1⟩:=ha;have XA:=hs.2.1
 have U7:∀(n k N:Nat),k+n=bs.length->n < N->dU fa N (ss,a,bs,(bs.length:Int),(k:Int),bs,key,0,0,())=some (match HP bs ss a n k with | some (r,o)=>.inl (true,r,o,()) | none=>.inr (ss,a,bs,(bs.length:Int),(bs.length:Int),false,bs,key,0,0,())):=by
  intro n
  induction n with
  | zero=>
   intro k N hk hN;obtain⟨N,rfl⟩:∃M,N=M+1:=⟨N - 1,by omega⟩
   obtain rfl:k=bs.length:=by omega
   have e:fa (ss,a,bs,(bs.length:Int),(bs.length:Int),bs,key,0,0,())=some (.inr (.inr (ss,a,bs,(bs.length:Int),(bs.length:Int),false,bs,key,0,0,()))):=by
    refine eV ?_;unfold fa;dsimp only
    (with_reducible refine dJ (λZ'=>?_) λZ'=>?_)
    ·omega
    ·exact Ok.ret rfl
   simp only[dU,e,oBS,HP]
  | succ n ih=>
   intro k N hk hN;obtain⟨N,rfl⟩:∃M,N=M+1:=⟨N - 1,by omega⟩;obtain⟨b,hb⟩:∃b,bs[k]?=some b:=⟨_,oGE (by omega)⟩;obtain⟨z,hz⟩:∃z,ss[k]?=some z:=⟨_,oGE (by omega)⟩;have X4:=hs.2.2 z (dR hz);have WD:=hr k (by omega);unfold yi at WD;rw[ew hb,ew hz] at WD;by_cases hh:b<=a/\a < b+z
   ·have e:fa (ss,a,bs,(bs.length:Int),(k:Int),bs,key,0,0,())=some (.inr (.inl (true,(k:Int),a - b,()))):=by
     refine eV ?_;unfold fa;delta dN;dsimp only;rw[oDT (show (k:Int) < bs.length by omega),oDT (show (k:Int) < ss.length by omega),dO];simp only[oCT,oBS,show dM bs k=some b from hb,show dM ss k=some z from hz];rw[oDT (show a>=b by omega),dS (x:=a - b) (by omega) (by omega),oDT (show a - b < z by omega)];simp only[oCT,oBS];rw[dS (x:=a - b) (by omega) (by omega)];exact Ok.ret rfl
    simp only[dU,e,oBS,HP,ew hb,ew hz,oIP hh]
   ·have e:fa (ss,a,bs,(bs.length:Int),(k:Int),bs,key,0,0,())=some (.inl (ss,a,bs,(bs.length:Int),((k+1:Nat):Int),bs,key,0,0,())):=by
     refine eV ?_;unfold fa;delta dN;dsimp only;rw[oDT (show (k:Int) < bs.length by omega),oDT (show (k:Int) < ss.length by omega),dO];simp only[oCT,oBS,show dM bs k=some b from hb,show dM ss k=some z from hz];by_cases h1:a>=b
     ·rw[oDT h1,dS (x:=a - b) (by omega) (by omega),oDF (show ¬ a - b < z by omega)];simp only[oCT,oCF,oBS];rw[dS (x:=(k:Int)+1) (by omega) (by omega)];exact Ok.ret rfl
     ·rw[oDF h1];simp only[oCF,oBS];rw[dS (x:=(k:Int)+1) (by omega) (by omega)];exact Ok.ret rfl
    simp only[dU,e,oBS,HP,ew hb,ew hz,oIN hh];exact ih (k+1) N (by omega) (by omega)
 unfold kL LQ;delta dN
 try dsimp only
 rw[show dU fa NN (ss,a,bs,(bs.length:Int),0,bs,key,0,0,())=_ from U7 bs.length 0 NN (by omega) (by unfold NN;omega)]
 cases HP bs ss a bs.length 0 with
 | some x=>rfl
 | none=>rfl
theorem F3{K:Int->Prop}{bs ss:List Int}{key:Int}{c:DCe}(h:LV bs ss) (hc:o7 K c):ki bs key ss c.1 c.2=some ((qQ bs ss key c).1,(qQ bs ss key c).2.1,(qQ bs ss key c).2.2.1,(qQ bs ss key c).2.2.2,()):=by
 have ⟨c0,c1,c2,c3,_⟩:=hc;unfold ki qQ;rw[d7 (by omega) (by omega)];dsimp only;rw[Rj h ⟨c2,c3⟩]
 rcases (show c.1=0\/c.1=1\/c.1=2 by omega) with e | e | e<;>rw[e]
 ·rfl
 ·simp
  cases LQ bs ss c.2 with
  | some x=>rfl
  | none=>rfl
 ·rfl
theorem So{K:Int->Prop}{cs:List DCe}{ls:List DLn}{a:Int}(h:lh K cs ls) (ha:0<=a/\a < 512):rk cs ls a=some ((BZ cs ls a).1,(BZ cs ls a).2,true,()):=by
 obtain⟨a0,a1⟩:=ha;obtain⟨h1,h2,h3,h4,_⟩:=id h;unfold rk BZ;delta dN;dsimp only;rw[oDF (show ¬ a < 0 by omega),oDF (show ¬ a>=512 by omega),oDF (show ¬ a>=(cs.length:Int) by omega)];simp only[oCF,oBS];rw[Int.tdiv_eq_ediv_of_nonneg a0,dS (x:=a / 4) (by omega) (by omega)];rw[Int.tmod_eq_emod_of_nonneg (show 0<=a / 4 by omega),Int.tmod_eq_emod_of_nonneg a0];obtain⟨i,hi⟩:∃i:Nat,a / 4 % 4=i:=⟨(a / 4 % 4).toNat,by omega⟩;rw[hi,dO,oTN];obtain⟨x,hx⟩:∃x,ls[i]?=some x:=⟨_,oGE (by omega)⟩;rw[oDT (show (i:Int) < ls.length by omega)];simp only[oCT,oBS,show dM ls i=some x from hx,hx];by_cases hq:x.1=a / 4
 ·rcases h4 i x hx with ⟨g,_,_⟩ | ⟨_,_,_,g4,g5⟩
  ·omega
  ·obtain⟨j,hj⟩:∃j:Nat,a % 4=j:=⟨(a % 4).toNat,by omega⟩;obtain⟨y,hy⟩:∃y,x.2.2[j]?=some y:=⟨_,oGE (by omega)⟩;rw[hj,oTN,oIP hq,getD_some hy,beq_iff_eq.2 hq,oDT (show (j:Int) < x.2.2.length by omega)];simp only[oCT,oBS,show dM ls i=some x from hx,dO];rw[Int.tmod_eq_emod_of_nonneg a0,hj,dO];simp only[oBS,show dM x.2.2 j=some y from hy]
 ·obtain⟨j,rfl⟩:∃j:Nat,a=j:=⟨a.toNat,by omega⟩;obtain⟨y,hy⟩:∃y,cs[j]?=some y:=⟨_,oGE (by omega)⟩;rw[oIN hq,oBF hq,oTN,getD_some hy];simp only[oCF,oBS,show dM cs j=some y from hy,dO]
theorem RQ{bs ss:List Int}{key:Int}{r:Nat}{o b z:Int}(h:LV bs ss) (hb:bs[r]?=some b) (hz:ss[r]?=some z) (o0:0<=o) (o1:o < z) (bz:b+z<=512) (b0:0<=b):kM bs key ss (r:Int) o=some (b+o,0,()):=by
 have hr:=(oGS hz).1;have Yh:=(oGS hb).1;unfold kM oB;delta dN;dsimp only;rw[oDT (show (r:Int)>=0 by omega),oDT (show (r:Int) < ss.length by omega),oDT (show o>=0 by omega),oDF (show ¬ (r:Int)>=bs.length by omega),dO];simp[show dM ss r=some z from hz,show dM bs r=some b from hb];rw[oDT o1,dS (by omega) (by omega)];rfl
theorem I4{K:Int->Prop}{bs ss:List Int}{key:Int}{cs:List DCe}{ls:List DLn}(h:LV bs ss) (hm:lh K cs ls):lL cs ls bs key ss=some (xn bs ss key cs ls,()):=by
 have XA:=h.1.2.1
 have e0:∀(r:Nat) (b z:Int),bs[r]?=some b->ss[r]?=some z->1<=z->z<=32->0<=b->b+z<=512->∀(a1 a2 a3:_) (out:List (List DCn)),dU ib NN (ss,(r:Int),a1,a2,a3,z,0,cs,ls,bs,key,out,[],())=some (ss,(r:Int),a1,a2,a3,z,z,false,cs,ls,bs,key,out,Og bs ss key cs ls r,()):=by
  intro r b z hb hz z1 Va b0 bz a1 a2 a3 out;obtain⟨n,rfl⟩:∃n:Nat,z=n:=⟨z.toNat,by omega⟩
  have e:Og bs ss key cs ls r=(List.range n).map (P6 bs ss key cs ls r):=by unfold Og;rw[ew hz,oTN]
  rw[e];refine mW (f:=ib) (N:=NN) (st:=λo=>(ss,(r:Int),a1,a2,a3,(n:Int),(o:Int),cs,ls,bs,key,out,(List.range o).map (P6 bs ss key cs ls r),())) (n:=n) (by unfold NN;omega) ?_ ?_
  ·intro o ho;unfold ib;dsimp only;rw[oDT (show (o:Int) < n by omega),RQ h hb hz (by omega) (by omega) bz b0];simp only[oCT,oBS];have Vj:=(AJ (a:=b+o) hm ⟨by omega,by omega⟩).2;rw[So hm ⟨by omega,by omega⟩];simp only[oBS];rw[F3 h Vj];simp only[oBS];refine dK (dX (by simp;omega)) ?_;rw[dS (x:=(o:Int)+1) (by omega) (by omega)];refine Ok.ret ?_;rw[<- km];unfold P6;rw[ew hb];rfl
  ·unfold ib;dsimp only;rw[oDF (show ¬ (n:Int) < n by omega)];exact Ok.ret rfl
 have e1:dU ia NN (ss,ss,(ss.length:Int),0,cs,ls,bs,key,[],())=some (ss,ss,(ss.length:Int),(ss.length:Int),false,cs,ls,bs,key,xn bs ss key cs ls,()):=by
  refine mW (f:=ia) (N:=NN) (st:=λr=>(ss,ss,(ss.length:Int),(r:Int),cs,ls,bs,key,(List.range r).map (Og bs ss key cs ls),())) (n:=ss.length) (by unfold NN;omega) ?_ ?_
  ·intro r hr;obtain⟨b,z,hb,hz,z1,Va,b0,bz⟩:=h.at_ hr;unfold ia;dsimp only;rw[oDT (show (r:Int) < ss.length by omega),dO];simp only[oCT,oBS,show dM ss r=some z from hz];rw[e0 r b z hb hz z1 Va b0 bz];refine dK (dX (by simp;omega)) ?_;rw[dS (x:=(r:Int)+1) (by omega) (by omega)];refine Ok.ret ?_;rw[<- km];rfl
  ·unfold ia;dsimp only;rw[oDF (show ¬ (ss.length:Int) < ss.length by omega)];exact Ok.ret rfl
 unfold lL;delta dN
 simp_all
theorem NP{n key:Int}{code:List DIn}{dt:List (List Int)}{bs ss:List Int}{cs:List DCe}{ls:List DLn}{ts:List DTh}(h:MOk n ss bs cs ls ts):jV code ss dt bs key cs ls ts=some (xn bs ss key cs ls,ts.map (o8 bs ss key),()):=by
 have h4:=h.tlen
 have e1:dU gj NN (ts,(ts.length:Int),0,code,ss,dt,bs,key,cs,ls,ts,(),(),xn bs ss key cs ls,[],())=some (ts,(ts.length:Int),(ts.length:Int),false,code,ss,dt,bs,key,cs,ls,ts,(),(),xn bs ss key cs ls,ts.map (o8 bs ss key),()):=by
  have:=mW (f:=gj) (N:=NN) (st:=λr=>(ts,(ts.length:Int),(r:Int),code,ss,dt,bs,key,cs,ls,ts,(),(),xn bs ss key cs ls,(ts.take r).map (o8 bs ss key),())) (n:=ts.length) (t:=(ts,(ts.length:Int),(ts.length:Int),false,code,ss,dt,bs,key,cs,ls,ts,(),(),xn bs ss key cs ls,ts.map (o8 bs ss key),())) (by unfold NN;omega) ?_ ?_
  ·exact this
  ·intro r hr;obtain⟨t,ht⟩:∃t,ts[r]?=some t:=⟨_,oGE (by omega)⟩;have hok:=h.thr t (dR ht);have h8:=hok.len;unfold gj;delta dN;dsimp only;rw[oDT (show (r:Int) < ts.length by omega),dO];simp only[oCT,oBS,show dM ts r=some t from ht]
   have e0:∀(a1 a2 a3 a4 a5 a6 a7 a8 a9 a10 a11 a12 a13 a14:_),dU gk NN (ts,(ts.length:Int),(r:Int),t.2.1,(t.2.1.length:Int),0,code,ss,dt,bs,key,cs,ls,ts,(),(),xn bs ss key cs ls,(ts.take r).map (o8 bs ss key),a1,t.2.1,a2,a3,a4,a5,a6,a7,a8,a9,a10,a11,a12,a13,a14,[],()) =
    some (ts,(ts.length:Int),(r:Int),t.2.1,(t.2.1.length:Int),(t.2.1.length:Int),false,code,ss,dt,bs,key,cs,ls,ts,(),(),xn bs ss key cs ls,(ts.take r).map (o8 bs ss key),a1,t.2.1,a2,a3,a4,a5,a6,a7,a8,a9,a10,a11,a12,a13,a14,t.2.1.map (qQ bs ss key),()):=by
    intro a1 a2 a3 a4 a5 a6 a7 a8 a9 a10 a11 a12 a13 a14
    have:=mW (f:=gk) (N:=NN) (st:=λo=>(ts,(ts.length:Int),(r:Int),t.2.1,(t.2.1.length:Int),(o:Int),code,ss,dt,bs,key,cs,ls,ts,(),(),xn bs ss key cs ls,(ts.take r).map (o8 bs ss key),a1,t.2.1,a2,a3,a4,a5,a6,a7,a8,a9,a10,a11,a12,a13,a14,(t.2.1.take o).map (qQ bs ss key),())) (n:=t.2.1.length)
     (t:=(ts,(ts.length:Int),(r:Int),t.2.1,(t.2.1.length:Int),(t.2.1.length:Int),false,code,ss,dt,bs,key,cs,ls,ts,(),(),xn bs ss key cs ls,(ts.take r).map (o8 bs ss key),a1,t.2.1,a2,a3,a4,a5,a6,a7,a8,a9,a10,a11,a12,a13,a14,t.2.1.map (qQ bs ss key),())) (by unfold NN;omega) ?_ ?_
    ·exact this
    ·intro o ho;obtain⟨c,hc⟩:∃c,t.2.1[o]?=some c:=⟨_,oGE ho⟩;unfold gk;dsimp only;rw[oDT (show (o:Int) < t.2.1.length by omega),dO];simp only[oCT,oBS,show dM t.2.1 o=some c from hc];rw[F3 h.lay (hok.regs c (dR hc))];refine dK (dX (by simp;omega)) ?_;rw[dS (x:=(o:Int)+1) (by omega) (by omega)];refine Ok.ret ?_;rw[<- gy (qQ bs ss key) hc];rfl
    ·unfold gk;dsimp only;rw[oDF (show ¬ (t.2.1.length:Int) < t.2.1.length by omega),List.take_length];exact Ok.ret rfl
   rw[e0];simp only[oBS];refine dK (dX (by simp;omega)) ?_;rw[dS (x:=(r:Int)+1) (by omega) (by omega)];refine Ok.ret ?_;rw[<- gy (o8 bs ss key) ht];rfl
  ·unfold gj;dsimp only;rw[oDF (show ¬ (ts.length:Int) < ts.length by omega),List.take_length];exact Ok.ret rfl
 unfold jV;delta dN;simp only[I4 h.lay h.mem,oBS]
 simp_all
def Fld(u:Bool) (v m:Int):Prop:=v=0\/(u=true/\0 < v/\v<=m)
def Nc(o:Int):Int:=bif mB o then 63 else bif o==15 then 3 else bif o==23 then 15 else 65535
def TG(o a b c i:Int):Prop:=(0<=o/\o<=24)/\Fld (ql o) a 7/\Fld (q8 o) b 7/\Fld (qk o) c 7/\Fld (qj o) i (Nc o)
theorem NL:qa=jB:=rfl
theorem FR:nZ=hU:=rfl
theorem Ab{u:Bool}{v m:Int}:BQ (gL u v m) (Fld u v m):=by
 unfold gL Fld;by_cases h0:v=0
 ·rw[show (v==0)=true from beq_iff_eq.2 h0];exact .inl ⟨.inl h0,rfl⟩
 rw[show (v==0)=false from oBF h0]
 cases u with
 | false=>exact .inr ⟨λh=>h.elim h0 λh=>(by cases h.1),rfl⟩
 | true=>
  by_cases h1:v > 0
  rotate_left
  ·rw[oDF h1];exact .inr ⟨λh=>by omega,rfl⟩
  rw[oDT h1];by_cases h2:v<=m
  ·rw[oDT h2];exact .inl ⟨.inr ⟨rfl,h1,h2⟩,rfl⟩
  ·rw[oDF h2];exact .inr ⟨λh=>by omega,rfl⟩
theorem Re{o:Int}:pI o=some (Nc o,()):=by
 unfold pI Nc;rw[FR,vn]
 grind
theorem TP{o a b c i:Int}:BQ (lK o a b c i) (TG o a b c i):=by
 unfold lK TG;by_cases h0:o < 0
 ·rw[oDT h0];exact .inr ⟨λh=>by omega,rfl⟩
 rw[oDF h0];by_cases h1:o > 24
 ·rw[oDT h1];exact .inr ⟨λh=>by omega,rfl⟩
 rw[oDF h1,NL,HY (by omega) (by omega)];simp;rcases Ab (v:=a) (m:=7) with ⟨hA,e⟩ | ⟨hA,e⟩
 rotate_left
 ·rw[e];exact .inr ⟨λh=>hA h.2.1,rfl⟩
 rw[e];rcases Ab (v:=b) (m:=7) with ⟨hB,e⟩ | ⟨hB,e⟩
 rotate_left
 ·rw[e];exact .inr ⟨λh=>hB h.2.2.1,rfl⟩
 rw[e];rcases Ab (u:=qk o) (v:=c) (m:=7) with ⟨hC,e⟩ | ⟨hC,e⟩
 rotate_left
 ·rw[e];exact .inr ⟨λh=>hC h.2.2.2.1,rfl⟩
 rw[e,Re];rcases Ab (u:=qj o) (v:=i) (m:=Nc o) with ⟨hI,e⟩ | ⟨hI,e⟩
 rotate_left
 ·simp;rw[e];exact .inr ⟨λh=>hI h.2.2.2.2,rfl⟩
 simp;rw[e];exact .inl ⟨⟨by omega,hA,hB,hC,hI⟩,rfl⟩
theorem Rq{n m:Int}{x:DIn}(h:je n m x) (hn:n<=4) (hm:m<=64):lK x.1 x.2.1 x.2.2.1 x.2.2.2.1 x.2.2.2.2=some (true,()):=by
 rcases TP (o:=x.1) (a:=x.2.1) (b:=x.2.2.1) (c:=x.2.2.2.1) (i:=x.2.2.2.2) with ⟨_,e⟩ | ⟨g,_⟩
 ·exact e
 refine absurd ⟨h.op,?_,?_,?_,?_⟩ g
 ·obtain⟨p,q,r⟩:=h.a;by_cases hz:x.2.1=0
  ·exact .inl hz
  ·exact .inr ⟨by cases hu:ql x.1 with | true=>rfl | false=>exact absurd (r hu) hz,by omega,by omega⟩
 ·obtain⟨p,q,r⟩:=h.b;by_cases hz:x.2.2.1=0
  ·exact .inl hz
  ·exact .inr ⟨by simp_all,by omega,by omega⟩
 ·obtain⟨p,q,r⟩:=h.c;by_cases hz:x.2.2.2.1=0
  ·exact .inl hz
  ·exact .inr ⟨by simp_all,by omega,by omega⟩
 ·obtain⟨p,q,r⟩:=h.imm;by_cases hz:x.2.2.2.2=0
  ·exact .inl hz
  ·refine .inr ⟨by simp_all,by omega,?_⟩;unfold Nc
   cases hj:mB x.1 with
   | true=>
    have:=h.jmp hj;show x.2.2.2.2<=63;omega
   | false=>
    by_cases h15:x.1=15
    ·have:=h.lea h15;rw[beq_iff_eq.2 h15];show x.2.2.2.2<=3;omega
    rw[oBF h15];by_cases h23:x.1=23
    ·rw[beq_iff_eq.2 h23];exact h.sys h23
    ·rw[oBF h23];exact q
theorem FS{code:List DIn}{ss:List Int}{dt:List (List Int)}(hp:lf code ss dt):lM code ss dt=some (0,()):=by
 have XA:=hp.sz.2.1;have hc:=hp.clen;have hl:=hp.len
 have e0:dU kQ NN (dt,(dt.length:Int),0,code,ss,dt,())=some (.inr (dt,(dt.length:Int),(dt.length:Int),false,code,ss,dt,())):=by
  refine mW (st:=λk=>(dt,(dt.length:Int),(k:Int),code,ss,dt,())) (n:=dt.length) (by unfold NN;omega) ?_ ?_
  ·intro k hk;unfold kQ;dsimp only;rw[oDT (show (k:Int) < dt.length by omega),dO];delta dN;simp only[oCT,oBS];refine Ok.get (by omega) λx hx=>?_;refine Ok.get (by omega) λy hy=>?_;have:=hp.fit k x y hx hy;rw[oDF (show ¬ (x.length:Int) > y by omega),dS (x:=(k:Int)+1) (by omega) (by omega)];exact Ok.ret rfl
  ·unfold kQ;dsimp only;rw[oDF (show ¬ (dt.length:Int) < dt.length by omega)];exact Ok.ret rfl
 have e3:dU kP NN (0,code,(code.length:Int),0,code,ss,dt,())=some (.inr (0,code,(code.length:Int),(code.length:Int),false,code,ss,dt,())):=by
  refine mW (st:=λk=>(0,code,(code.length:Int),(k:Int),code,ss,dt,())) (n:=code.length) (by unfold NN;omega) ?_ ?_
  ·intro k hk;obtain⟨x,hx⟩:∃x,code[k]?=some x:=⟨_,oGE hk⟩;have hi:=hp.ins x (dR hx);unfold kP;delta dN;dsimp only;rw[oDT (show (k:Int) < code.length by omega),dO];simp only[oCT,oBS,show dM code k=some x from hx];rw[Rq hi (by omega) (by omega)];rw[FR,vn];simp only[oBS]
   have ZY:∀b:Bool,(x.1==15)=b->Ok (some (Sum.inl (β:=(Int×Unit)⊕(Int×(List DIn)×Int×Int×Bool×(List DIn)×(List (Int))×(List (List (Int)))×Unit)) ((0:Int),code,(code.length:Int),w64 ((k:Int)+1),code,ss,dt,()))) (·=.inl (0,code,(code.length:Int),((k+1:Nat):Int),code,ss,dt,())):=λ_ _=>by
    rw[dS (x:=(k:Int)+1) (by omega) (by omega)];exact Ok.ret rfl
   have h1:mB x.1=true->decide (x.2.2.2.2>=(code.length:Int))=false:=λh=>oDF (by have:=hi.jmp h;omega);have h2:x.1=15->decide (x.2.2.2.2>=(ss.length:Int))=false:=λh=>oDF (by have:=hi.lea h;omega);by_cases h15:x.1=15
   ·rw[beq_iff_eq.2 h15,h2 h15]
    cases hj:mB x.1 with
    | true=>rw[h1 hj];exact ZY _ rfl
    | false=>exact ZY _ rfl
   ·rw[oBF h15]
    cases hj:mB x.1 with
    | true=>rw[h1 hj];exact ZY _ rfl
    | false=>exact ZY _ rfl
  ·unfold kP;dsimp only;rw[oDF (show ¬ (code.length:Int) < code.length by omega)];exact Ok.ret rfl
 unfold lM;rw[MM];rcases L1 (ss:=ss) (by omega) with ⟨_,e⟩ | ⟨g,_⟩
 rotate_left
 ·exact absurd hp.sz g
 rw[e];delta dN;simp only[oBS,oNT,oCF];rw[bne_eq_false_iff_eq.2 (show (dt.length:Int)=ss.length by rw[hl]),e0];dsimp only;rw[oBF (show (code.length:Int)≠0 by omega),oDF (show ¬ (code.length:Int) > 64 by omega),e3];rfl
theorem PC(a:ByteArray):Qb a a=true:=by simp[Qb]
theorem LH:rm=some (true,()):=by kernel_rfl
theorem Pr.t{ss:List Int}{c:DCn}(h:Pr ss c):zP c:=by
 rcases h with ⟨_,_,_,h⟩ | ⟨_,h,_⟩
 ·exact h
 ·exact⟨by omega,by omega⟩
theorem Dz.sb{n:Int}{ss:List Int}{R:List (List DCn)}{T:List DTs}(h:Dz n ss R T) (hz:yh ss):SB R T/\1<=R.length/\(∀l∈R,1<=l.length)/\(∀l∈R,l.length<=32)/\∀v∈T,v.2.2.2.2.2.2.2.length=8:=by
 have h1:=hz.1;have h2:=hz.2.1;have h3:=h.rlen;have h4:=h.vlen
 have hl:∀l∈R,1<=l.length/\l.length<=32:=by
  intro l hl;have ⟨j,hj⟩:=List.getElem?_of_mem hl;have hjl:=(oGS hj).1;have ⟨z,XL⟩:∃z,ss[j]?=some z:=⟨_,oGE (by omega)⟩;have e:=h.fit j l z hj XL;have:=hz.2.2 z (dR XL);omega
 refine⟨⟨by omega,λl x=>by grind,λl x c hc=>(h.cells l x c hc).t,by omega,λv x=>by rw[(h.views v x).len];decide,λv x c hc=>((h.views v x).regs c hc).t⟩,by omega,λl x=>(hl l x).1,λl x=>(hl l x).2,λv x=>(h.views v x).len⟩
theorem yp{code:List DIn}{ss:List Int}{dt:List (List Int)}{R R':List (List DCn)}{T T':List DTs}{xs:List (List (List DCn)×List DTs)}{i:Nat}(hp:lf code ss dt) (h:SB R T) (h':SB R' T') (hi:i < 2) (hx:xs[i]?=some (R',T')) :
 fq (2,(i:Int),code,ss,dt,R,T,xs,())=some (.inl (2,(i:Int)+1,code,ss,dt,R,T,xs,())):=by
 have a1:∀{R:List (List DCn)} {T:List DTs},SB R T->R.length<=1000:=λh=>by have:=h.r;omega
 have a2:∀{R:List (List DCn)} {T:List DTs},SB R T->∀l∈R,l.length<=1000:=λh l hl=>by have:=h.rl l hl;omega
 have a3:∀{R:List (List DCn)} {T:List DTs},SB R T->T.length<=1000:=λh=>by have:=h.t;omega
 have a4:∀{R:List (List DCn)} {T:List DTs},SB R T->∀v∈T,v.2.2.2.2.2.2.2.length<=1000:=λh v hv=>by have:=h.tl v hv;omega
 have b1:=(QZ (a1 h') (a2 h') (a3 h') (a4 h') h'.rc h'.tc).same (JK (a1 h') (a2 h') (a3 h') (a4 h') h'.rc h'.tc)
 have b0:∃y e,hJ R' T'=some (y,e,()):=by
  rcases JK (a1 h') (a2 h') (a3 h') (a4 h') h'.rc h'.tc with ⟨_,e⟩ | ⟨_,e⟩
  ·exact⟨_,_,e⟩
  ·simp_all
 obtain⟨y,e,b0⟩:=b0;obtain⟨v1,c1,_⟩:=(Aq (FS hp) hp.sz (a1 h') (a2 h') (a3 h') (a4 h')).val;have c2:=(Aq (FS hp) hp.sz (a1 h') (a2 h') (a3 h') (a4 h')).same (Ft (Ag hp) hp.sz (a1 h') (a2 h') (a3 h') (a4 h'));obtain⟨v2,d1,_⟩:=(CU (a1 h') (a2 h') (a3 h') (a4 h')).val;have d2:=(CU (a1 h') (a2 h') (a3 h') (a4 h')).same (HW (a1 h') (a2 h') (a3 h') (a4 h'));obtain⟨v3,s1,_⟩:=(Db (a1 h) (a1 h') (a2 h) (a2 h') (a3 h) (a3 h') (a4 h) (a4 h')).val;have s2:=(Db (a1 h) (a1 h') (a2 h) (a2 h') (a3 h) (a3 h') (a4 h) (a4 h')).same (Az (a1 h) (a1 h') (a2 h) (a2 h') (a3 h) (a3 h') (a4 h) (a4 h'));unfold fq;dsimp only;rw[oDT (show (i:Int) < 2 by omega),dO];simp only[oCT,oBS,show dM xs i=some (R',T') from hx];rw[b1,b0,<- c2,c1,<- d2,d1,<- s2,s1];simp only[oBS,BEq.rfl,oNT,oCF,PC,bne_self_eq_false];rw[dS (x:=(i:Int)+1) (by omega) (by omega)]
theorem states_law{l:List Int}{YY at_ W1:Int}(hl:∀x∈l,HN x) (hm:l.length<=maxLen) (h0:HN YY) (h1:HN at_) (h2:HN W1):i5 l YY at_ W1=some (true,()):=by
 refine eV ?_;unfold i5;refine (Lb (Fs hl hm)).bind ?_;rintro _ ⟨code,ss,dt,bs,key,cs,ls,ts,k',rfl,hp,X7,hM,hd⟩;dsimp only;rw[Jv hM,NP hM];simp only[oBS];obtain⟨hS,s1,s2,s3,s4⟩:=(Ju (key:=key) hM).sb hp.sz;obtain⟨R,hR⟩:∃R,R=xn bs ss key cs ls:=⟨_,rfl⟩;obtain⟨T,hT⟩:∃T,T=ts.map (o8 bs ss key):=⟨_,rfl⟩;rw[<- hR,<- hT] at hS;rw[<- hR] at s1 s2 s3;rw[<- hT] at s4;rw[<- hR,<- hT]
 have hT4:T.length=4:=by rw[hT,List.length_map];exact hM.tlen
 refine (LZ hS s1 s2 s3 hT4 s4 h0 h1 h2).bind ?_;rintro _ ⟨R',T',rfl,hB⟩;dsimp only
 have hs:kX R T R T=some (true,()):=by
  rcases Az (R:=R) (R':=R) (T:=T) (T':=T) (by have:=hS.r;omega) (by have:=hS.r;omega) (λl hl=>by have:=hS.rl l hl;omega) (λl hl=>by have:=hS.rl l hl;omega) (by omega) (by omega) (λv hv=>by rw[s4 v hv];decide) (λv hv=>by rw[s4 v hv];decide) with ⟨_,e⟩ | ⟨g,_⟩
  ·exact e
  ·exact absurd ⟨rfl,rfl⟩ g
 rw[hs];obtain⟨xs,Vu⟩:∃xs,xs=[(R,T),(R',T')]:=⟨_,rfl⟩;rw[<- Vu]
 have e2:dN xs.length=2:=by rw[Vu];rfl
 rw[e2]
 have e:=mW (f:=fq) (N:=NN) (st:=λi=>(2,(i:Int),code,ss,dt,R,T,xs,())) (n:=2) (t:=.inr (2,2,false,code,ss,dt,R,T,xs,())) (by unfold NN;omega) (λi hi=>by
  rcases (show i=0\/i=1 by omega) with rfl | rfl
  ·rw[yp hp hS hS (by decide) (by rw[Vu];rfl)];exact Ok.ret rfl
  ·rw[yp hp hS hB (by decide) (by rw[Vu];rfl)]
   exact Ok.ret rfl) (by
  exact Ok.ret rfl)
 have e0:dU fq NN (2,0,code,ss,dt,R,T,xs,())=_:=e;rw[e0];dsimp only;rw[LH];exact Ok.ret rfl
theorem law_CanonicalStates{h0:HL den [RI]}{h1:HL den [I64]}{h2:HL den [I64]}{h3:HL den [I64]}(g0:GoodL _ h0) (g1:GoodL _ h1) (g2:GoodL _ h2) (g3:GoodL _ h3):ma.g (appL _ _ h0 (appL _ _ h1 (appL _ _ h2 (appL _ _ h3 ()))))=some (true,()):=
 states_law (SH g0.1).1 (SH g0.1).2 (g64 g1.1) (g64 g2.1) (g64 g3.1)
end Go.Proofs.YtjadkocggchfnaaGreat
