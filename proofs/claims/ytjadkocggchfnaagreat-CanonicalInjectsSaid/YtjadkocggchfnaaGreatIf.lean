/- Part of the proof; no condition. -/
import Derived.Test.YtjadkocggchfnaaGreatIe
set_option linter.unusedVariables false
set_option linter.unusedSimpArgs false
namespace Go.Proofs.YtjadkocggchfnaaGreat
open Go.RowKit
section
variable {key:Int} {code:List DIn} {ss bs:List Int} {dt:List (List Int)} {rg:List (List DCn)} {vs:List DTs}
set_option maxHeartbeats 4000000 in
theorem OS(hp:jE code ss dt) (hL:LV bs ss) (h:StW ss rg vs) (hV:iP code ss dt rg vs=some (true,())) :
 Ok (fF code ss dt bs key rg vs) (·=(bs,key,EQ bs key rg rg.length,eq,vs.map (thF bs key),true,())):=by
 have h4:=hp.sz.2.1;have Wl:=hL.2.1;have XU:=h.rlen;have YV:=h.vlen;unfold fF;delta dQ;rw[hV,qa hL,CE (by omega) (by omega),ED];simp only[oBS,oNT,oCF]
 have ZP:∀x∈rg++vs.map uc,x.length<=100/\∀c∈x,Pr ss c:=by
  intro x hx;rcases List.mem_append.1 hx with hx | hx
  ·obtain⟨j,hj⟩:=List.getElem?_of_mem hx;have:=(oGS hj).1;obtain⟨z,hz⟩:∃z,ss[j]?=some z:=⟨_,oGE (by omega)⟩;have:=h.fit j x z hj hz;have:=hp.sz.2.2 z (dR hz);exact⟨by omega,h.cells x hx⟩
  ·obtain⟨v,hv,rfl⟩:=List.mem_map.1 hx;exact⟨by unfold uc;rw[h.len v hv];omega,h.regs v hv⟩
 have WQ:(rg++vs.map uc).length<=100:=by rw[List.length_append,List.length_map];omega
 generalize rg++vs.map uc=lst at ZP WQ
 have e1:dW eH NN ((lst.length:Int),0,code,ss,dt,bs,key,rg,vs,(),0,(),(),(),lst,())=some (.inr ((lst.length:Int),(lst.length:Int),false,code,ss,dt,bs,key,rg,vs,(),0,(),(),(),lst,())):=by
  refine kO (f:=eH) (N:=NN) (st:=λk=>((lst.length:Int),(k:Int),code,ss,dt,bs,key,rg,vs,(),0,(),(),(),lst,())) (n:=lst.length) (by unfold NN;omega) ?_ ?_
  ·intro k hk;obtain⟨x,hx⟩:∃x,lst[k]?=some x:=⟨_,oGE hk⟩;obtain⟨hxl,V6⟩:=ZP x (dR hx)
   have e0:dW eI NN ((lst.length:Int),(k:Int),x,(x.length:Int),0,code,ss,dt,bs,key,rg,vs,(),0,(),(),(),lst,())=some (.inr ((lst.length:Int),(k:Int),x,(x.length:Int),(x.length:Int),false,code,ss,dt,bs,key,rg,vs,(),0,(),(),(),lst,())):=by
    refine kO (f:=eI) (N:=NN) (st:=λo=>((lst.length:Int),(k:Int),x,(x.length:Int),(o:Int),code,ss,dt,bs,key,rg,vs,(),0,(),(),(),lst,())) (n:=x.length) (by unfold NN;omega) ?_ ?_
    ·intro o ho;obtain⟨c,hc⟩:∃c,x[o]?=some c:=⟨_,oGE ho⟩;unfold eI;dsimp only;rw[oDT (show (o:Int) < x.length by omega),dP];simp only[oCT,oBS,show dO x o=some c from hc,kF (V6 c (dR hc)),oNT,oCF];rw[dU (x:=(o:Int)+1) (by omega) (by omega)];exact Ok.ret rfl
    ·unfold eI;dsimp only;rw[oDF (show ¬ (x.length:Int) < x.length by omega)];exact Ok.ret rfl
   unfold eH;delta dQ;dsimp only;rw[oDT (show (k:Int) < lst.length by omega),dP];simp only[oCT,oBS,show dO lst k=some x from hx,e0];rw[dU (x:=(k:Int)+1) (by omega) (by omega)];exact Ok.ret rfl
  ·unfold eH;dsimp only;rw[oDF (show ¬ (lst.length:Int) < lst.length by omega)];exact Ok.ret rfl
 rw[e1];dsimp only;refine dL (dY (by omega)) (dL (by decide) ?_);rw[show List.append [] bs=bs from rfl];rw[RN hL h h4,oBS];dsimp only;generalize EQ bs key rg rg.length=cs
 have e5:dW fv NN (vs,(vs.length:Int),0,code,ss,dt,bs,key,rg,vs,(),0,(),(),(),bs,key,cs,eq,[],())=some (vs,(vs.length:Int),(vs.length:Int),false,code,ss,dt,bs,key,rg,vs,(),0,(),(),(),bs,key,cs,eq,vs.map (thF bs key),()):=by
  have:=kO (f:=fv) (N:=NN) (st:=λk=>(vs,(vs.length:Int),(k:Int),code,ss,dt,bs,key,rg,vs,(),0,(),(),(),bs,key,cs,eq,(vs.take k).map (thF bs key),())) (n:=vs.length) (t:=(vs,(vs.length:Int),(vs.length:Int),false,code,ss,dt,bs,key,rg,vs,(),0,(),(),(),bs,key,cs,eq,vs.map (thF bs key),())) (by unfold NN;omega) ?_ ?_
  ·exact this
  ·intro k hk;obtain⟨v,hv⟩:∃v,vs[k]?=some v:=⟨_,oGE hk⟩;have h8:=h.len v (dR hv);have UW:=h.regs v (dR hv);unfold fv;delta dQ;dsimp only;rw[oDT (show (k:Int) < vs.length by omega),dP];simp only[oCT,oBS,show dO vs k=some v from hv]
   have e4:∀(a1 a2 a3 a4 a5 a6 a7 a8 b1 b2 b3 b4 b5 b6 b7:_),dW fw NN (vs,(vs.length:Int),(k:Int),v.2.2.2.2.2.2.2,(v.2.2.2.2.2.2.2.length:Int),0,code,ss,dt,bs,key,rg,vs,(),0,(),(),(),bs,key,cs,eq,(vs.take k).map (thF bs key),a1,a2,a3,a4,a5,a6,a7,a8,b1,[],b2,b3,b4,b5,b6,b7,()) =
    some (vs,(vs.length:Int),(k:Int),v.2.2.2.2.2.2.2,(v.2.2.2.2.2.2.2.length:Int),(v.2.2.2.2.2.2.2.length:Int),false,code,ss,dt,bs,key,rg,vs,(),0,(),(),(),bs,key,cs,eq,(vs.take k).map (thF bs key),a1,a2,a3,a4,a5,a6,a7,a8,b1,v.2.2.2.2.2.2.2.map (rY bs key),b2,b3,b4,b5,b6,b7,()):=by
    intro a1 a2 a3 a4 a5 a6 a7 a8 b1 b2 b3 b4 b5 b6 b7
    have:=kO (f:=fw) (N:=NN) (st:=λo=>(vs,(vs.length:Int),(k:Int),v.2.2.2.2.2.2.2,(v.2.2.2.2.2.2.2.length:Int),(o:Int),code,ss,dt,bs,key,rg,vs,(),0,(),(),(),bs,key,cs,eq,(vs.take k).map (thF bs key),a1,a2,a3,a4,a5,a6,a7,a8,b1,(v.2.2.2.2.2.2.2.take o).map (rY bs key),b2,b3,b4,b5,b6,b7,())) (n:=v.2.2.2.2.2.2.2.length)
     (t:=(vs,(vs.length:Int),(k:Int),v.2.2.2.2.2.2.2,(v.2.2.2.2.2.2.2.length:Int),(v.2.2.2.2.2.2.2.length:Int),false,code,ss,dt,bs,key,rg,vs,(),0,(),(),(),bs,key,cs,eq,(vs.take k).map (thF bs key),a1,a2,a3,a4,a5,a6,a7,a8,b1,v.2.2.2.2.2.2.2.map (rY bs key),b2,b3,b4,b5,b6,b7,())) (by unfold NN;omega) ?_ ?_
    ·exact this
    ·intro o ho;obtain⟨c,hc⟩:∃c,v.2.2.2.2.2.2.2[o]?=some c:=⟨_,oGE ho⟩;unfold fw;dsimp only;rw[oDT (show (o:Int) < v.2.2.2.2.2.2.2.length by omega),dP];simp only[oCT,oBS,show dO v.2.2.2.2.2.2.2 o=some c from hc];rw[(vp (key:=key) hL (UW c (dR hc))).1];simp only[oBS];refine dL (dY (by simp;omega)) ?_;rw[dU (x:=(o:Int)+1) (by omega) (by omega)];refine Ok.ret ?_;rw[<- fT (rY bs key) hc];rfl
    ·unfold fw;dsimp only;rw[oDF (show ¬ (v.2.2.2.2.2.2.2.length:Int) < v.2.2.2.2.2.2.2.length by omega),List.take_length];exact Ok.ret rfl
   rw[e4];simp only[oBS];refine dL (dY (by simp;omega)) ?_;rw[dU (x:=(k:Int)+1) (by omega) (by omega)];refine Ok.ret ?_;rw[<- fT (thF bs key) hv];rfl
  ·unfold fv;dsimp only;rw[oDF (show ¬ (vs.length:Int) < vs.length by omega),List.take_length];exact Ok.ret rfl
 rw[e5];exact Ok.ret rfl
theorem Q9(a0 a1 a2 a3 a4 a5 a6:Int) (a7:List DCn):i7 a0 a1 a2 a3 a4 a5 a6 a7=some (a0,List.replicate 8 (0,0),a1,a2,a3,a4,a5,a6,()):=rfl
theorem Mv:pR=some (eq,()):=by kernel_rfl
def PE(f:DCn->DCe) (l:List DCn) (k:Nat):List DCe:=(l.take k).map f++List.replicate (8 - k) (0,0)
theorem Mg{f:DCn->DCe}{l:List DCn}{k:Nat}{c:DCn}(hl:l.length=8) (hk:k < 8) (hc:l[k]?=some c):(PE f l k)[k]?=some (0,0)/\(PE f l k).set k (f c)=PE f l (k+1):=by
 have hlen:((l.take k).map f).length=k:=by rw[List.length_map,oLT];omega
 unfold PE;constructor
 ·rw[List.getElem?_append_right (by omega),hlen,Nat.sub_self];obtain⟨m,hm⟩:∃m,8 - k=m+1:=⟨8 - k - 1,by omega⟩;rw[hm,List.replicate_succ];rfl
 ·obtain⟨m,hm⟩:∃m,8 - k=m+1:=⟨8 - k - 1,by omega⟩;rw[hm,List.replicate_succ,List.set_append_right _ _ (by omega),hlen,Nat.sub_self,List.set_cons_zero,<- fT f hc,List.append_assoc,show 8 - (k+1)=m by omega];rfl
set_option maxHeartbeats 4000000 in
theorem OT(hp:jE code ss dt) (hL:LV bs ss) (h:StW ss rg vs) (hV:iB code ss dt rg vs=some (true,())) (hLv:j9 bs key ss=some (true,())) (hA:gd rg vs code ss dt=some (false,())) :
 Ok (fD code ss dt bs key rg vs) (·=(bs,key,EQ bs key rg rg.length,eq,vs.map (thF bs key),true,())):=by
 have h4:=hp.sz.2.1;have Wl:=hL.2.1;have XU:=h.rlen;have YV:=h.vlen;unfold fD;delta dQ;rw[hV,oBS];dsimp only;simp only[oNT,oCF];rw[hLv,oBS];dsimp only;simp only[oNT,oCF];rw[hA,oBS];simp only[oBS,oCF];unfold qX k8;refine Ok.bind (P:=(·=(bs,key,()))) ?_ ?_
 ·refine Ok.bind (P:=(·=(bs,()))) (dL (dY (by omega)) (Ok.ret rfl)) ?_;rintro _ rfl;exact Ok.ret rfl
 rintro _ rfl;dsimp only;refine dL (by decide) ?_;rw[Mv,oBS];dsimp only;rw[RO hL h h4,oBS];dsimp only;generalize EQ bs key rg rg.length=cs
 have e5:dW ge NN (code,ss,dt,bs,key,vs,(vs.length:Int),0,(),0,(),(),(),bs,key,cs,eq,[],()) =
  some (code,ss,dt,bs,key,vs,(vs.length:Int),(vs.length:Int),false,(),0,(),(),(),bs,key,cs,eq,vs.map (thF bs key),()):=by
  have:=kO (f:=ge) (N:=NN) (st:=λk=>(code,ss,dt,bs,key,vs,(vs.length:Int),(k:Int),(),0,(),(),(),bs,key,cs,eq,(vs.take k).map (thF bs key),())) (n:=vs.length)
   (t:=(code,ss,dt,bs,key,vs,(vs.length:Int),(vs.length:Int),false,(),0,(),(),(),bs,key,cs,eq,vs.map (thF bs key),())) (by unfold NN;omega) ?_ ?_
  ·exact this
  ·intro k hk;obtain⟨v,hv⟩:∃v,vs[k]?=some v:=⟨_,oGE hk⟩;have h8:=h.len v (dR hv);have UW:=h.regs v (dR hv);unfold ge;delta dQ;dsimp only;rw[oDT (show (k:Int) < vs.length by omega),dP];simp only[oCT,oBS,show dO vs k=some v from hv,Q9]
   have e4:∀(T:List DTh) (a1 a2 a3 a4 a5 a6 a7:Int) (a8:List DCn) (b1 b2 b3 b4 b5 b6 b7:Int),dW gf NN (code,ss,dt,bs,key,vs,(vs.length:Int),(k:Int),v.2.2.2.2.2.2.2,(v.2.2.2.2.2.2.2.length:Int),0,(),0,(),(),(),bs,key,cs,eq,T,a1,a2,a3,a4,a5,a6,a7,a8,b1,List.replicate 8 (0,0),b2,b3,b4,b5,b6,b7,()) =
    some (code,ss,dt,bs,key,vs,(vs.length:Int),(k:Int),v.2.2.2.2.2.2.2,(v.2.2.2.2.2.2.2.length:Int),(v.2.2.2.2.2.2.2.length:Int),false,(),0,(),(),(),bs,key,cs,eq,T,a1,a2,a3,a4,a5,a6,a7,a8,b1,v.2.2.2.2.2.2.2.map (rY bs key),b2,b3,b4,b5,b6,b7,()):=by
    intro T a1 a2 a3 a4 a5 a6 a7 a8 b1 b2 b3 b4 b5 b6 b7
    have:=kO (f:=gf) (N:=NN) (st:=λo=>(code,ss,dt,bs,key,vs,(vs.length:Int),(k:Int),v.2.2.2.2.2.2.2,(v.2.2.2.2.2.2.2.length:Int),(o:Int),(),0,(),(),(),bs,key,cs,eq,T,a1,a2,a3,a4,a5,a6,a7,a8,b1,PE (rY bs key) v.2.2.2.2.2.2.2 o,b2,b3,b4,b5,b6,b7,())) (n:=v.2.2.2.2.2.2.2.length)
     (t:=(code,ss,dt,bs,key,vs,(vs.length:Int),(k:Int),v.2.2.2.2.2.2.2,(v.2.2.2.2.2.2.2.length:Int),(v.2.2.2.2.2.2.2.length:Int),false,(),0,(),(),(),bs,key,cs,eq,T,a1,a2,a3,a4,a5,a6,a7,a8,b1,v.2.2.2.2.2.2.2.map (rY bs key),b2,b3,b4,b5,b6,b7,())) (by unfold NN;omega) ?_ ?_
    ·exact this
    ·intro o ho;obtain⟨c,hc⟩:∃c,v.2.2.2.2.2.2.2[o]?=some c:=⟨_,oGE ho⟩;obtain⟨r1,r2⟩:=Mg (f:=rY bs key) h8 (by omega) hc;unfold gf;dsimp only;rw[oDT (show (o:Int) < v.2.2.2.2.2.2.2.length by omega),dP];simp only[oCT,oBS,show dO v.2.2.2.2.2.2.2 o=some c from hc,MK (key:=key) hL (UW c (dR hc)),show dO (PE (rY bs key) v.2.2.2.2.2.2.2 o) o=some (0,0) from r1,eJ r1];rw[dU (x:=(o:Int)+1) (by omega) (by omega)];refine Ok.ret ?_;rw[<- r2];rfl
    ·unfold gf;dsimp only;rw[oDF (show ¬ (v.2.2.2.2.2.2.2.length:Int) < v.2.2.2.2.2.2.2.length by omega)]
     have e:PE (rY bs key) v.2.2.2.2.2.2.2 v.2.2.2.2.2.2.2.length=v.2.2.2.2.2.2.2.map (rY bs key):=by unfold PE;rw[List.take_length,h8];simp
     rw[e];exact Ok.ret rfl
   rw[e4,oBS];dsimp only;refine dL (dY (by simp;omega)) ?_;rw[dU (x:=(k:Int)+1) (by omega) (by omega)];refine Ok.ret ?_;rw[<- fT (thF bs key) hv];rfl
  ·unfold ge;dsimp only;rw[oDF (show ¬ (vs.length:Int) < vs.length by omega),List.take_length];exact Ok.ret rfl
 rw[e5];exact Ok.ret rfl
end
theorem kH{b n m:Nat}(hb:b<=1000) (h:n+m<=1000000):d9 b n m=true:=by
 have h2:=Nat.mul_le_mul h hb;simp[d9];omega
theorem HA{S T:Type}{f:S->Option (S⊕T)}(st:Nat->S) {n N:Nat}{bad:Nat->T}{good:T}(p:Nat->Prop) (hn:n < N)
 (h:∀i,i < n->(p i/\f (st i)=some (.inl (st (i+1))))\/(¬ p i/\f (st i)=some (.inr (bad i)))) (he:f (st n)=some (.inr good)) :
 ((∀i,i < n->p i)/\dW f N (st 0)=some good)\/((¬ ∀i,i < n->p i)/\∃i,dW f N (st 0)=some (bad i)):=by
 have key:∀k i,i+k=n->(∀j,j < i->p j)->∀N,k < N->((∀i,i < n->p i)/\dW f N (st i)=some good)\/((¬ ∀i,i < n->p i)/\∃j,dW f N (st i)=some (bad j)):=by
  intro k
  induction k with
  | zero=>
   intro i hi hp N hN
   obtain rfl:i=n:=by omega
   obtain⟨N',rfl⟩:∃N',N=N'+1:=⟨N - 1,by omega⟩;exact .inl ⟨hp,by simp only[dW,he,oBS]⟩
  | succ k ih=>
   intro i hi hp N hN;obtain⟨N',rfl⟩:∃N',N=N'+1:=⟨N - 1,by omega⟩;rcases h i (by omega) with ⟨US,e⟩ | ⟨US,e⟩
   ·simp only[dW,e];refine ih (i+1) (by omega) (λj hj=>?_) N' (by omega);by_cases hji:j=i
    ·rw[hji];exact US
    ·exact hp j (by omega)
   ·exact .inr ⟨λg=>US (g i (by omega)),i,by simp only[dW,e,oBS]⟩
 simp_all
theorem Jk{S T:Type}{f:S->Option (S⊕T)}(P:S->Prop) (Q:T->Prop) (m:S->Nat)
 (h:∀s,P s->(∃s',f s=some (.inl s')/\P s'/\m s' < m s)\/∃t,f s=some (.inr t)/\Q t):∀n s,P s->m s < n->∃t,dW f n s=some t/\Q t:=by
 intro n
 induction n with
 | zero=>omega
 | succ n ih=>
  intro s hp hm;rcases h s hp with ⟨s',e,hp',hm'⟩ | ⟨t,e,hq⟩
  ·have ⟨t,e2,hq⟩:=ih s' hp' (by omega);exact⟨t,by simp[dW,e];exact e2,hq⟩
  ·exact⟨t,by simp[dW,e],hq⟩
def NF(c:Int×Int×Int×Int):Prop:=
 ((c.1=0\/c.1=2)/\c.2.2.1=0/\c.2.2.2=0/\0<=c.2.1/\c.2.1<=65535) \/
 (c.1=1/\c.2.1=0/\((c.2.2.1=-1/\0<=c.2.2.2/\c.2.2.2<=65535)\/(0<=c.2.2.1/\c.2.2.1 < 4/\0<=c.2.2.2/\c.2.2.2 < 32)))
def be:Nat->Int->List Int
 | 0,_=>[]
 | n+1,v=>(v / 256 ^ n) % 256 :: be n v
def cb(c:Int×Int×Int×Int):List Int:=if c.1=1 then [1,c.2.2.1+1]++be 2 c.2.2.2 else [c.1,0]++be 2 c.2.1
def lb(xs:List (Int×Int×Int×Int)):List Int:=(xs.length:Int) :: xs.flatMap cb
def l7(c:Int×Int×Int×Int):Prop:=
 ((c.1=0\/c.1=2)/\c.2.2.1=0/\c.2.2.2=0) \/
 (c.1=1/\c.2.1=0/\((c.2.2.1=-1/\0<=c.2.2.2/\c.2.2.2<=65535)\/(0<=c.2.2.1/\c.2.2.1 < 4/\0<=c.2.2.2/\c.2.2.2 < 32)))
instance (c:Int×Int×Int×Int):Decidable (l7 c):=by unfold l7;exact inferInstance
def IP(c:Int×Int×Int×Int):Prop:=0<=c.2.1/\c.2.1<=65535
theorem l7.ok{c:Int×Int×Int×Int}(h:l7 c) (t:IP c):NF c:=by
 rcases h with ⟨h1,h2,h3⟩ | h
 ·exact .inl ⟨h1,h2,h3,t.1,t.2⟩
 ·exact .inr h
theorem NF.v{c:Int×Int×Int×Int}(h:NF c):l7 c:=by
 rcases h with ⟨h1,h2,h3,_⟩ | h
 ·exact .inl ⟨h1,h2,h3⟩
 ·exact .inr h
theorem zf{P:Prop} [Decidable P] {b:Bool}(h:b=true↔P):some (b,())=some (decide P,()):=by
 rw[show b=decide P by grind]
theorem Me(c:Int×Int×Int×Int):mz c.1 c.2.1 c.2.2.1 c.2.2.2=some (decide (l7 c),()):=by
 obtain⟨t,v,r,o⟩:=c;unfold mz l7;simp only;by_cases h0:t=0
 ·by_cases hr:r=0<;>by_cases ho:o=0<;>simp[Bool.cond_eq_ite,h0,hr,ho]
 by_cases h2:t=2
 ·by_cases hr:r=0<;>by_cases ho:o=0<;>simp[Bool.cond_eq_ite,h2,hr,ho]
 by_cases h1:t=1
 ·subst h1;by_cases hv:v=0
  ·by_cases hr:r=-1
   ·subst hr;by_cases ho:0<=o<;>by_cases hp:o<=65535<;>simp[Bool.cond_eq_ite,hv,ho,hp]
   ·by_cases r0:0<=r<;>by_cases r1:r < 4<;>by_cases o0:0<=o<;>by_cases o1:o < 32<;>simp[Bool.cond_eq_ite,hv,hr,r0,r1,o0,o1]
  ·by_cases hr:r=-1
   ·subst hr;by_cases ho:0<=o<;>simp[Bool.cond_eq_ite,hv,ho]
   ·simp[Bool.cond_eq_ite,hv,hr]
 ·simp[Bool.cond_eq_ite,h0,h1,h2]
theorem Mh(c:Int×Int×Int×Int):iM c.1 c.2.1 c.2.2.1 c.2.2.2=some (decide (l7 c),()):=by
 obtain⟨t,v,r,o⟩:=c;unfold iM l7;simp only;by_cases h0:t=0
 ·by_cases hr:r=0<;>by_cases ho:o=0<;>simp[Bool.cond_eq_ite,h0,hr,ho]
 by_cases h2:t=2
 ·by_cases hr:r=0<;>by_cases ho:o=0<;>simp[Bool.cond_eq_ite,h2,hr,ho]
 by_cases h1:t=1
 ·subst h1;by_cases hv:v=0
  ·by_cases hr:r=-1
   ·subst hr;by_cases ho:0<=o<;>by_cases hp:o<=65535<;>simp[Bool.cond_eq_ite,hv,ho,hp]
   ·by_cases r0:0<=r<;>by_cases r1:r < 4<;>by_cases o0:0<=o<;>by_cases o1:o < 32<;>simp[Bool.cond_eq_ite,hv,hr,r0,r1,o0,o1]
  ·by_cases hr:r=-1
   ·subst hr;by_cases ho:0<=o<;>simp[Bool.cond_eq_ite,hv,ho]
   ·simp[Bool.cond_eq_ite,hv,hr]
 ·simp[Bool.cond_eq_ite,h0,h1,h2]
theorem PJ{α:Type}{xs:List α}{i:Nat}(h:i < xs.length):dO xs i=some xs[i]:=oGE h
theorem JM{α:Type}{P:α->Prop}{xs:List α}{i:Nat}(h:i < xs.length) (ha:∀x∈xs.take i,P x) (hx:P xs[i]):∀x∈xs.take (i+1),P x:=by
 intro x hm;rw[List.take_succ_eq_append_getElem h] at hm;rcases List.mem_append.1 hm with h1 | h1
 all_goals simp_all
theorem Cy{xs:List (Int×Int×Int×Int)}{n:Int}(hl:xs.length<=100000):fA xs n=some (decide ((∀c∈xs,l7 c)/\(xs.length:Int)<=n),()):=by
 unfold fA
 obtain⟨t,e,ht⟩:=Jk (f:=g9)
  (λs=>∃i:Nat,i<=xs.length/\s=(xs,n,xs,(xs.length:Int),(i:Int),())/\∀c∈xs.take i,l7 c)
  (λt=>(t=.inl (false,())/\¬ ∀c∈xs,l7 c)\/((∃x3 x4 x5 x6,t=.inr (xs,n,x3,x4,x5,x6,()))/\∀c∈xs,l7 c))
  (λs=>(s.2.2.2.1 - s.2.2.2.2.1).toNat) (by
   rintro _ ⟨i,hi,rfl,hv⟩;unfold g9;by_cases hn:(i:Int) < xs.length
   ·have Xs:i < xs.length:=by omega
    simp only[hn,decide_true,oCT,dP,oBS,PJ Xs,Mh];by_cases hc:l7 xs[i]
    ·left;simp only[hc,decide_true,oNT,oCF];rw[dU (x:=(i:Int)+1) (by omega) (by omega)];exact⟨_,rfl,⟨i+1,by omega,rfl,JM Xs hv hc⟩,by simp only;omega⟩
    ·right;simp only[hc,decide_false,Bool.not_false,oCT];exact⟨_,rfl,.inl ⟨rfl,λh=>hc (h _ (List.getElem_mem Xs))⟩⟩
   ·right;simp only[hn,decide_false,oCF]
    have:i=xs.length:=by omega
    subst this
    exact⟨_,rfl,.inr ⟨⟨_,_,_,_,rfl⟩,by simp_all⟩⟩) NN (xs,n,xs,(xs.length:Int),0,()) ⟨0,by omega,rfl,by simp⟩ (by show ((xs.length:Int) - 0).toNat < NN;unfold NN;omega)
 simp only[d7,e];rcases ht with ⟨rfl,h⟩ | ⟨⟨x3,x4,x5,x6,rfl⟩,h⟩
 ·simp only;exact zf ⟨λq=>absurd q (by decide),λq=>absurd q.1 h⟩
 ·simp only;exact zf ⟨λq=>⟨h,of_decide_eq_true q⟩,λq=>oDT q.2⟩
theorem Cx{xs:List (Int×Int×Int×Int)}{n:Int}(hl:xs.length<=100000):f7 xs n=some (decide ((∀c∈xs,l7 c)/\(xs.length:Int)<=n),()):=by
 have XQ:∃v,gj xs=some (v,())/\(v < 0↔∀c∈xs,l7 c):=by
  unfold gj
  obtain⟨t,e,ht⟩:=Jk (f:=gP)
   (λs=>∃i:Nat,i<=xs.length/\s=(xs,(xs.length:Int),(i:Int),())/\∀c∈xs.take i,l7 c)
   (λt=>(∃v,0<=v/\t=.inl (v,())/\¬ ∀c∈xs,l7 c)\/((∃x1 x2 x3 x4,t=.inr (x1,x2,x3,x4,()))/\∀c∈xs,l7 c))
   (λs=>(s.2.1 - s.2.2.1).toNat) (by
    rintro _ ⟨i,hi,rfl,hv⟩;unfold gP;by_cases hn2:(i:Int) < xs.length
    ·have Xs:i < xs.length:=by omega
     simp only[hn2,decide_true,oCT,dP,oBS,PJ Xs,mj,Me];by_cases hc:l7 xs[i]
     ·left;simp only[hc,decide_true,oNT,oCF];rw[dU (x:=(i:Int)+1) (by omega) (by omega)];exact⟨_,rfl,⟨i+1,by omega,rfl,JM Xs hv hc⟩,by simp only;omega⟩
     ·right;simp only[hc,decide_false,Bool.not_false,oCT];exact⟨_,rfl,.inl ⟨_,by omega,rfl,λh=>hc (h _ (List.getElem_mem Xs))⟩⟩
    ·right;simp only[hn2,decide_false,oCF]
     have:i=xs.length:=by omega
     subst this
     exact⟨_,rfl,.inr ⟨⟨_,_,_,_,rfl⟩,by rw[List.take_length] at hv;exact hv⟩⟩) NN (xs,(xs.length:Int),0,()) ⟨0,by omega,rfl,by simp⟩ (by show ((xs.length:Int) - 0).toNat < NN;unfold NN;omega)
  simp only[d7,e];rcases ht with ⟨v,hv,rfl,h⟩ | ⟨⟨x1,x2,x3,x4,rfl⟩,h⟩
  ·exact⟨v,rfl,by constructor<;>intro h2<;>first | omega | exact absurd h2 h⟩
  ·simp_all
 obtain⟨v,e,hv⟩:=XQ;unfold f7 gQ;simp only[d7];by_cases hln:(xs.length:Int)<=n
 ·simp only[hln,decide_true,oCT,e,oBS];exact zf (by rw[<- hv];simp)
 ·simp only[hln,decide_false,oCF];exact zf (by simp)
def NA(v:DTs):Prop:=(0<=v.1/\v.1<=4)/\(0<=v.2.1/\v.2.1<=255)/\(0<=v.2.2.1/\v.2.2.1<=1099511627776)/\(-1<=v.2.2.2.1/\v.2.2.2.1<=255)/\(-1<=v.2.2.2.2.1/\v.2.2.2.2.1<=255)/\(0<=v.2.2.2.2.2.1/\v.2.2.2.2.2.1<=6)/\v.2.2.2.2.2.2.2.length=8/\∀c∈v.2.2.2.2.2.2.2,l7 c
def JP(T:List DTs):Prop:=T.length=4/\∀v∈T,NA v
theorem j0{α:Type}{l:List α}{P:α->Prop}:(∀i,i < l.length->∀c,l[i]?=some c->P c)↔∀c∈l,P c:=
 ⟨λh c hc=>by
  have ⟨i,hi⟩:=List.getElem?_of_mem hc
  exact h i (oGS hi).1 c hi,λh i _ c hc=>h c (dR hc)⟩
theorem Lj{T:List DTs}(h:T.length<=1000) (hr:∀v∈T,v.2.2.2.2.2.2.2.length<=1000):Cb (iw T) (JP T):=by
 unfold iw;delta dQ;dsimp only
 have key:=Qv (f:=fc) (N:=NN) (bad:=.inl (false,())) (good:=.inr (T,T,(T.length:Int),(T.length:Int),false,())) (λi=>(T,T,(T.length:Int),(i:Int),())) (n:=T.length) (λi=>∀v,T[i]?=some v->NA v) (by unfold NN;omega) (λi hi _=>by
  obtain⟨v,hv⟩:∃v,T[i]?=some v:=⟨_,oGE hi⟩;have hlen:=hr v (dR hv);unfold fc;delta dQ;dsimp only;rw[oDT (show (i:Int) < T.length by omega),dP];simp only[oCT,oBS,show dO T i=some v from hv];by_cases c0:v.1>=0
  rotate_left
  ·rw[oDF c0];exact .inr ⟨λg=>c0 (g v hv).1.1,rfl⟩
  rw[oDT c0];simp only[oCT];by_cases c1:v.1<=4
  rotate_left
  ·rw[oDF c1];exact .inr ⟨λg=>c1 (g v hv).1.2,rfl⟩
  rw[oDT c1];simp only[oCT];by_cases c2:v.2.1>=0
  rotate_left
  ·rw[oDF c2];exact .inr ⟨λg=>c2 (g v hv).2.1.1,rfl⟩
  rw[oDT c2];simp only[oCT];by_cases c3:v.2.1<=255
  rotate_left
  ·rw[oDF c3];exact .inr ⟨λg=>c3 (g v hv).2.1.2,rfl⟩
  rw[oDT c3];simp only[oCT];by_cases c4:v.2.2.1>=0
  rotate_left
  ·rw[oDF c4];exact .inr ⟨λg=>c4 (g v hv).2.2.1.1,rfl⟩
  rw[oDT c4];simp only[oCT];by_cases c5:v.2.2.1<=1099511627776
  rotate_left
  ·rw[oDF c5];exact .inr ⟨λg=>c5 (g v hv).2.2.1.2,rfl⟩
  rw[oDT c5];simp only[oCT];by_cases c6:v.2.2.2.1>=-1
  rotate_left
  ·rw[oDF c6];exact .inr ⟨λg=>c6 (g v hv).2.2.2.1.1,rfl⟩
  rw[oDT c6];simp only[oCT];by_cases c7:v.2.2.2.1<=255
  rotate_left
  ·rw[oDF c7];exact .inr ⟨λg=>c7 (g v hv).2.2.2.1.2,rfl⟩
  rw[oDT c7];simp only[oCT];by_cases c8:v.2.2.2.2.1>=-1
  rotate_left
  ·rw[oDF c8];exact .inr ⟨λg=>c8 (g v hv).2.2.2.2.1.1,rfl⟩
  rw[oDT c8];simp only[oCT];by_cases c9:v.2.2.2.2.1<=255
  rotate_left
  ·rw[oDF c9];exact .inr ⟨λg=>c9 (g v hv).2.2.2.2.1.2,rfl⟩
  rw[oDT c9];simp only[oCT];by_cases c10:v.2.2.2.2.2.1>=0
  rotate_left
  ·rw[oDF c10];exact .inr ⟨λg=>c10 (g v hv).2.2.2.2.2.1.1,rfl⟩
  rw[oDT c10];simp only[oCT];by_cases c11:v.2.2.2.2.2.1<=6
  rotate_left
  ·rw[oDF c11];exact .inr ⟨λg=>c11 (g v hv).2.2.2.2.2.1.2,rfl⟩
  rw[oDT c11];simp only[oCT,oBS,oNT,oCF];by_cases c12:(v.2.2.2.2.2.2.2.length:Int)=8
  rotate_left
  ·rw[bne_iff_ne.2 c12];exact .inr ⟨λg=>c12 (by rw[(g v hv).2.2.2.2.2.2.1];rfl),rfl⟩
  rw[bne_eq_false_iff_eq.2 c12,Cy (by omega)];simp only[oCF,oBS];by_cases c13:(∀c∈v.2.2.2.2.2.2.2,l7 c)/\(v.2.2.2.2.2.2.2.length:Int)<=8
  ·rw[oDT c13];refine .inl ⟨λv' Y7=>?_,by simp only[oNT,oCF];rw[dU (x:=(i:Int)+1) (by omega) (by omega)];rfl⟩;rw[hv] at Y7
   injection Y7 with Y7
   subst Y7;exact⟨⟨c0,c1⟩,⟨c2,c3⟩,⟨c4,c5⟩,⟨c6,c7⟩,⟨c8,c9⟩,⟨c10,c11⟩,by omega,c13.1⟩
  ·rw[oDF c13]
   exact .inr ⟨λg=>c13 ⟨(g v hv).2.2.2.2.2.2.2,by omega⟩,rfl⟩) (by
  unfold fc;dsimp only;rw[oDF (show ¬ (T.length:Int) < T.length by omega)]
  rfl)
 rcases key with ⟨g,e⟩ | ⟨g,e⟩
 ·have e0:dW fc NN (T,T,(T.length:Int),0,())=_:=e;rw[e0];dsimp only;by_cases h4:(T.length:Int)=4
  ·rw[beq_iff_eq.2 h4];exact .inl ⟨⟨by omega,j0.1 g⟩,rfl⟩
  ·rw[oBF h4];exact .inr ⟨λx=>h4 (by rw[x.1];rfl),rfl⟩
 ·have e0:dW fc NN (T,T,(T.length:Int),0,())=_:=e;rw[e0];exact .inr ⟨λx=>g (j0.2 x.2),rfl⟩
theorem NO(x lo hi:Int):fH x lo hi=some (decide (lo<=x/\x<=hi),()):=by
 unfold fH;by_cases h:lo<=x
 ·simp_all
 ·rw[oDF (show ¬ x>=lo from h),oDF (show ¬ (lo<=x/\x<=hi) from λg=>h g.1)];rfl
theorem Tb:gZ (List.replicate 8 (0,0))=some (false,()):=by kernel_rfl
theorem RA(v:DTs) (hlen:v.2.2.2.2.2.2.2.length<=1000):(NA v/\gc v.1 v.2.1 v.2.2.1 v.2.2.2.1 v.2.2.2.2.1 v.2.2.2.2.2.1 v.2.2.2.2.2.2.1 v.2.2.2.2.2.2.2=some (false,()))\/(¬ NA v/\gc v.1 v.2.1 v.2.2.1 v.2.2.2.1 v.2.2.2.2.1 v.2.2.2.2.2.1 v.2.2.2.2.2.2.1 v.2.2.2.2.2.2.2=some (true,())):=by
 unfold gc i7 pT;rw[show sK 8 8 2=true from rfl];simp only[oCT,oBS];unfold pQ;delta dQ;simp only[NO,oBS,List.length_replicate];by_cases c0:0<=v.1/\v.1<=4
 rotate_left
 ·rw[oDF c0];exact .inr ⟨λg=>c0 g.1,rfl⟩
 rw[oDT c0];simp only[oCT,oBS];by_cases c1:0<=v.2.1/\v.2.1<=255
 rotate_left
 ·rw[oDF c1];exact .inr ⟨λg=>c1 g.2.1,rfl⟩
 rw[oDT c1];simp only[oCT,oBS];by_cases c2:0<=v.2.2.1/\v.2.2.1<=1099511627776
 rotate_left
 ·rw[oDF c2];exact .inr ⟨λg=>c2 g.2.2.1,rfl⟩
 rw[oDT c2];simp only[oCT,oBS];by_cases c3:-1<=v.2.2.2.1/\v.2.2.2.1<=255
 rotate_left
 ·rw[oDF c3];exact .inr ⟨λg=>c3 g.2.2.2.1,rfl⟩
 rw[oDT c3];simp only[oCT,oBS];by_cases c4:-1<=v.2.2.2.2.1/\v.2.2.2.2.1<=255
 rotate_left
 ·rw[oDF c4];exact .inr ⟨λg=>c4 g.2.2.2.2.1,rfl⟩
 rw[oDT c4];simp only[oCT,oBS];by_cases c5:0<=v.2.2.2.2.2.1/\v.2.2.2.2.2.1<=6
 rotate_left
 ·rw[oDF c5];exact .inr ⟨λg=>c5 g.2.2.2.2.2.1,rfl⟩
 rw[oDT c5];by_cases c12:(v.2.2.2.2.2.2.2.length:Int)=8
 rotate_left
 ·rw[bne_iff_ne.2 c12];exact .inr ⟨λg=>c12 (by rw[g.2.2.2.2.2.2.1];rfl),rfl⟩
 rw[bne_eq_false_iff_eq.2 c12,Cx (by omega)];simp only[oCF,oBS];by_cases c13:(∀c∈v.2.2.2.2.2.2.2,l7 c)/\(v.2.2.2.2.2.2.2.length:Int)<=8
 ·rw[oDT c13];exact .inl ⟨⟨c0,c1,c2,c3,c4,c5,by omega,c13.1⟩,rfl⟩
 ·rw[oDF c13];exact .inr ⟨λg=>c13 ⟨g.2.2.2.2.2.2.2,by omega⟩,rfl⟩
theorem NR{T:List DTs}(h:T.length<=1000) (hr:∀v∈T,v.2.2.2.2.2.2.2.length<=1000):Cb (iU T) (JP T):=by
 unfold iU;delta dQ;dsimp only;by_cases h4:(T.length:Int)=4
 rotate_left
 ·rw[oBF h4];exact .inr ⟨λx=>h4 (by rw[x.1];rfl),rfl⟩
 rw[beq_iff_eq.2 h4];simp only[oCT];unfold gY iO;delta dQ;dsimp only
 have key:=HA (f:=fh) (N:=NN) (bad:=λi=>.inl ((i:Int),())) (good:=.inr (T,(T.length:Int),(T.length:Int),false,())) (λi=>(T,(T.length:Int),(i:Int),())) (n:=T.length) (λi=>∀v,T[i]?=some v->NA v) (by unfold NN;omega) (λi hi=>by
  obtain⟨v,hv⟩:∃v,T[i]?=some v:=⟨_,oGE hi⟩;have hlen:=hr v (dR hv);unfold fh;dsimp only;rw[oDT (show (i:Int) < T.length by omega),dP];simp only[oCT,oBS,show dO T i=some v from hv];rw[dU (x:=(i:Int)+1) (by omega) (by omega)];rcases RA v hlen with ⟨g,e⟩ | ⟨g,e⟩
  ·simp_all
  ·rw[e]
   exact .inr ⟨λx=>g (x v hv),rfl⟩) (by
  unfold fh;dsimp only;rw[oDF (show ¬ (T.length:Int) < T.length by omega)]
  rfl)
 rcases key with ⟨g,e⟩ | ⟨g,i,e⟩
 ·have e0:dW fh NN (T,(T.length:Int),0,())=_:=e;rw[e0];exact .inl ⟨⟨by omega,j0.1 g⟩,rfl⟩
 ·have e0:dW fh NN (T,(T.length:Int),0,())=_:=e;rw[e0];exact .inr ⟨λx=>g (j0.2 x.2),rfl⟩
theorem xr{α:Type}{f:List α×Int×Int×Unit->Option ((List α×Int×Int×Unit)⊕((Int×Unit)⊕(List α×Int×Int×Bool×Unit)))}{l:List α}(hl:l.length<=1000) (W:α->Prop)
 (h:∀(i:Nat) x,i < l.length->l[i]?=some x->(W x/\f (l,(l.length:Int),(i:Int),())=some (.inr (.inl ((i:Int),()))))\/(¬ W x/\f (l,(l.length:Int),(i:Int),())=some (.inl (l,(l.length:Int),(i:Int)+1,()))))
 (he:f (l,(l.length:Int),(l.length:Int),())=some (.inr (.inr (l,(l.length:Int),(l.length:Int),false,())))) :
 ((∃x∈l,W x)/\∃i:Nat,dW f NN (l,(l.length:Int),0,())=some (.inl ((i:Int),())))\/((¬ ∃x∈l,W x)/\dW f NN (l,(l.length:Int),0,())=some (.inr (l,(l.length:Int),(l.length:Int),false,()))):=by
 have key:=HA (f:=f) (N:=NN) (bad:=λi=>.inl ((i:Int),())) (good:=.inr (l,(l.length:Int),(l.length:Int),false,())) (λi=>(l,(l.length:Int),(i:Int),())) (λi=>∀x,l[i]?=some x->¬ W x) (by unfold NN;omega) (λi hi=>by
  have ⟨x,hx⟩:∃x,l[i]?=some x:=⟨_,oGE hi⟩;rcases h i x hi hx with ⟨g,e⟩ | ⟨g,e⟩
  ·simp_all
  ·refine .inl ⟨λy hy=>?_,e⟩;rw[hx] at hy
   injection hy with hy
   exact hy ▸ g) he
 rcases key with ⟨g,e⟩ | ⟨g,i,e⟩
 ·exact .inr ⟨λ⟨x,hx,k⟩=>j0.1 g x hx k,e⟩
 ·refine .inl ⟨Classical.byContradiction λk=>g (j0.2 λx hx w=>k ⟨x,hx,w⟩),i,e⟩
def IJ(c:DCn):Prop:=c.1=1/\c.2.2.1=-1
theorem PW(c:DCn):Cb (lI c.1 c.2.1 c.2.2.1 c.2.2.2) (IJ c):=by
 unfold lI;by_cases h:c.1=1
 ·rw[beq_iff_eq.2 h];by_cases h2:c.2.2.1=-1
  ·exact .inl ⟨⟨h,h2⟩,by simp_all⟩
  ·exact .inr ⟨λg=>h2 g.2,by simp_all⟩
 ·exact .inr ⟨λg=>h g.1,by grind⟩
theorem Cg{l:List DCn}(h:l.length<=1000):Cb (fK l) (∃c∈l,IJ c):=by
 unfold fK jR;delta dQ;dsimp only
 rcases xr (f:=fJ) h IJ (λi x hi hx=>by
  unfold fJ;dsimp only;rw[oDT (show (i:Int) < l.length by omega),dP];simp[show dO l i=some x from hx];rw[dU (x:=(i:Int)+1) (by omega) (by omega)];rcases PW x with ⟨g,e⟩ | ⟨g,e⟩
  ·simp_all
  ·rw[e];exact .inr ⟨g,rfl⟩) (by
  unfold fJ;dsimp only;rw[oDF (show ¬ (l.length:Int) < l.length by omega)]
  rfl) with ⟨g,i,e⟩ | ⟨g,e⟩
 ·rw[e];exact .inl ⟨g,rfl⟩
 ·rw[e];exact .inr ⟨g,rfl⟩
def SX(R:List (List DCn)) (T:List DTs):Prop:=(∃l∈R,∃c∈l,IJ c)\/∃v∈T,∃c∈v.2.2.2.2.2.2.2,IJ c
theorem Rp{R:List (List DCn)}{T:List DTs}(h:R.length<=1000) (h1:∀l∈R,l.length<=1000) (h2:T.length<=1000) (h3:∀v∈T,v.2.2.2.2.2.2.2.length<=1000):Cb (rV R T) (SX R T):=by
 unfold rV oy iY jQ;delta dQ;dsimp only
 rcases xr (f:=fI) h (λl=>∃c∈l,IJ c) (λi x hi hx=>by
  unfold fI;dsimp only;rw[oDT (show (i:Int) < R.length by omega),dP];simp only[oCT,oBS,show dO R i=some x from hx];rw[dU (x:=(i:Int)+1) (by omega) (by omega)];unfold m9;rcases Cg (h1 x (dR hx)) with ⟨g,e⟩ | ⟨g,e⟩
  ·rw[e];exact .inl ⟨g,rfl⟩
  ·rw[e];exact .inr ⟨g,rfl⟩) (by
  unfold fI;dsimp only;rw[oDF (show ¬ (R.length:Int) < R.length by omega)]
  rfl) with ⟨g,i,e⟩ | ⟨g,e⟩
 ·rw[e];simp only[oBS];rw[oDT (show (i:Int)>=0 by omega)];exact .inl ⟨.inl g,rfl⟩
 rw[e];simp only[oBS];unfold jg j6;delta dQ;simp only[oCF]
 rcases xr (f:=fP) h2 (λv=>∃c∈v.2.2.2.2.2.2.2,IJ c) (λi x hi hx=>by
  unfold fP;dsimp only;rw[oDT (show (i:Int) < T.length by omega),dP];simp only[oCT,oBS,show dO T i=some x from hx];rw[dU (x:=(i:Int)+1) (by omega) (by omega)];unfold m8;rcases Cg (h3 x (dR hx)) with ⟨g,e⟩ | ⟨g,e⟩
  ·simp_all
  ·rw[e];exact .inr ⟨g,rfl⟩) (by
  unfold fP;dsimp only;rw[oDF (show ¬ (T.length:Int) < T.length by omega)]
  rfl) with ⟨g2,i,e2⟩ | ⟨g2,e2⟩
 ·rw[e2];simp only[oBS];rw[oDT (show (i:Int)>=0 by omega)];exact .inl ⟨.inr g2,rfl⟩
 ·rw[e2];exact .inr ⟨λk=>k.elim g g2,rfl⟩
theorem QP{R:List (List DCn)}{T:List DTs}(h:R.length<=1000) (h2:T.length<=1000):jL R T=some (R++T.map (λv=>v.2.2.2.2.2.2.2),()):=by
 have e1:dW fL NN (T,(T.length:Int),0,R,T,R,())=some (T,(T.length:Int),(T.length:Int),false,R,T,R++T.map (λv=>v.2.2.2.2.2.2.2),()):=by
  have:=kO (f:=fL) (N:=NN) (st:=λr=>(T,(T.length:Int),(r:Int),R,T,R++(T.take r).map (λv=>v.2.2.2.2.2.2.2),())) (n:=T.length) (t:=(T,(T.length:Int),(T.length:Int),false,R,T,R++T.map (λv=>v.2.2.2.2.2.2.2),())) (by unfold NN;omega) ?_ ?_
  ·simp_all
  ·intro r hr;have hx:=oGE hr;unfold fL;dsimp only;rw[oDT (show (r:Int) < T.length by omega),dP];simp only[oCT,oBS,show dO T r=some T[r] from hx];rw[kH (by decide) (by simp;omega),dU (x:=(r:Int)+1) (by omega) (by omega)]
   have e:List.append (R++(T.take r).map (λv:DTs=>v.2.2.2.2.2.2.2)) [T[r].2.2.2.2.2.2.2]=R++(T.take (r+1)).map (λv=>v.2.2.2.2.2.2.2):=by
    show _++[_]=_;rw[List.take_add_one,hx,List.map_append,List.append_assoc];rfl
   rw[e];exact Ok.ret rfl
  ·unfold fL;dsimp only;rw[oDF (show ¬ (T.length:Int) < T.length by omega),List.take_length];exact Ok.ret rfl
 unfold jL;delta dQ;rw[kH (by decide) (by omega)]
 simp_all
def SZ(ss:List Int) (R:List (List DCn)) (T:List DTs):Prop:=R.length=ss.length/\JP T/\∀i,i < R.length->∀l,R[i]?=some l->(l.length:Int)=ss.getD i 0/\∀c∈l,l7 c
theorem Ho{code:List DIn}{ss:List Int}{dt:List (List Int)}{R:List (List DCn)}{T:List DTs}(hp:lJ code ss dt=some (0,())) (hz:xG ss) (h:R.length<=1000) (h1:∀l∈R,l.length<=1000) (h2:T.length<=1000) (h3:∀v∈T,v.2.2.2.2.2.2.2.length<=1000):Cb (iB code ss dt R T) (SZ ss R T):=by
 unfold iB;rw[hp];delta dQ;simp only[oBS,bne_self_eq_false,oCF];by_cases hl:(R.length:Int)=ss.length
 rotate_left
 ·rw[bne_iff_ne.2 hl];exact .inr ⟨λg=>hl (by rw[g.1]),rfl⟩
 rw[bne_eq_false_iff_eq.2 hl];simp only[oCF]
 have key:=Qv (f:=fU) (N:=NN) (bad:=.inl (false,())) (good:=.inr (R,(R.length:Int),(R.length:Int),false,code,ss,dt,R,T,())) (λi=>(R,(R.length:Int),(i:Int),code,ss,dt,R,T,())) (n:=R.length) (λi=>∀l,R[i]?=some l->(l.length:Int)=ss.getD i 0/\∀c∈l,l7 c) (by unfold NN;omega) (λi hi _=>by
  obtain⟨l,Zg⟩:∃l,R[i]?=some l:=⟨_,oGE hi⟩;obtain⟨z,X4⟩:∃z,ss[i]?=some z:=⟨_,oGE (by omega)⟩;have WQ:=h1 l (dR Zg);unfold fU;delta dQ;dsimp only;rw[oDT (show (i:Int) < R.length by omega),dP];simp only[oCT,oBS,show dO R i=some l from Zg,show dO ss i=some z from X4];by_cases g1:(l.length:Int)=z
  rotate_left
  ·rw[bne_iff_ne.2 g1]
   simp_all
  rw[bne_eq_false_iff_eq.2 g1,Cx (by omega),dU (x:=(i:Int)+1) (by omega) (by omega)];simp only[oCF,oBS];by_cases g2:(∀c∈l,l7 c)/\(l.length:Int)<=z
  ·simp_all
  ·rw[oDF g2]
   exact .inr ⟨λk=>g2 ⟨(k l Zg).2,by omega⟩,rfl⟩) (by
  unfold fU;dsimp only;rw[oDF (show ¬ (R.length:Int) < R.length by omega)]
  rfl)
 rcases key with ⟨g,e⟩ | ⟨g,e⟩
 ·have e0:dW fU NN (R,(R.length:Int),0,code,ss,dt,R,T,())=_:=e;rw[e0];dsimp only;rcases NR h2 h3 with ⟨k,e2⟩ | ⟨k,e2⟩
  ·rw[e2];exact .inl ⟨⟨by omega,k,g⟩,rfl⟩
  ·rw[e2];exact .inr ⟨λx=>k x.2.1,rfl⟩
 ·have e0:dW fU NN (R,(R.length:Int),0,code,ss,dt,R,T,())=_:=e;rw[e0];exact .inr ⟨λx=>g x.2.2,rfl⟩
theorem EV{code:List DIn}{ss:List Int}{dt:List (List Int)}{R:List (List DCn)}{T:List DTs}(hp:iQ code ss dt=some (0,())) (hz:xG ss) (h:R.length<=1000) (h1:∀l∈R,l.length<=1000) (h2:T.length<=1000) (h3:∀v∈T,v.2.2.2.2.2.2.2.length<=1000):Cb (iP code ss dt R T) (SZ ss R T):=by
 unfold iP;rw[hp];delta dQ;simp only[oBS,bne_self_eq_false,oCF];by_cases hl:(R.length:Int)=ss.length
 rotate_left
 ·rw[bne_iff_ne.2 hl];exact .inr ⟨λg=>hl (by rw[g.1]),rfl⟩
 rw[bne_eq_false_iff_eq.2 hl];simp only[oCF];rcases Lj h2 h3 with ⟨k,e2⟩ | ⟨k,e2⟩
 rotate_left
 ·rw[e2];exact .inr ⟨λx=>k x.2.1,rfl⟩
 rw[e2];simp only[oBS,oNT,oCF]
 have key:=Qv (f:=fM) (N:=NN) (bad:=.inl (false,())) (good:=.inr (R,(R.length:Int),(R.length:Int),false,code,ss,dt,R,T,())) (λi=>(R,(R.length:Int),(i:Int),code,ss,dt,R,T,())) (n:=R.length) (λi=>∀l,R[i]?=some l->(l.length:Int)=ss.getD i 0/\∀c∈l,l7 c) (by unfold NN;omega) (λi hi _=>by
  obtain⟨l,Zg⟩:∃l,R[i]?=some l:=⟨_,oGE hi⟩;obtain⟨z,X4⟩:∃z,ss[i]?=some z:=⟨_,oGE (by omega)⟩;have WQ:=h1 l (dR Zg);have hz32:=(hz.2.2 z (dR X4)).2;unfold fM;delta dQ;dsimp only;rw[oDT (show (i:Int) < R.length by omega),dP];simp only[oCT,oBS,show dO R i=some l from Zg,show dO ss i=some z from X4];by_cases g1:(l.length:Int)=z
  rotate_left
  ·rw[bne_iff_ne.2 g1]
   simp_all
  rw[bne_eq_false_iff_eq.2 g1,Cy (by omega),dU (x:=(i:Int)+1) (by omega) (by omega)];simp only[oCF,oBS];by_cases g2:(∀c∈l,l7 c)/\(l.length:Int)<=32
  ·simp_all
  ·rw[oDF g2]
   exact .inr ⟨λk=>g2 ⟨(k l Zg).2,by omega⟩,rfl⟩) (by
  unfold fM;dsimp only;rw[oDF (show ¬ (R.length:Int) < R.length by omega)]
  rfl)
 rcases key with ⟨g,e⟩ | ⟨g,e⟩
 ·have e0:dW fM NN (R,(R.length:Int),0,code,ss,dt,R,T,())=_:=e;rw[e0];exact .inl ⟨⟨by omega,k,g⟩,rfl⟩
 ·have e0:dW fM NN (R,(R.length:Int),0,code,ss,dt,R,T,())=_:=e;rw[e0];exact .inr ⟨λx=>g x.2.2,rfl⟩
def Fld(u:Bool) (v m:Int):Prop:=v=0\/(u=true/\0 < v/\v<=m)
def MH(o:Int):Int:=bif mt o then 63 else bif o==15 then 3 else bif o==23 then 15 else 65535
def S8(o a b c i:Int):Prop:=(0<=o/\o<=24)/\Fld (qd o) a 7/\Fld (qM o) b 7/\Fld (qc o) c 7/\Fld (qb o) i (MH o)
theorem Ng:pS=jw:=rfl
theorem Fj:nR=hZ:=rfl
theorem zu{u:Bool}{v m:Int}:Cb (gR u v m) (Fld u v m):=by
 unfold gR Fld;by_cases h0:v=0
 ·rw[show (v==0)=true from beq_iff_eq.2 h0];exact .inl ⟨.inl h0,rfl⟩
 rw[show (v==0)=false from oBF h0]
 cases u with
 | false=>exact .inr ⟨λh=>h.elim h0 λh=>(by cases h.1),rfl⟩
 | true=>
  by_cases h1:v > 0
  rotate_left
  ·rw[oDF h1];exact .inr ⟨λh=>by omega,rfl⟩
  rw[oDT h1];by_cases h2:v<=m
  ·rw[oDT h2];exact .inl ⟨.inr ⟨rfl,h1,h2⟩,rfl⟩
  ·rw[oDF h2];exact .inr ⟨λh=>by omega,rfl⟩
theorem QJ{o:Int}:px o=some (MH o,()):=by
 unfold px MH;rw[Fj,uV]
 grind
theorem Ti{o a b c i:Int}:Cb (lH o a b c i) (S8 o a b c i):=by
 unfold lH S8;by_cases h0:o < 0
 ·rw[oDT h0];exact .inr ⟨λh=>by omega,rfl⟩
 rw[oDF h0];by_cases h1:o > 24
 ·rw[oDT h1];exact .inr ⟨λh=>by omega,rfl⟩
 rw[oDF h1,Ng,Hq (by omega) (by omega)];simp;rcases zu (v:=a) (m:=7) with ⟨hA,e⟩ | ⟨hA,e⟩
 rotate_left
 ·rw[e];exact .inr ⟨λh=>hA h.2.1,rfl⟩
 rw[e];rcases zu (v:=b) (m:=7) with ⟨hB,e⟩ | ⟨hB,e⟩
 rotate_left
 ·rw[e];exact .inr ⟨λh=>hB h.2.2.1,rfl⟩
 rw[e];rcases zu (u:=qc o) (v:=c) (m:=7) with ⟨hC,e⟩ | ⟨hC,e⟩
 rotate_left
 ·rw[e];exact .inr ⟨λh=>hC h.2.2.2.1,rfl⟩
 rw[e,QJ];rcases zu (u:=qb o) (v:=i) (m:=MH o) with ⟨hI,e⟩ | ⟨hI,e⟩
 rotate_left
 ·simp;rw[e];exact .inr ⟨λh=>hI h.2.2.2.2,rfl⟩
 simp;rw[e];exact .inl ⟨⟨by omega,hA,hB,hC,hI⟩,rfl⟩
theorem QV{n m:Int}{x:DIn}(h:jb n m x) (hn:n<=4) (hm:m<=64):lH x.1 x.2.1 x.2.2.1 x.2.2.2.1 x.2.2.2.2=some (true,()):=by
 rcases Ti (o:=x.1) (a:=x.2.1) (b:=x.2.2.1) (c:=x.2.2.2.1) (i:=x.2.2.2.2) with ⟨_,e⟩ | ⟨g,_⟩
 ·exact e
 refine absurd ⟨h.op,?_,?_,?_,?_⟩ g
 ·obtain⟨p,q,r⟩:=h.a;by_cases hz:x.2.1=0
  ·exact .inl hz
  ·exact .inr ⟨by cases hu:qd x.1 with | true=>rfl | false=>exact absurd (r hu) hz,by omega,by omega⟩
 ·obtain⟨p,q,r⟩:=h.b;by_cases hz:x.2.2.1=0
  ·exact .inl hz
  ·exact .inr ⟨by simp_all,by omega,by omega⟩
 ·obtain⟨p,q,r⟩:=h.c;by_cases hz:x.2.2.2.1=0
  ·exact .inl hz
  ·exact .inr ⟨by simp_all,by omega,by omega⟩
 ·obtain⟨p,q,r⟩:=h.imm;by_cases hz:x.2.2.2.2=0
  ·exact .inl hz
  ·refine .inr ⟨by simp_all,by omega,?_⟩;unfold MH
   cases hj:mt x.1 with
   | true=>
    have:=h.jmp hj;show x.2.2.2.2<=63;omega
   | false=>
    by_cases h15:x.1=15
    ·have:=h.lea h15;rw[beq_iff_eq.2 h15];show x.2.2.2.2<=3;omega
    rw[oBF h15];by_cases h23:x.1=23
    ·rw[beq_iff_eq.2 h23];exact h.sys h23
    ·rw[oBF h23];exact q
theorem Mx{code:List DIn}{ss:List Int}{dt:List (List Int)}(hp:jE code ss dt):lJ code ss dt=some (0,()):=by
 have W2:=hp.sz.2.1;have hc:=hp.clen;have hl:=hp.len
 have e0:dW kE NN (dt,(dt.length:Int),0,code,ss,dt,())=some (.inr (dt,(dt.length:Int),(dt.length:Int),false,code,ss,dt,())):=by
  refine kO (st:=λk=>(dt,(dt.length:Int),(k:Int),code,ss,dt,())) (n:=dt.length) (by unfold NN;omega) ?_ ?_
  ·intro k hk;unfold kE;dsimp only;rw[oDT (show (k:Int) < dt.length by omega),dP];delta dQ;simp only[oCT,oBS];refine Ok.get (by omega) λx hx=>?_;refine Ok.get (by omega) λy hy=>?_;have:=hp.fit k x y hx hy;rw[oDF (show ¬ (x.length:Int) > y by omega),dU (x:=(k:Int)+1) (by omega) (by omega)];exact Ok.ret rfl
  ·unfold kE;dsimp only;rw[oDF (show ¬ (dt.length:Int) < dt.length by omega)];exact Ok.ret rfl
 have e3:dW kD NN (0,code,(code.length:Int),0,code,ss,dt,())=some (.inr (0,code,(code.length:Int),(code.length:Int),false,code,ss,dt,())):=by
  refine kO (st:=λk=>(0,code,(code.length:Int),(k:Int),code,ss,dt,())) (n:=code.length) (by unfold NN;omega) ?_ ?_
  ·intro k hk;obtain⟨x,hx⟩:∃x,code[k]?=some x:=⟨_,oGE hk⟩;have hi:=hp.ins x (dR hx);unfold kD;delta dQ;dsimp only;rw[oDT (show (k:Int) < code.length by omega),dP];simp only[oCT,oBS,show dO code k=some x from hx];rw[QV hi (by omega) (by omega)];rw[Fj,uV];simp only[oBS]
   have ZY:∀b:Bool,(x.1==15)=b->Ok (some (Sum.inl (β:=(Int×Unit)⊕(Int×(List DIn)×Int×Int×Bool×(List DIn)×(List (Int))×(List (List (Int)))×Unit)) ((0:Int),code,(code.length:Int),w64 ((k:Int)+1),code,ss,dt,()))) (·=.inl (0,code,(code.length:Int),((k+1:Nat):Int),code,ss,dt,())):=λ_ _=>by
    rw[dU (x:=(k:Int)+1) (by omega) (by omega)];exact Ok.ret rfl
   have h1:mt x.1=true->decide (x.2.2.2.2>=(code.length:Int))=false:=λh=>oDF (by have:=hi.jmp h;omega);have h2:x.1=15->decide (x.2.2.2.2>=(ss.length:Int))=false:=λh=>oDF (by have:=hi.lea h;omega);by_cases h15:x.1=15
   ·rw[beq_iff_eq.2 h15,h2 h15]
    cases hj:mt x.1 with
    | true=>rw[h1 hj];exact ZY _ rfl
    | false=>exact ZY _ rfl
   ·rw[oBF h15]
    cases hj:mt x.1 with
    | true=>rw[h1 hj];exact ZY _ rfl
    | false=>exact ZY _ rfl
  ·unfold kD;dsimp only;rw[oDF (show ¬ (code.length:Int) < code.length by omega)];exact Ok.ret rfl
 unfold lJ;rw[Fb];rcases Ht (ss:=ss) (by omega) with ⟨_,e⟩ | ⟨g,_⟩
 rotate_left
 ·exact absurd hp.sz g
 rw[e];delta dQ;simp only[oBS,oNT,oCF];rw[bne_eq_false_iff_eq.2 (show (dt.length:Int)=ss.length by rw[hl]),e0];dsimp only;rw[oBF (show (code.length:Int)≠0 by omega),oDF (show ¬ (code.length:Int) > 64 by omega),e3];rfl
def PrX(ss:List Int) (c:DCn):Prop:=
 ((c.1=0\/c.1=2)/\c.2.2.1=0/\c.2.2.2=0)\/(c.1=1/\c.2.1=0/\0<=c.2.2.1/\∃n,ss[c.2.2.1.toNat]?=some n/\0<=c.2.2.2/\c.2.2.2 < n)
theorem PrX.pr{ss:List Int}{c:DCn}(h:PrX ss c) (t:IP c):Pr ss c:=by
 rcases h with ⟨h1,h2,h3⟩ | h
 ·exact .inl ⟨h1,h2,h3,t⟩
 ·exact .inr h
theorem H5{ss:List Int}{r o:Int}(hl:ss.length<=1000):Cb (fR ss r o) (0<=r/\∃n,ss[r.toNat]?=some n/\0<=o/\o < n):=by
 unfold fR;delta dQ;dsimp only;by_cases h1:r>=0
 rotate_left
 ·rw[oDF h1];exact .inr ⟨λh=>h1 h.1,rfl⟩
 rw[oDT h1,oCT];obtain⟨j,rfl⟩:∃j:Nat,r=j:=⟨r.toNat,by omega⟩;rw[oTN];by_cases h2:(j:Int) < ss.length
 rotate_left
 ·rw[oDF h2];refine .inr ⟨λ⟨_,n,h,_⟩=>?_,rfl⟩;have:=(oGS h).1;omega
 rw[oDT h2,oCT];obtain⟨n,hn⟩:∃n,ss[j]?=some n:=⟨_,oGE (by omega)⟩;by_cases h3:o>=0
 rotate_left
 ·rw[oDF h3];exact .inr ⟨λ⟨_,n,_,h,_⟩=>h3 h,rfl⟩
 rw[oDT h3,oCT,dP];simp only[oBS,show dO ss j=some n from hn];by_cases h4:o < n
 ·rw[oDT h4];exact .inl ⟨⟨h1,n,hn,h3,h4⟩,rfl⟩
 ·rw[oDF h4];refine .inr ⟨λ⟨_,m,hm,_,h⟩=>?_,rfl⟩;rw[hn] at hm
  injection hm with hm
  omega
theorem z0{ss:List Int}(hl:ss.length<=1000) (c:DCn):Cb (fQ ss c.1 c.2.1 c.2.2.1 c.2.2.2) (PrX ss c):=by
 unfold fQ PrX;by_cases a0:c.1=0
 ·rw[beq_iff_eq.2 a0,oCT];by_cases a1:c.2.2.1=0
  ·rw[beq_iff_eq.2 a1,oCT];by_cases a2:c.2.2.2=0
   ·rw[beq_iff_eq.2 a2];exact .inl ⟨.inl ⟨.inl a0,a1,a2⟩,rfl⟩
   ·rw[oBF a2];exact .inr ⟨λh=>by rcases h with h | h<;>omega,rfl⟩
  ·rw[oBF a1];exact .inr ⟨λh=>by rcases h with h | h<;>omega,rfl⟩
 rw[oBF a0,oCF];by_cases b0:c.1=2
 ·rw[beq_iff_eq.2 b0,oCT];by_cases a1:c.2.2.1=0
  ·rw[beq_iff_eq.2 a1,oCT];by_cases a2:c.2.2.2=0
   ·rw[beq_iff_eq.2 a2];exact .inl ⟨.inl ⟨.inr b0,a1,a2⟩,rfl⟩
   ·rw[oBF a2];exact .inr ⟨λh=>by rcases h with h | h<;>omega,rfl⟩
  ·rw[oBF a1];exact .inr ⟨λh=>by rcases h with h | h<;>omega,rfl⟩
 rw[oBF b0,oCF];by_cases c0:c.1=1
 rotate_left
 ·rw[oBF c0];exact .inr ⟨λh=>by rcases h with h | h<;>omega,rfl⟩
 rw[beq_iff_eq.2 c0,oCT];by_cases d0:c.2.1=0
 rotate_left
 ·rw[oBF d0];exact .inr ⟨λh=>by rcases h with h | h<;>omega,rfl⟩
 rw[beq_iff_eq.2 d0,oCT];rcases H5 (ss:=ss) (r:=c.2.2.1) (o:=c.2.2.2) hl with ⟨g,e⟩ | ⟨g,e⟩
 ·rw[e];exact .inl ⟨.inr ⟨c0,d0,g⟩,rfl⟩
 ·rw[e];exact .inr ⟨λh=>by rcases h with h | h;omega;exact g h.2.2,rfl⟩
section
variable {code:List DIn} {ss bs:List Int} {dt:List (List Int)} {key:Int}
theorem L9(hl:ss.length<=1000) {l:List DCn}(h:l.length<=1000):Cb (fi l code ss dt) (∃c∈l,¬ PrX ss c):=by
 unfold fi gX;delta dQ;dsimp only
 rcases HA (f:=eW) (N:=NN) (bad:=λi=>.inl ((i:Int),())) (good:=.inr (l,code,ss,dt,(l.length:Int),(l.length:Int),false,())) (λi=>(l,code,ss,dt,(l.length:Int),(i:Int),())) (n:=l.length) (λi=>∀x,l[i]?=some x->PrX ss x) (by unfold NN;omega) (λi hi=>by
  obtain⟨x,hx⟩:∃x,l[i]?=some x:=⟨_,oGE hi⟩;unfold eW jX;dsimp only;rw[oDT (show (i:Int) < l.length by omega),dP];simp only[oCT,oBS,show dO l i=some x from hx];rw[dU (x:=(i:Int)+1) (by omega) (by omega),Fi];rcases z0 hl x with ⟨g,e⟩ | ⟨g,e⟩
  ·rw[e];exact .inl ⟨λy hy=>by rw[hx] at hy;injection hy with hy;exact hy ▸ g,rfl⟩
  ·rw[e]
   exact .inr ⟨λk=>g (k x hx),rfl⟩) (by
  unfold eW;dsimp only;rw[oDF (show ¬ (l.length:Int) < l.length by omega)]
  rfl) with ⟨g,e⟩ | ⟨g,i,e⟩
 ·rw[show dW eW NN (l,code,ss,dt,(l.length:Int),0,())=_ from e];exact .inr ⟨λ⟨c,hc,k⟩=>k (j0.1 g c hc),rfl⟩
 ·rw[show dW eW NN (l,code,ss,dt,(l.length:Int),0,())=_ from e];simp only[oBS];rw[oDT (show (i:Int)>=0 by omega)];exact .inl ⟨Classical.byContradiction λk=>g (j0.2 λx hx=>Classical.byContradiction λn=>k ⟨x,hx,n⟩),rfl⟩
def S9(ss:List Int) (R:List (List DCn)) (T:List DTs):Prop:=(∀l∈R,∀c∈l,PrX ss c)/\∀v∈T,∀c∈v.2.2.2.2.2.2.2,PrX ss c
theorem Rf(hl:ss.length<=1000) {R:List (List DCn)}{T:List DTs}(h:R.length<=1000) (h1:∀l∈R,l.length<=1000) (h2:T.length<=1000) (h3:∀v∈T,v.2.2.2.2.2.2.2.length<=1000):Cb (gd R T code ss dt) (¬ S9 ss R T):=by
 unfold gd gp gW;delta dQ;dsimp only
 rcases HA (f:=eV) (N:=NN) (bad:=λi=>.inl ((i:Int),())) (good:=.inr (R,code,ss,dt,(R.length:Int),(R.length:Int),false,())) (λi=>(R,code,ss,dt,(R.length:Int),(i:Int),())) (n:=R.length) (λi=>∀x,R[i]?=some x->∀c∈x,PrX ss c) (by unfold NN;omega) (λi hi=>by
  obtain⟨x,hx⟩:∃x,R[i]?=some x:=⟨_,oGE hi⟩;unfold eV iW;dsimp only;rw[oDT (show (i:Int) < R.length by omega),dP];simp only[oCT,oBS,show dO R i=some x from hx];rw[dU (x:=(i:Int)+1) (by omega) (by omega)];rcases L9 (code:=code) (dt:=dt) hl (h1 x (dR hx)) with ⟨⟨c,hc,g⟩,e⟩ | ⟨g,e⟩
  ·rw[e];exact .inr ⟨λk=>g (k x hx c hc),rfl⟩
  ·rw[e]
   exact .inl ⟨λy hy c hc=>by rw[hx] at hy;injection hy with hy;subst hy;exact Classical.byContradiction λn=>g ⟨c,hc,n⟩,rfl⟩) (by
  unfold eV;dsimp only;rw[oDF (show ¬ (R.length:Int) < R.length by omega)]
  rfl) with ⟨g,e⟩ | ⟨g,i,e⟩
 rotate_left
 ·rw[show dW eV NN (R,code,ss,dt,(R.length:Int),0,())=_ from e];simp only[oBS];rw[oDT (show (i:Int)>=0 by omega)];exact .inl ⟨λk=>g (j0.2 k.1),rfl⟩
 rw[show dW eV NN (R,code,ss,dt,(R.length:Int),0,())=_ from e];simp only[oBS];rw[oDF (show ¬ (-1:Int)>=0 by omega)];unfold gF ig;delta dQ;simp only[oCF]
 rcases HA (f:=eZ) (N:=NN) (bad:=λi=>.inl ((i:Int),())) (good:=.inr (T,code,ss,dt,(T.length:Int),(T.length:Int),false,())) (λi=>(T,code,ss,dt,(T.length:Int),(i:Int),())) (n:=T.length) (λi=>∀x,T[i]?=some x->∀c∈x.2.2.2.2.2.2.2,PrX ss c) (by unfold NN;omega) (λi hi=>by
  obtain⟨x,hx⟩:∃x,T[i]?=some x:=⟨_,oGE hi⟩;unfold eZ iV;dsimp only;rw[oDT (show (i:Int) < T.length by omega),dP];simp only[oCT,oBS,show dO T i=some x from hx];rw[dU (x:=(i:Int)+1) (by omega) (by omega)];rcases L9 (code:=code) (dt:=dt) hl (h3 x (dR hx)) with ⟨⟨c,hc,g⟩,e⟩ | ⟨g,e⟩
  ·rw[e];exact .inr ⟨λk=>g (k x hx c hc),rfl⟩
  ·rw[e]
   exact .inl ⟨λy hy c hc=>by rw[hx] at hy;injection hy with hy;subst hy;exact Classical.byContradiction λn=>g ⟨c,hc,n⟩,rfl⟩) (by
  unfold eZ;dsimp only;rw[oDF (show ¬ (T.length:Int) < T.length by omega)]
  rfl) with ⟨g2,e2⟩ | ⟨g2,i,e2⟩
 ·rw[show dW eZ NN (T,code,ss,dt,(T.length:Int),0,())=_ from e2];exact .inr ⟨λk=>k ⟨j0.1 g,j0.1 g2⟩,rfl⟩
 ·rw[show dW eZ NN (T,code,ss,dt,(T.length:Int),0,())=_ from e2];simp only[oBS];rw[oDT (show (i:Int)>=0 by omega)];exact .inl ⟨λk=>g2 (j0.2 k.2),rfl⟩
theorem SV(hl:ss.length<=1000) {R:List (List DCn)}{T:List DTs}{lst:List (List DCn)}(h:lst.length<=1000) (h1:∀l∈lst,l.length<=1000) :
 ((∀l∈lst,∀c∈l,PrX ss c)/\dW eH NN ((lst.length:Int),0,code,ss,dt,bs,key,R,T,(),0,(),(),(),lst,())=some (.inr ((lst.length:Int),(lst.length:Int),false,code,ss,dt,bs,key,R,T,(),0,(),(),(),lst,()))) \/
 ((¬ ∀l∈lst,∀c∈l,PrX ss c)/\dW eH NN ((lst.length:Int),0,code,ss,dt,bs,key,R,T,(),0,(),(),(),lst,())=some (.inl (false,(),0,(),(),(),()))):=by
 rcases HA (f:=eH) (N:=NN) (bad:=λ_=>.inl (false,(),0,(),(),(),())) (good:=.inr ((lst.length:Int),(lst.length:Int),false,code,ss,dt,bs,key,R,T,(),0,(),(),(),lst,())) (λi=>((lst.length:Int),(i:Int),code,ss,dt,bs,key,R,T,(),0,(),(),(),lst,())) (n:=lst.length) (λi=>∀x,lst[i]?=some x->∀c∈x,PrX ss c) (by unfold NN;omega) (λi hi=>by
  obtain⟨x,hx⟩:∃x,lst[i]?=some x:=⟨_,oGE hi⟩;have hxl:=h1 x (dR hx);unfold eH;delta dQ;dsimp only;rw[oDT (show (i:Int) < lst.length by omega),dP];simp only[oCT,oBS,show dO lst i=some x from hx]
  rcases HA (f:=eI) (N:=NN) (bad:=λ_=>.inl (false,(),0,(),(),(),())) (good:=.inr ((lst.length:Int),(i:Int),x,(x.length:Int),(x.length:Int),false,code,ss,dt,bs,key,R,T,(),0,(),(),(),lst,())) (λo=>((lst.length:Int),(i:Int),x,(x.length:Int),(o:Int),code,ss,dt,bs,key,R,T,(),0,(),(),(),lst,())) (n:=x.length) (λo=>∀c,x[o]?=some c->PrX ss c) (by unfold NN;omega) (λo ho=>by
   obtain⟨c,hc⟩:∃c,x[o]?=some c:=⟨_,oGE ho⟩;unfold eI;dsimp only;rw[oDT (show (o:Int) < x.length by omega),dP];simp only[oCT,oBS,show dO x o=some c from hc];rw[dU (x:=(o:Int)+1) (by omega) (by omega)];rcases z0 hl c with ⟨g,e⟩ | ⟨g,e⟩
   ·rw[e];exact .inl ⟨λy hy=>by rw[hc] at hy;injection hy with hy;exact hy ▸ g,rfl⟩
   ·rw[e]
    exact .inr ⟨λk=>g (k c hc),rfl⟩) (by
   unfold eI;dsimp only;rw[oDF (show ¬ (x.length:Int) < x.length by omega)]
   rfl) with ⟨g,e⟩ | ⟨g,o,e⟩
  ·rw[show dW eI NN ((lst.length:Int),(i:Int),x,(x.length:Int),0,code,ss,dt,bs,key,R,T,(),0,(),(),(),lst,())=_ from e];dsimp only;rw[dU (x:=(i:Int)+1) (by omega) (by omega)];exact .inl ⟨λy hy c hc=>by rw[hx] at hy;injection hy with hy;subst hy;exact j0.1 g c hc,rfl⟩
  ·rw[show dW eI NN ((lst.length:Int),(i:Int),x,(x.length:Int),0,code,ss,dt,bs,key,R,T,(),0,(),(),(),lst,())=_ from e]
   exact .inr ⟨λk=>g (j0.2 λc hc=>k x hx c hc),rfl⟩) (by
  unfold eH;delta dQ;dsimp only;rw[oDF (show ¬ (lst.length:Int) < lst.length by omega)]
  rfl) with ⟨g,e⟩ | ⟨g,i,e⟩
 ·exact .inl ⟨j0.1 g,e⟩
 ·exact .inr ⟨λk=>g (j0.2 k),e⟩
end
theorem AZ{a:List DCe}(h:a.length<=1000):kM a a=some (true,()):=by
 have e:dW lF NN (a,a,(a.length:Int),0,())=some (.inr (a,a,(a.length:Int),(a.length:Int),false,())):=by
  refine kO (st:=λk=>(a,a,(a.length:Int),(k:Int),())) (n:=a.length) (by unfold NN;omega) ?_ ?_
  ·intro k hk;unfold lF;dsimp only;rw[oDT (show (k:Int) < a.length by omega),dP];simp only[oCT,oBS,show dO a k=some a[k] from oGE hk,BEq.rfl,Bool.and_self,oNT,oCF];rw[dU (x:=(k:Int)+1) (by omega) (by omega)];exact Ok.ret rfl
  ·unfold lF;dsimp only;rw[oDF (show ¬ (a.length:Int) < a.length by omega)];exact Ok.ret rfl
 unfold kM;delta dQ;dsimp only;rw[e];simp only[bne_self_eq_false,oCF]
def Sh4(ls:List DLn):Prop:=ls.length<=4/\∀x∈ls,x.2.2.length<=4
theorem QN{cs:List DCe}{ls:List DLn}(h:cs.length<=1000) (hs:Sh4 ls):po cs ls cs ls=some (true,()):=by
 have e:dW lA NN ((ls.length:Int),0,cs,ls,cs,ls,())=some (.inr ((ls.length:Int),(ls.length:Int),false,cs,ls,cs,ls,())):=by
  have h4:=hs.1;refine kO (st:=λk=>((ls.length:Int),(k:Int),cs,ls,cs,ls,())) (n:=ls.length) (by unfold NN;omega) ?_ ?_
  ·intro k hk;unfold lA;dsimp only;have hx:ls[k]?=some ls[k]:=oGE hk;have hl:=hs.2 _ (dR hx);rw[oDT (show (k:Int) < ls.length by omega),dP];simp only[oCT,oBS,show dO ls k=some ls[k] from hx,BEq.rfl,bne_self_eq_false,oNT,oCF];rw[AZ (by omega)];simp only[oBS,oNT,oCF];rw[dU (x:=(k:Int)+1) (by omega) (by omega)];exact Ok.ret rfl
  ·unfold lA;dsimp only;rw[oDF (show ¬ (ls.length:Int) < ls.length by omega)];exact Ok.ret rfl
 unfold po;rw[AZ h];delta dQ;simp only[oBS,oNT,oCF,bne_self_eq_false];rw[e]
theorem kV.sh4{K:Int->Prop}{cs:List DCe}{ls:List DLn}(h:kV K cs ls):Sh4 ls:=⟨by rw[h.llen];omega,λx hx=>by
 obtain⟨i,hi⟩:=List.getElem?_of_mem hx
 exact (h.lines i x hi).len⟩
theorem RC{x:DTh}(h:x.2.1.length<=1000):pm x.1 x.2.1 x.2.2.1 x.2.2.2.1 x.2.2.2.2.1 x.2.2.2.2.2.1 x.2.2.2.2.2.2.1 x.2.2.2.2.2.2.2 x.1 x.2.1 x.2.2.1 x.2.2.2.1 x.2.2.2.2.1 x.2.2.2.2.2.1 x.2.2.2.2.2.2.1 x.2.2.2.2.2.2.2=some (true,()):=by
 unfold pm;rw[AZ h];simp only[oBS,BEq.rfl,oCT]
theorem QQ{l:List Int}{key:Int}(h:l.length<=1000):pu l key l key=some (true,()):=by
 have e:dW lB NN ((l.length:Int),0,l,key,l,key,())=some (.inr ((l.length:Int),(l.length:Int),false,l,key,l,key,())):=by
  refine kO (st:=λk=>((l.length:Int),(k:Int),l,key,l,key,())) (n:=l.length) (by unfold NN;omega) ?_ ?_
  ·intro k hk;unfold lB;dsimp only;rw[oDT (show (k:Int) < l.length by omega),dP];simp only[oCT,oBS,show dO l k=some l[k] from oGE hk,bne_self_eq_false,oCF];rw[dU (x:=(k:Int)+1) (by omega) (by omega)];exact Ok.ret rfl
  ·unfold lB;dsimp only;rw[oDF (show ¬ (l.length:Int) < l.length by omega)];exact Ok.ret rfl
 unfold pu;delta dQ;dsimp only;rw[e];simp only[bne_self_eq_false,oCF]
structure EO (bs:List Int) (cs:List DCe) (ls:List DLn) (ts:List DTh):Prop where
 bl:bs.length<=1000
 cl:cs.length<=1000
 ll:Sh4 ls
 tl:ts.length<=1000
 rl:∀t∈ts,t.2.1.length<=1000
theorem EO.nil:EO [] [] [] []:=⟨by simp,by simp,⟨by simp,eG⟩,by simp,eG⟩
theorem Pw{n:Int}{ss bs:List Int}{cs:List DCe}{ls:List DLn}{ts:List DTh}(h:MOk n ss bs cs ls ts):EO bs cs ls ts:=⟨by have:=h.lay.2.1;have:=h.lay.1.2.1;omega,by rw[h.mem.clen];omega,h.mem.sh4,by rw[h.tlen];omega,λt ht=>by rw[(h.thr t ht).len];omega⟩
theorem ON{bs:List Int}{key:Int}{cs:List DCe}{ls:List DLn}{ts:List DTh}(h:EO bs cs ls ts):pj bs key cs ls ts bs key cs ls ts=some (true,()):=by
 have h4:=h.tl
 have e:dW lq NN ((ts.length:Int),0,bs,key,cs,ls,ts,bs,key,cs,ls,ts,())=some (.inr ((ts.length:Int),(ts.length:Int),false,bs,key,cs,ls,ts,bs,key,cs,ls,ts,())):=by
  refine kO (st:=λk=>((ts.length:Int),(k:Int),bs,key,cs,ls,ts,bs,key,cs,ls,ts,())) (n:=ts.length) (by unfold NN;omega) ?_ ?_
  ·intro k hk;unfold lq;dsimp only;have hx:ts[k]?=some ts[k]:=oGE hk;rw[oDT (show (k:Int) < ts.length by omega),dP];simp only[oCT,oBS,show dO ts k=some ts[k] from hx];rw[RC (h.rl _ (dR hx))];simp only[oBS,oNT,oCF];rw[dU (x:=(k:Int)+1) (by omega) (by omega)];exact Ok.ret rfl
  ·unfold lq;dsimp only;rw[oDF (show ¬ (ts.length:Int) < ts.length by omega)];exact Ok.ret rfl
 unfold pj;rw[QQ h.bl,QN h.cl h.ll];delta dQ;simp only[oBS,oNT,oCF,bne_self_eq_false];rw[e]
def vb(v:DTs):List Int:=[wk .u8 v.1,wk .u8 v.2.1,wk .u8 v.2.2.2.2.2.1]++(be 6 v.2.2.1++(be 2 (w64 (v.2.2.2.1+1))++(be 2 (w64 (v.2.2.2.2.1+1))++(be 2 (wk .i64 v.2.2.2.2.2.2.1)++lb v.2.2.2.2.2.2.2))))
def Ts(l:List DCn):Prop:=l≠[]/\(∀c∈l,l7 c)/\(l.length:Int)<=32
def OkB(R:List (List DCn)) (T:List DTs):Prop:=(1<=R.length/\R.length<=4)/\JP T/\∀l∈R,Ts l
def sb(R:List (List DCn)) (T:List DTs):List Int:=([(R.length:Int)]++R.flatMap lb)++T.flatMap vb
def NG(o:Option (List Int×Int×Unit)) (R:List (List DCn)) (T:List DTs):Prop:=(OkB R T/\o=some (sb R T,0,()))\/(¬ OkB R T/\o=some ([],1,()))
theorem NG.same{o o':Option (List Int×Int×Unit)}{R:List (List DCn)}{T:List DTs}(h:NG o R T) (h':NG o' R T):o=o':=by
 rcases h with ⟨h,e⟩ | ⟨h,e⟩<;>rcases h' with ⟨h',e'⟩ | ⟨h',e'⟩
 ·rw[e,e']
 ·simp_all
 ·simp_all
 ·rw[e,e']
structure SB (R:List (List DCn)) (T:List DTs):Prop where
 r:R.length<=8
 rl:∀l∈R,l.length<=40
 rc:∀l∈R,∀c∈l,IP c
 t:T.length<=8
 tl:∀v∈T,v.2.2.2.2.2.2.2.length<=40
 tc:∀v∈T,∀c∈v.2.2.2.2.2.2.2,IP c
theorem uR{α:Type}{l:List α}{i:Nat}{f:α->α}{a:α}(h:a∈l.modify i f):a∈l\/∃x∈l,a=f x:=by
 have ⟨j,hj⟩:=List.getElem?_of_mem h
 grind
theorem Ac{α:Type}{l:List α}{i n:Nat}{a:α}(h:a∈kU l i n):a∈l:=List.mem_of_mem_drop (List.mem_of_mem_take h)
theorem SB.modT{R:List (List DCn)}{T:List DTs}(h:SB R T) {k:Nat}{f:DTs->DTs}(h1:∀v∈T,(f v).2.2.2.2.2.2.2.length<=40) (h2:∀v∈T,∀c∈(f v).2.2.2.2.2.2.2,IP c):SB R (T.modify k f):=by
 refine⟨h.r,h.rl,h.rc,by rw[oLM];exact h.t,λv hv=>?_,λv hv=>?_⟩
 ·rcases uR hv with g | ⟨x,g,rfl⟩
  ·exact h.tl v g
  ·simp_all
 ·rcases uR hv with g | ⟨x,g,rfl⟩
  ·exact h.tc v g
  ·exact h2 x g
theorem SB.modR{R:List (List DCn)}{T:List DTs}(h:SB R T) {k:Nat}{f:List DCn->List DCn}(h1:∀v∈R,(f v).length<=40) (h2:∀v∈R,∀c∈f v,IP c):SB (R.modify k f) T:=by
 refine⟨by rw[oLM];exact h.r,λv hv=>?_,λv hv=>?_,h.t,h.tl,h.tc⟩
 ·rcases uR hv with g | ⟨x,g,rfl⟩
  ·exact h.rl v g
  ·simp_all
 ·rcases uR hv with g | ⟨x,g,rfl⟩
  ·exact h.rc v g
  ·exact h2 x g
theorem Hn{α:Type}{l:List α}{i n:Nat}:(kU l i n).length<=l.length:=by
 unfold kU;rw[oLT,List.length_drop];omega
theorem SB.winR{R:List (List DCn)}{T:List DTs}(h:SB R T) {k n:Nat}:SB (kU R k n) T:=
 ⟨Nat.le_trans Hn h.r,λv hv=>h.rl v (Ac hv),λv hv=>h.rc v (Ac hv),h.t,h.tl,h.tc⟩
theorem SB.winT{R:List (List DCn)}{T:List DTs}(h:SB R T) {k n:Nat}:SB R (kU T k n):=
 ⟨h.r,h.rl,h.rc,Nat.le_trans Hn h.t,λv hv=>h.tl v (Ac hv),λv hv=>h.tc v (Ac hv)⟩
theorem EZ{α:Type}{l:List α}{i:Nat}{x:α}(h:l[i]?=some x):l.take (i+1)=l.take i++[x]:=by
 rw[List.take_add_one,h];rfl
theorem Lo{R:List (List DCn)}{T:List DTs}{YX at_ XJ:Int}(h:SB R T) (r1:1<=R.length) (rl1:∀l∈R,1<=l.length) (rl:∀l∈R,l.length<=32) (t4:T.length=4) (tl:∀v∈T,v.2.2.2.2.2.2.2.length=8) (h0:ze YX) (h1:ze at_) (h2:ze XJ) :
 Ok (mI R T YX at_ XJ) λr=>∃R' T',r=(R',T',())/\SB R' T':=by
 have hr8:=h.r
 have e1:dW iz NN (YX,at_,XJ,R,(R.length:Int),0,R,T,(),(),[],(),())=some (YX,at_,XJ,R,(R.length:Int),(R.length:Int),false,R,T,(),(),R,(),()):=by
  have:=kO (f:=iz) (N:=NN) (st:=λr=>(YX,at_,XJ,R,(R.length:Int),(r:Int),R,T,(),(),R.take r,(),())) (n:=R.length) (t:=(YX,at_,XJ,R,(R.length:Int),(R.length:Int),false,R,T,(),(),R,(),())) (by unfold NN;omega) ?_ ?_
  ·simpa using this
  ·intro r hr;obtain⟨l,hl⟩:∃l,R[r]?=some l:=⟨_,oGE hr⟩;have:=h.rl l (dR hl);unfold iz;dsimp only;rw[oDT (show (r:Int) < R.length by omega),dP];simp only[oCT,oBS,show dO R r=some l from hl];rw[kH (by decide) (by omega),kH (by decide) (by simp;omega)];simp only[oCT];rw[dU (x:=(r:Int)+1) (by omega) (by omega),EZ hl];exact Ok.ret rfl
  ·unfold iz;dsimp only;rw[oDF (show ¬ (R.length:Int) < R.length by omega),List.take_length];exact Ok.ret rfl
 have e2:dW iy NN (YX,at_,XJ,T,(T.length:Int),0,R,T,(),(),R,[],())=some (YX,at_,XJ,T,(T.length:Int),(T.length:Int),false,R,T,(),(),R,T,()):=by
  have:=kO (f:=iy) (N:=NN) (st:=λr=>(YX,at_,XJ,T,(T.length:Int),(r:Int),R,T,(),(),R,T.take r,())) (n:=T.length) (t:=(YX,at_,XJ,T,(T.length:Int),(T.length:Int),false,R,T,(),(),R,T,())) (by unfold NN;omega) ?_ ?_
  ·simpa using this
  ·intro r hr;obtain⟨v,hv⟩:∃v,T[r]?=some v:=⟨_,oGE hr⟩;have:=h.tl v (dR hv);unfold iy;dsimp only;rw[oDT (show (r:Int) < T.length by omega),dP];simp only[oCT,oBS,show dO T r=some v from hv];rw[kH (by decide) (by omega),kH (by decide) (by simp;omega)];simp only[oCT];rw[dU (x:=(r:Int)+1) (by omega) (by omega),EZ hv];exact Ok.ret rfl
  ·unfold iy;dsimp only;rw[oDF (show ¬ (T.length:Int) < T.length by omega),List.take_length];exact Ok.ret rfl
 unfold mI;delta dQ;dsimp only;rw[e1];simp only[oBS];rw[e2];simp only[oBS];rw[sJ h1 (by omega) (by omega)];simp only[oBS];rw[sJ h2 (b:=11) (by decide) (by decide)];simp only[oBS];refine Ok.nat (by omega) λq hq=>?_;refine Ok.get (by simp;omega) λz hz=>?_;obtain⟨VL,hVL⟩:∃VL:List Int,VL=[-2,-1,0,1,4,5,6,7,255,256,1099511627777]:=⟨_,rfl⟩;rw[<- hVL] at hz ⊢;rw[show dO VL q=some z from hz];simp only[oBS];have m0:=Int.emod_nonneg at_ (show (T.length:Int)≠0 by omega);have m1:=Int.emod_lt_of_pos at_ (show 0 < (T.length:Int) by omega);obtain⟨k,hk⟩:∃k:Nat,at_ % (T.length:Int)=k:=⟨(at_ % (T.length:Int)).toNat,by omega⟩
 have hkl:k < T.length:=by omega
 obtain⟨v,hv⟩:∃v,T[k]?=some v:=⟨_,oGE hkl⟩;obtain⟨l,hl⟩:∃l,R[0]?=some l:=⟨_,oGE (by omega)⟩;have WQ:=rl l (dR hl);have Xt:=rl1 l (dR hl);have hv8:=tl v (dR hv);have gv:dO T k=some v:=hv;have gl:dO R 0=some l:=hl;rw[hk,sJ h0 (b:=10) (by decide) (by decide)];obtain⟨x,hx⟩:∃x,YX % 10=x:=⟨_,rfl⟩
 have hx0:0<=x/\x < 10:=by omega
 rw[hx];simp only[oBS,dP,gv,gl]
 rcases (show x=0\/x=1\/x=2\/x=3\/x=4\/x=5\/x=6\/x=7\/x=8\/x=9 by omega) with rfl | rfl | rfl | rfl | rfl | rfl | rfl | rfl | rfl | rfl<;>simp only[Int.reduceBEq,BEq.rfl,oCT,oCF]
 ·exact Ok.ret ⟨_,_,rfl,h.modT (λv hv=>h.tl v hv) λv hv=>h.tc v hv⟩
 ·exact Ok.ret ⟨_,_,rfl,h.modT (λv hv=>h.tl v hv) λv hv=>h.tc v hv⟩
 ·exact Ok.ret ⟨_,_,rfl,h.modT (λv hv=>h.tl v hv) λv hv=>h.tc v hv⟩
 ·exact Ok.ret ⟨_,_,rfl,h.modT (λv hv=>h.tl v hv) λv hv=>h.tc v hv⟩
 ·rw[show ir 1 v.2.2.2.2.2.2.2.length v.2.2.2.2.2.2.2.length=true by unfold ir;simp;omega];simp only[oCT];exact Ok.ret ⟨_,_,rfl,h.modT (λ_ _=>Nat.le_trans Hn (h.tl v (dR hv))) λ_ _ c hc=>h.tc v (dR hv) c (Ac hc)⟩
 ·rw[show ir 1 R.length R.length=true by unfold ir;simp;omega];simp only[oCT];exact Ok.ret ⟨_,_,rfl,h.winR⟩
 ·rw[kH (by decide) (by simp;omega)];simp only[oCT];refine Ok.ret ⟨_,_,rfl,h.modR (λ_ _=>by show (l++[_]).length<=40;simp;omega) λ_ _ c hc=>?_⟩;rcases List.mem_append.1 hc with g | g
  ·exact h.rc l (dR hl) c g
  ·rw[List.mem_singleton.1 g];show (0:Int)<=0/\(0:Int)<=65535;decide
 ·rw[sJ h1 (b:=(l.length:Int)) (by omega) (by omega),sJ h2 (b:=4) (by decide) (by decide),sJ h2 (b:=6) (by decide) (by decide),sJ h1 (b:=36) (by decide) (by decide)];have n0:=Int.emod_nonneg at_ (show (l.length:Int)≠0 by omega);have n1:=Int.emod_lt_of_pos at_ (show 0 < (l.length:Int) by omega);obtain⟨j,hj⟩:∃j:Nat,at_ % (l.length:Int)=j:=⟨(at_ % (l.length:Int)).toNat,by omega⟩
  have hjl:j < l.length:=by omega
  obtain⟨c,hc⟩:∃c,l[j]?=some c:=⟨_,oGE hjl⟩;rw[hj];simp only[oBS,dP,show dO l j=some c from hc];refine Ok.ret ⟨_,_,rfl,h.modR (λy hy=>by rw[oLM];exact h.rl y hy) λy hy c hc=>?_⟩;rcases uR hc with g | ⟨x,g,rfl⟩
  ·exact h.rc y hy c g
  ·show (0:Int)<=0/\(0:Int)<=65535;decide
 ·rw[show ir 1 T.length T.length=true by unfold ir;simp;omega];simp only[oCT];exact Ok.ret ⟨_,_,rfl,h.winT⟩
 ·obtain⟨c,hc⟩:∃c,v.2.2.2.2.2.2.2[0]?=some c:=⟨_,oGE (by omega)⟩;rw[sJ h2 (b:=5) (by decide) (by decide),sJ h1 (b:=36) (by decide) (by decide)];simp only[oBS,show dO v.2.2.2.2.2.2.2 0=some c from hc];refine Ok.ret ⟨_,_,rfl,h.modT (λy hy=>by show (List.modify _ _ _).length<=40;rw[oLM];exact h.tl y hy) λy hy c hc=>?_⟩;rcases uR hc with g | ⟨x,g,rfl⟩
  ·exact h.tc y hy c g
  ·show (0:Int)<=0/\(0:Int)<=65535;decide
theorem K7:qY=some (true,()):=by kernel_rfl
theorem Pr.t{ss:List Int}{c:DCn}(h:Pr ss c):IP c:=by
 rcases h with ⟨_,_,_,h⟩ | ⟨_,h,_⟩
 ·exact h
 ·exact⟨by omega,by omega⟩
theorem CU.sb{n:Int}{ss:List Int}{R:List (List DCn)}{T:List DTs}(h:CU n ss R T) (hz:xG ss):SB R T/\1<=R.length/\(∀l∈R,1<=l.length)/\(∀l∈R,l.length<=32)/\∀v∈T,v.2.2.2.2.2.2.2.length=8:=by
 have h1:=hz.1;have h2:=hz.2.1;have h3:=h.rlen;have h4:=h.vlen
 have hl:∀l∈R,1<=l.length/\l.length<=32:=by
  intro l hl;have ⟨j,hj⟩:=List.getElem?_of_mem hl;have hjl:=(oGS hj).1;have ⟨z,X4⟩:∃z,ss[j]?=some z:=⟨_,oGE (by omega)⟩;have e:=h.fit j l z hj X4;have:=hz.2.2 z (dR X4);omega
 refine⟨⟨by omega,λl x=>by grind,λl x c hc=>(h.cells l x c hc).t,by omega,λv x=>by rw[(h.views v x).len];decide,λv x c hc=>((h.views v x).regs c hc).t⟩,by omega,λl x=>(hl l x).1,λl x=>(hl l x).2,λv x=>(h.views v x).len⟩
theorem Lq{ss bs:List Int}{key:Int}{rg:List (List DCn)}{vs:List DTs}(hb:bs.length<=1000) (h:StW ss rg vs):EO bs (EQ bs key rg rg.length) eq (vs.map (thF bs key)):=
 ⟨hb,by rw[zq];omega,⟨by decide,by decide⟩,by rw[List.length_map,h.vlen];omega,λt ht=>by
  obtain⟨v,hv,rfl⟩:=List.mem_map.1 ht;show ((uc v).map (rY bs key)).length<=1000;rw[List.length_map];unfold uc;rw[h.len v hv]
  omega⟩
theorem OU{code:List DIn}{ss bs:List Int}{dt:List (List Int)}{key:Int}{R:List (List DCn)}{T:List DTs}(hp:jE code ss dt) (h:SB R T) (hb:bs.length<=1000) (hi:∀b∈bs,ze b) :
 ∃b0 k0 cs ls ts ok,fD code ss dt bs key R T=some (b0,k0,cs,ls,ts,ok,())/\fF code ss dt bs key R T=some (b0,k0,cs,ls,ts,ok,())/\EO b0 cs ls ts:=by
 have hz:=hp.sz
 have hss:ss.length<=1000:=by have:=hz.2.1;omega
 have a1:R.length<=1000:=by have:=h.r;omega
 have a2:∀l∈R,l.length<=1000:=λl hl=>by have:=h.rl l hl;omega
 have a3:T.length<=1000:=by have:=h.t;omega
 have a4:∀v∈T,v.2.2.2.2.2.2.2.length<=1000:=λv hv=>by have:=h.tl v hv;omega
 have vC:=Ho (Mx hp) hz a1 a2 a3 a4;have v13:=EV (zB hp) hz a1 a2 a3 a4;have lC:=Th (key:=key) hb hss hi;have l03:=SN (key:=key) hb hss hi;by_cases hv:SZ ss R T
 rotate_left
 ·refine⟨[],0,[],[],[],false,?_,?_,EO.nil⟩
  ·unfold fD;rw[(vC.resolve_left λg=>hv g.1).2];rfl
  ·unfold fF;rw[(v13.resolve_left λg=>hv g.1).2];rfl
 have eC:=(vC.resolve_right λg=>g.1 hv).2;have e13:=(v13.resolve_right λg=>g.1 hv).2;by_cases hL:LV bs ss
 rotate_left
 ·refine⟨[],0,[],[],[],false,?_,?_,EO.nil⟩
  ·unfold fD;rw[eC];simp only[oBS,oNT,oCF];rw[(lC.resolve_left λg=>hL g.1).2];rfl
  ·unfold fF;rw[e13];simp only[oBS,oNT,oCF];rw[(l03.resolve_left λg=>hL g.1).2];rfl
 have eL:=(lC.resolve_right λg=>g.1 hL).2;have eL3:=(l03.resolve_right λg=>g.1 hL).2;have aC:=Rf (code:=code) (dt:=dt) hss a1 a2 a3 a4;by_cases hA:S9 ss R T
 rotate_left
 ·refine⟨[],0,[],[],[],false,?_,?_,EO.nil⟩
  ·unfold fD;rw[eC];simp only[oBS,oNT,oCF];rw[eL];simp only[oBS,oNT,oCF];rw[(aC.resolve_right λg=>g.1 hA).2];rfl
  ·unfold fF;rw[e13];simp only[oBS,oNT,oCF];rw[eL3];simp only[oBS,oNT,oCF];rw[QP a1 a3];delta dQ;simp only[oBS]
   rcases SV (code:=code) (bs:=bs) (dt:=dt) (key:=key) hss (R:=R) (T:=T) (lst:=R++T.map (λv=>v.2.2.2.2.2.2.2)) (by rw[List.length_append,List.length_map];have:=h.r;have:=h.t;omega) (λl hl=>by
    rcases List.mem_append.1 hl with hl | hl
    ·exact a2 l hl
    ·obtain⟨v,hv,rfl⟩:=List.mem_map.1 hl
     exact a4 v hv) with ⟨g,_⟩ | ⟨_,e⟩
   ·exact absurd ⟨λl hl=>g l (List.mem_append_left _ hl),λv hv=>g _ (List.mem_append_right _ (List.mem_map_of_mem hv))⟩ hA
   ·rw[e]
 have hW:StW ss R T:=⟨hv.1,λj x z hx X4=>by
  have hj:=(oGS hx).1;have:=(hv.2.2 j hj x hx).1;rw[ef X4] at this
  exact this,λx hx c hc=>(hA.1 x hx c hc).pr (h.rc x hx c hc),hv.2.1.1,λv Uq=>(hv.2.1.2 v Uq).2.2.2.2.2.2.1,λv Uq c hc=>(hA.2 v Uq c hc).pr (h.tc v Uq c hc)⟩
 obtain⟨_,c1,rfl⟩:=OT (dt:=dt) (code:=code) (key:=key) hp hL hW eC eL (aC.resolve_left λg=>g.1 hA).2;obtain⟨_,c2,rfl⟩:=OS (dt:=dt) (code:=code) (key:=key) hp hL hW e13;exact⟨_,_,_,_,_,_,c1,c2,Lq hb hW⟩
theorem LV.is64{bs ss:List Int}(h:LV bs ss):bs.length<=1000/\∀b∈bs,ze b:=by
 have h1:=h.1.2.1;have h2:=h.2.1;refine⟨by omega,λb hb=>?_⟩;obtain⟨i,hi⟩:=List.getElem?_of_mem hb;have hl:=(oGS hi).1;obtain⟨b',z,g,_,_,_,g0,g1⟩:=h.at_ (r:=i) (by omega);rw[hi] at g
 injection g with g
 subst g;exact⟨by omega,by omega⟩
def Lx(x:List Int×Int):Prop:=x.1.length<=1000/\∀b∈x.1,ze b
theorem KL{code:List DIn}{ss:List Int}{dt:List (List Int)}{R:List (List DCn)}{T:List DTs}(hp:jE code ss dt) (h:SB R T) {i:Int}{a7:List Int}{a8:Int}{a9:List DCe}{a10:List DLn}{a11:List DTh}{a12:List Int}{a13:Int}{a14:List Int}{a15:Int}{xs:List (List (List DCn)×List DTs)}{ys:List (List Int×Int)}(hy:ys.length=3) (WU:∀y∈ys,Lx y) :
 dW ft NN (2,i,3,0,code,ss,dt,a7,a8,a9,a10,a11,a12,a13,a14,a15,R,T,xs,ys,())=some (.inr (2,i,3,3,false,code,ss,dt,a7,a8,a9,a10,a11,a12,a13,a14,a15,R,T,xs,ys,())):=by
 refine kO (f:=ft) (N:=NN) (st:=λj=>(2,i,3,(j:Int),code,ss,dt,a7,a8,a9,a10,a11,a12,a13,a14,a15,R,T,xs,ys,())) (n:=3) (by unfold NN;omega) ?_ ?_
 ·intro j hj;obtain⟨y,hyj⟩:∃y,ys[j]?=some y:=⟨_,oGE (by omega)⟩;obtain⟨y1,y2⟩:=WU y (dR hyj);obtain⟨b0,k0,cs,ls,ts,ok,e1,e2,hs⟩:=OU (key:=y.2) hp h y1 y2;unfold ft;dsimp only;rw[oDT (show (j:Int) < 3 by omega),dP];simp only[oCT,oBS,show dO ys j=some y from hyj];rw[e1,oBS];dsimp only;rw[e2,oBS];dsimp only;rw[ON hs];simp only[BEq.rfl,oBS,oNT,oCF];rw[dU (by omega) (by omega)];exact Ok.ret rfl
 ·unfold ft;exact Ok.ret rfl
theorem injects_law{l:List Int}{seed YX at_ XJ:Int}(hl:∀x∈l,ze x) (hm:l.length<=maxLen) (hs:ze seed) (h0:ze YX) (h1:ze at_) (h2:ze XJ):iA l seed YX at_ XJ=some (true,()):=by
 refine fk ?_;unfold iA;refine (KC (EU hl hm)).bind ?_;rintro _ ⟨code,ss,dt,bs,key,cs,ls,ts,k',rfl,hp,X6,hM,hd⟩;dsimp only;rw[IX hM];simp only[oBS];obtain⟨hS,s1,s2,s3,s4⟩:=(IW (key:=key) hM).sb hp.sz;obtain⟨R,hR⟩:∃R,R=Fc bs ss key cs ls:=⟨_,rfl⟩;obtain⟨T,hT⟩:∃T,T=ts.map (wM bs ss key):=⟨_,rfl⟩;rw[<- hR,<- hT] at hS;rw[<- hR] at s1 s2 s3;rw[<- hT] at s4;rw[<- hR,<- hT]
 have hT4:T.length=4:=by rw[hT,List.length_map];exact hM.tlen
 rw[sJ hs (by decide) (by decide),oBS];dsimp only;have hsd:=Int.emod_nonneg seed (show (1048576:Int)≠0 by decide);have hsd2:=Int.emod_lt_of_pos seed (show (0:Int) < 1048576 by decide);refine (MJ hp.sz hsd (by omega)).bind ?_;rintro _ ⟨V8,rfl,XE⟩;dsimp only;obtain⟨ys,WU⟩:∃ys,ys=mkB ss (seed % 1048576):=⟨_,rfl⟩;have hLy:LV ys ss:=WU ▸ PR hp.sz hsd;rw[<- WU];obtain⟨y1,y2⟩:=hLy.is64;refine dL (dY (by omega)) ?_;rw[show List.append [] ys=ys from rfl,sJ h2 (by decide) (by decide),oBS];dsimp only;have hb0:=Int.emod_nonneg XJ (show (600:Int)≠0 by decide);have hb1:=Int.emod_lt_of_pos XJ (show (0:Int) < 600 by decide);rw[dU (by omega) (by omega)];obtain⟨y0,hy0⟩:∃y0,ys[0]?=some y0:=⟨_,oGE (by have:=hLy.2.1;have:=hp.sz.1;omega)⟩;simp only[show dO ys 0=some y0 from hy0,oBS];refine (Lo hS s1 s2 s3 hT4 s4 h0 h1 h2).bind ?_;rintro _ ⟨R',T',rfl,hB⟩;dsimp only
 have hbad:Lx (ys.modify 0 λ_=>XJ % 600 - 20,0):=by
  refine⟨by rw[oLM];exact y1,λb hb=>?_⟩;rcases uR hb with g | ⟨_,_,rfl⟩
  ·exact y2 b g
  ·exact⟨by omega,by omega⟩
 obtain⟨bad,hbd⟩:∃bad,bad=ys.modify 0 λ_=>XJ % 600 - 20:=⟨_,rfl⟩;rw[<- hbd] at hbad ⊢;obtain⟨xs,Vn⟩:∃xs,xs=[(R,T),(R',T')]:=⟨_,rfl⟩;rw[<- Vn]
 have e2:dQ xs.length=2:=by rw[Vn];rfl
 rw[e2];obtain⟨m1,m2⟩:=hM.lay.is64
 have e:=kO (f:=fr) (N:=NN) (st:=λi=>(2,(i:Int),code,ss,dt,bs,key,cs,ls,ts,ys,V8,bad,0,xs,())) (n:=2) (t:=(2,2,false,code,ss,dt,bs,key,cs,ls,ts,ys,V8,bad,0,xs,())) (by unfold NN;omega) (λi hi=>by
  obtain⟨R2,T2,hx,hS2⟩:∃R2 T2,xs[i]?=some (R2,T2)/\SB R2 T2:=by
   rcases (show i=0\/i=1 by omega) with rfl | rfl
   ·exact⟨R,T,by rw[Vn];rfl,hS⟩
   ·exact⟨R',T',by rw[Vn];rfl,hB⟩
  unfold fr;dsimp only;rw[oDT (show (i:Int) < 2 by omega),dP];simp only[oCT,oBS,show dO xs i=some (R2,T2) from hx];rw[show dQ (List.length [(bs,key),(ys,V8),(bad,(0:Int))])=3 from rfl]
  rw[KL hp hS2 (by rfl) (λy hy=>by
   simp only[List.mem_cons,List.not_mem_nil,or_false] at hy;rcases hy with rfl | rfl | rfl
   ·exact⟨m1,m2⟩
   ·exact⟨y1,y2⟩
   ·exact hbad)]
  dsimp only;rw[dU (by omega) (by omega)]
  exact Ok.ret rfl) (by
  unfold fr
  exact Ok.ret rfl)
 have e0:dW fr NN (2,0,code,ss,dt,bs,key,cs,ls,ts,ys,V8,bad,0,xs,())=_:=e;rw[e0,oBS];rw[K7];exact Ok.ret rfl
theorem law_CanonicalInjects{h0:HL den [RI]}{h1:HL den [I64]}{h2:HL den [I64]}{h3:HL den [I64]}{h4:HL den [I64]}(g0:GoodL _ h0) (g1:GoodL _ h1) (g2:GoodL _ h2) (g3:GoodL _ h3) (g4:GoodL _ h4):kT.g (appL _ _ h0 (appL _ _ h1 (appL _ _ h2 (appL _ _ h3 (appL _ _ h4 ())))))=some (true,()):=
 injects_law (R4 g0.1).1 (R4 g0.1).2 (g64 g1.1) (g64 g2.1) (g64 g3.1) (g64 g4.1)
end Go.Proofs.YtjadkocggchfnaaGreat
