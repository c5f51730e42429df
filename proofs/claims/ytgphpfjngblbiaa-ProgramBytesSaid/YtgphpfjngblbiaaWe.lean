/- Part of the proof; no condition. -/
import Derived.Test.YtgphpfjngblbiaaWd
set_option linter.unusedVariables false
set_option linter.unusedSimpArgs false
namespace Go.Proofs.Ytgphpfjngblbiaa
open Go.RowKit
theorem rN{b:List Int}{k:Nat}(h:b.length=2*k)(hk:k<=1000):∃d,fM b=some (d,0,())/\fY b=some (d,0,())/\d.length=k:=by
 have ZZ:Ok (bR gl NN (b,0,[],())) λt=>∃d,t=(b,((2*k:Nat):Int),false,d,())/\d.length=k:=by
  refine jB (P:=λs=>∃(j:Nat)(d:List Int),s=(b,((2*j:Nat):Int),d,())/\j<=k/\d.length=j) _ (λs=>2*k-s.2.1.toNat) ⟨0,[],rfl,Nat.zero_le _,rfl⟩ (by unfold NN;dsimp only;omega) ?_;rintro _ ⟨j,d,rfl,hj,hd⟩;unfold gl;delta bO;dsimp only;refine Ok.cond (λhc=>?_) (λhc=>?_)
  ·have hc:=of_decide_eq_true hc;rw[ct,cd (x:=((2*j:Nat):Int)+1) (by omega) (by omega),show((2*j:Nat):Int)+1=((2*j+1:Nat):Int) by omega,ct];simp only[oBS,show bV b (2*j)=some (b[2*j]'(by omega))from oGE (by omega),show bV b (2*j+1)=some (b[2*j+1]'(by omega))from oGE (by omega)];refine cx (b9 ⟨by omega,by show _+1<=_;omega⟩) ?_;rw[cd (x:=((2*j:Nat):Int)+2) (by omega) (by omega)];refine Ok.ret ⟨⟨j+1,_,by rw[show((2*j:Nat):Int)+2=((2*(j+1):Nat):Int) by omega],by omega,?_⟩,by dsimp only;omega⟩;show(d++[_]).length=j+1;simp[hd]
  ·have hc:=of_decide_eq_false hc
   obtain rfl:j=k:=by omega
   exact Ok.ret ⟨d,rfl,hd⟩
 obtain⟨_,e,d,rfl,hd⟩:=ZZ;have e0:Int.tmod (b.length:Int) 2=0:=Int.tmod_eq_zero_of_dvd ⟨(k:Int),by omega⟩;have e':bR i5 NN (b,0,[],())=some (b,((2*k:Nat):Int),false,d,()):=e;refine⟨d,?_,?_,hd⟩
 ·unfold fM;delta bO;dsimp only;rw[e0,e];rfl
 ·unfold fY;delta bO;dsimp only;rw[e0,e'];rfl
theorem mr.drop{b:List Int}(h:mr b)(k:Nat):mr (b.drop k):=λx hx=>h x (List.mem_of_mem_drop hx)
theorem En:∀(m i N M:Nat),m<N->m<M->i+m<=255->∀(ss:List Int)(dt:List (List Int))(b:List Int),ss.length<=i->dt.length<=i->mr b->b.length<=100000->(∀x∈dt,x.length<=255)->
 ((∃Y3 Y4 b',bR bU N ((m:Int),(),(),(),(),ss,dt,b,false,())=some (0,false,(),(),(),(),Y3,Y4,b',true,()))/\
  bR ca M (b,((i+m:Nat):Int),(i:Int),(),(),(),(),ss,dt,())=some (.inl (4,(),(),(),())))\/
 (∃Y3 Y4 b',bR bU N ((m:Int),(),(),(),(),ss,dt,b,false,())=some (0,false,(),(),(),(),Y3,Y4,b',false,())/\
  bR ca M (b,((i+m:Nat):Int),(i:Int),(),(),(),(),ss,dt,())=some (.inr (b',((i+m:Nat):Int),((i+m:Nat):Int),false,(),(),(),(),Y3,Y4,()))/\
  Y3.length<=i+m/\Y4.length<=i+m/\mr b'/\b'.length<=100000/\∀x∈Y4,x.length<=255):=by
 intro m
 induction m with
 |zero=>
  intro i N M hN hM _ ss dt b h1 h2 hb Xo hx;obtain⟨n,rfl⟩:∃n,N=n+1:=⟨N-1,by omega⟩;obtain⟨n',rfl⟩:∃n,M=n+1:=⟨M-1,by omega⟩;refine .inr ⟨ss,dt,b,rp rfl n,rp ?_ n',h1,h2,hb,Xo,hx⟩;unfold ca;dsimp only;rw[oDF (show ¬(i:Int)<((i+0:Nat):Int) by omega)];rfl
 |succ m ih=>
  intro i N M hN hM hi ss dt b h1 h2 hb Xo hx;obtain⟨n,rfl⟩:∃n,N=n+1:=⟨N-1,by omega⟩;obtain⟨n',rfl⟩:∃n,M=n+1:=⟨M-1,by omega⟩;have pos:decide (((m+1:Nat):Int)>0)=true:=oDT (by omega)
  have S4:w64 (((m+1:Nat):Int)-1)=(m:Int):=by rw[cd (by omega) (by omega)];omega
  have lt:decide ((i:Int)<((i+(m+1):Nat):Int))=true:=oDT (by omega)
  match b,hb,Xo with
  | [],hb,Xo=>
   obtain⟨Y3,Y4,e⟩:=vO m n (by omega) (by omega) (ss++[0]) (dt++[[]]) [] (by simp;omega) (by simp;omega);refine .inl ⟨⟨Y3,Y4,[],?_⟩,rp ?_ n'⟩
   ·rw[<- e];refine nR ?_ n;unfold bU;dsimp only;rw[pos,qF];simp only[oCT,oBS];rw[b9 (b:=8) (n:=ss.length) (m:=([0]:List Int).length) ⟨by omega,by show _+1<=_;omega⟩,lk];simp only[oCT,oBS];rw[show w64 (2*0)=((0:Nat):Int)from rfl,jl (by omega)];simp only[oBS];rw[show(List.replicate 0 0:List Int)=[]from rfl,nH];simp only[oBS];rw[b9 (b:=24) (n:=dt.length) (m:=([[]]:List (List Int)).length) ⟨by omega,by show _+1<=_;omega⟩,S4];rfl
   ·unfold ca;delta bO;dsimp only;rw[lt,oDT (show((List.length ([]:List Int):Nat):Int)<2 by decide)];rfl
  | [x],hb,Xo=>
   have Vp:=hb x (by simp);obtain⟨Y3,Y4,e⟩:=vO m n (by omega) (by omega) (ss++[x]) (dt++[[]]) [] (by simp;omega) (by simp;omega);refine .inl ⟨⟨Y3,Y4,[],?_⟩,rp ?_ n'⟩
   ·rw[<- e];refine nR ?_ n;unfold bU;dsimp only;rw[pos,oa Vp];simp only[oCT,oBS];rw[b9 (b:=8) (n:=ss.length) (m:=([x]:List Int).length) ⟨by omega,by show _+1<=_;omega⟩,qF];simp only[oCT,oBS];rw[show w64 (2*0)=((0:Nat):Int)from rfl,jl (by omega)];simp only[oBS];rw[show(List.replicate 0 0:List Int)=[]from rfl,nH];simp only[oBS];rw[b9 (b:=24) (n:=dt.length) (m:=([[]]:List (List Int)).length) ⟨by omega,by show _+1<=_;omega⟩,S4];rfl
   ·unfold ca;delta bO;dsimp only;rw[lt,oDT (show((List.length ([x]:List Int):Nat):Int)<2 by show(1:Int)<2;decide)];rfl
  |x::y::r,hb,Xo=>
   have Vp:=hb x (by simp);have SU:=hb y (by simp);have hr:mr r:=λz hz=>hb z (by simp[hz]);obtain⟨k,rfl⟩:=Int.eq_ofNat_of_zero_le SU.1
   have hlen:(List.length (x::(k:Int)::r):Int)=(r.length:Int)+2:=by simp only[oLC];omega
   have XR:List.length (x::(k:Int)::r)=r.length+2:=by simp
   have Xy:r.length<=100000:=by omega
   have g0:bV (x::(k:Int)::r) 0=some x:=rfl;have g1:bV (x::(k:Int)::r) 1=some (k:Int):=rfl
   have k2:w64 (2*(k:Int))=((2*k:Nat):Int):=by rw[cd (by omega) (by omega)];omega
   have Rc:w64 (2+((2*k:Nat):Int))=((2+2*k:Nat):Int):=by rw[cd (by omega) (by omega)];omega
   by_cases hs:r.length<2*k
   ·obtain⟨d,hd,_,WU⟩:=rN (b:=List.replicate (2*k) 0) (k:=k) (by simp) (by omega);obtain⟨Y3,Y4,e⟩:=vO m n (by omega) (by omega) (ss++[x]) (dt++[d]) r (by simp;omega) (by simp;omega);refine .inl ⟨⟨Y3,Y4,r,?_⟩,rp ?_ n'⟩
    ·rw[<- e];refine nR ?_ n;unfold bU;dsimp only;rw[pos,oa Vp];simp only[oCT,oBS];rw[b9 (b:=8) (n:=ss.length) (m:=([x]:List Int).length) ⟨by omega,by show _+1<=_;omega⟩,oa SU];simp only[oCT,oBS];rw[k2,mc (by omega) hs];simp only[oBS];rw[hd];simp only[oBS];rw[b9 (b:=24) (n:=dt.length) (m:=([d]:List (List Int)).length) ⟨by omega,by show _+1<=_;omega⟩,S4];rfl
    ·unfold ca;delta bO;dsimp only;rw[lt,hlen,oDF (show ¬(r.length:Int)+2<2 by omega)];simp only[oCT,oCF,g1,oBS];rw[cK (x:=(k:Int)) (by omega) (by omega),k2,Rc,oDT (show(r.length:Int)+2<((2+2*k:Nat):Int) by omega)];rfl
   ·obtain⟨d,hd,hd2,WU⟩:=rN (b:=r.take (2*k)) (k:=k) (by rw[oLT];omega) (by omega)
    have Yw:=ih (i+1) n n' (by omega) (by omega) (by omega) (ss++[x]) (dt++[d]) (r.drop (2*k)) (by simp;omega) (by simp;omega) (hr.drop _) (by rw[List.length_drop];omega) (λz hz=>by
     rcases List.mem_append.1 hz with h|h
     ·exact hx z h
     ·simp only[List.mem_cons,List.not_mem_nil,or_false]at h;rw[h];omega)
    have V9:i+1+m=i+(m+1):=by omega
    rw[V9]at Yw
    have eP:bR bU (n+1) (((m+1:Nat):Int),(),(),(),(),ss,dt,x::(k:Int)::r,false,())=bR bU n ((m:Int),(),(),(),(),ss++[x],dt++[d],r.drop (2*k),false,()):=by
     refine nR ?_ n;unfold bU;dsimp only;rw[pos,oa Vp];simp only[oCT,oBS];rw[b9 (b:=8) (n:=ss.length) (m:=([x]:List Int).length) ⟨by omega,by show _+1<=_;omega⟩,oa SU];simp only[oCT,oBS];rw[k2,n9 (by omega)];simp only[oBS];rw[hd];simp only[oBS];rw[b9 (b:=24) (n:=dt.length) (m:=([d]:List (List Int)).length) ⟨by omega,by show _+1<=_;omega⟩,S4];rfl
    have eR:bR ca (n'+1) (x::(k:Int)::r,((i+(m+1):Nat):Int),(i:Int),(),(),(),(),ss,dt,())=bR ca n' (r.drop (2*k),((i+(m+1):Nat):Int),((i+1:Nat):Int),(),(),(),(),ss++[x],dt++[d],()):=by
     refine nR ?_ n';unfold ca;delta bO;dsimp only;rw[lt,hlen,oDF (show ¬(r.length:Int)+2<2 by omega)];simp only[oCT,oCF,g1,oBS];rw[cK (x:=(k:Int)) (by omega) (by omega),k2,Rc,oDF (show ¬(r.length:Int)+2<((2+2*k:Nat):Int) by omega)];simp only[oCF,ct,oBS]
     rw[XR,show eb 2 (2+2*k) (r.length+2)=true by simp[eb];omega,show eb (2+2*k) (r.length+2) (r.length+2)=true by simp[eb];omega,
      show i4 (x::(k:Int)::r) 2 (Nat.sub (2+2*k) 2)=r.take (2*k) by unfold i4;rw[show Nat.sub (2+2*k) 2=2*k by show 2+2*k-2=2*k;omega];rfl,hd2]
     simp only[oCT,oBS,g0]
     rw[cK (x:=x) (by omega) (by omega),b9 (b:=8) (n:=ss.length) (m:=([x]:List Int).length) ⟨by omega,by show _+1<=_;omega⟩,b9 (b:=24) (n:=dt.length) (m:=([d]:List (List Int)).length) ⟨by omega,by show _+1<=_;omega⟩,
      cd (x:=(i:Int)+1) (by omega) (by omega),
      show i4 (x::(k:Int)::r) (2+2*k) (Nat.sub (r.length+2) (2+2*k))=r.drop (2*k) by
       unfold i4;rw[show(x::(k:Int)::r).drop (2+2*k)=r.drop (2*k) by rw[show 2+2*k=2*k+1+1 by omega];rfl]
       exact List.take_of_length_le (by rw[List.length_drop];show _<=r.length+2-(2+2*k);omega)]
     rfl
    rw[eP,eR];exact Yw
theorem Bh{x:List Int}(hb:mr x)(hl:x.length<=100000):∃c s d e,c9 x=some (c,s,d,e,())/\eq x=some (c,s,d,e,())/\c.length<=1000/\s.length<=1000/\d.length<=1000/\∀z∈d,z.length<=1000:=by
 have no:∀e:Int,∃(c:List DIn)(s:List Int)(d:List (List Int))(e':Int),some (([]:List DIn),([]:List Int),([]:List (List Int)),e,())=some (c,s,d,e',())/\some (([]:List DIn),([]:List Int),([]:List (List Int)),e,())=some (c,s,d,e',())/\c.length<=1000/\s.length<=1000/\d.length<=1000/\∀z∈d,z.length<=1000:=
  λe=>⟨[],[],[],e,rfl,rfl,by simp,by simp,by simp,λz hz=>by cases hz⟩
 match x,hb,hl with
 | [],hb,hl=>
  have e1:c9 []=some ([],[],[],4,()):=by
   unfold c9;rw[qF];simp only[oBS];obtain⟨Y3,Y4,e⟩:=vO 0 NN (by unfold NN;omega) (by omega) [] [] [] (by simp) (by simp);rw[show bR bU NN (0,(),(),(),(),[],[],[],true,())=_ from e];simp only[oBS];rw[lk];simp only[oBS];obtain⟨ZA,Yy,e⟩:=vN 0 NN (by unfold NN;omega) (by omega) false [] Y3 Y4 [] (by simp);rw[show bR bT NN (false,0,(),(),(),[],Y3,Y4,[],true,())=_ from e];rfl
  have e2:eq []=some ([],[],[],4,()):=rfl;rw[e1,e2];exact no 4
 |a::r,hb,hl=>
  have ha:=hb a (by simp);have hr:mr r:=λz hz=>hb z (by simp[hz])
  have Xy:r.length<=100000:=by simp only[oLC]at hl;omega
  obtain⟨n,rfl⟩:=Int.eq_ofNat_of_zero_le ha.1
  have hlen:(List.length ((n:Int)::r):Int)=(r.length:Int)+1:=by simp only[oLC];omega
  have XR:List.length ((n:Int)::r)=r.length+1:=by simp
  have hw:i4 ((n:Int)::r) 1 (Nat.sub (r.length+1) 1)=r:=by
   unfold i4;exact List.take_of_length_le (by show r.length<=r.length+1-1;omega)
  have Rh:∀q:Nat,eb 1 (q+1) (q+1)=true:=λq=>by simp[eb]
  unfold c9 eq;delta bO;dsimp only;rw[oa ha,hlen,oDF (show ¬(r.length:Int)+1<1 by omega),XR,Rh,hw];simp only[oCF,oCT,oBS,show bV ((n:Int)::r) 0=some (n:Int)from rfl];rw[cK (x:=(n:Int)) (by omega) (by omega)];have QB:=En n 0 NN NN (by unfold NN;omega) (by unfold NN;omega) (by omega) [] [] r (by simp) (by simp) hr Xy (by simp);rw[Nat.zero_add]at QB
  rcases QB with⟨⟨Y3,Y4,b',e1⟩,e2⟩|⟨Y3,Y4,b',e1,e2,h1,h2,h3,h4,h5⟩
  ·rw[e1,show bR ca NN (r,(n:Int),0,(),(),(),(),[],[],())=_ from e2];simp only[oBS];rw[lk];simp only[oBS];obtain⟨ZA,Yy,e⟩:=vN 0 NN (by unfold NN;omega) (by omega) false [] Y3 Y4 b' (by simp);rw[show bR bT NN (false,0,(),(),(),[],Y3,Y4,b',true,())=_ from e];simp only[oBS,oCT];exact no 4
  ·rw[e1,show bR ca NN (r,(n:Int),0,(),(),(),(),[],[],())=_ from e2];simp only[oBS]
   match b',h3,h4 with
   | [],h3,h4=>
    rw[qF];simp only[oBS];obtain⟨ZA,Yy,e⟩:=vN 0 NN (by unfold NN;omega) (by omega) false [] Y3 Y4 [] (by simp);rw[show bR bT NN (false,0,(),(),(),[],Y3,Y4,[],true,())=_ from e];simp only[oBS,oCT];exact no 4
   |k'::q,h3,h4=>
    have hk:=h3 k' (by simp);obtain⟨k,rfl⟩:=Int.eq_ofNat_of_zero_le hk.1
    have Q2:q.length<=100000:=by simp only[oLC]at h4;omega
    have TY:(List.length ((k:Int)::q):Int)=(q.length:Int)+1:=by simp only[oLC];omega
    have Vd:List.length ((k:Int)::q)=q.length+1:=by simp
    have P4:i4 ((k:Int)::q) 1 (Nat.sub (q.length+1) 1)=q:=by
     unfold i4;exact List.take_of_length_le (by show q.length<=q.length+1-1;omega)
    have k6:w64 (6*(k:Int))=((6*k:Nat):Int):=by rw[cd (by omega) (by omega)];omega
    have Qa:w64 (1+((6*k:Nat):Int))=((1+6*k:Nat):Int):=by rw[cd (by omega) (by omega)];omega
    rw[oa hk,TY,oDF (show ¬(q.length:Int)+1<1 by omega)];simp only[oCF,oBS,show bV ((k:Int)::q) 0=some (k:Int)from rfl];rw[cK (x:=(k:Int)) (by omega) (by omega),k6,Qa];by_cases hs:q.length<6*k
    ·obtain⟨ZA,Yy,b2,e⟩:=CD k NN (by unfold NN;omega) (by omega) false [] Y3 Y4 q (by simp;omega) hs;rw[e,oDT (show(q.length:Int)+1<((1+6*k:Nat):Int) by omega)];simp only[oCT,oBS];exact no 4
    ·obtain⟨ZA,Yd,Yy,e3,e4,e5,e6⟩:=Em k 0 NN NN (by unfold NN;omega) (by unfold NN;omega) (by omega) false (decide ((q.length:Int)>((6*k:Nat):Int))) [] Y3 Y4 q (by simp) (by omega) (by
      rw[decide_eq_true_iff];constructor
      ·intro h;right;omega
      ·rintro(h|h)
       ·cases h
       ·omega)
     rw[Nat.zero_add]at e3 e4 e5 e6;rw[oDF (show ¬(q.length:Int)+1<((1+6*k:Nat):Int) by omega),Vd,Rh,P4];simp only[oCT,oCF];rw[show bR bT NN (false,(k:Int),(),(),(),[],Y3,Y4,q,false,())=_ from e3,show bR dy NN (q,decide ((q.length:Int)>((6*k:Nat):Int)),(k:Int),0,(),(),(),[],Y3,Y4,())=_ from e4];simp only[oBS,oCF];have WU:(List.drop (6*k) q).length=q.length-6*k:=List.length_drop;rw[WU];obtain⟨e,c1,c2,_⟩:=jN (code:=Yy) (ss:=Y3) (dt:=Y4) (by omega) (by omega) (by omega)
     cases Yd with
     |true=>
      rcases e5.1 rfl with h|h
      ·rw[h];exact no 5
      ·cases ZA with
       |true=>exact no 5
       |false=>
        simp only[oCF];rw[oDT (show((q.length-6*k:Nat):Int)>0 by omega)];exact no 5
     |false=>
      have hnb:ZA=false:=by
       cases ZA with
       |true=>exact absurd (e5.2 (.inl rfl)) (by decide)
       |false=>rfl
      have XU:¬ 6*k<q.length:=λh=>absurd (e5.2 (.inr h)) (by decide);subst hnb;simp only[oCF];rw[oDF (show ¬((q.length-6*k:Nat):Int)>0 by omega)];unfold cA;rw[c1,c2];simp only[oBS,oCF]
      cases he:(e != 0)with
      |true=>exact no e
      |false=>exact⟨Yy,Y3,Y4,0,rfl,rfl,by omega,by omega,by omega,λz hz=>by have:=h5 z hz;omega⟩
theorem oP:df=some (true,()):=by kernel_rfl
theorem Df{a0:List Int}{at_ by_:Int}{c1 c2 c3 code:List DIn}{s1 s2 s3 ss:List Int}{d1 d2 d3 dt:List (List Int)}(h1:SmP c1 s1 d1)(h2:SmP c2 s2 d2)(h3:SmP c3 s3 d3):
 bR cU NN (a0,at_,by_,3,0,code,ss,dt,[(c1,(s1,d1)),(c2,(s2,d2)),(c3,(s3,d3))],())=some (.inr (a0,at_,by_,3,3,false,code,ss,dt,[(c1,(s1,d1)),(c2,(s2,d2)),(c3,(s3,d3))],())):=by
 refine wL (st:=λk=>(a0,at_,by_,3,(k:Int),code,ss,dt,[(c1,(s1,d1)),(c2,(s2,d2)),(c3,(s3,d3))],())) (n:=3) (by unfold NN;omega) ?_ ?_
 ·intro k hk
  obtain⟨z,hz,hS⟩:∃z:List DIn×List Int×List (List Int),([(c1,(s1,d1)),(c2,(s2,d2)),(c3,(s3,d3))]:List (List DIn×List Int×List (List Int)))[k]?=some z/\SmP z.1 z.2.1 z.2.2:=by
   have:k=0\/k=1\/k=2:=by omega
   rcases this with rfl|rfl|rfl
   ·exact⟨_,rfl,h1⟩
   ·exact⟨_,rfl,h2⟩
   ·exact⟨_,rfl,h3⟩
  obtain⟨b,e,hE,_⟩:=s8 hS;unfold cU;dsimp only;rw[oDT (show(k:Int)<3 by omega),ct];simp only[oCT,oBS,show bV [(c1,(s1,d1)),(c2,(s2,d2)),(c3,(s3,d3))] k=some z from hz];rw[BV hS,hE];simp only[oBS];rw[show De (pK b) (pK b)=true by simp[De]];simp only[oNT,oCF,bne_self_eq_false];rw[cd (x:=(k:Int)+1) (by omega) (by omega)];exact Ok.ret rfl
 ·unfold cU;dsimp only;exact Ok.ret rfl
theorem Dh{L:List (List Int)}(h:∀x∈L,mr x/\x.length<=100000)(hl:L.length=5):bR cT NN (5,0,L,())=some (.inr (5,5,false,L,())):=by
 refine wL (st:=λk=>(5,(k:Int),L,())) (n:=5) (by unfold NN;omega) ?_ ?_
 ·intro k hk;have hx:L[k]?=some L[k]:=oGE (by omega);obtain⟨hb,Xo⟩:=h _ (dJ hx);obtain⟨c,s,d,e,e1,e2,h1,h2,h3,h4⟩:=Bh hb Xo;unfold cT;dsimp only;rw[oDT (show(k:Int)<5 by omega),ct];simp only[oCT,oBS,show bV L k=some L[k]from hx];rw[e1,e2];simp only[oBS,bne_self_eq_false,oCF];rw[wz h1 h2 h3 h4];simp only[oBS,oNT,oCF];rw[cd (x:=(k:Int)+1) (by omega) (by omega)];exact Ok.ret rfl
 ·unfold cT;dsimp only;exact Ok.ret rfl
theorem bytes_law{Tm:List Int}{a1:List DIn}{a2:List Int}{a3:List (List Int)}{l:List Int}{what at_ by_:Int}(Sx:mr Tm)(hm:a3.length<=maxLen)(P3:∀x∈a3,∀y∈x,W16 y)(hl:∀x∈l,uR x)(Ve:l.length<=maxLen)(hw:uR what)(ha:uR at_)(hb:uR by_):
 d9 Tm a1 a2 a3 l what at_ by_=some (true,()):=by
 refine qn ?_;unfold d9;delta bO;dsimp only;refine Ok.cond (λ_=>by rw[oP];exact Ok.ret rfl) (λTr=>?_);have Tr:=of_decide_eq_false Tr;refine(Aw hm).bind ?_;rintro _ ⟨b,rfl,hsh⟩;dsimp only
 cases b with
 |false=>
  simp only[Bool.not_false,oCT];rw[oP];exact Ok.ret rfl
 |true=>
  obtain⟨r1,r2,r3,r4⟩:=hsh rfl;simp only[oNT,oCF];refine(wH (rM hl Ve)).bind ?_;rintro _ ⟨code,ss,dt,k1,rfl,hp,hd⟩;dsimp only;refine(Dk hp hw ha hb).bind ?_;rintro _ ⟨c,s,d,rfl,hS⟩;dsimp only;have hP:=SmP.of hp;have hA:SmP a1 a2 a3:=⟨by omega,by omega,by omega,r4,P3⟩;rw[show((List.length [(code,(ss,dt)),(a1,(a2,a3)),(c,(s,d))]:Nat):Int)=3 from rfl,Df hP hA hS];dsimp only;obtain⟨B,e,hE,O7⟩:=s8 hP
  have hV:PrV code ss dt:=by
   obtain⟨e',e1,e2,h0,_⟩:=jN (code:=code) (ss:=ss) (dt:=dt) (by have:=hP.cl;omega) (by have:=hP.sl;omega) (by have:=hP.dl;omega);rw[Bn hp]at e2
   injection e2 with e2
   injection e2 with e2
   exact h0 e2.symm
  obtain⟨hB,Ox,Oy⟩:=O7 hV;rw[BV hP,hE];simp only[oBS];rw[b9 (b:=1) (n:=0) (m:=B.length) ⟨by omega,by omega⟩];simp only[oCT,show List.append [] B=B from rfl];rw[BQ ha (show(0:Int)<(B.length:Int) by omega) (by omega)];obtain⟨k,hk,hkl⟩:=od (a:=at_) (n:=B.length) (by omega);rw[hk];simp only[oBS,ct,show bV B k=some B[k]from oGE hkl];rw[show eb 0 k B.length=true by simp[eb];omega,b9 (b:=1) (n:=B.length) (m:=List.length [0]) ⟨by omega,by show _+1<=_;omega⟩];simp only[oCT]
  have h8:∀x:Int,0<=wk .u8 x/\wk .u8 x<=255:=λx=>by rw[iA];omega
  rw[show((List.length [Tm,B,List.modify B k λ_=>wk .u8 by_,i4 B 0 (Nat.sub k 0),List.append B [0]]:Nat):Int)=5 from rfl,Dh (L:=[Tm,B,List.modify B k λ_=>wk .u8 by_,i4 B 0 (Nat.sub k 0),List.append B [0]]) ?_ rfl]
  ·dsimp only;rw[oP];exact Ok.ret rfl
  ·intro x hx;simp only[List.mem_cons,List.not_mem_nil,or_false]at hx;rcases hx with rfl|rfl|rfl|rfl|rfl
   ·exact⟨Sx,by omega⟩
   ·exact⟨hB,by omega⟩
   ·exact⟨mi (P:=λx:Int=>0<=x/\x<=255) hB λ_ _=>h8 _,by rw[oLM];omega⟩
   ·refine⟨λy hy=>hB y ?_,?_⟩
    ·unfold i4 at hy;exact List.mem_of_mem_drop (List.mem_of_mem_take hy)
    ·unfold i4;rw[oLT,List.length_drop];omega
   ·refine⟨mr.app hB λy hy=>?_,?_⟩
    ·simp only[List.mem_cons,List.not_mem_nil,or_false]at hy;rw[hy];decide
    ·show(B++[0]).length<=100000;rw[List.length_append];show _+1<=_;omega
theorem g8{h:den (.int .u8)}(g:rI (.int .u8) h):0<=(show Int from h)/\(show Int from h)<=255:=bounds_u8 g
theorem g16{h:den (.int .u16)}(g:rI (.int .u16) h):W16 h:=bounds_u16 g
theorem law_ProgramBytes{h0:HL den [(.row false (.int .u8))]}{h1:HL den [dM,RI,(.row false RW)]}{h2:HL den [RI]}{h3:HL den [I64]}{h4:HL den [I64]}{h5:HL den [I64]}(g0:GoodL _ h0)(g1:GoodL _ h1)(g2:GoodL _ h2)(g3:GoodL _ h3)(g4:GoodL _ h4)(g5:GoodL _ h5):
 fW.g (appL _ _ h0 (appL _ _ h1 (appL _ _ h2 (appL _ _ h3 (appL _ _ h4 (appL _ _ h5 ()))))))=some (true,()):=
 bytes_law (λx hx=>g8 (g0.1.2 x hx)) g1.2.2.1.1 (λx hx y hy=>g16 ((g1.2.2.1.2 x hx).2 y hy)) (Eb g2.1).1 (Eb g2.1).2 (g64 g3.1) (g64 g4.1) (g64 g5.1)
end Go.Proofs.Ytgphpfjngblbiaa
