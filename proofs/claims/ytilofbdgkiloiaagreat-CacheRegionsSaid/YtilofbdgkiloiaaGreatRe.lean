/- Part of the proof; no condition. -/
import Derived.Test.YtilofbdgkiloiaaGreatRd
import Derived.Deep.Slices
set_option linter.unusedVariables false
set_option linter.unusedSimpArgs false
namespace Go.Proofs.YtilofbdgkiloiaaGreat
open Go.RowKit
theorem LL{K:Int->Prop}:∀c∈List.replicate 8 ((0:Int),(0:Int)),mg K c:=λc hc=>by rw[List.eq_of_mem_replicate hc];exact kS (by decide)
theorem Kl{K:Int->Prop}{s:Int}(h:0<=s/\s<=4):vJ K 0 (s,List.replicate 8 (0,0),0,0,-1,-1,0,0):=
 ⟨h,rfl,LL,⟨by simp_all,by simp_all⟩,⟨by simp_all,by simp_all⟩,⟨by simp_all,by simp_all⟩,⟨by simp_all,by simp_all⟩,⟨by simp_all,by simp_all⟩,⟨by simp_all,by simp_all⟩⟩
theorem It{code:List DIn}{ss bs:List Int}{d:List (List Int)}{key:Int}(hp:jX code ss d)(hl:LV bs ss):Ok (lm code ss d bs key) λr=>∃cs ts,r=(bs,key,cs,eU,ts,0,())/\MOk 0 ss bs cs eU ts:=by
 unfold lm;rw[zG hp,pA hl];refine(K5 hp hl).bind ?_;rintro _ ⟨cs,rfl,ZS,ZK⟩;dsimp only;have S9:=hl.2.1;have XG:=hp.sz.2.1;refine dG (dS (by omega)) ?_
 refine Ok.loop (P:=λs'=>∃k:Nat,∃ts,s'=((k:Int),(),0,(),(),(),bs,key,cs,eU,ts,())/\k<=4/\ts.length=k/\∀t∈ts,vJ (RK bs ss) 0 t)
  (R:=λr=>∃a b ts,r=(a,b,(),0,(),(),(),bs,key,cs,eU,ts,())/\ts.length=4/\∀t∈ts,vJ (RK bs ss) 0 t) (m:=λs'=>(4-s'.1).toNat) ⟨0,[],rfl,by omega,rfl,ef⟩ (by unfold NN;dsimp only;omega) ?_ ?_
 ·rintro _ ⟨k,ts,rfl,hk,X7,Y1⟩;unfold og;dsimp only
  (with_reducible refine dF (λZ'=>?_) λZ'=>?_)
  ·refine dG (by decide) ?_;refine Ok.bind (P:=λr=>∃s,(0<=s/\s<=4)/\r=((k:Int),(),0,(),(),(),bs,key,cs,eU,ts,s,List.replicate 8 (0,0),0,0,-1,-1,0,0,())) ?_ ?_
   ·(with_reducible refine dF (λZ3=>?_) λZ3=>?_)
    ·exact Ok.ret ⟨1,by decide,rfl⟩
    ·exact Ok.ret ⟨0,by decide,rfl⟩
   ·rintro _ ⟨s,hs,rfl⟩;dsimp only;refine dG (dS (by simp;omega)) ?_
    (simp (disch:=omega) only [dP,dX,dT,dV])
    exact Ok.ret ⟨⟨k+1,_,rfl,by omega,by rw[eV,X7];rfl,iD Y1 (all_cons (Kl hs) ef)⟩,by dsimp only;omega⟩
  ·exact Ok.ret ⟨_,_,_,rfl,by omega,Y1⟩
 ·rintro _ ⟨a,b,ts,rfl,X7,Y1⟩;exact Ok.ret ⟨cs,ts,rfl,hl,Bw ZS λc hc=>(ZK c hc).mono λ_ h=>h.elim,X7,Y1⟩
def Pr(ss:List Int)(c:DCn):Prop:=
 ((c.1=0\/c.1=2)/\c.2.2.1=0/\c.2.2.2=0/\W16 c.2.1)\/(c.1=1/\c.2.1=0/\0<=c.2.2.1/\∃n,ss[c.2.2.1.toNat]?=some n/\0<=c.2.2.2/\c.2.2.2<n)
theorem BE{ss:List Int}{c:DCn}(hs:vK ss)(h:Pr ss c):je c.1 c.2.1 c.2.2.1 c.2.2.2=some (true,()):=by
 refine eJ ?_;unfold je
 rcases h with⟨h1,h2,h3,_⟩|⟨h1,h2,h3,n,h4,h5,h6⟩
 ·rw[h2,h3]
  rcases h1 with h1|h1<;>rw[h1]<;>exact Ok.ret rfl
 ·have hn:=hs.2.2 n (dO h4);have hl:=(oGS h4).1;have XG:=hs.2.1;rw[h1,h2,show(c.2.2.1==-1)=false by rw[beq_eq_false_iff_ne];omega];refine Ok.cond (λh=>by cases h) λ_=>Ok.cond (λh=>by cases h) λ_=>dG rfl ?_;refine Ok.cond (λh=>by cases h) λ_=>dG rfl ?_;exact dG (oDT h3) (dG (oDT (by omega)) (dG (oDT h5) (Ok.ret (by rw[oDT (show c.2.2.2<32 by omega)]))))
theorem jj{ss:List Int}{l:List DCn}{n:Int}(hs:vK ss)(h:∀c∈l,Pr ss c)(hn:(l.length:Int)<=n)(hl:l.length<=1000):fa l n=some (true,()):=by
 have e:dU iV NN (l,n,l,(l.length:Int),0,())=some (.inr (l,n,l,(l.length:Int),(l.length:Int),false,())):=by
  refine l8 (st:=λk=>(l,n,l,(l.length:Int),(k:Int),())) (n:=l.length) (by unfold NN;omega) ?_ ?_
  ·intro k hk;unfold iV
   (with_reducible refine dF (λZ'=>?_) λZ'=>?_)
   ·rw[dL];refine Ok.get (by omega) λx hx=>?_;rw[BE hs (h x (dO hx))]
    (simp (disch:=omega) only [dP,dX,dT,dV])
    exact Ok.ret rfl
   ·omega
  ·unfold iV
   (with_reducible refine dF (λZ'=>?_) λZ'=>?_)
   ·omega
   ·exact Ok.ret rfl
 refine eJ ?_;unfold fa;delta dM
 try dsimp only
 rw[e];exact Ok.ret (congrArg (λb=>(b,())) (oDT hn))
def LB(d:List (List DCn))(o:DOp):Prop:=(o.1=-1/\o.2.1=0/\o.2.2=false)\/(0<=o.1/\∃x,d[o.1.toNat]?=some x/\0<=o.2.1/\o.2.1<=x.length)
structure fm (ss:List Int)(d:List (List DCn))(os:List DOp):Prop where
 dlen:d.length<=4
 flen:∀x∈d,x.length<=64
 cells:∀x∈d,∀c∈x,Pr ss c
 olen:os.length=8
 opens:∀o∈os,LB d o
theorem wU{ss:List Int}{d:List (List DCn)}{os:List DOp}(hs:vK ss)(h:fm ss d os):jx d os=some (true,()):=by
 obtain⟨h1,h2,h3,h4,h5⟩:=h
 have e0:dU iT NN (d,(d.length:Int),0,d,os,())=some (.inr (d,(d.length:Int),(d.length:Int),false,d,os,())):=by
  refine l8 (st:=λk=>(d,(d.length:Int),(k:Int),d,os,())) (n:=d.length) (by unfold NN;omega) ?_ ?_
  ·intro k hk;unfold iT;dsimp only
   (with_reducible refine dF (λZ'=>?_) λZ'=>?_)
   ·rw[dL];simp only[oBS];refine Ok.get (by omega) λx hx=>?_;have:=h2 x (dO hx);rw[jj hs (h3 x (dO hx)) (by omega) (by omega)];simp only[oBS,oNT,oCF]
    (simp (disch:=omega) only [dP,dX,dT,dV])
    exact Ok.ret rfl
   ·omega
  ·unfold iT;dsimp only
   (with_reducible refine dF (λZ'=>?_) λZ'=>?_)
   ·omega
   ·exact Ok.ret rfl
 have e2:dU kW NN (os,8,0,d,os,())=some (.inr (os,8,8,false,d,os,())):=by
  refine l8 (st:=λk=>(os,8,(k:Int),d,os,())) (n:=8) (by unfold NN;omega) ?_ ?_
  ·intro k hk;unfold kW;dsimp only
   (with_reducible refine dF (λZ'=>?_) λZ'=>?_)
   ·rw[dL];simp only[oBS];refine Ok.get (by omega) λx hx=>?_;obtain⟨f,o,w⟩:=x;refine Ok.bind (P:=(·=(os,8,(k:Int),false,d,os,f,o,w,()))) ?_ ?_
    ·rcases h5 _ (dO hx)with⟨g1,g2,g3⟩|⟨g1,y,g2,g3,g4⟩
     ·have g1:f=-1:=g1;have g2:o=0:=g2;have g3:w=false:=g3;subst g1 g2 g3;dsimp only;refine dG rfl (Ok.cond (λh=>by cases h) λ_=>Ok.cond (λh=>by cases h) λ_=>Ok.cond (λh=>by cases h) λ_=>Ok.cond (λh=>?_) λ_=>Ok.cond (λh=>by cases h) λ_=>Ok.ret rfl);have h:(-1:Int)>=(d.length:Int):=of_decide_eq_true h;omega
     ·dsimp only at g1 g2 g3 g4⊢;have hl:=(oGS g2).1;rw[show(f==-1)=false by rw[beq_eq_false_iff_ne];omega,oDF (show ¬f < -1 by omega)];simp only[oCF];refine Ok.cond (λh=>?_) λ_=>dG (oDT g1) ?_
      ·have h:f>=(d.length:Int):=of_decide_eq_true h;omega
      ·rw[oDF (show ¬o<0 by omega)];simp only[oCF];refine Ok.nat g1 λj hj=>?_;refine Ok.get (by omega) λz hz=>?_
       have hjj:j=f.toNat:=by omega
       subst hjj;rw[g2]at hz
       injection hz with hz
       subst hz;exact Ok.ret (by rw[oDF (show ¬o>dM y.length from λh=>by rw[dV]at h;omega)])
    ·rintro _ rfl;dsimp only;simp only[oCF]
     (simp (disch:=omega) only [dP,dX,dT,dV])
     exact Ok.ret rfl
   ·omega
  ·exact Ok.ret rfl
 refine eJ ?_;unfold jx;delta dM
 try dsimp only
 (with_reducible refine dF (λZ'=>?_) λZ'=>?_)
 ·omega
 ·rw[h4];rw[e0];dsimp only;rw[h4,show((8:Nat):Int)=8 from rfl,e2];exact Ok.ret rfl
def MI(ss:List Int)(i:Nat)(x:DOu):Prop:=x.1=i/\0<=x.2.1/\x.2.1<2/\x.2.2.length<=16/\∀c∈x.2.2,Pr ss c
structure vL (ss:List Int)(ck rn:List Int)(ins:List (List Int))(d:List (List DCn))(os:List DOp)(us:List DOu):Prop where
 clock:ck.length<=64/\∀w∈ck,W16 w
 rand:rn.length<=64/\∀w∈rn,W16 w
 ilen:ins.length<=2
 inp:∀x∈ins,x.length<=64/\∀w∈x,W16 w
 files:fm ss d os
 ulen:us.length<=200
 outs:∀(i:Nat) x,us[i]?=some x->MI ss i x
theorem ET{ss:List Int}{us:List DOu}(hl:us.length<=200)(h:∀(i:Nat) x,us[i]?=some x->MI ss i x):jw us=some (true,()):=by
 have e:dU gW NN (us,(us.length:Int),0,())=some (.inr (us,(us.length:Int),(us.length:Int),false,())):=by
  refine l8 (st:=λk=>(us,(us.length:Int),(k:Int),())) (n:=us.length) (by unfold NN;omega) ?_ ?_
  ·intro k hk;unfold gW
   (with_reducible refine dF (λZ'=>?_) λZ'=>?_)
   ·rw[dL];refine Ok.get (by omega) λx hx=>?_;have ⟨g1,g2,g3,g4,g5⟩:=h k x hx;rw[g1,oDF (show ¬x.2.1<0 by omega),oDF (show ¬x.2.1>=2 by omega)];simp;refine Ok.cond (λh=>?_) λ_=>?_
    ·have h:(x.2.2.length:Int)>16:=of_decide_eq_true h;omega
    ·(simp (disch:=omega) only [dP,dX,dT,dV])
     exact Ok.ret rfl
   ·omega
  ·unfold gW
   (with_reducible refine dF (λZ'=>?_) λZ'=>?_)
   ·omega
   ·exact Ok.ret rfl
 refine eJ ?_;unfold jw;delta dM
 try dsimp only
 rw[e];exact Ok.ret rfl
theorem rP{ss ck rn:List Int}{ins:List (List Int)}{d:List (List DCn)}{os:List DOp}{us:List DOu}(hs:vK ss)(h:vL ss ck rn ins d os us):iu ck rn ins d os us=some (true,()):=by
 have e0:dU iS NN (ins,(ins.length:Int),0,ck,rn,ins,d,os,us,())=some (.inr (ins,(ins.length:Int),(ins.length:Int),false,ck,rn,ins,d,os,us,())):=by
  refine l8 (st:=λk=>(ins,(ins.length:Int),(k:Int),ck,rn,ins,d,os,us,())) (n:=ins.length) (by unfold NN;have:=h.ilen;omega) ?_ ?_
  ·intro k hk;have YV:=h.ilen;unfold iS;dsimp only
   (with_reducible refine dF (λZ'=>?_) λZ'=>?_)
   ·rw[dL];delta dM;simp only[oBS];refine Ok.get (by omega) λx hx=>?_;have:=(h.inp x (dO hx)).1
    (with_reducible refine dF (λZ3=>?_) λZ3=>?_)
    ·omega
    ·(simp (disch:=omega) only [dP,dX,dT,dV])
     exact Ok.ret rfl
   ·omega
  ·unfold iS;dsimp only
   (with_reducible refine dF (λZ'=>?_) λZ'=>?_)
   ·omega
   ·exact Ok.ret rfl
 have e1:dU iR NN (us,(us.length:Int),0,ck,rn,ins,d,os,us,())=some (.inr (us,(us.length:Int),(us.length:Int),false,ck,rn,ins,d,os,us,())):=by
  refine l8 (st:=λk=>(us,(us.length:Int),(k:Int),ck,rn,ins,d,os,us,())) (n:=us.length) (by unfold NN;have:=h.ulen;omega) ?_ ?_
  ·intro k hk;have M':=h.ulen;unfold iR;dsimp only
   (with_reducible refine dF (λZ'=>?_) λZ'=>?_)
   ·rw[dL];simp only[oBS];refine Ok.get (by omega) λx hx=>?_;obtain⟨_,_,_,g4,g5⟩:=h.outs k x hx;rw[jj hs g5 (by omega) (by omega)]
    (simp (disch:=omega) only [dP,dX,dT,dV])
    exact Ok.ret rfl
   ·omega
  ·unfold iR;dsimp only
   (with_reducible refine dF (λZ'=>?_) λZ'=>?_)
   ·omega
   ·exact Ok.ret rfl
 have c1:=h.clock.1;have c2:=h.rand.1;have c3:=h.ilen;have c4:=h.ulen;refine eJ ?_;unfold iu;delta dM
 try dsimp only
 rw[e0];dsimp only;rw[e1];dsimp only;refine dG (oDT (show(ck.length:Int)<=64 by omega)) (dG (oDT (show(rn.length:Int)<=64 by omega)) (dG (oDT (show(ins.length:Int)<=2 by omega)) ?_));rw[wU hs h.files];refine dG (oDT (show(us.length:Int)<=200 by omega)) ?_;rw[ET h.ulen h.outs];exact Ok.ret rfl
def nR:List DOp:=List.replicate 8 (-1,0,false)
theorem I5(a:List (List Int)):dU p8 NN (a,8,0,(),(),(),List.replicate 8 (0,(0,false)),())=some (a,8,8,false,(),(),(),nR,()):=by
 rfl
theorem Ja{ss:List Int}{a:List (List Int)}(hs:vK ss)(hl:a.length<=4)(h:∀x∈a,x.length<=64/\∀w∈x,W16 w):Ok (ny a) λr=>∃d,r=(d,nR,0,())/\fm ss d nR:=by
 unfold ny;refine dG (by decide) ?_;dsimp only;rw[show dM (List.replicate 8 ((0:Int),((0:Int),false))).length=8 from rfl,I5];delta dM;simp only[oBS]
 refine Ok.loop (P:=λs'=>∃k:Nat,∃d,s'=(a,(a.length:Int),(k:Int),(),(),d,nR,())/\k<=a.length/\d.length=k/\(∀x∈d,x.length<=64)/\∀x∈d,∀c∈x,Pr ss c)
  (R:=λr=>∃e b c f d,r=(e,b,c,f,(),(),d,nR,())/\d.length<=4/\(∀x∈d,x.length<=64)/\∀x∈d,∀c∈x,Pr ss c) (m:=λs'=>(s'.2.1-s'.2.2.1).toNat) ⟨0,[],rfl,by omega,rfl,ef,ef⟩ (by unfold NN;dsimp only;omega) ?_ ?_
 ·rintro _ ⟨k,d,rfl,hk,YE,hd2,X4⟩;unfold p6;dsimp only
  (with_reducible refine dF (λZ'=>?_) λZ'=>?_)
  ·rw[dL];delta dM;simp only[oBS];refine Ok.get (by omega) λx hx=>?_;obtain⟨Z0,Ys⟩:=h x (dO hx)
   refine Ok.loop (P:=λs'=>∃j:Nat,∃l,s'=(a,(a.length:Int),(k:Int),x,(x.length:Int),(j:Int),(),(),d,nR,l,())/\j<=x.length/\l.length=j/\∀c∈l,Pr ss c)
    (R:=λr=>∃b c e f l,r=(a,(a.length:Int),(k:Int),b,c,e,f,(),(),d,nR,l,())/\l.length<=64/\∀c∈l,Pr ss c) (m:=λs'=>(s'.2.2.2.2.1-s'.2.2.2.2.2.1).toNat) ⟨0,[],rfl,by omega,rfl,ef⟩ (by unfold NN;dsimp only;omega) ?_ ?_
   ·rintro _ ⟨j,l,rfl,hj,Xp,X'⟩;unfold p7;dsimp only
    (with_reducible refine dF (λZ3=>?_) λZ3=>?_)
    ·rw[dL];simp only[oBS];refine Ok.get (by omega) λv hv=>?_;refine dG (dS (by simp;omega)) ?_
     (simp (disch:=omega) only [dP,dX,dT,dV])
     exact Ok.ret ⟨⟨j+1,_,rfl,by omega,by rw[eV,Xp];rfl,iD X' (all_cons (.inl ⟨.inl rfl,rfl,rfl,Ys v (dO hv)⟩) ef)⟩,by dsimp only;omega⟩
    ·exact Ok.ret ⟨_,_,_,_,_,rfl,by omega,X'⟩
   ·rintro _ ⟨b,c,e,f,l,rfl,Xp,X'⟩;dsimp only;refine dG (dS (by simp;omega)) ?_
    (simp (disch:=omega) only [dP,dX,dT,dV])
    exact Ok.ret ⟨⟨k+1,_,rfl,by omega,by rw[eV,YE];rfl,iD hd2 (all_cons Xp ef),iD X4 (all_cons X' ef)⟩,by dsimp only;omega⟩
  ·exact Ok.ret ⟨_,_,_,_,_,rfl,by omega,hd2,X4⟩
 ·rintro _ ⟨e,b,c,f,d,rfl,YE,hd2,X4⟩;have hf:fm ss d nR:=⟨YE,hd2,X4,rfl,λo ho=>by rw[List.eq_of_mem_replicate ho];exact .inl ⟨rfl,rfl,rfl⟩⟩;dsimp only;rw[wU hs hf];exact Ok.ret ⟨d,rfl,hf⟩
theorem vl{a:List (List Int)}(hl:a.length<=1000)(h:∀x∈a,x.length<=1000):ft a=some (a,()):=by
 have e:dU fj NN (a,(a.length:Int),0,[],())=some (a,(a.length:Int),(a.length:Int),false,a,()):=by
  have:=l8 (f:=fj) (N:=NN) (st:=λk=>(a,(a.length:Int),(k:Int),a.take k,())) (n:=a.length) (t:=(a,(a.length:Int),(a.length:Int),false,a,())) (by unfold NN;omega) ?_ ?_
  ·exact this
  ·intro k hk;unfold fj
   (with_reducible refine dF (λZ'=>?_) λZ'=>?_)
   ·rw[dL];refine Ok.get (by omega) λx hx=>?_;have:=h x (dO hx);refine dG (dS (by omega)) (dG (dS (by simp;omega)) ?_)
    (simp (disch:=omega) only [dP,dX,dT,dV])
    refine Ok.ret ?_;rw[List.take_add_one,hx];rfl
   ·omega
  ·unfold fj
   (with_reducible refine dF (λZ'=>?_) λZ'=>?_)
   ·omega
   ·rw[List.take_length];exact Ok.ret rfl
 refine eJ ?_;unfold ft;delta dM
 try dsimp only
 rw[e];exact Ok.ret rfl
theorem ES{ss l:List Int}{k:Int}(hs:vK ss)(h:DOk l k):Ok (kA l k) λr=>∃ck rn ins d os k',r=(ck,rn,ins,d,os,(),l,k',())/\vL ss ck rn ins d os []/\DOk l k':=by
 unfold kA;refine(nn h (by decide)).bind ?_;rintro _ ⟨w1,k1,rfl,h1,g1,d1⟩;refine(nn d1 (by decide)).bind ?_;rintro _ ⟨w2,k2,rfl,h2,g2,d2⟩;dsimp only;refine(nn d2 (by decide)).bind ?_;rintro _ ⟨w3,k3,rfl,h3,g3,d3⟩;dsimp only;refine(nn d3 (by decide)).bind ?_;rintro _ ⟨w4,k4,rfl,h4,g4,d4⟩;dsimp only;refine(nn d4 (by decide)).bind ?_;rintro _ ⟨w5,k5,rfl,h5,g5,d5⟩;dsimp only;refine(nn d5 (by decide)).bind ?_;rintro _ ⟨w6,k6,rfl,h6,g6,d6⟩;dsimp only;refine Ok.bind (P:=λr=>∃ck rn ins d os,r=(ck,rn,ins,d,os,(),0,())/\vL ss ck rn ins d os []) ?_ ?_
 ·unfold nw;refine(Ja (ss:=ss) (a:=[w1,w2]) hs (by simp) (all_cons ⟨by omega,g1⟩ (all_cons ⟨by omega,g2⟩ ef))).bind ?_;rintro _ ⟨d,rfl,hf⟩;refine Ok.cond (λh=>by cases h) λ_=>?_;refine dG (dS (by omega)) (dG (dS (by omega)) ?_);have ho:vL ss w5 w6 [w3,w4] d nR []:=⟨⟨by omega,g5⟩,⟨by omega,g6⟩,by simp,all_cons ⟨by omega,g3⟩ (all_cons ⟨by omega,g4⟩ ef),hf,by simp,λi x hx=>by simp_all⟩;rw[vl (by simp) (all_cons (by omega) (all_cons (by omega) ef))];simp only[oBS];rw[show List.append [] w5=w5 from rfl,show List.append [] w6=w6 from rfl,rP hs ho];exact Ok.ret ⟨_,_,_,_,_,rfl,ho⟩
 ·rintro _ ⟨ck,rn,ins,d,os,rfl,ho⟩;exact Ok.ret ⟨_,_,_,_,_,_,rfl,ho,d6⟩
theorem AK{ss:List Int}{r o n:Int}(h1:0<=r)(h2:ss[r.toNat]?=some n)(h3:0<=o)(h4:o<n):fD ss r o=some (true,()):=by
 refine eJ ?_;have hl:=(oGS h2).1;refine dG (oDT h1) (dG (oDT (show r<(ss.length:Int) by omega)) (dG (oDT h3) ?_));obtain⟨j,rfl⟩:∃j:Nat,r=j:=⟨r.toNat,by omega⟩;rw[dL];simp;rw[show dI ss j=some n from h2];exact Ok.ret (by simp_all)
theorem l7{ss:List Int}{c:DCn}(h:Pr ss c):fY ss c.1 c.2.1 c.2.2.1 c.2.2.2=some (true,()):=by
 refine eJ ?_;unfold fY
 rcases h with⟨h1,h2,h3,_⟩|⟨h1,h2,h3,n,h4,h5,h6⟩
 ·rw[h2,h3]
  rcases h1 with h1|h1<;>rw[h1]<;>exact Ok.ret rfl
 ·rw[h1,h2,AK h3 h4 h5 h6];exact Ok.ret rfl
theorem B7{ss:List Int}{d:List (List DCn)}{os:List DOp}(h:fm ss d os):kn ss d os=some (true,()):=by
 obtain⟨h1,h2,h3,h4,h5⟩:=h
 have e0:dU is NN (ss,d,(d.length:Int),0,d,os,())=some (.inr (ss,d,(d.length:Int),(d.length:Int),false,d,os,())):=by
  refine l8 (st:=λk=>(ss,d,(d.length:Int),(k:Int),d,os,())) (n:=d.length) (by unfold NN;omega) ?_ ?_
  ·intro k hk;unfold is;dsimp only
   (with_reducible refine dF (λZ'=>?_) λZ'=>?_)
   ·rw[dL];delta dM;refine Ok.get (by omega) λx hx=>?_;have Z0:=h2 x (dO hx)
    have e:dU it NN (ss,d,(d.length:Int),(k:Int),x,(x.length:Int),0,d,os,())=some (.inr (ss,d,(d.length:Int),(k:Int),x,(x.length:Int),(x.length:Int),false,d,os,())):=by
     refine l8 (st:=λj=>(ss,d,(d.length:Int),(k:Int),x,(x.length:Int),(j:Int),d,os,())) (n:=x.length) (by unfold NN;omega) ?_ ?_
     ·intro j hj;unfold it
      (with_reducible refine dF (λZ'=>?_) λZ'=>?_)
      ·rw[dL];refine Ok.get (by omega) λy hy=>?_;rw[l7 (h3 x (dO hx) y (dO hy))]
       (simp (disch:=omega) only [dP,dX,dT,dV])
       exact Ok.ret rfl
      ·omega
     ·unfold it
      (with_reducible refine dF (λZ'=>?_) λZ'=>?_)
      ·omega
      ·exact Ok.ret rfl
    rw[e];dsimp only
    (simp (disch:=omega) only [dP,dX,dT,dV])
    exact Ok.ret rfl
   ·omega
  ·unfold is;dsimp only
   (with_reducible refine dF (λZ'=>?_) λZ'=>?_)
   ·omega
   ·exact Ok.ret rfl
 refine eJ ?_;unfold kn;delta dM
 try dsimp only
 rw[e0];exact Ok.ret rfl
theorem copy17_ok{d:List (List DCn)}{os:List DOp}(h1:d.length<=1000)(h2:∀x∈d,x.length<=1000)(h3:os.length<=1000):fQ d os=some (d,os,()):=by
 have e:dU g8 NN (d,(d.length:Int),0,d,os,(),(),[],os,())=some (d,(d.length:Int),(d.length:Int),false,d,os,(),(),d,os,()):=by
  have:=l8 (f:=g8) (N:=NN) (st:=λk=>(d,(d.length:Int),(k:Int),d,os,(),(),d.take k,os,())) (n:=d.length) (t:=(d,(d.length:Int),(d.length:Int),false,d,os,(),(),d,os,())) (by unfold NN;omega) ?_ ?_
  ·exact this
  ·intro k hk;unfold g8
   (with_reducible refine dF (λZ'=>?_) λZ'=>?_)
   ·rw[dL];refine Ok.get (by omega) λx hx=>?_;have:=h2 x (dO hx);refine dG (dS (by omega)) (dG (dS (by simp;omega)) ?_)
    (simp (disch:=omega) only [dP,dX,dT,dV])
    refine Ok.ret ?_;rw[List.take_add_one,hx];rfl
   ·omega
  ·unfold g8
   (with_reducible refine dF (λZ'=>?_) λZ'=>?_)
   ·omega
   ·rw[List.take_length];exact Ok.ret rfl
 refine eJ ?_;refine dG (dS (by omega)) ?_;rw[show List.append [] os=os from rfl];delta dM
 try dsimp only
 rw[e];exact Ok.ret rfl
theorem Bz{us:List DOu}(h1:us.length<=1000)(h2:∀x∈us,x.2.2.length<=1000):jc us=some (us,()):=by
 have e:dU g7 NN (us,(us.length:Int),0,[],())=some (us,(us.length:Int),(us.length:Int),false,us,()):=by
  have:=l8 (f:=g7) (N:=NN) (st:=λk=>(us,(us.length:Int),(k:Int),us.take k,())) (n:=us.length) (t:=(us,(us.length:Int),(us.length:Int),false,us,())) (by unfold NN;omega) ?_ ?_
  ·exact this
  ·intro k hk;unfold g7
   (with_reducible refine dF (λZ'=>?_) λZ'=>?_)
   ·rw[dL];refine Ok.get (by omega) λx hx=>?_;have:=h2 x (dO hx);refine dG (dS (by omega)) (dG (dS (by simp;omega)) ?_)
    (simp (disch:=omega) only [dP,dX,dT,dV])
    refine Ok.ret ?_;rw[List.take_add_one,hx];rfl
   ·omega
  ·unfold g7
   (with_reducible refine dF (λZ'=>?_) λZ'=>?_)
   ·omega
   ·rw[List.take_length];exact Ok.ret rfl
 refine eJ ?_;unfold jc;delta dM
 try dsimp only
 rw[e];exact Ok.ret rfl
theorem By{ss ck rn:List Int}{ins:List (List Int)}{d:List (List DCn)}{os:List DOp}{us:List DOu}(h:vL ss ck rn ins d os us):mq ck rn ins d os us=some (ck,rn,ins,d,os,us,()):=by
 have h1:=h.clock.1;have h2:=h.rand.1;have h3:=h.ilen;have h4:=h.ulen;have h5:=h.files.olen;have h6:=h.files.dlen;refine eJ ?_;refine dG (dS (by omega)) (dG (dS (by omega)) ?_)
 rw[vl (by omega) (λx hx=>by have:=(h.inp x hx).1;omega),copy17_ok (by omega) (λx hx=>by have:=h.files.flen x hx;omega) (by omega),Bz (by omega) (λx hx=>by
  have ⟨i,hi⟩:=List.getElem?_of_mem hx;have:=(h.outs i x hi).2.2.2.1
  omega)]
 exact Ok.ret rfl
theorem Hh:qp=some ([-1,-1,-1,-1],[[],[],[],[]],()):=by kernel_rfl
structure iq (ow:List Int)(qs:List (List Int)):Prop where
 olen:ow.length=4
 qlen:qs.length=4
 owner:∀o∈ow,-1<=o/\o<=3
 queue:∀q∈qs,q.Nodup/\∀t∈q,0<=t/\t<=3
theorem G9:∀{n:Nat}{q:List Int},q.Nodup->(∀t∈q,0<=t/\t<n)->q.length<=n:=by
 intro n
 induction n with
 |zero=>
  intro q _ h
  cases q with
  |nil=>simp
  |cons x q=>have:=h x (by simp);omega
 |succ n ih=>
  intro q hq h;have h1:(q.erase (n:Int)).Nodup:=hq.erase _
  have h2:∀t∈q.erase (n:Int),0<=t/\t<n:=λt ht=>by
   have hm:=(hq.mem_erase_iff).1 ht;have:=h t hm.2;omega
  have h3:=ih h1 h2;have h4:=List.length_erase (a:=(n:Int)) (l:=q);split at h4<;>omega
theorem iq.qlen4{ow:List Int}{qs:List (List Int)}(h:iq ow qs){q:List Int}(hq:q∈qs):q.length<=4:=G9 (h.queue q hq).1 λt ht=>by have:=(h.queue q hq).2 t ht;omega
theorem L8:iq [-1,-1,-1,-1] [[],[],[],[]]:=⟨rfl,rfl,by decide,by decide⟩
theorem JJ{code:List DIn}{ss bs:List Int}{dt:List (List Int)}{key:Int}{ck rn:List Int}{ins:List (List Int)}{d:List (List DCn)}{os:List DOp}{us:List DOu}(hp:jX code ss dt)(hl:LV bs ss)(ho:vL ss ck rn ins d os us):
 Ok (nv code ss dt bs key ck rn ins d os us) λr=>∃cs ts,r=(code,ss,dt,bs,key,cs,eU,ts,ck,rn,ins,d,os,us,[-1,-1,-1,-1],[[],[],[],[]],(),[-1,-1,-1,-1],0,())/\MOk 0 ss bs cs eU ts:=by
 refine(It hp hl).bind ?_;rintro _ ⟨cs,ts,rfl,hm⟩;rw[rP hp.sz ho,B7 ho.files,By ho,Hh];exact Ok.ret ⟨cs,ts,rfl,hm⟩
theorem Mw.len{K:Int->Prop}{i:Nat}{x:DLn}(h:Mw K i x):x.2.2.length<=4:=by
 rcases h with⟨_,_,h⟩|⟨_,_,_,h,_⟩
 ·simp_all
 ·omega
theorem HS{K:Int->Prop}{cs:List DCe}{ls:List DLn}(h:jl K cs ls):mB cs ls=some (cs,ls,()):=by
 obtain⟨h1,h2,h3,h4,_⟩:=h
 have e:dU ib NN (ls,(ls.length:Int),0,cs,ls,(),(),cs,[],())=some (ls,(ls.length:Int),(ls.length:Int),false,cs,ls,(),(),cs,ls,()):=by
  have:=l8 (f:=ib) (N:=NN) (st:=λk=>(ls,(ls.length:Int),(k:Int),cs,ls,(),(),cs,ls.take k,())) (n:=ls.length) (t:=(ls,(ls.length:Int),(ls.length:Int),false,cs,ls,(),(),cs,ls,())) (by unfold NN;omega) ?_ ?_
  ·exact this
  ·intro k hk;unfold ib
   (with_reducible refine dF (λZ'=>?_) λZ'=>?_)
   ·rw[dL];refine Ok.get (by omega) λx hx=>?_;have:=(h4 k x hx).len;refine dG (dS (by omega)) (dG (dS (by simp;omega)) ?_)
    (simp (disch:=omega) only [dP,dX,dT,dV])
    refine Ok.ret ?_;rw[List.take_add_one,hx];rfl
   ·omega
  ·unfold ib
   (with_reducible refine dF (λZ'=>?_) λZ'=>?_)
   ·omega
   ·rw[List.take_length];exact Ok.ret rfl
 refine eJ ?_;unfold mB;refine dG (dS (by omega)) ?_;rw[show List.append [] cs=cs from rfl];delta dM
 try dsimp only
 rw[e];exact Ok.ret rfl
theorem rj{n key:Int}{ss bs:List Int}{cs:List DCe}{ls:List DLn}{ts:List DTh}(h:MOk n ss bs cs ls ts):hZ bs key cs ls ts=some (bs,key,cs,ls,ts,()):=by
 obtain⟨h1,h2,h3,h4⟩:=h;have hb:=h1.2.1;have XG:=h1.1.2.1
 have e:dU hY NN (ts,(ts.length:Int),0,bs,key,cs,ls,ts,(),0,(),(),(),bs,key,cs,ls,[],())=some (ts,(ts.length:Int),(ts.length:Int),false,bs,key,cs,ls,ts,(),0,(),(),(),bs,key,cs,ls,ts,()):=by
  have:=l8 (f:=hY) (N:=NN) (st:=λk=>(ts,(ts.length:Int),(k:Int),bs,key,cs,ls,ts,(),0,(),(),(),bs,key,cs,ls,ts.take k,())) (n:=ts.length) (t:=(ts,(ts.length:Int),(ts.length:Int),false,bs,key,cs,ls,ts,(),0,(),(),(),bs,key,cs,ls,ts,())) (by unfold NN;omega) ?_ ?_
  ·exact this
  ·intro k hk;unfold hY;dsimp only
   (with_reducible refine dF (λZ'=>?_) λZ'=>?_)
   ·rw[dL];refine Ok.get (by omega) λx hx=>?_;have:=(h4 x (dO hx)).len;refine dG (dS (by omega)) (dG (dS (by simp;omega)) ?_)
    (simp (disch:=omega) only [dP,dX,dT,dV])
    refine Ok.ret ?_;rw[List.take_add_one,hx];rfl
   ·omega
  ·unfold hY
   (with_reducible refine dF (λZ'=>?_) λZ'=>?_)
   ·omega
   ·rw[List.take_length];exact Ok.ret rfl
 refine eJ ?_;unfold hZ;refine dG (dS (by omega)) ?_;rw[HS h2,show List.append [] bs=bs from rfl];delta dM;simp;rw[e];exact Ok.ret rfl
theorem pK{α:Type}{l:List α}{i:Nat}{f:α->α}{a:α}(h:l[i]?=some a):(List.modify l i f)[i]?=some (f a):=by simp_all
theorem iy{α:Type}(l:List α)(i:Nat)(f g:α->α):List.modify (List.modify l i f) i g=List.modify l i λa=>g (f a):=by
 apply List.ext_getElem?
 grind
theorem MOk.thread{n:Int}{ss bs:List Int}{cs:List DCe}{ls:List DLn}{ts:List DTh}(h:MOk n ss bs cs ls ts){i:Nat}{t:DTh}{f:DTh->DTh}(ht:ts[i]?=some t)(hf:vJ (RK bs ss) n (f t)):MOk n ss bs cs ls (List.modify ts i f):=by
 refine⟨h.lay,h.mem,by rw[oLM];exact h.tlen,λx hx=>?_⟩;have ⟨j,hj⟩:=List.getElem?_of_mem hx;by_cases hij:i=j
 ·simp_all
 ·simp[hij]at hj
  have:ts[j]?=some x:=by simp_all
  exact h.thr x (dO this)
theorem J8{n key:Int}{ss bs:List Int}{cs:List DCe}{ls:List DLn}{ts:List DTh}(h:MOk n ss bs cs ls ts)(i:Int):Ok (lT bs key cs ls ts i) λr=>r.1=true->0<=i/\i<4/\∀t,ts[i.toNat]?=some t->t.2.2.2.2.1≠-1:=by
 unfold lT;delta dM;have:=h.tlen
 (with_reducible refine dF (λZ'=>?_) λZ'=>?_)
 ·exact Ok.ret (λh=>by cases h)
 ·(with_reducible refine dF (λZ3=>?_) λZ3=>?_)
  ·exact Ok.ret (λh=>by cases h)
  ·refine Ok.nat (by omega) λj hj=>?_;refine Ok.get (by omega) λt ht=>?_;subst hj
   (with_reducible refine dF (λhcc=>?_) λhcc=>?_)
   ·(with_reducible refine dF (λXx=>?_) λXx=>?_)
    ·exact Ok.ret (λ_=>⟨by omega,by omega,λt' ZL=>by
      rw[oTN,ht]at ZL
      injection ZL with ZL
      rw[<- ZL]
      exact Xx⟩)
    ·exact Ok.ret (λh=>by cases h)
   ·exact Ok.ret (λh=>by cases h)
theorem Fp{n key:Int}{ss bs:List Int}{cs:List DCe}{ls:List DLn}{ts:List DTh}(h:MOk n ss bs cs ls ts)(i:Int):Ok (jy bs key cs ls ts i) λr=>∃Zs b,r=(bs,key,cs,ls,Zs,b,())/\MOk n ss bs cs ls Zs:=by
 unfold jy;rw[rj h];refine(J8 h i).bind ?_;rintro⟨b,_⟩ hb
 (with_reducible refine dF (λZ'=>?_) λZ'=>?_)
 ·exact Ok.ret ⟨ts,false,rfl,h⟩
 ·have hb:=hb Z';have XI:=h.tlen;obtain⟨hb1,ZW,Vr⟩:=hb;refine Ok.nat hb1 λj hj=>?_;refine Ok.get (by omega) λt ht=>?_;refine Ok.get (by omega) λt1 X7=>?_;refine Ok.get (by omega) λt2 Y1=>?_;refine Ok.get (by omega) λt3 Ph=>?_;rw[ht]at X7 Y1 Ph
  injection X7 with X7
  injection Y1 with Y1
  subst X7 Y1;refine Ok.get (by rw[oLM];omega) λt4 J'=>?_;have hne:=Vr t (by simp_all);have hok:=h.thr t (dO ht);rw[iy];exact Ok.ret ⟨_,_,rfl,h.thread ht ⟨hok.state,hok.len,hok.regs,⟨by have:=hok.handler;dsimp only;omega,hok.handler.2⟩,hok.count,hok.handler,⟨by have:=hok.pc;dsimp only;omega,hok.pc.2⟩,hok.trap,hok.code⟩⟩
theorem Kk{n Xv:Int}{ts:List DTh}{i:Nat}{t:DTh}(ht:ts[i]?=some t):fe i Xv ts=some (2,List.modify ts i λt=>(4,t.2.1,t.2.2.1,t.2.2.2.1,t.2.2.2.2.1,t.2.2.2.2.2.1,Xv,0),()):=by
 refine eJ ?_;have hl:=(oGS ht).1;refine Ok.get hl λ_ _=>?_;refine Ok.get (by simp_all) λ_ _=>?_;refine Ok.get (by simp_all) λ_ _=>?_;rw[iy,iy];exact Ok.ret rfl
theorem vJ.ended{K:Int->Prop}{n Xv:Int}{t:DTh}(h:vJ K n t)(hw:0<=Xv/\Xv<=6):vJ K n (4,t.2.1,t.2.2.1,t.2.2.2.1,t.2.2.2.2.1,t.2.2.2.2.2.1,Xv,0):=
 ⟨⟨by omega,by omega⟩,h.len,h.regs,h.pc,h.count,h.handler,h.saved,hw,⟨by simp_all,by simp_all⟩⟩
theorem rZ{ss bs:List Int}{key a:Int}(h:LV bs ss)(ha:0<=a/\a<=65535):Ok (eW bs key ss a) λr=>(r.2.2.1=true->∃b n,0<=r.1/\bs[r.1.toNat]?=some b/\ss[r.1.toNat]?=some n/\0<=r.2.1/\r.2.1<n/\a=b+r.2.1):=by
 obtain⟨hs,hl,hr⟩:=h;have XG:=hs.2.1;unfold eW;delta dM
 try dsimp only
 obtain⟨t,e,ht⟩:=fF (f:=eH) (n:=NN) (s:=(ss,a,bs,(bs.length:Int),0,bs,key,0,0,())) (P:=λs'=>∃k:Nat,s'=(ss,a,bs,(bs.length:Int),(k:Int),bs,key,0,0,())/\k<=bs.length)
  (R:=λr=>(∃x y,r=.inl (true,x,y,())/\∃b n,0<=x/\bs[x.toNat]?=some b/\ss[x.toNat]?=some n/\0<=y/\y<n/\a=b+y)\/∃z,r=.inr z) (m:=λs'=>(s'.2.2.2.1-s'.2.2.2.2.1).toNat) ⟨0,rfl,by omega⟩ (by unfold NN;dsimp only;omega) (by
   rintro _ ⟨k,rfl,hk⟩;unfold eH;dsimp only
   (with_reducible refine dF (λZ'=>?_) λZ'=>?_)
   ·rw[dL];simp only[oBS];obtain⟨b,hb⟩:∃b,bs[k]?=some b:=⟨_,oGE (by omega)⟩;obtain⟨y,hy⟩:∃y,ss[k]?=some y:=⟨_,oGE (by omega)⟩;have W6:=hs.2.2 y (dO hy);have WJ:=hr k (by omega);unfold sx at WJ;rw[ee hb,ee hy]at WJ;rw[show dI bs k=some b from hb];rw[show dI ss k=some y from hy];simp only[oBS];rw[dP (x:=b+y) (by omega) (by omega)];by_cases h1:a>=b
    ·by_cases h2:a<b+y
     ·simp only[h1,h2,decide_true,oCT];rw[dP (x:=a-b) (by omega) (by omega)];exact Ok.ret (.inl ⟨_,_,rfl,b,y,by omega,by rw[oTN];exact hb,by rw[oTN];exact hy,by omega,by omega,by omega⟩)
     ·simp only[h1,h2,decide_true,decide_false,oCT,oCF]
      (simp (disch:=omega) only [dP,dX,dT,dV])
      exact Ok.ret ⟨⟨k+1,rfl,by omega⟩,by dsimp only;omega⟩
    ·simp only[h1,decide_false,oCF]
     (simp (disch:=omega) only [dP,dX,dT,dV])
     exact Ok.ret ⟨⟨k+1,rfl,by omega⟩,by dsimp only;omega⟩
   ·exact Ok.ret (.inr ⟨_,rfl⟩))
 rw[e]
 rcases ht with⟨x,y,rfl,W5⟩|⟨z,rfl⟩
 ·exact Ok.ret λ_=>W5
 ·exact Ok.ret λh=>by cases h
theorem xr{ss:List Int}{r o:Int}:Ok (fD ss r o) λx=>x.1=true->0<=r/\0<=o/\∃n,ss[r.toNat]?=some n/\o<n:=by
 unfold fD;delta dM
 (with_reducible refine dF (λZ'=>?_) λZ'=>?_)
 ·(with_reducible refine dF (λZ3=>?_) λZ3=>?_)
  ·(with_reducible refine dF (λhcc=>?_) λhcc=>?_)
   ·refine Ok.nat (by omega) λj hj=>?_;refine Ok.get (by omega) λn hn=>?_;exact Ok.ret λh=>⟨by omega,by omega,n,by simp_all,of_decide_eq_true h⟩
   ·exact Ok.ret λh=>by cases h
  ·exact Ok.ret λh=>by cases h
 ·exact Ok.ret λh=>by cases h
theorem uA{ss bs:List Int}{key tag v n:Int}{back:Bool}(h:LV bs ss)(hv:W16 v)(hn:W16 n):Ok (fk bs key ss tag v n back) λr=>∃t x e,r=(t,x,e,())/\mg (RK bs ss) (t,x)/\0<=e/\e<=6/\(e=0->x<512):=by
 have hz:∀e:Int,0<e->e<=6->∃t x e',((0:Int),(0:Int),e,())=(t,x,e',())/\mg (RK bs ss) (t,x)/\0<=e'/\e'<=6/\(e'=0->x<512):=λe h1 h2=>⟨0,0,e,rfl,kS (by decide),by omega,h2,by omega⟩;obtain⟨v0,v1⟩:=hv;obtain⟨n0,n1⟩:=hn;unfold fk
 (with_reducible refine dF (λZ'=>?_) λZ'=>?_)
 ·exact Ok.ret (hz 3 (by decide) (by decide))
 ·rw[dT (x:=v) (by omega) (by omega),dT (x:=n) (by omega) (by omega)];refine(rZ h ⟨v0,v1⟩).bind ?_;rintro⟨r,o,ok,_⟩ Y2;dsimp only at Y2⊢
  (with_reducible refine dF (λZ3=>?_) λZ3=>?_)
  ·exact Ok.ret (hz 4 (by decide) (by decide))
  ·obtain⟨b,z,O9,hb,Pv,E',I',_⟩:=Y2 Z3;have XJ:=h.1.2.2 z (dO Pv);refine Ok.bind (P:=λx=>∃o',x=(ss,bs,key,0,0,r,o',())/\-70000<=o'/\o'<=70000) ?_ ?_
   ·refine Ok.cond (λ_=>?_) λ_=>?_
    all_goals
     (simp (disch:=omega) only [dP,dX,dT,dV])
     exact Ok.ret ⟨_,rfl,by omega,by omega⟩
   rintro _ ⟨o',rfl,XD,RR⟩;dsimp only;refine xr.bind ?_;rintro⟨q,_⟩ hin;dsimp only at hin⊢
   (with_reducible refine dF (λhcc=>?_) λhcc=>?_)
   ·exact Ok.ret (hz 4 (by decide) (by decide))
   ·obtain⟨_,g1,m,g2,g3⟩:=hin hcc;refine Ok.nat O9 λj hj=>?_;subst hj;rw[oTN]at hb g2;have hjl:=(oGS hb).1;have SH:=h.2.2 j hjl;unfold sx at SH;rw[ee hb,ee g2]at SH;rw[show dI bs j=some b from hb];simp only[oBS];rw[dP (x:=b+o') (by omega) (by omega),dX (x:=b+o') (by omega) (by omega)];exact Ok.ret ⟨_,_,_,rfl,⟨by dsimp only;omega,by dsimp only;omega,by dsimp only;omega,by dsimp only;omega,λ_=>⟨j,b,m,hb,g2,by dsimp only;omega,by dsimp only;omega⟩⟩,by decide,by decide,λ_=>by omega⟩
theorem jl.line{K:Int->Prop}{cs:List DCe}{ls:List DLn}(h:jl K cs ls){i:Nat}{x:DLn}{f:DLn->DLn}(hx:ls[i]?=some x)(hf:Mw K i (f x))(hg:ML cs (f x)):jl K cs (List.modify ls i f):=by
 have key:∀(j:Nat) y,(List.modify ls i f)[j]?=some y->Mw K j y/\ML cs y:=λj y hy=>by
  by_cases hij:i=j
  ·simp_all
  ·simp[hij]at hy;exact⟨h.lines j y (by simp_all),h.coh j y (by simp_all)⟩
 exact⟨h.clen,h.cells,by rw[oLM];exact h.llen,λj y hy=>(key j y hy).1,λj y hy=>(key j y hy).2⟩
theorem Et{cs xs:List DCe}{lo k:Nat}(h1:lo+4<=cs.length)(h3:4<=xs.length)(hk:k<lo\/lo+4<=k):(oL cs lo 4 xs)[k]?=cs[k]?:=by
 unfold oL;rcases hk with hk|hk
 ·rw[List.append_assoc,List.getElem?_append_left (by rw[oLT];omega),List.getElem?_take_of_lt hk]
 ·rw[List.getElem?_append_right (by simp;omega),List.getElem?_drop];congr 1;simp;omega
theorem FW{K:Int->Prop}{cs xs:List DCe}{lo n:Nat}(h1:cs.length=512)(h2:lo+n<=512)(h3:n<=xs.length)(hc:∀c∈cs,mg K c)(hx:∀c∈xs,mg K c):(oL cs lo n xs).length=512/\∀c∈oL cs lo n xs,mg K c:=by
 unfold oL;refine⟨?_,λc hh=>?_⟩
 ·simp;omega
 ·simp only[List.mem_append]at hh
  rcases hh with(hh|hh)|hh
  ·exact hc c (List.mem_of_mem_take hh)
  ·exact hx c (List.mem_of_mem_take hh)
  ·exact hc c (List.mem_of_mem_drop hh)
theorem DX{K:Int->Prop}{cs:List DCe}{ls:List DLn}{a:Int}(h:jl K cs ls)(ha:0<=a/\a<512):Ok (jH a cs ls) λr=>∃i Z4 Z2 x,r=(i,Z4,Z2,())/\jl K Z4 Z2/\Z2[i]?=some x/\x.1=a/4/\x.2.2.length=4:=by
 obtain⟨a0,a1⟩:=ha;obtain⟨h1,h2,h3,h4,h5⟩:=id h;unfold jH;rw[Int.tdiv_eq_ediv_of_nonneg a0,dP (x:=a/4) (by omega) (by omega)];dsimp only;rw[Int.tmod_eq_emod_of_nonneg (show 0<=a/4 by omega)];refine Ok.nat (by omega) λi hi=>?_
 have YV:i<ls.length:=by omega
 obtain⟨x,hx⟩:∃x,ls[i]?=some x:=⟨_,oGE YV⟩;have hg:dI ls i=some x:=hx;have hL:=h4 i x hx;simp only[hg,oBS]
 (with_reducible refine dF (λZ'=>?_) λZ'=>?_)
 ·refine Ok.ret ⟨i,cs,ls,x,rfl,h,hx,Z',?_⟩
  rcases hL with⟨g1,_,_⟩|⟨_,_,_,g,_⟩
  ·omega
  ·exact g
 ·refine Ok.bind (P:=λr=>∃Z4,r=(a/4,i,Z4,ls,())/\Z4.length=512/\(∀c∈Z4,mg K c)/\∀(j:Nat) y,ls[j]?=some y->ML Z4 y) ?_ ?_
  ·refine Ok.cond (λhd=>?_) λ_=>Ok.ret ⟨cs,rfl,h1,h2,h5⟩
   rcases hL with⟨_,g,_⟩|⟨g1,g2,g3,g4,g5⟩
   ·rw[g]at hd;cases hd
   ·rw[dP (x:=x.1*4) (by omega) (by omega)];refine Ok.nat (by omega) λq hq=>?_;refine dG (by unfold j0;simp;omega) ?_
    try simp only[hg,oBS]
    rw[g4,h1]
    have RN:Nat.min 4 (Nat.sub 512 q)=4:=by
     show min 4 (512-q)=4;omega
    rw[RN];refine dG (by unfold j0;simp;omega) ?_;refine dG rfl ?_;obtain⟨s1,s2⟩:=FW (lo:=q) (n:=4) h1 (by omega) (by omega) h2 g5;refine Ok.ret ⟨_,rfl,s1,s2,λj y hy=>?_⟩;by_cases hij:j=i
    ·subst hij;rw[hx]at hy
     injection hy with hy
     subst hy;exact .inr (.inl hd)
    ·rcases h5 j y hy with g|g|g
     ·exact .inl g
     ·exact .inr (.inl g)
     ·rcases h4 j y hy with⟨g',_,_⟩|⟨y1,y2,y3,y4,y5⟩
      ·exact .inl g'
      ·refine .inr (.inr λo ho=>?_);rw[Et (by omega) (by omega) (by omega)];exact g o ho
  rintro _ ⟨Z4,rfl,c1,c2,c3⟩;dsimp only;rw[dP (x:=a/4*4) (by omega) (by omega),dP (x:=a/4+1) (by omega) (by omega),dP (x:=(a/4+1)*4) (by omega) (by omega)];simp only[hg,oBS];refine Ok.get (by rw[oLM];exact YV) λ_ _=>?_;refine Ok.nat (by omega) λq hq=>?_;refine Ok.nat (by omega) λq2 Yx=>?_;refine dG (by unfold j0;simp;omega) ?_
  have hw:(mU Z4 q (Nat.sub q2 q)).length=4:=by
   unfold mU;rw[oLT,List.length_drop];show min (q2-q) _=4;omega
  refine dG (dS (by omega)) ?_;refine Ok.get (by rw[oLM,oLM];exact YV) λ_ _=>?_;rw[iy,iy,show List.append [] (mU Z4 q (Nat.sub q2 q))=mU Z4 q (Nat.sub q2 q)from rfl];have Zx:jl K Z4 ls:=⟨c1,c2,h3,h4,c3⟩;refine Ok.ret ⟨i,Z4,_,_,rfl,Zx.line hx (.inr ⟨by dsimp only;omega,by dsimp only;omega,by dsimp only;omega,hw,λc hc=>c2 c ?_⟩) (.inr (.inr λo ho=>?_)),pK hx,rfl,hw⟩
  ·dsimp only at hc;unfold mU at hc;exact List.mem_of_mem_drop (List.mem_of_mem_take hc)
  ·dsimp only;unfold mU;rw[hq,oTN,List.getElem?_take_of_lt (show o<Nat.sub q2 q by show o<q2-q;omega),List.getElem?_drop]
theorem Hj{K:Int->Prop}{cs:List DCe}{ls:List DLn}{a:Int}(h:jl K cs ls)(ha:0<=a/\a<512):Ok (mz a cs ls) λr=>∃t v Z4 Z2,r=(t,v,Z4,Z2,())/\mg K (t,v)/\jl K Z4 Z2:=by
 refine(DX h ha).bind ?_;rintro _ ⟨i,Z4,Z2,x,rfl,hm,hx,Z0,Ys⟩;have hg:dI Z2 i=some x:=hx;simp[hg];rw[Int.tmod_eq_emod_of_nonneg ha.1];refine Ok.nat (by omega) λj hj=>?_;refine Ok.get (by omega) λ_ _=>?_;refine Ok.get (by omega) λc hc=>?_
 have ZK:mg K c:=by
  rcases hm.lines i x hx with⟨_,_,g⟩|⟨_,_,_,_,g⟩
  ·omega
  ·exact g c (dO hc)
 exact Ok.ret ⟨_,_,_,_,rfl,ZK,hm⟩
theorem wZ{K:Int->Prop}{cs:List DCe}{ls:List DLn}{a t v:Int}(h:jl K cs ls)(ha:0<=a/\a<512)(hc:mg K (t,v)):Ok (jG a t v cs ls) λr=>∃Z4 Z2,r=(Z4,Z2,())/\jl K Z4 Z2:=by
 refine(DX h ha).bind ?_;rintro _ ⟨i,Z4,Z2,x,rfl,hm,hx,Z0,Ys⟩;have hg:dI Z2 i=some x:=hx;have YV:=(oGS hx).1;simp[hg];rw[Int.tmod_eq_emod_of_nonneg ha.1];refine Ok.nat (by omega) λj hj=>?_;refine Ok.get (by omega) λ_ _=>?_;refine Ok.get (by omega) λ_ _=>?_;refine Ok.get (by simp_all) λ_ _=>?_;rw[iy];refine Ok.ret ⟨_,_,rfl,hm.line hx ?_ (.inr (.inl rfl))⟩
 rcases hm.lines i x hx with⟨_,_,g⟩|⟨g1,g2,g3,g4,g5⟩
 ·omega
 ·exact .inr ⟨g1,g2,g3,by simp_all,iz g5 λ_ _=>hc⟩
theorem nq(x:Int):W16 (wk .u16 x):=by
 unfold wk;rw[xJ];exact⟨by omega,by omega⟩
theorem JM{ss bs:List Int}{key t v t' v':Int}(h:LV bs ss)(hv:W16 v)(YP:W16 v'):Ok (jF bs key ss t v t' v') λ_=>True:=by
 obtain⟨v0,v1⟩:=hv;obtain⟨u0,u1⟩:=YP;unfold jF;rw[dT (x:=v) (by omega) (by omega),dT (by omega) (by omega)];refine(rZ h ⟨v0,v1⟩).bind ?_;rintro⟨r,o,ok,_⟩ _;refine(rZ h ⟨u0,u1⟩).bind ?_;rintro⟨r',o',PF,_⟩ _;cases ok<;>cases PF<;>exact Ok.ret trivial
theorem CM(b:Bool):jf b=some (0,(bif b then 1 else 0),()):=by cases b<;>rfl
theorem L3{op b c:Int}(hb:W16 b)(hc:W16 c):Ok (jE op b c) λr=>∃v e,r=(0,v,e,())/\W16 v/\0<=e/\e<=6:=by
 obtain⟨b0,b1⟩:=hb;obtain⟨c0,c1⟩:=hc;have ZX:∀x:Int,W16 x->Ok (some ((0:Int),x,(0:Int),())) λr=>∃v e,r=(0,v,e,())/\W16 v/\0<=e/\e<=6:=λx h=>Ok.ret ⟨x,0,rfl,h,by decide,by decide⟩;have z5:Ok (some ((0:Int),(0:Int),(5:Int),())) λr=>∃v e,r=(0,v,e,())/\W16 v/\0<=e/\e<=6:=Ok.ret ⟨0,5,rfl,⟨by decide,by decide⟩,by decide,by decide⟩;have hw:=nq;unfold jE
 (with_reducible refine dF (λZ'=>?_) λZ'=>?_)
 ·exact ZX _ (nq _)
 (with_reducible refine dF (λZ3=>?_) λZ3=>?_)
 ·exact ZX _ (nq _)
 (with_reducible refine dF (λhcc=>?_) λhcc=>?_)
 ·exact ZX _ (nq _)
 have hq:∀X:Option (Int×Int×Int×Unit),c≠0->(X=(bif(op==6)then(bif(c != 0)then some ((0:Int),wk .u16 (Int.tdiv b c),(0:Int),())else none)else bif(c != 0)then some ((0:Int),Int.tmod b c,(0:Int),())else none))->Ok X λr=>∃v e,r=(0,v,e,())/\W16 v/\0<=e/\e<=6:=by
  rintro _ hne rfl;refine Ok.cond (λ_=>dG (by rw[bne_iff_ne];exact hne) (ZX _ (nq _))) λ_=>dG (by rw[bne_iff_ne];exact hne) (ZX _ ?_);rw[Int.tmod_eq_emod_of_nonneg b0];have h1:=Int.emod_nonneg b hne;have h2:=Int.emod_lt_of_pos b (show 0<c by omega);exact⟨h1,by omega⟩
 (with_reducible refine dF (λXx=>?_) λXx=>?_)
 ·(with_reducible refine dF (λWu=>?_) λWu=>?_)
  ·exact z5
  ·simp_all
 (with_reducible refine dF (λXx=>?_) λXx=>?_)
 ·(with_reducible refine dF (λWu=>?_) λWu=>?_)
  ·exact z5
  ·simp_all
 (with_reducible refine dF (λVT=>?_) λVT=>?_)
 ·exact ZX _ (hw _)
 (with_reducible refine dF (λVT=>?_) λVT=>?_)
 ·exact ZX _ (hw _)
 (with_reducible refine dF (λVT=>?_) λVT=>?_)
 ·exact ZX _ (hw _)
 (with_reducible refine dF (λVT=>?_) λVT=>?_)
 ·rw[Int.tmod_eq_emod_of_nonneg c0];refine Ok.nat (by omega) λj hj=>?_;exact ZX _ (hw _)
 (with_reducible refine dF (λVT=>?_) λVT=>?_)
 ·rw[Int.tmod_eq_emod_of_nonneg c0];refine Ok.nat (by omega) λj hj=>ZX _ ?_;show W16 (Int.fdiv b (2 ^ (min j 16)));have hp:(0:Int)<2 ^ (min j 16):=Int.pow_pos (by decide);rw[Int.fdiv_eq_ediv_of_nonneg _ (by omega)];exact⟨Int.ediv_nonneg b0 (by omega),by have:=Int.ediv_le_self (2 ^ (min j 16)) b0;omega⟩
 rw[CM];refine ZX _ ?_;cases decide (b<c)
 ·exact⟨by decide,by decide⟩
 ·exact⟨by decide,by decide⟩
def Kg(K:Int->Prop)(r:Int×Int×Int×Unit):Prop:=∃t v e,r=(t,v,e,())/\mg K (t,v)/\0<=e/\e<=6
theorem oY{K:Int->Prop}{t v e:Int}(h:mg K (t,v))(h0:0<=e)(h1:e<=6):Ok (some (t,v,e,())) (Kg K):=Ok.ret ⟨t,v,e,rfl,h,h0,h1⟩
theorem tY{K:Int->Prop}{v:Int}(h:W16 v):mg K (0,v):=kS h
theorem Bs{K:Int->Prop}(b:Bool):mg K (0,bif b then 1 else 0):=tY (by cases b<;>exact⟨by decide,by decide⟩)
theorem qD{K:Int->Prop}:mg K (0,0):=tY ⟨by decide,by decide⟩
theorem MZ{ss bs:List Int}{key op t v t' v':Int}(h:LV bs ss)(hb:mg (RK bs ss) (t,v))(hc:mg (RK bs ss) (t',v')):Ok (pD bs key ss op t v t' v') (Kg (RK bs ss)):=by
 obtain⟨t0,t2,v0,v1,_⟩:=hb;obtain⟨u0,u2,w0,w1,_⟩:=hc;dsimp only at t0 t2 v0 v1 u0 u2 w0 w1;obtain⟨_,eN,n1,n2,rfl,Xb,U5,OY⟩:=L3 (op:=op) (b:=v) (c:=v') ⟨v0,v1⟩ ⟨w0,w1⟩;obtain⟨_,eA,a1,a2,a3,rfl,XN,W8,Ol,_⟩:=uA (key:=key) (tag:=t) (back:=false) h (v:=v) (n:=v') ⟨v0,v1⟩ ⟨w0,w1⟩;obtain⟨_,eB,b1,b2,b3,rfl,hb1,ZW,Vr,_⟩:=uA (key:=key) (tag:=t') (back:=false) h (v:=v') (n:=v) ⟨w0,w1⟩ ⟨v0,v1⟩;obtain⟨_,eC,c1,c2,c3,rfl,ZS,ZK,Tc,_⟩:=uA (key:=key) (tag:=t) (back:=true) h (v:=v) (n:=v') ⟨v0,v1⟩ ⟨w0,w1⟩;obtain⟨⟨p1,p2,p3,p4,ok,_⟩,eP,_⟩:=JM (key:=key) (t:=t) (t':=t') h (v:=v) (v':=v') ⟨v0,v1⟩ ⟨w0,w1⟩;unfold pD
 (with_reducible refine dF (λZ'=>?_) λZ'=>?_)
 ·exact oY qD (by decide) (by decide)
 (with_reducible refine dF (λZ3=>?_) λZ3=>?_)
 ·exact oY qD (by decide) (by decide)
 cases h14:(op==14)with
 |true=>
  simp only[oCT,CM,oBS];exact oY (Bs _) (by decide) (by decide)
 |false=>
  simp only[oCF,eN,eA,eB,eC,eP,oBS]
  rcases(show t=0\/t=1\/t=2 by omega)with rfl|rfl|rfl<;>rcases(show t'=0\/t'=1\/t'=2 by omega)with rfl|rfl|rfl
  all_goals
   cases h3:(op==3)<;>cases h4:(op==4)<;>cases h13:(op==13)<;>simp only[Int.reduceBEq,oCT,oCF,oBS,h3,h4,h13,CM,eN,eA,eB,eC,eP,BEq.rfl]
  all_goals first
   |exact oY (tY Xb) U5 OY
   |exact oY XN W8 Ol
   |exact oY hb1 ZW Vr
   |exact oY ZS ZK Tc
   |exact oY qD (by decide) (by decide)
   |(cases ok<;>first
    |exact oY qD (by decide) (by decide)
    |exact oY (Bs _) (by decide) (by decide)
    |exact oY (tY (nq _)) (by decide) (by decide))
theorem HY{l:List Int}{k:Int}(h:DOk l k):Ok (ly l k) λr=>∃t b s k',r=(t,b,s,l,k',())/\0<=t/\t<4/\0<=b/\b<=63/\DOk l k':=by
 unfold ly
 (with_reducible refine fh (by omega) (by omega) (by omega) (λv0 k0 a0 b0 d0=>?_);try dsimp only)
 (with_reducible refine fh (by omega) (by omega) (by omega) (λv1 k1 a1 b1 d1=>?_);try dsimp only)
 (with_reducible refine Ok.nat (by omega) (λj1 hj1=>?_);try dsimp only)
 have hm:∀x∈[(0:Int),1,2,3,7,63],0<=x/\x<=63:=by simp_all
 refine Ok.get (by simp;omega) λx hx=>?_;refine Ok.get (by simp;omega) λy hy=>?_;have W6:=hm y (dO hy)
 (with_reducible refine fh (by omega) (by omega) (by omega) (λv2 k2 a2 b2 d2=>?_);try dsimp only)
 exact Ok.ret ⟨_,_,_,_,rfl,a0,b0,W6.1,W6.2,d2⟩
def gX:List DTh->Int->List Int
 | [],_=>[]
 |t::ts,i=>if t.1=1 then i::gX ts (i+1)else gX ts (i+1)
theorem xW(a b:List DTh)(i:Int):gX (a++b) i=gX a i++gX b (i+a.length):=by
 induction a generalizing i with
 |nil=>simp[gX]
 |cons t a ih=>
  simp[gX,ih];rw[show i+1+(a.length:Int)=i+((a.length+1:Nat):Int) by omega];split<;>rfl
theorem xk(a:List DTh)(i:Int):(gX a i).length<=a.length:=by
 induction a generalizing i with
 |nil=>simp[gX]
 |cons t a ih=>
  simp[gX];have:=ih (i+1);split<;>simp<;>omega
theorem EI{a:List DTh}{i x:Int}(h:x∈gX a i):i<=x/\x<i+a.length/\∃t,a[(x-i).toNat]?=some t/\t.1=1:=by
 induction a generalizing i with
 |nil=>simp[gX]at h
 |cons t a ih=>
  simp[gX]at h
  have key:x∈gX a (i+1)->i<=x/\x<i+((t::a).length:Int)/\∃t',(t::a)[(x-i).toNat]?=some t'/\t'.1=1:=by
   intro h;have ⟨h1,h2,t',h3,h4⟩:=ih h;refine⟨by omega,by simp;omega,t',?_,h4⟩;rw[show(x-i).toNat=(x-(i+1)).toNat+1 by omega,List.getElem?_cons_succ];exact h3
  split at h
  ·rename_i ht;rcases List.mem_cons.1 h with rfl|h
   ·exact⟨by omega,by simp;omega,t,by simp,ht⟩
   ·exact key h
  ·exact key h
theorem IW{ts:List DTh}(h:ts.length<=1000):ll ts=some (gX ts 0,()):=by
 have e:dU gO NN (ts,(ts.length:Int),0,[],())=some (ts,(ts.length:Int),(ts.length:Int),false,gX ts 0,()):=by
  have:=l8 (f:=gO) (N:=NN) (st:=λk=>(ts,(ts.length:Int),(k:Int),gX (ts.take k) 0,())) (n:=ts.length) (t:=(ts,(ts.length:Int),(ts.length:Int),false,gX ts 0,())) (by unfold NN;omega) ?_ ?_
  ·exact this
  ·intro k hk;unfold gO;dsimp only
   (with_reducible refine dF (λZ'=>?_) λZ'=>?_)
   ·rw[dL];simp;obtain⟨x,hx⟩:∃x,ts[k]?=some x:=⟨_,oGE hk⟩;rw[show dI ts k=some x from hx];simp;have hlen:=xk (ts.take k) 0;rw[oLT]at hlen
    have VA:gX (ts.take (k+1)) 0=gX (ts.take k) 0++(if x.1=1 then[(k:Int)]else[]):=by
     rw[List.take_add_one,hx,xW];congr 1;rw[oLT,show 0+((min k ts.length:Nat):Int)=(k:Int) by omega];simp only[Option.toList,gX]
    refine Ok.bind (P:=(·=(ts,(ts.length:Int),(k:Int),gX (ts.take (k+1)) 0,()))) ?_ ?_
    ·(with_reducible refine dF (λZ3=>?_) λZ3=>?_)
     ·refine dG (dS (by simp;omega)) ?_;rw[VA,oIP Z3];exact Ok.ret rfl
     ·rw[VA,oIN Z3,List.append_nil];exact Ok.ret rfl
    ·rintro _ rfl
     (simp (disch:=omega) only [dP,dX,dT,dV])
     exact Ok.ret rfl
   ·omega
  ·unfold gO;dsimp only
   (with_reducible refine dF (λZ'=>?_) λZ'=>?_)
   ·omega
   ·rw[List.take_length];exact Ok.ret rfl
 refine eJ ?_;unfold ll;delta dM
 try dsimp only
 rw[e];exact Ok.ret rfl
theorem vm{ow:List Int}{qs:List (List Int)}(h:iq ow qs):kK ow qs=some (ow,qs,()):=by
 have O6:∀q∈qs,q.length<=4:=λq hq=>h.qlen4 hq;obtain⟨h1,h2,h3,h4⟩:=h
 have e:dU g9 NN (qs,(qs.length:Int),0,ow,qs,(),(),ow,[],())=some (qs,(qs.length:Int),(qs.length:Int),false,ow,qs,(),(),ow,qs,()):=by
  have:=l8 (f:=g9) (N:=NN) (st:=λk=>(qs,(qs.length:Int),(k:Int),ow,qs,(),(),ow,qs.take k,())) (n:=qs.length) (t:=(qs,(qs.length:Int),(qs.length:Int),false,ow,qs,(),(),ow,qs,())) (by unfold NN;omega) ?_ ?_
  ·exact this
  ·intro k hk;unfold g9
   (with_reducible refine dF (λZ'=>?_) λZ'=>?_)
   ·rw[dL];refine Ok.get (by omega) λx hx=>?_;have:=O6 x (dO hx);refine dG (dS (by omega)) (dG (dS (by simp;omega)) ?_)
    (simp (disch:=omega) only [dP,dX,dT,dV])
    refine Ok.ret ?_;rw[List.take_add_one,hx];rfl
   ·omega
  ·unfold g9
   (with_reducible refine dF (λZ'=>?_) λZ'=>?_)
   ·omega
   ·rw[List.take_length];exact Ok.ret rfl
 refine eJ ?_;refine dG (dS (by omega)) ?_;rw[show List.append [] ow=ow from rfl];delta dM
 try dsimp only
 rw[e];exact Ok.ret rfl
theorem CJ{ow:List Int}{qs:List (List Int)}{lock t:Int}(h:iq ow qs):Ok (jd ow qs lock t) λr=>∃Zk qs' n b,r=(Zk,qs',n,b,())/\iq Zk qs'/\-1<=n/\n<=3:=by
 unfold jd;rw[vm h];obtain⟨h1,h2,h3,h4⟩:=id h;refine Ok.bind (P:=λr=>∃b,r=(lock,b,(),(),ow,qs,())/\(b=false->0<=lock/\lock<4)) ?_ ?_
 ·(with_reducible refine dF (λZ'=>?_) λZ'=>?_)
  ·exact Ok.ret ⟨true,rfl,λh=>by cases h⟩
  ·(with_reducible refine dF (λZ3=>?_) λZ3=>?_)
   ·exact Ok.ret ⟨true,rfl,λh=>by cases h⟩
   ·refine Ok.nat (by omega) λj hj=>?_;refine Ok.get (by omega) λx hx=>?_;exact Ok.ret ⟨_,rfl,λ_=>⟨by omega,by omega⟩⟩
 rintro _ ⟨b,rfl,hb⟩;dsimp only;refine Ok.cond (λ_=>Ok.ret ⟨_,_,_,_,rfl,h,by omega,by omega⟩) λRh=>?_;obtain⟨l0,l1⟩:=hb Rh;obtain⟨j,rfl⟩:∃j:Nat,lock=j:=⟨lock.toNat,by omega⟩;obtain⟨o,ho⟩:∃o,ow[j]?=some o:=⟨_,oGE (by omega)⟩;obtain⟨q,hq⟩:∃q,qs[j]?=some q:=⟨_,oGE (by omega)⟩;have go:dI ow j=some o:=ho;have gq:dI qs j=some q:=hq;have gm:∀f:Int->Int,dI (List.modify ow j f) j=some (f o):=λf=>pK ho;have N5:∀f g:Int->Int,dI (List.modify (List.modify ow j f) j g) j=some (g (f o)):=λf g=>pK (pK ho);delta dM;simp only[dL,oBS,go,gq,gm,N5];have Xp:iq (List.modify ow j λ_=>-1) qs:=⟨by rw[oLM];exact h1,h2,iz h3 λ_ _=>⟨by omega,by omega⟩,h4⟩
 (with_reducible refine dF (λhcc=>?_) λhcc=>?_)
 ·obtain⟨x,hx⟩:∃x,q[0]?=some x:=⟨_,oGE (by omega)⟩;have gx:dI q 0=some x:=hx;have Ys:=(h4 q (dO hq)).2 x (dO hx);simp only[gx,oBS];refine dG (by unfold j0;simp;omega) ?_;refine Ok.ret ⟨_,_,_,_,rfl,⟨by rw[oLM,oLM];exact h1,by rw[oLM];exact h2,iz (iz h3 λ_ _=>⟨by omega,by omega⟩) λ_ _=>⟨by omega,by omega⟩,iz h4 λ_ _=>?_⟩,by omega,by omega⟩;obtain⟨q1,q2⟩:=h4 q (dO hq);unfold mU;have hs:(List.take (Nat.sub q.length 1) (List.drop 1 q)).Sublist q:=(List.take_sublist _ _).trans (List.drop_sublist _ _);exact⟨q1.sublist hs,λt ht=>q2 t (hs.subset ht)⟩
 ·exact Ok.ret ⟨_,_,_,_,rfl,Xp,by omega,by omega⟩
theorem EX{q:List Int}{x:Int}(h:q.Nodup)(hx:x ∉ q):(q++[x]).Nodup:=by
 grind
theorem Li{ow:List Int}{qs:List (List Int)}{t:Int}(h:iq ow qs):Ok (my ow qs t) λr=>∃Zk qs' nx,r=(Zk,qs',nx,())/\iq Zk qs'/\nx.length<=4/\∀x∈nx,0<=x/\x<=3:=by
 unfold my;rw[vm h];delta dM;simp only[oBS];have h2:=h.qlen;refine Ok.loop (P:=λs'=>∃k:Nat,∃qs',s'=(t,(qs.length:Int),(k:Int),(),(),ow,qs',())/\k<=qs.length/\iq ow qs') (R:=λr=>∃a b c qs',r=(t,a,b,c,(),(),ow,qs',())/\iq ow qs') (m:=λs'=>(s'.2.1-s'.2.2.1).toNat) ⟨0,qs,rfl,by omega,h⟩ (by unfold NN;dsimp only;omega) ?_ ?_
 ·rintro _ ⟨k,qs',rfl,hk,hl⟩;obtain⟨g1,g2,g3,g4⟩:=id hl;unfold oF;dsimp only
  (with_reducible refine dF (λZ'=>?_) λZ'=>?_)
  ·obtain⟨q,hq⟩:∃q,qs'[k]?=some q:=⟨_,oGE (by omega)⟩;have gq:dI qs' k=some q:=hq;obtain⟨q1,q2⟩:=g4 q (dO hq);have q3:=hl.qlen4 (dO hq);delta dM;simp only[dL,oBS,gq]
   refine Ok.loop (P:=λs'=>∃j:Nat,∃l,s'=(t,(k:Int),(qs.length:Int),(k:Int),k,(q.length:Int),(j:Int),(),(),ow,qs',l,())/\j<=q.length/\l.Sublist (q.take j))
    (R:=λr=>∃a b c d l,r=(t,(k:Int),(qs.length:Int),(k:Int),a,b,c,d,(),(),ow,qs',l,())/\l.Sublist q) (m:=λs'=>(s'.2.2.2.2.2.1-s'.2.2.2.2.2.2.1).toNat) ⟨0,[],rfl,by omega,by simp⟩ (by unfold NN;dsimp only;omega) ?_ ?_
   ·rintro _ ⟨j,l,rfl,hj,Z9⟩;unfold oG;dsimp only
    (with_reducible refine dF (λZ3=>?_) λZ3=>?_)
    ·obtain⟨x,hx⟩:∃x,q[j]?=some x:=⟨_,oGE (by omega)⟩;have gx:dI q j=some x:=hx;simp only[dL,oBS,gq,gx];have U4:=Z9.length_le;rw[oLT]at U4
     have Qu:q.take (j+1)=q.take j++[x]:=by rw[List.take_add_one,hx];rfl
     refine Ok.bind (P:=λr=>∃l',r=(t,(k:Int),(qs.length:Int),(k:Int),k,(q.length:Int),(j:Int),(),(),ow,qs',l',())/\l'.Sublist (q.take (j+1))) ?_ ?_
     ·refine Ok.cond (λ_=>dG (dS (by simp;omega)) (Ok.ret ⟨_,rfl,?_⟩)) λ_=>Ok.ret ⟨l,rfl,?_⟩
      ·rw[Qu];exact Z9.append (List.Sublist.refl _)
      ·rw[Qu];exact Z9.trans (List.sublist_append_left _ _)
     ·rintro _ ⟨l',rfl,hs⟩;dsimp only
      (simp (disch:=omega) only [dP,dX,dT,dV])
      exact Ok.ret ⟨⟨j+1,l',rfl,by omega,hs⟩,by dsimp only;omega⟩
    ·exact Ok.ret ⟨_,_,_,_,l,rfl,Z9.trans (List.take_sublist _ _)⟩
   ·rintro _ ⟨a,b,c,d,l,rfl,hs⟩;dsimp only;simp only[dL,oBS,gq]
    (simp (disch:=omega) only [dP,dX,dT,dV])
    exact Ok.ret ⟨⟨k+1,_,rfl,by omega,⟨g1,by rw[oLM];exact g2,g3,iz g4 λ_ _=>⟨q1.sublist hs,λt ht=>q2 t (hs.subset ht)⟩⟩⟩,by dsimp only;omega⟩
  ·exact Ok.ret ⟨_,_,_,qs',rfl,hl⟩
 ·rintro _ ⟨a,b,c,qs',rfl,hl⟩;dsimp only
  refine Ok.loop (P:=λs'=>∃k:Nat,∃Zk qs' nx,s'=(t,4,(k:Int),(),(),Zk,qs',nx,())/\k<=4/\nx.length<=k/\iq Zk qs'/\∀x∈nx,0<=x/\x<=3) (R:=λr=>∃a b c Zk qs' nx,r=(t,a,b,c,(),(),Zk,qs',nx,())/\iq Zk qs'/\nx.length<=4/\∀x∈nx,0<=x/\x<=3) (m:=λs'=>(4-s'.2.2.1).toNat)
   ⟨0,ow,qs',[],by rw[hl.olen];rfl,by omega,by simp,hl,ef⟩ (by unfold NN;dsimp only;omega) ?_ ?_
  ·rintro _ ⟨k,Zk,qs',nx,rfl,hk,XY,YR,Xc⟩;unfold oE;dsimp only
   (with_reducible refine dF (λZ'=>?_) λZ'=>?_)
   ·refine(CJ YR).bind ?_;rintro _ ⟨QM,QN,n,bb,rfl,X',n0,n1⟩;dsimp only;refine Ok.bind (P:=λr=>∃SO,r=(t,4,(k:Int),(),(),Zk,qs',SO,QM,QN,())/\SO.length<=k+1/\∀x∈SO,0<=x/\x<=3) ?_ ?_
    ·refine Ok.cond (λ_=>?_) λ_=>Ok.ret ⟨nx,rfl,by omega,Xc⟩
     (with_reducible refine dF (λZ3=>?_) λZ3=>?_)
     ·refine dG (dS (by simp;omega)) (Ok.ret ⟨_,rfl,by rw[eV];simp;omega,iD Xc (all_cons ⟨by omega,n1⟩ ef)⟩)
     ·exact Ok.ret ⟨nx,rfl,by omega,Xc⟩
    ·rintro _ ⟨SO,rfl,Xb,U5⟩;dsimp only
     (simp (disch:=omega) only [dP,dX,dT,dV])
     exact Ok.ret ⟨⟨k+1,_,_,_,rfl,by omega,Xb,X',U5⟩,by dsimp only;omega⟩
   ·exact Ok.ret ⟨_,_,_,_,_,_,rfl,YR,by omega,Xc⟩
  ·rintro _ ⟨a,b,c,Zk,qs',nx,rfl,YR,Qo,Xc⟩;exact Ok.ret ⟨_,_,_,rfl,YR,Qo,Xc⟩
theorem Kn{ow:List Int}{qs:List (List Int)}{lock t:Int}(h:iq ow qs)(ht:0<=t/\t<=3):Ok (mw ow qs lock t) λr=>∃Zk qs' n,r=(Zk,qs',n,())/\iq Zk qs':=by
 unfold mw;rw[vm h];simp only[oBS];obtain⟨h1,h2,h3,h4⟩:=id h;refine Ok.bind (P:=λr=>∃b,r=(lock,t,b,ow,qs,(),(),ow,qs,())/\(b=false->0<=lock/\lock<4)) ?_ ?_
 ·(with_reducible refine dF (λZ'=>?_) λZ'=>?_)
  ·exact Ok.ret ⟨true,rfl,λh=>by cases h⟩
  ·(with_reducible refine dF (λZ3=>?_) λZ3=>?_)
   ·exact Ok.ret ⟨true,rfl,λh=>by cases h⟩
   ·refine Ok.nat (by omega) λj hj=>?_;refine Ok.get (by omega) λx hx=>?_;exact Ok.ret ⟨_,rfl,λ_=>⟨by omega,by omega⟩⟩
 rintro _ ⟨b,rfl,hb⟩;dsimp only;refine Ok.cond (λ_=>Ok.ret ⟨_,_,_,rfl,h⟩) λRh=>?_;obtain⟨l0,l1⟩:=hb Rh;delta dM
 try dsimp only
 obtain⟨r,e,hr⟩:=fF (f:=lU) (n:=NN) (s:=(lock,t,qs,(qs.length:Int),0,ow,qs,(),(),ow,qs,())) (P:=λs'=>∃k:Nat,s'=(lock,t,qs,(qs.length:Int),(k:Int),ow,qs,(),(),ow,qs,())/\k<=qs.length/\∀(i:Nat) q,i<k->qs[i]?=some q->t ∉ q)
  (R:=λr=>r=.inl (2,ow,qs,())\/((∃a b c,r=.inr (lock,t,a,b,c,false,ow,qs,(),(),ow,qs,()))/\∀q∈qs,t ∉ q)) (m:=λs'=>(s'.2.2.2.1-s'.2.2.2.2.1).toNat) ⟨0,rfl,by omega,λi q hi=>by omega⟩ (by unfold NN;dsimp only;omega) (by
   rintro _ ⟨k,rfl,hk,ZO⟩;unfold lU;dsimp only
   (with_reducible refine dF (λZ'=>?_) λZ'=>?_)
   ·obtain⟨q,hq⟩:∃q,qs[k]?=some q:=⟨_,oGE (by omega)⟩;have gq:dI qs k=some q:=hq;have q3:=h.qlen4 (dO hq);delta dM;simp only[dL,oBS,gq]
    obtain⟨r,e,hr⟩:=fF (f:=lV) (n:=NN) (s:=(lock,t,qs,(qs.length:Int),(k:Int),q,(q.length:Int),0,ow,qs,(),(),ow,qs,())) (P:=λs'=>∃j:Nat,s'=(lock,t,qs,(qs.length:Int),(k:Int),q,(q.length:Int),(j:Int),ow,qs,(),(),ow,qs,())/\j<=q.length/\∀(i:Nat) x,i<j->q[i]?=some x->x≠t)
     (R:=λr=>r=.inl (2,ow,qs,())\/((∃a b c,r=.inr (lock,t,qs,(qs.length:Int),(k:Int),a,b,c,false,ow,qs,(),(),ow,qs,()))/\t ∉ q)) (m:=λs'=>(s'.2.2.2.2.2.2.1-s'.2.2.2.2.2.2.2.1).toNat) ⟨0,rfl,by omega,λi x hi=>by omega⟩ (by unfold NN;dsimp only;omega) (by
      rintro _ ⟨j,rfl,hj,hne⟩;unfold lV;dsimp only
      (with_reducible refine dF (λZ3=>?_) λZ3=>?_)
      ·obtain⟨x,hx⟩:∃x,q[j]?=some x:=⟨_,oGE (by omega)⟩;have gx:dI q j=some x:=hx;simp only[dL,oBS,gx]
       (with_reducible refine dF (λhcc=>?_) λhcc=>?_)
       ·exact Ok.ret (.inl rfl)
       ·(simp (disch:=omega) only [dP,dX,dT,dV])
        exact Ok.ret ⟨⟨j+1,rfl,by omega,Ed hne hx hcc⟩,by dsimp only;omega⟩
      ·refine Ok.ret (.inr ⟨⟨_,_,_,rfl⟩,λhm=>?_⟩);obtain⟨i,hi⟩:=List.getElem?_of_mem hm
       exact hne i t (by have:=(oGS hi).1;omega) hi rfl)
    rw[e];rcases hr with rfl|⟨⟨a,b,c,rfl⟩,TG⟩
    ·exact Ok.ret (.inl rfl)
    ·dsimp only
     (simp (disch:=omega) only [dP,dX,dT,dV])
     refine Ok.ret ⟨⟨k+1,rfl,by omega,λi q' hi UE=>?_⟩,by dsimp only;omega⟩;by_cases hik:i=k
     ·simp_all
     ·exact ZO i q' (by omega) UE
   ·refine Ok.ret (.inr ⟨⟨_,_,_,rfl⟩,λq hq=>?_⟩);obtain⟨i,hi⟩:=List.getElem?_of_mem hq
    exact ZO i q (by have:=(oGS hi).1;omega) hi)
 rw[e];rcases hr with rfl|⟨⟨a,b,c,rfl⟩,TG⟩
 ·exact Ok.ret ⟨_,_,_,rfl,h⟩
 ·dsimp only;obtain⟨j,rfl⟩:∃j:Nat,lock=j:=⟨lock.toNat,by omega⟩;obtain⟨o,ho⟩:∃o,ow[j]?=some o:=⟨_,oGE (by omega)⟩;obtain⟨q,hq⟩:∃q,qs[j]?=some q:=⟨_,oGE (by omega)⟩;have go:dI ow j=some o:=ho;have gq:dI qs j=some q:=hq;simp only[dL,oBS,go,gq]
  (with_reducible refine dF (λXx=>?_) λXx=>?_)
  ·exact Ok.ret ⟨_,_,_,rfl,⟨by rw[oLM];exact h1,h2,iz h3 λ_ _=>⟨by omega,ht.2⟩,h4⟩⟩
  ·have q3:=h.qlen4 (dO hq);refine dG (dS (by simp;omega)) (dG (by simp) (Ok.ret ⟨_,_,_,rfl,⟨h1,by rw[oLM];exact h2,h3,iz h4 λ_ _=>⟨?_,?_⟩⟩⟩))
   ·exact EX (h4 q (dO hq)).1 (TG q (dO hq))
   ·exact iD (h4 q (dO hq)).2 (all_cons ht ef)
theorem eq{α:Type}{l:List α}{i:Nat}{a:α}(h:l[i]?=some a)(f:α->α):List.modify l i f=l.set i (f a):=by
 apply List.ext_getElem?
 grind
theorem gG{α:Type}{l:List α}{i:Nat}(h:i<l.length)(a:α):dI (l.set i a) i=some a:=by
 show(l.set i a)[i]?=some a
 simp_all
theorem m6{α:Type}{l:List α}{i:Nat}(h:i<l.length)(a:α)(f:α->α):List.modify (l.set i a) i f=l.set i (f a):=by
 rw[eq (gG h a),List.set_set]
theorem ii{α:Type}{P:α->Prop}{l:List α}{i:Nat}{a:α}(h:∀x∈l,P x)(ha:P a):∀x∈l.set i a,P x:=by
 grind
theorem MOk.set{n:Int}{ss bs:List Int}{cs Z4:List DCe}{ls Z2:List DLn}{ts:List DTh}(h:MOk n ss bs cs ls ts)(hm:jl (RK bs ss) Z4 Z2){i:Nat}{t:DTh}(ht:vJ (RK bs ss) n t):MOk n ss bs Z4 Z2 (ts.set i t):=
 ⟨h.lay,hm,by rw[List.length_set];exact h.tlen,ii h.thr ht⟩
def Nv(code:List DIn)(t:DTh)(s:Int)(t':DTh):Prop:=
 (s=-1/\t'.1=1/\((t'.2.2.2.1=t.2.2.2.1/\t'.2.2.1=t.2.2.1+1)\/t'.2.2.2.1=t.2.2.2.1+1))\/(s=2/\t'.1=4/\t'.2.2.2.1=t.2.2.2.1)\/
  (s=1/\t'.1=2/\t'.2.2.2.1=t.2.2.2.1/\∃i:DIn,1<=t'.2.2.1/\code[(t'.2.2.1-1).toNat]?=some i/\i.1=23)
def Dd(n key:Int)(code:List DIn)(ss bs:List Int)(ts:List DTh)(i:Nat)(t:DTh)(r:Int×List Int×Int×List DCe×List DLn×List DTh×Unit):Prop:=
 ∃s Z4 Z2 t',r=(s,bs,key,Z4,Z2,ts.set i t',())/\jl (RK bs ss) Z4 Z2/\vJ (RK bs ss) n t'/\Nv code t s t'
theorem l9{n key:Int}{code:List DIn}{ss bs:List Int}{ts:List DTh}{i:Nat}{t t':DTh}{Z4:List DCe}{Z2:List DLn}(hm:jl (RK bs ss) Z4 Z2)(ht:vJ (RK bs ss) n t')(h1:t'.1=1)
 (h:(t'.2.2.2.1=t.2.2.2.1/\t'.2.2.1=t.2.2.1+1)\/t'.2.2.2.1=t.2.2.2.1+1):Ok (some (-1,bs,key,Z4,Z2,ts.set i t',())) (Dd n key code ss bs ts i t):=Ok.ret ⟨_,_,_,_,rfl,hm,ht,.inl ⟨rfl,h1,h⟩⟩
theorem lA{n key Xv:Int}{code:List DIn}{ss bs:List Int}{ts:List DTh}{i:Nat}{t:DTh}{Z4:List DCe}{Z2:List DLn}(hm:jl (RK bs ss) Z4 Z2)(ht:vJ (RK bs ss) n t)(hw:0<=Xv/\Xv<=6):
 Ok (some (2,bs,key,Z4,Z2,ts.set i (4,t.2.1,t.2.2.1,t.2.2.2.1,t.2.2.2.2.1,t.2.2.2.2.2.1,Xv,0),())) (Dd n key code ss bs ts i t):=Ok.ret ⟨_,_,_,_,rfl,hm,ht.ended hw,.inr (.inl ⟨rfl,rfl,rfl⟩)⟩
theorem gQ(op:Int):kv op=some (mi op||op==22||op==24,()):=by
 unfold kv;rw[uQ]
 grind
set_option maxHeartbeats 4000000 in
theorem L1{n key:Int}{code:List DIn}{ss bs:List Int}{d:List (List Int)}{cs:List DCe}{ls:List DLn}{ts:List DTh}{i:Nat}{t:DTh}(hp:jX code ss d)(h:MOk n ss bs cs ls ts)(ht:ts[i]?=some t)(hs:t.1=1)
 (hc:t.2.2.2.1+1<=n)(hn:n<=1099511627776):Ok (nB code ss d (i:Int) bs key cs ls ts) (Dd n key code ss bs ts i t):=by
 have hok:=h.thr t (dO ht);have hm:=h.mem;obtain⟨_,hl,hr,⟨p0,p1⟩,⟨c0,c1⟩,ha,⟨s0,s1⟩,⟨r0,r1⟩,P8⟩:=id hok;obtain⟨st,rs,pc,ct,hd,sa,tr,co⟩:=t;dsimp only at *;subst hs;have YV:=(oGS ht).1;have hg:dI ts i=some (1,rs,pc,ct,hd,sa,tr,co):=ht;have e1:∀f:DTh->DTh,List.modify ts i f=ts.set i (f (1,rs,pc,ct,hd,sa,tr,co)):=λf=>eq ht f;have e2:∀x,dI (ts.set i x) i=some x:=λx=>gG YV x;have e3:∀(x:DTh)(f:DTh->DTh),List.modify (ts.set i x) i f=ts.set i (f x):=λx f=>m6 YV x f
 have eT:∀Xv,fe (i:Nat) Xv ts=some (2,ts.set i (4,rs,pc,ct,hd,sa,Xv,0),()):=λXv=>by rw[Kk (n:=n) ht,e1]
 have mk:∀{So:List DCe}{Sm Q1 Sp:Int},So.length=8->(∀c∈So,mg (RK bs ss) c)->0<=Sm/\Sm<=255->0<=Q1/\Q1<=n->-1<=Sp/\Sp<=255->vJ (RK bs ss) n (1,So,Sm,Q1,hd,Sp,tr,co):=
  λh1 h2 h3 h4 h5=>⟨⟨show(0:Int)<=1 by decide,show(1:Int)<=4 by decide⟩,h1,h2,h3,h4,ha,h5,⟨r0,r1⟩,P8⟩
 unfold nB;rw[dL];delta dM;simp only[hg,oBS]
 (with_reducible refine dF (λZ'=>?_) λZ'=>?_)
 ·rw[eT 2];exact lA hm hok (by decide)
 refine Ok.nat p0 λj hj=>?_;subst hj;have Ze:=hp.clen;refine Ok.get (by omega) λx hx=>?_;obtain⟨op,A,B,C,I⟩:=x;obtain⟨⟨o0,o1⟩,⟨A0,A1,_⟩,⟨B0,B1,_⟩,⟨C0,C1,_⟩,⟨I0,I1,_⟩,RL,Pg,V3⟩:=hp.ins _ (dO hx);dsimp only at *;obtain⟨A,rfl⟩:∃k:Nat,A=k:=⟨A.toNat,by omega⟩;obtain⟨B,rfl⟩:∃k:Nat,B=k:=⟨B.toNat,by omega⟩;obtain⟨C,rfl⟩:∃k:Nat,C=k:=⟨C.toNat,by omega⟩;obtain⟨I,rfl⟩:∃k:Nat,I=k:=⟨I.toNat,by omega⟩;obtain⟨⟨ta,va⟩,gA⟩:∃c,dI rs A=some c:=⟨_,oGE (by omega)⟩;obtain⟨⟨tb,vb⟩,gB⟩:∃c,dI rs B=some c:=⟨_,oGE (by omega)⟩;obtain⟨⟨tc,vc⟩,gC⟩:∃c,dI rs C=some c:=⟨_,oGE (by omega)⟩;have cA:=hr _ (dO gA);have cB:=hr _ (dO gB);have cC:=hr _ (dO gC);have eR:∀f:DCe->DCe,List.modify rs A f=rs.set A (f (ta,va)):=λf=>eq gA f;have w1:w64 ((j:Int)+1)=(j:Int)+1:=dP (by omega) (by omega);have wI:wk .u16 (I:Int)=I:=dX (by omega) (by omega);have Zo:∀{c:DCe},mg (RK bs ss) c->(rs.set A c).length=8/\∀x∈rs.set A c,mg (RK bs ss) x:=λhc=>⟨by rw[List.length_set];exact hl,ii hr hc⟩;have wc:w64 (ct+1)=ct+1:=dP (by omega) (by omega);simp only[dL,hg,gA,gB,oBS,w1,wI]
 rcases(show op=0\/op=1\/op=2\/op=15\/op=16\/op=17\/op=18\/op=19\/op=20\/op=21\/op=22\/op=23\/op=24\/(3<=op/\op<=14) by omega)with rfl|rfl|rfl|rfl|rfl|rfl|rfl|rfl|rfl|rfl|rfl|rfl|rfl|⟨q0,q1⟩
 all_goals try simp only[Int.reduceBEq,oCT,oCF,dL,hg,gA,gB,gC,e1,e2,e3,eR,eT,oBS,w1,wI,wc,gQ,mi,Bool.or_false,Bool.or_true,Bool.or_self,bne_self_eq_false]
 ·exact l9 hm (mk hl hr (by omega) (by omega) (by omega)) rfl (.inl ⟨rfl,rfl⟩)
 ·exact l9 hm (mk (Zo (kS (by omega))).1 (Zo (kS (by omega))).2 (by omega) (by omega) (by omega)) rfl (.inl ⟨rfl,rfl⟩)
 ·exact l9 hm (mk (Zo cB).1 (Zo cB).2 (by omega) (by omega) (by omega)) rfl (.inl ⟨rfl,rfl⟩)
 ·have hI:=RL rfl;have S9:=h.lay.2.1;obtain⟨b,hb⟩:∃b,bs[I]?=some b:=⟨_,oGE (by omega)⟩;obtain⟨z,hz⟩:∃z,ss[I]?=some z:=⟨_,oGE (by omega)⟩;have X6:=h.lay.2.2 I (by omega);unfold sx at X6;rw[ee hb,ee hz]at X6;have XJ:=h.lay.1.2.2 z (dO hz);have wb:wk .u16 b=b:=dX (by omega) (by omega);have gb:dI bs I=some b:=hb;simp only[gb,wb,Int.reduceBEq,oCT,oCF,dL,hg,gA,gB,gC,e1,e2,e3,eR,eT,oBS,w1,wI,wc,gQ,mi,Bool.or_false,Bool.or_true,Bool.or_self,bne_self_eq_false];have Z3:mg (RK bs ss) (1,b):=⟨by dsimp only;omega,by dsimp only;omega,by dsimp only;omega,by dsimp only;omega,λ_=>⟨I,b,z,hb,hz,by dsimp only;omega,by dsimp only;omega⟩⟩;exact l9 hm (mk (Zo Z3).1 (Zo Z3).2 (by omega) (by omega) (by omega)) rfl (.inl ⟨rfl,rfl⟩)
 ·obtain⟨_,em,t1,x1,e,rfl,ZS,VX,VY,WT⟩:=uA (key:=key) (tag:=tb) (v:=vb) (n:=(I:Int)) (back:=false) h.lay ⟨cB.2.2.1,cB.2.2.2.1⟩ ⟨by omega,by omega⟩;simp only[em,oBS];by_cases hne:e=0
  ·subst hne;have wx:wk .i64 x1=x1:=dT (by have:=ZS.2.2.1;dsimp only at this;omega) (by have:=ZS.2.2.2.1;dsimp only at this;omega);obtain⟨_,el,t2,x2,VL,Wi,rfl,ZK,hm2⟩:=Hj (a:=x1) hm ⟨ZS.2.2.1,WT rfl⟩;simp only[wx,el,Int.reduceBEq,oCT,oCF,dL,hg,gA,gB,gC,e1,e2,e3,eR,eT,oBS,w1,wI,wc,gQ,mi,Bool.or_false,Bool.or_true,Bool.or_self,bne_self_eq_false];exact l9 hm2 (mk (Zo ZK).1 (Zo ZK).2 (by omega) (by omega) (by omega)) rfl (.inl ⟨rfl,rfl⟩)
  ·simp only[bne_iff_ne.2 hne,oCT];exact lA hm hok ⟨VX,VY⟩
 ·obtain⟨_,em,t1,x1,e,rfl,ZS,VX,VY,WT⟩:=uA (key:=key) (tag:=ta) (v:=va) (n:=(I:Int)) (back:=false) h.lay ⟨cA.2.2.1,cA.2.2.2.1⟩ ⟨by omega,by omega⟩;simp only[em,oBS];by_cases hne:e=0
  ·subst hne;have wx:wk .i64 x1=x1:=dT (by have:=ZS.2.2.1;dsimp only at this;omega) (by have:=ZS.2.2.2.1;dsimp only at this;omega);obtain⟨_,el,VL,Wi,rfl,hm2⟩:=wZ (a:=x1) (t:=tb) (v:=vb) hm ⟨ZS.2.2.1,WT rfl⟩ cB;simp only[wx,el,Int.reduceBEq,oCT,oCF,dL,hg,gA,gB,gC,e1,e2,e3,eR,eT,oBS,w1,wI,wc,gQ,mi,Bool.or_false,Bool.or_true,Bool.or_self,bne_self_eq_false];exact l9 hm2 (mk hl hr (by omega) (by omega) (by omega)) rfl (.inl ⟨rfl,rfl⟩)
  ·simp only[bne_iff_ne.2 hne,oCT];exact lA hm hok ⟨VX,VY⟩
 ·have:=V3 (by decide);exact l9 hm (mk hl hr (by omega) (by omega) (by omega)) rfl (.inr rfl)
 ·have:=V3 (by decide);by_cases hta:ta=0
  ·subst hta
   cases va==0 with
   |true=>
    simp only[BEq.rfl,Int.reduceBEq,oCT,oCF,dL,hg,gA,gB,gC,e1,e2,e3,eR,eT,oBS,w1,wI,wc,gQ,mi,Bool.or_false,Bool.or_true,Bool.or_self,bne_self_eq_false];exact l9 hm (mk hl hr (by omega) (by omega) (by omega)) rfl (.inr rfl)
   |false=>
    simp only[show(false==true)=false from rfl,Int.reduceBEq,oCT,oCF,dL,hg,gA,gB,gC,e1,e2,e3,eR,eT,oBS,w1,wI,wc,gQ,mi,Bool.or_false,Bool.or_true,Bool.or_self,bne_self_eq_false];exact l9 hm (mk hl hr (by omega) (by omega) (by omega)) rfl (.inr rfl)
  ·simp only[bne_iff_ne.2 hta,oCT];exact lA hm hok (by decide)
 ·have:=V3 (by decide);by_cases hta:ta=0
  ·subst hta
   cases va==0 with
   |true=>
    simp only[show(true==false)=false from rfl,Int.reduceBEq,oCT,oCF,dL,hg,gA,gB,gC,e1,e2,e3,eR,eT,oBS,w1,wI,wc,gQ,mi,Bool.or_false,Bool.or_true,Bool.or_self,bne_self_eq_false];exact l9 hm (mk hl hr (by omega) (by omega) (by omega)) rfl (.inr rfl)
   |false=>
    simp only[BEq.rfl,Int.reduceBEq,oCT,oCF,dL,hg,gA,gB,gC,e1,e2,e3,eR,eT,oBS,w1,wI,wc,gQ,mi,Bool.or_false,Bool.or_true,Bool.or_self,bne_self_eq_false];exact l9 hm (mk hl hr (by omega) (by omega) (by omega)) rfl (.inr rfl)
  ·simp only[bne_iff_ne.2 hta,oCT];exact lA hm hok (by decide)
 ·have:=V3 (by decide);have wj:wk .u16 ((j:Int)+1)=(j:Int)+1:=dX (by omega) (by omega);rw[wj];exact l9 hm (mk (Zo (kS (by omega))).1 (Zo (kS (by omega))).2 (by omega) (by omega) (by omega)) rfl (.inr rfl)
 ·by_cases hta:ta=0
  ·subst hta;have wa:wk .i64 va=va:=dT (by have:=cA.2.2.1;dsimp only at this;omega) (by have:=cA.2.2.2.1;dsimp only at this;omega);have a0:=cA.2.2.1;dsimp only at a0;by_cases hva:va>255
   ·simp only[oDT hva,bne_self_eq_false,oCT,oCF];exact lA hm hok (by decide)
   ·simp only[oDF hva,wa,Int.reduceBEq,oCT,oCF,dL,hg,gA,gB,gC,e1,e2,e3,eR,eT,oBS,w1,wI,wc,gQ,mi,Bool.or_false,Bool.or_true,Bool.or_self,bne_self_eq_false];exact l9 hm (mk hl hr (by omega) (by omega) (by omega)) rfl (.inr rfl)
  ·simp only[bne_iff_ne.2 hta,oCT];exact lA hm hok (by decide)
 ·refine Ok.ret ⟨_,_,_,_,rfl,hm,⟨⟨show(0:Int)<=2 by decide,show(2:Int)<=4 by decide⟩,hl,hr,⟨by dsimp only;omega,by dsimp only;omega⟩,⟨c0,by dsimp only;omega⟩,ha,⟨s0,s1⟩,⟨r0,r1⟩,P8⟩,.inr (.inr ⟨rfl,rfl,rfl,(23,(A:Int),(B:Int),(C:Int),(I:Int)),by dsimp only;omega,?_,rfl⟩)⟩;dsimp only;rw[show(j:Int)+1-1=(j:Int) by omega,oTN];exact hx
 ·by_cases hsa:sa=-1
  ·simp only[beq_iff_eq.2 hsa,oCT];exact lA hm hok (by decide)
  ·simp only[oBF hsa,Int.reduceBEq,oCT,oCF,dL,hg,gA,gB,gC,e1,e2,e3,eR,eT,oBS,w1,wI,wc,gQ,mi,Bool.or_false,Bool.or_true,Bool.or_self,bne_self_eq_false];exact l9 hm (mk hl hr (by omega) (by omega) (by omega)) rfl (.inr rfl)
 ·obtain⟨_,ed,t1,x1,e,rfl,ZS,VX,VY⟩:=MZ (key:=key) (op:=op) h.lay cB cC;have n0:(op==0)=false:=oBF (by omega);have n1:(op==1)=false:=oBF (by omega);have n2:(op==2)=false:=oBF (by omega);have PB:(op==15)=false:=oBF (by omega);have PC:(op==16)=false:=oBF (by omega);have PD:(op==17)=false:=oBF (by omega);have QG:(op==18)=false:=oBF (by omega);have QH:(op==19)=false:=oBF (by omega);have QI:(op==20)=false:=oBF (by omega);have QJ:(op==21)=false:=oBF (by omega);have QK:(op==22)=false:=oBF (by omega);have PE:(op==23)=false:=oBF (by omega);have QL:(op==24)=false:=oBF (by omega);simp only[n0,n1,n2,PB,PC,PD,QG,QH,QI,QJ,QK,PE,QL,ed,Int.reduceBEq,oCT,oCF,dL,hg,gA,gB,gC,e1,e2,e3,eR,eT,oBS,w1,wI,wc,gQ,mi,Bool.or_false,Bool.or_true,Bool.or_self,bne_self_eq_false];by_cases hne:e=0
  ·subst hne;simp only[QG,QH,QI,QJ,QK,QL,Int.reduceBEq,oCT,oCF,dL,hg,gA,gB,gC,e1,e2,e3,eR,eT,oBS,w1,wI,wc,gQ,mi,Bool.or_false,Bool.or_true,Bool.or_self,bne_self_eq_false];exact l9 hm (mk (Zo ZS).1 (Zo ZS).2 (by omega) (by omega) (by omega)) rfl (.inl ⟨rfl,rfl⟩)
  ·simp only[bne_iff_ne.2 hne,oCT];exact lA hm hok ⟨VX,VY⟩
theorem vJ.mono{K:Int->Prop}{n m:Int}{t:DTh}(h:vJ K n t)(hm:n<=m):vJ K m t:=⟨h.state,h.len,h.regs,h.pc,⟨h.count.1,by have:=h.count.2;omega⟩,h.handler,h.saved,h.trap,h.code⟩
theorem MOk.mono{n m:Int}{ss bs:List Int}{cs:List DCe}{ls:List DLn}{ts:List DTh}(h:MOk n ss bs cs ls ts)(hm:n<=m):MOk m ss bs cs ls ts:=⟨h.lay,h.mem,h.tlen,λt ht=>(h.thr t ht).mono hm⟩
theorem xQ{α:Type}{l:List α}{i:Nat}{a:α}(h:l[i]?=some a):l.set i a=l:=by
 apply List.ext_getElem?
 grind
def Nc(code:List DIn)(s:Int)(t':DTh):Prop:=
 (s=0/\t'.1=1)\/(s=2/\t'.1=4)\/(s=1/\t'.1=2/\∃i:DIn,1<=t'.2.2.1/\code[(t'.2.2.1-1).toNat]?=some i/\i.1=23)
def Lz(n key:Int)(code:List DIn)(ss bs:List Int)(ts:List DTh)(i:Nat)(r:List Int×Int×List DCe×List DLn×List DTh×Int×Int×Unit):Prop:=
 ∃s Z4 Z2 t',r=(bs,key,Z4,Z2,ts.set i t',s,0,())/\jl (RK bs ss) Z4 Z2/\vJ (RK bs ss) n t'/\((s=3/\ts[i]?=some t'/\t'.1≠1)\/Nc code s t')
def MQ(i:Nat)(s:Int×Int×(List DIn)×(List (Int))×(List (List (Int)))×Unit×Int×Unit×Unit×Unit×(List (Int))×Int×(List DCe)×(List DLn)×(List DTh)×Unit):Nat:=
 match s.2.2.2.2.2.2.2.2.2.2.2.2.2.2.1[i]? with
 |some t=>((s.2.1-t.2.2.2.1)*256+(255-t.2.2.1)).toNat
 |none=>0
theorem BT{i:Nat}{a b k:Int}{code:List DIn}{ss bs:List Int}{d:List (List Int)}{cs:List DCe}{ls:List DLn}{ts:List DTh}{t:DTh}(h:ts[i]?=some t):MQ i (a,b,code,ss,d,(),0,(),(),(),bs,k,cs,ls,ts,())=((b-t.2.2.2.1)*256+(255-t.2.2.1)).toNat:=by
 unfold MQ
 simp_all
theorem Iv{n key k:Int}{code:List DIn}{ss bs:List Int}{d:List (List Int)}{cs:List DCe}{ls:List DLn}{ts:List DTh}{i:Nat}(hp:jX code ss d)(h:MOk n ss bs cs ls ts)(Yb:0<=n)(hn:n+64<=1099511627776)(hi:i<4)(hk:1<=k/\k<=64):
 Ok (lj code ss d bs key cs ls ts (i:Int) k) (Lz (n+64) key code ss bs ts i):=by
 have XI:=h.tlen;obtain⟨t,ht⟩:∃t,ts[i]?=some t:=⟨_,oGE (by omega)⟩;have hg:dI ts i=some t:=ht
 have YV:i<ts.length:=by omega
 have hok:=h.thr t (dO ht);unfold lj;rw[rQ hp h (by omega)];simp;rw[oDF (show ¬(i:Int)<0 by omega),oDF (show ¬(i:Int)>=4 by omega),oDF (show ¬k<1 by omega),oDF (show ¬k>64 by omega)];simp only[oBS,oCF,rj h,dL,hg]
 (with_reducible refine dF (λZ'=>?_) λZ'=>?_)
 ·refine Ok.ret ⟨3,cs,ls,t,?_,h.mem,hok.mono (by omega),.inl ⟨rfl,ht,Z'⟩⟩;rw[xQ ht]
 have Uw:=hok.count;have hpc:=hok.pc;rw[dP (x:=t.2.2.2.1+k) (by omega) (by omega)]
 refine Ok.loop (P:=λs'=>∃Z4 Z2 t',s'=((i:Int),t.2.2.2.1+k,code,ss,d,(),0,(),(),(),bs,key,Z4,Z2,ts.set i t',())/\jl (RK bs ss) Z4 Z2/\vJ (RK bs ss) (n+64) t'/\t'.1=1/\t'.2.2.2.1<t.2.2.2.1+k)
  (R:=λr=>∃s Z4 Z2 t',r=(s,0,bs,key,Z4,Z2,ts.set i t',())/\jl (RK bs ss) Z4 Z2/\vJ (RK bs ss) (n+64) t'/\Nc code s t') (m:=MQ i) ⟨cs,ls,t,by rw[xQ ht],h.mem,hok.mono (by omega),Z',by omega⟩ ?_ ?_ ?_
 ·rw[BT ht];unfold NN;omega
 ·rintro _ ⟨Z4,Z2,t',rfl,hm,Yd,hr,hlt⟩;have ZL:(ts.set i t')[i]?=some t':=gG YV t';unfold of;dsimp only;refine(L1 hp (((h.mono (show n<=n+64 by omega)).set hm Yd):MOk (n+64) ss bs Z4 Z2 (ts.set i t')) ZL hr (by omega) (by omega)).bind ?_;rintro _ ⟨s,VL,Wi,t2,rfl,hm2,WN,Za⟩;dsimp only;rw[List.set_set]
  (with_reducible refine dF (λZ3=>?_) λZ3=>?_)
  ·refine Ok.ret ⟨_,_,_,_,rfl,hm2,WN,?_⟩
   rcases Za with⟨q,_⟩|⟨q1,q2,_⟩|⟨q1,q2,_,q3⟩
   ·exact absurd q Z3
   ·exact .inr (.inl ⟨q1,q2⟩)
   ·exact .inr (.inr ⟨q1,q2,q3⟩)
  ·rw[dL];simp only[oBS,gG YV];have h0:=WN.count;have h1:=WN.pc;have h2:=Yd.pc
   rcases Za with⟨_,q1,q2⟩|⟨q1,_⟩|⟨q1,_⟩
   ·(with_reducible refine dF (λhcc=>?_) λhcc=>?_)
    ·exact Ok.ret ⟨_,_,_,_,rfl,hm2,WN,.inl ⟨rfl,q1⟩⟩
    ·refine Ok.ret ⟨⟨_,_,_,rfl,hm2,WN,q1,by omega⟩,?_⟩;rw[BT ZL,BT (gG YV t2)];omega
   ·omega
   ·omega
 ·rintro _ ⟨s,Z4,Z2,t',rfl,hm,Yd,hs⟩;exact Ok.ret ⟨_,_,_,_,rfl,hm,Yd,.inr hs⟩
def BM(bs ss:List Int)(a:Int):Nat->Nat->Option (Int×Int)
 |0,_=>none
 |n+1,k=>if bs.getD k 0<=a/\a<bs.getD k 0+ss.getD k 0 then some ((k:Int),a-bs.getD k 0)else BM bs ss a n (k+1)
def FM(bs ss:List Int)(a:Int):Option (Int×Int):=BM bs ss a bs.length 0
theorem GF{bs ss:List Int}{a r o:Int}:∀{n k:Nat},k+n=bs.length->bs.length=ss.length->BM bs ss a n k=some (r,o)->∃(j:Nat)(b z:Int),r=j/\o=a-b/\bs[j]?=some b/\ss[j]?=some z/\b<=a/\a<b+z:=by
 intro n
 induction n with
 |zero=>intro k _ _ h;cases h
 |succ n ih=>
  intro k hk hl h;simp only[BM]at h;split at h
  ·rename_i hh
   injection h with h
   injection h with h1 h2
   refine⟨k,_,_,h1.symm,h2.symm,?_,?_,hh.1,hh.2⟩
   all_goals rw[HJ (by omega)];exact oGE (by omega)
  ·exact ih (by omega) hl h
theorem GG{bs ss:List Int}{a:Int}:∀{n k:Nat},k+n=bs.length->BM bs ss a n k=none->∀(j:Nat)(b z:Int),k<=j->bs[j]?=some b->ss[j]?=some z->¬(b<=a/\a<b+z):=by
 intro n
 induction n with
 |zero=>
  simp_all
 |succ n ih=>
  intro k hk h j b z hj hb hz;simp[BM]at h;split at h
  ·cases h
  ·rename_i hh;by_cases hjk:j=k
   ·simp_all
   ·exact ih (by omega) h j b z (by omega) hb hz
theorem Ab{bs ss:List Int}{a r o:Int}(hl:bs.length=ss.length)(h:FM bs ss a=some (r,o)):∃(j:Nat)(b z:Int),r=j/\o=a-b/\bs[j]?=some b/\ss[j]?=some z/\b<=a/\a<b+z:=GF (by omega) hl h
theorem KU{bs ss:List Int}{a:Int}(h:RK bs ss a):∃r o,FM bs ss a=some (r,o):=by
 cases e:FM bs ss a with
 |some x=>exact⟨x.1,x.2,rfl⟩
 |none=>
  have ⟨j,b,z,h1,h2,h3,h4⟩:=h;exact absurd ⟨h3,h4⟩ (GG (by omega) e j b z (by omega) h1 h2)
theorem xg{bs ss:List Int}{key a:Int}(h:LV bs ss)(ha:W16 a):eW bs key ss a=some (match FM bs ss a with|some (r,o)=>(r,o,true,())|none=>(0,0,false,())):=by
 obtain⟨hs,hl,hr⟩:=h;obtain⟨a0,a1⟩:=ha;have XG:=hs.2.1
 have Vh:∀(n k N:Nat),k+n=bs.length->n<N->dU eH N (ss,a,bs,(bs.length:Int),(k:Int),bs,key,0,0,())=some (match BM bs ss a n k with|some (r,o)=>.inl (true,r,o,())|none=>.inr (ss,a,bs,(bs.length:Int),(bs.length:Int),false,bs,key,0,0,())):=by
  intro n
  induction n with
  |zero=>
   intro k N hk hN;obtain⟨N,rfl⟩:∃M,N=M+1:=⟨N-1,by omega⟩
   obtain rfl:k=bs.length:=by omega
   have e:eH (ss,a,bs,(bs.length:Int),(bs.length:Int),bs,key,0,0,())=some (.inr (.inr (ss,a,bs,(bs.length:Int),(bs.length:Int),false,bs,key,0,0,()))):=by
    refine eJ ?_;unfold eH;dsimp only
    (with_reducible refine dF (λZ'=>?_) λZ'=>?_)
    ·omega
    ·exact Ok.ret rfl
   simp only[dU,e,oBS,BM]
  |succ n ih=>
   intro k N hk hN;obtain⟨N,rfl⟩:∃M,N=M+1:=⟨N-1,by omega⟩;obtain⟨b,hb⟩:∃b,bs[k]?=some b:=⟨_,oGE (by omega)⟩;obtain⟨z,hz⟩:∃z,ss[k]?=some z:=⟨_,oGE (by omega)⟩;have XJ:=hs.2.2 z (dO hz);have WJ:=hr k (by omega);unfold sx at WJ;rw[ee hb,ee hz]at WJ;by_cases hh:b<=a/\a<b+z
   ·have e:eH (ss,a,bs,(bs.length:Int),(k:Int),bs,key,0,0,())=some (.inr (.inl (true,(k:Int),a-b,()))):=by
     refine eJ ?_;unfold eH;dsimp only;rw[oDT (show(k:Int)<bs.length by omega),dL];simp only[oCT,oBS,show dI bs k=some b from hb,show dI ss k=some z from hz];rw[oDT (show a>=b by omega),dP (x:=b+z) (by omega) (by omega),oDT hh.2,dP (x:=a-b) (by omega) (by omega)];exact Ok.ret rfl
    simp only[dU,e,oBS,BM,ee hb,ee hz,oIP hh]
   ·have e:eH (ss,a,bs,(bs.length:Int),(k:Int),bs,key,0,0,())=some (.inl (ss,a,bs,(bs.length:Int),((k+1:Nat):Int),bs,key,0,0,())):=by
     refine eJ ?_;unfold eH;dsimp only;rw[oDT (show(k:Int)<bs.length by omega),dL];simp only[oCT,oBS,show dI bs k=some b from hb,show dI ss k=some z from hz];rw[dP (x:=b+z) (by omega) (by omega)];by_cases h1:a>=b
     ·rw[oDT h1,oDF (show ¬a<b+z by omega)];simp only[oCT,oCF];rw[dP (x:=(k:Int)+1) (by omega) (by omega)];exact Ok.ret rfl
     ·rw[oDF h1];simp only[oCF];rw[dP (x:=(k:Int)+1) (by omega) (by omega)];exact Ok.ret rfl
    simp only[dU,e,oBS,BM,ee hb,ee hz,oIN hh];exact ih (k+1) N (by omega) (by omega)
 unfold eW FM;delta dM
 try dsimp only
 rw[show dU eH NN (ss,a,bs,(bs.length:Int),0,bs,key,0,0,())=_ from Vh bs.length 0 NN (by omega) (by unfold NN;omega)]
 cases BM bs ss a bs.length 0 with
 |some x=>rfl
 |none=>rfl
def ou(bs ss:List Int)(key:Int)(c:DCe):DCn:=
 if c.1=0 then(0,c.2,0,0)else if c.1=2 then(2,wk .u16 (c.2-key),0,0)else match FM bs ss c.2 with|some (r,o)=>(1,0,r,o)|none=>(1,0,-1,c.2)
theorem pO{K:Int->Prop}{bs ss:List Int}{key:Int}{c:DCe}(h:LV bs ss)(hc:mg K c):gD bs key ss c.1 c.2=some ((ou bs ss key c).1,(ou bs ss key c).2.1,(ou bs ss key c).2.2.1,(ou bs ss key c).2.2.2,()):=by
 have ⟨c0,c1,c2,c3,_⟩:=hc;unfold gD ou;rw[dT (by omega) (by omega)];dsimp only;rw[xg h ⟨c2,c3⟩]
 rcases(show c.1=0\/c.1=1\/c.1=2 by omega)with e|e|e<;>rw[e]
 ·rfl
 ·simp
  cases FM bs ss c.2 with
  |some x=>rfl
  |none=>rfl
 ·rfl
theorem lR(x:Int):W16 (wk .u16 x):=nq x
theorem zH{bs ss:List Int}{key:Int}{c:DCe}(h:LV bs ss)(hc:mg (RK bs ss) c):Pr ss (ou bs ss key c):=by
 have ⟨c0,c1,c2,c3,c4⟩:=hc;unfold ou
 rcases(show c.1=0\/c.1=1\/c.1=2 by omega)with e|e|e
 ·rw[oIP e];exact .inl ⟨.inl rfl,rfl,rfl,c2,c3⟩
 ·rw[oIN (by omega),oIN (by omega)];have ⟨r,o,hro⟩:=KU (c4 e);rw[hro];obtain⟨j,b,z,rfl,rfl,h1,h2,h3,h4⟩:=Ab h.2.1 hro;exact .inr ⟨rfl,rfl,by simp_all,z,by simp_all,by simp_all,by dsimp only;omega⟩
 ·rw[oIN (by omega),oIP e];exact .inl ⟨.inr rfl,rfl,rfl,lR _⟩
theorem D7{K:Int->Prop}{bs ss:List Int}{key:Int}{c:DCe}(hc:mg K c):(ou bs ss key c).1=c.1/\(c.1=0->(ou bs ss key c).2.1=c.2):=by
 have ⟨c0,c1,_⟩:=hc;unfold ou
 rcases(show c.1=0\/c.1=1\/c.1=2 by omega)with e|e|e
 ·simp_all
 ·rw[oIN (by omega),oIN (by omega)]
  cases FM bs ss c.2 with
  |some x=>simp_all
  |none=>simp_all
 ·simp_all
def vW(cs:List DCe)(ls:List DLn)(a:Int):DCe:=
 match ls[(a/4%4).toNat]? with
 |some x=>if x.1=a/4 then x.2.2.getD (a%4).toNat (0,0)else cs.getD a.toNat (0,0)
 |none=>(0,0)
theorem getD_some{α:Type}{l:List α}{k:Nat}{d x:α}(h:l[k]?=some x):l.getD k d=x:=by simp_all
theorem uB{K:Int->Prop}{cs:List DCe}{ls:List DLn}{a:Int}(h:jl K cs ls)(ha:0<=a/\a<512):kO cs ls a=some ((vW cs ls a).1,(vW cs ls a).2,())/\mg K (vW cs ls a):=by
 obtain⟨a0,a1⟩:=ha;obtain⟨h1,h2,h3,h4,_⟩:=id h;unfold kO vW;rw[Int.tdiv_eq_ediv_of_nonneg a0,dP (x:=a/4) (by omega) (by omega)];dsimp only;rw[Int.tmod_eq_emod_of_nonneg (show 0<=a/4 by omega),Int.tmod_eq_emod_of_nonneg a0];obtain⟨i,hi⟩:∃i:Nat,a/4%4=i:=⟨(a/4%4).toNat,by omega⟩;rw[hi,dL,oTN];obtain⟨x,hx⟩:∃x,ls[i]?=some x:=⟨_,oGE (by omega)⟩;simp only[oBS,show dI ls i=some x from hx,hx];by_cases hq:x.1=a/4
 ·rcases h4 i x hx with⟨g,_,_⟩|⟨_,_,_,g4,g5⟩
  ·omega
  ·obtain⟨j,hj⟩:∃j:Nat,a%4=j:=⟨(a%4).toNat,by omega⟩;obtain⟨y,hy⟩:∃y,x.2.2[j]?=some y:=⟨_,oGE (by omega)⟩;rw[hj,dL,oTN,oIP hq,getD_some hy,beq_iff_eq.2 hq];simp only[oCT,oBS,show dI x.2.2 j=some y from hy];exact⟨trivial,g5 y (dO hy)⟩
 ·obtain⟨j,rfl⟩:∃j:Nat,a=j:=⟨a.toNat,by omega⟩;obtain⟨y,hy⟩:∃y,cs[j]?=some y:=⟨_,oGE (by omega)⟩;rw[oIN hq,oBF hq,dL,oTN,getD_some hy];simp only[oCF,oBS,show dI cs j=some y from hy];exact⟨trivial,h2 y (dO hy)⟩
def kB(call:Int):List Int:=
 if call=0\/call=8\/call=9\/call=11\/call=12 then[78]else if call=1\/call=2 then[72,80,78]else if call=3 then[78,78]else if call=4 then[72]else if call=5 then[72,78]
 else if call=10 then[78,88]else if call=13\/call=14 then[78,80,78]else[]
theorem Hp(call:Int):(kB call).length<=3:=by
 unfold kB
 repeat' split
 all_goals simp
def BOk(b:ByteArray)(l:List Int):Prop:=xN b=(l.length:Int)/\∀j:Nat,wY b j=l[j]?
theorem Nq:BOk (bytes []) []:=⟨rfl,λj=>rfl⟩
theorem Np{a:Nat}(h:a<256):BOk (bytes [a]) [(a:Int)]:=⟨rfl,λj=>by
 match j with
 |0=>show some (((UInt8.ofNat a).toNat:Nat):Int)=some (a:Int);simp;omega
 |n+1=>rfl⟩
theorem No{a b:Nat}(h:a<256)(hb:b<256):BOk (bytes [a,b]) [(a:Int),(b:Int)]:=⟨rfl,λj=>by
 match j with
 |0=>show some (((UInt8.ofNat a).toNat:Nat):Int)=some (a:Int);simp;omega
 |1=>show some (((UInt8.ofNat b).toNat:Nat):Int)=some (b:Int);simp;omega
 |n+2=>rfl⟩
theorem Nn{a b c:Nat}(h:a<256)(hb:b<256)(hc:c<256):BOk (bytes [a,b,c]) [(a:Int),(b:Int),(c:Int)]:=⟨rfl,λj=>by
 match j with
 |0=>show some (((UInt8.ofNat a).toNat:Nat):Int)=some (a:Int);simp;omega
 |1=>show some (((UInt8.ofNat b).toNat:Nat):Int)=some (b:Int);simp;omega
 |2=>show some (((UInt8.ofNat c).toNat:Nat):Int)=some (c:Int);simp;omega
 |n+3=>rfl⟩
theorem sr{call:Int}(h:0<=call/\call<=15):call=0\/call=1\/call=2\/call=3\/call=4\/call=5\/call=6\/call=7\/call=8\/call=9\/call=10\/call=11\/call=12\/call=13\/call=14\/call=15:=by omega
theorem yg{call:Int}(h:0<=call/\call<=15):∃b,jC call=some (b,())/\BOk b (kB call):=by
 rcases sr h with rfl|rfl|rfl|rfl|rfl|rfl|rfl|rfl|rfl|rfl|rfl|rfl|rfl|rfl|rfl|rfl
 all_goals first
  |exact⟨_,rfl,Nq⟩
  |exact⟨_,rfl,Np (by decide)⟩
  |exact⟨_,rfl,No (by decide) (by decide)⟩
  |exact⟨_,rfl,Nn (by decide) (by decide) (by decide)⟩
def Jy(k t:Int):Bool:=if k=78 then t==0 else if k=72 then t==2 else if k=80 then t==1 else true
theorem HO(k t:Int):kM k t=some (Jy k t,()):=by
 unfold kM Jy;by_cases h1:k=78
 ·simp[h1]
 ·by_cases h2:k=72
  ·simp[h2]
  ·by_cases h3:k=80
   ·simp[h3]
   ·simp[h1,h2,h3,oBF h1,oBF h2,oBF h3]
def pQ(call:Int):Int:=if call=1\/call=13 then 1 else if call=2\/call=14 then 2 else 0
theorem rM{call:Int}(h:0<=call/\call<=15):gS call=some (pQ call,()):=by
 rcases sr h with rfl|rfl|rfl|rfl|rfl|rfl|rfl|rfl|rfl|rfl|rfl|rfl|rfl|rfl|rfl|rfl<;>rfl
theorem tD{call:Int}(h:0<=call/\call<=15):gj call=some (((kB call).length:Int),()):=by
 have ⟨b,e,hb⟩:=yg h;unfold gj;rw[oDF (show ¬call<0 by omega),oDF (show ¬call>15 by omega),e];simp[hb.1]
theorem FN{bs ss:List Int}{key t v n:Int}(h:LV bs ss)(hv:W16 v)(hn:0<=n/\n<=65535):Ok (kt bs key ss t v n) λr=>∃a e,r=(a,e,())/\(e=0->t=1/\a=v/\∃(j:Nat)(b z:Int),bs[j]?=some b/\ss[j]?=some z/\b<=v/\v+n<=b+z/\v<b+z):=by
 obtain⟨v0,v1⟩:=hv;unfold kt
 (with_reducible refine dF (λZ'=>?_) λZ'=>?_)
 ·exact Ok.ret ⟨_,_,rfl,λh=>by omega⟩
 rw[dT (x:=v) (by omega) (by omega)];dsimp only;rw[xg h ⟨v0,v1⟩];simp only[oBS]
 cases e:FM bs ss v with
 |none=>exact Ok.ret ⟨_,_,rfl,λh=>by omega⟩
 |some x=>
  obtain⟨r,o⟩:=x;obtain⟨j,b,z,rfl,rfl,h1,h2,h3,h4⟩:=Ab h.2.1 e;have hj:=(oGS h1).1;have hr:=h.2.2 j hj;unfold sx at hr;rw[ee h1,ee h2]at hr;rw[oDF (show ¬n<0 by omega),dL];simp only[oNT,oCF,oBS,show dI ss j=some z from h2];rw[dP (x:=z-(v-b)) (by omega) (by omega)]
  (with_reducible refine dF (λZ3=>?_) λZ3=>?_)
  ·exact Ok.ret ⟨_,_,rfl,λh=>by omega⟩
  ·exact Ok.ret ⟨_,_,rfl,λ_=>⟨Z',dT (by omega) (by omega),j,b,z,h1,h2,h3,by omega,h4⟩⟩
structure Ii (call:Int)(m:Int)(bs ss:List Int)(rs:List DCe):Prop where
 fit:∀(j:Nat) k c,(kB call)[j]?=some k->rs[j]?=some c->Jy k c.1=true
 buf:0<pQ call->∃p q,rs[1]?=some p/\rs[2]?=some q/\q.2<=16/\p.1=1/\∃(j:Nat)(b z:Int),bs[j]?=some b/\ss[j]?=some z/\b<=p.2/\p.2+q.2<=b+z
 code:call=10\/call=12->∃c,rs[0]?=some c/\c.2<m
theorem C7{call m:Int}{bs ss:List Int}{rs:List DCe}(h:Ii call m bs ss rs):Ok (some ((0:Int),())) λr=>∃e,r=(e,())/\0<=e/\e<=6/\(e=0->Ii call m bs ss rs):=Ok.ret ⟨0,rfl,by decide,by decide,λ_=>h⟩
theorem vt{call m:Int}{bs ss:List Int}{rs:List DCe}:Ok (some ((6:Int),())) λr=>∃e,r=(e,())/\0<=e/\e<=6/\(e=0->Ii call m bs ss rs):=Ok.ret ⟨6,rfl,by decide,by decide,λh=>absurd h (by decide)⟩
theorem FA{n key:Int}{code:List DIn}{ss bs:List Int}{d:List (List Int)}{cs:List DCe}{ls:List DLn}{ts:List DTh}{i:Nat}{t:DTh}{x:DIn}(h:MOk n ss bs cs ls ts)(ht:ts[i]?=some t)(hp1:1<=t.2.2.1)
 (hx:code[(t.2.2.1-1).toNat]?=some x)(hc:0<=x.2.2.2.2/\x.2.2.2.2<=15):Ok (li code ss d bs key cs ls ts (i:Int)) λr=>∃e,r=(e,())/\0<=e/\e<=6/\(e=0->Ii x.2.2.2.2 code.length bs ss t.2.1):=by
 have hok:=h.thr t (dO ht);obtain⟨_,hl,hr,⟨p0,p1⟩,_⟩:=id hok;obtain⟨o,A,B,C,call⟩:=x;dsimp only at hc⊢;obtain⟨b,eb,hb1,ZW⟩:=yg hc;have OR:=Hp call;obtain⟨st,rs,pc,rest⟩:=t;dsimp only at *;obtain⟨j,hj⟩:∃j:Nat,pc-1=j:=⟨(pc-1).toNat,by omega⟩;rw[hj,oTN]at hx;unfold li;rw[dL];simp only[oBS,show dI ts i=some (st,rs,pc,rest)from ht];rw[dP (x:=pc-1) (by omega) (by omega),hj,dL];simp only[oBS,show dI code j=some (o,A,B,C,call)from hx,eb,hb1];obtain⟨c0,hc0⟩:∃c,rs[0]?=some c:=⟨_,oGE (by omega)⟩;obtain⟨c1,ZS⟩:∃c,rs[1]?=some c:=⟨_,oGE (by omega)⟩;obtain⟨c2,ZK⟩:∃c,rs[2]?=some c:=⟨_,oGE (by omega)⟩;have v0:=hr c0 (dO hc0);have v1:=hr c1 (dO ZS);have v2:=hr c2 (dO ZK);have g0:dI rs 0=some c0:=hc0;have g1:dI rs 1=some c1:=ZS;have g2:dI rs 2=some c2:=ZK
 obtain⟨y,e,hy⟩:=fF (f:=kX) (n:=NN) (s:=(call,b,((kB call).length:Int),0,code,ss,d,bs,key,cs,ls,ts,st,rs,pc,rest.1,rest.2.1,rest.2.2.1,rest.2.2.2.1,rest.2.2.2.2,()))
  (P:=λs'=>∃q:Nat,s'=(call,b,((kB call).length:Int),(q:Int),code,ss,d,bs,key,cs,ls,ts,st,rs,pc,rest.1,rest.2.1,rest.2.2.1,rest.2.2.2.1,rest.2.2.2.2,())/\q<=(kB call).length/\∀(j:Nat) k c,j<q->(kB call)[j]?=some k->rs[j]?=some c->Jy k c.1=true)
  (R:=λr=>r=.inl (6,())\/(∃q,r=.inr (call,b,((kB call).length:Int),q,false,code,ss,d,bs,key,cs,ls,ts,st,rs,pc,rest.1,rest.2.1,rest.2.2.1,rest.2.2.2.1,rest.2.2.2.2,())/\∀(j:Nat) k c,(kB call)[j]?=some k->rs[j]?=some c->Jy k c.1=true))
  (m:=λs'=>(s'.2.2.1-s'.2.2.2.1).toNat) ⟨0,rfl,by omega,λj k c hj=>by omega⟩ (by unfold NN;dsimp only;omega) (by
   rintro _ ⟨q,rfl,hq,ZU⟩;unfold kX;dsimp only
   (with_reducible refine dF (λZ'=>?_) λZ'=>?_)
   ·rw[dL];obtain⟨k,hk⟩:∃k,(kB call)[q]?=some k:=⟨_,oGE (by omega)⟩;obtain⟨c,Rr⟩:∃c,rs[q]?=some c:=⟨_,oGE (by omega)⟩;simp only[oBS,ZW q,hk,show dI rs q=some c from Rr,HO]
    (with_reducible refine dF (λZ3=>?_) λZ3=>?_)
    ·exact Ok.ret (.inl rfl)
    ·rw[dP (x:=(q:Int)+1) (by omega) (by omega)];refine Ok.ret ⟨⟨q+1,rfl,by omega,λj' k' c' ZQ h1 h2=>?_⟩,by dsimp only;omega⟩;by_cases hjq:j'=q
     ·subst hjq;rw[hk]at h1;rw[Rr]at h2;cases h1;cases h2;exact Z3
     ·exact ZU j' k' c' (by omega) h1 h2
   ·refine Ok.ret (.inr ⟨_,rfl,λj k c h1 h2=>ZU j k c ?_ h1 h2⟩);have:=(oGS h1).1
    omega)
 rw[e];rcases hy with rfl|⟨q,rfl,ZU⟩
 ·exact vt
 dsimp only;rw[rM hc];delta dM;simp only[oBS,g0,g1,g2];rw[dT (x:=c2.2) (by have:=v2.2.2.1;omega) (by have:=v2.2.2.2.1;omega),dT (x:=c0.2) (by have:=v0.2.2.1;omega) (by have:=v0.2.2.2.1;omega)]
 have ZX:(0<pQ call->∃p q,rs[1]?=some p/\rs[2]?=some q/\q.2<=16/\p.1=1/\∃(j:Nat)(b z:Int),bs[j]?=some b/\ss[j]?=some z/\b<=p.2/\p.2+q.2<=b+z)->Ok ((bif(call==10)then(some ((decide (c0.2>=(code.length:Int))),()))else
  bif(call==12)then(some ((decide (c0.2>=(code.length:Int))),()))else some (false,()):Option (Bool×Unit)).bind λ(x35,_)=>bif x35 then(some ((6:Int),()))else some (0,()))
  λr=>∃e,r=(e,())/\0<=e/\e<=6/\(e=0->Ii call code.length bs ss rs):=by
  intro hbuf;by_cases q10:call=10
  ·simp only[beq_iff_eq.2 q10,oCT,oBS]
   (with_reducible refine dF (λZ3=>?_) λZ3=>?_)
   ·exact vt
   ·exact C7 ⟨ZU,hbuf,λ_=>⟨c0,hc0,by omega⟩⟩
  ·by_cases q12:call=12
   ·simp only[oBF q10,beq_iff_eq.2 q12,oCT,oCF,oBS]
    (with_reducible refine dF (λZ3=>?_) λZ3=>?_)
    ·exact vt
    ·exact C7 ⟨ZU,hbuf,λ_=>⟨c0,hc0,by omega⟩⟩
   ·simp only[oBF q10,oBF q12,oCF,oBS];exact C7 ⟨ZU,hbuf,λh=>by omega⟩
 (with_reducible refine dF (λZ'=>?_) λZ'=>?_)
 ·refine(FN (t:=c1.1) (v:=c1.2) (n:=c2.2) h.lay ⟨v1.2.2.1,v1.2.2.2.1⟩ ⟨v2.2.2.1,v2.2.2.2.1⟩).bind ?_;rintro _ ⟨a,e,rfl,he⟩;dsimp only
  (with_reducible refine dF (λZ3=>?_) λZ3=>?_)
  ·exact vt
  obtain⟨w1,_,j,b',z,w2,w3,w4,w5,w6⟩:=he Z3
  (with_reducible refine dF (λhcc=>?_) λhcc=>?_)
  ·exact vt
  exact ZX λ_=>⟨c1,c2,ZS,ZK,by omega,w1,j,b',z,w2,w3,w4,w5⟩
 ·exact ZX λh=>by omega
structure wR (n:Int)(ss:List Int)(i stop trap count pc call:Int)(args data:List DCn):Prop where
 hthr:0<=i/\i<4
 hstop:0<=stop/\stop<=3
 htrap:0<=trap/\trap<=6
 hcnt:0<=count/\count<=n
 hpc:0<=pc/\pc<=255
 hcall:0<=call/\call<=15
 hargs:args.length<=3/\∀c∈args,Pr ss c
 hdata:data.length<=16/\∀c∈data,Pr ss c
 hkind:stop=1->args.length=(kB call).length/\∀(j:Nat) k a,(kB call)[j]?=some k->args[j]?=some a->Jy k a.1=true
 hbuf:stop=1->pQ call=2->∃a,args[2]?=some a/\a.2.1<=16
def Ny(stop trap:Int)(t':DTh):Prop:=(stop=0/\t'.1=1)\/(stop=1/\t'.1=2)\/(stop=2/\t'.1=4/\t'.2.2.2.2.2.2.1=trap)\/(stop=3/\t'.1≠1)
def Ef(n key:Int)(ss bs:List Int)(ts:List DTh)(i:Nat)(r:(List (Int))×Int×(List DCe)×(List DLn)×(List DTh)×Int×Int×Int×Int×Int×Int×(List DCn)×(List DCn)×Int×Unit):Prop:=
 ∃Z4 Z2 t' stop trap call args data,r=(bs,key,Z4,Z2,ts.set i t',(i:Int),stop,trap,t'.2.2.2.1,t'.2.2.1,call,args,data,0,())/\jl (RK bs ss) Z4 Z2/\vJ (RK bs ss) n t' /\
  wR n ss i stop trap t'.2.2.2.1 t'.2.2.1 call args data/\Ny stop trap t'/\(stop=3->ts[i]?=some t')
theorem tT{n:Int}{ss bs:List Int}{i:Nat}{t':DTh}{stop trap:Int}(hi:i<4)(ht:vJ (RK bs ss) n t')(hs:0<=stop/\stop<=3)(hs1:stop≠1)(Pl:0<=trap/\trap<=6):wR n ss i stop trap t'.2.2.2.1 t'.2.2.1 0 [] []:=
 ⟨⟨by omega,by omega⟩,hs,Pl,ht.count,ht.pc,by decide,⟨by decide,ef⟩,⟨by decide,ef⟩,λh=>absurd h hs1,λh=>absurd h hs1⟩
theorem gH{α β:Type}(f:α->β){l:List α}{k:Nat}{x:α}(h:l[k]?=some x):(l.take k).map f++[f x]=(l.take (k+1)).map f:=by
 rw[List.take_add_one,h];simp
theorem iK{β:Type}(f:Nat->β)(k:Nat):(List.range k).map f++[f k]=(List.range (k+1)).map f:=by
 rw[List.range_succ];simp
set_option maxHeartbeats 4000000 in
theorem ul{n key k:Int}{code:List DIn}{ss bs:List Int}{d:List (List Int)}{cs:List DCe}{ls:List DLn}{ts:List DTh}{i:Nat}(hp:jX code ss d)(h:MOk n ss bs cs ls ts)(Yb:0<=n)(hn:n+64<=1099511627776)(hi:i<4)(hk:1<=k/\k<=64):
 Ok (kN code ss d bs key cs ls ts (i:Int) k) (Ef (n+64) key ss bs ts i):=by
 have XI:=h.tlen
 have YV:i<ts.length:=by omega
 unfold kN;refine(Iv hp h Yb hn hi hk).bind ?_;rintro _ ⟨s,Z4,Z2,t',rfl,hm,ZL,hs⟩;have hM:MOk (n+64) ss bs Z4 Z2 (ts.set i t'):=(h.mono (show n<=n+64 by omega)).set hm ZL;have SA:(ts.set i t')[i]?=some t':=gG YV t';dsimp only;simp only[bne_self_eq_false,oCF,dL,oBS,gG YV]
 rcases hs with⟨rfl,hs1,Za⟩|⟨rfl,hs1⟩|⟨rfl,hs1⟩|⟨rfl,hs1,x,Za,SJ,XG⟩
 ·exact Ok.ret ⟨_,_,_,_,_,_,_,_,rfl,hm,ZL,tT hi ZL (by decide) (by decide) (by decide),.inr (.inr (.inr ⟨rfl,Za⟩)),λ_=>hs1⟩
 ·exact Ok.ret ⟨_,_,_,_,_,_,_,_,rfl,hm,ZL,tT hi ZL (by decide) (by decide) (by decide),.inl ⟨rfl,hs1⟩,λh=>absurd h (by decide)⟩
 ·exact Ok.ret ⟨_,_,_,_,_,_,_,_,rfl,hm,ZL,tT hi ZL (by decide) (by decide) ZL.trap,.inr (.inr (.inl ⟨rfl,hs1,rfl⟩)),λh=>absurd h (by decide)⟩
 ·have Yq:=hp.ins x (dO SJ);have hcall:0<=x.2.2.2.2/\x.2.2.2.2<=15:=⟨Yq.imm.1,Yq.sys XG⟩;obtain⟨_,ec,e,rfl,VX,VY,Ti⟩:=FA (key:=key) (d:=d) hM SA Za SJ hcall;obtain⟨o,A,B,C,call⟩:=x;dsimp only at hcall Ti;have OR:=Hp call;have Qk:=ZL.len;obtain⟨j,hj⟩:∃j:Nat,t'.2.2.1-1=j:=⟨(t'.2.2.1-1).toNat,by omega⟩;have hpc:=ZL.pc;rw[hj,oTN]at SJ;rw[dP (x:=t'.2.2.1-1) (by omega) (by omega),hj];simp only[Int.reduceBEq,oCT,oCF,ec,oBS,dL,show dI code j=some (o,A,B,C,call)from SJ,tD hcall];by_cases hne:e=0
  ·subst hne;obtain⟨ZU,hbuf,_⟩:=Ti rfl
   have e1:dU hU NN (((kB call).length:Int),0,code,ss,d,(),0,(),(),(),0,0,0,0,0,0,(),(),bs,key,Z4,Z2,ts.set i t',t'.1,t'.2.1,t'.2.2.1,t'.2.2.2.1,t'.2.2.2.2.1,t'.2.2.2.2.2.1,t'.2.2.2.2.2.2.1,t'.2.2.2.2.2.2.2,(i:Int),1,0,t'.2.2.2.1,t'.2.2.1,call,[],(),())=
    some (((kB call).length:Int),((kB call).length:Int),false,code,ss,d,(),0,(),(),(),0,0,0,0,0,0,(),(),bs,key,Z4,Z2,ts.set i t',t'.1,t'.2.1,t'.2.2.1,t'.2.2.2.1,t'.2.2.2.2.1,t'.2.2.2.2.2.1,t'.2.2.2.2.2.2.1,t'.2.2.2.2.2.2.2,(i:Int),1,0,t'.2.2.2.1,t'.2.2.1,call,(t'.2.1.take (kB call).length).map (ou bs ss key),(),()):=by
    refine l8 (f:=hU) (N:=NN) (st:=λq=>(((kB call).length:Int),(q:Int),code,ss,d,(),0,(),(),(),0,0,0,0,0,0,(),(),bs,key,Z4,Z2,ts.set i t',t'.1,t'.2.1,t'.2.2.1,t'.2.2.2.1,t'.2.2.2.2.1,t'.2.2.2.2.2.1,t'.2.2.2.2.2.2.1,t'.2.2.2.2.2.2.2,(i:Int),1,0,t'.2.2.2.1,t'.2.2.1,call,(t'.2.1.take q).map (ou bs ss key),(),())) (n:=(kB call).length) (by unfold NN;omega) ?_ ?_
    ·intro q hq;unfold hU;dsimp only;rw[oDT (show(q:Int)<(kB call).length by omega),dL];simp only[oCT,oBS];refine Ok.get (by omega) λc hc=>?_;rw[pO h.lay (ZL.regs c (dO hc))];simp only[oBS];refine dG (dS (by simp;omega)) ?_;rw[dP (x:=(q:Int)+1) (by omega) (by omega)];refine Ok.ret ?_;rw[<- gH (ou bs ss key) hc];rfl
    ·unfold hU;dsimp only;rw[oDF (show ¬((kB call).length:Int)<(kB call).length by omega)];exact Ok.ret rfl
   have hargs:((t'.2.1.take (kB call).length).map (ou bs ss key)).length=(kB call).length:=by rw[List.length_map,oLT];omega
   have Ts:∀(j:Nat) a,((t'.2.1.take (kB call).length).map (ou bs ss key))[j]?=some a->∃c,t'.2.1[j]?=some c/\a=ou bs ss key c:=by
    intro j a ha;rw[List.getElem?_map]at ha
    cases hc:(t'.2.1.take (kB call).length)[j]? with
    |none=>rw[hc]at ha;cases ha
    |some c=>
     rw[hc]at ha
     injection ha with ha
     refine⟨c,?_,ha.symm⟩;rw[List.getElem?_take]at hc;split at hc
     ·exact hc
     ·cases hc
   have VQ:∀c∈(t'.2.1.take (kB call).length).map (ou bs ss key),Pr ss c:=by
    intro c hc;obtain⟨c',Yz,rfl⟩:=List.mem_map.1 hc;exact zH h.lay (ZL.regs c' (List.mem_of_mem_take Yz))
   have U3:∀(j:Nat) k a,(kB call)[j]?=some k->((t'.2.1.take (kB call).length).map (ou bs ss key))[j]?=some a->Jy k a.1=true:=by
    intro j k a hk ha;obtain⟨c,hc,rfl⟩:=Ts j a ha;rw[(D7 (ZL.regs c (dO hc))).1];exact ZU j k c hk hc
   have Ta:pQ call=2->∃a,((t'.2.1.take (kB call).length).map (ou bs ss key))[2]?=some a/\a.2.1<=16:=by
    intro hb;obtain⟨p,q,hp1,Yx,TU,_⟩:=hbuf (by omega)
    have hkk:(kB call)[2]?=some 78:=by
     have:call=2\/call=14:=by unfold pQ at hb;split at hb<;>first|omega|(split at hb<;>omega)
     rcases this with rfl|rfl<;>rfl
    have hf:=ZU 2 78 q hkk Yx;have OU:=(oGS hkk).1;refine⟨ou bs ss key q,?_,?_⟩
    ·rw[List.getElem?_map,List.getElem?_take,oIP OU,Yx];rfl
    ·have hq:=(D7 (bs:=bs) (ss:=ss) (key:=key) (ZL.regs q (dO Yx))).2 (by unfold Jy at hf;simpa using hf);rw[hq];exact TU
   simp only[e1,bne_self_eq_false,oCF,oBS,rM hcall]
   have ZX:∀data:List DCn,data.length<=16->(∀c∈data,Pr ss c)->Ok (some (bs,key,Z4,Z2,ts.set i t',(i:Int),(1:Int),(0:Int),t'.2.2.2.1,t'.2.2.1,call,(t'.2.1.take (kB call).length).map (ou bs ss key),data,(0:Int),())) (Ef (n+64) key ss bs ts i):=
    λdata h1 h2=>Ok.ret ⟨_,_,_,_,_,_,_,_,rfl,hm,ZL,⟨⟨by omega,by omega⟩,by decide,by decide,ZL.count,ZL.pc,hcall,⟨by omega,VQ⟩,⟨h1,h2⟩,λ_=>⟨hargs,U3⟩,λ_=>Ta⟩,.inr (.inl ⟨rfl,hs1⟩),λh=>absurd h (by decide)⟩
   by_cases hb1:pQ call=1
   ·obtain⟨p,q,hp1,Yx,TU,_,jr,b,z,Tb,Rl,Ot,Ou⟩:=hbuf (by omega);have hp':=ZL.regs p (dO hp1);have UE:=ZL.regs q (dO Yx);have OQ:=(oGS Tb).1;have TW:=h.lay.2.2 jr OQ;unfold sx at TW;rw[ee Tb,ee Rl]at TW;obtain⟨m,O8⟩:∃m:Nat,q.2=m:=⟨q.2.toNat,by have:=UE.2.2.1;omega⟩
    have e2:dU hJ NN ((m:Int),0,code,ss,d,(),0,(),(),(),0,0,0,0,0,0,(),(),bs,key,Z4,Z2,ts.set i t',t'.1,t'.2.1,t'.2.2.1,t'.2.2.2.1,t'.2.2.2.2.1,t'.2.2.2.2.2.1,t'.2.2.2.2.2.2.1,t'.2.2.2.2.2.2.2,(i:Int),1,0,t'.2.2.2.1,t'.2.2.1,call,(t'.2.1.take (kB call).length).map (ou bs ss key),[],())=
     some ((m:Int),(m:Int),false,code,ss,d,(),0,(),(),(),0,0,0,0,0,0,(),(),bs,key,Z4,Z2,ts.set i t',t'.1,t'.2.1,t'.2.2.1,t'.2.2.2.1,t'.2.2.2.2.1,t'.2.2.2.2.2.1,t'.2.2.2.2.2.2.1,t'.2.2.2.2.2.2.2,(i:Int),1,0,t'.2.2.2.1,t'.2.2.1,call,(t'.2.1.take (kB call).length).map (ou bs ss key),(List.range m).map (λj:Nat=>ou bs ss key (vW Z4 Z2 (p.2+(j:Int)))),()):=by
     refine l8 (f:=hJ) (N:=NN) (st:=λq=>((m:Int),(q:Int),code,ss,d,(),0,(),(),(),0,0,0,0,0,0,(),(),bs,key,Z4,Z2,ts.set i t',t'.1,t'.2.1,t'.2.2.1,t'.2.2.2.1,t'.2.2.2.2.1,t'.2.2.2.2.2.1,t'.2.2.2.2.2.2.1,t'.2.2.2.2.2.2.2,(i:Int),1,0,t'.2.2.2.1,t'.2.2.1,call,(t'.2.1.take (kB call).length).map (ou bs ss key),(List.range q).map (λj:Nat=>ou bs ss key (vW Z4 Z2 (p.2+(j:Int)))),())) (n:=m) (by unfold NN;omega) ?_ ?_
     ·intro v hv;unfold hJ;dsimp only;have SF:=hp'.2.2.1;have O3:=hp'.2.2.2.1;rw[oDT (show(v:Int)<m by omega)];simp only[oCT,oBS,show dI t'.2.1 1=some p from hp1];rw[dT (x:=p.2) (by omega) (by omega),dP (x:=p.2+v) (by omega) (by omega)];obtain⟨UA,Vx⟩:=uB (a:=p.2+v) hm ⟨by omega,by omega⟩;rw[UA];simp only[oBS];rw[pO h.lay Vx];simp only[oBS];refine dG (dS (by simp;omega)) ?_;rw[dP (x:=(v:Int)+1) (by omega) (by omega)];refine Ok.ret ?_;rw[<- iK];rfl
     ·unfold hJ;dsimp only;rw[oDF (show ¬(m:Int)<m by omega)];exact Ok.ret rfl
    simp only[hb1,BEq.rfl,oCT,show dI t'.2.1 2=some q from Yx,oBS];rw[dT (x:=q.2) (by omega) (by omega),O8,e2];simp only[oBS];refine ZX _ (by rw[List.length_map,List.length_range];omega) ?_;intro c hc;obtain⟨v,hv,rfl⟩:=List.mem_map.1 hc;have hv:=List.mem_range.1 hv;have SF:=hp'.2.2.1;exact zH h.lay (uB (a:=p.2+v) hm ⟨by omega,by omega⟩).2
   ·simp only[oBF hb1,oCF];exact ZX [] (by decide) ef
  ·unfold lW kq;simp only[bne_iff_ne.2 hne,oCT];rw[dS (show 4<=1000/\0+t'.2.1.length<=1000000 by omega)];simp only[oCT,oBS,dL,gG YV,m6 YV];exact Ok.ret ⟨_,_,_,_,_,_,_,_,rfl,hm,ZL.ended ⟨VX,VY⟩,tT hi (ZL.ended ⟨VX,VY⟩) (by decide) (by decide) ⟨VX,VY⟩,.inr (.inr (.inl ⟨rfl,rfl,rfl⟩)),λh=>absurd h (by decide)⟩
theorem Cc{a b:Int}:mmR false a b<=a/\mmR false a b<=b/\(mmR false a b=a\/mmR false a b=b):=by
 unfold mmR;simp;omega
theorem m7{α:Type}{l:List α}{i j:Nat}(h:i≠j)(a:α):(l.set i a)[j]?=l[j]?:=by
 simp_all
theorem LB.setFile{d:List (List DCn)}{o:DOp}{f:Nat}{x y:List DCn}(h:LB d o)(hf:d[f]?=some x)(W5:x.length<=y.length):LB (d.set f y) o:=by
 rcases h with h|⟨h1,z,h2,h3,h4⟩
 ·exact .inl h
 ·refine .inr ⟨h1,?_⟩;by_cases e:f=o.1.toNat
  ·subst e;rw[hf]at h2;cases h2;exact⟨y,gG (oGS hf).1 y,h3,by omega⟩
  ·simp_all
theorem fm.setFile{ss:List Int}{d:List (List DCn)}{os:List DOp}{f:Nat}{x y:List DCn}(h:fm ss d os)(hf:d[f]?=some x)(N9:y.length<=64)(hc:∀c∈y,Pr ss c)(W5:x.length<=y.length):fm ss (d.set f y) os:=
 ⟨by rw[List.length_set];exact h.dlen,ii h.flen N9,ii h.cells hc,h.olen,λo ho=>(h.opens o ho).setFile hf W5⟩
theorem fm.setOpen{ss:List Int}{d:List (List DCn)}{os:List DOp}{i:Nat}{o:DOp}(h:fm ss d os)(ho:LB d o):fm ss d (os.set i o):=
 ⟨h.dlen,h.flen,h.cells,by rw[List.length_set];exact h.olen,ii h.opens ho⟩
theorem ya{ss:List Int}{d:List (List DCn)}{os:List DOp}{h:Int}(hF:fm ss d os):∃b,gv d os h=some (b,())/\(b=true->∃(j f:Nat)(o:DOp)(x:List DCn),h=j/\j<8/\os[j]?=some o/\o.1=f/\d[f]?=some x/\0<=o.2.1/\o.2.1<=x.length):=by
 have:Ok (gv d os h) λr=>∃b,r=(b,())/\(b=true->∃(j f:Nat)(o:DOp)(x:List DCn),h=j/\j<8/\os[j]?=some o/\o.1=f/\d[f]?=some x/\0<=o.2.1/\o.2.1<=x.length):=by
  unfold gv;delta dM
  (with_reducible refine dF (λZ'=>?_) λZ'=>?_)
  ·(with_reducible refine dF (λZ3=>?_) λZ3=>?_)
   ·refine Ok.nat (by omega) λj hj=>?_;have h8:=hF.olen;refine Ok.get (by omega) λo ho=>?_;refine Ok.ret ⟨_,rfl,λhb=>?_⟩
    rcases hF.opens o (dO ho)with⟨h1,_⟩|⟨h1,x,h2,h3,h4⟩
    ·simp_all
    ·exact⟨j,o.1.toNat,o,x,hj,by omega,ho,by omega,h2,h3,h4⟩
   ·exact Ok.ret ⟨_,rfl,λh=>by cases h⟩
  ·exact Ok.ret ⟨_,rfl,λh=>by cases h⟩
 obtain⟨_,e,b,rfl,hb⟩:=this;exact⟨b,e,hb⟩
theorem ri{ss:List Int}{d:List (List DCn)}{os:List DOp}(h:fm ss d os):fQ d os=some (d,os,()):=
 copy17_ok (by have:=h.dlen;omega) (λx hx=>by have:=h.flen x hx;omega) (by have:=h.olen;omega)
theorem El{ss:List Int}{d:List (List DCn)}{os:List DOp}{h:Int}{l:List DCn}(hs:vK ss)(hF:fm ss d os)(hl:l.length<=16)(V5:∀c∈l,Pr ss c):
 Ok (lb d os h l) λr=>∃d' Zj n b,r=(d',Zj,n,b,())/\fm ss d' Zj/\0<=n/\n<=16:=by
 obtain⟨b,eo,hb⟩:=ya (h:=h) hF;unfold lb;rw[ri hF];simp only[oBS,eo]
 cases b with
 |false=>
  simp only[Bool.not_false,oCT,oBS];exact Ok.ret ⟨_,_,_,_,rfl,hF,by decide,by decide⟩
 |true=>
  obtain⟨j,f,o,x,rfl,hj,ho,hof,hx,o0,o1⟩:=hb rfl;have hg:dI os j=some o:=ho;have Wz:dI d f=some x:=hx;have hjl:=(oGS ho).1;have Zz:=(oGS hx).1;have Vc:=hF.flen x (dO hx);simp only[oNT,oCF,dL,oBS,hg]
  cases hw:o.2.2 with
  |false=>
   simp only[Bool.not_false,oCT,oBS];exact Ok.ret ⟨_,_,_,_,rfl,hF,by decide,by decide⟩
  |true=>
   delta dM;simp only[oNT,oCF,oBS,jj (n:=(l.length:Int)) hs V5 (by omega) (by omega),dL,hg,hof,Wz];rw[dP (x:=64-o.2.1) (by omega) (by omega)];obtain⟨m1,m2,m3⟩:=Cc (a:=(l.length:Int)) (b:=64-o.2.1);generalize mmR false (l.length:Int) (64-o.2.1)=k at m1 m2 m3
   refine Ok.loop (P:=λs'=>∃(i:Nat)(y:List DCn),s'=(l,j,k,k,(i:Int),(),(),d,f,os,y,())/\(i:Int)<=k/\(∀c∈y,Pr ss c)/\x.length<=y.length/\o.2.1+i<=y.length/\y.length<=64)
    (R:=λr=>∃y:List DCn,r=(l,j,k,k,k,false,(),(),d,f,os,y,())/\(∀c∈y,Pr ss c)/\x.length<=y.length/\o.2.1+k<=y.length/\y.length<=64) (m:=λs'=>(k-s'.2.2.2.2.1).toNat) ⟨0,x,rfl,by omega,hF.cells x (dO hx),by omega,by omega,Vc⟩ (by unfold NN;dsimp only;omega) ?_ ?_
   ·rintro _ ⟨i,y,rfl,hi,hy,W5,Qp,Vd⟩;unfold oe;dsimp only
    (with_reducible refine dF (λZ'=>?_) λZ'=>?_)
    ·delta dM;simp only[hg,oBS,dL];rw[dP (x:=o.2.1+i) (by omega) (by omega)];obtain⟨c,hc⟩:∃c,l[i]?=some c:=⟨_,oGE (by omega)⟩;have ZC:dI l i=some c:=hc;have Uv:=V5 c (dO hc);simp only[ZC,oBS];refine Ok.bind (P:=λr=>∃y':List DCn,r=(l,j,k,k,(i:Int),(),(),d,f,os,y',())/\(∀c∈y',Pr ss c)/\x.length<=y'.length/\o.2.1+i+1<=y'.length/\y'.length<=64) ?_ ?_
     ·(with_reducible refine dF (λZ3=>?_) λZ3=>?_)
      ·refine Ok.nat (by omega) λq hq=>?_;refine Ok.get (by omega) λ_ hz=>?_;refine Ok.get (by omega) λ_ _=>?_;rw[eq hz];exact Ok.ret ⟨_,rfl,ii hy Uv,by rw[List.length_set];omega,by rw[List.length_set];omega,by rw[List.length_set];omega⟩
      ·refine dG (dS (by simp;omega)) ?_;exact Ok.ret ⟨_,rfl,iD hy (all_cons Uv ef),by rw[eV];omega,by rw[eV,List.length_singleton];omega,by rw[eV,List.length_singleton];omega⟩
     ·rintro _ ⟨y',rfl,g1,g2,g3,g4⟩;dsimp only;rw[dP (x:=(i:Int)+1) (by omega) (by omega)];exact Ok.ret ⟨⟨i+1,y',rfl,by omega,g1,g2,by omega,g4⟩,by dsimp only;omega⟩
    ·obtain rfl:(i:Int)=k:=by omega
     exact Ok.ret ⟨y,rfl,hy,W5,Qp,Vd⟩
   ·rintro _ ⟨y,rfl,hy,W5,Qp,Vd⟩;dsimp only;simp only[hg,oBS,hof,dL,Wz];refine dG (by simp) ?_;rw[dP (x:=o.2.1+k) (by omega) (by omega),eq hx,eq ho];refine Ok.ret ⟨_,_,_,_,rfl,(hF.setFile hx Vd hy W5).setOpen (.inr ⟨by dsimp only;omega,y,?_,by dsimp only;omega,by dsimp only;omega⟩),by omega,by omega⟩;dsimp only;rw[hof,oTN];exact gG Zz y
theorem GK{ss:List Int}{d:List (List DCn)}{os:List DOp}{h n:Int}(hF:fm ss d os)(hn:0<=n/\n<=65535):
 Ok (mt d os h n) λr=>(∃d' Zj,r=.inl (d',Zj,(),false,())/\fm ss d' Zj)\/(∃d' Zj l,r=.inr (d',Zj,l,true,())/\fm ss d' Zj/\(l.length:Int)<=n/\l.length<=64/\∀c∈l,Pr ss c):=by
 obtain⟨b,eo,hb⟩:=ya (h:=h) hF;unfold mt;rw[ri hF];simp only[oBS,eo]
 cases b with
 |false=>
  exact Ok.ret (.inl ⟨_,_,rfl,hF⟩)
 |true=>
  obtain⟨j,f,o,x,rfl,hj,ho,hof,hx,o0,o1⟩:=hb rfl;have hg:dI os j=some o:=ho;have Wz:dI d f=some x:=hx;have Vc:=hF.flen x (dO hx);rw[oDF (show ¬n<0 by omega)];simp only[oNT,oCF,dL,oBS,hg]
  cases hw:o.2.2 with
  |true=>exact Ok.ret (.inl ⟨_,_,rfl,hF⟩)
  |false=>
   delta dM;simp only[oCF,dL,oBS,hg,hof,Wz];rw[dP (x:=(x.length:Int)-o.2.1) (by omega) (by omega)];obtain⟨m1,m2,m3⟩:=Cc (a:=n) (b:=(x.length:Int)-o.2.1);generalize mmR false n ((x.length:Int)-o.2.1)=k at m1 m2 m3;rw[dP (x:=o.2.1+k) (by omega) (by omega)];refine Ok.nat o0 λp hp=>?_;refine Ok.nat (by omega) λq hq=>?_;refine dG (by unfold j0;simp;omega) ?_
   have Qz:(mU x p (Nat.sub q p)).length=q-p:=by
    unfold mU;rw[oLT,List.length_drop];show min (q-p) _=q-p;omega
   refine dG (dS (by omega)) ?_;rw[eq ho];refine Ok.ret (.inr ⟨_,_,_,rfl,hF.setOpen (.inr ⟨by dsimp only;omega,x,by dsimp only;rw[hof,oTN];exact hx,by dsimp only;omega,by dsimp only;omega⟩),?_,?_,?_⟩)
   ·rw[eV,Qz];simp;omega
   ·rw[eV,Qz];simp;omega
   ·refine iD ef λc hc=>hF.cells x (dO hx) c ?_;unfold mU at hc;exact List.mem_of_mem_drop (List.mem_of_mem_take hc)
theorem Fv{ss:List Int}{d:List (List DCn)}{os:List DOp}{h:Int}(hF:fm ss d os):Ok (lc d os h) λr=>∃d' Zj b,r=(d',Zj,b,())/\fm ss d' Zj:=by
 have ⟨b,eo,hb⟩:=ya (h:=h) hF;unfold lc;rw[ri hF];simp only[eo]
 cases b with
 |false=>exact Ok.ret ⟨_,_,_,rfl,hF⟩
 |true=>
  obtain⟨j,f,o,x,rfl,hj,ho,hof,hx,o0,o1⟩:=hb rfl;have hg:dI os j=some o:=ho;simp only[dL,oBS,hg];rw[eq ho];exact Ok.ret ⟨_,_,_,rfl,hF.setOpen (.inl ⟨rfl,rfl,rfl⟩)⟩
theorem Gy{ss:List Int}{d:List (List DCn)}{os:List DOp}{h n:Int}(hF:fm ss d os):Ok (ms d os h n) λr=>∃d' Zj b,r=(d',Zj,b,())/\fm ss d' Zj:=by
 obtain⟨b,eo,hb⟩:=ya (h:=h) hF;unfold ms;rw[ri hF];simp only[eo]
 cases b with
 |false=>
  exact Ok.ret ⟨_,_,_,rfl,hF⟩
 |true=>
  obtain⟨j,f,o,x,rfl,hj,ho,hof,hx,o0,o1⟩:=hb rfl;have hg:dI os j=some o:=ho;have Wz:dI d f=some x:=hx;delta dM;simp only[oNT,oCF,dL,oBS,hg,hof,Wz];by_cases hn:n<0
  ·simp only[oDT hn,oCT,oBS];exact Ok.ret ⟨_,_,_,rfl,hF⟩
  ·simp only[oDF hn,oCF,oBS]
   (with_reducible refine dF (λZ'=>?_) λZ'=>?_)
   ·exact Ok.ret ⟨_,_,_,rfl,hF⟩
   ·simp only[dL,oBS,hg];rw[eq ho];exact Ok.ret ⟨_,_,_,rfl,hF.setOpen (.inr ⟨by dsimp only;omega,x,by simp_all,by dsimp only;omega,by dsimp only;omega⟩)⟩
theorem I6{ss:List Int}{d:List (List DCn)}{os:List DOp}{file mode:Int}(hF:fm ss d os):Ok (mu d os file mode) λr=>∃d' Zj h,r=(d',Zj,h,())/\fm ss d' Zj/\-1<=h/\h<=7:=by
 have h8:=hF.olen;have P9:=hF.dlen;unfold mu;rw[ri hF];simp only[oBS];refine Ok.loop (P:=λs'=>∃i:Nat,s'=(file,mode,(i:Int),d,os,(),(),d,os,())/\i<=8) (R:=λr=>∃i:Nat,r=(file,mode,(i:Int),false,d,os,(),(),d,os,())/\i<=8) (m:=λs'=>(8-s'.2.2.1).toNat) ⟨0,rfl,by omega⟩ (by unfold NN;dsimp only;omega) ?_ ?_
 ·rintro _ ⟨i,rfl,hi⟩;unfold oD;delta dM;simp only[h8,dL,oBS]
  (with_reducible refine dF (λZ'=>?_) λZ'=>?_)
  ·refine Ok.get (by omega) λo ho=>?_
   (with_reducible refine dF (λZ3=>?_) λZ3=>?_)
   ·rw[dP (x:=(i:Int)+1) (by omega) (by omega)];exact Ok.ret ⟨⟨i+1,rfl,by omega⟩,by dsimp only;omega⟩
   ·exact Ok.ret ⟨i,rfl,hi⟩
  ·exact Ok.ret ⟨i,rfl,hi⟩
 rintro _ ⟨i,rfl,hi⟩;delta dM;simp only[h8];have NY:fm ss d os/\(-1:Int)<=-1/\(-1:Int)<=7:=⟨hF,by decide,by decide⟩;refine Ok.bind (P:=λr=>(∃b:Bool,r=(file,mode,(i:Int),b,(),(),d,os,())/\(b=false->0<=file/\file<d.length/\i<8))) ?_ ?_
 ·(with_reducible refine dF (λZ'=>?_) λZ'=>?_)
  ·exact Ok.ret ⟨true,rfl,λh=>by cases h⟩
  (with_reducible refine dF (λZ3=>?_) λZ3=>?_)
  ·exact Ok.ret ⟨true,rfl,λh=>by cases h⟩
  (with_reducible refine dF (λhcc=>?_) λhcc=>?_)
  ·exact Ok.ret ⟨true,rfl,λh=>by cases h⟩
  (with_reducible refine dF (λXx=>?_) λXx=>?_)
  ·exact Ok.ret ⟨true,rfl,λh=>by cases h⟩
  exact Ok.ret ⟨_,rfl,λh=>⟨by omega,by omega,by rw[beq_eq_false_iff_ne]at h;omega⟩⟩
 rintro _ ⟨b,rfl,hb⟩;dsimp only
 cases b with
 |true=>exact Ok.ret ⟨_,_,_,rfl,NY⟩
 |false=>
  obtain⟨f0,f1,qN⟩:=hb rfl;obtain⟨f,rfl⟩:∃f:Nat,file=f:=⟨file.toNat,by omega⟩;obtain⟨x,hx⟩:∃x,d[f]?=some x:=⟨_,oGE (by omega)⟩;obtain⟨o,ho⟩:∃o,os[i]?=some o:=⟨_,oGE (by omega)⟩;have Wz:dI d f=some x:=hx;have hg:dI os i=some o:=ho;have Zz:=(oGS hx).1;have YV:=(oGS ho).1;simp only[oCF,dL,oBS,Wz,hg];by_cases h1:mode=1
  ·subst h1;simp only[BEq.rfl,oCT];rw[eq hx];simp only[h8]
   refine Ok.loop (P:=λs'=>∃(q:Nat)(Zj:List DOp),s'=((f:Int),1,(i:Int),((8:Nat):Int),(q:Int),(),(),d.set f [],Zj,())/\q<=8/\Zj.length=8/\(∀(j:Nat) o,j<q->Zj[j]?=some o->LB (d.set f []) o)/\∀j:Nat,q<=j->Zj[j]?=os[j]?)
    (R:=λr=>∃(z:Int)(Zj:List DOp),r=((f:Int),1,(i:Int),((8:Nat):Int),z,false,(),(),d.set f [],Zj,())/\fm ss (d.set f []) Zj) (m:=λs'=>(8-s'.2.2.2.2.1).toNat) ⟨0,os,rfl,by omega,h8,λj o hj=>by omega,λ_ _=>rfl⟩ (by unfold NN;dsimp only;omega) ?_ ?_
   ·rintro _ ⟨q,Zj,rfl,hq,YR,ha,hr⟩;unfold oC;dsimp only
    (with_reducible refine dF (λZ'=>?_) λZ'=>?_)
    ·obtain⟨o',Zm⟩:∃o',Zj[q]?=some o':=⟨_,oGE (by omega)⟩;have UZ:dI Zj q=some o':=Zm;have hop:=hF.opens o' (dO (by rw[<- hr q (by omega)];exact Zm));simp only[dL,oBS,UZ];refine Ok.bind (P:=λr=>∃o2:DOp,LB (d.set f []) o2/\r=((f:Int),1,(i:Int),((8:Nat):Int),(q:Int),(),(),d.set f [],Zj.set q o2,())) ?_ ?_
     ·by_cases hof:o'.1=f
      ·simp only[beq_iff_eq.2 hof,oCT];rw[eq Zm];exact Ok.ret ⟨_,.inr ⟨by dsimp only;omega,[],by dsimp only;rw[hof,oTN];exact gG Zz [],by dsimp only;omega,by simp⟩,rfl⟩
      ·simp only[oBF hof,oCF];refine Ok.ret ⟨o',?_,by rw[xQ Zm]⟩;rcases hop with h|⟨g1,z,g2,g3⟩
       ·exact .inl h
       ·exact .inr ⟨g1,z,by rw[m7 (by omega)];exact g2,g3⟩
     ·rintro _ ⟨o2,RT,rfl⟩;dsimp only;rw[dP (x:=(q:Int)+1) (by omega) (by omega)];refine Ok.ret ⟨⟨q+1,_,rfl,by omega,by rw[List.length_set];exact YR,λj o hj hjo=>?_,λj hj=>?_⟩,by dsimp only;omega⟩
      ·by_cases e:q=j
       ·subst e;rw[show(Zj.set q o2)[q]?=some o2 from gG (by omega) o2]at hjo;cases hjo;exact RT
       ·rw[m7 e]at hjo;exact ha j o (by omega) hjo
      ·rw[m7 (by omega)];exact hr j (by omega)
    ·refine Ok.ret ⟨_,_,rfl,⟨by rw[List.length_set];exact P9,ii hF.flen (by simp),ii hF.cells ef,YR,λo' Zm=>?_⟩⟩;obtain⟨j,hj⟩:=List.getElem?_of_mem Zm;have:=(oGS hj).1;exact ha j o' (by omega) hj
   ·rintro _ ⟨z,Zj,rfl,Sv⟩;have YR:=Sv.olen;obtain⟨o',Zm⟩:∃o',Zj[i]?=some o':=⟨_,oGE (by omega)⟩;have UZ:dI Zj i=some o':=Zm;simp only[dL,oBS,UZ,show((1:Int)==2)=false from rfl,oCF];rw[eq Zm];exact Ok.ret ⟨_,_,_,rfl,Sv.setOpen (.inr ⟨by dsimp only;omega,[],by dsimp only;rw[oTN];exact gG Zz [],by dsimp only;omega,by simp⟩),by omega,by omega⟩
  ·simp only[oBF h1,oCF];rw[eq ho];by_cases h2:mode=2
   ·subst h2;simp only[BEq.rfl,oCT,oBS,gG YV,m6 YV];exact Ok.ret ⟨_,_,_,rfl,hF.setOpen (.inr ⟨by dsimp only;omega,x,by dsimp only;rw[oTN];exact hx,by dsimp only;omega,by dsimp only;omega⟩),by omega,by omega⟩
   ·simp only[oBF h2,oCF,oBS];exact Ok.ret ⟨_,_,_,rfl,hF.setOpen (.inr ⟨by dsimp only;omega,x,by dsimp only;rw[oTN];exact hx,by dsimp only;omega,by dsimp only;omega⟩),by omega,by omega⟩
theorem fO(n:Int)(b:Bool):∃v,dZ n b=some (0,v,0,0,(),-1,false,())/\W16 v:=by
 cases b with
 |true=>exact⟨_,rfl,lR _⟩
 |false=>exact⟨_,rfl,lR _⟩
theorem jO{ss:List Int}{v:Int}(h:W16 v):Pr ss (0,v,0,0):=.inl ⟨.inl rfl,rfl,rfl,h⟩
theorem J3{ss:List Int}{v:Int}(h:W16 v):Pr ss (2,v,0,0):=.inl ⟨.inr rfl,rfl,rfl,h⟩
theorem Gx{ss:List Int}{us:List DOu}{sk:Int}{l:List DCn}(hu:us.length<=200)(ho:∀(i:Nat) x,us[i]?=some x->MI ss i x)(hl:l.length<=16)(V5:∀c∈l,Pr ss c):
 Ok (mr us sk l) λr=>∃UM n b,r=(UM,n,b,())/\UM.length<=200/\∀(i:Nat) x,UM[i]?=some x->MI ss i x:=by
 have hc:jc us=some (us,()):=Bz (by omega) λx hx=>by
  obtain⟨j,hj⟩:=List.getElem?_of_mem hx;have:=(ho j x hj).2.2.2.1;omega
 unfold mr;rw[hc];delta dM;refine Ok.bind (P:=λr=>∃b:Bool,r=(us,sk,l,b,us,())/\(b=false->0<=sk/\sk<2/\us.length<200)) ?_ ?_
 ·(with_reducible refine dF (λZ'=>?_) λZ'=>?_)
  ·exact Ok.ret ⟨true,rfl,λh=>by cases h⟩
  (with_reducible refine dF (λZ3=>?_) λZ3=>?_)
  ·exact Ok.ret ⟨true,rfl,λh=>by cases h⟩
  (with_reducible refine dF (λhcc=>?_) λhcc=>?_)
  ·exact Ok.ret ⟨true,rfl,λh=>by cases h⟩
  exact Ok.ret ⟨_,rfl,λh=>⟨by omega,by omega,by omega⟩⟩
 rintro _ ⟨b,rfl,hb⟩;dsimp only
 cases b with
 |true=>exact Ok.ret ⟨_,_,_,rfl,hu,ho⟩
 |false=>
  obtain⟨s0,s1,hlt⟩:=hb rfl;simp only[oCF];refine dG (dS (by omega)) (dG (dS (by simp;omega)) ?_);refine Ok.ret ⟨_,_,_,rfl,by rw[eV];simp;omega,λi x hx=>?_⟩;simp at hx;rw[List.getElem?_append]at hx;split at hx
  ·exact ho i x hx
  ·rename_i hi;obtain⟨q,hq⟩:∃q,i-us.length=q:=⟨_,rfl⟩;rw[hq]at hx
   cases q with
   |zero=>
    have:x=((us.length:Int),sk,l):=by simp_all
    subst this;exact⟨by dsimp only;omega,s0,s1,hl,V5⟩
   |succ q=>simp at hx
theorem Ac{ss:List Int}{ins:List (List Int)}{sk n:Int}(hi:ins.length<=2)(h:∀x∈ins,x.length<=64/\∀w∈x,W16 w)(hn:0<=n/\n<=65535):
 Ok (jv ins sk n) λr=>(∃Yt,r=.inl (Yt,(),false,())/\Yt.length<=2/\∀x∈Yt,x.length<=64/\∀w∈x,W16 w)\/
  (∃Yt l,r=.inr (Yt,l,true,())/\(Yt.length<=2/\∀x∈Yt,x.length<=64/\∀w∈x,W16 w)/\(l.length:Int)<=n/\l.length<=64/\∀c∈l,Pr ss c):=by
 unfold jv;rw[vl (by omega) (λx hx=>by have:=(h x hx).1;omega)];delta dM;simp only[oBS];refine Ok.bind (P:=λr=>∃b:Bool,r=(ins,sk,n,b,ins,())/\(b=false->0<=sk/\sk<ins.length)) ?_ ?_
 ·(with_reducible refine dF (λZ'=>?_) λZ'=>?_)
  ·exact Ok.ret ⟨true,rfl,λh=>by cases h⟩
  (with_reducible refine dF (λZ3=>?_) λZ3=>?_)
  ·exact Ok.ret ⟨true,rfl,λh=>by cases h⟩
  exact Ok.ret ⟨_,rfl,λ_=>⟨by omega,by omega⟩⟩
 rintro _ ⟨b,rfl,hb⟩;dsimp only
 cases b with
 |true=>exact Ok.ret (Or.inl ⟨_,rfl,hi,h⟩)
 |false=>
 obtain⟨s0,s1⟩:=hb rfl;obtain⟨j,rfl⟩:∃j:Nat,sk=j:=⟨sk.toNat,by omega⟩;obtain⟨x,hx⟩:∃x,ins[j]?=some x:=⟨_,oGE (by omega)⟩;have Wz:dI ins j=some x:=hx;have hjl:=(oGS hx).1;obtain⟨Vc,QD⟩:=h x (dO hx);simp only[oCF,oBS,dL,Wz];obtain⟨m1,m2,m3⟩:=Cc (a:=n) (b:=(x.length:Int));generalize mmR false n (x.length:Int)=k at m1 m2 m3;obtain⟨q,rfl⟩:∃q:Nat,k=q:=⟨k.toNat,by omega⟩;simp only[dL,oBS];refine dG (by unfold j0;simp;omega) ?_
 have hw:mU x 0 (Nat.sub q 0)=x.take q:=by unfold mU;rw[List.drop_zero];rfl
 have UI:(x.take q).length=q:=by rw[oLT];omega
 rw[hw];simp only[UI]
 have e:dU fP NN ((j:Int),(q:Int),x.take q,(q:Int),0,ins,[],())=some ((j:Int),(q:Int),x.take q,(q:Int),(q:Int),false,ins,(x.take q).map (λw=>(0,w,0,0)),()):=by
  have:=l8 (f:=fP) (N:=NN) (st:=λi=>((j:Int),(q:Int),x.take q,(q:Int),(i:Int),ins,((x.take q).take i).map (λw=>((0:Int),w,(0:Int),(0:Int))),())) (n:=q) (t:=((j:Int),(q:Int),x.take q,(q:Int),(q:Int),false,ins,(x.take q).map (λw=>((0:Int),w,(0:Int),(0:Int))),())) (by unfold NN;omega) ?_ ?_
  ·exact this
  ·intro i hi;unfold fP;dsimp only;rw[oDT (show(i:Int)<q by omega),dL];simp only[oCT,oBS];refine Ok.get (by omega) λw hw=>?_;refine dG (dS (by simp;omega)) ?_;rw[dP (x:=(i:Int)+1) (by omega) (by omega)];refine Ok.ret ?_;rw[<- gH (λw=>((0:Int),w,(0:Int),(0:Int))) hw];rfl
  ·unfold fP;dsimp only;rw[oDF (show ¬(q:Int)<q by omega)];refine Ok.ret ?_;rw[show(x.take q).take q=x.take q from List.take_of_length_le (by omega)]
 rw[e];simp only[dL,oBS,Wz];refine dG (by unfold j0;simp;omega) ?_;rw[eq hx]
 have hd:∀c∈mU x q (Nat.sub x.length q),c∈x:=λc hc=>by
  unfold mU at hc;exact List.mem_of_mem_drop (List.mem_of_mem_take hc)
 have Tl:(mU x q (Nat.sub x.length q)).length<=64:=by
  unfold mU;rw[oLT,List.length_drop];omega
 refine Ok.ret (.inr ⟨_,_,rfl,⟨by rw[List.length_set];exact hi,ii h ⟨Tl,λw hw=>QD w (hd w hw)⟩⟩,by rw[List.length_map,UI];omega,by rw[List.length_map,UI];omega,λc hc=>?_⟩);obtain⟨w,hw,rfl⟩:=List.mem_map.1 hc;exact jO (QD w (List.mem_of_mem_take hw))
theorem wW{n:Int}{ss:List Int}{i stop trap count pc call:Int}{args data:List DCn}(hs:vK ss)(h:wR n ss i stop trap count pc call args data)(hn:n<=1099511627776):jD i stop trap count pc call args data=some (true,()):=by
 have ⟨⟨a1,a2⟩,⟨b1,b2⟩,⟨c1,c2⟩,⟨d1,d2⟩,⟨e1,e2⟩,⟨f1,f2⟩,⟨g1,g2⟩,⟨k1,k2⟩,_,_⟩:=h;refine eJ ?_;unfold jD;rw[jj hs g2 (by omega) (by omega),jj hs k2 (by omega) (by omega)];refine dG (oDT a1) (dG (oDT (by omega)) (dG (oDT b1) (dG (oDT b2) (dG (oDT c1) (dG (oDT c2) (dG (oDT d1) (dG (oDT (by omega)) (dG (oDT e1) (dG (oDT e2) (dG (oDT f1) (dG (oDT f2) ?_)))))))))));exact Ok.ret rfl
theorem E8{n:Int}{ss:List Int}{i trap count pc call:Int}{args data:List DCn}(h:wR n ss i 1 trap count pc call args data):lh i 1 trap count pc call args data=some (true,()):=by
 obtain⟨hl,hk⟩:=h.hkind rfl;obtain⟨b,eb,hb1,ZW⟩:=yg h.hcall;have h3:=Hp call
 have e:dU gN NN (b,args,(args.length:Int),0,i,1,trap,count,pc,call,args,data,())=some (.inr (b,args,(args.length:Int),(args.length:Int),false,i,1,trap,count,pc,call,args,data,())):=by
  refine l8 (f:=gN) (N:=NN) (st:=λq=>(b,args,(args.length:Int),(q:Int),i,1,trap,count,pc,call,args,data,())) (n:=args.length) (by unfold NN;omega) ?_ ?_
  ·intro q hq;obtain⟨k,Qj⟩:∃k,(kB call)[q]?=some k:=⟨_,oGE (by omega)⟩;obtain⟨a,ha⟩:∃a,args[q]?=some a:=⟨_,oGE (by omega)⟩;unfold gN;dsimp only;rw[oDT (show(q:Int)<args.length by omega),dL];simp only[oCT,oBS,show dI args q=some a from ha,ZW q,Qj,HO,hk q k a Qj ha,oCF];rw[dP (x:=(q:Int)+1) (by omega) (by omega)];exact Ok.ret rfl
  ·unfold gN;dsimp only;rw[oDF (show ¬(args.length:Int)<args.length by omega)];exact Ok.ret rfl
 unfold lh;delta dM
 simp_all
def Ly(call:Int):Bool:=decide ((1<=call/\call<=7)\/call=13\/call=14)
theorem Lx{call:Int}(h:0<=call/\call<=15):oB call=some (Ly call,()):=by
 rcases sr h with rfl|rfl|rfl|rfl|rfl|rfl|rfl|rfl|rfl|rfl|rfl|rfl|rfl|rfl|rfl|rfl<;>rfl
structure M5 (ss:List Int)(t v r o:Int)(data:List DCn)(sp:Int)(w:Bool):Prop where
 val:Pr ss (t,v,r,o)
 dat:data.length<=64/\∀c∈data,Pr ss c
 spn:-1<=sp/\sp<=3
def DoP(ss:List Int)(r:(List (Int))×(List (Int))×(List (List (Int)))×(List (List DCn))×(List DOp)×(List DOu)×Int×Int×Int×Int×(List DCn)×Int×Bool×Int×Unit):Prop:=
 ∃ck rn ins d os us t v rg o data,r=(ck,rn,ins,d,os,us,t,v,rg,o,data,-1,false,0,())/\vL ss ck rn ins d os us/\Pr ss (t,v,rg,o)/\data.length<=16/\∀c∈data,Pr ss c
theorem jT{ss:List Int}{ck rn:List Int}{ins:List (List Int)}{d:List (List DCn)}{os:List DOp}{us:List DOu}{t v rg o:Int}{data:List DCn}(h:vL ss ck rn ins d os us)(hv:Pr ss (t,v,rg,o))(hd:data.length<=16/\∀c∈data,Pr ss c):
 Ok (some (ck,rn,ins,d,os,us,t,v,rg,o,data,(-1:Int),false,(0:Int),())) (DoP ss):=Ok.ret ⟨_,_,_,_,_,_,_,_,_,_,_,rfl,h,hv,hd⟩
theorem Pr.val{ss:List Int}{c:DCn}(h:Pr ss c):W16 c.2.1:=by
 rcases h with⟨_,_,_,h⟩|⟨_,h,_⟩
 ·exact h
 ·rw[h];exact⟨by decide,by decide⟩
theorem Mo{n:Int}{ss:List Int}{i trap count pc call:Int}{args data:List DCn}(h:wR n ss i 1 trap count pc call args data):pQ call=0\/pQ call=1\/(pQ call=2/\∃a,args[2]?=some a/\a.2.1<=16):=by
 by_cases h2:pQ call=2
 ·exact .inr (.inr ⟨h2,h.hbuf rfl h2⟩)
 ·have:pQ call=0\/pQ call=1\/pQ call=2:=by unfold pQ;split<;>first|omega|(split<;>omega)
  omega
theorem ug{α:Type}{a b:Option α}{Q:α->Prop}(h:Ok a Q)(e:b=a):Ok b Q:=by simp_all
set_option maxHeartbeats 4000000 in
theorem Ll{n:Int}{ss:List Int}{ck rn:List Int}{ins:List (List Int)}{d:List (List DCn)}{os:List DOp}{us:List DOu}{i trap count pc call:Int}{args data:List DCn}(hs:vK ss)(hO:vL ss ck rn ins d os us)(hR:wR n ss i 1 trap count pc call args data)
 (ha:Ly call=true)(hn:n<=1099511627776):Ok (mV ck rn ins d os us i 1 trap count pc call args data) (DoP ss):=by
 have hc:=hR.hcall;have VW:=hR.hdata;have Wk:=hR.hargs;unfold mV;rw[rP hs hO,wW hs hR hn,Lx hc,ha,E8 hR,rM hc];simp only[oBS,oNT,oCF,bne_self_eq_false];refine Ok.bind (P:=λr=>r=(false,ck,rn,ins,d,os,us,i,1,trap,count,pc,call,args,data,(),(),(),(),(),(),0,0,0,0,(),0,false,())) ?_ ?_
 ·rcases Mo hR with h|h|⟨h,a,h2,h3⟩
  ·rw[h];exact Ok.ret rfl
  ·rw[h];exact Ok.ret rfl
  ·rw[h];simp only[BEq.rfl,oCT,show dI args 2=some a from h2,oBS];rw[oDF (show ¬a.2.1>16 by omega)];exact Ok.ret rfl
 rintro _ rfl;dsimp only;delta dM;simp only[oCF,By hO,oBS]
 refine Ok.loop (P:=λs'=>∃(k:Nat)(vs:List Int),s'=(args,(args.length:Int),(k:Int),ck,rn,ins,d,os,us,i,1,trap,count,pc,call,args,data,(),(),(),(),(),(),0,0,0,0,(),0,false,ck,rn,ins,d,os,us,vs,())/\k<=args.length/\vs.length=3/\(∀v∈vs,W16 v)/\∀(j:Nat) a,j<k->args[j]?=some a->vs[j]?=some a.2.1)
  (R:=λr=>∃(z:Int)(vs:List Int),r=(args,(args.length:Int),z,false,ck,rn,ins,d,os,us,i,1,trap,count,pc,call,args,data,(),(),(),(),(),(),0,0,0,0,(),0,false,ck,rn,ins,d,os,us,vs,())/\vs.length=3/\(∀v∈vs,W16 v)/\∀(j:Nat) a,args[j]?=some a->vs[j]?=some a.2.1) (m:=λs'=>(s'.2.1-s'.2.2.1).toNat)
  ⟨0,[0,0,0],rfl,by omega,rfl,all_cons ⟨by decide,by decide⟩ (all_cons ⟨by decide,by decide⟩ (all_cons ⟨by decide,by decide⟩ ef)),λj a hj=>by omega⟩ (by unfold NN;dsimp only;omega) ?_ ?_
 ·rintro _ ⟨k,vs,rfl,hk,SK,UH,hva⟩;unfold qH;dsimp only
  (with_reducible refine dF (λZ'=>?_) λZ'=>?_)
  ·simp only[dL,oBS];refine Ok.get (by omega) λa P4=>?_;have hw:=(Wk.2 a (dO P4)).val;refine Ok.get (by omega) λv hv=>?_;refine Ok.get (by omega) λ_ _=>?_;rw[dT (x:=a.2.1) (by have:=hw.1;omega) (by have:=hw.2;omega),dP (x:=(k:Int)+1) (by omega) (by omega),eq hv];refine Ok.ret ⟨⟨k+1,_,rfl,by omega,by rw[List.length_set];exact SK,ii UH hw,λj a' hj Ut=>?_⟩,by dsimp only;omega⟩;by_cases e:k=j
   ·subst e;rw[P4]at Ut;cases Ut;exact gG (by omega) _
   ·rw[m7 e];exact hva j a' (by omega) Ut
  ·refine Ok.ret ⟨_,vs,rfl,SK,UH,λj a Ut=>hva j a ?_ Ut⟩;have:=(oGS Ut).1;omega
 rintro _ ⟨z,vs,rfl,SK,UH,hva⟩;obtain⟨v0,Up,Yr⟩:=fO 0 false
 obtain⟨a0,a1,a2,rfl⟩:∃a b c,vs=[a,b,c]:=by
  match vs,SK with
  | [a,b,c],_=>exact⟨a,b,c,rfl⟩
 have w0:W16 a0:=UH a0 (by simp);have w1:W16 a1:=UH a1 (by simp);have w2:W16 a2:=UH a2 (by simp);have g0:dI [a0,a1,a2] 0=some a0:=rfl;have g1:dI [a0,a1,a2] 1=some a1:=rfl;have g2:dI [a0,a1,a2] 2=some a2:=rfl
 have SY:pQ call=2->a2<=16:=λh=>by
  obtain⟨a,h2,h3⟩:=hR.hbuf rfl h;have:=hva 2 a h2
  have:a2=a.2.1:=by simpa using this
  omega
 have ZD:([]:List DCn).length<=16/\∀c∈([]:List DCn),Pr ss c:=⟨by decide,ef⟩;dsimp only;simp only[Up,oBS,g0,g1,g2];rcases sr hc with rfl|rfl|rfl|rfl|rfl|rfl|rfl|rfl|rfl|rfl|rfl|rfl|rfl|rfl|rfl|rfl
 all_goals first|(exact absurd ha (by decide))|simp only[Int.reduceBEq,oCT,oCF]
 ·obtain⟨_,e,d1,UL,m,b,rfl,hF,_⟩:=El (h:=a0) hs hO.files VW.1 VW.2;obtain⟨v,ev,hv⟩:=fO m b;simp only[e,ev,oBS];exact jT ⟨hO.clock,hO.rand,hO.ilen,hO.inp,hF,hO.ulen,hO.outs⟩ (jO hv) ZD
 ·have Ya:=SY rfl;obtain⟨_,e,hr⟩:=GK (h:=a0) (n:=a2) hO.files w2
  rcases hr with⟨d1,UL,rfl,hF⟩|⟨d1,UL,l,rfl,hF,hl,_,V5⟩
  ·simp only[e,Up,oBS];exact jT ⟨hO.clock,hO.rand,hO.ilen,hO.inp,hF,hO.ulen,hO.outs⟩ (jO Yr) ZD
  ·obtain⟨v,ev,hv⟩:=fO (l.length:Int) true;simp only[e,ev,oBS];exact jT ⟨hO.clock,hO.rand,hO.ilen,hO.inp,hF,hO.ulen,hO.outs⟩ (jO hv) ⟨by omega,V5⟩
 ·obtain⟨_,e,d1,UL,h,rfl,hF,h0,h7⟩:=I6 (file:=a0) (mode:=a1) hO.files;simp only[e,oBS];have V9:vL ss ck rn ins d1 UL us:=⟨hO.clock,hO.rand,hO.ilen,hO.inp,hF,hO.ulen,hO.outs⟩;by_cases hh:h>=0
  ·simp only[oDT hh,oCT];exact jT V9 (J3 (lR _)) ZD
  ·simp only[oDF hh,oCF];exact jT V9 (jO Yr) ZD
 ·obtain⟨_,e,d1,UL,b,rfl,hF⟩:=Fv (h:=a0) hO.files;obtain⟨v,ev,hv⟩:=fO 0 b;simp only[e,ev,oBS];exact jT ⟨hO.clock,hO.rand,hO.ilen,hO.inp,hF,hO.ulen,hO.outs⟩ (jO hv) ZD
 ·obtain⟨_,e,d1,UL,b,rfl,hF⟩:=Gy (h:=a0) (n:=a1) hO.files;obtain⟨v,ev,hv⟩:=fO 0 b;simp only[e,ev,oBS];exact jT ⟨hO.clock,hO.rand,hO.ilen,hO.inp,hF,hO.ulen,hO.outs⟩ (jO hv) ZD
 ·cases ck with
  |nil=>exact jT hO (jO Yr) ZD
  |cons x ck=>
   obtain⟨v,ev,hv⟩:=fO (wk .i64 x) true
   have hw:mU (x::ck) 1 (Nat.sub (x::ck).length 1)=ck:=by unfold mU;simp
   refine ug (jT (ck:=ck) ⟨⟨by have:=hO.clock.1;simp at this;omega,λw hw=>hO.clock.2 w (by simp[hw])⟩,hO.rand,hO.ilen,hO.inp,hO.files,hO.ulen,hO.outs⟩ (jO hv) ZD) ?_;simp only[oLC,show dI (x::ck) 0=some x from rfl,oBS,ev];have hd:∀inst:Decidable (((ck.length+1:Nat):Int)>0),@decide _ inst=true:=λinst=>oDT (by omega);rw[oLC]at hw;rw[hd,show j0 1 (ck.length+1) (ck.length+1)=true by unfold j0;simp,hw];rfl
 ·cases rn with
  |nil=>exact jT hO (jO Yr) ZD
  |cons x rn=>
   obtain⟨v,ev,hv⟩:=fO (wk .i64 x) true
   have hw:mU (x::rn) 1 (Nat.sub (x::rn).length 1)=rn:=by unfold mU;simp
   refine ug (jT (rn:=rn) ⟨hO.clock,⟨by have:=hO.rand.1;simp at this;omega,λw hw=>hO.rand.2 w (by simp[hw])⟩,hO.ilen,hO.inp,hO.files,hO.ulen,hO.outs⟩ (jO hv) ZD) ?_;simp only[oLC,show dI (x::rn) 0=some x from rfl,oBS,ev];have hd:∀inst:Decidable (((rn.length+1:Nat):Int)>0),@decide _ inst=true:=λinst=>oDT (by omega);rw[oLC]at hw;rw[hd,show j0 1 (rn.length+1) (rn.length+1)=true by unfold j0;simp,hw];rfl
 ·obtain⟨_,e,NU,m,b,rfl,hu,ho⟩:=Gx (sk:=a0) hO.ulen hO.outs VW.1 VW.2;obtain⟨v,ev,hv⟩:=fO m b;simp only[e,ev,oBS];exact jT ⟨hO.clock,hO.rand,hO.ilen,hO.inp,hO.files,hu,ho⟩ (jO hv) ZD
 ·have Ya:=SY rfl;obtain⟨_,e,hr⟩:=Ac (ss:=ss) (sk:=a0) (n:=a2) hO.ilen hO.inp w2
  rcases hr with⟨Px,rfl,W9,U1⟩|⟨Px,l,rfl,⟨W9,U1⟩,hl,_,V5⟩
  ·simp only[e,Up,oBS];exact jT ⟨hO.clock,hO.rand,W9,U1,hO.files,hO.ulen,hO.outs⟩ (jO Yr) ZD
  ·obtain⟨v,ev,hv⟩:=fO (l.length:Int) true;simp only[e,ev,oBS];exact jT ⟨hO.clock,hO.rand,W9,U1,hO.files,hO.ulen,hO.outs⟩ (jO hv) ⟨by omega,V5⟩
def vO(bs:List Int)(key:Int)(c:DCn):DCe:=if c.1=0 then(0,c.2.1)else if c.1=2 then(2,wk .u16 (c.2.1+key))else(1,wk .u16 (bs.getD c.2.2.1.toNat 0+c.2.2.2))
theorem DE{bs ss:List Int}(h:LV bs ss){r o n:Int}(h1:0<=r)(h2:ss[r.toNat]?=some n)(h3:0<=o)(h4:o<n):∃b,bs[r.toNat]?=some b/\0<=b+o/\b+o<512/\b<=b+o/\b+o<b+n:=by
 have ⟨hs,hl,hr⟩:=h;have hj:=(oGS h2).1;have ⟨b,hb⟩:∃b,bs[r.toNat]?=some b:=⟨_,oGE (by omega)⟩;have Wc:=hr r.toNat (by omega);unfold sx at Wc;rw[ee hb,ee h2]at Wc;exact⟨b,hb,by omega,by omega,by omega,by omega⟩
theorem sC{bs ss:List Int}{key:Int}{c:DCn}(h:LV bs ss)(hc:Pr ss c):fX bs key ss c.1 c.2.1 c.2.2.1 c.2.2.2=some ((vO bs key c).1,(vO bs key c).2,0,())/\mg (RK bs ss) (vO bs key c):=by
 unfold fX vO;rw[l7 hc]
 rcases hc with⟨h1|h1,h2,h3,h4⟩|⟨h1,h2,h3,n,h5,h6,h7⟩
 ·rw[h1];exact⟨rfl,kS h4⟩
 ·rw[h1];exact⟨rfl,(show(0:Int)<=2 by decide),(show(2:Int)<=2 by decide),(lR _).1,(lR _).2,λe=>absurd (show(2:Int)=1 from e) (by decide)⟩
 ·obtain⟨b,hb,b0,b1,b2,b3⟩:=DE h h3 h5 h6 h7;obtain⟨j,hj⟩:∃j:Nat,c.2.2.1=j:=⟨c.2.2.1.toNat,by omega⟩;rw[hj]at hb h5⊢;rw[h1,ee hb];simp[Int.reduceBEq,Int.reduceEq,oCF,if_false,dL,oBS,show dI bs j=some b from hb];rw[dP (by omega) (by omega),dX (by omega) (by omega)];exact⟨rfl,by omega,by omega,by omega,by omega,λ_=>⟨j,b,n,hb,h5,b2,b3⟩⟩
theorem FD{bs ss:List Int}{key r o n:Int}(h:LV bs ss)(h1:0<=r)(h2:ss[r.toNat]?=some n)(h3:0<=o)(h4:o<n):∃a,jI bs key ss r o=some (a,0,())/\0<=a/\a<512/\a=bs.getD r.toNat 0+o:=by
 have ⟨b,hb,b0,b1,_⟩:=DE h h1 h2 h3 h4;obtain⟨j,rfl⟩:∃j:Nat,r=j:=⟨r.toNat,by omega⟩;unfold jI;rw[AK h1 h2 h3 h4];simp[dL,show dI bs j=some b from hb];rw[dP (by omega) (by omega)]
 simp_all
theorem Jb(pc t v:Int):nC pc t v=some (1,[(t,v),(0,0),(0,0),(0,0),(0,0),(0,0),(0,0),(0,0)],pc,0,-1,-1,0,0,()):=rfl
def M6(n key:Int)(ss bs:List Int)(r:Bool×(List (Int))×Int×(List DCe)×(List DLn)×(List DTh)×Unit):Prop:=∃b Z4 Z2 Zs,r=(b,bs,key,Z4,Z2,Zs,())/\(b=true->MOk n ss bs Z4 Z2 Zs)
theorem uw{n key:Int}{ss bs:List Int}{cs:List DCe}{ls:List DLn}{ts:List DTh}:Ok (some (false,bs,key,cs,ls,ts,())) (M6 n key ss bs):=Ok.ret ⟨_,_,_,_,rfl,λh=>by cases h⟩
theorem oA{n key ct cv:Int}{ss bs:List Int}{cs:List DCe}{ls:List DLn}{ts:List DTh}{i:Nat}(h:MOk n ss bs cs ls ts)(hi:i<4)(hc:mg (RK bs ss) (ct,cv)):
 Ok ((dI ts i).bind λ_=>(dI ts i).bind λPN=>(dI PN.2.1 0).bind λ_=>(dI ts i).bind λPO=>(dI PO.2.1 0).bind λ_=>(dI (List.modify ts i λe=>(e.1,((List.modify e.2.1 0 λ_=>(ct,cv)),e.2.2))) i).bind λ_=>
  some (true,bs,key,cs,ls,List.modify (List.modify ts i λe=>(e.1,((List.modify e.2.1 0 λ_=>(ct,cv)),e.2.2))) i λe=>((1:Int),e.2),())) (M6 n key ss bs):=by
 have XI:=h.tlen;have ⟨t,ht⟩:∃t,ts[i]?=some t:=⟨_,oGE (by omega)⟩;have hg:dI ts i=some t:=ht;have YV:=(oGS ht).1;have hok:=h.thr t (dO ht);have ⟨c,hc0⟩:∃c,t.2.1[0]?=some c:=⟨_,oGE (by have:=hok.len;omega)⟩;simp[hg,show dI t.2.1 0=some c from hc0,eq ht,eq hc0,gG YV,m6 YV];exact Ok.ret ⟨_,_,_,_,rfl,λ_=>h.set h.mem ⟨⟨show(0:Int)<=1 by decide,show(1:Int)<=4 by decide⟩,by dsimp only;rw[List.length_set];exact hok.len,ii hok.regs hc,hok.pc,hok.count,hok.handler,hok.saved,hok.trap,hok.code⟩⟩
theorem Ep{K:Int->Prop}{n pc:Int}{rs:List DCe}(hl:rs.length=8)(hr:∀c∈rs,mg K c)(hp:0<=pc/\pc<=255)(hn:0<=n):vJ K n (1,rs,pc,0,-1,-1,0,0):=
 ⟨⟨show(0:Int)<=1 by decide,show(1:Int)<=4 by decide⟩,hl,hr,hp,⟨show(0:Int)<=0 by decide,hn⟩,⟨show(-1:Int)<=-1 by decide,show(-1:Int)<=255 by decide⟩,⟨show(-1:Int)<=-1 by decide,show(-1:Int)<=255 by decide⟩,⟨show(0:Int)<=0 by decide,show(0:Int)<=6 by decide⟩,⟨show(0:Int)<=0 by decide,show(0:Int)<=65535 by decide⟩⟩
theorem MOk.mk_mem{n:Int}{ss bs:List Int}{cs Z4:List DCe}{ls Z2:List DLn}{ts:List DTh}(h:MOk n ss bs cs ls ts)(hm:jl (RK bs ss) Z4 Z2):MOk n ss bs Z4 Z2 ts:=⟨h.lay,hm,h.tlen,h.thr⟩
set_option maxHeartbeats 4000000 in
theorem IY{n m key:Int}{code:List DIn}{ss bs:List Int}{dd:List (List Int)}{cs:List DCe}{ls:List DLn}{ts:List DTh}{i:Nat}{trap count pc call:Int}{args data:List DCn}{t v rg o sp:Int}{dat:List DCn}{w:Bool}(h:MOk n ss bs cs ls ts)(hi:i<4)
 (hR:wR m ss (i:Int) 1 trap count pc call args data)(hv:Pr ss (t,v,rg,o))(hd:dat.length<=16/\∀c∈dat,Pr ss c)(ZE:-1<=sp/\sp<=3):
 Ok (nz code ss dd (i:Int) 1 trap count pc call args data t v rg o dat sp w bs key cs ls ts) (M6 n key ss bs):=by
 have hL:=h.lay;have XI:=h.tlen;obtain⟨YW,XB⟩:=hR.hkind rfl;have hargs:=hR.hargs;obtain⟨Wa,Yy⟩:=sC (key:=key) hL hv;obtain⟨th,Yd⟩:∃th,ts[i]?=some th:=⟨_,oGE (by omega)⟩;have hok:=h.thr th (dO Yd);have hc0:=hok.count;have YV:=(oGS Yd).1;dsimp only at Wa;unfold nz;delta dM;rw[dL,Wa,rM hR.hcall];simp only[oBS,bne_self_eq_false,oCF];refine Ok.get YV λ_ _=>?_;have ZX:=oA (key:=key) (ct:=(vO bs key (t,v,rg,o)).1) (cv:=(vO bs key (t,v,rg,o)).2) h hi Yy
 have buf:pQ call=2->dat.length>0->∃a:DCn,args[1]?=some a/\Pr ss a/\a.1=1/\∃y,dU kp NN (i,dat,(dat.length:Int),0,bs,key,cs,ls,ts,code,ss,dd,(i:Int),1,trap,count,pc,call,args,data,t,v,rg,o,dat,sp,w,(vO bs key (t,v,rg,o)).1,(vO bs key (t,v,rg,o)).2,a.2.2.1,a.2.2.2,())=some y /\
  ((∃Z4 Z2,y=.inl (false,bs,key,Z4,Z2,ts,()))\/(∃Z4 Z2 z f,y=.inr (i,dat,(dat.length:Int),z,false,bs,key,Z4,Z2,ts,code,ss,dd,(i:Int),1,trap,count,pc,call,args,data,t,v,rg,o,dat,sp,w,(vO bs key (t,v,rg,o)).1,(vO bs key (t,v,rg,o)).2,a.2.2.1,f,())/\jl (RK bs ss) Z4 Z2)):=by
  intro hb ZV
  have hkk:(kB call)[1]?=some 80:=by
   have:call=2\/call=14:=by unfold pQ at hb;split at hb<;>first|omega|(split at hb<;>omega)
   rcases this with rfl|rfl<;>rfl
  have Xp:=(oGS hkk).1;obtain⟨a,ha⟩:∃a,args[1]?=some a:=⟨_,oGE (by omega)⟩;have Wk:=hargs.2 a (dO ha);have ZU:=XB 1 80 a hkk ha
  have XN:a.1=1:=by unfold Jy at ZU;simpa using ZU
  have Om:0<=a.2.2.2/\a.2.2.2<=32:=by
   rcases Wk with⟨g,_⟩|⟨_,_,_,z,g1,g2,g3⟩
   ·omega
   ·have:=hL.1.2.2 z (dO g1);omega
  refine⟨a,ha,Wk,XN,?_⟩
  refine fF (f:=kp) (n:=NN) (P:=λs'=>∃k:Nat,∃Z4 Z2,s'=(i,dat,(dat.length:Int),(k:Int),bs,key,Z4,Z2,ts,code,ss,dd,(i:Int),1,trap,count,pc,call,args,data,t,v,rg,o,dat,sp,w,(vO bs key (t,v,rg,o)).1,(vO bs key (t,v,rg,o)).2,a.2.2.1,a.2.2.2+k,())/\k<=dat.length/\jl (RK bs ss) Z4 Z2)
   (R:=λy=>(∃Z4 Z2,y=.inl (false,bs,key,Z4,Z2,ts,()))\/(∃Z4 Z2 z f,y=.inr (i,dat,(dat.length:Int),z,false,bs,key,Z4,Z2,ts,code,ss,dd,(i:Int),1,trap,count,pc,call,args,data,t,v,rg,o,dat,sp,w,(vO bs key (t,v,rg,o)).1,(vO bs key (t,v,rg,o)).2,a.2.2.1,f,())/\jl (RK bs ss) Z4 Z2))
   (m:=λs'=>(s'.2.2.1-s'.2.2.2.1).toNat) ⟨0,cs,ls,by simp,by omega,h.mem⟩ (by unfold NN;dsimp only;omega) ?_
  rintro _ ⟨k,Z4,Z2,rfl,hk,hm⟩;unfold kp;dsimp only
  (with_reducible refine dF (λZ'=>?_) λZ'=>?_)
  ·rw[dL];simp only[oBS];refine Ok.get (by omega) λc hc=>?_;obtain⟨Z7,X6⟩:=sC (key:=key) hL (hd.2 c (dO hc));rw[Z7];simp only[oBS,bne_self_eq_false,oCF];refine xr.bind ?_;rintro⟨q,_⟩ hin;dsimp only at hin⊢
   (with_reducible refine dF (λZ3=>?_) λZ3=>?_)
   ·exact Ok.ret (.inl ⟨_,_,rfl⟩)
   ·obtain⟨g1,g2,z,g3,g4⟩:=hin Z3;obtain⟨ad,ea,a0,a1,_⟩:=FD (key:=key) hL g1 g3 g2 g4;rw[ea];simp only[oBS];refine(wZ hm ⟨a0,a1⟩ X6).bind ?_;rintro _ ⟨VL,Wi,rfl,hm2⟩;dsimp only;rw[dP (x:=a.2.2.2+k+1) (by omega) (by omega),dP (x:=(k:Int)+1) (by omega) (by omega)];exact Ok.ret ⟨⟨k+1,_,_,by rw[show a.2.2.2+((k+1:Nat):Int)=a.2.2.2+k+1 by omega];rfl,by omega,hm2⟩,by dsimp only;omega⟩
  ·exact Ok.ret (.inr ⟨_,_,_,_,rfl,hm⟩)
 rcases sr hR.hcall with rfl|rfl|rfl|rfl|rfl|rfl|rfl|rfl|rfl|rfl|rfl|rfl|rfl|rfl|rfl|rfl
 case inr.inr.inl=>
  simp only[show((pQ 2)==2)=true from rfl,oCT];by_cases ZV:dat.length>0
  ·obtain⟨a,ha,Wk,XN,y,ey,hy⟩:=buf rfl ZV;simp only[oDT (show((dat.length:Nat):Int)>0 by omega),oCT,show dI args 1=some a from ha,oBS,l7 Wk,oNT,oCF,bne_eq_false_iff_eq.2 XN,ey]
   rcases hy with⟨Z4,Z2,rfl⟩|⟨Z4,Z2,z,f,rfl,hm⟩
   ·exact uw
   ·simp only[Int.reduceBEq,oCF];exact oA (h.mk_mem hm) hi Yy
  ·simp only[oDF (show ¬((dat.length:Nat):Int)>0 by omega),oCF,Int.reduceBEq];exact ZX
 case inr.inr.inr.inr.inr.inr.inr.inr.inr.inr.inr.inr.inr.inr.inl=>
  simp only[show((pQ 14)==2)=true from rfl,oCT];by_cases ZV:dat.length>0
  ·obtain⟨a,ha,Wk,XN,y,ey,hy⟩:=buf rfl ZV;simp only[oDT (show((dat.length:Nat):Int)>0 by omega),oCT,show dI args 1=some a from ha,oBS,l7 Wk,oNT,oCF,bne_eq_false_iff_eq.2 XN,ey]
   rcases hy with⟨Z4,Z2,rfl⟩|⟨Z4,Z2,z,f,rfl,hm⟩
   ·exact uw
   ·simp only[Int.reduceBEq,oCF];exact oA (h.mk_mem hm) hi Yy
  ·simp only[oDF (show ¬((dat.length:Nat):Int)>0 by omega),oCF,Int.reduceBEq];exact ZX
 case inr.inr.inr.inr.inr.inr.inr.inr.inr.inr.inr.inr.inl=>
  obtain⟨a,ha⟩:∃a,args[0]?=some a:=⟨_,oGE (by rw[YW];decide)⟩;have hva:=(hargs.2 a (dO ha)).val;simp only[show((pQ 12)==2)=false from rfl,oCF,Int.reduceBEq,oCT,show dI args 0=some a from ha,oBS];rw[dT (x:=a.2.1) (by have:=hva.1;omega) (by have:=hva.2;omega)];by_cases h1:a.2.1>255
  ·simp only[oDT h1,oCT];exact uw
  by_cases h2:a.1=0
  ·simp only[oDF h1,oCF,bne_eq_false_iff_eq.2 h2,show dI ts i=some th from Yd,oBS,eq Yd];exact oA (h.set h.mem ⟨hok.state,hok.len,hok.regs,hok.pc,hok.count,⟨by dsimp only;have:=hva.1;omega,by dsimp only;omega⟩,hok.saved,hok.trap,hok.code⟩) hi Yy
  ·simp only[oDF h1,oCF,bne_iff_ne.2 h2,oCT];exact uw
 case inr.inr.inr.inr.inr.inr.inr.inr.inr.inr.inl=>
  obtain⟨a,ha⟩:∃a,args[0]?=some a:=⟨_,oGE (by rw[YW];decide)⟩;obtain⟨c,hc⟩:∃c,args[1]?=some c:=⟨_,oGE (by rw[YW];decide)⟩;have hva:=(hargs.2 a (dO ha)).val;obtain⟨Z7,X6⟩:=sC (key:=key) hL (hargs.2 c (dO hc));simp only[show((pQ 10)==2)=false from rfl,oCF,Int.reduceBEq,oCT];by_cases hsp0:sp>=0
  ·obtain⟨j,rfl⟩:∃j:Nat,sp=j:=⟨sp.toNat,by omega⟩;obtain⟨tj,R5⟩:∃tj,ts[j]?=some tj:=⟨_,oGE (by omega)⟩;simp only[oDT hsp0,oCT,show dI args 0=some a from ha,show dI args 1=some c from hc,oBS,Z7,bne_self_eq_false,oCF,dL,show dI ts j=some tj from R5];rw[dT (x:=a.2.1) (by have:=hva.1;omega) (by have:=hva.2;omega)];by_cases h0:tj.1=0
   ·by_cases h1:a.2.1>255
    ·simp only[bne_eq_false_iff_eq.2 h0,oCF,oDT h1,oCT,oBS];exact uw
    by_cases h2:a.1=0
    ·simp only[bne_eq_false_iff_eq.2 h0,oDF h1,oCF,bne_eq_false_iff_eq.2 h2,oBS,show dI args 0=some a from ha,dT (x:=a.2.1) (by have:=hva.1;omega) (by have:=hva.2;omega),Jb,dL,show dI ts j=some tj from R5,eq R5];refine oA (h.set h.mem (Ep rfl (all_cons X6 ?_) ⟨hva.1,by omega⟩ (by omega))) hi Yy;exact all_cons (kS (by decide)) (all_cons (kS (by decide)) (all_cons (kS (by decide)) (all_cons (kS (by decide)) (all_cons (kS (by decide)) (all_cons (kS (by decide)) (all_cons (kS (by decide)) ef))))))
    ·simp only[bne_eq_false_iff_eq.2 h0,oDF h1,oCF,bne_iff_ne.2 h2,oCT,oBS];exact uw
   ·simp only[bne_iff_ne.2 h0,oCT,oBS];exact uw
  ·simp only[oDF hsp0,oCF];exact ZX
 all_goals
  simp only[show((pQ 0)==2)=false from rfl,show((pQ 1)==2)=false from rfl,show((pQ 3)==2)=false from rfl,show((pQ 4)==2)=false from rfl,show((pQ 5)==2)=false from rfl,show((pQ 6)==2)=false from rfl,show((pQ 7)==2)=false from rfl,
   show((pQ 8)==2)=false from rfl,show((pQ 9)==2)=false from rfl,show((pQ 11)==2)=false from rfl,show((pQ 13)==2)=false from rfl,show((pQ 15)==2)=false from rfl,oCF,Int.reduceBEq]
  exact ZX
theorem wV{ss:List Int}{t v rg o sp:Int}{dat:List DCn}{w:Bool}(hs:vK ss)(hv:Pr ss (t,v,rg,o))(hd:dat.length<=16/\∀c∈dat,Pr ss c)(ZE:-1<=sp/\sp<=3):jz t v rg o dat sp w=some (true,()):=by
 refine eJ ?_;unfold jz;rw[show je t v rg o=some (true,())from BE hs hv,jj hs hd.2 (by omega) (by omega)];refine dG (oDT ZE.1) ?_;exact Ok.ret (by rw[oDT (show sp<4 by omega)])
theorem Mu{n m key:Int}{code:List DIn}{ss bs:List Int}{dd:List (List Int)}{cs:List DCe}{ls:List DLn}{ts:List DTh}{i:Nat}{trap count pc call:Int}{args data:List DCn}{t v rg o sp:Int}{dat:List DCn}{w:Bool}(hp:jX code ss dd)(h:MOk n ss bs cs ls ts)(hi:i<4)
 (hn:n<=1099511627776)(hm:m<=1099511627776)(hR:wR m ss (i:Int) 1 trap count pc call args data)(hv:Pr ss (t,v,rg,o))(hd:dat.length<=16/\∀c∈dat,Pr ss c)(ZE:-1<=sp/\sp<=3):
 Ok (nA code ss dd bs key cs ls ts (i:Int) 1 trap count pc call args data t v rg o dat sp w) λr=>∃Z4 Z2 Zs b,r=(bs,key,Z4,Z2,Zs,b,())/\MOk n ss bs Z4 Z2 Zs:=by
 have XI:=h.tlen;obtain⟨YW,XB⟩:=hR.hkind rfl;obtain⟨th,Yd⟩:∃th,ts[i]?=some th:=⟨_,oGE (by omega)⟩;have hok:=h.thr th (dO Yd)
 have YV:=by omega
 have hg:dI ts i=some th:=Yd;unfold nA;delta dM;rw[rQ hp h hn,wW hp.sz hR hm,tD hR.hcall,wV hp.sz hv hd ZE,YW];simp only[oBS,oNT,oCF,bne_self_eq_false,dL,hg];by_cases h2:th.1=2
 ·simp only[bne_eq_false_iff_eq.2 h2,oCF,rj h,oBS,dL,hg];by_cases hc0:call=0
  ·subst hc0;obtain⟨a,ha⟩:∃a,args[0]?=some a:=⟨_,oGE (by rw[YW];decide)⟩;have hva:=(hR.hargs.2 a (dO ha)).val;simp only[BEq.rfl,oCT,show dI args 0=some a from ha,oBS];unfold lW kq;rw[dS (show 4<=1000/\0+th.2.1.length<=1000000 by have:=hok.len;omega)];simp only[oCT,oBS,eq Yd];exact Ok.ret ⟨_,_,_,_,rfl,h.set h.mem ⟨⟨show(0:Int)<=4 by decide,show(4:Int)<=4 by decide⟩,by dsimp only;rw[eV];simpa using hok.len,iD ef hok.regs,hok.pc,hok.count,hok.handler,hok.saved,⟨show(0:Int)<=0 by decide,show(0:Int)<=6 by decide⟩,hva⟩⟩
  ·simp only[oBF hc0,oCF]
   cases w with
   |true=>
    simp only[oCT,eq Yd];exact Ok.ret ⟨_,_,_,_,rfl,h.set h.mem ⟨⟨show(0:Int)<=3 by decide,show(3:Int)<=4 by decide⟩,hok.len,hok.regs,hok.pc,hok.count,hok.handler,hok.saved,hok.trap,hok.code⟩⟩
   |false=>
    refine(IY h hi hR hv hd ZE).bind ?_;rintro _ ⟨b,Z4,Z2,Zs,rfl,hb⟩;dsimp only
    cases b with
    |true=>exact Ok.ret ⟨_,_,_,_,rfl,hb rfl⟩
    |false=>exact Ok.ret ⟨_,_,_,_,rfl,h⟩
 ·simp only[bne_iff_ne.2 h2,oCT];exact Ok.ret ⟨_,_,_,_,rfl,h⟩
theorem Id{n key:Int}{code:List DIn}{ss bs:List Int}{dd:List (List Int)}{cs:List DCe}{ls:List DLn}{ts:List DTh}{i t v rg o sp:Int}{dat:List DCn}{w:Bool}(hp:jX code ss dd)(h:MOk n ss bs cs ls ts)
 (hn:n<=1099511627776)(hv:Pr ss (t,v,rg,o))(hd:dat.length<=16/\∀c∈dat,Pr ss c)(ZE:-1<=sp/\sp<=3):
 Ok (kL code ss dd bs key cs ls ts i t v rg o dat sp w) λr=>∃Z4 Z2 Zs b,r=(bs,key,Z4,Z2,Zs,b,())/\MOk n ss bs Z4 Z2 Zs:=by
 have XI:=h.tlen;obtain⟨Wa,Yy⟩:=sC (key:=key) h.lay hv;unfold kL;rw[rQ hp h hn,wV hp.sz hv hd ZE];simp only[oBS,oNT,oCF];by_cases h1:i<0
 ·simp only[oDT h1,oCT];exact Ok.ret ⟨_,_,_,_,rfl,h⟩
 by_cases h2:i>=4
 ·simp only[oDF h1,oDT h2,oCT,oCF,oBS];exact Ok.ret ⟨_,_,_,_,rfl,h⟩
 obtain⟨i,rfl⟩:∃k:Nat,i=k:=⟨i.toNat,by omega⟩;obtain⟨th,Yd⟩:∃th,ts[i]?=some th:=⟨_,oGE (by omega)⟩;have hok:=h.thr th (dO Yd);have YV:=(oGS Yd).1;have hg:dI ts i=some th:=Yd;obtain⟨c,hc0⟩:∃c,th.2.1[0]?=some c:=⟨_,oGE (by have:=hok.len;omega)⟩;simp only[oDF h1,oDF h2,oCF,dL,oBS,hg];by_cases h3:th.1=3
 ·simp only[bne_eq_false_iff_eq.2 h3,oCF,Wa,oBS,bne_self_eq_false,rj h,dL,hg,show dI th.2.1 0=some c from hc0,eq Yd,eq hc0,gG YV,m6 YV];exact Ok.ret ⟨_,_,_,_,rfl,h.set h.mem ⟨⟨show(0:Int)<=1 by decide,show(1:Int)<=4 by decide⟩,by dsimp only;rw[List.length_set];exact hok.len,ii hok.regs Yy,hok.pc,hok.count,hok.handler,hok.saved,hok.trap,hok.code⟩⟩
 ·simp only[bne_iff_ne.2 h3,oCT];exact Ok.ret ⟨_,_,_,_,rfl,h⟩
structure jb (n:Int)(q:Nat)(code:List DIn)(ss:List Int)(dt:List (List Int))(bs:List Int)(cs:List DCe)(ls:List DLn)(ts:List DTh)(ck rn:List Int)(ins:List (List Int))(d:List (List DCn))(os:List DOp)(us:List DOu)(ow:List Int)(qs:List (List Int))(rec:List DEn)(js:List Int):Prop where
 prog:jX code ss dt
 mach:MOk n ss bs cs ls ts
 outs:vL ss ck rn ins d os us
 lock:iq ow qs
 rlen:rec.length<=q
 jlen:js.length=4
def M4(n key:Int)(q:Nat)(code:List DIn)(ss:List Int)(dt:List (List Int))(bs:List Int)(r:(List DIn)×(List (Int))×(List (List (Int)))×(List (Int))×Int×(List DCe)×(List DLn)×(List DTh)×(List (Int))×(List (Int))×(List (List (Int)))×(List (List DCn))×(List DOp)×(List DOu)×(List (Int))×(List (List (Int)))×(List DEn)×(List (Int))×Unit):Prop:=
 ∃cs ls ts ck rn ins d os us ow qs rec js,r=(code,ss,dt,bs,key,cs,ls,ts,ck,rn,ins,d,os,us,ow,qs,rec,js,())/\jb n q code ss dt bs cs ls ts ck rn ins d os us ow qs rec js
theorem FO{n:Int}{q:Nat}{code:List DIn}{ss:List Int}{dt:List (List Int)}{bs:List Int}{key:Int}{cs:List DCe}{ls:List DLn}{ts:List DTh}{ck rn:List Int}{ins:List (List Int)}{d:List (List DCn)}{os:List DOp}{us:List DOu}{ow:List Int}{qs:List (List Int)}{rec:List DEn}{js:List Int}{i v:Int}(h:jb n q code ss dt bs cs ls ts ck rn ins d os us ow qs rec js)(hn:n<=1099511627776)(hq:q<=900)(hv:W16 v):
 Ok (mo i v code ss dt bs key cs ls ts ck rn ins d os us ow qs rec js) (M4 n key (q+1) code ss dt bs):=by
 unfold mo;rw[dT (by have:=hv.1;omega) (by have:=hv.2;omega)];have ⟨v2,ev,W3⟩:=fO v true;simp[ev];refine(Id h.prog h.mach hn (jO W3) ⟨by decide,ef⟩ (by decide)).bind ?_;rintro _ ⟨Z4,Z2,Zs,b,rfl,hM⟩;have hr:=h.rlen;refine dG (dS (by simp;omega)) ?_;exact Ok.ret ⟨_,_,_,_,_,_,_,_,_,_,_,_,_,rfl,h.prog,hM,h.outs,h.lock,by simp_all,h.jlen⟩
theorem Dg{n:Int}{q:Nat}{code:List DIn}{ss:List Int}{dt:List (List Int)}{bs:List Int}{key:Int}{cs:List DCe}{ls:List DLn}{ts:List DTh}{ck rn:List Int}{ins:List (List Int)}{d:List (List DCn)}{os:List DOp}{us:List DOu}{ow:List Int}{qs:List (List Int)}{rec:List DEn}{js:List Int}{i v:Int}(h:jb n q code ss dt bs cs ls ts ck rn ins d os us ow qs rec js)(hn:n<=1099511627776)(hq:q<=900)(hv:W16 v):
 Ok (iH i v code ss dt bs key cs ls ts ck rn ins d os us ow qs rec) λr=>∃Z4 Z2 Zs Ui,r=(code,ss,dt,bs,key,Z4,Z2,Zs,ck,rn,ins,d,os,us,ow,qs,Ui,())/\jb n (q+1) code ss dt bs Z4 Z2 Zs ck rn ins d os us ow qs Ui js:=by
 unfold iH;rw[dT (by have:=hv.1;omega) (by have:=hv.2;omega)];have ⟨v2,ev,W3⟩:=fO v true;simp[ev];refine(Id h.prog h.mach hn (jO W3) ⟨by decide,ef⟩ (by decide)).bind ?_;rintro _ ⟨Z4,Z2,Zs,b,rfl,hM⟩;have hr:=h.rlen;refine dG (dS (by simp;omega)) ?_;exact Ok.ret ⟨_,_,_,_,rfl,h.prog,hM,h.outs,h.lock,by simp_all,h.jlen⟩
def M7(n key:Int)(q:Nat)(code:List DIn)(ss:List Int)(dt:List (List Int))(bs:List Int)(cs:List DCe)(ls:List DLn)(ts:List DTh)(rec:List DEn)(r:Int×Int×Int×Int×(List DCn)×Int×Bool×(List DIn)×(List (Int))×(List (List (Int)))×(List (Int))×Int×(List DCe)×(List DLn)×(List DTh)×(List (Int))×(List (Int))×(List (List (Int)))×(List (List DCn))×(List DOp)×(List DOu)×(List (Int))×(List (List (Int)))×(List DEn)×(List (Int))×Unit):Prop:=
 ∃t v rg o dat sp w ck rn ins d os us ow qs js,r=(t,v,rg,o,dat,sp,w,code,ss,dt,bs,key,cs,ls,ts,ck,rn,ins,d,os,us,ow,qs,rec,js,())/\jb n q code ss dt bs cs ls ts ck rn ins d os us ow qs rec js/\Pr ss (t,v,rg,o)/\(dat.length<=16/\∀c∈dat,Pr ss c)/\-1<=sp/\sp<=3
set_option maxHeartbeats 4000000 in
theorem EO{n m:Int}{q:Nat}{code:List DIn}{ss:List Int}{dt:List (List Int)}{bs:List Int}{key:Int}{cs:List DCe}{ls:List DLn}{ts:List DTh}{ck rn:List Int}{ins:List (List Int)}{d:List (List DCn)}{os:List DOp}{us:List DOu}{ow:List Int}{qs:List (List Int)}{rec:List DEn}{js:List Int}{i:Nat}{trap count pc call:Int}{args data:List DCn}(h:jb n q code ss dt bs cs ls ts ck rn ins d os us ow qs rec js)(hi:i<4)(hm:m<=1099511627776)(hR:wR m ss (i:Int) 1 trap count pc call args data):
 Ok (jt (i:Int) 1 trap count pc call args data code ss dt bs key cs ls ts ck rn ins d os us ow qs rec js) (M7 n key q code ss dt bs cs ls ts rec):=by
 obtain⟨YW,_⟩:=hR.hkind rfl;have XI:=h.mach.tlen;obtain⟨v0,Up,Yr⟩:=fO 0 true;obtain⟨v1,ev1,UG⟩:=fO 0 false;have ZD:([]:List DCn).length<=16/\∀c∈([]:List DCn),Pr ss c:=⟨by decide,ef⟩
 have ZX:∀{v:Int}{w:Bool}{Zk:List Int}{qs':List (List Int)}{SN:List Int},W16 v->iq Zk qs'->SN.length=4->Ok (some ((0:Int),v,(0:Int),(0:Int),([]:List DCn),(-1:Int),w,code,ss,dt,bs,key,cs,ls,ts,ck,rn,ins,d,os,us,Zk,qs',rec,SN,())) (M7 n key q code ss dt bs cs ls ts rec):=
  λhv hl hj=>Ok.ret ⟨_,_,_,_,_,_,_,_,_,_,_,_,_,_,_,_,rfl,⟨h.prog,h.mach,h.outs,hl,h.rlen,hj⟩,jO hv,ZD,by decide,by decide⟩
 have Ox:Ly call=true->Ok ((mV ck rn ins d os us (i:Int) 1 trap count pc call args data).bind λ(x35,x36,x37,x38,x39,x40,x41,x42,x43,x44,x45,x46,x47,x48,_)=>some (x41,x42,x43,x44,x45,x46,x47,code,ss,dt,bs,key,cs,ls,ts,x35,x36,x37,x38,x39,x40,ow,qs,rec,js,())) (M7 n key q code ss dt bs cs ls ts rec):=by
  intro ha;refine(Ll h.prog.sz h.outs hR ha hm).bind ?_;rintro _ ⟨PS,QP,Yt,d',Zj,UM,t,v,rg,o,dat,rfl,hO,hv,YE,hd2⟩;exact Ok.ret ⟨_,_,_,_,_,_,_,_,_,_,_,_,_,_,_,_,rfl,⟨h.prog,h.mach,hO,h.lock,h.rlen,h.jlen⟩,hv,⟨YE,hd2⟩,by decide,by decide⟩
 have UN:0<(kB call).length->∃a,dI args 0=some a/\W16 a.2.1/\wk .i64 a.2.1=a.2.1:=λhl=>by
  obtain⟨a,ha⟩:∃a,args[0]?=some a:=⟨_,oGE (by omega)⟩;have hva:=(hR.hargs.2 a (dO ha)).val;exact⟨a,ha,hva,dT (by have:=hva.1;omega) (by have:=hva.2;omega)⟩
 unfold jt;delta dM
 try dsimp only
 rcases sr hR.hcall with rfl|rfl|rfl|rfl|rfl|rfl|rfl|rfl|rfl|rfl|rfl|rfl|rfl|rfl|rfl|rfl
 all_goals simp only[Int.reduceBEq,oCT,oCF,oBS,Up,ev1]
 all_goals first
  |exact Ox rfl
  |exact ZX Yr h.lock h.jlen
  |skip
 ·obtain⟨a,ga,ha,wa⟩:=UN (by decide);simp only[ga,oBS,wa];refine(Kn h.lock (by omega)).bind ?_;rintro _ ⟨Zk,qs',RX,rfl,hl⟩;dsimp only;obtain⟨v,ev,hv⟩:=fO 0 (RX != 2);simp only[ev,oBS];exact ZX hv hl h.jlen
 ·obtain⟨a,ga,ha,wa⟩:=UN (by decide);simp only[ga,oBS,wa];refine(CJ h.lock).bind ?_;rintro _ ⟨Zk,qs',nx,b,rfl,hl,_⟩;dsimp only;obtain⟨v,ev,hv⟩:=fO 0 b;simp only[ev,oBS];exact ZX hv hl h.jlen
 ·obtain⟨y,e,hy⟩:=fF (f:=jq) (n:=NN) (s:=(ts,(ts.length:Int),0,code,ss,dt,bs,key,cs,ls,ts,ck,rn,ins,d,os,us,ow,qs,rec,js,0,0,0,0,(),0,false,()))
   (P:=λs'=>∃k:Nat,s'=(ts,(ts.length:Int),(k:Int),code,ss,dt,bs,key,cs,ls,ts,ck,rn,ins,d,os,us,ow,qs,rec,js,0,0,0,0,(),0,false,())/\k<=4)
   (R:=λy=>(∃v k,y=.inl (code,ss,dt,bs,key,cs,ls,ts,ck,rn,ins,d,os,us,ow,qs,rec,js,0,v,0,0,(),k,false,())/\W16 v/\0<=k/\k<=3)\/(∃a b c f,y=.inr (a,b,c,f,code,ss,dt,bs,key,cs,ls,ts,ck,rn,ins,d,os,us,ow,qs,rec,js,0,0,0,0,(),0,false,())))
   (m:=λs'=>(s'.2.1-s'.2.2.1).toNat) ⟨0,rfl,by omega⟩ (by unfold NN;dsimp only;omega) (by
    rintro _ ⟨k,rfl,hk⟩;unfold jq;dsimp only
    (with_reducible refine dF (λZ'=>?_) λZ'=>?_)
    ·obtain⟨t,ht⟩:∃t,ts[k]?=some t:=⟨_,oGE (by omega)⟩;simp only[dL,oBS,show dI ts k=some t from ht]
     (with_reducible refine dF (λZ3=>?_) λZ3=>?_)
     ·obtain⟨v,ev,hv⟩:=fO (k:Int) true;simp only[ev,oBS];exact Ok.ret (.inl ⟨_,_,rfl,hv,by omega,by omega⟩)
     ·rw[dP (x:=(k:Int)+1) (by omega) (by omega)];exact Ok.ret ⟨⟨k+1,rfl,by omega⟩,by dsimp only;omega⟩
    ·exact Ok.ret (.inr ⟨_,_,_,_,rfl⟩))
  simp only[e]
  rcases hy with⟨v,k,rfl,hv,k0,k3⟩|⟨a,b,c,f,rfl⟩
  ·exact Ok.ret ⟨_,_,_,_,_,_,_,_,_,_,_,_,_,_,_,_,rfl,⟨h.prog,h.mach,h.outs,h.lock,h.rlen,h.jlen⟩,jO hv,ZD,by omega,by omega⟩
  ·simp only[ev1,oBS];exact ZX UG h.lock h.jlen
 ·obtain⟨a,ga,ha,wa⟩:=UN (by decide);simp only[ga,oBS,wa];obtain⟨j,hj⟩:∃j:Nat,a.2.1=j:=⟨a.2.1.toNat,by have:=ha.1;omega⟩;simp only[hj];by_cases h1:(j:Int)=i
  ·simp only[beq_iff_eq.2 h1,oCT,oBS,ev1];exact ZX UG h.lock h.jlen
  by_cases h2:(j:Int)>=4
  ·simp only[oBF h1,oDT h2,oCT,oCF,oBS,ev1];exact ZX UG h.lock h.jlen
  obtain⟨t,ht⟩:∃t,ts[j]?=some t:=⟨_,oGE (by omega)⟩;simp only[oBF h1,oDF h2,oCF,oBS,dL,show dI ts j=some t from ht]
  cases t.1==0 with
  |true=>
   simp only[oCT,ev1,oBS];exact ZX UG h.lock h.jlen
  |false=>
   simp only[oCF,dL,oBS,show dI ts j=some t from ht]
   cases t.1==4 with
   |true=>
    obtain⟨v,ev,hv⟩:=fO (wk .i64 t.2.2.2.2.2.2.2) true;simp only[oCT,ev,oBS];exact ZX hv h.lock h.jlen
   |false=>
    obtain⟨z,hz⟩:∃z,js[i]?=some z:=⟨_,oGE (by have:=h.jlen;omega)⟩;simp only[oCF,show dI js i=some z from hz,oBS,Up,eq hz];exact ZX Yr h.lock (by rw[List.length_set];exact h.jlen)
theorem vx{n m:Int}{q:Nat}{code:List DIn}{ss:List Int}{dt:List (List Int)}{bs:List Int}{key:Int}{cs:List DCe}{ls:List DLn}{ts:List DTh}{ck rn:List Int}{ins:List (List Int)}{d:List (List DCn)}{os:List DOp}{us:List DOu}{ow:List Int}{qs:List (List Int)}{rec:List DEn}{js:List Int}{i:Nat}{trap count pc call:Int}{args data:List DCn}(h:jb n q code ss dt bs cs ls ts ck rn ins d os us ow qs rec js)(hi:i<4)(hn:n<=1099511627776)(hm:m<=1099511627776)(hq:q<=800)(hR:wR m ss (i:Int) 1 trap count pc call args data):
 Ok (iI (i:Int) 1 trap count pc call args data code ss dt bs key cs ls ts ck rn ins d os us ow qs rec js) (M4 n key (q+2) code ss dt bs):=by
 obtain⟨YW,_⟩:=hR.hkind rfl;unfold iI;refine Ok.bind (P:=λr=>∃nx,r=(nx,code,ss,dt,bs,key,cs,ls,ts,ck,rn,ins,d,os,us,ow,qs,rec,js,(i:Int),1,trap,count,pc,call,args,data,())) ?_ ?_
 ·by_cases h9:call=9
  ·subst h9;obtain⟨a,ha⟩:∃a,args[0]?=some a:=⟨_,oGE (by rw[YW];decide)⟩;simp only[BEq.rfl,oCT,show dI args 0=some a from ha,oBS];refine(CJ h.lock).bind ?_;rintro _ ⟨Zk,qs',nx,b,rfl,hl,_⟩;exact Ok.ret ⟨nx,rfl⟩
  ·simp only[oBF h9,oCF];exact Ok.ret ⟨_,rfl⟩
 rintro _ ⟨nx,rfl⟩;dsimp only;refine(EO h hi hm hR).bind ?_;rintro _ ⟨t,v,rg,o,dat,sp,w,PS,QP,Yt,d',Zj,UM,Zk,qs',SN,rfl,h2,hv,hd,hs1,Za⟩;dsimp only;refine(Mu h.prog h.mach hi hn hm hR hv hd ⟨hs1,Za⟩).bind ?_;rintro _ ⟨Z4,Z2,Zs,b,rfl,hM⟩;dsimp only;have hr:=h.rlen;refine dG (dS (by simp;omega)) ?_;have h3:∀e:DEn,jb n (q+1) code ss dt bs Z4 Z2 Zs PS QP Yt d' Zj UM Zk qs' (List.append rec [e]) SN:=λe=>⟨h2.prog,hM,h2.outs,h2.lock,by rw[eV];simp;omega,h2.jlen⟩
 (with_reducible refine dF (λZ'=>?_) λZ'=>?_)
 ·refine(FO (h3 _) hn (by omega) ⟨by decide,by decide⟩).bind ?_;rintro _ ⟨Uo,UK,Sq,ck3,NR,Pz,d3,NJ,NW,NK,NP,Vj,PA,rfl,h4⟩;exact Ok.ret ⟨_,_,_,_,_,_,_,_,_,_,_,_,_,rfl,h4⟩
 ·have h4:=h3 (2,(i:Int),0,(i:Int),1,trap,count,pc,call,args,data,t,v,rg,o,dat,sp,w);exact Ok.ret ⟨_,_,_,_,_,_,_,_,_,_,_,_,_,rfl,h4.prog,h4.mach,h4.outs,h4.lock,by have:=h4.rlen;omega,h4.jlen⟩
theorem zw{n:Int}{q:Nat}{code:List DIn}{ss:List Int}{dt:List (List Int)}{bs:List Int}{key:Int}{cs:List DCe}{ls:List DLn}{ts:List DTh}{ck rn:List Int}{ins:List (List Int)}{d:List (List DCn)}{os:List DOp}{us:List DOu}{ow:List Int}{qs:List (List Int)}{rec:List DEn}{js:List Int}{i:Nat}(h:jb n q code ss dt bs cs ls ts ck rn ins d os us ow qs rec js)(hi:i<4)(hn:n<=1099511627776)(hq:q<=800):
 Ok (ju (i:Int) code ss dt bs key cs ls ts ck rn ins d os us ow qs rec js) (M4 n key (q+8) code ss dt bs):=by
 unfold ju;delta dM
 try dsimp only
 refine(Li h.lock).bind ?_;rintro _ ⟨Zk,qs',nx,rfl,hl,Qo,Xc⟩;dsimp only
 refine Ok.loop (P:=λs'=>∃k:Nat,∃cs ls ts rec,s'=((i:Int),(nx.length:Int),(k:Int),code,ss,dt,bs,key,cs,ls,ts,ck,rn,ins,d,os,us,Zk,qs',rec,js,nx,())/\k<=nx.length/\jb n (q+k) code ss dt bs cs ls ts ck rn ins d os us Zk qs' rec js)
  (R:=λr=>∃a b f cs ls ts rec,r=((i:Int),a,b,f,code,ss,dt,bs,key,cs,ls,ts,ck,rn,ins,d,os,us,Zk,qs',rec,js,nx,())/\jb n (q+4) code ss dt bs cs ls ts ck rn ins d os us Zk qs' rec js) (m:=λs'=>(s'.2.1-s'.2.2.1).toNat)
  ⟨0,cs,ls,ts,rec,rfl,by omega,h.prog,h.mach,h.outs,hl,by have:=h.rlen;omega,h.jlen⟩ (by unfold NN;dsimp only;omega) ?_ ?_
 ·rintro _ ⟨k,VL,Wi,ts2,WX,rfl,hk,h2⟩;unfold od;dsimp only
  (with_reducible refine dF (λZ'=>?_) λZ'=>?_)
  ·obtain⟨x,hx⟩:∃x,nx[k]?=some x:=⟨_,oGE (by omega)⟩;simp only[dL,oBS,show dI nx k=some x from hx];refine(Dg h2 hn (by omega) ⟨by decide,by decide⟩).bind ?_;rintro _ ⟨Uo,UK,Sq,Vj,rfl,h3⟩;dsimp only;rw[dP (x:=(k:Int)+1) (by omega) (by omega)];exact Ok.ret ⟨⟨k+1,_,_,_,_,rfl,by omega,h3⟩,by dsimp only;omega⟩
  ·exact Ok.ret ⟨_,_,_,_,_,_,_,rfl,h2.prog,h2.mach,h2.outs,h2.lock,by have:=h2.rlen;omega,h2.jlen⟩
 rintro _ ⟨a,b,f,VL,Wi,ts2,WX,rfl,h2⟩;dsimp only
 refine Ok.loop (P:=λs'=>∃k:Nat,∃cs ls ts rec js,s'=((i:Int),4,(k:Int),code,ss,dt,bs,key,cs,ls,ts,ck,rn,ins,d,os,us,Zk,qs',rec,js,())/\k<=4/\jb n (q+4+k) code ss dt bs cs ls ts ck rn ins d os us Zk qs' rec js)
  (R:=λr=>∃a b c f cs ls ts rec js,r=(a,b,c,f,code,ss,dt,bs,key,cs,ls,ts,ck,rn,ins,d,os,us,Zk,qs',rec,js,())/\jb n (q+8) code ss dt bs cs ls ts ck rn ins d os us Zk qs' rec js) (m:=λs'=>(s'.2.1-s'.2.2.1).toNat)
  ⟨0,VL,Wi,ts2,WX,js,by rw[h.jlen];rfl,by omega,h2⟩ (by unfold NN;dsimp only;have:=h.jlen;omega) ?_ ?_
 ·rintro _ ⟨k,VL,Wi,ts2,WX,Ub,rfl,hk,h2⟩;unfold oc;dsimp only
  (with_reducible refine dF (λZ'=>?_) λZ'=>?_)
  ·obtain⟨x,hx⟩:∃x,Ub[k]?=some x:=⟨_,oGE (by have:=h2.jlen;omega)⟩;obtain⟨t,ht⟩:∃t,ts2[i]?=some t:=⟨_,oGE (by have:=h2.mach.tlen;omega)⟩;have Pi:=(h2.mach.thr t (dO ht)).code;simp only[dL,oBS,show dI Ub k=some x from hx,show dI ts2 i=some t from ht];refine Ok.bind (P:=λr=>∃cs ls ts rec js,r=((i:Int),4,(k:Int),code,ss,dt,bs,key,cs,ls,ts,ck,rn,ins,d,os,us,Zk,qs',rec,js,())/\jb n (q+4+(k+1)) code ss dt bs cs ls ts ck rn ins d os us Zk qs' rec js) ?_ ?_
   ·(with_reducible refine dF (λZ3=>?_) λZ3=>?_)
    ·refine(Dg h2 hn (by omega) Pi).bind ?_;rintro _ ⟨Uo,UK,Sq,Vj,rfl,h3⟩;simp only[dL,oBS,show dI Ub k=some x from hx,eq hx];exact Ok.ret ⟨_,_,_,_,_,rfl,h3.prog,h3.mach,h3.outs,h3.lock,by have:=h3.rlen;omega,by rw[List.length_set];exact h3.jlen⟩
    ·exact Ok.ret ⟨_,_,_,_,_,rfl,h2.prog,h2.mach,h2.outs,h2.lock,by have:=h2.rlen;omega,h2.jlen⟩
   ·rintro _ ⟨Uo,UK,Sq,Vj,PA,rfl,h3⟩;dsimp only;rw[dP (x:=(k:Int)+1) (by omega) (by omega)];exact Ok.ret ⟨⟨k+1,_,_,_,_,_,rfl,by omega,h3⟩,by dsimp only;omega⟩
  ·exact Ok.ret ⟨_,_,_,_,_,_,_,_,_,rfl,h2.prog,h2.mach,h2.outs,h2.lock,by have:=h2.rlen;omega,h2.jlen⟩
 ·rintro _ ⟨a,b,c,f,VL,Wi,ts2,WX,Ub,rfl,h2⟩;exact Ok.ret ⟨_,_,_,_,_,_,_,_,_,_,_,_,_,rfl,h2⟩
def M8(n key:Int)(q:Nat)(code:List DIn)(ss:List Int)(dt:List (List Int))(bs:List Int)(r:(List DIn)×(List (Int))×(List (List (Int)))×(List (Int))×Int×(List DCe)×(List DLn)×(List DTh)×(List (Int))×(List (Int))×(List (List (Int)))×(List (List DCn))×(List DOp)×(List DOu)×(List (Int))×(List (List (Int)))×(List DEn)×(List (Int))×Int×Unit):Prop:=
 (∃e,r=([],[],[],[],0,[],[],[],[],[],[],[],[],[],[],[],[],[],e,())/\e≠0)\/(∃cs ls ts ck rn ins d os us ow qs rec js,r=(code,ss,dt,bs,key,cs,ls,ts,ck,rn,ins,d,os,us,ow,qs,rec,js,0,())/\jb n q code ss dt bs cs ls ts ck rn ins d os us ow qs rec js)
theorem CU{code:List DIn}{ss:List Int}{dt:List (List Int)}{bs:List Int}{key:Int}{cs:List DCe}{ls:List DLn}{ts:List DTh}{ck rn:List Int}{ins:List (List Int)}{d:List (List DCn)}{os:List DOp}{us:List DOu}{ow:List Int}{qs:List (List Int)}{rec:List DEn}{js:List Int}(h1:rec.length<=1000)(h2:js.length<=1000):ko code ss dt bs key cs ls ts ck rn ins d os us ow qs rec js=some (code,ss,dt,bs,key,cs,ls,ts,ck,rn,ins,d,os,us,ow,qs,rec,js,()):=by
 unfold ko;rw[dS (show 8<=1000/\0+js.length<=1000000 by omega),dS (show 184<=1000/\0+rec.length<=1000000 by omega)];rfl
set_option maxHeartbeats 4000000 in
theorem Ha{n:Int}{q:Nat}{code:List DIn}{ss:List Int}{dt:List (List Int)}{bs:List Int}{key:Int}{cs:List DCe}{ls:List DLn}{ts:List DTh}{ck rn:List Int}{ins:List (List Int)}{d:List (List DCn)}{os:List DOp}{us:List DOu}{ow:List Int}{qs:List (List Int)}{rec:List DEn}{js:List Int}{c1 c2:Int}{c3:Bool}(h:jb n q code ss dt bs cs ls ts ck rn ins d os us ow qs rec js)(Yb:0<=n)(hn:n+64<=1099511627776)(hq:q<=700)(ZS:Ke c1)(ZK:Ke c2):
 Ok (mp code ss dt bs key cs ls ts ck rn ins d os us ow qs rec js c1 c2 c3) (M8 (n+64) key (q+12) code ss dt bs):=by
 have XI:=h.mach.tlen;have hr:=h.rlen;unfold mp;delta dM;rw[IW (by omega)];simp only[oBS];have Xd:=xk ts 0
 (with_reducible refine dF (λZ'=>?_) λZ'=>?_)
 ·exact Ok.ret (.inl ⟨15,rfl,by decide⟩)
 (with_reducible refine dF (λZ3=>?_) λZ3=>?_)
 ·exact Ok.ret (.inl ⟨3,rfl,by decide⟩)
 refine L7 ZS (by omega) (by omega) λv v0 v1=>?_;dsimp only;obtain⟨k,rfl⟩:∃k:Nat,v=k:=⟨v.toNat,by omega⟩;obtain⟨x,hx⟩:∃x,(gX ts 0)[k]?=some x:=⟨_,oGE (by omega)⟩;obtain⟨x0,x1,_⟩:=EI (dO hx);obtain⟨i,rfl⟩:∃i:Nat,x=i:=⟨x.toNat,by omega⟩
 have hi:i<4:=by omega
 simp only[dL,oBS,show dI (gX ts 0) k=some (i:Int)from hx];refine L7 ZK (by decide) (by decide) λu u0 u1=>?_;dsimp only;rw[dP (x:=1+u) (by omega) (by omega),CU (by omega) (by have:=h.jlen;omega)]
 have hk:1<=1+u/\1+u<=64:=by omega
 generalize 1+u=kk at hk;simp only[oBS]
 cases c3 with
 |false=>
  simp only[oCF];have h2:jb n (q+1) code ss dt bs cs ls ts ck rn ins d os us ow qs rec js:=⟨h.prog,h.mach,h.outs,h.lock,by omega,h.jlen⟩;have T5:=h2.mach.tlen;refine(ul h2.prog h2.mach Yb hn hi hk).bind ?_;rintro _ ⟨Uo,UK,t3,stop,trap,call,args,data,rfl,V6,WO,WI,S7,_⟩;dsimp only;have X6:=h2.rlen;have Vq:=(h2.mach.mono (show n<=n+64 by omega)).set V6 (i:=i) WO;refine dG (dS (by simp;omega)) ?_;refine Ok.bind (P:=λr=>∃cs ls ts ck rn ins d os us ow qs rec js,r=((i:Int),(),(),(),(),0,(),(),(),(),(),(),(),(),(),(),(),(),(),code,ss,dt,bs,key,cs,ls,ts,ck,rn,ins,d,os,us,ow,qs,rec,js,())/\jb (n+64) (q+4) code ss dt bs cs ls ts ck rn ins d os us ow qs rec js) ?_ ?_
  ·by_cases hs1:stop=1
   ·subst hs1;simp only[BEq.rfl,oCT];refine(vx (q:=q+2) ⟨h2.prog,Vq,h2.outs,h2.lock,by rw[eV];simp;omega,h2.jlen⟩ hi (by omega) hn (by omega) WI).bind ?_;rintro _ ⟨S1,Ue,Uk,SZ,Uj,WW,d4,Uf,Ul,Ug,Uh,WY,Uc,rfl,h4⟩;exact Ok.ret ⟨_,_,_,_,_,_,_,_,_,_,_,_,_,rfl,h4⟩
   ·simp only[oBF hs1,oCF];exact Ok.ret ⟨_,_,_,_,_,_,_,_,_,_,_,_,_,rfl,h2.prog,Vq,h2.outs,h2.lock,by rw[eV];simp;omega,h2.jlen⟩
  rintro _ ⟨cs,ls,ts,ck,rn,ins,d,os,us,ow,qs,rec,js,rfl,h5⟩;dsimp only;obtain⟨t5,T2⟩:∃t5,ts[i]?=some t5:=⟨_,oGE (by have:=h5.mach.tlen;omega)⟩;simp only[dL,oBS,show dI ts i=some t5 from T2];refine Ok.bind (P:=λr=>∃cs ls ts ck rn ins d os us ow qs rec js,r=((),(),(),(),0,(),(),(),(),(),(),(),(),(),(),(),(),(),code,ss,dt,bs,key,cs,ls,ts,ck,rn,ins,d,os,us,ow,qs,rec,js,())/\jb (n+64) (q+12) code ss dt bs cs ls ts ck rn ins d os us ow qs rec js) ?_ ?_
  ·(with_reducible refine dF (λWu=>?_) λWu=>?_)
   ·refine(zw h5 hi (by omega) (by omega)).bind ?_;rintro _ ⟨S1,Ue,Uk,SZ,Uj,WW,d4,Uf,Ul,Ug,Uh,WY,Uc,rfl,h4⟩;exact Ok.ret ⟨_,_,_,_,_,_,_,_,_,_,_,_,_,rfl,h4⟩
   ·exact Ok.ret ⟨_,_,_,_,_,_,_,_,_,_,_,_,_,rfl,h5.prog,h5.mach,h5.outs,h5.lock,by have:=h5.rlen;omega,h5.jlen⟩
  rintro _ ⟨cs,ls,ts,ck,rn,ins,d,os,us,ow,qs,rec,js,rfl,h6⟩;exact Ok.ret (.inr ⟨_,_,_,_,_,_,_,_,_,_,_,_,_,rfl,h6⟩)
 |true=>
  simp only[oCT];obtain⟨⟨b,_⟩,eC,_⟩:=J8 (key:=key) h.mach (i:Int);simp only[eC,oBS]
  cases b with
  |false=>
   simp only[oCF];have h2:jb n (q+1) code ss dt bs cs ls ts ck rn ins d os us ow qs rec js:=⟨h.prog,h.mach,h.outs,h.lock,by omega,h.jlen⟩;have T5:=h2.mach.tlen;refine(ul h2.prog h2.mach Yb hn hi hk).bind ?_;rintro _ ⟨Uo,UK,t3,stop,trap,call,args,data,rfl,V6,WO,WI,S7,_⟩;dsimp only;have X6:=h2.rlen;have Vq:=(h2.mach.mono (show n<=n+64 by omega)).set V6 (i:=i) WO;refine dG (dS (by simp;omega)) ?_;refine Ok.bind (P:=λr=>∃cs ls ts ck rn ins d os us ow qs rec js,r=((i:Int),(),(),(),(),0,(),(),(),(),(),(),(),(),(),(),(),(),(),code,ss,dt,bs,key,cs,ls,ts,ck,rn,ins,d,os,us,ow,qs,rec,js,())/\jb (n+64) (q+4) code ss dt bs cs ls ts ck rn ins d os us ow qs rec js) ?_ ?_
   ·by_cases hs1:stop=1
    ·subst hs1;simp only[BEq.rfl,oCT];refine(vx (q:=q+2) ⟨h2.prog,Vq,h2.outs,h2.lock,by rw[eV];simp;omega,h2.jlen⟩ hi (by omega) hn (by omega) WI).bind ?_;rintro _ ⟨S1,Ue,Uk,SZ,Uj,WW,d4,Uf,Ul,Ug,Uh,WY,Uc,rfl,h4⟩;exact Ok.ret ⟨_,_,_,_,_,_,_,_,_,_,_,_,_,rfl,h4⟩
    ·simp only[oBF hs1,oCF];exact Ok.ret ⟨_,_,_,_,_,_,_,_,_,_,_,_,_,rfl,h2.prog,Vq,h2.outs,h2.lock,by rw[eV];simp;omega,h2.jlen⟩
   rintro _ ⟨cs,ls,ts,ck,rn,ins,d,os,us,ow,qs,rec,js,rfl,h5⟩;dsimp only;obtain⟨t5,T2⟩:∃t5,ts[i]?=some t5:=⟨_,oGE (by have:=h5.mach.tlen;omega)⟩;simp only[dL,oBS,show dI ts i=some t5 from T2];refine Ok.bind (P:=λr=>∃cs ls ts ck rn ins d os us ow qs rec js,r=((),(),(),(),0,(),(),(),(),(),(),(),(),(),(),(),(),(),code,ss,dt,bs,key,cs,ls,ts,ck,rn,ins,d,os,us,ow,qs,rec,js,())/\jb (n+64) (q+12) code ss dt bs cs ls ts ck rn ins d os us ow qs rec js) ?_ ?_
   ·(with_reducible refine dF (λWu=>?_) λWu=>?_)
    ·refine(zw h5 hi (by omega) (by omega)).bind ?_;rintro _ ⟨S1,Ue,Uk,SZ,Uj,WW,d4,Uf,Ul,Ug,Uh,WY,Uc,rfl,h4⟩;exact Ok.ret ⟨_,_,_,_,_,_,_,_,_,_,_,_,_,rfl,h4⟩
    ·exact Ok.ret ⟨_,_,_,_,_,_,_,_,_,_,_,_,_,rfl,h5.prog,h5.mach,h5.outs,h5.lock,by have:=h5.rlen;omega,h5.jlen⟩
   rintro _ ⟨cs,ls,ts,ck,rn,ins,d,os,us,ow,qs,rec,js,rfl,h6⟩;exact Ok.ret (.inr ⟨_,_,_,_,_,_,_,_,_,_,_,_,_,rfl,h6⟩)
  |true=>
   obtain⟨_,eD,Zs,b',rfl,hD⟩:=Fp (key:=key) h.mach (i:Int);simp only[oCT,eD,oBS];rw[dS (show 184<=1000/\rec.length + _<=1000000 by simp;omega)];simp only[oCT];have h2:jb n (q+1) code ss dt bs cs ls Zs ck rn ins d os us ow qs (List.append rec [(3,(i:Int),0,0,0,0,0,0,0,[],[],0,0,0,0,[],0,false)]) js:=⟨h.prog,hD,h.outs,h.lock,by rw[eV];simp;omega,h.jlen⟩;have T5:=h2.mach.tlen;refine(ul h2.prog h2.mach Yb hn hi hk).bind ?_;rintro _ ⟨Uo,UK,t3,stop,trap,call,args,data,rfl,V6,WO,WI,S7,_⟩;dsimp only;have X6:=h2.rlen;have Vq:=(h2.mach.mono (show n<=n+64 by omega)).set V6 (i:=i) WO;refine dG (dS (by simp;omega)) ?_;refine Ok.bind (P:=λr=>∃cs ls ts ck rn ins d os us ow qs rec js,r=((i:Int),(),(),(),(),0,(),(),(),(),(),(),(),(),(),(),(),(),(),code,ss,dt,bs,key,cs,ls,ts,ck,rn,ins,d,os,us,ow,qs,rec,js,())/\jb (n+64) (q+4) code ss dt bs cs ls ts ck rn ins d os us ow qs rec js) ?_ ?_
   ·by_cases hs1:stop=1
    ·subst hs1;simp only[BEq.rfl,oCT];refine(vx (q:=q+2) ⟨h2.prog,Vq,h2.outs,h2.lock,by rw[eV];simp;omega,h2.jlen⟩ hi (by omega) hn (by omega) WI).bind ?_;rintro _ ⟨S1,Ue,Uk,SZ,Uj,WW,d4,Uf,Ul,Ug,Uh,WY,Uc,rfl,h4⟩;exact Ok.ret ⟨_,_,_,_,_,_,_,_,_,_,_,_,_,rfl,h4⟩
    ·simp only[oBF hs1,oCF];exact Ok.ret ⟨_,_,_,_,_,_,_,_,_,_,_,_,_,rfl,h2.prog,Vq,h2.outs,h2.lock,by rw[eV];simp;omega,h2.jlen⟩
   rintro _ ⟨cs,ls,ts,ck,rn,ins,d,os,us,ow,qs,rec,js,rfl,h5⟩;dsimp only;obtain⟨t5,T2⟩:∃t5,ts[i]?=some t5:=⟨_,oGE (by have:=h5.mach.tlen;omega)⟩;simp only[dL,oBS,show dI ts i=some t5 from T2];refine Ok.bind (P:=λr=>∃cs ls ts ck rn ins d os us ow qs rec js,r=((),(),(),(),0,(),(),(),(),(),(),(),(),(),(),(),(),(),code,ss,dt,bs,key,cs,ls,ts,ck,rn,ins,d,os,us,ow,qs,rec,js,())/\jb (n+64) (q+12) code ss dt bs cs ls ts ck rn ins d os us ow qs rec js) ?_ ?_
   ·(with_reducible refine dF (λWu=>?_) λWu=>?_)
    ·refine(zw h5 hi (by omega) (by omega)).bind ?_;rintro _ ⟨S1,Ue,Uk,SZ,Uj,WW,d4,Uf,Ul,Ug,Uh,WY,Uc,rfl,h4⟩;exact Ok.ret ⟨_,_,_,_,_,_,_,_,_,_,_,_,_,rfl,h4⟩
    ·exact Ok.ret ⟨_,_,_,_,_,_,_,_,_,_,_,_,_,rfl,h5.prog,h5.mach,h5.outs,h5.lock,by have:=h5.rlen;omega,h5.jlen⟩
   rintro _ ⟨cs,ls,ts,ck,rn,ins,d,os,us,ow,qs,rec,js,rfl,h6⟩;exact Ok.ret (.inr ⟨_,_,_,_,_,_,_,_,_,_,_,_,_,rfl,h6⟩)
theorem Hn{l ss:List Int}{k:Int}(hs:vK ss)(h:DOk l k):Ok (lw ss l k) λr=>∃bs key k',r=(bs,key,l,k',())/\LV bs ss/\W16 key/\DOk l k':=by
 unfold lw
 (with_reducible refine fh (by omega) (by omega) (by omega) (λv0 k0 a0 b0 d0=>?_);try dsimp only)
 refine(K3 hs a0 (by omega)).bind ?_;rintro _ ⟨key,rfl,hk⟩;exact Ok.ret ⟨_,_,_,rfl,Mx hs a0,hk,d0⟩
theorem LX{l:List Int}{k:Int}(h:DOk l k):Ok (pF l k) λr=>∃code ss dt bs key cs ls ts ck rn ins d os us ow qs rec js k',r=(code,ss,dt,bs,key,cs,ls,ts,ck,rn,ins,d,os,us,ow,qs,rec,js,l,k',())/\W16 key/\jb 1152 216 code ss dt bs cs ls ts ck rn ins d os us ow qs rec js/\DOk l k':=by
 unfold pF;refine(EN h).bind ?_;rintro _ ⟨code,ss,dt,k1,rfl,hp,h1⟩;dsimp only;refine(Hn hp.sz h1).bind ?_;rintro _ ⟨bs,key,k2,rfl,hL,X9,h2⟩;dsimp only;refine(ES hp.sz h2).bind ?_;rintro _ ⟨ck,rn,ins,d,os,k3,rfl,hO,h3⟩;dsimp only;refine(JJ hp hL hO).bind ?_;rintro _ ⟨cs,ts,rfl,hM⟩;dsimp only
 (with_reducible refine fh (by assumption) (by omega) (by omega) (λv4 k4 a4 b4 d4=>?_);try dsimp only)
 rw[dP (x:=3+v4) (by omega) (by omega)]
 obtain⟨y,e,hy⟩:=fF (f:=nH) (n:=NN) (s:=(3+v4,l,k4,(),(),(),(),0,(),(),(),(),(),(),(),(),(),(),(),(),(),code,ss,dt,bs,key,cs,eU,ts,ck,rn,ins,d,os,[],[-1,-1,-1,-1],[[],[],[],[]],[],[-1,-1,-1,-1],()))
  (P:=λs'=>∃(c k':Int)(q:Nat),∃cs ls ts ck rn ins d os us ow qs rec js,s'=(c,l,k',(),(),(),(),0,(),(),(),(),(),(),(),(),(),(),(),(),(),code,ss,dt,bs,key,cs,ls,ts,ck,rn,ins,d,os,us,ow,qs,rec,js,())/\0<=c/\c+q<=18/\DOk l k'/\jb (64*q) (12*q) code ss dt bs cs ls ts ck rn ins d os us ow qs rec js)
  (R:=λy=>(∃(c k':Int)(f:Bool)(q:Nat),∃cs ls ts ck rn ins d os us ow qs rec js z1 z2 z3 z4 z5 z6 z7 z8 z9 QS QT QU QV QW QX QY QZ Q0,y=.inl (c,f,l,k',(),(),(),(),0,(),(),(),(),(),(),(),(),(),(),(),(),(),code,ss,dt,bs,key,cs,ls,ts,ck,rn,ins,d,os,us,ow,qs,rec,js,z1,z2,z3,z4,z5,z6,z7,z8,z9,QS,QT,QU,QV,QW,QX,QY,QZ,Q0,())/\q<=18/\DOk l k'/\jb (64*q) (12*q) code ss dt bs cs ls ts ck rn ins d os us ow qs rec js)\/
   (∃(c k':Int)(f:Bool)(q:Nat),∃cs ls ts ck rn ins d os us ow qs rec js,y=.inr (c,f,l,k',(),(),(),(),0,(),(),(),(),(),(),(),(),(),(),(),(),(),code,ss,dt,bs,key,cs,ls,ts,ck,rn,ins,d,os,us,ow,qs,rec,js,())/\q<=18/\DOk l k'/\jb (64*q) (12*q) code ss dt bs cs ls ts ck rn ins d os us ow qs rec js)) (m:=λs'=>s'.1.toNat)
  ⟨3+v4,k4,0,_,_,_,_,_,_,_,_,_,_,_,_,_,rfl,by omega,by omega,d4,hp,by simpa using hM,hO,L8,by simp,rfl⟩ (by unfold NN;dsimp only;omega) (by
   rintro _ ⟨c,k',q,cs,ls,ts,ck,rn,ins,d,os,us,ow,qs,rec,js,rfl,hc0,Rr,hd,hR⟩;unfold nH;dsimp only
   (with_reducible refine dF (λZ'=>?_) λZ'=>?_)
   ·refine(HY hd).bind ?_;rintro _ ⟨t,b,s,k5,rfl,t0,t1,b0,b1,P'⟩;dsimp only;refine(Ha hR (by omega) (by omega) (by omega) ⟨by omega,by omega⟩ ⟨by omega,by omega⟩).bind ?_;rintro _ (⟨e,rfl,he⟩|⟨VL,Wi,ts2,ck2,NQ,Py,d2,NI,NV,QM,QN,WX,Ub,rfl,Q9⟩)
    ·dsimp only;rw[bne_iff_ne.2 he];exact Ok.ret (.inl ⟨_,_,_,q,_,_,_,_,_,_,_,_,_,_,_,_,_,_,_,_,_,_,_,_,_,_,_,_,_,_,_,_,_,_,_,rfl,by omega,P',hR⟩)
    ·dsimp only;rw[dP (x:=c-1) (by omega) (by omega)];refine Ok.ret ⟨⟨_,_,q+1,_,_,_,_,_,_,_,_,_,_,_,_,_,rfl,by omega,by omega,P',?_⟩,by dsimp only;omega⟩;rw[show 64*((q+1:Nat):Int)=64*(q:Int)+64 by omega,show 12*(q+1)=12*q+12 by omega];exact Q9
   ·exact Ok.ret (.inr ⟨_,_,_,q,_,_,_,_,_,_,_,_,_,_,_,_,_,rfl,by omega,hd,hR⟩))
 rw[e];have ZX:∀{q:Nat}{cs ls ts ck rn ins d os us ow qs rec js},q<=18->jb (64*q) (12*q) code ss dt bs cs ls ts ck rn ins d os us ow qs rec js->jb 1152 216 code ss dt bs cs ls ts ck rn ins d os us ow qs rec js:=λhq hR=>⟨hR.prog,hR.mach.mono (by omega),hR.outs,hR.lock,by have:=hR.rlen;omega,hR.jlen⟩
 rcases hy with⟨c,k',f,q,cs,ls,ts,ck,rn,ins,d,os,us,ow,qs,rec,js,z1,z2,z3,z4,z5,z6,z7,z8,z9,QS,QT,QU,QV,QW,QX,QY,QZ,Q0,rfl,hq,hd,hR⟩|⟨c,k',f,q,cs,ls,ts,ck,rn,ins,d,os,us,ow,qs,rec,js,rfl,hq,hd,hR⟩
 ·exact Ok.ret ⟨_,_,_,_,_,_,_,_,_,_,_,_,_,_,_,_,_,_,_,rfl,X9,ZX hq hR,hd⟩
 ·exact Ok.ret ⟨_,_,_,_,_,_,_,_,_,_,_,_,_,_,_,_,_,_,_,rfl,X9,ZX hq hR,hd⟩
def J2(bs ss:List Int)(key:Int)(cs:List DCe)(ls:List DLn)(r o:Nat):DCn:=ou bs ss key (vW cs ls (bs.getD r 0+o))
def GI(bs ss:List Int)(key:Int)(cs:List DCe)(ls:List DLn)(r:Nat):List DCn:=(List.range (ss.getD r 0).toNat).map (J2 bs ss key cs ls r)
def vV(bs ss:List Int)(key:Int)(cs:List DCe)(ls:List DLn):List (List DCn):=(List.range ss.length).map (GI bs ss key cs ls)
def tG(bs ss:List Int)(key:Int)(t:DTh):DTs:=(t.1,t.2.2.1,t.2.2.2.1,t.2.2.2.2.1,t.2.2.2.2.2.1,t.2.2.2.2.2.2.1,t.2.2.2.2.2.2.2,t.2.1.map (ou bs ss key))
theorem LV.at_{bs ss:List Int}(h:LV bs ss){r:Nat}(hr:r<ss.length):∃b z,bs[r]?=some b/\ss[r]?=some z/\1<=z/\z<=32/\0<=b/\b+z<=512:=by
 have ⟨hs,hl,hg⟩:=h;have ⟨z,hz⟩:∃z,ss[r]?=some z:=⟨_,oGE (by omega)⟩;have h1:=hg r (by omega);unfold sx at h1;have h2:=hs.2.2 z (dO hz)
 simp_all
theorem xj{K:Int->Prop}{bs ss:List Int}{key:Int}{cs:List DCe}{ls:List DLn}(h:LV bs ss)(hm:jl K cs ls):ia cs ls bs key ss=some (vV bs ss key cs ls,()):=by
 have XG:=h.1.2.1
 have e0:∀(r:Nat)(b z:Int),bs[r]?=some b->ss[r]?=some z->1<=z->z<=32->0<=b->b+z<=512->∀(a1 a2 a3:_)(out:List (List DCn)),dU fT NN (ss,(r:Int),a1,a2,a3,z,0,cs,ls,bs,key,out,[],())=some (ss,(r:Int),a1,a2,a3,z,z,false,cs,ls,bs,key,out,GI bs ss key cs ls r,()):=by
  intro r b z hb hz z1 VI b0 bz a1 a2 a3 out;obtain⟨n,rfl⟩:∃n:Nat,z=n:=⟨z.toNat,by omega⟩
  have e:GI bs ss key cs ls r=(List.range n).map (J2 bs ss key cs ls r):=by unfold GI;rw[ee hz,oTN]
  rw[e];refine l8 (f:=fT) (N:=NN) (st:=λo=>(ss,(r:Int),a1,a2,a3,(n:Int),(o:Int),cs,ls,bs,key,out,(List.range o).map (J2 bs ss key cs ls r),())) (n:=n) (by unfold NN;omega) ?_ ?_
  ·intro o ho;unfold fT;dsimp only;rw[oDT (show(o:Int)<n by omega),dL];simp only[oCT,oBS,show dI bs r=some b from hb];rw[dP (x:=b+o) (by omega) (by omega)];obtain⟨UA,Vx⟩:=uB (a:=b+o) hm ⟨by omega,by omega⟩;rw[UA];simp only[oBS];rw[pO h Vx];simp only[oBS];refine dG (dS (by simp;omega)) ?_;rw[dP (x:=(o:Int)+1) (by omega) (by omega)];refine Ok.ret ?_;rw[<- iK];unfold J2;rw[ee hb];rfl
  ·unfold fT;dsimp only;rw[oDF (show ¬(n:Int)<n by omega)];exact Ok.ret rfl
 have e1:dU fS NN (ss,ss,(ss.length:Int),0,cs,ls,bs,key,[],())=some (ss,ss,(ss.length:Int),(ss.length:Int),false,cs,ls,bs,key,vV bs ss key cs ls,()):=by
  refine l8 (f:=fS) (N:=NN) (st:=λr=>(ss,ss,(ss.length:Int),(r:Int),cs,ls,bs,key,(List.range r).map (GI bs ss key cs ls),())) (n:=ss.length) (by unfold NN;omega) ?_ ?_
  ·intro r hr;obtain⟨b,z,hb,hz,z1,VI,b0,bz⟩:=h.at_ hr;unfold fS;dsimp only;rw[oDT (show(r:Int)<ss.length by omega),dL];simp only[oCT,oBS,show dI ss r=some z from hz];rw[e0 r b z hb hz z1 VI b0 bz];refine dG (dS (by simp;omega)) ?_;rw[dP (x:=(r:Int)+1) (by omega) (by omega)];refine Ok.ret ?_;rw[<- iK];rfl
  ·unfold fS;dsimp only;rw[oDF (show ¬(ss.length:Int)<ss.length by omega)];exact Ok.ret rfl
 unfold ia;delta dM
 simp_all
theorem Is{n key:Int}{code:List DIn}{dt:List (List Int)}{bs ss:List Int}{cs:List DCe}{ls:List DLn}{ts:List DTh}(h:MOk n ss bs cs ls ts):lf code ss dt bs key cs ls ts=some (vV bs ss key cs ls,ts.map (tG bs ss key),()):=by
 have h4:=h.tlen
 have e1:dU gL NN (ts,(ts.length:Int),0,code,ss,dt,bs,key,cs,ls,ts,(),(),vV bs ss key cs ls,[],())=some (ts,(ts.length:Int),(ts.length:Int),false,code,ss,dt,bs,key,cs,ls,ts,(),(),vV bs ss key cs ls,ts.map (tG bs ss key),()):=by
  have:=l8 (f:=gL) (N:=NN) (st:=λr=>(ts,(ts.length:Int),(r:Int),code,ss,dt,bs,key,cs,ls,ts,(),(),vV bs ss key cs ls,(ts.take r).map (tG bs ss key),())) (n:=ts.length) (t:=(ts,(ts.length:Int),(ts.length:Int),false,code,ss,dt,bs,key,cs,ls,ts,(),(),vV bs ss key cs ls,ts.map (tG bs ss key),())) (by unfold NN;omega) ?_ ?_
  ·exact this
  ·intro r hr;obtain⟨t,ht⟩:∃t,ts[r]?=some t:=⟨_,oGE (by omega)⟩;have hok:=h.thr t (dO ht);have h8:=hok.len;unfold gL;delta dM;dsimp only;rw[oDT (show(r:Int)<ts.length by omega),dL];simp only[oCT,oBS,show dI ts r=some t from ht]
   have e0:∀(a1 a2 a3 a4 a5 a6 a7 a8 a9 a10 a11 a12 a13 a14:_),dU gM NN (ts,(ts.length:Int),(r:Int),t.2.1,(t.2.1.length:Int),0,code,ss,dt,bs,key,cs,ls,ts,(),(),vV bs ss key cs ls,(ts.take r).map (tG bs ss key),a1,t.2.1,a2,a3,a4,a5,a6,a7,a8,a9,a10,a11,a12,a13,a14,[],())=
    some (ts,(ts.length:Int),(r:Int),t.2.1,(t.2.1.length:Int),(t.2.1.length:Int),false,code,ss,dt,bs,key,cs,ls,ts,(),(),vV bs ss key cs ls,(ts.take r).map (tG bs ss key),a1,t.2.1,a2,a3,a4,a5,a6,a7,a8,a9,a10,a11,a12,a13,a14,t.2.1.map (ou bs ss key),()):=by
    intro a1 a2 a3 a4 a5 a6 a7 a8 a9 a10 a11 a12 a13 a14
    have:=l8 (f:=gM) (N:=NN) (st:=λo=>(ts,(ts.length:Int),(r:Int),t.2.1,(t.2.1.length:Int),(o:Int),code,ss,dt,bs,key,cs,ls,ts,(),(),vV bs ss key cs ls,(ts.take r).map (tG bs ss key),a1,t.2.1,a2,a3,a4,a5,a6,a7,a8,a9,a10,a11,a12,a13,a14,(t.2.1.take o).map (ou bs ss key),())) (n:=t.2.1.length)
     (t:=(ts,(ts.length:Int),(r:Int),t.2.1,(t.2.1.length:Int),(t.2.1.length:Int),false,code,ss,dt,bs,key,cs,ls,ts,(),(),vV bs ss key cs ls,(ts.take r).map (tG bs ss key),a1,t.2.1,a2,a3,a4,a5,a6,a7,a8,a9,a10,a11,a12,a13,a14,t.2.1.map (ou bs ss key),())) (by unfold NN;omega) ?_ ?_
    ·exact this
    ·intro o ho;obtain⟨c,hc⟩:∃c,t.2.1[o]?=some c:=⟨_,oGE ho⟩;unfold gM;dsimp only;rw[oDT (show(o:Int)<t.2.1.length by omega),dL];simp only[oCT,oBS,show dI t.2.1 o=some c from hc];rw[pO h.lay (hok.regs c (dO hc))];refine dG (dS (by simp;omega)) ?_;rw[dP (x:=(o:Int)+1) (by omega) (by omega)];refine Ok.ret ?_;rw[<- gH (ou bs ss key) hc];rfl
    ·unfold gM;dsimp only;rw[oDF (show ¬(t.2.1.length:Int)<t.2.1.length by omega),List.take_length];exact Ok.ret rfl
   rw[e0];simp only[oBS];refine dG (dS (by simp;omega)) ?_;rw[dP (x:=(r:Int)+1) (by omega) (by omega)];refine Ok.ret ?_;rw[<- gH (tG bs ss key) ht];rfl
  ·unfold gL;dsimp only;rw[oDF (show ¬(ts.length:Int)<ts.length by omega),List.take_length];exact Ok.ret rfl
 unfold lf;delta dM;simp only[xj h.lay h.mem,oBS]
 simp_all
structure M3 (n:Int)(ss:List Int)(v:DTs):Prop where
 state:0<=v.1/\v.1<=4
 pc:0<=v.2.1/\v.2.1<=255
 count:0<=v.2.2.1/\v.2.2.1<=n
 handler:-1<=v.2.2.2.1/\v.2.2.2.1<=255
 saved:-1<=v.2.2.2.2.1/\v.2.2.2.2.1<=255
 trap:0<=v.2.2.2.2.2.1/\v.2.2.2.2.2.1<=6
 code:W16 v.2.2.2.2.2.2.1
 len:v.2.2.2.2.2.2.2.length=8
 regs:∀c∈v.2.2.2.2.2.2.2,Pr ss c
structure xF (n:Int)(ss:List Int)(rg:List (List DCn))(vs:List DTs):Prop where
 rlen:rg.length=ss.length
 fit:∀(j:Nat) x z,rg[j]?=some x->ss[j]?=some z->(x.length:Int)=z
 cells:∀x∈rg,∀c∈x,Pr ss c
 vlen:vs.length=4
 views:∀v∈vs,M3 n ss v
theorem Ir{n key:Int}{bs ss:List Int}{cs:List DCe}{ls:List DLn}{ts:List DTh}(h:MOk n ss bs cs ls ts):xF n ss (vV bs ss key cs ls) (ts.map (tG bs ss key)):=by
 refine⟨by unfold vV;simp,λj x z hx hz=>?_,λx hx c hc=>?_,by rw[List.length_map];exact h.tlen,λv hv=>?_⟩
 ·unfold vV at hx;rw[List.getElem?_map,List.getElem?_range (oGS hz).1]at hx
  injection hx with hx
  subst hx;have:=(h.lay.1.2.2 z (dO hz)).1;unfold GI;rw[List.length_map,List.length_range,ee hz];omega
 ·unfold vV at hx;obtain⟨r,hr,rfl⟩:=List.mem_map.1 hx;have hr:=List.mem_range.1 hr;have ⟨b,z,hb,hz,z1,VI,b0,bz⟩:=h.lay.at_ hr;obtain⟨o,ho,rfl⟩:=List.mem_map.1 hc;have ho:=List.mem_range.1 ho;rw[ee hz]at ho;unfold J2;rw[ee hb];exact zH h.lay (uB h.mem ⟨by omega,by omega⟩).2
 ·obtain⟨t,ht,rfl⟩:=List.mem_map.1 hv;have hok:=h.thr t ht;refine⟨hok.state,hok.pc,hok.count,hok.handler,hok.saved,hok.trap,hok.code,by unfold tG;dsimp only;rw[List.length_map];exact hok.len,λc hc=>?_⟩;obtain⟨c',Yz,rfl⟩:=List.mem_map.1 hc;exact zH h.lay (hok.regs c' Yz)
theorem FU{l:List Int}(h:∀x∈l,1<=x/\x<=32):(l.length:Int)<=l.sum/\l.sum<=32*l.length:=by
 induction l with
 |nil=>simp
 |cons a l ih=>
  have h1:=h a (by simp);have h2:=ih λx hx=>h x (by simp[hx]);rw[List.sum_cons,oLC];omega
theorem Lj{l:List Int}{k:Nat}{x:Int}(h:l[k]?=some x):l.drop k=x::l.drop (k+1):=by
 obtain⟨hk,rfl⟩:=oGS h
 simp_all
theorem Io{ss:List Int}(h:vK ss):lr ss=some (ss.sum,()):=by
 have e:dU gP NN (0,ss,(ss.length:Int),0,())=some (ss.sum,ss,(ss.length:Int),(ss.length:Int),false,()):=by
  have:=l8 (f:=gP) (N:=NN) (st:=λk=>((ss.take k).sum,ss,(ss.length:Int),(k:Int),())) (n:=ss.length) (t:=(ss.sum,ss,(ss.length:Int),(ss.length:Int),false,())) (by unfold NN;have:=h.2.1;omega) ?_ ?_
  ·exact this
  ·intro k hk;obtain⟨x,hx⟩:∃x,ss[k]?=some x:=⟨_,oGE hk⟩;have Ys:=h.2.2 x (dO hx);have hb:=FU (l:=ss.take k) λy hy=>h.2.2 y (List.mem_of_mem_take hy);have hl:=h.2.1;rw[oLT]at hb;unfold gP;dsimp only;rw[oDT (show(k:Int)<ss.length by omega),dL];simp[show dI ss k=some x from hx];rw[dP (x:=(ss.take k).sum+x) (by omega) (by omega),dP (x:=(k:Int)+1) (by omega) (by omega)];refine Ok.ret ?_;rw[show ss.take (k+1)=ss.take k++[x] by rw[List.take_add_one,hx];rfl];simp
  ·unfold gP;dsimp only;rw[oDF (show ¬(ss.length:Int)<ss.length by omega),List.take_length];exact Ok.ret rfl
 unfold lr;delta dM
 simp_all
theorem M2{ss:List Int}{i:Int}(h:vK ss)(h0:0<=i)(h1:i<ss.sum):Ok (pE ss i) λr=>∃rg o,r=(rg,o,0,())/\0<=rg/\∃n,ss[rg.toNat]?=some n/\0<=o/\o<n:=by
 have hl:=h.2.1;unfold pE;delta dM
 try dsimp only
 obtain⟨y,e,rg,o,rfl,hy⟩:=fF (f:=nD) (n:=NN) (s:=(i,ss,(ss.length:Int),0,0,0,())) (P:=λs'=>∃(k:Nat)(i':Int),s'=(i',ss,(ss.length:Int),(k:Int),0,0,())/\k<=ss.length/\0<=i'/\i'<(ss.drop k).sum/\i'<=1000)
  (R:=λy=>∃rg o,y=.inl (0,rg,o,())/\0<=rg/\∃n,ss[rg.toNat]?=some n/\0<=o/\o<n) (m:=λs'=>(s'.2.2.1-s'.2.2.2.1).toNat) ⟨0,i,rfl,by omega,h0,h1,by have:=(FU h.2.2).2;omega⟩ (by unfold NN;dsimp only;omega) (by
   rintro _ ⟨k,i',rfl,hk,i0,i1,i2⟩;unfold nD;dsimp only;by_cases hkl:k=ss.length
   ·subst hkl;simp at i1;omega
   obtain⟨x,hx⟩:∃x,ss[k]?=some x:=⟨_,oGE (by omega)⟩;have Ys:=h.2.2 x (dO hx);rw[Lj hx,List.sum_cons]at i1;rw[oDT (show(k:Int)<ss.length by omega),dL];simp only[oCT,oBS,show dI ss k=some x from hx];rw[oDT (show i'>=0 from i0)];by_cases hlt:i'<x
   ·rw[oDT hlt];exact Ok.ret ⟨_,_,rfl,by omega,x,by simp_all,i0,hlt⟩
   ·rw[oDF hlt];simp;rw[dP (x:=i'-x) (by omega) (by omega),dP (x:=(k:Int)+1) (by omega) (by omega)]
    exact Ok.ret ⟨⟨k+1,_,rfl,by omega,by omega,by omega,by omega⟩,by dsimp only;omega⟩)
 rw[e];exact Ok.ret ⟨rg,o,rfl,hy⟩
theorem D6{ss l:List Int}{k:Int}(hs:vK ss)(h:DOk l k):Ok (kP ss l k) λr=>∃t v rg o k',r=(t,v,rg,o,l,k',())/\Pr ss (t,v,rg,o)/\DOk l k':=by
 unfold kP
 (with_reducible refine fh (by omega) (by omega) (by omega) (λv0 k0 a0 b0 d0=>?_);try dsimp only)
 rw[Io hs];simp;have hb:=FU hs.2.2;have h1:=hs.1;have h4:=hs.2.1
 (with_reducible refine dF (λZ'=>?_) λZ'=>?_)
 ·(with_reducible refine fh (by omega) (by omega) (by omega) (λv1 k1 a1 b1 d1=>?_);try dsimp only)
  refine(M2 hs a1 b1).bind ?_;rintro _ ⟨rg,o,rfl,g1,n,g2,g3,g4⟩;exact Ok.ret ⟨_,_,_,_,_,rfl,.inr ⟨rfl,rfl,g1,n,g2,g3,g4⟩,d1⟩
 (with_reducible refine dF (λZ3=>?_) λZ3=>?_)
 ·(with_reducible refine fh (by omega) (by omega) (by omega) (λv2 k2 a2 b2 d2=>?_);try dsimp only)
  exact Ok.ret ⟨_,_,_,_,_,rfl,J3 (lR _),d2⟩
 ·(with_reducible refine Df (by omega) (λv3 k3 a3 b3 d3=>?_);try dsimp only)
  exact Ok.ret ⟨_,_,_,_,_,rfl,jO ⟨by omega,by omega⟩,d3⟩
def vU(v:DTs):List DCn:=v.2.2.2.2.2.2.2
def thF(bs:List Int)(key:Int)(v:DTs):DTh:=(v.1,(vU v).map (vO bs key),v.2.1,v.2.2.1,v.2.2.2.1,v.2.2.2.2.1,v.2.2.2.2.2.1,v.2.2.2.2.2.2.1)
theorem zR{n:Int}{ss:List Int}{vs:List DTs}(hs:vK ss)(hl:vs.length=4)(h:∀v∈vs,M3 n ss v)(hn:n<=1099511627776):jA vs=some (true,()):=by
 have e:dU fR NN (vs,vs,(vs.length:Int),0,())=some (.inr (vs,vs,(vs.length:Int),(vs.length:Int),false,())):=by
  refine l8 (f:=fR) (N:=NN) (st:=λk=>(vs,vs,(vs.length:Int),(k:Int),())) (n:=vs.length) (by unfold NN;omega) ?_ ?_
  ·intro k hk;obtain⟨v,hv⟩:∃v,vs[k]?=some v:=⟨_,oGE hk⟩;obtain⟨⟨a1,a2⟩,⟨b1,b2⟩,⟨c1,c2⟩,⟨d1,d2⟩,⟨e1,e2⟩,⟨f1,f2⟩,_,Qk,hr⟩:=h v (dO hv);unfold fR;delta dM;dsimp only;rw[oDT (show(k:Int)<vs.length by omega),dL];simp only[oCT,oBS,show dI vs k=some v from hv];rw[oDT (show v.1>=0 from a1),oDT a2,oDT (show v.2.1>=0 from b1),oDT b2,oDT (show v.2.2.1>=0 from c1),oDT (show v.2.2.1<=1099511627776 by omega),oDT (show v.2.2.2.1>=-1 from d1),oDT d2,oDT (show v.2.2.2.2.1>=-1 from e1),oDT e2,oDT (show v.2.2.2.2.2.1>=0 from f1),oDT f2];simp;rw[Qk,jj (n:=8) hs hr (by omega) (by omega)];simp;rw[dP (x:=(k:Int)+1) (by omega) (by omega)];exact Ok.ret rfl
  ·unfold fR;dsimp only;rw[oDF (show ¬(vs.length:Int)<vs.length by omega)];exact Ok.ret rfl
 unfold jA;delta dM
 simp_all
theorem Em{n:Int}{code:List DIn}{ss:List Int}{dt:List (List Int)}{rg:List (List DCn)}{vs:List DTs}(hp:jX code ss dt)(h:xF n ss rg vs)(hn:n<=1099511627776):jB code ss dt rg vs=some (true,()):=by
 have h4:=hp.sz.2.1;have hl:=h.rlen
 have e:dU iU NN (rg,(rg.length:Int),0,code,ss,dt,rg,vs,())=some (.inr (rg,(rg.length:Int),(rg.length:Int),false,code,ss,dt,rg,vs,())):=by
  refine l8 (N:=NN) (st:=λk=>(rg,(rg.length:Int),(k:Int),code,ss,dt,rg,vs,())) (n:=rg.length) (by unfold NN;omega) ?_ ?_
  ·intro k hk;obtain⟨x,hx⟩:∃x,rg[k]?=some x:=⟨_,oGE hk⟩;obtain⟨z,hz⟩:∃z,ss[k]?=some z:=⟨_,oGE (by omega)⟩;have hf:=h.fit k x z hx hz;have XJ:=hp.sz.2.2 z (dO hz);unfold iU;delta dM;dsimp only;rw[oDT (show(k:Int)<rg.length by omega),dL];simp only[oCT,oBS,show dI rg k=some x from hx,show dI ss k=some z from hz,hf,bne_self_eq_false,oCF];rw[jj (n:=32) hp.sz (h.cells x (dO hx)) (by omega) (by omega)];rw[dP (x:=(k:Int)+1) (by omega) (by omega)];exact Ok.ret rfl
  ·unfold iU;dsimp only;rw[oDF (show ¬(rg.length:Int)<rg.length by omega)];exact Ok.ret rfl
 unfold jB;delta dM;rw[zG hp,zR hp.sz h.vlen h.views hn]
 simp_all
theorem E4{rg:List (List DCn)}{vs:List DTs}(h1:rg.length<=1000)(h2:vs.length<=1000):ld rg vs=some (rg++vs.map vU,()):=by
 have e:dU gK NN (vs,(vs.length:Int),0,rg,vs,rg,())=some (vs,(vs.length:Int),(vs.length:Int),false,rg,vs,rg++vs.map vU,()):=by
  have:=l8 (f:=gK) (N:=NN) (st:=λk=>(vs,(vs.length:Int),(k:Int),rg,vs,rg++(vs.take k).map vU,())) (n:=vs.length) (t:=(vs,(vs.length:Int),(vs.length:Int),false,rg,vs,rg++vs.map vU,())) (by unfold NN;omega) ?_ ?_
  ·simp_all
  ·intro k hk;have ⟨v,hv⟩:∃v,vs[k]?=some v:=⟨_,oGE hk⟩;unfold gK;dsimp only;rw[oDT (show(k:Int)<vs.length by omega),dL];simp only[oCT,oBS,show dI vs k=some v from hv];refine dG (dS (by simp;omega)) ?_;rw[dP (x:=(k:Int)+1) (by omega) (by omega)];refine Ok.ret ?_;rw[<- gH vU hv,<- List.append_assoc];rfl
  ·unfold gK;dsimp only;rw[oDF (show ¬(vs.length:Int)<vs.length by omega),List.take_length];exact Ok.ret rfl
 unfold ld;rw[dS (show 24<=1000/\0+rg.length<=1000000 by omega)];delta dM
 simp_all
theorem LV.apart{bs ss:List Int}(h:LV bs ss){r r':Nat}{b z b' z' o o':Int}(hne:r≠r')(hb:bs[r]?=some b)(hz:ss[r]?=some z)(YQ:bs[r']?=some b')(VH:ss[r']?=some z')(h0:0<=o)(h1:o<z)(p':0<=o')(Ss:o'<z'):b+o≠b'+o':=by
 have ⟨_,hl,hg⟩:=h;have l1:=(oGS hb).1;have l2:=(oGS YQ).1;have g1:=hg r l1;have g2:=hg r' l2;unfold sx at g1 g2;rw[ee hb,ee hz]at g1;rw[ee YQ,ee VH]at g2;by_cases hlt:r'<r
 ·have:=g1.2.2 r' hlt;rw[ee YQ,ee VH]at this;omega
 ·have:=g2.2.2 r (by omega);rw[ee hb,ee hz]at this;omega
theorem t7{α:Type}{l:List α}{k:Nat}{d a:α}(h:l[k]?=some a):l.getD k d=a:=by simp_all
structure StW (ss:List Int)(rg:List (List DCn))(vs:List DTs):Prop where
 rlen:rg.length=ss.length
 fit:∀(j:Nat) x z,rg[j]?=some x->ss[j]?=some z->(x.length:Int)=z
 cells:∀x∈rg,∀c∈x,Pr ss c
 vlen:vs.length=4
 len:∀v∈vs,v.2.2.2.2.2.2.2.length=8
 regs:∀v∈vs,∀c∈v.2.2.2.2.2.2.2,Pr ss c
def BL(bs:List Int)(key b:Int)(x:List DCn)(cs:List DCe):Nat->List DCe
 |0=>cs
 |k+1=>(BL bs key b x cs k).set (b+k).toNat (vO bs key (x.getD k (0,0,0,0)))
theorem xU{bs:List Int}{key b:Int}{x:List DCn}{cs:List DCe}:∀k,(BL bs key b x cs k).length=cs.length
 |0=>rfl
 |k+1=>by rw[BL,List.length_set,xU k]
def E7(bs:List Int)(key:Int)(rg:List (List DCn)):Nat->List DCe
 |0=>List.replicate 512 (0,0)
 |r+1=>BL bs key (bs.getD r 0) (rg.getD r []) (E7 bs key rg r) (rg.getD r []).length
theorem yf{bs:List Int}{key:Int}{rg:List (List DCn)}:∀r,(E7 bs key rg r).length=512
 |0=>List.length_replicate
 |r+1=>by rw[E7,xU,yf r]
section
variable {key:Int} {code:List DIn} {ss bs:List Int} {dt:List (List Int)} {rg:List (List DCn)} {vs:List DTs}
theorem LY(hL:LV bs ss)(h:StW ss rg vs){r:Nat}(hr:r<rg.length){x:List DCn}(hx:rg[r]?=some x){cs:List DCe}(hc:cs.length=512):
 dU gg NN ((r:Int),rg,(rg.length:Int),(r:Int),x,(x.length:Int),0,code,ss,dt,bs,key,rg,vs,(),0,(),(),(),bs,key,cs,eU,(),())=
  some ((r:Int),rg,(rg.length:Int),(r:Int),x,(x.length:Int),(x.length:Int),false,code,ss,dt,bs,key,rg,vs,(),0,(),(),(),bs,key,BL bs key (bs.getD r 0) x cs x.length,eU,(),()):=by
 have Xd:=h.rlen;obtain⟨b,z,hb,hz,z1,VI,b0,bz⟩:=hL.at_ (r:=r) (by omega);have hf:=h.fit r x z hx hz;have R8:=h.cells x (dO hx);have Os:=ee hb;rw[Os];refine l8 (f:=gg) (N:=NN) (st:=λo=>((r:Int),rg,(rg.length:Int),(r:Int),x,(x.length:Int),(o:Int),code,ss,dt,bs,key,rg,vs,(),0,(),(),(),bs,key,BL bs key b x cs o,eU,(),())) (n:=x.length) (by unfold NN;omega) ?_ ?_
 ·intro o ho;obtain⟨c,Yz⟩:∃c,x[o]?=some c:=⟨_,oGE ho⟩;unfold gg;dsimp only;rw[oDT (show(o:Int)<x.length by omega),dL,dL];simp only[oCT,oBS,show dI x o=some c from Yz,show dI bs r=some b from hb,(sC (key:=key) hL (R8 c (dO Yz))).1];rw[dP (x:=b+o) (by omega) (by omega),dP (x:=(o:Int)+1) (by omega) (by omega)];obtain⟨a,ha⟩:∃a:Nat,b+o=a:=⟨(b+o).toNat,by omega⟩;obtain⟨y,hy⟩:∃y,(BL bs key b x cs o)[a]?=some y:=⟨_,oGE (by rw[xU];omega)⟩;rw[ha,dL];simp only[oBS,show dI (BL bs key b x cs o) a=some y from hy,eq hy];refine Ok.ret ?_
  have e:BL bs key b x cs (o+1)=(BL bs key b x cs o).set a (vO bs key c):=by rw[BL,ha,t7 Yz];rfl
  simp_all
 ·unfold gg;dsimp only;rw[oDF (show ¬(x.length:Int)<x.length by omega)];exact Ok.ret rfl
theorem LZ(hL:LV bs ss)(h:StW ss rg vs)(h4:ss.length<=4):
 dU gf NN (rg,(rg.length:Int),0,code,ss,dt,bs,key,rg,vs,(),0,(),(),(),bs,key,List.replicate 512 (0,0),eU,(),())=
  some (rg,(rg.length:Int),(rg.length:Int),false,code,ss,dt,bs,key,rg,vs,(),0,(),(),(),bs,key,E7 bs key rg rg.length,eU,(),()):=by
 have Xd:=h.rlen;refine l8 (f:=gf) (N:=NN) (st:=λr=>(rg,(rg.length:Int),(r:Int),code,ss,dt,bs,key,rg,vs,(),0,(),(),(),bs,key,E7 bs key rg r,eU,(),())) (n:=rg.length) (by unfold NN;omega) ?_ ?_
 ·intro r hr;obtain⟨x,hx⟩:∃x,rg[r]?=some x:=⟨_,oGE hr⟩;unfold gf;delta dM;dsimp only;rw[oDT (show(r:Int)<rg.length by omega),dL];simp only[oCT,oBS,show dI rg r=some x from hx];rw[LY hL h hr hx (yf r)];simp only[oBS];rw[dP (by omega) (by omega)];refine Ok.ret ?_
  have e:E7 bs key rg (r+1)=BL bs key (bs.getD r 0) x (E7 bs key rg r) x.length:=by rw[E7,t7 hx]
  rw[e];rfl
 ·unfold gf;dsimp only;rw[oDF (show ¬(rg.length:Int)<rg.length by omega)];exact Ok.ret rfl
set_option maxHeartbeats 4000000 in
theorem Jl(hp:jX code ss dt)(hL:LV bs ss)(h:StW ss rg vs)(hV:jB code ss dt rg vs=some (true,())):
 Ok (iJ code ss dt bs key rg vs) (·=(bs,key,E7 bs key rg rg.length,eU,vs.map (thF bs key),true,())):=by
 have h4:=hp.sz.2.1;have S9:=hL.2.1;have Xd:=h.rlen;have YS:=h.vlen;unfold iJ;delta dM;rw[hV,pA hL,E4 (by omega) (by omega),D1];simp only[oBS,oNT,oCF]
 have ZO:∀x∈rg++vs.map vU,x.length<=100/\∀c∈x,Pr ss c:=by
  intro x hx;rcases List.mem_append.1 hx with hx|hx
  ·obtain⟨j,hj⟩:=List.getElem?_of_mem hx;have:=(oGS hj).1;obtain⟨z,hz⟩:∃z,ss[j]?=some z:=⟨_,oGE (by omega)⟩;have:=h.fit j x z hj hz;have:=hp.sz.2.2 z (dO hz);exact⟨by omega,h.cells x hx⟩
  ·obtain⟨v,hv,rfl⟩:=List.mem_map.1 hx;exact⟨by unfold vU;rw[h.len v hv];omega,h.regs v hv⟩
 have U4:(rg++vs.map vU).length<=100:=by rw[List.length_append,List.length_map];omega
 generalize rg++vs.map vU=lst at ZO U4
 have e1:dU gh NN ((lst.length:Int),0,code,ss,dt,bs,key,rg,vs,(),0,(),(),(),lst,())=some (.inr ((lst.length:Int),(lst.length:Int),false,code,ss,dt,bs,key,rg,vs,(),0,(),(),(),lst,())):=by
  refine l8 (f:=gh) (N:=NN) (st:=λk=>((lst.length:Int),(k:Int),code,ss,dt,bs,key,rg,vs,(),0,(),(),(),lst,())) (n:=lst.length) (by unfold NN;omega) ?_ ?_
  ·intro k hk;obtain⟨x,hx⟩:∃x,lst[k]?=some x:=⟨_,oGE hk⟩;obtain⟨QC,R8⟩:=ZO x (dO hx)
   have e0:dU gi NN ((lst.length:Int),(k:Int),x,(x.length:Int),0,code,ss,dt,bs,key,rg,vs,(),0,(),(),(),lst,())=some (.inr ((lst.length:Int),(k:Int),x,(x.length:Int),(x.length:Int),false,code,ss,dt,bs,key,rg,vs,(),0,(),(),(),lst,())):=by
    refine l8 (f:=gi) (N:=NN) (st:=λo=>((lst.length:Int),(k:Int),x,(x.length:Int),(o:Int),code,ss,dt,bs,key,rg,vs,(),0,(),(),(),lst,())) (n:=x.length) (by unfold NN;omega) ?_ ?_
    ·intro o ho;obtain⟨c,hc⟩:∃c,x[o]?=some c:=⟨_,oGE ho⟩;unfold gi;dsimp only;rw[oDT (show(o:Int)<x.length by omega),dL];simp only[oCT,oBS,show dI x o=some c from hc,l7 (R8 c (dO hc)),oNT,oCF];rw[dP (x:=(o:Int)+1) (by omega) (by omega)];exact Ok.ret rfl
    ·unfold gi;dsimp only;rw[oDF (show ¬(x.length:Int)<x.length by omega)];exact Ok.ret rfl
   unfold gh;delta dM;dsimp only;rw[oDT (show(k:Int)<lst.length by omega),dL];simp only[oCT,oBS,show dI lst k=some x from hx,e0];rw[dP (x:=(k:Int)+1) (by omega) (by omega)];exact Ok.ret rfl
  ·unfold gh;dsimp only;rw[oDF (show ¬(lst.length:Int)<lst.length by omega)];exact Ok.ret rfl
 rw[e1];dsimp only;refine dG (dS (by omega)) (dG (by decide) ?_);rw[show List.append [] bs=bs from rfl];rw[LZ hL h h4,oBS];dsimp only;generalize E7 bs key rg rg.length=cs
 have e5:dU gd NN (vs,(vs.length:Int),0,code,ss,dt,bs,key,rg,vs,(),0,(),(),(),bs,key,cs,eU,[],())=some (vs,(vs.length:Int),(vs.length:Int),false,code,ss,dt,bs,key,rg,vs,(),0,(),(),(),bs,key,cs,eU,vs.map (thF bs key),()):=by
  have:=l8 (f:=gd) (N:=NN) (st:=λk=>(vs,(vs.length:Int),(k:Int),code,ss,dt,bs,key,rg,vs,(),0,(),(),(),bs,key,cs,eU,(vs.take k).map (thF bs key),())) (n:=vs.length) (t:=(vs,(vs.length:Int),(vs.length:Int),false,code,ss,dt,bs,key,rg,vs,(),0,(),(),(),bs,key,cs,eU,vs.map (thF bs key),())) (by unfold NN;omega) ?_ ?_
  ·exact this
  ·intro k hk;obtain⟨v,hv⟩:∃v,vs[k]?=some v:=⟨_,oGE hk⟩;have h8:=h.len v (dO hv);have T':=h.regs v (dO hv);unfold gd;delta dM;dsimp only;rw[oDT (show(k:Int)<vs.length by omega),dL];simp only[oCT,oBS,show dI vs k=some v from hv]
   have e4:∀(a1 a2 a3 a4 a5 a6 a7 a8 b1 b2 b3 b4 b5 b6 b7:_),dU ge NN (vs,(vs.length:Int),(k:Int),v.2.2.2.2.2.2.2,(v.2.2.2.2.2.2.2.length:Int),0,code,ss,dt,bs,key,rg,vs,(),0,(),(),(),bs,key,cs,eU,(vs.take k).map (thF bs key),a1,a2,a3,a4,a5,a6,a7,a8,b1,[],b2,b3,b4,b5,b6,b7,())=
    some (vs,(vs.length:Int),(k:Int),v.2.2.2.2.2.2.2,(v.2.2.2.2.2.2.2.length:Int),(v.2.2.2.2.2.2.2.length:Int),false,code,ss,dt,bs,key,rg,vs,(),0,(),(),(),bs,key,cs,eU,(vs.take k).map (thF bs key),a1,a2,a3,a4,a5,a6,a7,a8,b1,v.2.2.2.2.2.2.2.map (vO bs key),b2,b3,b4,b5,b6,b7,()):=by
    intro a1 a2 a3 a4 a5 a6 a7 a8 b1 b2 b3 b4 b5 b6 b7
    have:=l8 (f:=ge) (N:=NN) (st:=λo=>(vs,(vs.length:Int),(k:Int),v.2.2.2.2.2.2.2,(v.2.2.2.2.2.2.2.length:Int),(o:Int),code,ss,dt,bs,key,rg,vs,(),0,(),(),(),bs,key,cs,eU,(vs.take k).map (thF bs key),a1,a2,a3,a4,a5,a6,a7,a8,b1,(v.2.2.2.2.2.2.2.take o).map (vO bs key),b2,b3,b4,b5,b6,b7,())) (n:=v.2.2.2.2.2.2.2.length)
     (t:=(vs,(vs.length:Int),(k:Int),v.2.2.2.2.2.2.2,(v.2.2.2.2.2.2.2.length:Int),(v.2.2.2.2.2.2.2.length:Int),false,code,ss,dt,bs,key,rg,vs,(),0,(),(),(),bs,key,cs,eU,(vs.take k).map (thF bs key),a1,a2,a3,a4,a5,a6,a7,a8,b1,v.2.2.2.2.2.2.2.map (vO bs key),b2,b3,b4,b5,b6,b7,())) (by unfold NN;omega) ?_ ?_
    ·exact this
    ·intro o ho;obtain⟨c,hc⟩:∃c,v.2.2.2.2.2.2.2[o]?=some c:=⟨_,oGE ho⟩;unfold ge;dsimp only;rw[oDT (show(o:Int)<v.2.2.2.2.2.2.2.length by omega),dL];simp only[oCT,oBS,show dI v.2.2.2.2.2.2.2 o=some c from hc];rw[(sC (key:=key) hL (T' c (dO hc))).1];simp only[oBS];refine dG (dS (by simp;omega)) ?_;rw[dP (x:=(o:Int)+1) (by omega) (by omega)];refine Ok.ret ?_;rw[<- gH (vO bs key) hc];rfl
    ·unfold ge;dsimp only;rw[oDF (show ¬(v.2.2.2.2.2.2.2.length:Int)<v.2.2.2.2.2.2.2.length by omega),List.take_length];exact Ok.ret rfl
   rw[e4];simp only[oBS];refine dG (dS (by simp;omega)) ?_;rw[dP (x:=(k:Int)+1) (by omega) (by omega)];refine Ok.ret ?_;rw[<- gH (thF bs key) hv];rfl
  ·unfold gd;dsimp only;rw[oDF (show ¬(vs.length:Int)<vs.length by omega),List.take_length];exact Ok.ret rfl
 rw[e5];exact Ok.ret rfl
end
theorem EH{bs:List Int}{key b:Int}{x:List DCn}{cs:List DCe}{a:Nat}:∀k:Nat,(∀j:Nat,j<k->(b+(j:Int)).toNat≠a)->(BL bs key b x cs k)[a]?=cs[a]?
 |0,_=>rfl
 |k+1,h=>by rw[BL,List.getElem?_set_ne (h k (by omega)),EH k λj hj=>h j (by omega)]
theorem Dz{K:Int->Prop}{bs:List Int}{key b:Int}{x:List DCn}{cs:List DCe}(h:∀c∈cs,mg K c):∀k:Nat,(∀j:Nat,j<k->mg K (vO bs key (x.getD j (0,0,0,0))))->∀c∈BL bs key b x cs k,mg K c
 |0,_=>h
 |k+1,g=>by
  rw[BL];exact ii (Dz h k λj hj=>g j (by omega)) (g k (by omega))
section
variable {n key:Int} {code:List DIn} {ss bs:List Int} {dt:List (List Int)} {rg:List (List DCn)} {vs:List DTs}
theorem DI(hL:LV bs ss)(h:StW ss rg vs):∀r,r<=rg.length->∀c∈E7 bs key rg r,mg (RK bs ss) c
 |0,_=>λc hc=>by rw[List.eq_of_mem_replicate hc];exact kS (by decide)
 |r+1,hr=>by
  obtain⟨y,hy⟩:∃y,rg[r]?=some y:=⟨_,oGE (by omega)⟩;rw[E7,t7 hy];refine Dz (DI hL h r (by omega)) _ λj hj=>?_;have ZQ:y[j]?=some y[j]:=oGE hj;rw[t7 ZQ];exact(sC hL (h.cells y (dO hy) _ (dO ZQ))).2
theorem xF.w{n:Int}{ss:List Int}{R:List (List DCn)}{T:List DTs}(h:xF n ss R T):StW ss R T:=
 ⟨h.rlen,h.fit,h.cells,h.vlen,λv hv=>(h.views v hv).len,λv hv=>(h.views v hv).regs⟩
theorem Hy(hp:jX code ss dt)(hL:LV bs ss)(h:xF n ss rg vs)(hn:n<=1099511627776):
 Ok (iJ code ss dt bs key rg vs) λr=>∃cs,r=(bs,key,cs,eU,vs.map (thF bs key),true,())/\MOk n ss bs cs eU (vs.map (thF bs key))/\cs=E7 bs key rg rg.length:=by
 refine(Jl hp hL h.w (Em hp h hn)).mono λr e=>⟨_,e,⟨hL,Bw (yf _) (DI hL h.w _ (Nat.le_refl _)),by rw[List.length_map];exact h.vlen,λt ht=>?_⟩,rfl⟩;obtain⟨v,hv,rfl⟩:=List.mem_map.1 ht;have YT:=h.views v hv;refine⟨YT.state,by unfold thF;dsimp only;rw[List.length_map];exact YT.len,λc hc=>?_,YT.pc,YT.count,YT.handler,YT.saved,YT.trap,YT.code⟩;unfold thF at hc;dsimp only at hc;obtain⟨c',Yz,rfl⟩:=List.mem_map.1 hc;exact(sC hL (YT.regs c' Yz)).2
end
theorem KZ{l:List Int}{k n:Int}(h:DOk l k)(hn:0<n)(U5:n<=9223372036854775807):Ok (dK n l k) λr=>∃v k',r=(v,l,k',())/\0<=v/\v<n/\DOk l k':=by
 have:Ok ((dK n l k).bind some) λr=>∃v k',r=(v,l,k',())/\0<=v/\v<n/\DOk l k':=fh h hn U5 λv k' h0 h1 h2=>Ok.ret ⟨_,_,rfl,h0,h1,h2⟩
 simp_all
theorem xF.setReg{n:Int}{ss:List Int}{rg:List (List DCn)}{vs:List DTs}{r o:Nat}{x:List DCn}{c:DCn}(h:xF n ss rg vs)(hx:rg[r]?=some x)(hc:Pr ss c):xF n ss (rg.set r (x.set o c)) vs:=by
 refine⟨by rw[List.length_set];exact h.rlen,λj y z hy hz=>?_,ii h.cells (ii (h.cells x (dO hx)) hc),h.vlen,h.views⟩;by_cases e:r=j
 ·subst e;rw[show(rg.set r (x.set o c))[r]?=some (x.set o c)from gG (oGS hx).1 _]at hy;cases hy;rw[List.length_set];exact h.fit r x z hx hz
 ·rw[m7 e]at hy;exact h.fit j y z hy hz
theorem xF.setView{n:Int}{ss:List Int}{rg:List (List DCn)}{vs:List DTs}{k:Nat}{v:DTs}(h:xF n ss rg vs)(hv:M3 n ss v):xF n ss rg (vs.set k v):=
 ⟨h.rlen,h.fit,h.cells,by rw[List.length_set];exact h.vlen,ii h.views hv⟩
set_option maxHeartbeats 4000000 in
theorem E3{l:List Int}{k:Int}(h:DOk l k):Ok (kC l k) λr=>∃code ss dt bs key cs ls ts k',r=(code,ss,dt,bs,key,cs,ls,ts,l,k',())/\jX code ss dt/\W16 key/\MOk 1152 ss bs cs ls ts/\DOk l k':=by
 unfold kC;refine(LX h).bind ?_;rintro _ ⟨code,ss,dt,bs,key,cs,ls,ts,ck,rn,ins,d,os,us,ow,qs,rec,js,k1,rfl,X9,hR,h1⟩;dsimp only;have hp:=hR.prog;have hM:=hR.mach;have hL:=hM.lay;have hs1:=hp.sz.1;obtain⟨_,en,v,k2,rfl,v0,v1,h2⟩:=KZ (n:=3) h1 (by decide) (by decide);rw[en];simp only[oBS];by_cases hv:v=0
 ·simp only[beq_iff_eq.2 hv,oCT,Is (code:=code) (dt:=dt) hM,oBS];have hS:=Ir (key:=key) hM;generalize vV bs ss key cs ls=rg at hS;generalize ts.map (tG bs ss key)=vs at hS;obtain⟨x,hx⟩:∃x,rg[0]?=some x:=⟨_,oGE (by have:=hS.rlen;omega)⟩
  have QC:x.length<=32:=by
   obtain⟨z,hz⟩:∃z,ss[0]?=some z:=⟨_,oGE (by omega)⟩;have:=hS.fit 0 x z hx hz;have:=hp.sz.2.2 z (dO hz);omega
  delta dM;simp only[show dI rg 0=some x from hx,oBS]
  obtain⟨y,e,YU,k3,a,b,rfl,Q',h3⟩:=fF (f:=kf) (n:=NN) (s:=((x.length:Int),0,l,k2,(),(),(),(),0,(),(),(),code,ss,dt,bs,key,cs,ls,ts,ck,rn,ins,d,os,us,ow,qs,rec,js,bs,key,cs,ls,ts,rg,vs,()))
   (P:=λs'=>∃(q:Nat)(k':Int)(YU:List (List DCn))(x':List DCn),s'=((x.length:Int),(q:Int),l,k',(),(),(),(),0,(),(),(),code,ss,dt,bs,key,cs,ls,ts,ck,rn,ins,d,os,us,ow,qs,rec,js,bs,key,cs,ls,ts,YU,vs,())/\DOk l k'/\xF 1152 ss YU vs/\YU[0]?=some x'/\x'.length=x.length)
   (R:=λy=>∃YU k' a b,y=(a,b,false,l,k',(),(),(),(),0,(),(),(),code,ss,dt,bs,key,cs,ls,ts,ck,rn,ins,d,os,us,ow,qs,rec,js,bs,key,cs,ls,ts,YU,vs,())/\xF 1152 ss YU vs/\DOk l k') (m:=λs'=>(s'.1-s'.2.1).toNat) ⟨0,k2,rg,x,rfl,h2,hS,hx,rfl⟩ (by unfold NN;dsimp only;omega) (by
    rintro _ ⟨q,k',YU,x',rfl,hd,YC,Wg,Wh⟩;unfold kf;dsimp only
    (with_reducible refine dF (λZ'=>?_) λZ'=>?_)
    ·refine Ok.bind (P:=λr=>∃(k':Int)(YU:List (List DCn))(x':List DCn),r=((x.length:Int),(q:Int),l,k',(),(),(),(),0,(),(),(),code,ss,dt,bs,key,cs,ls,ts,ck,rn,ins,d,os,us,ow,qs,rec,js,bs,key,cs,ls,ts,YU,vs,())/\DOk l k'/\xF 1152 ss YU vs/\YU[0]?=some x'/\x'.length=x.length) ?_ ?_
     ·refine fh (n:=3) hd (by decide) (by decide) λu k4 u0 u1 h4=>?_;dsimp only
      (with_reducible refine dF (λZ3=>?_) λZ3=>?_)
      ·obtain⟨c,hc⟩:∃c,x'[q]?=some c:=⟨_,oGE (by omega)⟩;simp only[show dI YU 0=some x' from Wg,oBS];refine(D6 hp.sz h4).bind ?_;rintro _ ⟨t,v,rr,o,k5,rfl,Uu,h5⟩;dsimp only;simp only[dL,oBS,show dI x' q=some c from hc,eq Wg,eq hc];exact Ok.ret ⟨_,_,_,rfl,h5,YC.setReg Wg Uu,gG (oGS Wg).1 _,by rw[List.length_set];exact Wh⟩
      ·exact Ok.ret ⟨_,_,_,rfl,h4,YC,Wg,Wh⟩
     ·rintro _ ⟨k',YU,x',rfl,hd,YC,Wg,Wh⟩;dsimp only;rw[dP (x:=(q:Int)+1) (by omega) (by omega)];exact Ok.ret ⟨⟨q+1,k',YU,x',rfl,hd,YC,Wg,Wh⟩,by dsimp only;omega⟩
    ·exact Ok.ret ⟨_,_,_,_,rfl,YC,hd⟩)
  simp only[e,oBS]
  obtain⟨y,e,Zb,k4,a,b,rfl,Oi,h4⟩:=fF (f:=ke) (n:=NN) (s:=((vs.length:Int),0,l,k3,(),(),(),(),0,(),(),(),code,ss,dt,bs,key,cs,ls,ts,ck,rn,ins,d,os,us,ow,qs,rec,js,bs,key,cs,ls,ts,YU,vs,()))
   (P:=λs'=>∃(q:Nat)(k':Int)(Zb:List DTs),s'=((vs.length:Int),(q:Int),l,k',(),(),(),(),0,(),(),(),code,ss,dt,bs,key,cs,ls,ts,ck,rn,ins,d,os,us,ow,qs,rec,js,bs,key,cs,ls,ts,YU,Zb,())/\DOk l k'/\xF 1152 ss YU Zb)
   (R:=λy=>∃Zb k' a b,y=(a,b,false,l,k',(),(),(),(),0,(),(),(),code,ss,dt,bs,key,cs,ls,ts,ck,rn,ins,d,os,us,ow,qs,rec,js,bs,key,cs,ls,ts,YU,Zb,())/\xF 1152 ss YU Zb/\DOk l k') (m:=λs'=>(s'.1-s'.2.1).toNat) ⟨0,k3,vs,rfl,h3,Q'⟩ (by unfold NN;dsimp only;have:=Q'.vlen;omega) (by
    rintro _ ⟨q,k',Zb,rfl,hd,YC⟩;have YS:=Q'.vlen;have Wf:=YC.vlen;unfold ke;delta dM;dsimp only
    (with_reducible refine dF (λZ'=>?_) λZ'=>?_)
    ·obtain⟨w,hw⟩:∃w,Zb[q]?=some w:=⟨_,oGE (by omega)⟩;have NC:=(YC.views w (dO hw)).len;rw[dL];simp only[oBS,show dI Zb q=some w from hw];refine Ok.bind (P:=λr=>∃(k':Int)(Zb:List DTs),r=((vs.length:Int),(q:Int),l,k',(),(),(),(),0,(),(),(),code,ss,dt,bs,key,cs,ls,ts,ck,rn,ins,d,os,us,ow,qs,rec,js,bs,key,cs,ls,ts,YU,Zb,())/\DOk l k'/\xF 1152 ss YU Zb) ?_ ?_
     ·refine Ok.loop (P:=λs'=>∃(o:Nat)(k':Int)(Zb:List DTs),s'=((q:Int),(vs.length:Int),(q:Int),(w.2.2.2.2.2.2.2.length:Int),(o:Int),l,k',(),(),(),(),0,(),(),(),code,ss,dt,bs,key,cs,ls,ts,ck,rn,ins,d,os,us,ow,qs,rec,js,bs,key,cs,ls,ts,YU,Zb,())/\DOk l k'/\xF 1152 ss YU Zb)
       (R:=λy=>∃Zb k' a b c,y=((q:Int),(vs.length:Int),(q:Int),a,b,c,l,k',(),(),(),(),0,(),(),(),code,ss,dt,bs,key,cs,ls,ts,ck,rn,ins,d,os,us,ow,qs,rec,js,bs,key,cs,ls,ts,YU,Zb,())/\xF 1152 ss YU Zb/\DOk l k') (m:=λs'=>(s'.2.2.2.1-s'.2.2.2.2.1).toNat) ⟨0,k',Zb,rfl,hd,YC⟩ (by unfold NN;dsimp only;omega) ?_ ?_
      ·rintro _ ⟨o,k',Zb,rfl,hd,YC⟩;have Wf:=YC.vlen;unfold mY;dsimp only
       (with_reducible refine dF (λZ3=>?_) λZ3=>?_)
       ·refine Ok.bind (P:=λr=>∃(k':Int)(Zb:List DTs),r=((q:Int),(vs.length:Int),(q:Int),(w.2.2.2.2.2.2.2.length:Int),(o:Int),l,k',(),(),(),(),0,(),(),(),code,ss,dt,bs,key,cs,ls,ts,ck,rn,ins,d,os,us,ow,qs,rec,js,bs,key,cs,ls,ts,YU,Zb,())/\DOk l k'/\xF 1152 ss YU Zb) ?_ ?_
        ·refine fh (n:=3) hd (by decide) (by decide) λu k4 u0 u1 h4=>?_;dsimp only
         (with_reducible refine dF (λhcc=>?_) λhcc=>?_)
         ·obtain⟨w',WS⟩:∃w',Zb[q]?=some w':=⟨_,oGE (by omega)⟩;have YT:=YC.views w' (dO WS);have R7:=YT.len;obtain⟨cc,hcc⟩:∃cc,w'.2.2.2.2.2.2.2[o]?=some cc:=⟨_,oGE (by omega)⟩;simp only[dL,oBS,show dI Zb q=some w' from WS];refine(D6 hp.sz h4).bind ?_;rintro _ ⟨t,v,rr,o',k5,rfl,Uu,h5⟩;dsimp only;simp only[show dI w'.2.2.2.2.2.2.2 o=some cc from hcc,oBS,eq WS,eq hcc];exact Ok.ret ⟨_,_,rfl,h5,YC.setView ⟨YT.state,YT.pc,YT.count,YT.handler,YT.saved,YT.trap,YT.code,by dsimp only;rw[List.length_set];exact R7,ii YT.regs Uu⟩⟩
         ·exact Ok.ret ⟨_,_,rfl,h4,YC⟩
        ·rintro _ ⟨k',Zb,rfl,hd,YC⟩;dsimp only;rw[dP (x:=(o:Int)+1) (by omega) (by omega)];exact Ok.ret ⟨⟨o+1,k',Zb,rfl,hd,YC⟩,by dsimp only;omega⟩
       ·exact Ok.ret ⟨_,_,_,_,_,rfl,YC,hd⟩
      ·rintro _ ⟨Zb,k',a,b,c,rfl,YC,hd⟩;dsimp only;refine fh (n:=4) hd (by decide) (by decide) λu k4 u0 u1 h4=>?_;dsimp only
       (with_reducible refine dF (λhcc=>?_) λhcc=>?_)
       ·refine fh (n:=5) h4 (by decide) (by decide) λu2 k5 PL NT h5=>?_;dsimp only;obtain⟨w',WS⟩:∃w',Zb[q]?=some w':=⟨_,oGE (by have:=YC.vlen;omega)⟩;have YT:=YC.views w' (dO WS);simp only[dL,oBS,show dI Zb q=some w' from WS,eq WS];exact Ok.ret ⟨_,_,rfl,h5,YC.setView ⟨⟨PL,by dsimp only;omega⟩,YT.pc,YT.count,YT.handler,YT.saved,YT.trap,YT.code,YT.len,YT.regs⟩⟩
       ·exact Ok.ret ⟨_,_,rfl,h4,YC⟩
     ·rintro _ ⟨k',Zb,rfl,hd,YC⟩;dsimp only;rw[dP (x:=(q:Int)+1) (by omega) (by omega)];exact Ok.ret ⟨⟨q+1,k',Zb,rfl,hd,YC⟩,by dsimp only;omega⟩
    ·exact Ok.ret ⟨_,_,_,_,rfl,YC,hd⟩)
  simp only[e,oBS];obtain⟨_,ei,Z4,rfl,Og,_⟩:=Hy (key:=key) hp hL Oi (by decide);simp only[ei,oBS,oCT];exact Ok.ret ⟨_,_,_,_,_,_,_,_,_,rfl,hp,X9,Og,h4⟩
 ·simp only[oBF hv,oCF];exact Ok.ret ⟨_,_,_,_,_,_,_,_,_,rfl,hp,X9,hM,h2⟩
def Hb:List CT->CT
 | []=>.nat
 | [t]=>t
 |t::u::r=>.pair t (Hb (u::r))
def p5:(l:List CT)->HL den l->den (Hb l)
 | [],_=>(0:Nat)
 | [_],h=>h.1
 |_::u::r,h=>(h.1,p5 (u::r) h.2)
def encL:(l:List CT)->HL den l->List TV
 | [],_=>[]
 |t::r,h=>enc t h.1++encL r h.2
theorem DZ:∀(l:List CT)(h:HL den l),enc (Hb l) (p5 l h)=encL l h
 | [],_=>rfl
 | [_],h=>(List.append_nil _).symm
 |_::u::r,h=>by
  show enc _ h.1++enc (Hb (u::r)) (p5 (u::r) h.2)=_;rw[DZ (u::r) h.2];rfl
def FJ:(c:CT)->den c->Prop
 |.int k,n=>(Lit.int k n).wf=true
 |.str,s=>ByteArray.size s<=maxLen
 |.row _ t,xs=>List.length xs<=maxLen/\∀x∈xs,FJ t x
 |.pair a b,x=>FJ a x.1/\FJ b x.2
 |_,_=>True
def GoodL:(l:List CT)->HL den l->Prop
 | [],_=>True
 |t::r,h=>FJ t h.1/\GoodL r h.2
theorem Bm:∀(l:List CT)(h:HL den l),GoodL l h->FJ (Hb l) (p5 l h)
 | [],_,_=>trivial
 | [_],_,g=>g.1
 |_::u::r,h,g=>⟨g.1,Bm (u::r) h.2 g.2⟩
def appL:(l m:List CT)->HL den l->HL den m->HL den (l++m)
 | [],_,_,k=>k
 |_::r,m,h,k=>(h.1,appL r m h.2 k)
theorem D0:∀(l m:List CT)(h:HL den l)(k:HL den m),encL (l++m) (appL l m h k)=encL l h++encL m k
 | [],_,_,_=>rfl
 |t::r,m,h,k=>by
  show enc t h.1++encL (r++m) (appL r m h.2 k)=(enc t h.1++encL r h.2)++_;rw[D0 r m h.2 k,List.append_assoc]
theorem DR:∀(l m:List CT)(h:HL den l)(k:HL den m),GoodL l h->GoodL m k->GoodL (l++m) (appL l m h k)
 | [],_,_,_,_,g=>g
 |_::r,m,h,k,g,g'=>⟨g.1,DR r m h.2 k g.2 g'⟩
def RelL(w:World):List TV->List Value->Prop
 | [],[]=>True
 |t::ts,v::vs=>mT w (λ_=>True) t v/\RelL w ts vs
 |_,_=>False
theorem RelL.app{w:World}:∀{a:List TV}{x:List Value}{b:List TV}{y:List Value},RelL w a x->RelL w b y->RelL w (a++b) (x++y)
 | [],[],_,_,_,h=>h
 |_::a,_::x,_,_,g,h=>⟨g.1,RelL.app (a:=a) (x:=x) g.2 h⟩
 | [],_::_,_,_,g,_=>g.elim
 |_::_,[],_,_,g,_=>g.elim
theorem RelL.len{w:World}:∀{a:List TV}{x:List Value},RelL w a x->a.length=x.length
 | [],[],_=>rfl
 |_::a,_::x,g=>by rw[oLC,oLC,RelL.len (a:=a) (x:=x) g.2]
 | [],_::_,g=>g.elim
 |_::_,[],g=>g.elim
theorem RelL.get{w:World}:∀{a:List TV}{x:List Value},RelL w a x->∀j (h:j<a.length)(h':j<x.length),mT w (λ_=>True) a[j] x[j]
 |_::_,_::_,g,0,_,_=>g.1
 |_::a,_::x,g,j+1,h,h'=>RelL.get (a:=a) (x:=x) g.2 j (by simpa using h) (by simpa using h')
 | [],_,_,_,h,_=>by simp at h
 |_::_,[],g,_,_,_=>g.elim
def LT(P:Program)(g:TypeId->Option (List CT)):Nat->List Field->Option (List CT)
 |_,[]=>some []
 |off,f::fs=>match g f.type with
  |some l=>if f.offset=off/\l.length=P.cellsOf f.type then(LT P g (off+l.length) fs).map (l++·)else none
  |none=>none
def ur(P:Program):Nat->TypeId->Option (List CT)
 |0,_=>none
 |n+1,t=>match P.underlying t with
  |some .bool=>some [.bool]
  |some (.int k)=>some [.int k]
  |some .string=>some [.str]
  |some (.slice e)=>match ur P n e with
   |some l=>if l.length=P.cellsOf e then some [.row false (Hb l)]else none
   |none=>none
  |some (.struct fs)=>match LT P (ur P n) 0 fs.toList with
   |some l=>if l.length=P.cellsOf t then some l else none
   |none=>none
  |_=>none
section
variable {H:Type} {ec:TypeId×Value->H} {P:Program} {w:World} {base:Nat} {spare:Nat->Bool} {held:Bool}
theorem Hw{g:TypeId->Option (List CT)}{m:Nat}{cs:List Value}
 (ih:∀t L,g t=some L->∀cs x,DataW.trod ec P w base spare held m t cs=some x->∃h:HL den L,GoodL L h/\RelL w (encL L h) cs):
 ∀(fs:List Field)(off:Nat)(L:List CT),LT P g off fs=some L->(∀f∈fs,∃x,DataW.trod ec P w base spare held m f.type ((cs.drop f.offset).take (P.cellsOf f.type))=some x)->
  ∃h:HL den L,GoodL L h/\RelL w (encL L h) ((cs.drop off).take L.length):=by
 intro fs
 induction fs with
 |nil=>
  intro off L hL _
  injection hL with hL
  subst hL;exact⟨(),trivial,trivial⟩
 |cons f fs Sg=>
  intro off L hL hx;unfold LT at hL;split at hL
  ·rename_i l hg;split at hL
   ·rename_i ho;obtain⟨rfl,hlen⟩:=ho
    cases hr:LT P g (f.offset+l.length) fs with
    |none=>simp_all
    |some L2=>
     rw[hr]at hL
     injection hL with hL
     subst hL;obtain⟨x,h1⟩:=hx f List.mem_cons_self;obtain⟨h,g1,r1⟩:=ih _ _ hg _ _ h1;have ⟨k,g2,r2⟩:=Sg _ _ hr λf' Sy=>hx f' (List.mem_cons_of_mem _ Sy);refine⟨appL l L2 h k,DR _ _ _ _ g1 g2,?_⟩;rw[D0,List.length_append,List.take_add,List.drop_drop];rw[hlen];rw[hlen]at r2;exact r1.app r2
   ·cases hL
  ·cases hL
theorem Md:∀(n:Nat)(t:TypeId)(L:List CT),ur P n t=some L->∀(VM:Nat)(cs:List Value)(x:DataW H×List MemPlace),DataW.trod ec P w base spare held VM t cs=some x ->
 ∃h:HL den L,GoodL L h/\RelL w (encL L h) cs:=by
 intro n
 induction n with
 |zero=>intro t L h;cases h
 |succ n ih=>
  intro t L hL VM cs x hx;unfold ur at hL;split at hL
  ·rename_i ht
   injection hL with hL
   subst hL;obtain⟨b,rfl,_⟩:=DataW.trod_bool ht hx;exact⟨(b,()),⟨trivial,trivial⟩,.v rfl,trivial⟩
  ·rename_i k ht
   injection hL with hL
   subst hL;obtain⟨z,rfl,_,hw⟩:=DataW.trod_int ht hx;exact⟨(z,()),⟨hw,trivial⟩,.v rfl,trivial⟩
  ·rename_i ht
   injection hL with hL
   subst hL;obtain⟨s,rfl,_,hs⟩:=DataW.trod_string ht hx;exact⟨(s,()),⟨hs,trivial⟩,.v rfl,trivial⟩
  ·rename_i e ht;split at hL
   ·rename_i l hl;split at hL
    ·rename_i hsz
     injection hL with hL
     subst hL
     rcases DataW.trod_slice ht hx with⟨rfl,_⟩|⟨a,len,cap,PT,rest,m,_,rfl,_,_,Ya,hmax,Y5,Z5,_,_⟩
     ·exact⟨([],()),⟨⟨Nat.zero_le _,λx hx=>by cases hx⟩,trivial⟩,.sl (c:=[]) 1 (λ_ _=>undef) (λi h=>by simp at h) (Nat.le_refl _) (Nat.zero_le _) (λ_=>rfl) (λi j h=>by simp at h) (λi j h=>by simp at h),trivial⟩
     ·have Q2:∀i:Fin len,∃p:HL den l×List Value,GoodL l p.1/\RelL w (encL l p.1) p.2/\w.cells? base (a.add (i.1*P.cellsOf e)) (P.cellsOf e)=some p.2:=by
       intro i;have h1:=Z5 i.1 i.2;rw[oGE (by omega)]at h1;obtain⟨Z4,h2,h3⟩:=Option.bind_eq_some_iff.1 h1;obtain⟨h,g,r⟩:=ih _ _ hl _ _ _ h3;exact⟨(h,Z4),g,r,h2⟩
      obtain⟨f,hf⟩:=Classical.axiomOfChoice Q2
      have clen:∀i,(encL l (f i).1).length=l.length:=λi=>by
       rw[(hf i).2.1.len,(World.cells?_some (hf i).2.2).2.1,hsz]
      have key:mT w (λ_=>True) (.sl ((List.ofFn λi:Fin len=>p5 l (f i).1).map (enc (Hb l)))) (.slice (some a) ((List.ofFn λi:Fin len=>p5 l (f i).1).map (enc (Hb l))).length cap):=by
       have el:((List.ofFn λi:Fin len=>p5 l (f i).1).map (enc (Hb l))).length=len:=by simp
       have eg:∀i (hi:i<((List.ofFn λi:Fin len=>p5 l (f i).1).map (enc (Hb l))).length),((List.ofFn λi:Fin len=>p5 l (f i).1).map (enc (Hb l)))[i]=encL l (f ⟨i,by omega⟩).1:=by
        intro i hi;simp[DZ]
       refine .sl l.length (λi j=>if h:i<len then(f ⟨i,h⟩).2.getD j undef else undef) (λi hi=>by rw[eg i hi,clen]) (by rw[el];exact Ya) hmax (λh=>by cases h) (λi j hi hj=>?_) (λi j hi hj=>?_)
       ·rw[el]at hi
        have cell:∀i' (Zl:i'<len) j',j'<l.length->w.cell? ((a.add (i'*l.length)).add j')=some ((f ⟨i',Zl⟩).2.getD j' undef):=by
         intro i' Zl j' ZQ;have h1:=World.cells?_some (hf ⟨i',Zl⟩).2.2;have h2:=h1.2.2 j' (by omega);rw[hsz];rw[h2]
         have:j'<(f ⟨i',Zl⟩).2.length:=by rw[h1.2.1];omega
         simp[this]
        have h0:=World.cell?_spot (cell 0 (by omega) 0 (by omega));obtain⟨b,o,spot⟩:=a
        have T0:spot=none:=by simpa[Addr.add]using h0
        subst T0;refine⟨b,o,rfl,trivial,?_⟩;have h2:=cell i hi j hj;rw[Go.WideShapes.add_plain,Go.WideShapes.add_plain]at h2;rw[dif_pos hi,<- h2,Nat.add_assoc]
       ·rw[el]at hi;have hr:=(hf ⟨i,hi⟩).2.1
        have Xo:j<(encL l (f ⟨i,hi⟩).1).length:=by rw[eg i (by omega)]at hj;exact hj
        have Uy:j<(f ⟨i,hi⟩).2.length:=by rw[<- hr.len];exact Xo
        have h3:=hr.get j Xo Uy
        simp_all
      rw[List.length_map,List.length_ofFn]at key;refine⟨(List.ofFn λi:Fin len=>p5 l (f i).1,()),⟨⟨by rw[List.length_ofFn];omega,λx hx=>?_⟩,trivial⟩,key,trivial⟩;obtain⟨i,rfl⟩:=List.mem_ofFn.1 hx;exact Bm _ _ (hf i).1
    ·cases hL
   ·cases hL
  ·rename_i fs ht;split at hL
   ·rename_i l hl;split at hL
    ·rename_i hsz
     injection hL with hL
     subst hL;obtain⟨xs,m,_,_,hlen,QC,hf⟩:=DataW.trod_struct ht hx
     obtain⟨h,g,r⟩:=Hw (cs:=cs) (m:=m) (λt L hL cs x hx=>ih t L hL m cs x hx) fs.toList 0 l hl (by
      intro f Oy;obtain⟨i,hi,rfl⟩:=List.mem_iff_getElem.1 Oy
      have U1:i<fs.size:=by simpa using hi
      have h1:=hf i fs[i] (by simp[U1]);rw[oGE (by omega)]at h1
      exact⟨_,by simpa using h1⟩)
     refine⟨h,g,?_⟩;rw[List.drop_zero,hsz,<- hlen,List.take_length]at r;exact r
    ·cases hL
   ·cases hL
  ·cases hL
theorem intake_arg(n:Nat){t:TypeId}{L:List CT}{v:Value}{d:DataW H}{p:List MemPlace}(hL:ur P n t=some L)(h:DataW.Trod ec P w base spare held t v d p):
 ∃h:HL den L,GoodL L h/\RelL w (encL L h) v.cells.toList:=by
 have ⟨VM,hf⟩:=h;exact Md n t L hL VM _ _ hf
end
theorem plain_one{w:World}{t:TV}{v:Value}(r:RelL w [t] [v]):Dc w t v:=r.1.plain
theorem Mf{h:den RI}(g:FJ RI h):(∀z∈(show List Int from h),Ke z)/\(show List Int from h).length<=maxLen:=⟨λz hz=>bounds_i64 (g.2 z hz),g.1⟩
theorem K4{bs ss:List Int}{key a:Int}(h:LV bs ss)(ha:W16 a):i7 bs key ss a=some (match FM bs ss a with|some (r,o)=>(r,o,true,())|none=>(0,0,false,())):=by
 obtain⟨hs,hl,hr⟩:=h;obtain⟨a0,a1⟩:=ha;have XG:=hs.2.1
 have Vh:∀(n k N:Nat),k+n=bs.length->n<N->dU eM N (ss,a,bs,(bs.length:Int),(k:Int),bs,key,0,0,())=some (match BM bs ss a n k with|some (r,o)=>.inl (true,r,o,())|none=>.inr (ss,a,bs,(bs.length:Int),(bs.length:Int),false,bs,key,0,0,())):=by
  intro n
  induction n with
  |zero=>
   intro k N hk hN;obtain⟨N,rfl⟩:∃M,N=M+1:=⟨N-1,by omega⟩
   obtain rfl:k=bs.length:=by omega
   have e:eM (ss,a,bs,(bs.length:Int),(bs.length:Int),bs,key,0,0,())=some (.inr (.inr (ss,a,bs,(bs.length:Int),(bs.length:Int),false,bs,key,0,0,()))):=by
    refine eJ ?_;unfold eM;dsimp only
    (with_reducible refine dF (λZ'=>?_) λZ'=>?_)
    ·omega
    ·exact Ok.ret rfl
   simp only[dU,e,oBS,BM]
  |succ n ih=>
   intro k N hk hN;obtain⟨N,rfl⟩:∃M,N=M+1:=⟨N-1,by omega⟩;obtain⟨b,hb⟩:∃b,bs[k]?=some b:=⟨_,oGE (by omega)⟩;obtain⟨z,hz⟩:∃z,ss[k]?=some z:=⟨_,oGE (by omega)⟩;have XJ:=hs.2.2 z (dO hz);have WJ:=hr k (by omega);unfold sx at WJ;rw[ee hb,ee hz]at WJ;by_cases hh:b<=a/\a<b+z
   ·have e:eM (ss,a,bs,(bs.length:Int),(k:Int),bs,key,0,0,())=some (.inr (.inl (true,(k:Int),a-b,()))):=by
     refine eJ ?_;unfold eM;delta dM;dsimp only;rw[oDT (show(k:Int)<bs.length by omega),oDT (show(k:Int)<ss.length by omega),dL];simp only[oCT,oBS,show dI bs k=some b from hb,show dI ss k=some z from hz];rw[oDT (show a>=b by omega),dP (x:=a-b) (by omega) (by omega),oDT (show a-b<z by omega)];simp only[oCT,oBS];rw[dP (x:=a-b) (by omega) (by omega)];exact Ok.ret rfl
    simp only[dU,e,oBS,BM,ee hb,ee hz,oIP hh]
   ·have e:eM (ss,a,bs,(bs.length:Int),(k:Int),bs,key,0,0,())=some (.inl (ss,a,bs,(bs.length:Int),((k+1:Nat):Int),bs,key,0,0,())):=by
     refine eJ ?_;unfold eM;delta dM;dsimp only;rw[oDT (show(k:Int)<bs.length by omega),oDT (show(k:Int)<ss.length by omega),dL];simp only[oCT,oBS,show dI bs k=some b from hb,show dI ss k=some z from hz];by_cases h1:a>=b
     ·rw[oDT h1,dP (x:=a-b) (by omega) (by omega),oDF (show ¬a-b<z by omega)];simp only[oCT,oCF,oBS];rw[dP (x:=(k:Int)+1) (by omega) (by omega)];exact Ok.ret rfl
     ·rw[oDF h1];simp only[oCF,oBS];rw[dP (x:=(k:Int)+1) (by omega) (by omega)];exact Ok.ret rfl
    simp only[dU,e,oBS,BM,ee hb,ee hz,oIN hh];exact ih (k+1) N (by omega) (by omega)
 unfold i7 FM;delta dM
 try dsimp only
 rw[show dU eM NN (ss,a,bs,(bs.length:Int),0,bs,key,0,0,())=_ from Vh bs.length 0 NN (by omega) (by unfold NN;omega)]
 cases BM bs ss a bs.length 0 with
 |some x=>rfl
 |none=>rfl
theorem Hm{K:Int->Prop}{bs ss:List Int}{key:Int}{c:DCe}(h:LV bs ss)(hc:mg K c):ky bs key ss c.1 c.2=some ((ou bs ss key c).1,(ou bs ss key c).2.1,(ou bs ss key c).2.2.1,(ou bs ss key c).2.2.2,()):=by
 have ⟨c0,c1,c2,c3,_⟩:=hc;unfold ky ou;rw[dT (by omega) (by omega)];dsimp only;rw[K4 h ⟨c2,c3⟩]
 rcases(show c.1=0\/c.1=1\/c.1=2 by omega)with e|e|e<;>rw[e]
 ·rfl
 ·simp
  cases FM bs ss c.2 with
  |some x=>rfl
  |none=>rfl
 ·rfl
theorem LU{K:Int->Prop}{cs:List DCe}{ls:List DLn}{a:Int}(h:jl K cs ls)(ha:0<=a/\a<512):nE cs ls a=some ((vW cs ls a).1,(vW cs ls a).2,true,()):=by
 obtain⟨a0,a1⟩:=ha;obtain⟨h1,h2,h3,h4,_⟩:=id h;unfold nE vW;delta dM;dsimp only;rw[oDF (show ¬a<0 by omega),oDF (show ¬a>=512 by omega),oDF (show ¬a>=(cs.length:Int) by omega)];simp only[oCF,oBS];rw[Int.tdiv_eq_ediv_of_nonneg a0,dP (x:=a/4) (by omega) (by omega)];rw[Int.tmod_eq_emod_of_nonneg (show 0<=a/4 by omega),Int.tmod_eq_emod_of_nonneg a0];obtain⟨i,hi⟩:∃i:Nat,a/4%4=i:=⟨(a/4%4).toNat,by omega⟩;rw[hi,dL,oTN];obtain⟨x,hx⟩:∃x,ls[i]?=some x:=⟨_,oGE (by omega)⟩;rw[oDT (show(i:Int)<ls.length by omega)];simp only[oCT,oBS,show dI ls i=some x from hx,hx];by_cases hq:x.1=a/4
 ·rcases h4 i x hx with⟨g,_,_⟩|⟨_,_,_,g4,g5⟩
  ·omega
  ·obtain⟨j,hj⟩:∃j:Nat,a%4=j:=⟨(a%4).toNat,by omega⟩;obtain⟨y,hy⟩:∃y,x.2.2[j]?=some y:=⟨_,oGE (by omega)⟩;rw[hj,oTN,oIP hq,getD_some hy,beq_iff_eq.2 hq,oDT (show(j:Int)<x.2.2.length by omega)];simp only[oCT,oBS,show dI ls i=some x from hx,dL];rw[Int.tmod_eq_emod_of_nonneg a0,hj,dL];simp only[oBS,show dI x.2.2 j=some y from hy]
 ·obtain⟨j,rfl⟩:∃j:Nat,a=j:=⟨a.toNat,by omega⟩;obtain⟨y,hy⟩:∃y,cs[j]?=some y:=⟨_,oGE (by omega)⟩;rw[oIN hq,oBF hq,oTN,getD_some hy];simp only[oCF,oBS,show dI cs j=some y from hy,dL]
theorem Lw{bs ss:List Int}{key:Int}{r:Nat}{o b z:Int}(h:LV bs ss)(hb:bs[r]?=some b)(hz:ss[r]?=some z)(o0:0<=o)(o1:o<z)(bz:b+z<=512)(b0:0<=b):i8 bs key ss (r:Int) o=some (b+o,0,()):=by
 have hr:=(oGS hz).1;have X6:=(oGS hb).1;unfold i8 lS;delta dM;dsimp only;rw[oDT (show(r:Int)>=0 by omega),oDT (show(r:Int)<ss.length by omega),oDT (show o>=0 by omega),oDF (show ¬(r:Int)>=bs.length by omega),dL];simp[show dI ss r=some z from hz,show dI bs r=some b from hb];rw[oDT o1,dP (by omega) (by omega)];rfl
theorem CS{K:Int->Prop}{bs ss:List Int}{key:Int}{cs:List DCe}{ls:List DLn}(h:LV bs ss)(hm:jl K cs ls):jK cs ls bs key ss=some (vV bs ss key cs ls,()):=by
 have XG:=h.1.2.1
 have e0:∀(r:Nat)(b z:Int),bs[r]?=some b->ss[r]?=some z->1<=z->z<=32->0<=b->b+z<=512->∀(a1 a2 a3:_)(out:List (List DCn)),dU fV NN (ss,(r:Int),a1,a2,a3,z,0,cs,ls,bs,key,out,[],())=some (ss,(r:Int),a1,a2,a3,z,z,false,cs,ls,bs,key,out,GI bs ss key cs ls r,()):=by
  intro r b z hb hz z1 VI b0 bz a1 a2 a3 out;obtain⟨n,rfl⟩:∃n:Nat,z=n:=⟨z.toNat,by omega⟩
  have e:GI bs ss key cs ls r=(List.range n).map (J2 bs ss key cs ls r):=by unfold GI;rw[ee hz,oTN]
  rw[e];refine l8 (f:=fV) (N:=NN) (st:=λo=>(ss,(r:Int),a1,a2,a3,(n:Int),(o:Int),cs,ls,bs,key,out,(List.range o).map (J2 bs ss key cs ls r),())) (n:=n) (by unfold NN;omega) ?_ ?_
  ·intro o ho;unfold fV;dsimp only;rw[oDT (show(o:Int)<n by omega),Lw h hb hz (by omega) (by omega) bz b0];simp only[oCT,oBS];have Vx:=(uB (a:=b+o) hm ⟨by omega,by omega⟩).2;rw[LU hm ⟨by omega,by omega⟩];simp only[oBS];rw[Hm h Vx];simp only[oBS];refine dG (dS (by simp;omega)) ?_;rw[dP (x:=(o:Int)+1) (by omega) (by omega)];refine Ok.ret ?_;rw[<- iK];unfold J2;rw[ee hb];rfl
  ·unfold fV;dsimp only;rw[oDF (show ¬(n:Int)<n by omega)];exact Ok.ret rfl
 have e1:dU fU NN (ss,ss,(ss.length:Int),0,cs,ls,bs,key,[],())=some (ss,ss,(ss.length:Int),(ss.length:Int),false,cs,ls,bs,key,vV bs ss key cs ls,()):=by
  refine l8 (f:=fU) (N:=NN) (st:=λr=>(ss,ss,(ss.length:Int),(r:Int),cs,ls,bs,key,(List.range r).map (GI bs ss key cs ls),())) (n:=ss.length) (by unfold NN;omega) ?_ ?_
  ·intro r hr;obtain⟨b,z,hb,hz,z1,VI,b0,bz⟩:=h.at_ hr;unfold fU;dsimp only;rw[oDT (show(r:Int)<ss.length by omega),dL];simp only[oCT,oBS,show dI ss r=some z from hz];rw[e0 r b z hb hz z1 VI b0 bz];refine dG (dS (by simp;omega)) ?_;rw[dP (x:=(r:Int)+1) (by omega) (by omega)];refine Ok.ret ?_;rw[<- iK];rfl
  ·unfold fU;dsimp only;rw[oDF (show ¬(ss.length:Int)<ss.length by omega)];exact Ok.ret rfl
 unfold jK;delta dM
 simp_all
theorem KN{a:List DCn}(h:a.length<=1000):ix a a=some (true,()):=by
 have e:dU f7 NN (a,a,(a.length:Int),0,())=some (.inr (a,a,(a.length:Int),(a.length:Int),false,())):=by
  refine l8 (st:=λk=>(a,a,(a.length:Int),(k:Int),())) (n:=a.length) (by unfold NN;omega) ?_ ?_
  ·intro k hk;unfold f7;dsimp only;rw[oDT (show(k:Int)<a.length by omega),dL];simp only[oCT,oBS,show dI a k=some a[k]from oGE hk,BEq.rfl,Bool.and_self,oNT,oCF];rw[dP (x:=(k:Int)+1) (by omega) (by omega)];exact Ok.ret rfl
  ·unfold f7;dsimp only;rw[oDF (show ¬(a.length:Int)<a.length by omega)];exact Ok.ret rfl
 unfold ix;delta dM;dsimp only;rw[e];simp only[bne_self_eq_false,oCF]
theorem GJ{R:List (List DCn)}(h1:R.length<=1000)(h2:∀x∈R,x.length<=1000):dU fC NN ((R.length:Int),0,R,R,())=some (.inr ((R.length:Int),(R.length:Int),false,R,R,())):=by
 refine l8 (st:=λk=>((R.length:Int),(k:Int),R,R,())) (n:=R.length) (by unfold NN;omega) ?_ ?_
 ·intro k hk;unfold fC;dsimp only;have hx:R[k]?=some R[k]:=oGE hk;rw[oDT (show(k:Int)<R.length by omega),dL];simp only[oCT,oBS,show dI R k=some R[k]from hx];rw[KN (h2 _ (List.getElem_mem hk))];simp only[oBS,oNT,oCF];rw[dP (x:=(k:Int)+1) (by omega) (by omega)];exact Ok.ret rfl
 ·unfold fC;dsimp only;rw[oDF (show ¬(R.length:Int)<R.length by omega)];exact Ok.ret rfl
theorem law05_regions{l:List Int}(hl:∀x∈l,Ke x)(hm:l.length<=maxLen):iB l=some (true,()):=by
 refine eJ ?_;unfold iB;refine(E3 (zO hl hm)).bind ?_;rintro _ ⟨code,ss,dt,bs,key,cs,ls,ts,k',rfl,hp,X9,hM,hd⟩;dsimp only;rw[CS hM.lay hM.mem,xj hM.lay hM.mem];simp only[oBS];have XG:=hM.lay.1.2.1
 have e:=GJ (R:=vV bs ss key cs ls) (by unfold vV;rw[List.length_map,List.length_range];omega) (λx hx=>by
  unfold vV at hx;obtain⟨r,hr,rfl⟩:=List.mem_map.1 hx;obtain⟨b,z,hb,hz,z1,VI,b0,bz⟩:=hM.lay.at_ (List.mem_range.1 hr);unfold GI;rw[List.length_map,List.length_range,ee hz]
  omega)
 delta dM
 try dsimp only
 rw[e];simp only[bne_self_eq_false,oCF];exact Ok.ret rfl
theorem law_CacheRegions{h0:HL den [RI]}(g0:GoodL _ h0):la.g (appL _ _ h0 ())=some (true,()):=
 law05_regions (Mf g0.1).1 (Mf g0.1).2
end Go.Proofs.YtilofbdgkiloiaaGreat
