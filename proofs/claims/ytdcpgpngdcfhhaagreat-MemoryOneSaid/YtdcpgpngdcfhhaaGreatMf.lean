/- Part of the proof; no condition. -/
import Derived.Test.YtdcpgpngdcfhhaaGreatMe
import Derived.Deep.Slices
set_option linter.unusedVariables false
set_option linter.unusedSimpArgs false
namespace Go.Proofs.YtdcpgpngdcfhhaaGreat
open Go.RowKit
def Pr(ss:List Int) (c:DCn):Prop:=
 ((c.1=0∨c.1=2)∧c.2.2.1=0∧c.2.2.2=0∧W16 c.2.1)∨(c.1=1∧c.2.1=0∧0≤c.2.2.1∧∃n,ss[c.2.2.1.toNat]?=some n∧0≤c.2.2.2∧c.2.2.2 < n)
theorem Cr{ss:List Int}{c:DCn}(hs:wA ss) (h:Pr ss c):ja c.1 c.2.1 c.2.2.1 c.2.2.2=some (true,()):=by
 refine Ok.eq ?_;unfold ja;rcases h with ⟨h1,h2,h3,_⟩ | ⟨h1,h2,h3,n,h4,h5,h6⟩
 ·rw[h2,h3]
  rcases h1 with h1 | h1<;>rw[h1]<;>exact Ok.ret rfl
 ·have hn:=hs.2.2 n (dK h4);have hl:=(oGS h4).1;have hs4:=hs.2.1;rw[h1,h2,show (c.2.2.1==-1)=false by rw[beq_eq_false_iff_ne];omega];refine Ok.cond (fun h=>by cases h) fun _=>Ok.cond (fun h=>by cases h) fun _=>Ok.need rfl ?_;refine Ok.cond (fun h=>by cases h) fun _=>Ok.need rfl ?_;exact Ok.need (decide_eq_true h3) (Ok.need (decide_eq_true (by omega)) (Ok.need (decide_eq_true h5) (Ok.ret (by rw[decide_eq_true (show c.2.2.2 < 32 by omega)]))))
theorem jf{ss:List Int}{l:List DCn}{n:Int}(hs:wA ss) (h:∀c∈l,Pr ss c) (hn:(l.length:Int)≤n) (hl:l.length≤1000):eW l n=some (true,()):=by
 have e:dO iQ NN (l,n,l,(l.length:Int),0,())=some (.inr (l,n,l,(l.length:Int),(l.length:Int),false,())):=by
  refine mt (st:=fun k=>(l,n,l,(l.length:Int),(k:Int),())) (n:=l.length) (by unfold NN;omega) ?_ ?_
  ·intro k hk;unfold iQ;dsimp only
   (with_reducible refine Ok.cb (fun hca=>?_) (fun hca=>?_))
   ·rw[dH];simp only[oBS];refine Ok.get (by omega) fun x hx=>?_;rw[Cr hs (h x (dK hx))];simp only[oBS,Bool.not_true,cond_false]
    (simp (disch:=omega) only [dL,dS,dP,dQ])
    exact Ok.ret rfl
   ·omega
  ·unfold iQ;dsimp only
   (with_reducible refine Ok.cb (fun hca=>?_) (fun hca=>?_))
   ·omega
   ·exact Ok.ret rfl
 refine Ok.eq ?_;unfold eW;delta dI
 try dsimp only
 rw[e];exact Ok.ret (congrArg (fun b=>(b,())) (decide_eq_true hn))
def LZ(d:List (List DCn)) (o:DOp):Prop:=(o.1=-1∧o.2.1=0∧o.2.2=false)∨(0≤o.1∧∃x,d[o.1.toNat]?=some x∧0≤o.2.1∧o.2.1≤x.length)
structure fe (ss:List Int) (d:List (List DCn)) (os:List DOp):Prop where
 dlen:d.length≤4
 flen:∀x∈d,x.length≤64
 cells:∀x∈d,∀c∈x,Pr ss c
 olen:os.length=8
 opens:∀o∈os,LZ d o
theorem xH{ss:List Int}{d:List (List DCn)}{os:List DOp}(hs:wA ss) (h:fe ss d os):jq d os=some (true,()):=by
 obtain⟨h1,h2,h3,h4,h5⟩:=h
 have e0:dO iP NN (d,(d.length:Int),0,d,os,())=some (.inr (d,(d.length:Int),(d.length:Int),false,d,os,())):=by
  refine mt (st:=fun k=>(d,(d.length:Int),(k:Int),d,os,())) (n:=d.length) (by unfold NN;omega) ?_ ?_
  ·intro k hk;unfold iP;dsimp only
   (with_reducible refine Ok.cb (fun hca=>?_) (fun hca=>?_))
   ·rw[dH];simp only[oBS];refine Ok.get (by omega) fun x hx=>?_;have:=h2 x (dK hx);rw[jf hs (h3 x (dK hx)) (by omega) (by omega)];simp only[oBS,Bool.not_true,cond_false]
    (simp (disch:=omega) only [dL,dS,dP,dQ])
    exact Ok.ret rfl
   ·omega
  ·unfold iP;dsimp only
   (with_reducible refine Ok.cb (fun hca=>?_) (fun hca=>?_))
   ·omega
   ·exact Ok.ret rfl
 have e2:dO kX NN (os,8,0,d,os,())=some (.inr (os,8,8,false,d,os,())):=by
  refine mt (st:=fun k=>(os,8,(k:Int),d,os,())) (n:=8) (by unfold NN;omega) ?_ ?_
  ·intro k hk;unfold kX;dsimp only
   (with_reducible refine Ok.cb (fun hca=>?_) (fun hca=>?_))
   ·rw[dH];simp only[oBS];refine Ok.get (by omega) fun x hx=>?_;obtain⟨f,o,w⟩:=x;refine Ok.bind (P:=(·=(os,8,(k:Int),false,d,os,f,o,w,()))) ?_ ?_
    ·rcases h5 _ (dK hx) with ⟨g1,g2,g3⟩ | ⟨g1,y,g2,g3,g4⟩
     ·have g1:f=-1:=g1;have g2:o=0:=g2;have g3:w=false:=g3;subst g1 g2 g3;dsimp only;refine Ok.need rfl (Ok.cond (fun h=>by cases h) fun _=>Ok.cond (fun h=>by cases h) fun _=>Ok.cond (fun h=>by cases h) fun _=>Ok.cond (fun h=>?_) fun _=>Ok.cond (fun h=>by cases h) fun _=>Ok.ret rfl);have h:(-1:Int)≥(d.length:Int):=of_decide_eq_true h;omega
     ·dsimp only at g1 g2 g3 g4 ⊢;have hl:=(oGS g2).1;rw[show (f==-1)=false by rw[beq_eq_false_iff_ne];omega,decide_eq_false (show ¬ f < -1 by omega)];simp only[cond_false];refine Ok.cond (fun h=>?_) fun _=>Ok.need (decide_eq_true g1) ?_
      ·have h:f≥(d.length:Int):=of_decide_eq_true h;omega
      ·rw[decide_eq_false (show ¬ o < 0 by omega)];simp only[cond_false];refine Ok.nat g1 fun j hj=>?_;refine Ok.get (by omega) fun z hz=>?_
       have hjj:j=f.toNat:=by omega
       subst hjj;rw[g2] at hz
       injection hz with hz
       subst hz;exact Ok.ret (by rw[decide_eq_false (show ¬ o > dI y.length from fun h=>by rw[dQ] at h;omega)])
    ·rintro _ rfl;dsimp only;simp only[cond_false]
     (simp (disch:=omega) only [dL,dS,dP,dQ])
     exact Ok.ret rfl
   ·omega
  ·exact Ok.ret rfl
 refine Ok.eq ?_;unfold jq;delta dI
 try dsimp only
 (with_reducible refine Ok.cb (fun hca=>?_) (fun hca=>?_))
 ·omega
 ·rw[h4];refine Ok.cond (fun h=>by cases h) fun _=>?_;rw[e0];dsimp only;rw[h4,show ((8:Nat):Int)=8 from rfl,e2];exact Ok.ret rfl
def MZ(ss:List Int) (i:Nat) (x:DOu):Prop:=x.1=i∧0≤x.2.1∧x.2.1 < 2∧x.2.2.length≤16∧∀c∈x.2.2,Pr ss c
structure wB (ss:List Int) (ck rn:List Int) (ins:List (List Int)) (d:List (List DCn)) (os:List DOp) (us:List DOu):Prop where
 clock:ck.length≤64∧∀w∈ck,W16 w
 rand:rn.length≤64∧∀w∈rn,W16 w
 ilen:ins.length≤2
 inp:∀x∈ins,x.length≤64∧∀w∈x,W16 w
 files:fe ss d os
 ulen:us.length≤200
 outs:∀(i:Nat) x,us[i]?=some x→MZ ss i x
theorem Ft{ss:List Int}{us:List DOu}(hl:us.length≤200) (h:∀(i:Nat) x,us[i]?=some x→MZ ss i x):jp us=some (true,()):=by
 have e:dO gQ NN (us,(us.length:Int),0,())=some (.inr (us,(us.length:Int),(us.length:Int),false,())):=by
  refine mt (st:=fun k=>(us,(us.length:Int),(k:Int),())) (n:=us.length) (by unfold NN;omega) ?_ ?_
  ·intro k hk;unfold gQ;dsimp only
   (with_reducible refine Ok.cb (fun hca=>?_) (fun hca=>?_))
   ·rw[dH];simp only[oBS];refine Ok.get (by omega) fun x hx=>?_;obtain⟨g1,g2,g3,g4,g5⟩:=h k x hx;rw[g1,decide_eq_false (show ¬ x.2.1 < 0 by omega),decide_eq_false (show ¬ x.2.1≥2 by omega)];simp only[bne_self_eq_false,cond_false,oBS];refine Ok.cond (fun h=>?_) fun _=>?_
    ·have h:(x.2.2.length:Int) > 16:=of_decide_eq_true h;omega
    ·(simp (disch:=omega) only [dL,dS,dP,dQ])
     exact Ok.ret rfl
   ·omega
  ·unfold gQ;dsimp only
   (with_reducible refine Ok.cb (fun hca=>?_) (fun hca=>?_))
   ·omega
   ·exact Ok.ret rfl
 refine Ok.eq ?_;unfold jp;delta dI
 try dsimp only
 rw[e];exact Ok.ret rfl
theorem su{ss ck rn:List Int}{ins:List (List Int)}{d:List (List DCn)}{os:List DOp}{us:List DOu}(hs:wA ss) (h:wB ss ck rn ins d os us):im ck rn ins d os us=some (true,()):=by
 have e0:dO iO NN (ins,(ins.length:Int),0,ck,rn,ins,d,os,us,())=some (.inr (ins,(ins.length:Int),(ins.length:Int),false,ck,rn,ins,d,os,us,())):=by
  refine mt (st:=fun k=>(ins,(ins.length:Int),(k:Int),ck,rn,ins,d,os,us,())) (n:=ins.length) (by unfold NN;have:=h.ilen;omega) ?_ ?_
  ·intro k hk;have hil:=h.ilen;unfold iO;dsimp only
   (with_reducible refine Ok.cb (fun hca=>?_) (fun hca=>?_))
   ·rw[dH];delta dI;simp only[oBS];refine Ok.get (by omega) fun x hx=>?_;have:=(h.inp x (dK hx)).1
    (with_reducible refine Ok.cb (fun hcb=>?_) (fun hcb=>?_))
    ·omega
    ·(simp (disch:=omega) only [dL,dS,dP,dQ])
     exact Ok.ret rfl
   ·omega
  ·unfold iO;dsimp only
   (with_reducible refine Ok.cb (fun hca=>?_) (fun hca=>?_))
   ·omega
   ·exact Ok.ret rfl
 have e1:dO iN NN (us,(us.length:Int),0,ck,rn,ins,d,os,us,())=some (.inr (us,(us.length:Int),(us.length:Int),false,ck,rn,ins,d,os,us,())):=by
  refine mt (st:=fun k=>(us,(us.length:Int),(k:Int),ck,rn,ins,d,os,us,())) (n:=us.length) (by unfold NN;have:=h.ulen;omega) ?_ ?_
  ·intro k hk;have hul:=h.ulen;unfold iN;dsimp only
   (with_reducible refine Ok.cb (fun hca=>?_) (fun hca=>?_))
   ·rw[dH];simp only[oBS];refine Ok.get (by omega) fun x hx=>?_;obtain⟨_,_,_,g4,g5⟩:=h.outs k x hx;rw[jf hs g5 (by omega) (by omega)];simp only[oBS,Bool.not_true,cond_false]
    (simp (disch:=omega) only [dL,dS,dP,dQ])
    exact Ok.ret rfl
   ·omega
  ·unfold iN;dsimp only
   (with_reducible refine Ok.cb (fun hca=>?_) (fun hca=>?_))
   ·omega
   ·exact Ok.ret rfl
 have c1:=h.clock.1;have c2:=h.rand.1;have c3:=h.ilen;have c4:=h.ulen;refine Ok.eq ?_;unfold im;delta dI
 try dsimp only
 rw[e0];dsimp only;rw[e1];dsimp only;refine Ok.need (decide_eq_true (show (ck.length:Int)≤64 by omega)) (Ok.need (decide_eq_true (show (rn.length:Int)≤64 by omega)) (Ok.need (decide_eq_true (show (ins.length:Int)≤2 by omega)) ?_));rw[xH hs h.files];simp only[oBS,cond_true];refine Ok.need (decide_eq_true (show (us.length:Int)≤200 by omega)) ?_;rw[Ft h.ulen h.outs];exact Ok.ret rfl
def n9:List DOp:=List.replicate 8 (-1,0,false)
theorem Jr(a:List (List Int)):dO qg NN (a,8,0,(),(),(),List.replicate 8 (0,(0,false)),())=some (a,8,8,false,(),(),(),n9,()):=by
 rfl
theorem Jw{ss:List Int}{a:List (List Int)}(hs:wA ss) (hl:a.length≤4) (h:∀x∈a,x.length≤64∧∀w∈x,W16 w):Ok (nJ a) fun r=>∃d,r=(d,n9,0,())∧fe ss d n9:=by
 unfold nJ;refine Ok.need (by decide) ?_;dsimp only;rw[show dI (List.replicate 8 ((0:Int),((0:Int),false))).length=8 from rfl,Jr];delta dI;simp only[oBS]
 refine Ok.loop (P:=fun s'=>∃k:Nat,∃d,s'=(a,(a.length:Int),(k:Int),(),(),d,n9,())∧k≤a.length∧d.length=k∧(∀x∈d,x.length≤64)∧∀x∈d,∀c∈x,Pr ss c)
  (R:=fun r=>∃e b c f d,r=(e,b,c,f,(),(),d,n9,())∧d.length≤4∧(∀x∈d,x.length≤64)∧∀x∈d,∀c∈x,Pr ss c) (m:=fun s'=>(s'.2.1 - s'.2.2.1).toNat) ⟨0,[],rfl,by omega,rfl,dX,dX⟩ (by unfold NN;dsimp only;omega) ?_ ?_
 ·rintro _ ⟨k,d,rfl,hk,hd1,hd2,hd3⟩;unfold qe;dsimp only
  (with_reducible refine Ok.cb (fun hca=>?_) (fun hca=>?_))
  ·rw[dH];delta dI;simp only[oBS];refine Ok.get (by omega) fun x hx=>?_;obtain⟨hx1,hx2⟩:=h x (dK hx)
   refine Ok.loop (P:=fun s'=>∃j:Nat,∃l,s'=(a,(a.length:Int),(k:Int),x,(x.length:Int),(j:Int),(),(),d,n9,l,())∧j≤x.length∧l.length=j∧∀c∈l,Pr ss c)
    (R:=fun r=>∃b c e f l,r=(a,(a.length:Int),(k:Int),b,c,e,f,(),(),d,n9,l,())∧l.length≤64∧∀c∈l,Pr ss c) (m:=fun s'=>(s'.2.2.2.2.1 - s'.2.2.2.2.2.1).toNat) ⟨0,[],rfl,by omega,rfl,dX⟩ (by unfold NN;dsimp only;omega) ?_ ?_
   ·rintro _ ⟨j,l,rfl,hj,hl1,hl2⟩;unfold qf;dsimp only
    (with_reducible refine Ok.cb (fun hcb=>?_) (fun hcb=>?_))
    ·rw[dH];simp only[oBS];refine Ok.get (by omega) fun v hv=>?_;refine Ok.need (dN (by simp;omega)) ?_
     (simp (disch:=omega) only [dL,dS,dP,dQ])
     exact Ok.ret ⟨⟨j+1,_,rfl,by omega,by rw[eJ,hl1];rfl,iA hl2 (all_cons (.inl ⟨.inl rfl,rfl,rfl,hx2 v (dK hv)⟩) dX)⟩,by dsimp only;omega⟩
    ·exact Ok.ret ⟨_,_,_,_,_,rfl,by omega,hl2⟩
   ·rintro _ ⟨b,c,e,f,l,rfl,hl1,hl2⟩;dsimp only;refine Ok.need (dN (by simp;omega)) ?_
    (simp (disch:=omega) only [dL,dS,dP,dQ])
    exact Ok.ret ⟨⟨k+1,_,rfl,by omega,by rw[eJ,hd1];rfl,iA hd2 (all_cons hl1 dX),iA hd3 (all_cons hl2 dX)⟩,by dsimp only;omega⟩
  ·exact Ok.ret ⟨_,_,_,_,_,rfl,by omega,hd2,hd3⟩
 ·rintro _ ⟨e,b,c,f,d,rfl,hd1,hd2,hd3⟩;have hf:fe ss d n9:=⟨hd1,hd2,hd3,rfl,fun o ho=>by rw[List.eq_of_mem_replicate ho];exact .inl ⟨rfl,rfl,rfl⟩⟩;dsimp only;rw[xH hs hf];simp only[oBS,Bool.not_true,cond_false];exact Ok.ret ⟨d,rfl,hf⟩
theorem vR{a:List (List Int)}(hl:a.length≤1000) (h:∀x∈a,x.length≤1000):ff a=some (a,()):=by
 have e:dO fb NN (a,(a.length:Int),0,[],())=some (a,(a.length:Int),(a.length:Int),false,a,()):=by
  have:=mt (f:=fb) (N:=NN) (st:=fun k=>(a,(a.length:Int),(k:Int),a.take k,())) (n:=a.length) (t:=(a,(a.length:Int),(a.length:Int),false,a,())) (by unfold NN;omega) ?_ ?_
  ·exact this
  ·intro k hk;unfold fb;dsimp only
   (with_reducible refine Ok.cb (fun hca=>?_) (fun hca=>?_))
   ·rw[dH];simp only[oBS];refine Ok.get (by omega) fun x hx=>?_;have:=h x (dK hx);refine Ok.need (dN (by omega)) (Ok.need (dN (by simp;omega)) ?_)
    (simp (disch:=omega) only [dL,dS,dP,dQ])
    refine Ok.ret ?_;rw[List.take_add_one,hx];rfl
   ·omega
  ·unfold fb;dsimp only
   (with_reducible refine Ok.cb (fun hca=>?_) (fun hca=>?_))
   ·omega
   ·rw[List.take_length];exact Ok.ret rfl
 refine Ok.eq ?_;unfold ff;delta dI
 try dsimp only
 rw[e];exact Ok.ret rfl
theorem Fs{ss l:List Int}{k:Int}(hs:wA ss) (h:DOk l k):Ok (kt l k) fun r=>∃ck rn ins d os k',r=(ck,rn,ins,d,os,(),l,k',())∧wB ss ck rn ins d os []∧DOk l k':=by
 unfold kt;refine (nB h (by decide)).bind ?_;rintro _ ⟨w1,k1,rfl,h1,g1,d1⟩;dsimp only;refine (nB d1 (by decide)).bind ?_;rintro _ ⟨w2,k2,rfl,h2,g2,d2⟩;dsimp only;refine (nB d2 (by decide)).bind ?_;rintro _ ⟨w3,k3,rfl,h3,g3,d3⟩;dsimp only;refine (nB d3 (by decide)).bind ?_;rintro _ ⟨w4,k4,rfl,h4,g4,d4⟩;dsimp only;refine (nB d4 (by decide)).bind ?_;rintro _ ⟨w5,k5,rfl,h5,g5,d5⟩;dsimp only;refine (nB d5 (by decide)).bind ?_;rintro _ ⟨w6,k6,rfl,h6,g6,d6⟩;dsimp only;refine Ok.bind (P:=fun r=>∃ck rn ins d os,r=(ck,rn,ins,d,os,(),0,())∧wB ss ck rn ins d os []) ?_ ?_
 ·unfold nI;refine (Jw (ss:=ss) (a:=[w1,w2]) hs (by simp) (all_cons ⟨by omega,g1⟩ (all_cons ⟨by omega,g2⟩ dX))).bind ?_;rintro _ ⟨d,rfl,hf⟩;dsimp only;refine Ok.cond (fun h=>by cases h) fun _=>?_;refine Ok.need (dN (by omega)) (Ok.need (dN (by omega)) ?_);have ho:wB ss w5 w6 [w3,w4] d n9 []:=⟨⟨by omega,g5⟩,⟨by omega,g6⟩,by simp,all_cons ⟨by omega,g3⟩ (all_cons ⟨by omega,g4⟩ dX),hf,by simp,fun i x hx=>by simp at hx⟩;rw[vR (by simp) (all_cons (by omega) (all_cons (by omega) dX))];simp only[oBS];rw[show List.append [] w5=w5 from rfl,show List.append [] w6=w6 from rfl,su hs ho];exact Ok.ret ⟨_,_,_,_,_,rfl,ho⟩
 ·rintro _ ⟨ck,rn,ins,d,os,rfl,ho⟩;exact Ok.ret ⟨_,_,_,_,_,_,rfl,ho,d6⟩
theorem Bq{ss:List Int}{r o n:Int}(h1:0≤r) (h2:ss[r.toNat]?=some n) (h3:0≤o) (h4:o < n):fa ss r o=some (true,()):=by
 refine Ok.eq ?_;have hl:=(oGS h2).1;unfold fa;refine Ok.need (decide_eq_true h1) (Ok.need (decide_eq_true (show r < (ss.length:Int) by omega)) (Ok.need (decide_eq_true h3) ?_));obtain⟨j,rfl⟩:∃j:Nat,r=j:=⟨r.toNat,by omega⟩;rw[dH];simp only[oBS];rw[show dF ss j=some n from h2];simp only[oBS];exact Ok.ret (by rw[decide_eq_true h4])
theorem md{ss:List Int}{c:DCn}(h:Pr ss c):fW ss c.1 c.2.1 c.2.2.1 c.2.2.2=some (true,()):=by
 refine Ok.eq ?_;unfold fW;rcases h with ⟨h1,h2,h3,_⟩ | ⟨h1,h2,h3,n,h4,h5,h6⟩
 ·rw[h2,h3]
  rcases h1 with h1 | h1<;>rw[h1]<;>exact Ok.ret rfl
 ·rw[h1,h2,Bq h3 h4 h5 h6];exact Ok.ret rfl
theorem CQ{ss:List Int}{d:List (List DCn)}{os:List DOp}(h:fe ss d os):kf ss d os=some (true,()):=by
 obtain⟨h1,h2,h3,h4,h5⟩:=h
 have e0:dO ii NN (ss,d,(d.length:Int),0,d,os,())=some (.inr (ss,d,(d.length:Int),(d.length:Int),false,d,os,())):=by
  refine mt (st:=fun k=>(ss,d,(d.length:Int),(k:Int),d,os,())) (n:=d.length) (by unfold NN;omega) ?_ ?_
  ·intro k hk;unfold ii;dsimp only
   (with_reducible refine Ok.cb (fun hca=>?_) (fun hca=>?_))
   ·rw[dH];delta dI;simp only[oBS];refine Ok.get (by omega) fun x hx=>?_;have hx1:=h2 x (dK hx)
    have e:dO ij NN (ss,d,(d.length:Int),(k:Int),x,(x.length:Int),0,d,os,())=some (.inr (ss,d,(d.length:Int),(k:Int),x,(x.length:Int),(x.length:Int),false,d,os,())):=by
     refine mt (st:=fun j=>(ss,d,(d.length:Int),(k:Int),x,(x.length:Int),(j:Int),d,os,())) (n:=x.length) (by unfold NN;omega) ?_ ?_
     ·intro j hj;unfold ij;dsimp only
      (with_reducible refine Ok.cb (fun hca=>?_) (fun hca=>?_))
      ·rw[dH];simp only[oBS];refine Ok.get (by omega) fun y hy=>?_;rw[md (h3 x (dK hx) y (dK hy))];simp only[oBS,Bool.not_true,cond_false]
       (simp (disch:=omega) only [dL,dS,dP,dQ])
       exact Ok.ret rfl
      ·omega
     ·unfold ij;dsimp only
      (with_reducible refine Ok.cb (fun hca=>?_) (fun hca=>?_))
      ·omega
      ·exact Ok.ret rfl
    rw[e];dsimp only
    (simp (disch:=omega) only [dL,dS,dP,dQ])
    exact Ok.ret rfl
   ·omega
  ·unfold ii;dsimp only
   (with_reducible refine Ok.cb (fun hca=>?_) (fun hca=>?_))
   ·omega
   ·exact Ok.ret rfl
 refine Ok.eq ?_;unfold kf;delta dI
 try dsimp only
 rw[e0];exact Ok.ret rfl
theorem copy17_ok{d:List (List DCn)}{os:List DOp}(h1:d.length≤1000) (h2:∀x∈d,x.length≤1000) (h3:os.length≤1000):fv d os=some (d,os,()):=by
 have e:dO gX NN (d,(d.length:Int),0,d,os,(),(),[],os,())=some (d,(d.length:Int),(d.length:Int),false,d,os,(),(),d,os,()):=by
  have:=mt (f:=gX) (N:=NN) (st:=fun k=>(d,(d.length:Int),(k:Int),d,os,(),(),d.take k,os,())) (n:=d.length) (t:=(d,(d.length:Int),(d.length:Int),false,d,os,(),(),d,os,())) (by unfold NN;omega) ?_ ?_
  ·exact this
  ·intro k hk;unfold gX;dsimp only
   (with_reducible refine Ok.cb (fun hca=>?_) (fun hca=>?_))
   ·rw[dH];simp only[oBS];refine Ok.get (by omega) fun x hx=>?_;have:=h2 x (dK hx);refine Ok.need (dN (by omega)) (Ok.need (dN (by simp;omega)) ?_)
    (simp (disch:=omega) only [dL,dS,dP,dQ])
    refine Ok.ret ?_;rw[List.take_add_one,hx];rfl
   ·omega
  ·unfold gX;dsimp only
   (with_reducible refine Ok.cb (fun hca=>?_) (fun hca=>?_))
   ·omega
   ·rw[List.take_length];exact Ok.ret rfl
 refine Ok.eq ?_;unfold fv;refine Ok.need (dN (by omega)) ?_;rw[show List.append [] os=os from rfl];delta dI
 try dsimp only
 rw[e];exact Ok.ret rfl
theorem Ck{us:List DOu}(h1:us.length≤1000) (h2:∀x∈us,x.2.2.length≤1000):i7 us=some (us,()):=by
 have e:dO gW NN (us,(us.length:Int),0,[],())=some (us,(us.length:Int),(us.length:Int),false,us,()):=by
  have:=mt (f:=gW) (N:=NN) (st:=fun k=>(us,(us.length:Int),(k:Int),us.take k,())) (n:=us.length) (t:=(us,(us.length:Int),(us.length:Int),false,us,())) (by unfold NN;omega) ?_ ?_
  ·exact this
  ·intro k hk;unfold gW;dsimp only
   (with_reducible refine Ok.cb (fun hca=>?_) (fun hca=>?_))
   ·rw[dH];simp only[oBS];refine Ok.get (by omega) fun x hx=>?_;have:=h2 x (dK hx);refine Ok.need (dN (by omega)) (Ok.need (dN (by simp;omega)) ?_)
    (simp (disch:=omega) only [dL,dS,dP,dQ])
    refine Ok.ret ?_;rw[List.take_add_one,hx];rfl
   ·omega
  ·unfold gW;dsimp only
   (with_reducible refine Ok.cb (fun hca=>?_) (fun hca=>?_))
   ·omega
   ·rw[List.take_length];exact Ok.ret rfl
 refine Ok.eq ?_;unfold i7;delta dI
 try dsimp only
 rw[e];exact Ok.ret rfl
theorem Cj{ss ck rn:List Int}{ins:List (List Int)}{d:List (List DCn)}{os:List DOp}{us:List DOu}(h:wB ss ck rn ins d os us):kH ck rn ins d os us=some (ck,rn,ins,d,os,us,()):=by
 have h1:=h.clock.1;have h2:=h.rand.1;have h3:=h.ilen;have h4:=h.ulen;have h5:=h.files.olen;have h6:=h.files.dlen;refine Ok.eq ?_;unfold kH;refine Ok.need (dN (by omega)) (Ok.need (dN (by omega)) ?_)
 rw[vR (by omega) (fun x hx=>by have:=(h.inp x hx).1;omega),copy17_ok (by omega) (fun x hx=>by have:=h.files.flen x hx;omega) (by omega),Ck (by omega) (fun x hx=>by
  obtain⟨i,hi⟩:=List.getElem?_of_mem hx;have:=(h.outs i x hi).2.2.2.1
  omega)]
 exact Ok.ret rfl
theorem HG:qJ=some ([-1,-1,-1,-1],[[],[],[],[]],()):=by kernel_rfl
structure ie (ow:List Int) (qs:List (List Int)):Prop where
 olen:ow.length=4
 qlen:qs.length=4
 owner:∀o∈ow,-1≤o∧o≤3
 queue:∀q∈qs,q.Nodup∧∀t∈q,0≤t∧t≤3
theorem Hy:∀{n:Nat}{q:List Int},q.Nodup→(∀t∈q,0≤t∧t < n)→q.length≤n:=by
 intro n
 induction n with
 | zero=>
  intro q _ h
  cases q with
  | nil=>simp
  | cons x q=>have:=h x (by simp);omega
 | succ n ih=>
  intro q hq h;have h1:(q.erase (n:Int)).Nodup:=hq.erase _
  have h2:∀t∈q.erase (n:Int),0≤t∧t < n:=fun t ht=>by
   have hm:=(hq.mem_erase_iff).1 ht;have:=h t hm.2;have:=hm.1;omega
  have h3:=ih h1 h2;have h4:=List.length_erase (a:=(n:Int)) (l:=q);split at h4<;>omega
theorem ie.qlen4{ow:List Int}{qs:List (List Int)}(h:ie ow qs) {q:List Int}(hq:q∈qs):q.length≤4:=Hy (h.queue q hq).1 fun t ht=>by have:=(h.queue q hq).2 t ht;omega
theorem Mr:ie [-1,-1,-1,-1] [[],[],[],[]]:=⟨rfl,rfl,by decide,by decide⟩
theorem J5{code:List DIn}{ss bs:List Int}{dt:List (List Int)}{key:Int}{ck rn:List Int}{ins:List (List Int)}{d:List (List DCn)}{os:List DOp}{us:List DOu}(hp:jW code ss dt) (hl:LV bs ss) (ho:wB ss ck rn ins d os us) :
 Ok (lc code ss dt bs key ck rn ins d os us) fun r=>∃cs ts,r=(code,ss,dt,bs,key,cs,eK,ts,ck,rn,ins,d,os,us,[-1,-1,-1,-1],[[],[],[],[]],(),[-1,-1,-1,-1],0,())∧MOk 0 ss bs cs eK ts:=by
 unfold lc;refine (IL hp hl).bind ?_;rintro _ ⟨cs,ts,rfl,hm⟩;dsimp only;rw[su hp.sz ho,CQ ho.files,Cj ho,HG];simp only[oBS,Bool.not_true,cond_false,bne_self_eq_false]
 have e:dO ou NN (0,(),(),(),(),0,(),(),(),(),(),(),(),(),(),(),(),(),(),code,ss,dt,bs,key,cs,eK,ts,ck,rn,ins,d,os,us,[-1,-1,-1,-1],[[],[],[],[]],(),[],())
  = some (4,false,(),(),(),(),0,(),(),(),(),(),(),(),(),(),(),(),(),(),code,ss,dt,bs,key,cs,eK,ts,ck,rn,ins,d,os,us,[-1,-1,-1,-1],[[],[],[],[]],(),[-1,-1,-1,-1],()):=rfl
 rw[e];exact Ok.ret ⟨cs,ts,rfl,hm⟩
theorem MN.len{K:Int→Prop}{i:Nat}{x:DLn}(h:MN K i x):x.2.2.length≤4:=by
 rcases h with ⟨_,_,h⟩ | ⟨_,_,_,h,_⟩
 ·rw[h];simp
 ·omega
theorem Cl{K:Int→Prop}{cs:List DCe}{ls:List DLn}(h:i6 K cs ls):kO cs ls=some (cs,ls,()):=by
 obtain⟨h1,h2,h3,h4,_⟩:=h
 have e:dO hY NN (ls,(ls.length:Int),0,cs,ls,(),(),cs,[],())=some (ls,(ls.length:Int),(ls.length:Int),false,cs,ls,(),(),cs,ls,()):=by
  have:=mt (f:=hY) (N:=NN) (st:=fun k=>(ls,(ls.length:Int),(k:Int),cs,ls,(),(),cs,ls.take k,())) (n:=ls.length) (t:=(ls,(ls.length:Int),(ls.length:Int),false,cs,ls,(),(),cs,ls,())) (by unfold NN;omega) ?_ ?_
  ·exact this
  ·intro k hk;unfold hY;dsimp only
   (with_reducible refine Ok.cb (fun hca=>?_) (fun hca=>?_))
   ·rw[dH];simp only[oBS];refine Ok.get (by omega) fun x hx=>?_;have:=(h4 k x hx).len;refine Ok.need (dN (by omega)) (Ok.need (dN (by simp;omega)) ?_)
    (simp (disch:=omega) only [dL,dS,dP,dQ])
    refine Ok.ret ?_;rw[List.take_add_one,hx];rfl
   ·omega
  ·unfold hY;dsimp only
   (with_reducible refine Ok.cb (fun hca=>?_) (fun hca=>?_))
   ·omega
   ·rw[List.take_length];exact Ok.ret rfl
 refine Ok.eq ?_;unfold kO;refine Ok.need (dN (by omega)) ?_;rw[show List.append [] cs=cs from rfl];delta dI
 try dsimp only
 rw[e];exact Ok.ret rfl
theorem pa{n key:Int}{ss bs:List Int}{cs:List DCe}{ls:List DLn}{ts:List DTh}(h:MOk n ss bs cs ls ts):g9 bs key cs ls ts=some (bs,key,cs,ls,ts,()):=by
 obtain⟨h1,h2,h3,h4⟩:=h;have hb:=h1.2.1;have hs4:=h1.1.2.1
 have e:dO g8 NN (ts,(ts.length:Int),0,bs,key,cs,ls,ts,(),0,(),(),(),bs,key,cs,ls,[],())=some (ts,(ts.length:Int),(ts.length:Int),false,bs,key,cs,ls,ts,(),0,(),(),(),bs,key,cs,ls,ts,()):=by
  have:=mt (f:=g8) (N:=NN) (st:=fun k=>(ts,(ts.length:Int),(k:Int),bs,key,cs,ls,ts,(),0,(),(),(),bs,key,cs,ls,ts.take k,())) (n:=ts.length) (t:=(ts,(ts.length:Int),(ts.length:Int),false,bs,key,cs,ls,ts,(),0,(),(),(),bs,key,cs,ls,ts,())) (by unfold NN;omega) ?_ ?_
  ·exact this
  ·intro k hk;unfold g8;dsimp only
   (with_reducible refine Ok.cb (fun hca=>?_) (fun hca=>?_))
   ·rw[dH];simp only[oBS];refine Ok.get (by omega) fun x hx=>?_;have:=(h4 x (dK hx)).len;refine Ok.need (dN (by omega)) (Ok.need (dN (by simp;omega)) ?_)
    (simp (disch:=omega) only [dL,dS,dP,dQ])
    refine Ok.ret ?_;rw[List.take_add_one,hx];rfl
   ·omega
  ·unfold g8;dsimp only
   (with_reducible refine Ok.cb (fun hca=>?_) (fun hca=>?_))
   ·omega
   ·rw[List.take_length];exact Ok.ret rfl
 refine Ok.eq ?_;unfold g9;refine Ok.need (dN (by omega)) ?_;rw[Cl h2,show List.append [] bs=bs from rfl];delta dI;simp only[oBS];rw[e];exact Ok.ret rfl
theorem pV{α:Type}{l:List α}{i:Nat}{f:α→α}{a:α}(h:l[i]?=some a):(List.modify l i f)[i]?=some (f a):=by rw[List.getElem?_modify,h];simp
theorem is{α:Type}(l:List α) (i:Nat) (f g:α→α):List.modify (List.modify l i f) i g=List.modify l i fun a=>g (f a):=by
 apply List.ext_getElem?;intro j;simp only[List.getElem?_modify];by_cases h:i=j
 ·simp only[h,if_true];cases l[j]?<;>rfl
 ·simp[h]
theorem MOk.thread{n:Int}{ss bs:List Int}{cs:List DCe}{ls:List DLn}{ts:List DTh}(h:MOk n ss bs cs ls ts) {i:Nat}{t:DTh}{f:DTh→DTh}(ht:ts[i]?=some t) (hf:wz (RK bs ss) n (f t)):MOk n ss bs cs ls (List.modify ts i f):=by
 refine⟨h.lay,h.mem,by rw[List.length_modify];exact h.tlen,fun x hx=>?_⟩;obtain⟨j,hj⟩:=List.getElem?_of_mem hx;rw[List.getElem?_modify] at hj;by_cases hij:i=j
 ·subst hij;rw[ht] at hj
  have hj:f t=x:=by simpa using hj
  rw[← hj];exact hf
 ·simp only[hij,if_false] at hj
  have:ts[j]?=some x:=by simpa using hj
  exact h.thr x (dK this)
theorem Ku{n key:Int}{ss bs:List Int}{cs:List DCe}{ls:List DLn}{ts:List DTh}(h:MOk n ss bs cs ls ts) (i:Int):Ok (lX bs key cs ls ts i) fun r=>r.1=true→0≤i∧i < 4∧∀t,ts[i.toNat]?=some t→t.2.2.2.2.1≠-1:=by
 unfold lX;delta dI
 try dsimp only
 have:=h.tlen
 (with_reducible refine Ok.cb (fun hca=>?_) (fun hca=>?_))
 ·exact Ok.ret (fun h=>by cases h)
 ·(with_reducible refine Ok.cb (fun hcb=>?_) (fun hcb=>?_))
  ·exact Ok.ret (fun h=>by cases h)
  ·refine Ok.nat (by omega) fun j hj=>?_;refine Ok.get (by omega) fun t ht=>?_;subst hj
   (with_reducible refine Ok.cb (fun hcc=>?_) (fun hcc=>?_))
   ·(with_reducible refine Ok.cb (fun hcd=>?_) (fun hcd=>?_))
    ·exact Ok.ret (fun _=>⟨by omega,by omega,fun t' ht'=>by
      rw[Int.toNat_natCast,ht] at ht'
      injection ht' with ht'
      rw[← ht']
      exact hcd⟩)
    ·exact Ok.ret (fun h=>by cases h)
   ·exact Ok.ret (fun h=>by cases h)
theorem FU{n key:Int}{ss bs:List Int}{cs:List DCe}{ls:List DLn}{ts:List DTh}(h:MOk n ss bs cs ls ts) (i:Int):Ok (jt bs key cs ls ts i) fun r=>∃ts' b,r=(bs,key,cs,ls,ts',b,())∧MOk n ss bs cs ls ts':=by
 unfold jt;rw[pa h];simp only[oBS];refine (Ku h i).bind ?_;rintro⟨b,_⟩ hb;dsimp only at hb ⊢
 (with_reducible refine Ok.cb (fun hca=>?_) (fun hca=>?_))
 ·exact Ok.ret ⟨ts,false,rfl,h⟩
 ·have hb:=hb hca;have htl:=h.tlen;obtain⟨hb1,hb2,hb3⟩:=hb;refine Ok.nat hb1 fun j hj=>?_;subst hj;refine Ok.get (by omega) fun t ht=>?_;refine Ok.get (by omega) fun t1 ht1=>?_;refine Ok.get (by omega) fun t2 ht2=>?_;refine Ok.get (by omega) fun t3 ht3=>?_;rw[ht] at ht1 ht2 ht3
  injection ht1 with ht1
  injection ht2 with ht2
  subst ht1 ht2;refine Ok.get (by rw[List.length_modify];omega) fun t4 ht4=>?_;have hne:=hb3 t (by rw[Int.toNat_natCast];exact ht);have hok:=h.thr t (dK ht);rw[is];exact Ok.ret ⟨_,_,rfl,h.thread ht ⟨hok.state,hok.len,hok.regs,⟨by have:=hok.handler;dsimp only;omega,hok.handler.2⟩,hok.count,hok.handler,⟨by have:=hok.pc;dsimp only;omega,hok.pc.2⟩,hok.trap,hok.code⟩⟩
theorem KG{n why:Int}{ts:List DTh}{i:Nat}{t:DTh}(ht:ts[i]?=some t):eQ i why ts=some (2,List.modify ts i fun t=>(4,t.2.1,t.2.2.1,t.2.2.2.1,t.2.2.2.2.1,t.2.2.2.2.2.1,why,0),()):=by
 refine Ok.eq ?_;have hl:=(oGS ht).1;unfold eQ;refine Ok.get hl fun _ _=>?_;refine Ok.get (by rw[List.length_modify];exact hl) fun _ _=>?_;refine Ok.get (by rw[List.length_modify,List.length_modify];exact hl) fun _ _=>?_;rw[is,is];exact Ok.ret rfl
theorem wz.ended{K:Int→Prop}{n why:Int}{t:DTh}(h:wz K n t) (hw:0≤why∧why≤6):wz K n (4,t.2.1,t.2.2.1,t.2.2.2.1,t.2.2.2.2.1,t.2.2.2.2.2.1,why,0):=
 ⟨⟨by dsimp only;omega,by dsimp only;omega⟩,h.len,h.regs,h.pc,h.count,h.handler,h.saved,hw,⟨by dsimp only;omega,by dsimp only;omega⟩⟩
theorem sM{ss bs:List Int}{key a:Int}(h:LV bs ss) (ha:0≤a∧a≤65535):Ok (eO bs key ss a) fun r=>(r.2.2.1=true→∃b n,0≤r.1∧bs[r.1.toNat]?=some b∧ss[r.1.toNat]?=some n∧0≤r.2.1∧r.2.1 < n∧a=b+r.2.1):=by
 obtain⟨hs,hl,hr⟩:=h;have hs4:=hs.2.1;unfold eO;delta dI
 try dsimp only
 obtain⟨t,e,ht⟩:=Ok.iter (f:=eu) (n:=NN) (s:=(ss,a,bs,(bs.length:Int),0,bs,key,0,0,())) (P:=fun s'=>∃k:Nat,s'=(ss,a,bs,(bs.length:Int),(k:Int),bs,key,0,0,())∧k≤bs.length)
  (R:=fun r=>(∃x y,r=.inl (true,x,y,())∧∃b n,0≤x∧bs[x.toNat]?=some b∧ss[x.toNat]?=some n∧0≤y∧y < n∧a=b+y)∨∃z,r=.inr z) (m:=fun s'=>(s'.2.2.2.1 - s'.2.2.2.2.1).toNat) ⟨0,rfl,by omega⟩ (by unfold NN;dsimp only;omega) (by
   rintro _ ⟨k,rfl,hk⟩;unfold eu;dsimp only
   (with_reducible refine Ok.cb (fun hca=>?_) (fun hca=>?_))
   ·rw[dH];simp only[oBS];obtain⟨b,hb⟩:∃b,bs[k]?=some b:=⟨_,oGE (by omega)⟩;obtain⟨y,hy⟩:∃y,ss[k]?=some y:=⟨_,oGE (by omega)⟩;have hy2:=hs.2.2 y (dK hy);have hrk:=hr k (by omega);unfold uv at hrk;rw[ej hb,ej hy] at hrk;rw[show dF bs k=some b from hb];simp only[oBS];rw[show dF ss k=some y from hy];simp only[oBS];rw[dL (x:=b+y) (by omega) (by omega)];by_cases h1:a≥b
    ·by_cases h2:a < b+y
     ·simp only[h1,h2,decide_true,cond_true];rw[dL (x:=a - b) (by omega) (by omega)];exact Ok.ret (.inl ⟨_,_,rfl,b,y,by omega,by rw[Int.toNat_natCast];exact hb,by rw[Int.toNat_natCast];exact hy,by omega,by omega,by omega⟩)
     ·simp only[h1,h2,decide_true,decide_false,cond_true,cond_false]
      (simp (disch:=omega) only [dL,dS,dP,dQ])
      exact Ok.ret ⟨⟨k+1,rfl,by omega⟩,by dsimp only;omega⟩
    ·simp only[h1,decide_false,cond_false]
     (simp (disch:=omega) only [dL,dS,dP,dQ])
     exact Ok.ret ⟨⟨k+1,rfl,by omega⟩,by dsimp only;omega⟩
   ·exact Ok.ret (.inr ⟨_,rfl⟩))
 rw[e];rcases ht with ⟨x,y,rfl,hxy⟩ | ⟨z,rfl⟩
 ·exact Ok.ret fun _=>hxy
 ·exact Ok.ret fun h=>by cases h
theorem yc{ss:List Int}{r o:Int}:Ok (fa ss r o) fun x=>x.1=true→0≤r∧0≤o∧∃n,ss[r.toNat]?=some n∧o < n:=by
 unfold fa;delta dI
 try dsimp only
 (with_reducible refine Ok.cb (fun hca=>?_) (fun hca=>?_))
 ·(with_reducible refine Ok.cb (fun hcb=>?_) (fun hcb=>?_))
  ·(with_reducible refine Ok.cb (fun hcc=>?_) (fun hcc=>?_))
   ·refine Ok.nat (by omega) fun j hj=>?_;refine Ok.get (by omega) fun n hn=>?_;subst hj;exact Ok.ret fun h=>⟨by omega,by omega,n,by rw[Int.toNat_natCast];exact hn,of_decide_eq_true h⟩
   ·exact Ok.ret fun h=>by cases h
  ·exact Ok.ret fun h=>by cases h
 ·exact Ok.ret fun h=>by cases h
theorem u9{ss bs:List Int}{key tag v n:Int}{back:Bool}(h:LV bs ss) (hv:W16 v) (hn:W16 n):Ok (fc bs key ss tag v n back) fun r=>∃t x e,r=(t,x,e,())∧mw (RK bs ss) (t,x)∧0≤e∧e≤6∧(e=0→x < 512):=by
 have hz:∀e:Int,0 < e→e≤6→∃t x e',((0:Int),(0:Int),e,())=(t,x,e',())∧mw (RK bs ss) (t,x)∧0≤e'∧e'≤6∧(e'=0→x < 512):=fun e h1 h2=>⟨0,0,e,rfl,kT (by decide),by omega,h2,by omega⟩;obtain⟨v0,v1⟩:=hv;obtain⟨n0,n1⟩:=hn;unfold fc
 (with_reducible refine Ok.cb (fun hca=>?_) (fun hca=>?_))
 ·exact Ok.ret (hz 3 (by decide) (by decide))
 ·rw[dP (x:=v) (by omega) (by omega),dP (x:=n) (by omega) (by omega)];refine (sM h ⟨v0,v1⟩).bind ?_;rintro⟨r,o,ok,_⟩ hres;dsimp only at hres ⊢
  (with_reducible refine Ok.cb (fun hcb=>?_) (fun hcb=>?_))
  ·exact Ok.ret (hz 4 (by decide) (by decide))
  ·obtain⟨b,z,hr0,hb,hzz,ho0,ho1,_⟩:=hres hcb;have hz2:=h.1.2.2 z (dK hzz);refine Ok.bind (P:=fun x=>∃o',x=(ss,bs,key,0,0,r,o',())∧-70000≤o'∧o'≤70000) ?_ ?_
   ·refine Ok.cond (fun _=>?_) fun _=>?_
    ·(simp (disch:=omega) only [dL,dS,dP,dQ])
     exact Ok.ret ⟨_,rfl,by omega,by omega⟩
    ·(simp (disch:=omega) only [dL,dS,dP,dQ])
     exact Ok.ret ⟨_,rfl,by omega,by omega⟩
   rintro _ ⟨o',rfl,ho2,ho3⟩;dsimp only;refine yc.bind ?_;rintro⟨q,_⟩ hin;dsimp only at hin ⊢
   (with_reducible refine Ok.cb (fun hcc=>?_) (fun hcc=>?_))
   ·exact Ok.ret (hz 4 (by decide) (by decide))
   ·obtain⟨_,g1,m,g2,g3⟩:=hin hcc;have hm2:=h.1.2.2 m (dK g2);refine Ok.nat hr0 fun j hj=>?_;subst hj;rw[Int.toNat_natCast] at hb g2;have hjl:=(oGS hb).1;have hrj:=h.2.2 j hjl;unfold uv at hrj;rw[ej hb,ej g2] at hrj;rw[show dF bs j=some b from hb];simp only[oBS];rw[dL (x:=b+o') (by omega) (by omega),dS (x:=b+o') (by omega) (by omega)];exact Ok.ret ⟨_,_,_,rfl,⟨by dsimp only;omega,by dsimp only;omega,by dsimp only;omega,by dsimp only;omega,fun _=>⟨j,b,m,hb,g2,by dsimp only;omega,by dsimp only;omega⟩⟩,by decide,by decide,fun _=>by omega⟩
theorem i6.line{K:Int→Prop}{cs:List DCe}{ls:List DLn}(h:i6 K cs ls) {i:Nat}{x:DLn}{f:DLn→DLn}(hx:ls[i]?=some x) (hf:MN K i (f x)) (hg:M0 cs (f x)):i6 K cs (List.modify ls i f):=by
 have key:∀(j:Nat) y,(List.modify ls i f)[j]?=some y→MN K j y∧M0 cs y:=fun j y hy=>by
  rw[List.getElem?_modify] at hy;by_cases hij:i=j
  ·subst hij;rw[hx] at hy
   have hy:f x=y:=by simpa using hy
   rw[← hy];exact⟨hf,hg⟩
  ·simp only[hij,if_false] at hy;exact⟨h.lines j y (by simpa using hy),h.coh j y (by simpa using hy)⟩
 exact⟨h.clen,h.cells,by rw[List.length_modify];exact h.llen,fun j y hy=>(key j y hy).1,fun j y hy=>(key j y hy).2⟩
theorem E5{cs xs:List DCe}{lo k:Nat}(h1:lo+4≤cs.length) (h3:4≤xs.length) (hk:k < lo∨lo+4≤k):(nR cs lo 4 xs)[k]?=cs[k]?:=by
 unfold nR;rcases hk with hk | hk
 ·rw[List.append_assoc,List.getElem?_append_left (by rw[List.length_take];omega),List.getElem?_take_of_lt hk]
 ·rw[List.getElem?_append_right (by simp only[List.length_append,List.length_take];omega),List.getElem?_drop];congr 1;simp only[List.length_append,List.length_take];omega
theorem Gq{K:Int→Prop}{cs xs:List DCe}{lo n:Nat}(h1:cs.length=512) (h2:lo+n≤512) (h3:n≤xs.length) (hc:∀c∈cs,mw K c) (hx:∀c∈xs,mw K c):(nR cs lo n xs).length=512∧∀c∈nR cs lo n xs,mw K c:=by
 unfold nR;refine⟨?_,fun c hh=>?_⟩
 ·simp only[List.length_append,List.length_take,List.length_drop];omega
 ·simp only[List.mem_append] at hh;rcases hh with (hh | hh) | hh
  ·exact hc c (List.mem_of_mem_take hh)
  ·exact hx c (List.mem_of_mem_take hh)
  ·exact hc c (List.mem_of_mem_drop hh)
theorem Ez{K:Int→Prop}{cs:List DCe}{ls:List DLn}{a:Int}(h:i6 K cs ls) (ha:0≤a∧a < 512):Ok (jB a cs ls) fun r=>∃i cs' ls' x,r=(i,cs',ls',())∧i6 K cs' ls'∧ls'[i]?=some x∧x.1=a / 4∧x.2.2.length=4:=by
 obtain⟨a0,a1⟩:=ha;obtain⟨h1,h2,h3,h4,h5⟩:=id h;unfold jB;rw[Int.tdiv_eq_ediv_of_nonneg a0,dL (x:=a / 4) (by omega) (by omega)];dsimp only;rw[Int.tmod_eq_emod_of_nonneg (show 0≤a / 4 by omega)];refine Ok.nat (by omega) fun i hi=>?_
 have hil:i < ls.length:=by omega
 obtain⟨x,hx⟩:∃x,ls[i]?=some x:=⟨_,oGE hil⟩;have hg:dF ls i=some x:=hx;have hL:=h4 i x hx;simp only[hg,oBS]
 (with_reducible refine Ok.cb (fun hca=>?_) (fun hca=>?_))
 ·refine Ok.ret ⟨i,cs,ls,x,rfl,h,hx,hca,?_⟩;rcases hL with ⟨g1,_,_⟩ | ⟨_,_,_,g,_⟩
  ·omega
  ·exact g
 ·refine Ok.bind (P:=fun r=>∃cs',r=(a / 4,i,cs',ls,())∧cs'.length=512∧(∀c∈cs',mw K c)∧∀(j:Nat) y,ls[j]?=some y→M0 cs' y) ?_ ?_
  ·refine Ok.cond (fun hd=>?_) fun _=>Ok.ret ⟨cs,rfl,h1,h2,h5⟩;rcases hL with ⟨_,g,_⟩ | ⟨g1,g2,g3,g4,g5⟩
   ·rw[g] at hd;cases hd
   ·rw[dL (x:=x.1*4) (by omega) (by omega)];refine Ok.nat (by omega) fun q hq=>?_;refine Ok.need (by unfold ji;simp;omega) ?_
    try simp only[hg,oBS]
    rw[g4,h1]
    have hmin:Nat.min 4 (Nat.sub 512 q)=4:=by
     show min 4 (512 - q)=4;omega
    rw[hmin];refine Ok.need (by unfold ji;simp;omega) ?_;refine Ok.need rfl ?_;obtain⟨s1,s2⟩:=Gq (lo:=q) (n:=4) h1 (by omega) (by omega) h2 g5;refine Ok.ret ⟨_,rfl,s1,s2,fun j y hy=>?_⟩;by_cases hij:j=i
    ·subst hij;rw[hx] at hy
     injection hy with hy
     subst hy;exact .inr (.inl hd)
    ·rcases h5 j y hy with g | g | g
     ·exact .inl g
     ·exact .inr (.inl g)
     ·rcases h4 j y hy with ⟨g',_,_⟩ | ⟨y1,y2,y3,y4,y5⟩
      ·exact .inl g'
      ·refine .inr (.inr fun o ho=>?_);rw[E5 (by omega) (by omega) (by omega)];exact g o ho
  rintro _ ⟨cs',rfl,c1,c2,c3⟩;dsimp only;rw[dL (x:=a / 4*4) (by omega) (by omega),dL (x:=a / 4+1) (by omega) (by omega),dL (x:=(a / 4+1)*4) (by omega) (by omega)];simp only[hg,oBS];refine Ok.get (by rw[List.length_modify];exact hil) fun _ _=>?_;refine Ok.nat (by omega) fun q hq=>?_;refine Ok.nat (by omega) fun q2 hq2=>?_;refine Ok.need (by unfold ji;simp;omega) ?_
  have hw:(na cs' q (Nat.sub q2 q)).length=4:=by
   unfold na;rw[List.length_take,List.length_drop];show min (q2 - q) _=4;omega
  refine Ok.need (dN (by omega)) ?_;refine Ok.get (by rw[List.length_modify,List.length_modify];exact hil) fun _ _=>?_;rw[is,is,show List.append [] (na cs' q (Nat.sub q2 q))=na cs' q (Nat.sub q2 q) from rfl];have hmem:i6 K cs' ls:=⟨c1,c2,h3,h4,c3⟩;refine Ok.ret ⟨i,cs',_,_,rfl,hmem.line hx (.inr ⟨by dsimp only;omega,by dsimp only;omega,by dsimp only;omega,hw,fun c hc=>c2 c ?_⟩) (.inr (.inr fun o ho=>?_)),pV hx,rfl,hw⟩
  ·dsimp only at hc;unfold na at hc;exact List.mem_of_mem_drop (List.mem_of_mem_take hc)
  ·dsimp only;unfold na;rw[hq,Int.toNat_natCast,List.getElem?_take_of_lt (show o < Nat.sub q2 q by show o < q2 - q;omega),List.getElem?_drop]
theorem HJ{K:Int→Prop}{cs:List DCe}{ls:List DLn}{a:Int}(h:i6 K cs ls) (ha:0≤a∧a < 512):Ok (kM a cs ls) fun r=>∃t v cs' ls',r=(t,v,cs',ls',())∧mw K (t,v)∧i6 K cs' ls':=by
 unfold kM;refine (Ez h ha).bind ?_;rintro _ ⟨i,cs',ls',x,rfl,hm,hx,hx1,hx2⟩;dsimp only;have hg:dF ls' i=some x:=hx;simp only[hg,oBS];rw[Int.tmod_eq_emod_of_nonneg ha.1];refine Ok.nat (by omega) fun j hj=>?_;refine Ok.get (by omega) fun _ _=>?_;refine Ok.get (by omega) fun c hc=>?_
 have hc2:mw K c:=by
  rcases hm.lines i x hx with ⟨_,_,g⟩ | ⟨_,_,_,_,g⟩
  ·rw[g] at hx2;cases hx2
  ·exact g c (dK hc)
 exact Ok.ret ⟨_,_,_,_,rfl,hc2,hm⟩
theorem xN{K:Int→Prop}{cs:List DCe}{ls:List DLn}{a t v:Int}(h:i6 K cs ls) (ha:0≤a∧a < 512) (hc:mw K (t,v)):Ok (ir a t v cs ls) fun r=>∃cs' ls',r=(cs',ls',())∧i6 K cs' ls':=by
 unfold ir;refine (Ez h ha).bind ?_;rintro _ ⟨i,cs',ls',x,rfl,hm,hx,hx1,hx2⟩;dsimp only;have hg:dF ls' i=some x:=hx;have hil:=(oGS hx).1;simp only[hg,oBS];rw[Int.tmod_eq_emod_of_nonneg ha.1];refine Ok.nat (by omega) fun j hj=>?_;refine Ok.get (by omega) fun _ _=>?_;refine Ok.get (by omega) fun _ _=>?_;refine Ok.get (by rw[List.length_modify];exact hil) fun _ _=>?_;rw[is];refine Ok.ret ⟨_,_,rfl,hm.line hx ?_ (.inr (.inl rfl))⟩;rcases hm.lines i x hx with ⟨_,_,g⟩ | ⟨g1,g2,g3,g4,g5⟩
 ·rw[g] at hx2;cases hx2
 ·exact .inr ⟨g1,g2,g3,by dsimp only;rw[List.length_modify];exact g4,it g5 fun _ _=>hc⟩
theorem nC(x:Int):W16 (wk .u16 x):=by
 unfold wk;rw[yp];exact⟨by omega,by omega⟩
theorem J8{ss bs:List Int}{key t v t' v':Int}(h:LV bs ss) (hv:W16 v) (hv':W16 v'):Ok (jz bs key ss t v t' v') fun _=>True:=by
 obtain⟨v0,v1⟩:=hv;obtain⟨u0,u1⟩:=hv';unfold jz;rw[dP (x:=v) (by omega) (by omega),dP (x:=v') (by omega) (by omega)];refine (sM h ⟨v0,v1⟩).bind ?_;rintro⟨r,o,ok,_⟩ _;dsimp only;refine (sM h ⟨u0,u1⟩).bind ?_;rintro⟨r',o',ok',_⟩ _;dsimp only;cases ok<;>cases ok'<;>exact Ok.ret trivial
theorem Dz(b:Bool):jb b=some (0,(bif b then 1 else 0),()):=by cases b<;>rfl
theorem Mn{op b c:Int}(hb:W16 b) (hc:W16 c):Ok (jy op b c) fun r=>∃v e,r=(0,v,e,())∧W16 v∧0≤e∧e≤6:=by
 obtain⟨b0,b1⟩:=hb;obtain⟨c0,c1⟩:=hc;have fin:∀x:Int,W16 x→Ok (some ((0:Int),x,(0:Int),())) fun r=>∃v e,r=(0,v,e,())∧W16 v∧0≤e∧e≤6:=fun x h=>Ok.ret ⟨x,0,rfl,h,by decide,by decide⟩;have z5:Ok (some ((0:Int),(0:Int),(5:Int),())) fun r=>∃v e,r=(0,v,e,())∧W16 v∧0≤e∧e≤6:=Ok.ret ⟨0,5,rfl,⟨by decide,by decide⟩,by decide,by decide⟩;have hw:∀x:Int,W16 (IntKind.wrap .u16 x):=nC;unfold jy
 (with_reducible refine Ok.cb (fun hca=>?_) (fun hca=>?_))
 ·exact fin _ (nC _)
 (with_reducible refine Ok.cb (fun hcb=>?_) (fun hcb=>?_))
 ·exact fin _ (nC _)
 (with_reducible refine Ok.cb (fun hcc=>?_) (fun hcc=>?_))
 ·exact fin _ (nC _)
 have hq:∀X:Option (Int×Int×Int×Unit),c≠0→(X=(bif (op==6) then (bif (c != 0) then some ((0:Int),wk .u16 (Int.tdiv b c),(0:Int),()) else none) else bif (c != 0) then some ((0:Int),Int.tmod b c,(0:Int),()) else none))→Ok X fun r=>∃v e,r=(0,v,e,())∧W16 v∧0≤e∧e≤6:=by
  rintro _ hne rfl;refine Ok.cond (fun _=>Ok.need (by rw[bne_iff_ne];exact hne) (fin _ (nC _))) fun _=>Ok.need (by rw[bne_iff_ne];exact hne) (fin _ ?_);rw[Int.tmod_eq_emod_of_nonneg b0];have h1:=Int.emod_nonneg b hne;have h2:=Int.emod_lt_of_pos b (show 0 < c by omega);exact⟨h1,by omega⟩
 (with_reducible refine Ok.cb (fun hcd=>?_) (fun hcd=>?_))
 ·(with_reducible refine Ok.cb (fun hce=>?_) (fun hce=>?_))
  ·exact z5
  ·exact hq _ hce rfl
 (with_reducible refine Ok.cb (fun hcd=>?_) (fun hcd=>?_))
 ·(with_reducible refine Ok.cb (fun hce=>?_) (fun hce=>?_))
  ·exact z5
  ·exact hq _ hce rfl
 (with_reducible refine Ok.cb (fun hcf=>?_) (fun hcf=>?_))
 ·exact fin _ (hw _)
 (with_reducible refine Ok.cb (fun hcf=>?_) (fun hcf=>?_))
 ·exact fin _ (hw _)
 (with_reducible refine Ok.cb (fun hcf=>?_) (fun hcf=>?_))
 ·exact fin _ (hw _)
 (with_reducible refine Ok.cb (fun hcf=>?_) (fun hcf=>?_))
 ·rw[Int.tmod_eq_emod_of_nonneg c0];refine Ok.nat (by omega) fun j hj=>?_;exact fin _ (hw _)
 (with_reducible refine Ok.cb (fun hcf=>?_) (fun hcf=>?_))
 ·rw[Int.tmod_eq_emod_of_nonneg c0];refine Ok.nat (by omega) fun j hj=>fin _ ?_;show W16 (Int.fdiv b (2 ^ (min j 16)));have hp:(0:Int) < 2 ^ (min j 16):=Int.pow_pos (by decide);rw[Int.fdiv_eq_ediv_of_nonneg _ (by omega)];exact⟨Int.ediv_nonneg b0 (by omega),by have:=Int.ediv_le_self (2 ^ (min j 16)) b0;omega⟩
 rw[Dz];refine fin _ ?_;cases decide (b < c)
 ·exact⟨by decide,by decide⟩
 ·exact⟨by decide,by decide⟩
def KC(K:Int→Prop) (r:Int×Int×Int×Unit):Prop:=∃t v e,r=(t,v,e,())∧mw K (t,v)∧0≤e∧e≤6
theorem o9{K:Int→Prop}{t v e:Int}(h:mw K (t,v)) (h0:0≤e) (h1:e≤6):Ok (some (t,v,e,())) (KC K):=Ok.ret ⟨t,v,e,rfl,h,h0,h1⟩
theorem uC{K:Int→Prop}{v:Int}(h:W16 v):mw K (0,v):=kT h
theorem Cd{K:Int→Prop}(b:Bool):mw K (0,bif b then 1 else 0):=uC (by cases b<;>exact⟨by decide,by decide⟩)
theorem rd{K:Int→Prop}:mw K (0,0):=uC ⟨by decide,by decide⟩
theorem Nb{ss bs:List Int}{key op t v t' v':Int}(h:LV bs ss) (hb:mw (RK bs ss) (t,v)) (hc:mw (RK bs ss) (t',v')):Ok (pM bs key ss op t v t' v') (KC (RK bs ss)):=by
 obtain⟨t0,t2,v0,v1,_⟩:=hb;obtain⟨u0,u2,w0,w1,_⟩:=hc;dsimp only at t0 t2 v0 v1 u0 u2 w0 w1;obtain⟨_,eN,n1,n2,rfl,hn1,hn2,hn3⟩:=Mn (op:=op) (b:=v) (c:=v') ⟨v0,v1⟩ ⟨w0,w1⟩;obtain⟨_,eA,a1,a2,a3,rfl,ha1,ha2,ha3,_⟩:=u9 (key:=key) (tag:=t) (back:=false) h (v:=v) (n:=v') ⟨v0,v1⟩ ⟨w0,w1⟩;obtain⟨_,eB,b1,b2,b3,rfl,hb1,hb2,hb3,_⟩:=u9 (key:=key) (tag:=t') (back:=false) h (v:=v') (n:=v) ⟨w0,w1⟩ ⟨v0,v1⟩;obtain⟨_,eC,c1,c2,c3,rfl,hc1,hc2,hc3,_⟩:=u9 (key:=key) (tag:=t) (back:=true) h (v:=v) (n:=v') ⟨v0,v1⟩ ⟨w0,w1⟩;obtain⟨⟨p1,p2,p3,p4,ok,_⟩,eP,_⟩:=J8 (key:=key) (t:=t) (t':=t') h (v:=v) (v':=v') ⟨v0,v1⟩ ⟨w0,w1⟩;unfold pM
 (with_reducible refine Ok.cb (fun hca=>?_) (fun hca=>?_))
 ·exact o9 rd (by decide) (by decide)
 (with_reducible refine Ok.cb (fun hcb=>?_) (fun hcb=>?_))
 ·exact o9 rd (by decide) (by decide)
 cases h14:(op==14) with
 | true=>
  simp only[cond_true,Dz,oBS];exact o9 (Cd _) (by decide) (by decide)
 | false=>
  simp only[cond_false,eN,eA,eB,eC,eP,oBS]
  rcases (show t=0∨t=1∨t=2 by omega) with rfl | rfl | rfl<;>rcases (show t'=0∨t'=1∨t'=2 by omega) with rfl | rfl | rfl
  all_goals
   cases h3:(op==3)<;>cases h4:(op==4)<;>cases h13:(op==13)<;>simp only[Int.reduceBEq,cond_true,cond_false,oBS,h3,h4,h13,Dz,eN,eA,eB,eC,eP,BEq.rfl]
  all_goals first
   | exact o9 (uC hn1) hn2 hn3
   | exact o9 ha1 ha2 ha3
   | exact o9 hb1 hb2 hb3
   | exact o9 hc1 hc2 hc3
   | exact o9 rd (by decide) (by decide)
   | (cases ok<;>first
    | exact o9 rd (by decide) (by decide)
    | exact o9 (Cd _) (by decide) (by decide)
    | exact o9 (uC (nC _)) (by decide) (by decide))
theorem Ik{l:List Int}{k:Int}(h:DOk l k):Ok (lE l k) fun r=>∃t b s k',r=(t,b,s,l,k',())∧0≤t∧t < 4∧0≤b∧b≤63∧DOk l k':=by
 unfold lE
 (with_reducible refine eY (by assumption) (by omega) (by omega) (fun v0 k0 a0 b0 d0=>?_);try dsimp only)
 (with_reducible refine eY (by assumption) (by omega) (by omega) (fun v1 k1 a1 b1 d1=>?_);try dsimp only)
 (with_reducible refine Ok.nat (by omega) (fun j1 hj1=>?_);try dsimp only)
 have hm:∀x∈[(0:Int),1,2,3,7,63],0≤x∧x≤63:=all_cons (by omega) (all_cons (by omega) (all_cons (by omega) (all_cons (by omega) (all_cons (by omega) (all_cons (by omega) dX)))));refine Ok.get (by simp only[List.length_cons,List.length_nil];omega) fun x hx=>?_;refine Ok.get (by simp only[List.length_cons,List.length_nil];omega) fun y hy=>?_;have hy2:=hm y (dK hy)
 (with_reducible refine eY (by assumption) (by omega) (by omega) (fun v2 k2 a2 b2 d2=>?_);try dsimp only)
 exact Ok.ret ⟨_,_,_,_,rfl,a0,b0,hy2.1,hy2.2,d2⟩
def gR:List DTh→Int→List Int
 | [],_=>[]
 | t :: ts,i=>if t.1=1 then i :: gR ts (i+1) else gR ts (i+1)
theorem yB(a b:List DTh) (i:Int):gR (a++b) i=gR a i++gR b (i+a.length):=by
 induction a generalizing i with
 | nil=>simp[gR]
 | cons t a ih=>
  simp only[List.cons_append,gR,ih,List.length_cons];rw[show i+1+(a.length:Int)=i+((a.length+1:Nat):Int) by omega];split<;>rfl
theorem xU(a:List DTh) (i:Int):(gR a i).length≤a.length:=by
 induction a generalizing i with
 | nil=>simp[gR]
 | cons t a ih=>
  simp only[gR];have:=ih (i+1);split<;>simp only[List.length_cons]<;>omega
theorem Fh{a:List DTh}{i x:Int}(h:x∈gR a i):i≤x∧x < i+a.length∧∃t,a[(x - i).toNat]?=some t∧t.1=1:=by
 induction a generalizing i with
 | nil=>simp[gR] at h
 | cons t a ih=>
  simp only[gR] at h
  have key:x∈gR a (i+1)→i≤x∧x < i+((t :: a).length:Int)∧∃t',(t :: a)[(x - i).toNat]?=some t'∧t'.1=1:=by
   intro h;obtain⟨h1,h2,t',h3,h4⟩:=ih h;refine⟨by omega,by simp only[List.length_cons];omega,t',?_,h4⟩;rw[show (x - i).toNat=(x - (i+1)).toNat+1 by omega,List.getElem?_cons_succ];exact h3
  split at h
  ·rename_i ht;rcases List.mem_cons.1 h with rfl | h
   ·exact⟨by omega,by simp only[List.length_cons];omega,t,by simp,ht⟩
   ·exact key h
  ·exact key h
theorem Ji{ts:List DTh}(h:ts.length≤1000):lp ts=some (gR ts 0,()):=by
 have e:dO gI NN (ts,(ts.length:Int),0,[],())=some (ts,(ts.length:Int),(ts.length:Int),false,gR ts 0,()):=by
  have:=mt (f:=gI) (N:=NN) (st:=fun k=>(ts,(ts.length:Int),(k:Int),gR (ts.take k) 0,())) (n:=ts.length) (t:=(ts,(ts.length:Int),(ts.length:Int),false,gR ts 0,())) (by unfold NN;omega) ?_ ?_
  ·exact this
  ·intro k hk;unfold gI;dsimp only
   (with_reducible refine Ok.cb (fun hca=>?_) (fun hca=>?_))
   ·rw[dH];simp only[oBS];obtain⟨x,hx⟩:∃x,ts[k]?=some x:=⟨_,oGE hk⟩;rw[show dF ts k=some x from hx];simp only[oBS];have hlen:=xU (ts.take k) 0;rw[List.length_take] at hlen
    have hnext:gR (ts.take (k+1)) 0=gR (ts.take k) 0++(if x.1=1 then [(k:Int)] else []):=by
     rw[List.take_add_one,hx,yB];congr 1;rw[List.length_take,show 0+((min k ts.length:Nat):Int)=(k:Int) by omega];simp only[Option.toList,gR]
    refine Ok.bind (P:=(·=(ts,(ts.length:Int),(k:Int),gR (ts.take (k+1)) 0,()))) ?_ ?_
    ·(with_reducible refine Ok.cb (fun hcb=>?_) (fun hcb=>?_))
     ·refine Ok.need (dN (by simp;omega)) ?_;rw[hnext,if_pos hcb];exact Ok.ret rfl
     ·rw[hnext,if_neg hcb,List.append_nil];exact Ok.ret rfl
    ·rintro _ rfl;dsimp only
     (simp (disch:=omega) only [dL,dS,dP,dQ])
     exact Ok.ret rfl
   ·omega
  ·unfold gI;dsimp only
   (with_reducible refine Ok.cb (fun hca=>?_) (fun hca=>?_))
   ·omega
   ·rw[List.take_length];exact Ok.ret rfl
 refine Ok.eq ?_;unfold lp;delta dI
 try dsimp only
 rw[e];exact Ok.ret rfl
theorem vT{ow:List Int}{qs:List (List Int)}(h:ie ow qs):i9 ow qs=some (ow,qs,()):=by
 have hq4:∀q∈qs,q.length≤4:=fun q hq=>h.qlen4 hq;obtain⟨h1,h2,h3,h4⟩:=h
 have e:dO gY NN (qs,(qs.length:Int),0,ow,qs,(),(),ow,[],())=some (qs,(qs.length:Int),(qs.length:Int),false,ow,qs,(),(),ow,qs,()):=by
  have:=mt (f:=gY) (N:=NN) (st:=fun k=>(qs,(qs.length:Int),(k:Int),ow,qs,(),(),ow,qs.take k,())) (n:=qs.length) (t:=(qs,(qs.length:Int),(qs.length:Int),false,ow,qs,(),(),ow,qs,())) (by unfold NN;omega) ?_ ?_
  ·exact this
  ·intro k hk;unfold gY;dsimp only
   (with_reducible refine Ok.cb (fun hca=>?_) (fun hca=>?_))
   ·rw[dH];simp only[oBS];refine Ok.get (by omega) fun x hx=>?_;have:=hq4 x (dK hx);refine Ok.need (dN (by omega)) (Ok.need (dN (by simp;omega)) ?_)
    (simp (disch:=omega) only [dL,dS,dP,dQ])
    refine Ok.ret ?_;rw[List.take_add_one,hx];rfl
   ·omega
  ·unfold gY;dsimp only
   (with_reducible refine Ok.cb (fun hca=>?_) (fun hca=>?_))
   ·omega
   ·rw[List.take_length];exact Ok.ret rfl
 refine Ok.eq ?_;unfold i9;refine Ok.need (dN (by omega)) ?_;rw[show List.append [] ow=ow from rfl];delta dI
 try dsimp only
 rw[e];exact Ok.ret rfl
theorem Dv{ow:List Int}{qs:List (List Int)}{lock t:Int}(h:ie ow qs):Ok (i8 ow qs lock t) fun r=>∃ow' qs' n b,r=(ow',qs',n,b,())∧ie ow' qs'∧-1≤n∧n≤3:=by
 unfold i8;rw[vT h];simp only[oBS];obtain⟨h1,h2,h3,h4⟩:=id h;refine Ok.bind (P:=fun r=>∃b,r=(lock,b,(),(),ow,qs,())∧(b=false→0≤lock∧lock < 4)) ?_ ?_
 ·(with_reducible refine Ok.cb (fun hca=>?_) (fun hca=>?_))
  ·exact Ok.ret ⟨true,rfl,fun h=>by cases h⟩
  ·(with_reducible refine Ok.cb (fun hcb=>?_) (fun hcb=>?_))
   ·exact Ok.ret ⟨true,rfl,fun h=>by cases h⟩
   ·refine Ok.nat (by omega) fun j hj=>?_;refine Ok.get (by omega) fun x hx=>?_;exact Ok.ret ⟨_,rfl,fun _=>⟨by omega,by omega⟩⟩
 rintro _ ⟨b,rfl,hb⟩;dsimp only;refine Ok.cond (fun _=>Ok.ret ⟨_,_,_,_,rfl,h,by omega,by omega⟩) fun hbf=>?_;obtain⟨l0,l1⟩:=hb hbf;obtain⟨j,rfl⟩:∃j:Nat,lock=j:=⟨lock.toNat,by omega⟩;obtain⟨o,ho⟩:∃o,ow[j]?=some o:=⟨_,oGE (by omega)⟩;obtain⟨q,hq⟩:∃q,qs[j]?=some q:=⟨_,oGE (by omega)⟩;have go:dF ow j=some o:=ho;have gq:dF qs j=some q:=hq;have gm:∀f:Int→Int,dF (List.modify ow j f) j=some (f o):=fun f=>pV ho;have gm2:∀f g:Int→Int,dF (List.modify (List.modify ow j f) j g) j=some (g (f o)):=fun f g=>pV (pV ho);delta dI;simp only[dH,oBS,go,gq,gm,gm2];have hl1:ie (List.modify ow j fun _=>-1) qs:=⟨by rw[List.length_modify];exact h1,h2,it h3 fun _ _=>⟨by omega,by omega⟩,h4⟩
 (with_reducible refine Ok.cb (fun hcc=>?_) (fun hcc=>?_))
 ·obtain⟨x,hx⟩:∃x,q[0]?=some x:=⟨_,oGE (by omega)⟩;have gx:dF q 0=some x:=hx;have hx2:=(h4 q (dK hq)).2 x (dK hx);simp only[gx,oBS];refine Ok.need (by unfold ji;simp;omega) ?_;refine Ok.ret ⟨_,_,_,_,rfl,⟨by rw[List.length_modify,List.length_modify];exact h1,by rw[List.length_modify];exact h2,it (it h3 fun _ _=>⟨by omega,by omega⟩) fun _ _=>⟨by omega,by omega⟩,it h4 fun _ _=>?_⟩,by omega,by omega⟩;obtain⟨q1,q2⟩:=h4 q (dK hq);unfold na;have hs:(List.take (Nat.sub q.length 1) (List.drop 1 q)).Sublist q:=(List.take_sublist _ _).trans (List.drop_sublist _ _);exact⟨q1.sublist hs,fun t ht=>q2 t (hs.subset ht)⟩
 ·exact Ok.ret ⟨_,_,_,_,rfl,hl1,by omega,by omega⟩
theorem Fy{q:List Int}{x:Int}(h:q.Nodup) (hx:x ∉ q):(q++[x]).Nodup:=by
 rw[List.nodup_append];refine⟨h,by simp,fun a ha b hb=>?_⟩;simp only[List.mem_singleton] at hb;subst hb;intro e;subst e;exact hx ha
theorem LG{ow:List Int}{qs:List (List Int)}{t:Int}(h:ie ow qs):Ok (mJ ow qs t) fun r=>∃ow' qs' nx,r=(ow',qs',nx,())∧ie ow' qs'∧nx.length≤4∧∀x∈nx,0≤x∧x≤3:=by
 unfold mJ;rw[vT h];delta dI;simp only[oBS];have h2:=h.qlen;refine Ok.loop (P:=fun s'=>∃k:Nat,∃qs',s'=(t,(qs.length:Int),(k:Int),(),(),ow,qs',())∧k≤qs.length∧ie ow qs') (R:=fun r=>∃a b c qs',r=(t,a,b,c,(),(),ow,qs',())∧ie ow qs') (m:=fun s'=>(s'.2.1 - s'.2.2.1).toNat) ⟨0,qs,rfl,by omega,h⟩ (by unfold NN;dsimp only;omega) ?_ ?_
 ·rintro _ ⟨k,qs',rfl,hk,hl⟩;obtain⟨g1,g2,g3,g4⟩:=id hl;unfold oM;dsimp only
  (with_reducible refine Ok.cb (fun hca=>?_) (fun hca=>?_))
  ·obtain⟨q,hq⟩:∃q,qs'[k]?=some q:=⟨_,oGE (by omega)⟩;have gq:dF qs' k=some q:=hq;obtain⟨q1,q2⟩:=g4 q (dK hq);have q3:=hl.qlen4 (dK hq);delta dI;simp only[dH,oBS,gq]
   refine Ok.loop (P:=fun s'=>∃j:Nat,∃l,s'=(t,(k:Int),(qs.length:Int),(k:Int),k,(q.length:Int),(j:Int),(),(),ow,qs',l,())∧j≤q.length∧l.Sublist (q.take j))
    (R:=fun r=>∃a b c d l,r=(t,(k:Int),(qs.length:Int),(k:Int),a,b,c,d,(),(),ow,qs',l,())∧l.Sublist q) (m:=fun s'=>(s'.2.2.2.2.2.1 - s'.2.2.2.2.2.2.1).toNat) ⟨0,[],rfl,by omega,by simp⟩ (by unfold NN;dsimp only;omega) ?_ ?_
   ·rintro _ ⟨j,l,rfl,hj,hsub⟩;unfold oN;dsimp only
    (with_reducible refine Ok.cb (fun hcb=>?_) (fun hcb=>?_))
    ·obtain⟨x,hx⟩:∃x,q[j]?=some x:=⟨_,oGE (by omega)⟩;have gx:dF q j=some x:=hx;simp only[dH,oBS,gq,gx];have hll:=hsub.length_le;rw[List.length_take] at hll
     have htk:q.take (j+1)=q.take j++[x]:=by rw[List.take_add_one,hx];rfl
     refine Ok.bind (P:=fun r=>∃l',r=(t,(k:Int),(qs.length:Int),(k:Int),k,(q.length:Int),(j:Int),(),(),ow,qs',l',())∧l'.Sublist (q.take (j+1))) ?_ ?_
     ·refine Ok.cond (fun _=>Ok.need (dN (by simp;omega)) (Ok.ret ⟨_,rfl,?_⟩)) fun _=>Ok.ret ⟨l,rfl,?_⟩
      ·rw[htk];exact hsub.append (List.Sublist.refl _)
      ·rw[htk];exact hsub.trans (List.sublist_append_left _ _)
     ·rintro _ ⟨l',rfl,hs⟩;dsimp only
      (simp (disch:=omega) only [dL,dS,dP,dQ])
      exact Ok.ret ⟨⟨j+1,l',rfl,by omega,hs⟩,by dsimp only;omega⟩
    ·exact Ok.ret ⟨_,_,_,_,l,rfl,hsub.trans (List.take_sublist _ _)⟩
   ·rintro _ ⟨a,b,c,d,l,rfl,hs⟩;dsimp only;simp only[dH,oBS,gq]
    (simp (disch:=omega) only [dL,dS,dP,dQ])
    exact Ok.ret ⟨⟨k+1,_,rfl,by omega,⟨g1,by rw[List.length_modify];exact g2,g3,it g4 fun _ _=>⟨q1.sublist hs,fun t ht=>q2 t (hs.subset ht)⟩⟩⟩,by dsimp only;omega⟩
  ·exact Ok.ret ⟨_,_,_,qs',rfl,hl⟩
 ·rintro _ ⟨a,b,c,qs',rfl,hl⟩;dsimp only
  refine Ok.loop (P:=fun s'=>∃k:Nat,∃ow' qs' nx,s'=(t,4,(k:Int),(),(),ow',qs',nx,())∧k≤4∧nx.length≤k∧ie ow' qs'∧∀x∈nx,0≤x∧x≤3) (R:=fun r=>∃a b c ow' qs' nx,r=(t,a,b,c,(),(),ow',qs',nx,())∧ie ow' qs'∧nx.length≤4∧∀x∈nx,0≤x∧x≤3) (m:=fun s'=>(4 - s'.2.2.1).toNat)
   ⟨0,ow,qs',[],by rw[hl.olen];rfl,by omega,by simp,hl,dX⟩ (by unfold NN;dsimp only;omega) ?_ ?_
  ·rintro _ ⟨k,ow',qs',nx,rfl,hk,hnl,hl',hnx⟩;unfold oL;dsimp only
   (with_reducible refine Ok.cb (fun hca=>?_) (fun hca=>?_))
   ·refine (Dv hl').bind ?_;rintro _ ⟨ow2,qs2,n,bb,rfl,hl2,n0,n1⟩;dsimp only;refine Ok.bind (P:=fun r=>∃nx',r=(t,4,(k:Int),(),(),ow',qs',nx',ow2,qs2,())∧nx'.length≤k+1∧∀x∈nx',0≤x∧x≤3) ?_ ?_
    ·refine Ok.cond (fun _=>?_) fun _=>Ok.ret ⟨nx,rfl,by omega,hnx⟩
     (with_reducible refine Ok.cb (fun hcb=>?_) (fun hcb=>?_))
     ·refine Ok.need (dN (by simp;omega)) (Ok.ret ⟨_,rfl,by rw[eJ];simp;omega,iA hnx (all_cons ⟨by omega,n1⟩ dX)⟩)
     ·exact Ok.ret ⟨nx,rfl,by omega,hnx⟩
    ·rintro _ ⟨nx',rfl,hn1,hn2⟩;dsimp only
     (simp (disch:=omega) only [dL,dS,dP,dQ])
     exact Ok.ret ⟨⟨k+1,_,_,_,rfl,by omega,hn1,hl2,hn2⟩,by dsimp only;omega⟩
   ·exact Ok.ret ⟨_,_,_,_,_,_,rfl,hl',by omega,hnx⟩
  ·rintro _ ⟨a,b,c,ow',qs',nx,rfl,hl',hn4,hnx⟩;exact Ok.ret ⟨_,_,_,rfl,hl',hn4,hnx⟩
theorem KJ{ow:List Int}{qs:List (List Int)}{lock t:Int}(h:ie ow qs) (ht:0≤t∧t≤3):Ok (mI ow qs lock t) fun r=>∃ow' qs' n,r=(ow',qs',n,())∧ie ow' qs':=by
 unfold mI;rw[vT h];simp only[oBS];obtain⟨h1,h2,h3,h4⟩:=id h;refine Ok.bind (P:=fun r=>∃b,r=(lock,t,b,ow,qs,(),(),ow,qs,())∧(b=false→0≤lock∧lock < 4)) ?_ ?_
 ·(with_reducible refine Ok.cb (fun hca=>?_) (fun hca=>?_))
  ·exact Ok.ret ⟨true,rfl,fun h=>by cases h⟩
  ·(with_reducible refine Ok.cb (fun hcb=>?_) (fun hcb=>?_))
   ·exact Ok.ret ⟨true,rfl,fun h=>by cases h⟩
   ·refine Ok.nat (by omega) fun j hj=>?_;refine Ok.get (by omega) fun x hx=>?_;exact Ok.ret ⟨_,rfl,fun _=>⟨by omega,by omega⟩⟩
 rintro _ ⟨b,rfl,hb⟩;dsimp only;refine Ok.cond (fun _=>Ok.ret ⟨_,_,_,rfl,h⟩) fun hbf=>?_;obtain⟨l0,l1⟩:=hb hbf;delta dI
 try dsimp only
 obtain⟨r,e,hr⟩:=Ok.iter (f:=lY) (n:=NN) (s:=(lock,t,qs,(qs.length:Int),0,ow,qs,(),(),ow,qs,())) (P:=fun s'=>∃k:Nat,s'=(lock,t,qs,(qs.length:Int),(k:Int),ow,qs,(),(),ow,qs,())∧k≤qs.length∧∀(i:Nat) q,i < k→qs[i]?=some q→t ∉ q)
  (R:=fun r=>r=.inl (2,ow,qs,())∨((∃a b c,r=.inr (lock,t,a,b,c,false,ow,qs,(),(),ow,qs,()))∧∀q∈qs,t ∉ q)) (m:=fun s'=>(s'.2.2.2.1 - s'.2.2.2.2.1).toNat) ⟨0,rfl,by omega,fun i q hi=>by omega⟩ (by unfold NN;dsimp only;omega) (by
   rintro _ ⟨k,rfl,hk,hall⟩;unfold lY;dsimp only
   (with_reducible refine Ok.cb (fun hca=>?_) (fun hca=>?_))
   ·obtain⟨q,hq⟩:∃q,qs[k]?=some q:=⟨_,oGE (by omega)⟩;have gq:dF qs k=some q:=hq;have q3:=h.qlen4 (dK hq);delta dI;simp only[dH,oBS,gq]
    obtain⟨r,e,hr⟩:=Ok.iter (f:=lZ) (n:=NN) (s:=(lock,t,qs,(qs.length:Int),(k:Int),q,(q.length:Int),0,ow,qs,(),(),ow,qs,())) (P:=fun s'=>∃j:Nat,s'=(lock,t,qs,(qs.length:Int),(k:Int),q,(q.length:Int),(j:Int),ow,qs,(),(),ow,qs,())∧j≤q.length∧∀(i:Nat) x,i < j→q[i]?=some x→x≠t)
     (R:=fun r=>r=.inl (2,ow,qs,())∨((∃a b c,r=.inr (lock,t,qs,(qs.length:Int),(k:Int),a,b,c,false,ow,qs,(),(),ow,qs,()))∧t ∉ q)) (m:=fun s'=>(s'.2.2.2.2.2.2.1 - s'.2.2.2.2.2.2.2.1).toNat) ⟨0,rfl,by omega,fun i x hi=>by omega⟩ (by unfold NN;dsimp only;omega) (by
      rintro _ ⟨j,rfl,hj,hne⟩;unfold lZ;dsimp only
      (with_reducible refine Ok.cb (fun hcb=>?_) (fun hcb=>?_))
      ·obtain⟨x,hx⟩:∃x,q[j]?=some x:=⟨_,oGE (by omega)⟩;have gx:dF q j=some x:=hx;simp only[dH,oBS,gx]
       (with_reducible refine Ok.cb (fun hcc=>?_) (fun hcc=>?_))
       ·exact Ok.ret (.inl rfl)
       ·(simp (disch:=omega) only [dL,dS,dP,dQ])
        exact Ok.ret ⟨⟨j+1,rfl,by omega,EO hne hx hcc⟩,by dsimp only;omega⟩
      ·refine Ok.ret (.inr ⟨⟨_,_,_,rfl⟩,fun hm=>?_⟩);obtain⟨i,hi⟩:=List.getElem?_of_mem hm
       exact hne i t (by have:=(oGS hi).1;omega) hi rfl)
    rw[e];rcases hr with rfl | ⟨⟨a,b,c,rfl⟩,hnot⟩
    ·exact Ok.ret (.inl rfl)
    ·dsimp only
     (simp (disch:=omega) only [dL,dS,dP,dQ])
     refine Ok.ret ⟨⟨k+1,rfl,by omega,fun i q' hi hq'=>?_⟩,by dsimp only;omega⟩;by_cases hik:i=k
     ·subst hik;rw[hq] at hq'
      injection hq' with hq'
      rw[← hq'];exact hnot
     ·exact hall i q' (by omega) hq'
   ·refine Ok.ret (.inr ⟨⟨_,_,_,rfl⟩,fun q hq=>?_⟩);obtain⟨i,hi⟩:=List.getElem?_of_mem hq
    exact hall i q (by have:=(oGS hi).1;omega) hi)
 rw[e];rcases hr with rfl | ⟨⟨a,b,c,rfl⟩,hnot⟩
 ·exact Ok.ret ⟨_,_,_,rfl,h⟩
 ·dsimp only;obtain⟨j,rfl⟩:∃j:Nat,lock=j:=⟨lock.toNat,by omega⟩;obtain⟨o,ho⟩:∃o,ow[j]?=some o:=⟨_,oGE (by omega)⟩;obtain⟨q,hq⟩:∃q,qs[j]?=some q:=⟨_,oGE (by omega)⟩;have go:dF ow j=some o:=ho;have gq:dF qs j=some q:=hq;simp only[dH,oBS,go,gq]
  (with_reducible refine Ok.cb (fun hcd=>?_) (fun hcd=>?_))
  ·exact Ok.ret ⟨_,_,_,rfl,⟨by rw[List.length_modify];exact h1,h2,it h3 fun _ _=>⟨by omega,ht.2⟩,h4⟩⟩
  ·have q3:=h.qlen4 (dK hq);refine Ok.need (dN (by simp;omega)) (Ok.need (by simp) (Ok.ret ⟨_,_,_,rfl,⟨h1,by rw[List.length_modify];exact h2,h3,it h4 fun _ _=>⟨?_,?_⟩⟩⟩))
   ·exact Fy (h4 q (dK hq)).1 (hnot q (dK hq))
   ·exact iA (h4 q (dK hq)).2 (all_cons ht dX)
theorem dZ{α:Type}{l:List α}{i:Nat}{a:α}(h:l[i]?=some a) (f:α→α):List.modify l i f=l.set i (f a):=by
 rw[← xZ];apply List.ext_getElem?;intro j;simp only[List.getElem?_modify];by_cases hij:i=j
 ·subst hij;rw[h];rfl
 ·simp[hij]
theorem gd{α:Type}{l:List α}{i:Nat}(h:i < l.length) (a:α):dF (l.set i a) i=some a:=by
 show (l.set i a)[i]?=some a;rw[List.getElem?_set];simp[h]
theorem nj{α:Type}{l:List α}{i:Nat}(h:i < l.length) (a:α) (f:α→α):List.modify (l.set i a) i f=l.set i (f a):=by
 rw[dZ (a:=a) (gd h a),List.set_set]
theorem ia{α:Type}{P:α→Prop}{l:List α}{i:Nat}{a:α}(h:∀x∈l,P x) (ha:P a):∀x∈l.set i a,P x:=by
 intro x hx;rcases List.mem_or_eq_of_mem_set hx with hx | rfl
 ·exact h x hx
 ·exact ha
theorem MOk.set{n:Int}{ss bs:List Int}{cs cs':List DCe}{ls ls':List DLn}{ts:List DTh}(h:MOk n ss bs cs ls ts) (hm:i6 (RK bs ss) cs' ls') {i:Nat}{t:DTh}(ht:wz (RK bs ss) n t):MOk n ss bs cs' ls' (ts.set i t):=
 ⟨h.lay,hm,by rw[List.length_set];exact h.tlen,ia h.thr ht⟩
def NF(code:List DIn) (t:DTh) (s:Int) (t':DTh):Prop:=
 (s=-1∧t'.1=1∧((t'.2.2.2.1=t.2.2.2.1∧t'.2.2.1=t.2.2.1+1)∨t'.2.2.2.1=t.2.2.2.1+1))∨(s=2∧t'.1=4∧t'.2.2.2.1=t.2.2.2.1) ∨
  (s=1∧t'.1=2∧t'.2.2.2.1=t.2.2.2.1∧∃i:DIn,1≤t'.2.2.1∧code[(t'.2.2.1 - 1).toNat]?=some i∧i.1=23)
def DT(n key:Int) (code:List DIn) (ss bs:List Int) (ts:List DTh) (i:Nat) (t:DTh) (r:Int×List Int×Int×List DCe×List DLn×List DTh×Unit):Prop:=
 ∃s cs' ls' t',r=(s,bs,key,cs',ls',ts.set i t',())∧i6 (RK bs ss) cs' ls'∧wz (RK bs ss) n t'∧NF code t s t'
theorem me{n key:Int}{code:List DIn}{ss bs:List Int}{ts:List DTh}{i:Nat}{t t':DTh}{cs':List DCe}{ls':List DLn}(hm:i6 (RK bs ss) cs' ls') (ht:wz (RK bs ss) n t') (h1:t'.1=1)
 (h:(t'.2.2.2.1=t.2.2.2.1∧t'.2.2.1=t.2.2.1+1)∨t'.2.2.2.1=t.2.2.2.1+1):Ok (some (-1,bs,key,cs',ls',ts.set i t',())) (DT n key code ss bs ts i t):=Ok.ret ⟨_,_,_,_,rfl,hm,ht,.inl ⟨rfl,h1,h⟩⟩
theorem lF{n key why:Int}{code:List DIn}{ss bs:List Int}{ts:List DTh}{i:Nat}{t:DTh}{cs':List DCe}{ls':List DLn}(hm:i6 (RK bs ss) cs' ls') (ht:wz (RK bs ss) n t) (hw:0≤why∧why≤6) :
 Ok (some (2,bs,key,cs',ls',ts.set i (4,t.2.1,t.2.2.1,t.2.2.2.1,t.2.2.2.2.1,t.2.2.2.2.2.1,why,0),())) (DT n key code ss bs ts i t):=Ok.ret ⟨_,_,_,_,rfl,hm,ht.ended hw,.inr (.inl ⟨rfl,rfl,rfl⟩)⟩
theorem gL(op:Int):ko op=some (lI op || op==22 || op==24,()):=by
 unfold ko;rw[vv];simp only[oBS];cases lI op<;>cases op==22<;>rfl
set_option maxHeartbeats 4000000 in
theorem Mm{n key:Int}{code:List DIn}{ss bs:List Int}{d:List (List Int)}{cs:List DCe}{ls:List DLn}{ts:List DTh}{i:Nat}{t:DTh}(hp:jW code ss d) (h:MOk n ss bs cs ls ts) (ht:ts[i]?=some t) (hs:t.1=1)
 (hc:t.2.2.2.1+1≤n) (hn:n≤1099511627776):Ok (nM code ss d (i:Int) bs key cs ls ts) (DT n key code ss bs ts i t):=by
 have hok:=h.thr t (dK ht);have hm:=h.mem;obtain⟨_,hl,hr,⟨p0,p1⟩,⟨c0,c1⟩,ha,⟨s0,s1⟩,⟨r0,r1⟩,hco⟩:=id hok;obtain⟨st,rs,pc,ct,hd,sa,tr,co⟩:=t;dsimp only at *;subst hs;have hil:=(oGS ht).1;have hg:dF ts i=some (1,rs,pc,ct,hd,sa,tr,co):=ht;have e1:∀f:DTh→DTh,List.modify ts i f=ts.set i (f (1,rs,pc,ct,hd,sa,tr,co)):=fun f=>dZ ht f;have e2:∀x,dF (ts.set i x) i=some x:=fun x=>gd hil x;have e3:∀(x:DTh) (f:DTh→DTh),List.modify (ts.set i x) i f=ts.set i (f x):=fun x f=>nj hil x f
 have eT:∀why,eQ (i:Nat) why ts=some (2,ts.set i (4,rs,pc,ct,hd,sa,why,0),()):=fun why=>by rw[KG (n:=n) ht,e1]
 have mk:∀{rs':List DCe} {pc' ct' sa':Int},rs'.length=8→(∀c∈rs',mw (RK bs ss) c)→0≤pc'∧pc'≤255→0≤ct'∧ct'≤n→-1≤sa'∧sa'≤255→wz (RK bs ss) n (1,rs',pc',ct',hd,sa',tr,co):=
  fun h1 h2 h3 h4 h5=>⟨⟨show (0:Int)≤1 by decide,show (1:Int)≤4 by decide⟩,h1,h2,h3,h4,ha,h5,⟨r0,r1⟩,hco⟩
 unfold nM;rw[dH];delta dI;simp only[hg,oBS]
 (with_reducible refine Ok.cb (fun hca=>?_) (fun hca=>?_))
 ·rw[eT 2];exact lF hm hok (by decide)
 refine Ok.nat p0 fun j hj=>?_;subst hj;have hcl:=hp.clen;refine Ok.get (by omega) fun x hx=>?_;obtain⟨op,A,B,C,I⟩:=x;obtain⟨⟨o0,o1⟩,⟨A0,A1,_⟩,⟨B0,B1,_⟩,⟨C0,C1,_⟩,⟨I0,I1,_⟩,hlea,hsys,hjmp⟩:=hp.ins _ (dK hx);dsimp only at *;obtain⟨A,rfl⟩:∃k:Nat,A=k:=⟨A.toNat,by omega⟩;obtain⟨B,rfl⟩:∃k:Nat,B=k:=⟨B.toNat,by omega⟩;obtain⟨C,rfl⟩:∃k:Nat,C=k:=⟨C.toNat,by omega⟩;obtain⟨I,rfl⟩:∃k:Nat,I=k:=⟨I.toNat,by omega⟩;obtain⟨⟨ta,va⟩,gA⟩:∃c,dF rs A=some c:=⟨_,oGE (by omega)⟩;obtain⟨⟨tb,vb⟩,gB⟩:∃c,dF rs B=some c:=⟨_,oGE (by omega)⟩;obtain⟨⟨tc,vc⟩,gC⟩:∃c,dF rs C=some c:=⟨_,oGE (by omega)⟩;have cA:=hr _ (dK gA);have cB:=hr _ (dK gB);have cC:=hr _ (dK gC);have eR:∀f:DCe→DCe,List.modify rs A f=rs.set A (f (ta,va)):=fun f=>dZ gA f;have w1:w64 ((j:Int)+1)=(j:Int)+1:=dL (by omega) (by omega);have wI:wk .u16 (I:Int)=I:=dS (by omega) (by omega);have setOk:∀{c:DCe},mw (RK bs ss) c→(rs.set A c).length=8∧∀x∈rs.set A c,mw (RK bs ss) x:=fun hc=>⟨by rw[List.length_set];exact hl,ia hr hc⟩;have wc:w64 (ct+1)=ct+1:=dL (by omega) (by omega);simp only[dH,hg,gA,gB,oBS,w1,wI];rcases (show op=0∨op=1∨op=2∨op=15∨op=16∨op=17∨op=18∨op=19∨op=20∨op=21∨op=22∨op=23∨op=24∨(3≤op∧op≤14) by omega) with rfl | rfl | rfl | rfl | rfl | rfl | rfl | rfl | rfl | rfl | rfl | rfl | rfl | ⟨q0,q1⟩
 all_goals try simp only[Int.reduceBEq,cond_true,cond_false,dH,hg,gA,gB,gC,e1,e2,e3,eR,eT,oBS,w1,wI,wc,gL,lI,Bool.or_false,Bool.or_true,Bool.or_self,bne_self_eq_false]
 ·exact me hm (mk hl hr (by omega) (by omega) (by omega)) rfl (.inl ⟨rfl,rfl⟩)
 ·exact me hm (mk (setOk (kT (by omega))).1 (setOk (kT (by omega))).2 (by omega) (by omega) (by omega)) rfl (.inl ⟨rfl,rfl⟩)
 ·exact me hm (mk (setOk cB).1 (setOk cB).2 (by omega) (by omega) (by omega)) rfl (.inl ⟨rfl,rfl⟩)
 ·have hI:=hlea rfl;have hbl:=h.lay.2.1;obtain⟨b,hb⟩:∃b,bs[I]?=some b:=⟨_,oGE (by omega)⟩;obtain⟨z,hz⟩:∃z,ss[I]?=some z:=⟨_,oGE (by omega)⟩;have hr2:=h.lay.2.2 I (by omega);unfold uv at hr2;rw[ej hb,ej hz] at hr2;have hz2:=h.lay.1.2.2 z (dK hz);have wb:wk .u16 b=b:=dS (by omega) (by omega);have gb:dF bs I=some b:=hb;simp only[gb,wb,Int.reduceBEq,cond_true,cond_false,dH,hg,gA,gB,gC,e1,e2,e3,eR,eT,oBS,w1,wI,wc,gL,lI,Bool.or_false,Bool.or_true,Bool.or_self,bne_self_eq_false];have hcb:mw (RK bs ss) (1,b):=⟨by dsimp only;omega,by dsimp only;omega,by dsimp only;omega,by dsimp only;omega,fun _=>⟨I,b,z,hb,hz,by dsimp only;omega,by dsimp only;omega⟩⟩;exact me hm (mk (setOk hcb).1 (setOk hcb).2 (by omega) (by omega) (by omega)) rfl (.inl ⟨rfl,rfl⟩)
 ·obtain⟨_,em,t1,x1,e,rfl,hc1,he0,he6,hx512⟩:=u9 (key:=key) (tag:=tb) (v:=vb) (n:=(I:Int)) (back:=false) h.lay ⟨cB.2.2.1,cB.2.2.2.1⟩ ⟨by omega,by omega⟩;simp only[em,oBS];by_cases hne:e=0
  ·subst hne;have wx:wk .i64 x1=x1:=dP (by have:=hc1.2.2.1;dsimp only at this;omega) (by have:=hc1.2.2.2.1;dsimp only at this;omega);obtain⟨_,el,t2,x2,cs2,ls2,rfl,hc2,hm2⟩:=HJ (a:=x1) hm ⟨hc1.2.2.1,hx512 rfl⟩;simp only[wx,el,Int.reduceBEq,cond_true,cond_false,dH,hg,gA,gB,gC,e1,e2,e3,eR,eT,oBS,w1,wI,wc,gL,lI,Bool.or_false,Bool.or_true,Bool.or_self,bne_self_eq_false];exact me hm2 (mk (setOk hc2).1 (setOk hc2).2 (by omega) (by omega) (by omega)) rfl (.inl ⟨rfl,rfl⟩)
  ·simp only[bne_iff_ne.2 hne,cond_true];exact lF hm hok ⟨he0,he6⟩
 ·obtain⟨_,em,t1,x1,e,rfl,hc1,he0,he6,hx512⟩:=u9 (key:=key) (tag:=ta) (v:=va) (n:=(I:Int)) (back:=false) h.lay ⟨cA.2.2.1,cA.2.2.2.1⟩ ⟨by omega,by omega⟩;simp only[em,oBS];by_cases hne:e=0
  ·subst hne;have wx:wk .i64 x1=x1:=dP (by have:=hc1.2.2.1;dsimp only at this;omega) (by have:=hc1.2.2.2.1;dsimp only at this;omega);obtain⟨_,el,cs2,ls2,rfl,hm2⟩:=xN (a:=x1) (t:=tb) (v:=vb) hm ⟨hc1.2.2.1,hx512 rfl⟩ cB;simp only[wx,el,Int.reduceBEq,cond_true,cond_false,dH,hg,gA,gB,gC,e1,e2,e3,eR,eT,oBS,w1,wI,wc,gL,lI,Bool.or_false,Bool.or_true,Bool.or_self,bne_self_eq_false];exact me hm2 (mk hl hr (by omega) (by omega) (by omega)) rfl (.inl ⟨rfl,rfl⟩)
  ·simp only[bne_iff_ne.2 hne,cond_true];exact lF hm hok ⟨he0,he6⟩
 ·have:=hjmp (by decide);exact me hm (mk hl hr (by omega) (by omega) (by omega)) rfl (.inr rfl)
 ·have:=hjmp (by decide);by_cases hta:ta=0
  ·subst hta
   cases va==0 with
   | true=>
    simp only[BEq.rfl,Int.reduceBEq,cond_true,cond_false,dH,hg,gA,gB,gC,e1,e2,e3,eR,eT,oBS,w1,wI,wc,gL,lI,Bool.or_false,Bool.or_true,Bool.or_self,bne_self_eq_false];exact me hm (mk hl hr (by omega) (by omega) (by omega)) rfl (.inr rfl)
   | false=>
    simp only[show (false==true)=false from rfl,Int.reduceBEq,cond_true,cond_false,dH,hg,gA,gB,gC,e1,e2,e3,eR,eT,oBS,w1,wI,wc,gL,lI,Bool.or_false,Bool.or_true,Bool.or_self,bne_self_eq_false];exact me hm (mk hl hr (by omega) (by omega) (by omega)) rfl (.inr rfl)
  ·simp only[bne_iff_ne.2 hta,cond_true];exact lF hm hok (by decide)
 ·have:=hjmp (by decide);by_cases hta:ta=0
  ·subst hta
   cases va==0 with
   | true=>
    simp only[show (true==false)=false from rfl,Int.reduceBEq,cond_true,cond_false,dH,hg,gA,gB,gC,e1,e2,e3,eR,eT,oBS,w1,wI,wc,gL,lI,Bool.or_false,Bool.or_true,Bool.or_self,bne_self_eq_false];exact me hm (mk hl hr (by omega) (by omega) (by omega)) rfl (.inr rfl)
   | false=>
    simp only[BEq.rfl,Int.reduceBEq,cond_true,cond_false,dH,hg,gA,gB,gC,e1,e2,e3,eR,eT,oBS,w1,wI,wc,gL,lI,Bool.or_false,Bool.or_true,Bool.or_self,bne_self_eq_false];exact me hm (mk hl hr (by omega) (by omega) (by omega)) rfl (.inr rfl)
  ·simp only[bne_iff_ne.2 hta,cond_true];exact lF hm hok (by decide)
 ·have:=hjmp (by decide);have wj:wk .u16 ((j:Int)+1)=(j:Int)+1:=dS (by omega) (by omega);rw[wj];exact me hm (mk (setOk (kT (by omega))).1 (setOk (kT (by omega))).2 (by omega) (by omega) (by omega)) rfl (.inr rfl)
 ·by_cases hta:ta=0
  ·subst hta;have wa:wk .i64 va=va:=dP (by have:=cA.2.2.1;dsimp only at this;omega) (by have:=cA.2.2.2.1;dsimp only at this;omega);have a0:=cA.2.2.1;dsimp only at a0;by_cases hva:va > 255
   ·simp only[decide_eq_true hva,bne_self_eq_false,cond_true,cond_false];exact lF hm hok (by decide)
   ·simp only[decide_eq_false hva,wa,Int.reduceBEq,cond_true,cond_false,dH,hg,gA,gB,gC,e1,e2,e3,eR,eT,oBS,w1,wI,wc,gL,lI,Bool.or_false,Bool.or_true,Bool.or_self,bne_self_eq_false];exact me hm (mk hl hr (by omega) (by omega) (by omega)) rfl (.inr rfl)
  ·simp only[bne_iff_ne.2 hta,cond_true];exact lF hm hok (by decide)
 ·refine Ok.ret ⟨_,_,_,_,rfl,hm,⟨⟨show (0:Int)≤2 by decide,show (2:Int)≤4 by decide⟩,hl,hr,⟨by dsimp only;omega,by dsimp only;omega⟩,⟨c0,by dsimp only;omega⟩,ha,⟨s0,s1⟩,⟨r0,r1⟩,hco⟩,.inr (.inr ⟨rfl,rfl,rfl,(23,(A:Int),(B:Int),(C:Int),(I:Int)),by dsimp only;omega,?_,rfl⟩)⟩;dsimp only;rw[show (j:Int)+1 - 1=(j:Int) by omega,Int.toNat_natCast];exact hx
 ·by_cases hsa:sa=-1
  ·simp only[beq_iff_eq.2 hsa,cond_true];exact lF hm hok (by decide)
  ·simp only[beq_eq_false_iff_ne.2 hsa,Int.reduceBEq,cond_true,cond_false,dH,hg,gA,gB,gC,e1,e2,e3,eR,eT,oBS,w1,wI,wc,gL,lI,Bool.or_false,Bool.or_true,Bool.or_self,bne_self_eq_false];exact me hm (mk hl hr (by omega) (by omega) (by omega)) rfl (.inr rfl)
 ·obtain⟨_,ed,t1,x1,e,rfl,hc1,he0,he6⟩:=Nb (key:=key) (op:=op) h.lay cB cC;have n0:(op==0)=false:=beq_eq_false_iff_ne.2 (by omega);have n1:(op==1)=false:=beq_eq_false_iff_ne.2 (by omega);have n2:(op==2)=false:=beq_eq_false_iff_ne.2 (by omega);have n15:(op==15)=false:=beq_eq_false_iff_ne.2 (by omega);have n16:(op==16)=false:=beq_eq_false_iff_ne.2 (by omega);have n17:(op==17)=false:=beq_eq_false_iff_ne.2 (by omega);have n18:(op==18)=false:=beq_eq_false_iff_ne.2 (by omega);have n19:(op==19)=false:=beq_eq_false_iff_ne.2 (by omega);have n20:(op==20)=false:=beq_eq_false_iff_ne.2 (by omega);have n21:(op==21)=false:=beq_eq_false_iff_ne.2 (by omega);have n22:(op==22)=false:=beq_eq_false_iff_ne.2 (by omega);have n23:(op==23)=false:=beq_eq_false_iff_ne.2 (by omega);have n24:(op==24)=false:=beq_eq_false_iff_ne.2 (by omega);simp only[n0,n1,n2,n15,n16,n17,n18,n19,n20,n21,n22,n23,n24,ed,Int.reduceBEq,cond_true,cond_false,dH,hg,gA,gB,gC,e1,e2,e3,eR,eT,oBS,w1,wI,wc,gL,lI,Bool.or_false,Bool.or_true,Bool.or_self,bne_self_eq_false];by_cases hne:e=0
  ·subst hne;simp only[n18,n19,n20,n21,n22,n24,Int.reduceBEq,cond_true,cond_false,dH,hg,gA,gB,gC,e1,e2,e3,eR,eT,oBS,w1,wI,wc,gL,lI,Bool.or_false,Bool.or_true,Bool.or_self,bne_self_eq_false];exact me hm (mk (setOk hc1).1 (setOk hc1).2 (by omega) (by omega) (by omega)) rfl (.inl ⟨rfl,rfl⟩)
  ·simp only[bne_iff_ne.2 hne,cond_true];exact lF hm hok ⟨he0,he6⟩
theorem wz.mono{K:Int→Prop}{n m:Int}{t:DTh}(h:wz K n t) (hm:n≤m):wz K m t:=⟨h.state,h.len,h.regs,h.pc,⟨h.count.1,by have:=h.count.2;omega⟩,h.handler,h.saved,h.trap,h.code⟩
theorem MOk.mono{n m:Int}{ss bs:List Int}{cs:List DCe}{ls:List DLn}{ts:List DTh}(h:MOk n ss bs cs ls ts) (hm:n≤m):MOk m ss bs cs ls ts:=⟨h.lay,h.mem,h.tlen,fun t ht=>(h.thr t ht).mono hm⟩
theorem yw{α:Type}{l:List α}{i:Nat}{a:α}(h:l[i]?=some a):l.set i a=l:=by
 apply List.ext_getElem?;intro j;rw[List.getElem?_set];split
 ·rename_i hij;subst hij;have:=(oGS h).1;rw[if_pos this,h]
 ·rfl
def No(code:List DIn) (s:Int) (t':DTh):Prop:=
 (s=0∧t'.1=1)∨(s=2∧t'.1=4)∨(s=1∧t'.1=2∧∃i:DIn,1≤t'.2.2.1∧code[(t'.2.2.1 - 1).toNat]?=some i∧i.1=23)
def LX(n key:Int) (code:List DIn) (ss bs:List Int) (ts:List DTh) (i:Nat) (r:List Int×Int×List DCe×List DLn×List DTh×Int×Int×Unit):Prop:=
 ∃s cs' ls' t',r=(bs,key,cs',ls',ts.set i t',s,0,())∧i6 (RK bs ss) cs' ls'∧wz (RK bs ss) n t'∧((s=3∧ts[i]?=some t'∧t'.1≠1)∨No code s t')
def M4(i:Nat) (s:Int×Int×(List DIn)×(List (Int))×(List (List (Int)))×Unit×Int×Unit×Unit×Unit×(List (Int))×Int×(List DCe)×(List DLn)×(List DTh)×Unit):Nat:=
 match s.2.2.2.2.2.2.2.2.2.2.2.2.2.2.1[i]? with
 | some t=>((s.2.1 - t.2.2.2.1)*256+(255 - t.2.2.1)).toNat
 | none=>0
theorem CE{i:Nat}{a b k:Int}{code:List DIn}{ss bs:List Int}{d:List (List Int)}{cs:List DCe}{ls:List DLn}{ts:List DTh}{t:DTh}(h:ts[i]?=some t):M4 i (a,b,code,ss,d,(),0,(),(),(),bs,k,cs,ls,ts,())=((b - t.2.2.2.1)*256+(255 - t.2.2.1)).toNat:=by
 unfold M4;dsimp only;rw[h]
theorem IN{n key k:Int}{code:List DIn}{ss bs:List Int}{d:List (List Int)}{cs:List DCe}{ls:List DLn}{ts:List DTh}{i:Nat}(hp:jW code ss d) (h:MOk n ss bs cs ls ts) (hn0:0≤n) (hn:n+64≤1099511627776) (hi:i < 4) (hk:1≤k∧k≤64) :
 Ok (lm code ss d bs key cs ls ts (i:Int) k) (LX (n+64) key code ss bs ts i):=by
 have htl:=h.tlen;obtain⟨t,ht⟩:∃t,ts[i]?=some t:=⟨_,oGE (by omega)⟩;have hg:dF ts i=some t:=ht
 have hil:i < ts.length:=by omega
 have hok:=h.thr t (dK ht);unfold lm;rw[sw hp h (by omega)];simp only[oBS,Bool.not_true,cond_false,pa h,dH,hg];rw[decide_eq_false (show ¬ (i:Int) < 0 by omega),decide_eq_false (show ¬ (i:Int)≥4 by omega),decide_eq_false (show ¬ k < 1 by omega),decide_eq_false (show ¬ k > 64 by omega)];simp only[oBS,cond_false,pa h,dH,hg]
 (with_reducible refine Ok.cb (fun hca=>?_) (fun hca=>?_))
 ·refine Ok.ret ⟨3,cs,ls,t,?_,h.mem,hok.mono (by omega),.inl ⟨rfl,ht,hca⟩⟩;rw[yw ht]
 have hct:=hok.count;have hpc:=hok.pc;rw[dL (x:=t.2.2.2.1+k) (by omega) (by omega)]
 refine Ok.loop (P:=fun s'=>∃cs' ls' t',s'=((i:Int),t.2.2.2.1+k,code,ss,d,(),0,(),(),(),bs,key,cs',ls',ts.set i t',())∧i6 (RK bs ss) cs' ls'∧wz (RK bs ss) (n+64) t'∧t'.1=1∧t'.2.2.2.1 < t.2.2.2.1+k)
  (R:=fun r=>∃s cs' ls' t',r=(s,0,bs,key,cs',ls',ts.set i t',())∧i6 (RK bs ss) cs' ls'∧wz (RK bs ss) (n+64) t'∧No code s t') (m:=M4 i) ⟨cs,ls,t,by rw[yw ht],h.mem,hok.mono (by omega),hca,by omega⟩ ?_ ?_ ?_
 ·rw[CE ht];unfold NN;omega
 ·rintro _ ⟨cs',ls',t',rfl,hm,hth,hr,hlt⟩;have ht':(ts.set i t')[i]?=some t':=gd hil t';unfold ox;dsimp only;refine (Mm hp (((h.mono (show n≤n+64 by omega)).set hm hth):MOk (n+64) ss bs cs' ls' (ts.set i t')) ht' hr (by omega) (by omega)).bind ?_;rintro _ ⟨s,cs2,ls2,t2,rfl,hm2,hth2,hs2⟩;dsimp only;rw[List.set_set]
  (with_reducible refine Ok.cb (fun hcb=>?_) (fun hcb=>?_))
  ·refine Ok.ret ⟨_,_,_,_,rfl,hm2,hth2,?_⟩;rcases hs2 with ⟨q,_⟩ | ⟨q1,q2,_⟩ | ⟨q1,q2,_,q3⟩
   ·exact absurd q hcb
   ·exact .inr (.inl ⟨q1,q2⟩)
   ·exact .inr (.inr ⟨q1,q2,q3⟩)
  ·rw[dH];simp only[oBS,gd hil];have h0:=hth2.count;have h1:=hth2.pc;have h2:=hth.pc;rcases hs2 with ⟨_,q1,q2⟩ | ⟨q1,_⟩ | ⟨q1,_⟩
   ·(with_reducible refine Ok.cb (fun hcc=>?_) (fun hcc=>?_))
    ·exact Ok.ret ⟨_,_,_,_,rfl,hm2,hth2,.inl ⟨rfl,q1⟩⟩
    ·refine Ok.ret ⟨⟨_,_,_,rfl,hm2,hth2,q1,by omega⟩,?_⟩;rw[CE ht',CE (gd hil t2)];omega
   ·omega
   ·omega
 ·rintro _ ⟨s,cs',ls',t',rfl,hm,hth,hs⟩;exact Ok.ret ⟨_,_,_,_,rfl,hm,hth,.inr hs⟩
def Hf(bs ss:List Int) (a:Int):Nat→Nat→Option (Int×Int)
 | 0,_=>none
 | n+1,k=>if bs.getD k 0≤a∧a < bs.getD k 0+ss.getD k 0 then some ((k:Int),a - bs.getD k 0) else Hf bs ss a n (k+1)
def Je(bs ss:List Int) (a:Int):Option (Int×Int):=Hf bs ss a bs.length 0
theorem Hd{bs ss:List Int}{a r o:Int}:∀{n k:Nat},k+n=bs.length→bs.length=ss.length→Hf bs ss a n k=some (r,o)→∃(j:Nat) (b z:Int),r=j∧o=a - b∧bs[j]?=some b∧ss[j]?=some z∧b≤a∧a < b+z:=by
 intro n
 induction n with
 | zero=>intro k _ _ h;cases h
 | succ n ih=>
  intro k hk hl h;simp only[Hf] at h;split at h
  ·rename_i hh
   injection h with h
   injection h with h1 h2
   refine⟨k,_,_,h1.symm,h2.symm,?_,?_,hh.1,hh.2⟩
   ·rw[Dy (by omega)];exact oGE (by omega)
   ·rw[Dy (by omega)];exact oGE (by omega)
  ·exact ih (by omega) hl h
theorem He{bs ss:List Int}{a:Int}:∀{n k:Nat},k+n=bs.length→Hf bs ss a n k=none→∀(j:Nat) (b z:Int),k≤j→bs[j]?=some b→ss[j]?=some z→¬ (b≤a∧a < b+z):=by
 intro n
 induction n with
 | zero=>
  intro k hk _ j b z hj hb;have:=(oGS hb).1;omega
 | succ n ih=>
  intro k hk h j b z hj hb hz;simp only[Hf] at h;split at h
  ·cases h
  ·rename_i hh;by_cases hjk:j=k
   ·subst hjk;rw[ej hb,ej hz] at hh;exact hh
   ·exact ih (by omega) h j b z (by omega) hb hz
theorem AN{bs ss:List Int}{a r o:Int}(hl:bs.length=ss.length) (h:Je bs ss a=some (r,o)):∃(j:Nat) (b z:Int),r=j∧o=a - b∧bs[j]?=some b∧ss[j]?=some z∧b≤a∧a < b+z:=Hd (by omega) hl h
theorem Lj{bs ss:List Int}{a:Int}(h:RK bs ss a):∃r o,Je bs ss a=some (r,o):=by
 cases e:Je bs ss a with
 | some x=>exact⟨x.1,x.2,rfl⟩
 | none=>
  obtain⟨j,b,z,h1,h2,h3,h4⟩:=h;exact absurd ⟨h3,h4⟩ (He (by omega) e j b z (by omega) h1 h2)
theorem xT{bs ss:List Int}{key a:Int}(h:LV bs ss) (ha:W16 a):eO bs key ss a=some (match Je bs ss a with | some (r,o)=>(r,o,true,()) | none=>(0,0,false,())):=by
 obtain⟨hs,hl,hr⟩:=h;obtain⟨a0,a1⟩:=ha;have hs4:=hs.2.1
 have key1:∀(n k N:Nat),k+n=bs.length→n < N→dO eu N (ss,a,bs,(bs.length:Int),(k:Int),bs,key,0,0,())=some (match Hf bs ss a n k with | some (r,o)=>.inl (true,r,o,()) | none=>.inr (ss,a,bs,(bs.length:Int),(bs.length:Int),false,bs,key,0,0,())):=by
  intro n
  induction n with
  | zero=>
   intro k N hk hN;obtain⟨N,rfl⟩:∃M,N=M+1:=⟨N - 1,by omega⟩
   obtain rfl:k=bs.length:=by omega
   have e:eu (ss,a,bs,(bs.length:Int),(bs.length:Int),bs,key,0,0,())=some (.inr (.inr (ss,a,bs,(bs.length:Int),(bs.length:Int),false,bs,key,0,0,()))):=by
    refine Ok.eq ?_;unfold eu;dsimp only
    (with_reducible refine Ok.cb (fun hca=>?_) (fun hca=>?_))
    ·omega
    ·exact Ok.ret rfl
   simp only[dO,e,oBS,Hf]
  | succ n ih=>
   intro k N hk hN;obtain⟨N,rfl⟩:∃M,N=M+1:=⟨N - 1,by omega⟩;obtain⟨b,hb⟩:∃b,bs[k]?=some b:=⟨_,oGE (by omega)⟩;obtain⟨z,hz⟩:∃z,ss[k]?=some z:=⟨_,oGE (by omega)⟩;have hz2:=hs.2.2 z (dK hz);have hrk:=hr k (by omega);unfold uv at hrk;rw[ej hb,ej hz] at hrk;by_cases hh:b≤a∧a < b+z
   ·have e:eu (ss,a,bs,(bs.length:Int),(k:Int),bs,key,0,0,())=some (.inr (.inl (true,(k:Int),a - b,()))):=by
     refine Ok.eq ?_;unfold eu;dsimp only;rw[decide_eq_true (show (k:Int) < bs.length by omega),dH];simp only[cond_true,oBS,show dF bs k=some b from hb,show dF ss k=some z from hz];rw[decide_eq_true (show a≥b by omega),dL (x:=b+z) (by omega) (by omega),decide_eq_true hh.2,dL (x:=a - b) (by omega) (by omega)];exact Ok.ret rfl
    simp only[dO,e,oBS,Hf,ej hb,ej hz,if_pos hh]
   ·have e:eu (ss,a,bs,(bs.length:Int),(k:Int),bs,key,0,0,())=some (.inl (ss,a,bs,(bs.length:Int),((k+1:Nat):Int),bs,key,0,0,())):=by
     refine Ok.eq ?_;unfold eu;dsimp only;rw[decide_eq_true (show (k:Int) < bs.length by omega),dH];simp only[cond_true,oBS,show dF bs k=some b from hb,show dF ss k=some z from hz];rw[dL (x:=b+z) (by omega) (by omega)];by_cases h1:a≥b
     ·rw[decide_eq_true h1,decide_eq_false (show ¬ a < b+z by omega)];simp only[cond_true,cond_false];rw[dL (x:=(k:Int)+1) (by omega) (by omega)];exact Ok.ret rfl
     ·rw[decide_eq_false h1];simp only[cond_false];rw[dL (x:=(k:Int)+1) (by omega) (by omega)];exact Ok.ret rfl
    simp only[dO,e,oBS,Hf,ej hb,ej hz,if_neg hh];exact ih (k+1) N (by omega) (by omega)
 unfold eO Je;delta dI
 try dsimp only
 rw[show dO eu NN (ss,a,bs,(bs.length:Int),0,bs,key,0,0,())=_ from key1 bs.length 0 NN (by omega) (by unfold NN;omega)]
 cases Hf bs ss a bs.length 0 with
 | some x=>rfl
 | none=>rfl
def qp(bs ss:List Int) (key:Int) (c:DCe):DCn:=
 if c.1=0 then (0,c.2,0,0) else if c.1=2 then (2,wk .u16 (c.2 - key),0,0) else match Je bs ss c.2 with | some (r,o)=>(1,0,r,o) | none=>(1,0,-1,c.2)
theorem p5{K:Int→Prop}{bs ss:List Int}{key:Int}{c:DCe}(h:LV bs ss) (hc:mw K c):gp bs key ss c.1 c.2=some ((qp bs ss key c).1,(qp bs ss key c).2.1,(qp bs ss key c).2.2.1,(qp bs ss key c).2.2.2,()):=by
 obtain⟨c0,c1,c2,c3,_⟩:=hc;unfold gp qp;rw[dP (x:=c.2) (by omega) (by omega)];dsimp only;rw[xT h ⟨c2,c3⟩]
 rcases (show c.1=0∨c.1=1∨c.1=2 by omega) with e | e | e<;>rw[e]
 ·rfl
 ·simp only[Int.reduceBEq,Int.reduceEq,cond_false,if_false,oBS]
  cases Je bs ss c.2 with
  | some x=>rfl
  | none=>rfl
 ·rfl
theorem lW(x:Int):W16 (wk .u16 x):=nC x
theorem At{bs ss:List Int}{key:Int}{c:DCe}(h:LV bs ss) (hc:mw (RK bs ss) c):Pr ss (qp bs ss key c):=by
 obtain⟨c0,c1,c2,c3,c4⟩:=hc;unfold qp;rcases (show c.1=0∨c.1=1∨c.1=2 by omega) with e | e | e
 ·rw[if_pos e];exact .inl ⟨.inl rfl,rfl,rfl,c2,c3⟩
 ·rw[if_neg (by omega),if_neg (by omega)];obtain⟨r,o,hro⟩:=Lj (c4 e);rw[hro];obtain⟨j,b,z,rfl,rfl,h1,h2,h3,h4⟩:=AN h.2.1 hro;exact .inr ⟨rfl,rfl,by dsimp only;omega,z,by rw[Int.toNat_natCast];exact h2,by dsimp only;omega,by dsimp only;omega⟩
 ·rw[if_neg (by omega),if_pos e];exact .inl ⟨.inr rfl,rfl,rfl,lW _⟩
theorem EJ{K:Int→Prop}{bs ss:List Int}{key:Int}{c:DCe}(hc:mw K c):(qp bs ss key c).1=c.1∧(c.1=0→(qp bs ss key c).2.1=c.2):=by
 obtain⟨c0,c1,_⟩:=hc;unfold qp;rcases (show c.1=0∨c.1=1∨c.1=2 by omega) with e | e | e
 ·rw[if_pos e];exact⟨e.symm,fun _=>rfl⟩
 ·rw[if_neg (by omega),if_neg (by omega)]
  cases Je bs ss c.2 with
  | some x=>exact⟨e.symm,fun h=>by omega⟩
  | none=>exact⟨e.symm,fun h=>by omega⟩
 ·rw[if_neg (by omega),if_pos e];exact⟨e.symm,fun h=>by omega⟩
def CZ(cs:List DCe) (ls:List DLn) (a:Int):DCe:=
 match ls[(a / 4 % 4).toNat]? with
 | some x=>if x.1=a / 4 then x.2.2.getD (a % 4).toNat (0,0) else cs.getD a.toNat (0,0)
 | none=>(0,0)
theorem getD_some{α:Type}{l:List α}{k:Nat}{d x:α}(h:l[k]?=some x):l.getD k d=x:=by rw[List.getD_eq_getElem?_getD,h];rfl
theorem yK{K:Int→Prop}{cs:List DCe}{ls:List DLn}{a:Int}(h:i6 K cs ls) (ha:0≤a∧a < 512):kL cs ls a=some ((CZ cs ls a).1,(CZ cs ls a).2,())∧mw K (CZ cs ls a):=by
 obtain⟨a0,a1⟩:=ha;obtain⟨h1,h2,h3,h4,_⟩:=id h;unfold kL CZ;rw[Int.tdiv_eq_ediv_of_nonneg a0,dL (x:=a / 4) (by omega) (by omega)];dsimp only;rw[Int.tmod_eq_emod_of_nonneg (show 0≤a / 4 by omega),Int.tmod_eq_emod_of_nonneg a0];obtain⟨i,hi⟩:∃i:Nat,a / 4 % 4=i:=⟨(a / 4 % 4).toNat,by omega⟩;rw[hi,dH,Int.toNat_natCast];obtain⟨x,hx⟩:∃x,ls[i]?=some x:=⟨_,oGE (by omega)⟩;simp only[oBS,show dF ls i=some x from hx,hx];by_cases hq:x.1=a / 4
 ·rcases h4 i x hx with ⟨g,_,_⟩ | ⟨_,_,_,g4,g5⟩
  ·omega
  ·obtain⟨j,hj⟩:∃j:Nat,a % 4=j:=⟨(a % 4).toNat,by omega⟩;obtain⟨y,hy⟩:∃y,x.2.2[j]?=some y:=⟨_,oGE (by omega)⟩;rw[hj,dH,Int.toNat_natCast,if_pos hq,getD_some hy,beq_iff_eq.2 hq];simp only[cond_true,oBS,show dF x.2.2 j=some y from hy];exact⟨trivial,g5 y (dK hy)⟩
 ·obtain⟨j,rfl⟩:∃j:Nat,a=j:=⟨a.toNat,by omega⟩;obtain⟨y,hy⟩:∃y,cs[j]?=some y:=⟨_,oGE (by omega)⟩;rw[if_neg hq,beq_eq_false_iff_ne.2 hq,dH,Int.toNat_natCast,getD_some hy];simp only[cond_false,oBS,show dF cs j=some y from hy];exact⟨trivial,h2 y (dK hy)⟩
def kB(call:Int):List Int:=
 if call=0∨call=8∨call=9∨call=11∨call=12 then [78] else if call=1∨call=2 then [72,80,78] else if call=3 then [78,78] else if call=4 then [72] else if call=5 then [72,78]
 else if call=10 then [78,88] else if call=13∨call=14 then [78,80,78] else []
theorem HO(call:Int):(kB call).length≤3:=by
 unfold kB
 repeat' split
 all_goals simp
def BOk(b:ByteArray) (l:List Int):Prop:=yr b=(l.length:Int)∧∀j:Nat,xM b j=l[j]?
theorem NB:BOk (bytes []) []:=⟨rfl,fun j=>rfl⟩
theorem NA{a:Nat}(h:a < 256):BOk (bytes [a]) [(a:Int)]:=⟨rfl,fun j=>by
 match j with
 | 0=>show some (((UInt8.ofNat a).toNat:Nat):Int)=some (a:Int);simp;omega
 | n+1=>rfl⟩
theorem Nz{a b:Nat}(h:a < 256) (hb:b < 256):BOk (bytes [a,b]) [(a:Int),(b:Int)]:=⟨rfl,fun j=>by
 match j with
 | 0=>show some (((UInt8.ofNat a).toNat:Nat):Int)=some (a:Int);simp;omega
 | 1=>show some (((UInt8.ofNat b).toNat:Nat):Int)=some (b:Int);simp;omega
 | n+2=>rfl⟩
theorem Ny{a b c:Nat}(h:a < 256) (hb:b < 256) (hc:c < 256):BOk (bytes [a,b,c]) [(a:Int),(b:Int),(c:Int)]:=⟨rfl,fun j=>by
 match j with
 | 0=>show some (((UInt8.ofNat a).toNat:Nat):Int)=some (a:Int);simp;omega
 | 1=>show some (((UInt8.ofNat b).toNat:Nat):Int)=some (b:Int);simp;omega
 | 2=>show some (((UInt8.ofNat c).toNat:Nat):Int)=some (c:Int);simp;omega
 | n+3=>rfl⟩
theorem s7{call:Int}(h:0≤call∧call≤15):call=0∨call=1∨call=2∨call=3∨call=4∨call=5∨call=6∨call=7∨call=8∨call=9∨call=10∨call=11∨call=12∨call=13∨call=14∨call=15:=by omega
theorem yM{call:Int}(h:0≤call∧call≤15):∃b,jw call=some (b,())∧BOk b (kB call):=by
 rcases s7 h with rfl | rfl | rfl | rfl | rfl | rfl | rfl | rfl | rfl | rfl | rfl | rfl | rfl | rfl | rfl | rfl
 all_goals first
  | exact⟨_,rfl,NB⟩
  | exact⟨_,rfl,NA (by decide)⟩
  | exact⟨_,rfl,Nz (by decide) (by decide)⟩
  | exact⟨_,rfl,Ny (by decide) (by decide) (by decide)⟩
def JV(k t:Int):Bool:=if k=78 then t==0 else if k=72 then t==2 else if k=80 then t==1 else true
theorem Ic(k t:Int):kJ k t=some (JV k t,()):=by
 unfold kJ JV;by_cases h1:k=78
 ·simp[h1]
 ·by_cases h2:k=72
  ·simp[h2]
  ·by_cases h3:k=80
   ·simp[h3]
   ·simp[h1,h2,h3,beq_eq_false_iff_ne.2 h1,beq_eq_false_iff_ne.2 h2,beq_eq_false_iff_ne.2 h3]
def p6(call:Int):Int:=if call=1∨call=13 then 1 else if call=2∨call=14 then 2 else 0
theorem sn{call:Int}(h:0≤call∧call≤15):gN call=some (p6 call,()):=by
 rcases s7 h with rfl | rfl | rfl | rfl | rfl | rfl | rfl | rfl | rfl | rfl | rfl | rfl | rfl | rfl | rfl | rfl<;>rfl
theorem ui{call:Int}(h:0≤call∧call≤15):f9 call=some (((kB call).length:Int),()):=by
 obtain⟨b,e,hb⟩:=yM h;unfold f9;rw[decide_eq_false (show ¬ call < 0 by omega),decide_eq_false (show ¬ call > 15 by omega),e];simp only[cond_false,oBS,hb.1]
theorem Gg{bs ss:List Int}{key t v n:Int}(h:LV bs ss) (hv:W16 v) (hn:0≤n∧n≤65535):Ok (kn bs key ss t v n) fun r=>∃a e,r=(a,e,())∧(e=0→t=1∧a=v∧∃(j:Nat) (b z:Int),bs[j]?=some b∧ss[j]?=some z∧b≤v∧v+n≤b+z∧v < b+z):=by
 obtain⟨v0,v1⟩:=hv;unfold kn
 (with_reducible refine Ok.cb (fun hca=>?_) (fun hca=>?_))
 ·exact Ok.ret ⟨_,_,rfl,fun h=>by omega⟩
 rw[dP (x:=v) (by omega) (by omega)];dsimp only;rw[xT h ⟨v0,v1⟩];simp only[oBS]
 cases e:Je bs ss v with
 | none=>exact Ok.ret ⟨_,_,rfl,fun h=>by omega⟩
 | some x=>
  obtain⟨r,o⟩:=x;obtain⟨j,b,z,rfl,rfl,h1,h2,h3,h4⟩:=AN h.2.1 e;have hj:=(oGS h1).1;have hr:=h.2.2 j hj;unfold uv at hr;rw[ej h1,ej h2] at hr;have hz:=h.1.2.2 z (dK h2);dsimp only;rw[decide_eq_false (show ¬ n < 0 by omega),dH];simp only[Bool.not_true,cond_false,oBS,show dF ss j=some z from h2];rw[dL (x:=z - (v - b)) (by omega) (by omega)]
  (with_reducible refine Ok.cb (fun hcb=>?_) (fun hcb=>?_))
  ·exact Ok.ret ⟨_,_,rfl,fun h=>by omega⟩
  ·exact Ok.ret ⟨_,_,rfl,fun _=>⟨hca,dP (by omega) (by omega),j,b,z,h1,h2,h3,by omega,h4⟩⟩
structure IB (call:Int) (m:Int) (bs ss:List Int) (rs:List DCe):Prop where
 fit:∀(j:Nat) k c,(kB call)[j]?=some k→rs[j]?=some c→JV k c.1=true
 buf:0 < p6 call→∃p q,rs[1]?=some p∧rs[2]?=some q∧q.2≤16∧p.1=1∧∃(j:Nat) (b z:Int),bs[j]?=some b∧ss[j]?=some z∧b≤p.2∧p.2+q.2≤b+z
 code:call=10∨call=12→∃c,rs[0]?=some c∧c.2 < m
theorem DO{call m:Int}{bs ss:List Int}{rs:List DCe}(h:IB call m bs ss rs):Ok (some ((0:Int),())) fun r=>∃e,r=(e,())∧0≤e∧e≤6∧(e=0→IB call m bs ss rs):=Ok.ret ⟨0,rfl,by decide,by decide,fun _=>h⟩
theorem wd{call m:Int}{bs ss:List Int}{rs:List DCe}:Ok (some ((6:Int),())) fun r=>∃e,r=(e,())∧0≤e∧e≤6∧(e=0→IB call m bs ss rs):=Ok.ret ⟨6,rfl,by decide,by decide,fun h=>absurd h (by decide)⟩
theorem F4{n key:Int}{code:List DIn}{ss bs:List Int}{d:List (List Int)}{cs:List DCe}{ls:List DLn}{ts:List DTh}{i:Nat}{t:DTh}{x:DIn}(h:MOk n ss bs cs ls ts) (ht:ts[i]?=some t) (hp1:1≤t.2.2.1)
 (hx:code[(t.2.2.1 - 1).toNat]?=some x) (hc:0≤x.2.2.2.2∧x.2.2.2.2≤15):Ok (ll code ss d bs key cs ls ts (i:Int)) fun r=>∃e,r=(e,())∧0≤e∧e≤6∧(e=0→IB x.2.2.2.2 code.length bs ss t.2.1):=by
 have hok:=h.thr t (dK ht);obtain⟨_,hl,hr,⟨p0,p1⟩,_⟩:=id hok;obtain⟨o,A,B,C,call⟩:=x;dsimp only at hc ⊢;obtain⟨b,eb,hb1,hb2⟩:=yM hc;have hk3:=HO call;obtain⟨st,rs,pc,rest⟩:=t;dsimp only at *;obtain⟨j,hj⟩:∃j:Nat,pc - 1=j:=⟨(pc - 1).toNat,by omega⟩;rw[hj,Int.toNat_natCast] at hx;unfold ll;rw[dH];simp only[oBS,show dF ts i=some (st,rs,pc,rest) from ht];rw[dL (x:=pc - 1) (by omega) (by omega),hj,dH];simp only[oBS,show dF code j=some (o,A,B,C,call) from hx,eb,hb1];obtain⟨c0,hc0⟩:∃c,rs[0]?=some c:=⟨_,oGE (by omega)⟩;obtain⟨c1,hc1⟩:∃c,rs[1]?=some c:=⟨_,oGE (by omega)⟩;obtain⟨c2,hc2⟩:∃c,rs[2]?=some c:=⟨_,oGE (by omega)⟩;have v0:=hr c0 (dK hc0);have v1:=hr c1 (dK hc1);have v2:=hr c2 (dK hc2);have g0:dF rs 0=some c0:=hc0;have g1:dF rs 1=some c1:=hc1;have g2:dF rs 2=some c2:=hc2
 obtain⟨y,e,hy⟩:=Ok.iter (f:=kY) (n:=NN) (s:=(call,b,((kB call).length:Int),0,code,ss,d,bs,key,cs,ls,ts,st,rs,pc,rest.1,rest.2.1,rest.2.2.1,rest.2.2.2.1,rest.2.2.2.2,()))
  (P:=fun s'=>∃q:Nat,s'=(call,b,((kB call).length:Int),(q:Int),code,ss,d,bs,key,cs,ls,ts,st,rs,pc,rest.1,rest.2.1,rest.2.2.1,rest.2.2.2.1,rest.2.2.2.2,())∧q≤(kB call).length∧∀(j:Nat) k c,j < q→(kB call)[j]?=some k→rs[j]?=some c→JV k c.1=true)
  (R:=fun r=>r=.inl (6,())∨(∃q,r=.inr (call,b,((kB call).length:Int),q,false,code,ss,d,bs,key,cs,ls,ts,st,rs,pc,rest.1,rest.2.1,rest.2.2.1,rest.2.2.2.1,rest.2.2.2.2,())∧∀(j:Nat) k c,(kB call)[j]?=some k→rs[j]?=some c→JV k c.1=true))
  (m:=fun s'=>(s'.2.2.1 - s'.2.2.2.1).toNat) ⟨0,rfl,by omega,fun j k c hj=>by omega⟩ (by unfold NN;dsimp only;omega) (by
   rintro _ ⟨q,rfl,hq,hfit⟩;unfold kY;dsimp only
   (with_reducible refine Ok.cb (fun hca=>?_) (fun hca=>?_))
   ·rw[dH];obtain⟨k,hk⟩:∃k,(kB call)[q]?=some k:=⟨_,oGE (by omega)⟩;obtain⟨c,hcq⟩:∃c,rs[q]?=some c:=⟨_,oGE (by omega)⟩;simp only[oBS,hb2 q,hk,show dF rs q=some c from hcq,Ic]
    (with_reducible refine Ok.cb (fun hcb=>?_) (fun hcb=>?_))
    ·exact Ok.ret (.inl rfl)
    ·rw[dL (x:=(q:Int)+1) (by omega) (by omega)];refine Ok.ret ⟨⟨q+1,rfl,by omega,fun j' k' c' hj' h1 h2=>?_⟩,by dsimp only;omega⟩;by_cases hjq:j'=q
     ·subst hjq;rw[hk] at h1;rw[hcq] at h2;cases h1;cases h2;exact hcb
     ·exact hfit j' k' c' (by omega) h1 h2
   ·refine Ok.ret (.inr ⟨_,rfl,fun j k c h1 h2=>hfit j k c ?_ h1 h2⟩);have:=(oGS h1).1
    omega)
 rw[e];rcases hy with rfl | ⟨q,rfl,hfit⟩
 ·exact wd
 dsimp only;rw[sn hc];delta dI;simp only[oBS,g0,g1,g2];rw[dP (x:=c2.2) (by have:=v2.2.2.1;omega) (by have:=v2.2.2.2.1;omega),dP (x:=c0.2) (by have:=v0.2.2.1;omega) (by have:=v0.2.2.2.1;omega)]
 have fin:(0 < p6 call→∃p q,rs[1]?=some p∧rs[2]?=some q∧q.2≤16∧p.1=1∧∃(j:Nat) (b z:Int),bs[j]?=some b∧ss[j]?=some z∧b≤p.2∧p.2+q.2≤b+z)→Ok ((bif (call==10) then (some ((decide (c0.2≥(code.length:Int))),())) else
  bif (call==12) then (some ((decide (c0.2≥(code.length:Int))),())) else some (false,()):Option (Bool×Unit)).bind fun(x35,_)=>bif x35 then (some ((6:Int),())) else some (0,()))
  fun r=>∃e,r=(e,())∧0≤e∧e≤6∧(e=0→IB call code.length bs ss rs):=by
  intro hbuf;by_cases q10:call=10
  ·simp only[beq_iff_eq.2 q10,cond_true,oBS]
   (with_reducible refine Ok.cb (fun hcb=>?_) (fun hcb=>?_))
   ·exact wd
   ·exact DO ⟨hfit,hbuf,fun _=>⟨c0,hc0,by omega⟩⟩
  ·by_cases q12:call=12
   ·simp only[beq_eq_false_iff_ne.2 q10,beq_iff_eq.2 q12,cond_true,cond_false,oBS]
    (with_reducible refine Ok.cb (fun hcb=>?_) (fun hcb=>?_))
    ·exact wd
    ·exact DO ⟨hfit,hbuf,fun _=>⟨c0,hc0,by omega⟩⟩
   ·simp only[beq_eq_false_iff_ne.2 q10,beq_eq_false_iff_ne.2 q12,cond_false,oBS];exact DO ⟨hfit,hbuf,fun h=>by omega⟩
 (with_reducible refine Ok.cb (fun hca=>?_) (fun hca=>?_))
 ·refine (Gg (t:=c1.1) (v:=c1.2) (n:=c2.2) h.lay ⟨v1.2.2.1,v1.2.2.2.1⟩ ⟨v2.2.2.1,v2.2.2.2.1⟩).bind ?_;rintro _ ⟨a,e,rfl,he⟩;dsimp only
  (with_reducible refine Ok.cb (fun hcb=>?_) (fun hcb=>?_))
  ·exact wd
  obtain⟨w1,_,j,b',z,w2,w3,w4,w5,w6⟩:=he hcb
  (with_reducible refine Ok.cb (fun hcc=>?_) (fun hcc=>?_))
  ·exact wd
  exact fin fun _=>⟨c1,c2,hc1,hc2,by omega,w1,j,b',z,w2,w3,w4,w5⟩
 ·exact fin fun h=>by omega
structure xF (n:Int) (ss:List Int) (i stop trap count pc call:Int) (args data:List DCn):Prop where
 hthr:0≤i∧i < 4
 hstop:0≤stop∧stop≤3
 htrap:0≤trap∧trap≤6
 hcnt:0≤count∧count≤n
 hpc:0≤pc∧pc≤255
 hcall:0≤call∧call≤15
 hargs:args.length≤3∧∀c∈args,Pr ss c
 hdata:data.length≤16∧∀c∈data,Pr ss c
 hkind:stop=1→args.length=(kB call).length∧∀(j:Nat) k a,(kB call)[j]?=some k→args[j]?=some a→JV k a.1=true
 hbuf:stop=1→p6 call=2→∃a,args[2]?=some a∧a.2.1≤16
def NH(stop trap:Int) (t':DTh):Prop:=(stop=0∧t'.1=1)∨(stop=1∧t'.1=2)∨(stop=2∧t'.1=4∧t'.2.2.2.2.2.2.1=trap)∨(stop=3∧t'.1≠1)
def EQ(n key:Int) (ss bs:List Int) (ts:List DTh) (i:Nat) (r:(List (Int))×Int×(List DCe)×(List DLn)×(List DTh)×Int×Int×Int×Int×Int×Int×(List DCn)×(List DCn)×Int×Unit):Prop:=
 ∃cs' ls' t' stop trap call args data,r=(bs,key,cs',ls',ts.set i t',(i:Int),stop,trap,t'.2.2.2.1,t'.2.2.1,call,args,data,0,())∧i6 (RK bs ss) cs' ls'∧wz (RK bs ss) n t' ∧
  xF n ss i stop trap t'.2.2.2.1 t'.2.2.1 call args data∧NH stop trap t'∧(stop=3→ts[i]?=some t')
theorem uy{n:Int}{ss bs:List Int}{i:Nat}{t':DTh}{stop trap:Int}(hi:i < 4) (ht:wz (RK bs ss) n t') (hs:0≤stop∧stop≤3) (hs1:stop≠1) (htr:0≤trap∧trap≤6):xF n ss i stop trap t'.2.2.2.1 t'.2.2.1 0 [] []:=
 ⟨⟨by omega,by omega⟩,hs,htr,ht.count,ht.pc,by decide,⟨by decide,dX⟩,⟨by decide,dX⟩,fun h=>absurd h hs1,fun h=>absurd h hs1⟩
theorem gw{α β:Type}(f:α→β) {l:List α}{k:Nat}{x:α}(h:l[k]?=some x):(l.take k).map f++[f x]=(l.take (k+1)).map f:=by
 rw[List.take_add_one,h];simp
theorem m0{β:Type}(f:Nat→β) (k:Nat):(List.range k).map f++[f k]=(List.range (k+1)).map f:=by
 rw[List.range_succ];simp
set_option maxHeartbeats 4000000 in
theorem uR{n key k:Int}{code:List DIn}{ss bs:List Int}{d:List (List Int)}{cs:List DCe}{ls:List DLn}{ts:List DTh}{i:Nat}(hp:jW code ss d) (h:MOk n ss bs cs ls ts) (hn0:0≤n) (hn:n+64≤1099511627776) (hi:i < 4) (hk:1≤k∧k≤64) :
 Ok (kK code ss d bs key cs ls ts (i:Int) k) (EQ (n+64) key ss bs ts i):=by
 have htl:=h.tlen
 have hil:i < ts.length:=by omega
 unfold kK;refine (IN hp h hn0 hn hi hk).bind ?_;rintro _ ⟨s,cs',ls',t',rfl,hm,ht',hs⟩;have hM:MOk (n+64) ss bs cs' ls' (ts.set i t'):=(h.mono (show n≤n+64 by omega)).set hm ht';have hgt:(ts.set i t')[i]?=some t':=gd hil t';dsimp only;simp only[bne_self_eq_false,cond_false,dH,oBS,gd hil];rcases hs with ⟨rfl,hs1,hs2⟩ | ⟨rfl,hs1⟩ | ⟨rfl,hs1⟩ | ⟨rfl,hs1,x,hs2,hs3,hs4⟩
 ·exact Ok.ret ⟨_,_,_,_,_,_,_,_,rfl,hm,ht',uy hi ht' (by decide) (by decide) (by decide),.inr (.inr (.inr ⟨rfl,hs2⟩)),fun _=>hs1⟩
 ·exact Ok.ret ⟨_,_,_,_,_,_,_,_,rfl,hm,ht',uy hi ht' (by decide) (by decide) (by decide),.inl ⟨rfl,hs1⟩,fun h=>absurd h (by decide)⟩
 ·exact Ok.ret ⟨_,_,_,_,_,_,_,_,rfl,hm,ht',uy hi ht' (by decide) (by decide) ht'.trap,.inr (.inr (.inl ⟨rfl,hs1,rfl⟩)),fun h=>absurd h (by decide)⟩
 ·have hins:=hp.ins x (dK hs3);have hcall:0≤x.2.2.2.2∧x.2.2.2.2≤15:=⟨hins.imm.1,hins.sys hs4⟩;obtain⟨_,ec,e,rfl,he0,he6,hcok⟩:=F4 (key:=key) (d:=d) hM hgt hs2 hs3 hcall;obtain⟨o,A,B,C,call⟩:=x;dsimp only at hcall hcok;have hk3:=HO call;have hl8:=ht'.len;obtain⟨j,hj⟩:∃j:Nat,t'.2.2.1 - 1=j:=⟨(t'.2.2.1 - 1).toNat,by omega⟩;have hpc:=ht'.pc;rw[hj,Int.toNat_natCast] at hs3;rw[dL (x:=t'.2.2.1 - 1) (by omega) (by omega),hj];simp only[Int.reduceBEq,cond_true,cond_false,ec,oBS,dH,show dF code j=some (o,A,B,C,call) from hs3,ui hcall];by_cases hne:e=0
  ·subst hne;obtain⟨hfit,hbuf,_⟩:=hcok rfl
   have e1:dO g7 NN (((kB call).length:Int),0,code,ss,d,(),0,(),(),(),0,0,0,0,0,0,(),(),bs,key,cs',ls',ts.set i t',t'.1,t'.2.1,t'.2.2.1,t'.2.2.2.1,t'.2.2.2.2.1,t'.2.2.2.2.2.1,t'.2.2.2.2.2.2.1,t'.2.2.2.2.2.2.2,(i:Int),1,0,t'.2.2.2.1,t'.2.2.1,call,[],(),()) =
    some (((kB call).length:Int),((kB call).length:Int),false,code,ss,d,(),0,(),(),(),0,0,0,0,0,0,(),(),bs,key,cs',ls',ts.set i t',t'.1,t'.2.1,t'.2.2.1,t'.2.2.2.1,t'.2.2.2.2.1,t'.2.2.2.2.2.1,t'.2.2.2.2.2.2.1,t'.2.2.2.2.2.2.2,(i:Int),1,0,t'.2.2.2.1,t'.2.2.1,call,(t'.2.1.take (kB call).length).map (qp bs ss key),(),()):=by
    refine mt (f:=g7) (N:=NN) (st:=fun q=>(((kB call).length:Int),(q:Int),code,ss,d,(),0,(),(),(),0,0,0,0,0,0,(),(),bs,key,cs',ls',ts.set i t',t'.1,t'.2.1,t'.2.2.1,t'.2.2.2.1,t'.2.2.2.2.1,t'.2.2.2.2.2.1,t'.2.2.2.2.2.2.1,t'.2.2.2.2.2.2.2,(i:Int),1,0,t'.2.2.2.1,t'.2.2.1,call,(t'.2.1.take q).map (qp bs ss key),(),())) (n:=(kB call).length) (by unfold NN;omega) ?_ ?_
    ·intro q hq;unfold g7;dsimp only;rw[decide_eq_true (show (q:Int) < (kB call).length by omega),dH];simp only[cond_true,oBS];refine Ok.get (by omega) fun c hc=>?_;rw[p5 h.lay (ht'.regs c (dK hc))];simp only[oBS];refine Ok.need (dN (by simp;omega)) ?_;rw[dL (x:=(q:Int)+1) (by omega) (by omega)];refine Ok.ret ?_;rw[← gw (qp bs ss key) hc];rfl
    ·unfold g7;dsimp only;rw[decide_eq_false (show ¬ ((kB call).length:Int) < (kB call).length by omega)];exact Ok.ret rfl
   have hargs:((t'.2.1.take (kB call).length).map (qp bs ss key)).length=(kB call).length:=by rw[List.length_map,List.length_take];omega
   have hgetA:∀(j:Nat) a,((t'.2.1.take (kB call).length).map (qp bs ss key))[j]?=some a→∃c,t'.2.1[j]?=some c∧a=qp bs ss key c:=by
    intro j a ha;rw[List.getElem?_map] at ha
    cases hc:(t'.2.1.take (kB call).length)[j]? with
    | none=>rw[hc] at ha;cases ha
    | some c=>
     rw[hc] at ha
     injection ha with ha
     refine⟨c,?_,ha.symm⟩;rw[List.getElem?_take] at hc;split at hc
     ·exact hc
     ·cases hc
   have hargsPr:∀c∈(t'.2.1.take (kB call).length).map (qp bs ss key),Pr ss c:=by
    intro c hc;obtain⟨c',hc',rfl⟩:=List.mem_map.1 hc;exact At h.lay (ht'.regs c' (List.mem_of_mem_take hc'))
   have hkinds:∀(j:Nat) k a,(kB call)[j]?=some k→((t'.2.1.take (kB call).length).map (qp bs ss key))[j]?=some a→JV k a.1=true:=by
    intro j k a hk ha;obtain⟨c,hc,rfl⟩:=hgetA j a ha;rw[(EJ (ht'.regs c (dK hc))).1];exact hfit j k c hk hc
   have hbuf2:p6 call=2→∃a,((t'.2.1.take (kB call).length).map (qp bs ss key))[2]?=some a∧a.2.1≤16:=by
    intro hb;obtain⟨p,q,hp1,hq2,hq16,_⟩:=hbuf (by omega)
    have hkk:(kB call)[2]?=some 78:=by
     have:call=2∨call=14:=by unfold p6 at hb;split at hb<;>first | omega | (split at hb<;>omega)
     rcases this with rfl | rfl<;>rfl
    have hf:=hfit 2 78 q hkk hq2;have hl3:=(oGS hkk).1;refine⟨qp bs ss key q,?_,?_⟩
    ·rw[List.getElem?_map,List.getElem?_take,if_pos hl3,hq2];rfl
    ·have hq:=(EJ (bs:=bs) (ss:=ss) (key:=key) (ht'.regs q (dK hq2))).2 (by unfold JV at hf;simpa using hf);rw[hq];exact hq16
   simp only[e1,bne_self_eq_false,cond_false,oBS,sn hcall]
   have fin:∀data:List DCn,data.length≤16→(∀c∈data,Pr ss c)→Ok (some (bs,key,cs',ls',ts.set i t',(i:Int),(1:Int),(0:Int),t'.2.2.2.1,t'.2.2.1,call,(t'.2.1.take (kB call).length).map (qp bs ss key),data,(0:Int),())) (EQ (n+64) key ss bs ts i):=
    fun data h1 h2=>Ok.ret ⟨_,_,_,_,_,_,_,_,rfl,hm,ht',⟨⟨by omega,by omega⟩,by decide,by decide,ht'.count,ht'.pc,hcall,⟨by omega,hargsPr⟩,⟨h1,h2⟩,fun _=>⟨hargs,hkinds⟩,fun _=>hbuf2⟩,.inr (.inl ⟨rfl,hs1⟩),fun h=>absurd h (by decide)⟩
   by_cases hb1:p6 call=1
   ·obtain⟨p,q,hp1,hq2,hq16,_,jr,b,z,hbz1,hbz2,hbz3,hbz4⟩:=hbuf (by omega);have hp':=ht'.regs p (dK hp1);have hq':=ht'.regs q (dK hq2);have hjr:=(oGS hbz1).1;have hreg:=h.lay.2.2 jr hjr;unfold uv at hreg;rw[ej hbz1,ej hbz2] at hreg;obtain⟨m,hqm⟩:∃m:Nat,q.2=m:=⟨q.2.toNat,by have:=hq'.2.2.1;omega⟩
    have e2:dO gZ NN ((m:Int),0,code,ss,d,(),0,(),(),(),0,0,0,0,0,0,(),(),bs,key,cs',ls',ts.set i t',t'.1,t'.2.1,t'.2.2.1,t'.2.2.2.1,t'.2.2.2.2.1,t'.2.2.2.2.2.1,t'.2.2.2.2.2.2.1,t'.2.2.2.2.2.2.2,(i:Int),1,0,t'.2.2.2.1,t'.2.2.1,call,(t'.2.1.take (kB call).length).map (qp bs ss key),[],()) =
     some ((m:Int),(m:Int),false,code,ss,d,(),0,(),(),(),0,0,0,0,0,0,(),(),bs,key,cs',ls',ts.set i t',t'.1,t'.2.1,t'.2.2.1,t'.2.2.2.1,t'.2.2.2.2.1,t'.2.2.2.2.2.1,t'.2.2.2.2.2.2.1,t'.2.2.2.2.2.2.2,(i:Int),1,0,t'.2.2.2.1,t'.2.2.1,call,(t'.2.1.take (kB call).length).map (qp bs ss key),(List.range m).map (fun j:Nat=>qp bs ss key (CZ cs' ls' (p.2+(j:Int)))),()):=by
     refine mt (f:=gZ) (N:=NN) (st:=fun q=>((m:Int),(q:Int),code,ss,d,(),0,(),(),(),0,0,0,0,0,0,(),(),bs,key,cs',ls',ts.set i t',t'.1,t'.2.1,t'.2.2.1,t'.2.2.2.1,t'.2.2.2.2.1,t'.2.2.2.2.2.1,t'.2.2.2.2.2.2.1,t'.2.2.2.2.2.2.2,(i:Int),1,0,t'.2.2.2.1,t'.2.2.1,call,(t'.2.1.take (kB call).length).map (qp bs ss key),(List.range q).map (fun j:Nat=>qp bs ss key (CZ cs' ls' (p.2+(j:Int)))),())) (n:=m) (by unfold NN;omega) ?_ ?_
     ·intro v hv;unfold gZ;dsimp only;have hp0:=hp'.2.2.1;have hp01:=hp'.2.2.2.1;rw[decide_eq_true (show (v:Int) < m by omega)];simp only[cond_true,oBS,show dF t'.2.1 1=some p from hp1];rw[dP (x:=p.2) (by omega) (by omega),dL (x:=p.2+v) (by omega) (by omega)];obtain⟨hlk,hlv⟩:=yK (a:=p.2+v) hm ⟨by omega,by omega⟩;rw[hlk];simp only[oBS];rw[p5 h.lay hlv];simp only[oBS];refine Ok.need (dN (by simp;omega)) ?_;rw[dL (x:=(v:Int)+1) (by omega) (by omega)];refine Ok.ret ?_;rw[← m0];rfl
     ·unfold gZ;dsimp only;rw[decide_eq_false (show ¬ (m:Int) < m by omega)];exact Ok.ret rfl
    simp only[hb1,BEq.rfl,cond_true,show dF t'.2.1 2=some q from hq2,oBS];rw[dP (x:=q.2) (by omega) (by omega),hqm,e2];simp only[oBS];refine fin _ (by rw[List.length_map,List.length_range];omega) ?_;intro c hc;obtain⟨v,hv,rfl⟩:=List.mem_map.1 hc;have hv:=List.mem_range.1 hv;have hp0:=hp'.2.2.1;exact At h.lay (yK (a:=p.2+v) hm ⟨by omega,by omega⟩).2
   ·simp only[beq_eq_false_iff_ne.2 hb1,cond_false];exact fin [] (by decide) dX
  ·unfold l6 km;simp only[bne_iff_ne.2 hne,cond_true];rw[dN (show 4≤1000∧0+t'.2.1.length≤1000000 by omega)];simp only[cond_true,oBS,dH,gd hil,nj hil];exact Ok.ret ⟨_,_,_,_,_,_,_,_,rfl,hm,ht'.ended ⟨he0,he6⟩,uy hi (ht'.ended ⟨he0,he6⟩) (by decide) (by decide) ⟨he0,he6⟩,.inr (.inr (.inl ⟨rfl,rfl,rfl⟩)),fun h=>absurd h (by decide)⟩
theorem CY{a b:Int}:mmR false a b≤a∧mmR false a b≤b∧(mmR false a b=a∨mmR false a b=b):=by
 unfold mmR;simp only[Bool.false_eq_true,if_false];split<;>omega
theorem j5{α:Type}{l:List α}{i j:Nat}(h:i≠j) (a:α):(l.set i a)[j]?=l[j]?:=by
 rw[List.getElem?_set];simp[h]
theorem LZ.setFile{d:List (List DCn)}{o:DOp}{f:Nat}{x y:List DCn}(h:LZ d o) (hf:d[f]?=some x) (hxy:x.length≤y.length):LZ (d.set f y) o:=by
 rcases h with h | ⟨h1,z,h2,h3,h4⟩
 ·exact .inl h
 ·refine .inr ⟨h1,?_⟩;by_cases e:f=o.1.toNat
  ·subst e;rw[hf] at h2;cases h2;exact⟨y,gd (oGS hf).1 y,h3,by omega⟩
  ·exact⟨z,by rw[j5 e];exact h2,h3,h4⟩
theorem fe.setFile{ss:List Int}{d:List (List DCn)}{os:List DOp}{f:Nat}{x y:List DCn}(h:fe ss d os) (hf:d[f]?=some x) (h64:y.length≤64) (hc:∀c∈y,Pr ss c) (hxy:x.length≤y.length):fe ss (d.set f y) os:=
 ⟨by rw[List.length_set];exact h.dlen,ia h.flen h64,ia h.cells hc,h.olen,fun o ho=>(h.opens o ho).setFile hf hxy⟩
theorem fe.setOpen{ss:List Int}{d:List (List DCn)}{os:List DOp}{i:Nat}{o:DOp}(h:fe ss d os) (ho:LZ d o):fe ss d (os.set i o):=
 ⟨h.dlen,h.flen,h.cells,by rw[List.length_set];exact h.olen,ia h.opens ho⟩
theorem yF{ss:List Int}{d:List (List DCn)}{os:List DOp}{h:Int}(hF:fe ss d os):∃b,gi d os h=some (b,())∧(b=true→∃(j f:Nat) (o:DOp) (x:List DCn),h=j∧j < 8∧os[j]?=some o∧o.1=f∧d[f]?=some x∧0≤o.2.1∧o.2.1≤x.length):=by
 have:Ok (gi d os h) fun r=>∃b,r=(b,())∧(b=true→∃(j f:Nat) (o:DOp) (x:List DCn),h=j∧j < 8∧os[j]?=some o∧o.1=f∧d[f]?=some x∧0≤o.2.1∧o.2.1≤x.length):=by
  unfold gi;delta dI;simp only[hF.olen]
  (with_reducible refine Ok.cb (fun hca=>?_) (fun hca=>?_))
  ·(with_reducible refine Ok.cb (fun hcb=>?_) (fun hcb=>?_))
   ·refine Ok.nat (by omega) fun j hj=>?_;have h8:=hF.olen;refine Ok.get (by omega) fun o ho=>?_;refine Ok.ret ⟨_,rfl,fun hb=>?_⟩;rcases hF.opens o (dK ho) with ⟨h1,_⟩ | ⟨h1,x,h2,h3,h4⟩
    ·rw[h1] at hb;simp at hb
    ·exact⟨j,o.1.toNat,o,x,hj,by omega,ho,by omega,h2,h3,h4⟩
   ·exact Ok.ret ⟨_,rfl,fun h=>by cases h⟩
  ·exact Ok.ret ⟨_,rfl,fun h=>by cases h⟩
 obtain⟨_,e,b,rfl,hb⟩:=this;exact⟨b,e,hb⟩
theorem rO{ss:List Int}{d:List (List DCn)}{os:List DOp}(h:fe ss d os):fv d os=some (d,os,()):=
 copy17_ok (by have:=h.dlen;omega) (fun x hx=>by have:=h.flen x hx;omega) (by have:=h.olen;omega)
theorem EW{ss:List Int}{d:List (List DCn)}{os:List DOp}{h:Int}{l:List DCn}(hs:wA ss) (hF:fe ss d os) (hl:l.length≤16) (hlc:∀c∈l,Pr ss c) :
 Ok (ld d os h l) fun r=>∃d' os' n b,r=(d',os',n,b,())∧fe ss d' os'∧0≤n∧n≤16:=by
 obtain⟨b,eo,hb⟩:=yF (h:=h) hF;unfold ld;rw[rO hF];simp only[oBS,eo]
 cases b with
 | false=>
  simp only[Bool.not_false,cond_true,oBS];exact Ok.ret ⟨_,_,_,_,rfl,hF,by decide,by decide⟩
 | true=>
  obtain⟨j,f,o,x,rfl,hj,ho,hof,hx,o0,o1⟩:=hb rfl;have hg:dF os j=some o:=ho;have hgx:dF d f=some x:=hx;have hjl:=(oGS ho).1;have hfl:=(oGS hx).1;have hx64:=hF.flen x (dK hx);simp only[Bool.not_true,cond_false,dH,oBS,hg]
  cases hw:o.2.2 with
  | false=>
   simp only[Bool.not_false,cond_true,oBS];exact Ok.ret ⟨_,_,_,_,rfl,hF,by decide,by decide⟩
  | true=>
   delta dI;simp only[Bool.not_true,cond_false,oBS,jf (n:=(l.length:Int)) hs hlc (by omega) (by omega),dH,hg,hof,hgx];rw[dL (x:=64 - o.2.1) (by omega) (by omega)];obtain⟨m1,m2,m3⟩:=CY (a:=(l.length:Int)) (b:=64 - o.2.1);generalize mmR false (l.length:Int) (64 - o.2.1)=k at m1 m2 m3
   refine Ok.loop (P:=fun s'=>∃(i:Nat) (y:List DCn),s'=(l,j,k,k,(i:Int),(),(),d,f,os,y,())∧(i:Int)≤k∧(∀c∈y,Pr ss c)∧x.length≤y.length∧o.2.1+i≤y.length∧y.length≤64)
    (R:=fun r=>∃y:List DCn,r=(l,j,k,k,k,false,(),(),d,f,os,y,())∧(∀c∈y,Pr ss c)∧x.length≤y.length∧o.2.1+k≤y.length∧y.length≤64) (m:=fun s'=>(k - s'.2.2.2.2.1).toNat) ⟨0,x,rfl,by omega,hF.cells x (dK hx),by omega,by omega,hx64⟩ (by unfold NN;dsimp only;omega) ?_ ?_
   ·rintro _ ⟨i,y,rfl,hi,hy,hxy,hoy,hy64⟩;unfold ov;dsimp only
    (with_reducible refine Ok.cb (fun hca=>?_) (fun hca=>?_))
    ·delta dI;simp only[hg,oBS,dH];rw[dL (x:=o.2.1+i) (by omega) (by omega)];obtain⟨c,hc⟩:∃c,l[i]?=some c:=⟨_,oGE (by omega)⟩;have hgc:dF l i=some c:=hc;have hcp:=hlc c (dK hc);simp only[hgc,oBS];refine Ok.bind (P:=fun r=>∃y':List DCn,r=(l,j,k,k,(i:Int),(),(),d,f,os,y',())∧(∀c∈y',Pr ss c)∧x.length≤y'.length∧o.2.1+i+1≤y'.length∧y'.length≤64) ?_ ?_
     ·(with_reducible refine Ok.cb (fun hcb=>?_) (fun hcb=>?_))
      ·refine Ok.nat (by omega) fun q hq=>?_;refine Ok.get (by omega) fun _ hz=>?_;refine Ok.get (by omega) fun _ _=>?_;rw[dZ hz];exact Ok.ret ⟨_,rfl,ia hy hcp,by rw[List.length_set];omega,by rw[List.length_set];omega,by rw[List.length_set];omega⟩
      ·refine Ok.need (dN (by simp;omega)) ?_;exact Ok.ret ⟨_,rfl,iA hy (all_cons hcp dX),by rw[eJ];omega,by rw[eJ,List.length_singleton];omega,by rw[eJ,List.length_singleton];omega⟩
     ·rintro _ ⟨y',rfl,g1,g2,g3,g4⟩;dsimp only;rw[dL (x:=(i:Int)+1) (by omega) (by omega)];exact Ok.ret ⟨⟨i+1,y',rfl,by omega,g1,g2,by omega,g4⟩,by dsimp only;omega⟩
    ·obtain rfl:(i:Int)=k:=by omega
     exact Ok.ret ⟨y,rfl,hy,hxy,hoy,hy64⟩
   ·rintro _ ⟨y,rfl,hy,hxy,hoy,hy64⟩;dsimp only;simp only[hg,oBS,hof,dH,hgx];refine Ok.need (by simp) ?_;rw[dL (x:=o.2.1+k) (by omega) (by omega),dZ hx,dZ ho];refine Ok.ret ⟨_,_,_,_,rfl,(hF.setFile hx hy64 hy hxy).setOpen (.inr ⟨by dsimp only;omega,y,?_,by dsimp only;omega,by dsimp only;omega⟩),by omega,by omega⟩;dsimp only;rw[hof,Int.toNat_natCast];exact gd hfl y
theorem Hh{ss:List Int}{d:List (List DCn)}{os:List DOp}{h n:Int}(hF:fe ss d os) (hn:0≤n∧n≤65535) :
 Ok (mG d os h n) fun r=>(∃d' os',r=.inl (d',os',(),false,())∧fe ss d' os')∨(∃d' os' l,r=.inr (d',os',l,true,())∧fe ss d' os'∧(l.length:Int)≤n∧l.length≤64∧∀c∈l,Pr ss c):=by
 obtain⟨b,eo,hb⟩:=yF (h:=h) hF;unfold mG;rw[rO hF];simp only[oBS,eo]
 cases b with
 | false=>
  simp only[Bool.not_false,cond_true,oBS];exact Ok.ret (.inl ⟨_,_,rfl,hF⟩)
 | true=>
  obtain⟨j,f,o,x,rfl,hj,ho,hof,hx,o0,o1⟩:=hb rfl;have hg:dF os j=some o:=ho;have hgx:dF d f=some x:=hx;have hx64:=hF.flen x (dK hx);rw[decide_eq_false (show ¬ n < 0 by omega)];simp only[Bool.not_true,cond_false,dH,oBS,hg]
  cases hw:o.2.2 with
  | true=>exact Ok.ret (.inl ⟨_,_,rfl,hF⟩)
  | false=>
   delta dI;simp only[cond_false,dH,oBS,hg,hof,hgx];rw[dL (x:=(x.length:Int) - o.2.1) (by omega) (by omega)];obtain⟨m1,m2,m3⟩:=CY (a:=n) (b:=(x.length:Int) - o.2.1);generalize mmR false n ((x.length:Int) - o.2.1)=k at m1 m2 m3;rw[dL (x:=o.2.1+k) (by omega) (by omega)];refine Ok.nat o0 fun p hp=>?_;refine Ok.nat (by omega) fun q hq=>?_;refine Ok.need (by unfold ji;simp;omega) ?_
   have hw2:(na x p (Nat.sub q p)).length=q - p:=by
    unfold na;rw[List.length_take,List.length_drop];show min (q - p) _=q - p;omega
   refine Ok.need (dN (by omega)) ?_;rw[dZ ho];refine Ok.ret (.inr ⟨_,_,_,rfl,hF.setOpen (.inr ⟨by dsimp only;omega,x,by dsimp only;rw[hof,Int.toNat_natCast];exact hx,by dsimp only;omega,by dsimp only;omega⟩),?_,?_,?_⟩)
   ·rw[eJ,hw2];simp;omega
   ·rw[eJ,hw2];simp;omega
   ·refine iA dX fun c hc=>hF.cells x (dK hx) c ?_;unfold na at hc;exact List.mem_of_mem_drop (List.mem_of_mem_take hc)
theorem F0{ss:List Int}{d:List (List DCn)}{os:List DOp}{h:Int}(hF:fe ss d os):Ok (lf d os h) fun r=>∃d' os' b,r=(d',os',b,())∧fe ss d' os':=by
 obtain⟨b,eo,hb⟩:=yF (h:=h) hF;unfold lf;rw[rO hF];simp only[oBS,eo]
 cases b with
 | false=>exact Ok.ret ⟨_,_,_,rfl,hF⟩
 | true=>
  obtain⟨j,f,o,x,rfl,hj,ho,hof,hx,o0,o1⟩:=hb rfl;have hg:dF os j=some o:=ho;simp only[Bool.not_true,cond_false,dH,oBS,hg];rw[dZ ho];exact Ok.ret ⟨_,_,_,rfl,hF.setOpen (.inl ⟨rfl,rfl,rfl⟩)⟩
theorem GZ{ss:List Int}{d:List (List DCn)}{os:List DOp}{h n:Int}(hF:fe ss d os):Ok (mF d os h n) fun r=>∃d' os' b,r=(d',os',b,())∧fe ss d' os':=by
 obtain⟨b,eo,hb⟩:=yF (h:=h) hF;unfold mF;rw[rO hF];simp only[oBS,eo]
 cases b with
 | false=>
  simp only[Bool.not_false,cond_true,oBS];exact Ok.ret ⟨_,_,_,rfl,hF⟩
 | true=>
  obtain⟨j,f,o,x,rfl,hj,ho,hof,hx,o0,o1⟩:=hb rfl;have hg:dF os j=some o:=ho;have hgx:dF d f=some x:=hx;delta dI;simp only[Bool.not_true,cond_false,dH,oBS,hg,hof,hgx];by_cases hn:n < 0
  ·simp only[decide_eq_true hn,cond_true,oBS];exact Ok.ret ⟨_,_,_,rfl,hF⟩
  ·simp only[decide_eq_false hn,cond_false,oBS]
   (with_reducible refine Ok.cb (fun hca=>?_) (fun hca=>?_))
   ·exact Ok.ret ⟨_,_,_,rfl,hF⟩
   ·simp only[dH,oBS,hg];rw[dZ ho];exact Ok.ret ⟨_,_,_,rfl,hF.setOpen (.inr ⟨by dsimp only;omega,x,by dsimp only;rw[hof,Int.toNat_natCast];exact hx,by dsimp only;omega,by dsimp only;omega⟩)⟩
theorem Js{ss:List Int}{d:List (List DCn)}{os:List DOp}{file mode:Int}(hF:fe ss d os):Ok (mH d os file mode) fun r=>∃d' os' h,r=(d',os',h,())∧fe ss d' os'∧-1≤h∧h≤7:=by
 have h8:=hF.olen;have hd4:=hF.dlen;unfold mH;rw[rO hF];simp only[oBS];refine Ok.loop (P:=fun s'=>∃i:Nat,s'=(file,mode,(i:Int),d,os,(),(),d,os,())∧i≤8) (R:=fun r=>∃i:Nat,r=(file,mode,(i:Int),false,d,os,(),(),d,os,())∧i≤8) (m:=fun s'=>(8 - s'.2.2.1).toNat) ⟨0,rfl,by omega⟩ (by unfold NN;dsimp only;omega) ?_ ?_
 ·rintro _ ⟨i,rfl,hi⟩;unfold oK;delta dI;simp only[h8,dH,oBS]
  (with_reducible refine Ok.cb (fun hca=>?_) (fun hca=>?_))
  ·refine Ok.get (by omega) fun o ho=>?_
   (with_reducible refine Ok.cb (fun hcb=>?_) (fun hcb=>?_))
   ·rw[dL (x:=(i:Int)+1) (by omega) (by omega)];exact Ok.ret ⟨⟨i+1,rfl,by omega⟩,by dsimp only;omega⟩
   ·exact Ok.ret ⟨i,rfl,hi⟩
  ·exact Ok.ret ⟨i,rfl,hi⟩
 rintro _ ⟨i,rfl,hi⟩;delta dI;simp only[h8];have bad:fe ss d os∧(-1:Int)≤-1∧(-1:Int)≤7:=⟨hF,by decide,by decide⟩;refine Ok.bind (P:=fun r=>(∃b:Bool,r=(file,mode,(i:Int),b,(),(),d,os,())∧(b=false→0≤file∧file < d.length∧i < 8))) ?_ ?_
 ·(with_reducible refine Ok.cb (fun hca=>?_) (fun hca=>?_))
  ·exact Ok.ret ⟨true,rfl,fun h=>by cases h⟩
  (with_reducible refine Ok.cb (fun hcb=>?_) (fun hcb=>?_))
  ·exact Ok.ret ⟨true,rfl,fun h=>by cases h⟩
  (with_reducible refine Ok.cb (fun hcc=>?_) (fun hcc=>?_))
  ·exact Ok.ret ⟨true,rfl,fun h=>by cases h⟩
  (with_reducible refine Ok.cb (fun hcd=>?_) (fun hcd=>?_))
  ·exact Ok.ret ⟨true,rfl,fun h=>by cases h⟩
  exact Ok.ret ⟨_,rfl,fun h=>⟨by omega,by omega,by rw[beq_eq_false_iff_ne] at h;omega⟩⟩
 rintro _ ⟨b,rfl,hb⟩;dsimp only
 cases b with
 | true=>exact Ok.ret ⟨_,_,_,rfl,bad⟩
 | false=>
  obtain⟨f0,f1,hi8⟩:=hb rfl;obtain⟨f,rfl⟩:∃f:Nat,file=f:=⟨file.toNat,by omega⟩;obtain⟨x,hx⟩:∃x,d[f]?=some x:=⟨_,oGE (by omega)⟩;obtain⟨o,ho⟩:∃o,os[i]?=some o:=⟨_,oGE (by omega)⟩;have hgx:dF d f=some x:=hx;have hg:dF os i=some o:=ho;have hfl:=(oGS hx).1;have hil:=(oGS ho).1;simp only[cond_false,dH,oBS,hgx,hg];by_cases h1:mode=1
  ·subst h1;simp only[BEq.rfl,cond_true];rw[dZ hx];simp only[h8]
   refine Ok.loop (P:=fun s'=>∃(q:Nat) (os':List DOp),s'=((f:Int),1,(i:Int),((8:Nat):Int),(q:Int),(),(),d.set f [],os',())∧q≤8∧os'.length=8∧(∀(j:Nat) o,j < q→os'[j]?=some o→LZ (d.set f []) o)∧∀j:Nat,q≤j→os'[j]?=os[j]?)
    (R:=fun r=>∃(z:Int) (os':List DOp),r=((f:Int),1,(i:Int),((8:Nat):Int),z,false,(),(),d.set f [],os',())∧fe ss (d.set f []) os') (m:=fun s'=>(8 - s'.2.2.2.2.1).toNat) ⟨0,os,rfl,by omega,h8,fun j o hj=>by omega,fun _ _=>rfl⟩ (by unfold NN;dsimp only;omega) ?_ ?_
   ·rintro _ ⟨q,os',rfl,hq,hl',ha,hr⟩;unfold oJ;dsimp only
    (with_reducible refine Ok.cb (fun hca=>?_) (fun hca=>?_))
    ·obtain⟨o',ho'⟩:∃o',os'[q]?=some o':=⟨_,oGE (by omega)⟩;have hg':dF os' q=some o':=ho';have hop:=hF.opens o' (dK (by rw[← hr q (by omega)];exact ho'));simp only[dH,oBS,hg'];refine Ok.bind (P:=fun r=>∃o2:DOp,LZ (d.set f []) o2∧r=((f:Int),1,(i:Int),((8:Nat):Int),(q:Int),(),(),d.set f [],os'.set q o2,())) ?_ ?_
     ·by_cases hof:o'.1=f
      ·simp only[beq_iff_eq.2 hof,cond_true];rw[dZ ho'];exact Ok.ret ⟨_,.inr ⟨by dsimp only;omega,[],by dsimp only;rw[hof,Int.toNat_natCast];exact gd hfl [],by dsimp only;omega,by simp⟩,rfl⟩
      ·simp only[beq_eq_false_iff_ne.2 hof,cond_false];refine Ok.ret ⟨o',?_,by rw[yw ho']⟩;rcases hop with h | ⟨g1,z,g2,g3⟩
       ·exact .inl h
       ·exact .inr ⟨g1,z,by rw[j5 (by omega)];exact g2,g3⟩
     ·rintro _ ⟨o2,hop2,rfl⟩;dsimp only;rw[dL (x:=(q:Int)+1) (by omega) (by omega)];refine Ok.ret ⟨⟨q+1,_,rfl,by omega,by rw[List.length_set];exact hl',fun j o hj hjo=>?_,fun j hj=>?_⟩,by dsimp only;omega⟩
      ·by_cases e:q=j
       ·subst e;rw[show (os'.set q o2)[q]?=some o2 from gd (by omega) o2] at hjo;cases hjo;exact hop2
       ·rw[j5 e] at hjo;exact ha j o (by omega) hjo
      ·rw[j5 (by omega)];exact hr j (by omega)
    ·refine Ok.ret ⟨_,_,rfl,⟨by rw[List.length_set];exact hd4,ia hF.flen (by simp),ia hF.cells dX,hl',fun o' ho'=>?_⟩⟩;obtain⟨j,hj⟩:=List.getElem?_of_mem ho';have:=(oGS hj).1;exact ha j o' (by omega) hj
   ·rintro _ ⟨z,os',rfl,hF'⟩;have hl':=hF'.olen;obtain⟨o',ho'⟩:∃o',os'[i]?=some o':=⟨_,oGE (by omega)⟩;have hg':dF os' i=some o':=ho';simp only[dH,oBS,hg',show ((1:Int)==2)=false from rfl,cond_false];rw[dZ ho'];exact Ok.ret ⟨_,_,_,rfl,hF'.setOpen (.inr ⟨by dsimp only;omega,[],by dsimp only;rw[Int.toNat_natCast];exact gd hfl [],by dsimp only;omega,by simp⟩),by omega,by omega⟩
  ·simp only[beq_eq_false_iff_ne.2 h1,cond_false];rw[dZ ho];by_cases h2:mode=2
   ·subst h2;simp only[BEq.rfl,cond_true,oBS,gd hil,nj hil];exact Ok.ret ⟨_,_,_,rfl,hF.setOpen (.inr ⟨by dsimp only;omega,x,by dsimp only;rw[Int.toNat_natCast];exact hx,by dsimp only;omega,by dsimp only;omega⟩),by omega,by omega⟩
   ·simp only[beq_eq_false_iff_ne.2 h2,cond_false,oBS];exact Ok.ret ⟨_,_,_,rfl,hF.setOpen (.inr ⟨by dsimp only;omega,x,by dsimp only;rw[Int.toNat_natCast];exact hx,by dsimp only;omega,by dsimp only;omega⟩),by omega,by omega⟩
theorem fL(n:Int) (b:Bool):∃v,dV n b=some (0,v,0,0,(),-1,false,())∧W16 v:=by
 unfold dV
 cases b with
 | true=>exact⟨_,rfl,lW _⟩
 | false=>exact⟨_,rfl,lW _⟩
theorem jI{ss:List Int}{v:Int}(h:W16 v):Pr ss (0,v,0,0):=.inl ⟨.inl rfl,rfl,rfl,h⟩
theorem Ko{ss:List Int}{v:Int}(h:W16 v):Pr ss (2,v,0,0):=.inl ⟨.inr rfl,rfl,rfl,h⟩
theorem GY{ss:List Int}{us:List DOu}{sk:Int}{l:List DCn}(hu:us.length≤200) (ho:∀(i:Nat) x,us[i]?=some x→MZ ss i x) (hl:l.length≤16) (hlc:∀c∈l,Pr ss c) :
 Ok (mE us sk l) fun r=>∃us' n b,r=(us',n,b,())∧us'.length≤200∧∀(i:Nat) x,us'[i]?=some x→MZ ss i x:=by
 have hc:i7 us=some (us,()):=Ck (by omega) fun x hx=>by
  obtain⟨j,hj⟩:=List.getElem?_of_mem hx;have:=(ho j x hj).2.2.2.1;omega
 unfold mE;rw[hc];delta dI;simp only[oBS];refine Ok.bind (P:=fun r=>∃b:Bool,r=(us,sk,l,b,us,())∧(b=false→0≤sk∧sk < 2∧us.length < 200)) ?_ ?_
 ·(with_reducible refine Ok.cb (fun hca=>?_) (fun hca=>?_))
  ·exact Ok.ret ⟨true,rfl,fun h=>by cases h⟩
  (with_reducible refine Ok.cb (fun hcb=>?_) (fun hcb=>?_))
  ·exact Ok.ret ⟨true,rfl,fun h=>by cases h⟩
  (with_reducible refine Ok.cb (fun hcc=>?_) (fun hcc=>?_))
  ·exact Ok.ret ⟨true,rfl,fun h=>by cases h⟩
  exact Ok.ret ⟨_,rfl,fun h=>⟨by omega,by omega,by omega⟩⟩
 rintro _ ⟨b,rfl,hb⟩;dsimp only
 cases b with
 | true=>exact Ok.ret ⟨_,_,_,rfl,hu,ho⟩
 | false=>
  obtain⟨s0,s1,hlt⟩:=hb rfl;simp only[cond_false];refine Ok.need (dN (by omega)) (Ok.need (dN (by simp;omega)) ?_);refine Ok.ret ⟨_,_,_,rfl,by rw[eJ];simp;omega,fun i x hx=>?_⟩;simp only[List.append_eq,List.nil_append] at hx;rw[List.getElem?_append] at hx;split at hx
  ·exact ho i x hx
  ·rename_i hi;obtain⟨q,hq⟩:∃q,i - us.length=q:=⟨_,rfl⟩;rw[hq] at hx
   cases q with
   | zero=>
    have:x=((us.length:Int),sk,l):=by simpa using hx.symm
    subst this;exact⟨by dsimp only;omega,s0,s1,hl,hlc⟩
   | succ q=>simp at hx
theorem AO{ss:List Int}{ins:List (List Int)}{sk n:Int}(hi:ins.length≤2) (h:∀x∈ins,x.length≤64∧∀w∈x,W16 w) (hn:0≤n∧n≤65535) :
 Ok (jo ins sk n) fun r=>(∃ins',r=.inl (ins',(),false,())∧ins'.length≤2∧∀x∈ins',x.length≤64∧∀w∈x,W16 w) ∨
  (∃ins' l,r=.inr (ins',l,true,())∧(ins'.length≤2∧∀x∈ins',x.length≤64∧∀w∈x,W16 w)∧(l.length:Int)≤n∧l.length≤64∧∀c∈l,Pr ss c):=by
 unfold jo;rw[vR (by omega) (fun x hx=>by have:=(h x hx).1;omega)];delta dI;simp only[oBS];refine Ok.bind (P:=fun r=>∃b:Bool,r=(ins,sk,n,b,ins,())∧(b=false→0≤sk∧sk < ins.length)) ?_ ?_
 ·(with_reducible refine Ok.cb (fun hca=>?_) (fun hca=>?_))
  ·exact Ok.ret ⟨true,rfl,fun h=>by cases h⟩
  (with_reducible refine Ok.cb (fun hcb=>?_) (fun hcb=>?_))
  ·exact Ok.ret ⟨true,rfl,fun h=>by cases h⟩
  exact Ok.ret ⟨_,rfl,fun _=>⟨by omega,by omega⟩⟩
 rintro _ ⟨b,rfl,hb⟩;dsimp only
 cases b with
 | true=>exact Ok.ret (Or.inl ⟨_,rfl,hi,h⟩)
 | false=>
 obtain⟨s0,s1⟩:=hb rfl;obtain⟨j,rfl⟩:∃j:Nat,sk=j:=⟨sk.toNat,by omega⟩;obtain⟨x,hx⟩:∃x,ins[j]?=some x:=⟨_,oGE (by omega)⟩;have hgx:dF ins j=some x:=hx;have hjl:=(oGS hx).1;obtain⟨hx64,hxw⟩:=h x (dK hx);simp only[cond_false,oBS,dH,hgx];obtain⟨m1,m2,m3⟩:=CY (a:=n) (b:=(x.length:Int));generalize mmR false n (x.length:Int)=k at m1 m2 m3;obtain⟨q,rfl⟩:∃q:Nat,k=q:=⟨k.toNat,by omega⟩;simp only[dH,oBS];refine Ok.need (by unfold ji;simp;omega) ?_
 have hw:na x 0 (Nat.sub q 0)=x.take q:=by unfold na;rw[List.drop_zero];rfl
 have hwl:(x.take q).length=q:=by rw[List.length_take];omega
 rw[hw];simp only[hwl]
 have e:dO fM NN ((j:Int),(q:Int),x.take q,(q:Int),0,ins,[],())=some ((j:Int),(q:Int),x.take q,(q:Int),(q:Int),false,ins,(x.take q).map (fun w=>(0,w,0,0)),()):=by
  have:=mt (f:=fM) (N:=NN) (st:=fun i=>((j:Int),(q:Int),x.take q,(q:Int),(i:Int),ins,((x.take q).take i).map (fun w=>((0:Int),w,(0:Int),(0:Int))),())) (n:=q) (t:=((j:Int),(q:Int),x.take q,(q:Int),(q:Int),false,ins,(x.take q).map (fun w=>((0:Int),w,(0:Int),(0:Int))),())) (by unfold NN;omega) ?_ ?_
  ·exact this
  ·intro i hi;unfold fM;dsimp only;rw[decide_eq_true (show (i:Int) < q by omega),dH];simp only[cond_true,oBS];refine Ok.get (by omega) fun w hw=>?_;refine Ok.need (dN (by simp;omega)) ?_;rw[dL (x:=(i:Int)+1) (by omega) (by omega)];refine Ok.ret ?_;rw[← gw (fun w=>((0:Int),w,(0:Int),(0:Int))) hw];rfl
  ·unfold fM;dsimp only;rw[decide_eq_false (show ¬ (q:Int) < q by omega)];refine Ok.ret ?_;rw[show (x.take q).take q=x.take q from List.take_of_length_le (by omega)]
 rw[e];simp only[dH,oBS,hgx];refine Ok.need (by unfold ji;simp;omega) ?_
 try simp only[dH,oBS,hgx]
 rw[dZ hx]
 have hd:∀c∈na x q (Nat.sub x.length q),c∈x:=fun c hc=>by
  unfold na at hc;exact List.mem_of_mem_drop (List.mem_of_mem_take hc)
 have hdl:(na x q (Nat.sub x.length q)).length≤64:=by
  unfold na;rw[List.length_take,List.length_drop];omega
 refine Ok.ret (.inr ⟨_,_,rfl,⟨by rw[List.length_set];exact hi,ia h ⟨hdl,fun w hw=>hxw w (hd w hw)⟩⟩,by rw[List.length_map,hwl];omega,by rw[List.length_map,hwl];omega,fun c hc=>?_⟩);obtain⟨w,hw,rfl⟩:=List.mem_map.1 hc;exact jI (hxw w (List.mem_of_mem_take hw))
theorem xJ{n:Int}{ss:List Int}{i stop trap count pc call:Int}{args data:List DCn}(hs:wA ss) (h:xF n ss i stop trap count pc call args data) (hn:n≤1099511627776):jx i stop trap count pc call args data=some (true,()):=by
 obtain⟨⟨a1,a2⟩,⟨b1,b2⟩,⟨c1,c2⟩,⟨d1,d2⟩,⟨e1,e2⟩,⟨f1,f2⟩,⟨g1,g2⟩,⟨k1,k2⟩,_,_⟩:=h;refine Ok.eq ?_;unfold jx;rw[jf (n:=3) hs g2 (by omega) (by omega),jf (n:=16) hs k2 (by omega) (by omega)];refine Ok.need (decide_eq_true a1) (Ok.need (decide_eq_true (by omega)) (Ok.need (decide_eq_true b1) (Ok.need (decide_eq_true b2) (Ok.need (decide_eq_true c1) (Ok.need (decide_eq_true c2) (Ok.need (decide_eq_true d1) (Ok.need (decide_eq_true (by omega)) (Ok.need (decide_eq_true e1) (Ok.need (decide_eq_true e2) (Ok.need (decide_eq_true f1) (Ok.need (decide_eq_true f2) ?_)))))))))));exact Ok.ret rfl
theorem FD{n:Int}{ss:List Int}{i trap count pc call:Int}{args data:List DCn}(h:xF n ss i 1 trap count pc call args data):lk i 1 trap count pc call args data=some (true,()):=by
 obtain⟨hl,hk⟩:=h.hkind rfl;obtain⟨b,eb,hb1,hb2⟩:=yM h.hcall;have h3:=HO call
 have e:dO gH NN (b,args,(args.length:Int),0,i,1,trap,count,pc,call,args,data,())=some (.inr (b,args,(args.length:Int),(args.length:Int),false,i,1,trap,count,pc,call,args,data,())):=by
  refine mt (f:=gH) (N:=NN) (st:=fun q=>(b,args,(args.length:Int),(q:Int),i,1,trap,count,pc,call,args,data,())) (n:=args.length) (by unfold NN;omega) ?_ ?_
  ·intro q hq;obtain⟨k,hkq⟩:∃k,(kB call)[q]?=some k:=⟨_,oGE (by omega)⟩;obtain⟨a,ha⟩:∃a,args[q]?=some a:=⟨_,oGE (by omega)⟩;unfold gH;dsimp only;rw[decide_eq_true (show (q:Int) < args.length by omega),dH];simp only[cond_true,oBS,show dF args q=some a from ha,hb2 q,hkq,Ic,hk q k a hkq ha,Bool.not_true,cond_false];rw[dL (x:=(q:Int)+1) (by omega) (by omega)];exact Ok.ret rfl
  ·unfold gH;dsimp only;rw[decide_eq_false (show ¬ (args.length:Int) < args.length by omega)];exact Ok.ret rfl
 unfold lk;delta dI;simp only[eb,oBS,hb1,hl,bne_self_eq_false,cond_false];rw[hl] at e;rw[e]
def LW(call:Int):Bool:=decide ((1≤call∧call≤7)∨call=13∨call=14)
theorem LU{call:Int}(h:0≤call∧call≤15):oI call=some (LW call,()):=by
 rcases s7 h with rfl | rfl | rfl | rfl | rfl | rfl | rfl | rfl | rfl | rfl | rfl | rfl | rfl | rfl | rfl | rfl<;>rfl
structure Ni (ss:List Int) (t v r o:Int) (data:List DCn) (sp:Int) (w:Bool):Prop where
 val:Pr ss (t,v,r,o)
 dat:data.length≤64∧∀c∈data,Pr ss c
 spn:-1≤sp∧sp≤3
def DoP(ss:List Int) (r:(List (Int))×(List (Int))×(List (List (Int)))×(List (List DCn))×(List DOp)×(List DOu)×Int×Int×Int×Int×(List DCn)×Int×Bool×Int×Unit):Prop:=
 ∃ck rn ins d os us t v rg o data,r=(ck,rn,ins,d,os,us,t,v,rg,o,data,-1,false,0,())∧wB ss ck rn ins d os us∧Pr ss (t,v,rg,o)∧data.length≤16∧∀c∈data,Pr ss c
theorem jM{ss:List Int}{ck rn:List Int}{ins:List (List Int)}{d:List (List DCn)}{os:List DOp}{us:List DOu}{t v rg o:Int}{data:List DCn}(h:wB ss ck rn ins d os us) (hv:Pr ss (t,v,rg,o)) (hd:data.length≤16∧∀c∈data,Pr ss c) :
 Ok (some (ck,rn,ins,d,os,us,t,v,rg,o,data,(-1:Int),false,(0:Int),())) (DoP ss):=Ok.ret ⟨_,_,_,_,_,_,_,_,_,_,_,rfl,h,hv,hd⟩
theorem Pr.val{ss:List Int}{c:DCn}(h:Pr ss c):W16 c.2.1:=by
 rcases h with ⟨_,_,_,h⟩ | ⟨_,h,_⟩
 ·exact h
 ·rw[h];exact⟨by decide,by decide⟩
theorem MF{n:Int}{ss:List Int}{i trap count pc call:Int}{args data:List DCn}(h:xF n ss i 1 trap count pc call args data):p6 call=0∨p6 call=1∨(p6 call=2∧∃a,args[2]?=some a∧a.2.1≤16):=by
 by_cases h2:p6 call=2
 ·exact .inr (.inr ⟨h2,h.hbuf rfl h2⟩)
 ·have:p6 call=0∨p6 call=1∨p6 call=2:=by unfold p6;split<;>first | omega | (split<;>omega)
  omega
theorem Ok.of_eq{α:Type}{a b:Option α}{Q:α→Prop}(h:Ok a Q) (e:b=a):Ok b Q:=by rw[e];exact h
set_option maxHeartbeats 4000000 in
theorem LJ{n:Int}{ss:List Int}{ck rn:List Int}{ins:List (List Int)}{d:List (List DCn)}{os:List DOp}{us:List DOu}{i trap count pc call:Int}{args data:List DCn}(hs:wA ss) (hO:wB ss ck rn ins d os us) (hR:xF n ss i 1 trap count pc call args data)
 (ha:LW call=true) (hn:n≤1099511627776):Ok (nb ck rn ins d os us i 1 trap count pc call args data) (DoP ss):=by
 have hc:=hR.hcall;have hdat:=hR.hdata;have hap:=hR.hargs;unfold nb;rw[su hs hO,xJ hs hR hn,LU hc,ha,FD hR,sn hc];simp only[oBS,Bool.not_true,cond_false,bne_self_eq_false];refine Ok.bind (P:=fun r=>r=(false,ck,rn,ins,d,os,us,i,1,trap,count,pc,call,args,data,(),(),(),(),(),(),0,0,0,0,(),0,false,())) ?_ ?_
 ·rcases MF hR with h | h | ⟨h,a,h2,h3⟩
  ·rw[h];exact Ok.ret rfl
  ·rw[h];exact Ok.ret rfl
  ·rw[h];simp only[BEq.rfl,cond_true,show dF args 2=some a from h2,oBS];rw[decide_eq_false (show ¬ a.2.1 > 16 by omega)];exact Ok.ret rfl
 rintro _ rfl;dsimp only;delta dI;simp only[cond_false,Cj hO,oBS]
 refine Ok.loop (P:=fun s'=>∃(k:Nat) (vs:List Int),s'=(args,(args.length:Int),(k:Int),ck,rn,ins,d,os,us,i,1,trap,count,pc,call,args,data,(),(),(),(),(),(),0,0,0,0,(),0,false,ck,rn,ins,d,os,us,vs,())∧k≤args.length∧vs.length=3∧(∀v∈vs,W16 v)∧∀(j:Nat) a,j < k→args[j]?=some a→vs[j]?=some a.2.1)
  (R:=fun r=>∃(z:Int) (vs:List Int),r=(args,(args.length:Int),z,false,ck,rn,ins,d,os,us,i,1,trap,count,pc,call,args,data,(),(),(),(),(),(),0,0,0,0,(),0,false,ck,rn,ins,d,os,us,vs,())∧vs.length=3∧(∀v∈vs,W16 v)∧∀(j:Nat) a,args[j]?=some a→vs[j]?=some a.2.1) (m:=fun s'=>(s'.2.1 - s'.2.2.1).toNat)
  ⟨0,[0,0,0],rfl,by omega,rfl,all_cons ⟨by decide,by decide⟩ (all_cons ⟨by decide,by decide⟩ (all_cons ⟨by decide,by decide⟩ dX)),fun j a hj=>by omega⟩ (by unfold NN;dsimp only;omega) ?_ ?_
 ·rintro _ ⟨k,vs,rfl,hk,hv3,hvw,hva⟩;unfold rf;dsimp only
  (with_reducible refine Ok.cb (fun hca=>?_) (fun hca=>?_))
  ·simp only[dH,oBS];refine Ok.get (by omega) fun a hak=>?_;have hw:=(hap.2 a (dK hak)).val;refine Ok.get (by omega) fun v hv=>?_;refine Ok.get (by omega) fun _ _=>?_;rw[dP (x:=a.2.1) (by have:=hw.1;omega) (by have:=hw.2;omega),dL (x:=(k:Int)+1) (by omega) (by omega),dZ hv];refine Ok.ret ⟨⟨k+1,_,rfl,by omega,by rw[List.length_set];exact hv3,ia hvw hw,fun j a' hj haj=>?_⟩,by dsimp only;omega⟩;by_cases e:k=j
   ·subst e;rw[hak] at haj;cases haj;exact gd (by omega) _
   ·rw[j5 e];exact hva j a' (by omega) haj
  ·refine Ok.ret ⟨_,vs,rfl,hv3,hvw,fun j a haj=>hva j a ?_ haj⟩;have:=(oGS haj).1;omega
 rintro _ ⟨z,vs,rfl,hv3,hvw,hva⟩;obtain⟨v0,ev0,hv0⟩:=fL 0 false
 obtain⟨a0,a1,a2,rfl⟩:∃a b c,vs=[a,b,c]:=by
  match vs,hv3 with
  | [a,b,c],_=>exact⟨a,b,c,rfl⟩
 have w0:W16 a0:=hvw a0 (by simp);have w1:W16 a1:=hvw a1 (by simp);have w2:W16 a2:=hvw a2 (by simp);have g0:dF [a0,a1,a2] 0=some a0:=rfl;have g1:dF [a0,a1,a2] 1=some a1:=rfl;have g2:dF [a0,a1,a2] 2=some a2:=rfl
 have a2le:p6 call=2→a2≤16:=fun h=>by
  obtain⟨a,h2,h3⟩:=hR.hbuf rfl h;have:=hva 2 a h2
  have:a2=a.2.1:=by simpa using this
  omega
 have nil16:([]:List DCn).length≤16∧∀c∈([]:List DCn),Pr ss c:=⟨by decide,dX⟩;dsimp only;simp only[ev0,oBS,g0,g1,g2];rcases s7 hc with rfl | rfl | rfl | rfl | rfl | rfl | rfl | rfl | rfl | rfl | rfl | rfl | rfl | rfl | rfl | rfl
 all_goals first | (exact absurd ha (by decide)) | simp only[Int.reduceBEq,cond_true,cond_false]
 ·obtain⟨_,e,d1,os1,m,b,rfl,hF,_⟩:=EW (h:=a0) hs hO.files hdat.1 hdat.2;obtain⟨v,ev,hv⟩:=fL m b;simp only[e,ev,oBS];exact jM ⟨hO.clock,hO.rand,hO.ilen,hO.inp,hF,hO.ulen,hO.outs⟩ (jI hv) nil16
 ·have hle:=a2le rfl;obtain⟨_,e,hr⟩:=Hh (h:=a0) (n:=a2) hO.files w2;rcases hr with ⟨d1,os1,rfl,hF⟩ | ⟨d1,os1,l,rfl,hF,hl,_,hlc⟩
  ·simp only[e,ev0,oBS];exact jM ⟨hO.clock,hO.rand,hO.ilen,hO.inp,hF,hO.ulen,hO.outs⟩ (jI hv0) nil16
  ·obtain⟨v,ev,hv⟩:=fL (l.length:Int) true;simp only[e,ev,oBS];exact jM ⟨hO.clock,hO.rand,hO.ilen,hO.inp,hF,hO.ulen,hO.outs⟩ (jI hv) ⟨by omega,hlc⟩
 ·obtain⟨_,e,d1,os1,h,rfl,hF,h0,h7⟩:=Js (file:=a0) (mode:=a1) hO.files;simp only[e,oBS];have hout:wB ss ck rn ins d1 os1 us:=⟨hO.clock,hO.rand,hO.ilen,hO.inp,hF,hO.ulen,hO.outs⟩;by_cases hh:h≥0
  ·simp only[decide_eq_true hh,cond_true];exact jM hout (Ko (lW _)) nil16
  ·simp only[decide_eq_false hh,cond_false];exact jM hout (jI hv0) nil16
 ·obtain⟨_,e,d1,os1,b,rfl,hF⟩:=F0 (h:=a0) hO.files;obtain⟨v,ev,hv⟩:=fL 0 b;simp only[e,ev,oBS];exact jM ⟨hO.clock,hO.rand,hO.ilen,hO.inp,hF,hO.ulen,hO.outs⟩ (jI hv) nil16
 ·obtain⟨_,e,d1,os1,b,rfl,hF⟩:=GZ (h:=a0) (n:=a1) hO.files;obtain⟨v,ev,hv⟩:=fL 0 b;simp only[e,ev,oBS];exact jM ⟨hO.clock,hO.rand,hO.ilen,hO.inp,hF,hO.ulen,hO.outs⟩ (jI hv) nil16
 ·cases ck with
  | nil=>exact jM hO (jI hv0) nil16
  | cons x ck=>
   obtain⟨v,ev,hv⟩:=fL (wk .i64 x) true
   have hw:na (x :: ck) 1 (Nat.sub (x :: ck).length 1)=ck:=by unfold na;simp
   refine Ok.of_eq (jM (ck:=ck) ⟨⟨by have:=hO.clock.1;simp at this;omega,fun w hw=>hO.clock.2 w (by simp[hw])⟩,hO.rand,hO.ilen,hO.inp,hO.files,hO.ulen,hO.outs⟩ (jI hv) nil16) ?_;simp only[List.length_cons,show dF (x :: ck) 0=some x from rfl,oBS,ev];have hd:∀inst:Decidable (((ck.length+1:Nat):Int) > 0),@decide _ inst=true:=fun inst=>decide_eq_true (by omega);rw[List.length_cons] at hw;rw[hd,show ji 1 (ck.length+1) (ck.length+1)=true by unfold ji;simp,hw];rfl
 ·cases rn with
  | nil=>exact jM hO (jI hv0) nil16
  | cons x rn=>
   obtain⟨v,ev,hv⟩:=fL (wk .i64 x) true
   have hw:na (x :: rn) 1 (Nat.sub (x :: rn).length 1)=rn:=by unfold na;simp
   refine Ok.of_eq (jM (rn:=rn) ⟨hO.clock,⟨by have:=hO.rand.1;simp at this;omega,fun w hw=>hO.rand.2 w (by simp[hw])⟩,hO.ilen,hO.inp,hO.files,hO.ulen,hO.outs⟩ (jI hv) nil16) ?_;simp only[List.length_cons,show dF (x :: rn) 0=some x from rfl,oBS,ev];have hd:∀inst:Decidable (((rn.length+1:Nat):Int) > 0),@decide _ inst=true:=fun inst=>decide_eq_true (by omega);rw[List.length_cons] at hw;rw[hd,show ji 1 (rn.length+1) (rn.length+1)=true by unfold ji;simp,hw];rfl
 ·obtain⟨_,e,us1,m,b,rfl,hu,ho⟩:=GY (sk:=a0) hO.ulen hO.outs hdat.1 hdat.2;obtain⟨v,ev,hv⟩:=fL m b;simp only[e,ev,oBS];exact jM ⟨hO.clock,hO.rand,hO.ilen,hO.inp,hO.files,hu,ho⟩ (jI hv) nil16
 ·have hle:=a2le rfl;obtain⟨_,e,hr⟩:=AO (ss:=ss) (sk:=a0) (n:=a2) hO.ilen hO.inp w2;rcases hr with ⟨in1,rfl,hi1,hi2⟩ | ⟨in1,l,rfl,⟨hi1,hi2⟩,hl,_,hlc⟩
  ·simp only[e,ev0,oBS];exact jM ⟨hO.clock,hO.rand,hi1,hi2,hO.files,hO.ulen,hO.outs⟩ (jI hv0) nil16
  ·obtain⟨v,ev,hv⟩:=fL (l.length:Int) true;simp only[e,ev,oBS];exact jM ⟨hO.clock,hO.rand,hi1,hi2,hO.files,hO.ulen,hO.outs⟩ (jI hv) ⟨by omega,hlc⟩
def xV(bs:List Int) (key:Int) (c:DCn):DCe:=if c.1=0 then (0,c.2.1) else if c.1=2 then (2,wk .u16 (c.2.1+key)) else (1,wk .u16 (bs.getD c.2.2.1.toNat 0+c.2.2.2))
theorem Ej{bs ss:List Int}(h:LV bs ss) {r o n:Int}(h1:0≤r) (h2:ss[r.toNat]?=some n) (h3:0≤o) (h4:o < n):∃b,bs[r.toNat]?=some b∧0≤b+o∧b+o < 512∧b≤b+o∧b+o < b+n:=by
 obtain⟨hs,hl,hr⟩:=h;have hj:=(oGS h2).1;obtain⟨b,hb⟩:∃b,bs[r.toNat]?=some b:=⟨_,oGE (by omega)⟩;have hrr:=hr r.toNat (by omega);unfold uv at hrr;rw[ej hb,ej h2] at hrr;exact⟨b,hb,by omega,by omega,by omega,by omega⟩
theorem u3{bs ss:List Int}{key:Int}{c:DCn}(h:LV bs ss) (hc:Pr ss c):fV bs key ss c.1 c.2.1 c.2.2.1 c.2.2.2=some ((xV bs key c).1,(xV bs key c).2,0,())∧mw (RK bs ss) (xV bs key c):=by
 unfold fV xV;rw[md hc];simp only[oBS,Bool.not_true,cond_false];rcases hc with ⟨h1 | h1,h2,h3,h4⟩ | ⟨h1,h2,h3,n,h5,h6,h7⟩
 ·rw[h1];exact⟨rfl,kT h4⟩
 ·rw[h1];exact⟨rfl,(show (0:Int)≤2 by decide),(show (2:Int)≤2 by decide),(lW _).1,(lW _).2,fun e=>absurd (show (2:Int)=1 from e) (by decide)⟩
 ·obtain⟨b,hb,b0,b1,b2,b3⟩:=Ej h h3 h5 h6 h7;obtain⟨j,hj⟩:∃j:Nat,c.2.2.1=j:=⟨c.2.2.1.toNat,by omega⟩;rw[hj] at hb h5 ⊢;rw[Int.toNat_natCast] at hb h5 ⊢;rw[h1,ej hb];simp only[Int.reduceBEq,Int.reduceEq,cond_false,if_false,dH,oBS,show dF bs j=some b from hb];rw[dL (x:=b+c.2.2.2) (by omega) (by omega),dS (x:=b+c.2.2.2) (by omega) (by omega)];exact⟨rfl,by dsimp only;omega,by dsimp only;omega,by dsimp only;omega,by dsimp only;omega,fun _=>⟨j,b,n,hb,h5,b2,b3⟩⟩
theorem F8{bs ss:List Int}{key r o n:Int}(h:LV bs ss) (h1:0≤r) (h2:ss[r.toNat]?=some n) (h3:0≤o) (h4:o < n):∃a,jD bs key ss r o=some (a,0,())∧0≤a∧a < 512∧a=bs.getD r.toNat 0+o:=by
 obtain⟨b,hb,b0,b1,_⟩:=Ej h h1 h2 h3 h4;obtain⟨j,rfl⟩:∃j:Nat,r=j:=⟨r.toNat,by omega⟩;rw[Int.toNat_natCast] at hb ⊢;unfold jD;rw[Bq h1 h2 h3 h4];simp only[oBS,Bool.not_true,cond_false,dH,show dF bs j=some b from hb];rw[dL (x:=b+o) (by omega) (by omega)];exact⟨_,rfl,b0,b1,by rw[ej hb]⟩
theorem Jx(pc t v:Int):nN pc t v=some (1,[(t,v),(0,0),(0,0),(0,0),(0,0),(0,0),(0,0),(0,0)],pc,0,-1,-1,0,0,()):=rfl
def Nj(n key:Int) (ss bs:List Int) (r:Bool×(List (Int))×Int×(List DCe)×(List DLn)×(List DTh)×Unit):Prop:=∃b cs' ls' ts',r=(b,bs,key,cs',ls',ts',())∧(b=true→MOk n ss bs cs' ls' ts')
theorem u4{n key:Int}{ss bs:List Int}{cs:List DCe}{ls:List DLn}{ts:List DTh}:Ok (some (false,bs,key,cs,ls,ts,())) (Nj n key ss bs):=Ok.ret ⟨_,_,_,_,rfl,fun h=>by cases h⟩
theorem oH{n key ct cv:Int}{ss bs:List Int}{cs:List DCe}{ls:List DLn}{ts:List DTh}{i:Nat}(h:MOk n ss bs cs ls ts) (hi:i < 4) (hc:mw (RK bs ss) (ct,cv)) :
 Ok ((dF ts i).bind fun _=>(dF ts i).bind fun x75=>(dF x75.2.1 0).bind fun _=>(dF ts i).bind fun x77=>(dF x77.2.1 0).bind fun _=>(dF (List.modify ts i fun e=>(e.1,((List.modify e.2.1 0 fun _=>(ct,cv)),e.2.2))) i).bind fun _=>
  some (true,bs,key,cs,ls,List.modify (List.modify ts i fun e=>(e.1,((List.modify e.2.1 0 fun _=>(ct,cv)),e.2.2))) i fun e=>((1:Int),e.2),())) (Nj n key ss bs):=by
 have htl:=h.tlen;obtain⟨t,ht⟩:∃t,ts[i]?=some t:=⟨_,oGE (by omega)⟩;have hg:dF ts i=some t:=ht;have hil:=(oGS ht).1;have hok:=h.thr t (dK ht);obtain⟨c,hc0⟩:∃c,t.2.1[0]?=some c:=⟨_,oGE (by have:=hok.len;omega)⟩;simp only[hg,oBS,show dF t.2.1 0=some c from hc0,dZ ht,dZ hc0,gd hil,nj hil];exact Ok.ret ⟨_,_,_,_,rfl,fun _=>h.set h.mem ⟨⟨show (0:Int)≤1 by decide,show (1:Int)≤4 by decide⟩,by dsimp only;rw[List.length_set];exact hok.len,ia hok.regs hc,hok.pc,hok.count,hok.handler,hok.saved,hok.trap,hok.code⟩⟩
theorem E1{K:Int→Prop}{n pc:Int}{rs:List DCe}(hl:rs.length=8) (hr:∀c∈rs,mw K c) (hp:0≤pc∧pc≤255) (hn:0≤n):wz K n (1,rs,pc,0,-1,-1,0,0):=
 ⟨⟨show (0:Int)≤1 by decide,show (1:Int)≤4 by decide⟩,hl,hr,hp,⟨show (0:Int)≤0 by decide,hn⟩,⟨show (-1:Int)≤-1 by decide,show (-1:Int)≤255 by decide⟩,⟨show (-1:Int)≤-1 by decide,show (-1:Int)≤255 by decide⟩,⟨show (0:Int)≤0 by decide,show (0:Int)≤6 by decide⟩,⟨show (0:Int)≤0 by decide,show (0:Int)≤65535 by decide⟩⟩
theorem MOk.mk_mem{n:Int}{ss bs:List Int}{cs cs':List DCe}{ls ls':List DLn}{ts:List DTh}(h:MOk n ss bs cs ls ts) (hm:i6 (RK bs ss) cs' ls'):MOk n ss bs cs' ls' ts:=⟨h.lay,hm,h.tlen,h.thr⟩
set_option maxHeartbeats 4000000 in
theorem Jk{n m key:Int}{code:List DIn}{ss bs:List Int}{dd:List (List Int)}{cs:List DCe}{ls:List DLn}{ts:List DTh}{i:Nat}{trap count pc call:Int}{args data:List DCn}{t v rg o sp:Int}{dat:List DCn}{w:Bool}(h:MOk n ss bs cs ls ts) (hi:i < 4)
 (hR:xF m ss (i:Int) 1 trap count pc call args data) (hv:Pr ss (t,v,rg,o)) (hd:dat.length≤16∧∀c∈dat,Pr ss c) (hsp:-1≤sp∧sp≤3) :
 Ok (nK code ss dd (i:Int) 1 trap count pc call args data t v rg o dat sp w bs key cs ls ts) (Nj n key ss bs):=by
 have hL:=h.lay;have htl:=h.tlen;obtain⟨hk1,hk2⟩:=hR.hkind rfl;have hargs:=hR.hargs;obtain⟨hraw,hrawc⟩:=u3 (key:=key) hL hv;obtain⟨th,hth⟩:∃th,ts[i]?=some th:=⟨_,oGE (by omega)⟩;have hok:=h.thr th (dK hth);have hc0:=hok.count;have hil:=(oGS hth).1;dsimp only at hraw;unfold nK;delta dI;rw[dH,hraw,sn hR.hcall];simp only[oBS,bne_self_eq_false,cond_false];refine Ok.get hil fun _ _=>?_;have fin:=oH (key:=key) (ct:=(xV bs key (t,v,rg,o)).1) (cv:=(xV bs key (t,v,rg,o)).2) h hi hrawc
 have buf:p6 call=2→dat.length > 0→∃a:DCn,args[1]?=some a∧Pr ss a∧a.1=1∧∃y,dO ki NN (i,dat,(dat.length:Int),0,bs,key,cs,ls,ts,code,ss,dd,(i:Int),1,trap,count,pc,call,args,data,t,v,rg,o,dat,sp,w,(xV bs key (t,v,rg,o)).1,(xV bs key (t,v,rg,o)).2,a.2.2.1,a.2.2.2,())=some y ∧
  ((∃cs' ls',y=.inl (false,bs,key,cs',ls',ts,()))∨(∃cs' ls' z f,y=.inr (i,dat,(dat.length:Int),z,false,bs,key,cs',ls',ts,code,ss,dd,(i:Int),1,trap,count,pc,call,args,data,t,v,rg,o,dat,sp,w,(xV bs key (t,v,rg,o)).1,(xV bs key (t,v,rg,o)).2,a.2.2.1,f,())∧i6 (RK bs ss) cs' ls')):=by
  intro hb hpos
  have hkk:(kB call)[1]?=some 80:=by
   have:call=2∨call=14:=by unfold p6 at hb;split at hb<;>first | omega | (split at hb<;>omega)
   rcases this with rfl | rfl<;>rfl
  have hl1:=(oGS hkk).1;obtain⟨a,ha⟩:∃a,args[1]?=some a:=⟨_,oGE (by omega)⟩;have hap:=hargs.2 a (dK ha);have hfit:=hk2 1 80 a hkk ha
  have ha1:a.1=1:=by unfold JV at hfit;simpa using hfit
  have ha32:0≤a.2.2.2∧a.2.2.2≤32:=by
   rcases hap with ⟨g,_⟩ | ⟨_,_,_,z,g1,g2,g3⟩
   ·omega
   ·have:=hL.1.2.2 z (dK g1);omega
  refine⟨a,ha,hap,ha1,?_⟩
  refine Ok.iter (f:=ki) (n:=NN) (P:=fun s'=>∃k:Nat,∃cs' ls',s'=(i,dat,(dat.length:Int),(k:Int),bs,key,cs',ls',ts,code,ss,dd,(i:Int),1,trap,count,pc,call,args,data,t,v,rg,o,dat,sp,w,(xV bs key (t,v,rg,o)).1,(xV bs key (t,v,rg,o)).2,a.2.2.1,a.2.2.2+k,())∧k≤dat.length∧i6 (RK bs ss) cs' ls')
   (R:=fun y=>(∃cs' ls',y=.inl (false,bs,key,cs',ls',ts,()))∨(∃cs' ls' z f,y=.inr (i,dat,(dat.length:Int),z,false,bs,key,cs',ls',ts,code,ss,dd,(i:Int),1,trap,count,pc,call,args,data,t,v,rg,o,dat,sp,w,(xV bs key (t,v,rg,o)).1,(xV bs key (t,v,rg,o)).2,a.2.2.1,f,())∧i6 (RK bs ss) cs' ls'))
   (m:=fun s'=>(s'.2.2.1 - s'.2.2.2.1).toNat) ⟨0,cs,ls,by simp,by omega,h.mem⟩ (by unfold NN;dsimp only;omega) ?_
  rintro _ ⟨k,cs',ls',rfl,hk,hm⟩;unfold ki;dsimp only
  (with_reducible refine Ok.cb (fun hca=>?_) (fun hca=>?_))
  ·rw[dH];simp only[oBS];refine Ok.get (by omega) fun c hc=>?_;obtain⟨hr1,hr2⟩:=u3 (key:=key) hL (hd.2 c (dK hc));rw[hr1];simp only[oBS,bne_self_eq_false,cond_false];refine yc.bind ?_;rintro⟨q,_⟩ hin;dsimp only at hin ⊢
   (with_reducible refine Ok.cb (fun hcb=>?_) (fun hcb=>?_))
   ·exact Ok.ret (.inl ⟨_,_,rfl⟩)
   ·obtain⟨g1,g2,z,g3,g4⟩:=hin hcb;obtain⟨ad,ea,a0,a1,_⟩:=F8 (key:=key) hL g1 g3 g2 g4;rw[ea];simp only[oBS];refine (xN hm ⟨a0,a1⟩ hr2).bind ?_;rintro _ ⟨cs2,ls2,rfl,hm2⟩;dsimp only;rw[dL (x:=a.2.2.2+k+1) (by omega) (by omega),dL (x:=(k:Int)+1) (by omega) (by omega)];exact Ok.ret ⟨⟨k+1,_,_,by rw[show a.2.2.2+((k+1:Nat):Int)=a.2.2.2+k+1 by omega];rfl,by omega,hm2⟩,by dsimp only;omega⟩
  ·exact Ok.ret (.inr ⟨_,_,_,_,rfl,hm⟩)
 rcases s7 hR.hcall with rfl | rfl | rfl | rfl | rfl | rfl | rfl | rfl | rfl | rfl | rfl | rfl | rfl | rfl | rfl | rfl
 case inr.inr.inl=>
  simp only[show ((p6 2)==2)=true from rfl,cond_true];by_cases hpos:dat.length > 0
  ·obtain⟨a,ha,hap,ha1,y,ey,hy⟩:=buf rfl hpos;simp only[decide_eq_true (show ((dat.length:Nat):Int) > 0 by omega),cond_true,show dF args 1=some a from ha,oBS,md hap,Bool.not_true,cond_false,bne_eq_false_iff_eq.2 ha1,ey];rcases hy with ⟨cs',ls',rfl⟩ | ⟨cs',ls',z,f,rfl,hm⟩
   ·exact u4
   ·simp only[Int.reduceBEq,cond_false];exact oH (h.mk_mem hm) hi hrawc
  ·simp only[decide_eq_false (show ¬ ((dat.length:Nat):Int) > 0 by omega),cond_false,Int.reduceBEq];exact fin
 case inr.inr.inr.inr.inr.inr.inr.inr.inr.inr.inr.inr.inr.inr.inl=>
  simp only[show ((p6 14)==2)=true from rfl,cond_true];by_cases hpos:dat.length > 0
  ·obtain⟨a,ha,hap,ha1,y,ey,hy⟩:=buf rfl hpos;simp only[decide_eq_true (show ((dat.length:Nat):Int) > 0 by omega),cond_true,show dF args 1=some a from ha,oBS,md hap,Bool.not_true,cond_false,bne_eq_false_iff_eq.2 ha1,ey];rcases hy with ⟨cs',ls',rfl⟩ | ⟨cs',ls',z,f,rfl,hm⟩
   ·exact u4
   ·simp only[Int.reduceBEq,cond_false];exact oH (h.mk_mem hm) hi hrawc
  ·simp only[decide_eq_false (show ¬ ((dat.length:Nat):Int) > 0 by omega),cond_false,Int.reduceBEq];exact fin
 case inr.inr.inr.inr.inr.inr.inr.inr.inr.inr.inr.inr.inl=>
  obtain⟨a,ha⟩:∃a,args[0]?=some a:=⟨_,oGE (by rw[hk1];decide)⟩;have hva:=(hargs.2 a (dK ha)).val;simp only[show ((p6 12)==2)=false from rfl,cond_false,Int.reduceBEq,cond_true,show dF args 0=some a from ha,oBS];rw[dP (x:=a.2.1) (by have:=hva.1;omega) (by have:=hva.2;omega)];by_cases h1:a.2.1 > 255
  ·simp only[decide_eq_true h1,cond_true];exact u4
  by_cases h2:a.1=0
  ·simp only[decide_eq_false h1,cond_false,bne_eq_false_iff_eq.2 h2,show dF ts i=some th from hth,oBS,dZ hth];exact oH (h.set h.mem ⟨hok.state,hok.len,hok.regs,hok.pc,hok.count,⟨by dsimp only;have:=hva.1;omega,by dsimp only;omega⟩,hok.saved,hok.trap,hok.code⟩) hi hrawc
  ·simp only[decide_eq_false h1,cond_false,bne_iff_ne.2 h2,cond_true];exact u4
 case inr.inr.inr.inr.inr.inr.inr.inr.inr.inr.inl=>
  obtain⟨a,ha⟩:∃a,args[0]?=some a:=⟨_,oGE (by rw[hk1];decide)⟩;obtain⟨c,hc⟩:∃c,args[1]?=some c:=⟨_,oGE (by rw[hk1];decide)⟩;have hva:=(hargs.2 a (dK ha)).val;obtain⟨hr1,hr2⟩:=u3 (key:=key) hL (hargs.2 c (dK hc));simp only[show ((p6 10)==2)=false from rfl,cond_false,Int.reduceBEq,cond_true];by_cases hsp0:sp≥0
  ·obtain⟨j,rfl⟩:∃j:Nat,sp=j:=⟨sp.toNat,by omega⟩;obtain⟨tj,htj⟩:∃tj,ts[j]?=some tj:=⟨_,oGE (by omega)⟩;simp only[decide_eq_true hsp0,cond_true,show dF args 0=some a from ha,show dF args 1=some c from hc,oBS,hr1,bne_self_eq_false,cond_false,dH,show dF ts j=some tj from htj];rw[dP (x:=a.2.1) (by have:=hva.1;omega) (by have:=hva.2;omega)];by_cases h0:tj.1=0
   ·by_cases h1:a.2.1 > 255
    ·simp only[bne_eq_false_iff_eq.2 h0,cond_false,decide_eq_true h1,cond_true,oBS];exact u4
    by_cases h2:a.1=0
    ·simp only[bne_eq_false_iff_eq.2 h0,decide_eq_false h1,cond_false,bne_eq_false_iff_eq.2 h2,oBS,show dF args 0=some a from ha,dP (x:=a.2.1) (by have:=hva.1;omega) (by have:=hva.2;omega),Jx,dH,show dF ts j=some tj from htj,dZ htj];refine oH (h.set h.mem (E1 rfl (all_cons hr2 ?_) ⟨hva.1,by omega⟩ (by omega))) hi hrawc;exact all_cons (kT (by decide)) (all_cons (kT (by decide)) (all_cons (kT (by decide)) (all_cons (kT (by decide)) (all_cons (kT (by decide)) (all_cons (kT (by decide)) (all_cons (kT (by decide)) dX))))))
    ·simp only[bne_eq_false_iff_eq.2 h0,decide_eq_false h1,cond_false,bne_iff_ne.2 h2,cond_true,oBS];exact u4
   ·simp only[bne_iff_ne.2 h0,cond_true,oBS];exact u4
  ·simp only[decide_eq_false hsp0,cond_false];exact fin
 all_goals
  simp only[show ((p6 0)==2)=false from rfl,show ((p6 1)==2)=false from rfl,show ((p6 3)==2)=false from rfl,show ((p6 4)==2)=false from rfl,show ((p6 5)==2)=false from rfl,show ((p6 6)==2)=false from rfl,show ((p6 7)==2)=false from rfl,
   show ((p6 8)==2)=false from rfl,show ((p6 9)==2)=false from rfl,show ((p6 11)==2)=false from rfl,show ((p6 13)==2)=false from rfl,show ((p6 15)==2)=false from rfl,cond_false,Int.reduceBEq]
  exact fin
theorem xI{ss:List Int}{t v rg o sp:Int}{dat:List DCn}{w:Bool}(hs:wA ss) (hv:Pr ss (t,v,rg,o)) (hd:dat.length≤16∧∀c∈dat,Pr ss c) (hsp:-1≤sp∧sp≤3):ju t v rg o dat sp w=some (true,()):=by
 refine Ok.eq ?_;unfold ju;rw[show ja t v rg o=some (true,()) from Cr hs hv,jf (n:=16) hs hd.2 (by omega) (by omega)];refine Ok.need (decide_eq_true hsp.1) ?_;exact Ok.ret (by rw[decide_eq_true (show sp < 4 by omega)])
theorem ML{n m key:Int}{code:List DIn}{ss bs:List Int}{dd:List (List Int)}{cs:List DCe}{ls:List DLn}{ts:List DTh}{i:Nat}{trap count pc call:Int}{args data:List DCn}{t v rg o sp:Int}{dat:List DCn}{w:Bool}(hp:jW code ss dd) (h:MOk n ss bs cs ls ts) (hi:i < 4)
 (hn:n≤1099511627776) (hm:m≤1099511627776) (hR:xF m ss (i:Int) 1 trap count pc call args data) (hv:Pr ss (t,v,rg,o)) (hd:dat.length≤16∧∀c∈dat,Pr ss c) (hsp:-1≤sp∧sp≤3) :
 Ok (nL code ss dd bs key cs ls ts (i:Int) 1 trap count pc call args data t v rg o dat sp w) fun r=>∃cs' ls' ts' b,r=(bs,key,cs',ls',ts',b,())∧MOk n ss bs cs' ls' ts':=by
 have htl:=h.tlen;obtain⟨hk1,hk2⟩:=hR.hkind rfl;obtain⟨th,hth⟩:∃th,ts[i]?=some th:=⟨_,oGE (by omega)⟩;have hok:=h.thr th (dK hth);have hil:=(oGS hth).1;have hg:dF ts i=some th:=hth;unfold nL;delta dI;rw[sw hp h hn,xJ hp.sz hR hm,ui hR.hcall,xI hp.sz hv hd hsp,hk1];simp only[oBS,Bool.not_true,cond_false,bne_self_eq_false,dH,hg];by_cases h2:th.1=2
 ·simp only[bne_eq_false_iff_eq.2 h2,cond_false,pa h,oBS,dH,hg];by_cases hc0:call=0
  ·subst hc0;obtain⟨a,ha⟩:∃a,args[0]?=some a:=⟨_,oGE (by rw[hk1];decide)⟩;have hva:=(hR.hargs.2 a (dK ha)).val;simp only[BEq.rfl,cond_true,show dF args 0=some a from ha,oBS];unfold l6 km;rw[dN (show 4≤1000∧0+th.2.1.length≤1000000 by have:=hok.len;omega)];simp only[cond_true,oBS,dZ hth];exact Ok.ret ⟨_,_,_,_,rfl,h.set h.mem ⟨⟨show (0:Int)≤4 by decide,show (4:Int)≤4 by decide⟩,by dsimp only;rw[eJ];simpa using hok.len,iA dX hok.regs,hok.pc,hok.count,hok.handler,hok.saved,⟨show (0:Int)≤0 by decide,show (0:Int)≤6 by decide⟩,hva⟩⟩
  ·simp only[beq_eq_false_iff_ne.2 hc0,cond_false]
   cases w with
   | true=>
    simp only[cond_true,dZ hth];exact Ok.ret ⟨_,_,_,_,rfl,h.set h.mem ⟨⟨show (0:Int)≤3 by decide,show (3:Int)≤4 by decide⟩,hok.len,hok.regs,hok.pc,hok.count,hok.handler,hok.saved,hok.trap,hok.code⟩⟩
   | false=>
    simp only[cond_false];refine (Jk h hi hR hv hd hsp).bind ?_;rintro _ ⟨b,cs',ls',ts',rfl,hb⟩;dsimp only
    cases b with
    | true=>exact Ok.ret ⟨_,_,_,_,rfl,hb rfl⟩
    | false=>exact Ok.ret ⟨_,_,_,_,rfl,h⟩
 ·simp only[bne_iff_ne.2 h2,cond_true];exact Ok.ret ⟨_,_,_,_,rfl,h⟩
theorem Iv{n key:Int}{code:List DIn}{ss bs:List Int}{dd:List (List Int)}{cs:List DCe}{ls:List DLn}{ts:List DTh}{i t v rg o sp:Int}{dat:List DCn}{w:Bool}(hp:jW code ss dd) (h:MOk n ss bs cs ls ts)
 (hn:n≤1099511627776) (hv:Pr ss (t,v,rg,o)) (hd:dat.length≤16∧∀c∈dat,Pr ss c) (hsp:-1≤sp∧sp≤3) :
 Ok (kI code ss dd bs key cs ls ts i t v rg o dat sp w) fun r=>∃cs' ls' ts' b,r=(bs,key,cs',ls',ts',b,())∧MOk n ss bs cs' ls' ts':=by
 have htl:=h.tlen;obtain⟨hraw,hrawc⟩:=u3 (key:=key) h.lay hv;dsimp only at hraw;unfold kI;rw[sw hp h hn,xI hp.sz hv hd hsp];simp only[oBS,Bool.not_true,cond_false];by_cases h1:i < 0
 ·simp only[decide_eq_true h1,cond_true,oBS];exact Ok.ret ⟨_,_,_,_,rfl,h⟩
 by_cases h2:i≥4
 ·simp only[decide_eq_false h1,decide_eq_true h2,cond_true,cond_false,oBS];exact Ok.ret ⟨_,_,_,_,rfl,h⟩
 obtain⟨i,rfl⟩:∃k:Nat,i=k:=⟨i.toNat,by omega⟩;obtain⟨th,hth⟩:∃th,ts[i]?=some th:=⟨_,oGE (by omega)⟩;have hok:=h.thr th (dK hth);have hil:=(oGS hth).1;have hg:dF ts i=some th:=hth;obtain⟨c,hc0⟩:∃c,th.2.1[0]?=some c:=⟨_,oGE (by have:=hok.len;omega)⟩;simp only[decide_eq_false h1,decide_eq_false h2,cond_false,dH,oBS,hg];by_cases h3:th.1=3
 ·simp only[bne_eq_false_iff_eq.2 h3,cond_false,hraw,oBS,bne_self_eq_false,pa h,dH,hg,show dF th.2.1 0=some c from hc0,dZ hth,dZ hc0,gd hil,nj hil];exact Ok.ret ⟨_,_,_,_,rfl,h.set h.mem ⟨⟨show (0:Int)≤1 by decide,show (1:Int)≤4 by decide⟩,by dsimp only;rw[List.length_set];exact hok.len,ia hok.regs hrawc,hok.pc,hok.count,hok.handler,hok.saved,hok.trap,hok.code⟩⟩
 ·simp only[bne_iff_ne.2 h3,cond_true];exact Ok.ret ⟨_,_,_,_,rfl,h⟩
structure i5 (n:Int) (q:Nat) (code:List DIn) (ss:List Int) (dt:List (List Int)) (bs:List Int) (cs:List DCe) (ls:List DLn) (ts:List DTh) (ck rn:List Int) (ins:List (List Int)) (d:List (List DCn)) (os:List DOp) (us:List DOu) (ow:List Int) (qs:List (List Int)) (rec:List DEn) (js:List Int):Prop where
 prog:jW code ss dt
 mach:MOk n ss bs cs ls ts
 outs:wB ss ck rn ins d os us
 lock:ie ow qs
 rlen:rec.length≤q
 jlen:js.length=4
def Nh(n key:Int) (q:Nat) (code:List DIn) (ss:List Int) (dt:List (List Int)) (bs:List Int) (r:(List DIn)×(List (Int))×(List (List (Int)))×(List (Int))×Int×(List DCe)×(List DLn)×(List DTh)×(List (Int))×(List (Int))×(List (List (Int)))×(List (List DCn))×(List DOp)×(List DOu)×(List (Int))×(List (List (Int)))×(List DEn)×(List (Int))×Unit):Prop:=
 ∃cs ls ts ck rn ins d os us ow qs rec js,r=(code,ss,dt,bs,key,cs,ls,ts,ck,rn,ins,d,os,us,ow,qs,rec,js,())∧i5 n q code ss dt bs cs ls ts ck rn ins d os us ow qs rec js
theorem Gi{n:Int}{q:Nat}{code:List DIn}{ss:List Int}{dt:List (List Int)}{bs:List Int}{key:Int}{cs:List DCe}{ls:List DLn}{ts:List DTh}{ck rn:List Int}{ins:List (List Int)}{d:List (List DCn)}{os:List DOp}{us:List DOu}{ow:List Int}{qs:List (List Int)}{rec:List DEn}{js:List Int}{i v:Int}(h:i5 n q code ss dt bs cs ls ts ck rn ins d os us ow qs rec js) (hn:n≤1099511627776) (hq:q≤900) (hv:W16 v) :
 Ok (mC i v code ss dt bs key cs ls ts ck rn ins d os us ow qs rec js) (Nh n key (q+1) code ss dt bs):=by
 unfold mC;rw[dP (x:=v) (by have:=hv.1;omega) (by have:=hv.2;omega)];obtain⟨v2,ev,hv2⟩:=fL v true;simp only[ev,oBS];refine (Iv h.prog h.mach hn (jI hv2) ⟨by decide,dX⟩ (by decide)).bind ?_;rintro _ ⟨cs',ls',ts',b,rfl,hM⟩;dsimp only;have hr:=h.rlen;refine Ok.need (dN (by simp;omega)) ?_;exact Ok.ret ⟨_,_,_,_,_,_,_,_,_,_,_,_,_,rfl,h.prog,hM,h.outs,h.lock,by rw[eJ];simp;omega,h.jlen⟩
theorem DX{n:Int}{q:Nat}{code:List DIn}{ss:List Int}{dt:List (List Int)}{bs:List Int}{key:Int}{cs:List DCe}{ls:List DLn}{ts:List DTh}{ck rn:List Int}{ins:List (List Int)}{d:List (List DCn)}{os:List DOp}{us:List DOu}{ow:List Int}{qs:List (List Int)}{rec:List DEn}{js:List Int}{i v:Int}(h:i5 n q code ss dt bs cs ls ts ck rn ins d os us ow qs rec js) (hn:n≤1099511627776) (hq:q≤900) (hv:W16 v) :
 Ok (iE i v code ss dt bs key cs ls ts ck rn ins d os us ow qs rec) fun r=>∃cs' ls' ts' rec',r=(code,ss,dt,bs,key,cs',ls',ts',ck,rn,ins,d,os,us,ow,qs,rec',())∧i5 n (q+1) code ss dt bs cs' ls' ts' ck rn ins d os us ow qs rec' js:=by
 unfold iE;rw[dP (x:=v) (by have:=hv.1;omega) (by have:=hv.2;omega)];obtain⟨v2,ev,hv2⟩:=fL v true;simp only[ev,oBS];refine (Iv h.prog h.mach hn (jI hv2) ⟨by decide,dX⟩ (by decide)).bind ?_;rintro _ ⟨cs',ls',ts',b,rfl,hM⟩;dsimp only;have hr:=h.rlen;refine Ok.need (dN (by simp;omega)) ?_;exact Ok.ret ⟨_,_,_,_,rfl,h.prog,hM,h.outs,h.lock,by rw[eJ];simp;omega,h.jlen⟩
def Nk(n key:Int) (q:Nat) (code:List DIn) (ss:List Int) (dt:List (List Int)) (bs:List Int) (cs:List DCe) (ls:List DLn) (ts:List DTh) (rec:List DEn) (r:Int×Int×Int×Int×(List DCn)×Int×Bool×(List DIn)×(List (Int))×(List (List (Int)))×(List (Int))×Int×(List DCe)×(List DLn)×(List DTh)×(List (Int))×(List (Int))×(List (List (Int)))×(List (List DCn))×(List DOp)×(List DOu)×(List (Int))×(List (List (Int)))×(List DEn)×(List (Int))×Unit):Prop:=
 ∃t v rg o dat sp w ck rn ins d os us ow qs js,r=(t,v,rg,o,dat,sp,w,code,ss,dt,bs,key,cs,ls,ts,ck,rn,ins,d,os,us,ow,qs,rec,js,())∧i5 n q code ss dt bs cs ls ts ck rn ins d os us ow qs rec js∧Pr ss (t,v,rg,o)∧(dat.length≤16∧∀c∈dat,Pr ss c)∧-1≤sp∧sp≤3
set_option maxHeartbeats 4000000 in
theorem Fo{n m:Int}{q:Nat}{code:List DIn}{ss:List Int}{dt:List (List Int)}{bs:List Int}{key:Int}{cs:List DCe}{ls:List DLn}{ts:List DTh}{ck rn:List Int}{ins:List (List Int)}{d:List (List DCn)}{os:List DOp}{us:List DOu}{ow:List Int}{qs:List (List Int)}{rec:List DEn}{js:List Int}{i:Nat}{trap count pc call:Int}{args data:List DCn}(h:i5 n q code ss dt bs cs ls ts ck rn ins d os us ow qs rec js) (hi:i < 4) (hm:m≤1099511627776) (hR:xF m ss (i:Int) 1 trap count pc call args data) :
 Ok (jm (i:Int) 1 trap count pc call args data code ss dt bs key cs ls ts ck rn ins d os us ow qs rec js) (Nk n key q code ss dt bs cs ls ts rec):=by
 obtain⟨hk1,_⟩:=hR.hkind rfl;have htl:=h.mach.tlen;obtain⟨v0,ev0,hv0⟩:=fL 0 true;obtain⟨v1,ev1,hv1⟩:=fL 0 false;have nil16:([]:List DCn).length≤16∧∀c∈([]:List DCn),Pr ss c:=⟨by decide,dX⟩
 have fin:∀{v:Int} {w:Bool} {ow':List Int} {qs':List (List Int)} {js':List Int},W16 v→ie ow' qs'→js'.length=4→Ok (some ((0:Int),v,(0:Int),(0:Int),([]:List DCn),(-1:Int),w,code,ss,dt,bs,key,cs,ls,ts,ck,rn,ins,d,os,us,ow',qs',rec,js',())) (Nk n key q code ss dt bs cs ls ts rec):=
  fun hv hl hj=>Ok.ret ⟨_,_,_,_,_,_,_,_,_,_,_,_,_,_,_,_,rfl,⟨h.prog,h.mach,h.outs,hl,h.rlen,hj⟩,jI hv,nil16,by decide,by decide⟩
 have hdo:LW call=true→Ok ((nb ck rn ins d os us (i:Int) 1 trap count pc call args data).bind fun(x35,x36,x37,x38,x39,x40,x41,x42,x43,x44,x45,x46,x47,x48,_)=>some (x41,x42,x43,x44,x45,x46,x47,code,ss,dt,bs,key,cs,ls,ts,x35,x36,x37,x38,x39,x40,ow,qs,rec,js,())) (Nk n key q code ss dt bs cs ls ts rec):=by
  intro ha;refine (LJ h.prog.sz h.outs hR ha hm).bind ?_;rintro _ ⟨ck',rn',ins',d',os',us',t,v,rg,o,dat,rfl,hO,hv,hd1,hd2⟩;exact Ok.ret ⟨_,_,_,_,_,_,_,_,_,_,_,_,_,_,_,_,rfl,⟨h.prog,h.mach,hO,h.lock,h.rlen,h.jlen⟩,hv,⟨hd1,hd2⟩,by decide,by decide⟩
 have arg0:0 < (kB call).length→∃a,dF args 0=some a∧W16 a.2.1∧wk .i64 a.2.1=a.2.1:=fun hl=>by
  obtain⟨a,ha⟩:∃a,args[0]?=some a:=⟨_,oGE (by omega)⟩;have hva:=(hR.hargs.2 a (dK ha)).val;exact⟨a,ha,hva,dP (by have:=hva.1;omega) (by have:=hva.2;omega)⟩
 unfold jm;delta dI
 try dsimp only
 rcases s7 hR.hcall with rfl | rfl | rfl | rfl | rfl | rfl | rfl | rfl | rfl | rfl | rfl | rfl | rfl | rfl | rfl | rfl
 all_goals simp only[Int.reduceBEq,cond_true,cond_false,oBS,ev0,ev1]
 all_goals first
  | exact hdo rfl
  | exact fin hv0 h.lock h.jlen
  | skip
 ·obtain⟨a,ga,ha,wa⟩:=arg0 (by decide);simp only[ga,oBS,wa];refine (KJ h.lock (by omega)).bind ?_;rintro _ ⟨ow',qs',how,rfl,hl⟩;dsimp only;obtain⟨v,ev,hv⟩:=fL 0 (how != 2);simp only[ev,oBS];exact fin hv hl h.jlen
 ·obtain⟨a,ga,ha,wa⟩:=arg0 (by decide);simp only[ga,oBS,wa];refine (Dv h.lock).bind ?_;rintro _ ⟨ow',qs',nx,b,rfl,hl,_⟩;dsimp only;obtain⟨v,ev,hv⟩:=fL 0 b;simp only[ev,oBS];exact fin hv hl h.jlen
 ·obtain⟨y,e,hy⟩:=Ok.iter (f:=jl) (n:=NN) (s:=(ts,(ts.length:Int),0,code,ss,dt,bs,key,cs,ls,ts,ck,rn,ins,d,os,us,ow,qs,rec,js,0,0,0,0,(),0,false,()))
   (P:=fun s'=>∃k:Nat,s'=(ts,(ts.length:Int),(k:Int),code,ss,dt,bs,key,cs,ls,ts,ck,rn,ins,d,os,us,ow,qs,rec,js,0,0,0,0,(),0,false,())∧k≤4)
   (R:=fun y=>(∃v k,y=.inl (code,ss,dt,bs,key,cs,ls,ts,ck,rn,ins,d,os,us,ow,qs,rec,js,0,v,0,0,(),k,false,())∧W16 v∧0≤k∧k≤3)∨(∃a b c f,y=.inr (a,b,c,f,code,ss,dt,bs,key,cs,ls,ts,ck,rn,ins,d,os,us,ow,qs,rec,js,0,0,0,0,(),0,false,())))
   (m:=fun s'=>(s'.2.1 - s'.2.2.1).toNat) ⟨0,rfl,by omega⟩ (by unfold NN;dsimp only;omega) (by
    rintro _ ⟨k,rfl,hk⟩;unfold jl;dsimp only
    (with_reducible refine Ok.cb (fun hca=>?_) (fun hca=>?_))
    ·obtain⟨t,ht⟩:∃t,ts[k]?=some t:=⟨_,oGE (by omega)⟩;simp only[dH,oBS,show dF ts k=some t from ht]
     (with_reducible refine Ok.cb (fun hcb=>?_) (fun hcb=>?_))
     ·obtain⟨v,ev,hv⟩:=fL (k:Int) true;simp only[ev,oBS];exact Ok.ret (.inl ⟨_,_,rfl,hv,by omega,by omega⟩)
     ·rw[dL (x:=(k:Int)+1) (by omega) (by omega)];exact Ok.ret ⟨⟨k+1,rfl,by omega⟩,by dsimp only;omega⟩
    ·exact Ok.ret (.inr ⟨_,_,_,_,rfl⟩))
  simp only[e];rcases hy with ⟨v,k,rfl,hv,k0,k3⟩ | ⟨a,b,c,f,rfl⟩
  ·exact Ok.ret ⟨_,_,_,_,_,_,_,_,_,_,_,_,_,_,_,_,rfl,⟨h.prog,h.mach,h.outs,h.lock,h.rlen,h.jlen⟩,jI hv,nil16,by omega,by omega⟩
  ·simp only[ev1,oBS];exact fin hv1 h.lock h.jlen
 ·obtain⟨a,ga,ha,wa⟩:=arg0 (by decide);simp only[ga,oBS,wa];obtain⟨j,hj⟩:∃j:Nat,a.2.1=j:=⟨a.2.1.toNat,by have:=ha.1;omega⟩;simp only[hj];by_cases h1:(j:Int)=i
  ·simp only[beq_iff_eq.2 h1,cond_true,oBS,ev1];exact fin hv1 h.lock h.jlen
  by_cases h2:(j:Int)≥4
  ·simp only[beq_eq_false_iff_ne.2 h1,decide_eq_true h2,cond_true,cond_false,oBS,ev1];exact fin hv1 h.lock h.jlen
  obtain⟨t,ht⟩:∃t,ts[j]?=some t:=⟨_,oGE (by omega)⟩;simp only[beq_eq_false_iff_ne.2 h1,decide_eq_false h2,cond_false,oBS,dH,show dF ts j=some t from ht]
  cases t.1==0 with
  | true=>
   simp only[cond_true,ev1,oBS];exact fin hv1 h.lock h.jlen
  | false=>
   simp only[cond_false,dH,oBS,show dF ts j=some t from ht]
   cases t.1==4 with
   | true=>
    obtain⟨v,ev,hv⟩:=fL (wk .i64 t.2.2.2.2.2.2.2) true;simp only[cond_true,ev,oBS];exact fin hv h.lock h.jlen
   | false=>
    obtain⟨z,hz⟩:∃z,js[i]?=some z:=⟨_,oGE (by have:=h.jlen;omega)⟩;simp only[cond_false,show dF js i=some z from hz,oBS,ev0,dZ hz];exact fin hv0 h.lock (by rw[List.length_set];exact h.jlen)
theorem wi{n m:Int}{q:Nat}{code:List DIn}{ss:List Int}{dt:List (List Int)}{bs:List Int}{key:Int}{cs:List DCe}{ls:List DLn}{ts:List DTh}{ck rn:List Int}{ins:List (List Int)}{d:List (List DCn)}{os:List DOp}{us:List DOu}{ow:List Int}{qs:List (List Int)}{rec:List DEn}{js:List Int}{i:Nat}{trap count pc call:Int}{args data:List DCn}(h:i5 n q code ss dt bs cs ls ts ck rn ins d os us ow qs rec js) (hi:i < 4) (hn:n≤1099511627776) (hm:m≤1099511627776) (hq:q≤800) (hR:xF m ss (i:Int) 1 trap count pc call args data) :
 Ok (iF (i:Int) 1 trap count pc call args data code ss dt bs key cs ls ts ck rn ins d os us ow qs rec js) (Nh n key (q+2) code ss dt bs):=by
 obtain⟨hk1,_⟩:=hR.hkind rfl;unfold iF;refine Ok.bind (P:=fun r=>∃nx,r=(nx,code,ss,dt,bs,key,cs,ls,ts,ck,rn,ins,d,os,us,ow,qs,rec,js,(i:Int),1,trap,count,pc,call,args,data,())) ?_ ?_
 ·by_cases h9:call=9
  ·subst h9;obtain⟨a,ha⟩:∃a,args[0]?=some a:=⟨_,oGE (by rw[hk1];decide)⟩;simp only[BEq.rfl,cond_true,show dF args 0=some a from ha,oBS];refine (Dv h.lock).bind ?_;rintro _ ⟨ow',qs',nx,b,rfl,hl,_⟩;exact Ok.ret ⟨nx,rfl⟩
  ·simp only[beq_eq_false_iff_ne.2 h9,cond_false];exact Ok.ret ⟨_,rfl⟩
 rintro _ ⟨nx,rfl⟩;dsimp only;refine (Fo h hi hm hR).bind ?_;rintro _ ⟨t,v,rg,o,dat,sp,w,ck',rn',ins',d',os',us',ow',qs',js',rfl,h2,hv,hd,hs1,hs2⟩;dsimp only;refine (ML h.prog h.mach hi hn hm hR hv hd ⟨hs1,hs2⟩).bind ?_;rintro _ ⟨cs',ls',ts',b,rfl,hM⟩;dsimp only;have hr:=h.rlen;refine Ok.need (dN (by simp;omega)) ?_;have h3:∀e:DEn,i5 n (q+1) code ss dt bs cs' ls' ts' ck' rn' ins' d' os' us' ow' qs' (List.append rec [e]) js':=fun e=>⟨h2.prog,hM,h2.outs,h2.lock,by rw[eJ];simp;omega,h2.jlen⟩
 (with_reducible refine Ok.cb (fun hca=>?_) (fun hca=>?_))
 ·refine (Gi (h3 _) hn (by omega) ⟨by decide,by decide⟩).bind ?_;rintro _ ⟨cs3,ls3,ts3,ck3,rn3,ins3,d3,os3,us3,ow3,qs3,rec3,js3,rfl,h4⟩;exact Ok.ret ⟨_,_,_,_,_,_,_,_,_,_,_,_,_,rfl,h4⟩
 ·have h4:=h3 (2,(i:Int),0,(i:Int),1,trap,count,pc,call,args,data,t,v,rg,o,dat,sp,w);exact Ok.ret ⟨_,_,_,_,_,_,_,_,_,_,_,_,_,rfl,h4.prog,h4.mach,h4.outs,h4.lock,by have:=h4.rlen;omega,h4.jlen⟩
theorem Ai{n:Int}{q:Nat}{code:List DIn}{ss:List Int}{dt:List (List Int)}{bs:List Int}{key:Int}{cs:List DCe}{ls:List DLn}{ts:List DTh}{ck rn:List Int}{ins:List (List Int)}{d:List (List DCn)}{os:List DOp}{us:List DOu}{ow:List Int}{qs:List (List Int)}{rec:List DEn}{js:List Int}{i:Nat}(h:i5 n q code ss dt bs cs ls ts ck rn ins d os us ow qs rec js) (hi:i < 4) (hn:n≤1099511627776) (hq:q≤800) :
 Ok (jn (i:Int) code ss dt bs key cs ls ts ck rn ins d os us ow qs rec js) (Nh n key (q+8) code ss dt bs):=by
 unfold jn;delta dI
 try dsimp only
 refine (LG h.lock).bind ?_;rintro _ ⟨ow',qs',nx,rfl,hl,hn4,hnx⟩;dsimp only
 refine Ok.loop (P:=fun s'=>∃k:Nat,∃cs ls ts rec,s'=((i:Int),(nx.length:Int),(k:Int),code,ss,dt,bs,key,cs,ls,ts,ck,rn,ins,d,os,us,ow',qs',rec,js,nx,())∧k≤nx.length∧i5 n (q+k) code ss dt bs cs ls ts ck rn ins d os us ow' qs' rec js)
  (R:=fun r=>∃a b f cs ls ts rec,r=((i:Int),a,b,f,code,ss,dt,bs,key,cs,ls,ts,ck,rn,ins,d,os,us,ow',qs',rec,js,nx,())∧i5 n (q+4) code ss dt bs cs ls ts ck rn ins d os us ow' qs' rec js) (m:=fun s'=>(s'.2.1 - s'.2.2.1).toNat)
  ⟨0,cs,ls,ts,rec,rfl,by omega,h.prog,h.mach,h.outs,hl,by have:=h.rlen;omega,h.jlen⟩ (by unfold NN;dsimp only;omega) ?_ ?_
 ·rintro _ ⟨k,cs2,ls2,ts2,rec2,rfl,hk,h2⟩;unfold ot;dsimp only
  (with_reducible refine Ok.cb (fun hca=>?_) (fun hca=>?_))
  ·obtain⟨x,hx⟩:∃x,nx[k]?=some x:=⟨_,oGE (by omega)⟩;simp only[dH,oBS,show dF nx k=some x from hx];refine (DX h2 hn (by omega) ⟨by decide,by decide⟩).bind ?_;rintro _ ⟨cs3,ls3,ts3,rec3,rfl,h3⟩;dsimp only;rw[dL (x:=(k:Int)+1) (by omega) (by omega)];exact Ok.ret ⟨⟨k+1,_,_,_,_,rfl,by omega,h3⟩,by dsimp only;omega⟩
  ·exact Ok.ret ⟨_,_,_,_,_,_,_,rfl,h2.prog,h2.mach,h2.outs,h2.lock,by have:=h2.rlen;omega,h2.jlen⟩
 rintro _ ⟨a,b,f,cs2,ls2,ts2,rec2,rfl,h2⟩;dsimp only
 refine Ok.loop (P:=fun s'=>∃k:Nat,∃cs ls ts rec js,s'=((i:Int),4,(k:Int),code,ss,dt,bs,key,cs,ls,ts,ck,rn,ins,d,os,us,ow',qs',rec,js,())∧k≤4∧i5 n (q+4+k) code ss dt bs cs ls ts ck rn ins d os us ow' qs' rec js)
  (R:=fun r=>∃a b c f cs ls ts rec js,r=(a,b,c,f,code,ss,dt,bs,key,cs,ls,ts,ck,rn,ins,d,os,us,ow',qs',rec,js,())∧i5 n (q+8) code ss dt bs cs ls ts ck rn ins d os us ow' qs' rec js) (m:=fun s'=>(s'.2.1 - s'.2.2.1).toNat)
  ⟨0,cs2,ls2,ts2,rec2,js,by rw[h.jlen];rfl,by omega,h2⟩ (by unfold NN;dsimp only;have:=h.jlen;omega) ?_ ?_
 ·rintro _ ⟨k,cs2,ls2,ts2,rec2,js2,rfl,hk,h2⟩;unfold oq;dsimp only
  (with_reducible refine Ok.cb (fun hca=>?_) (fun hca=>?_))
  ·obtain⟨x,hx⟩:∃x,js2[k]?=some x:=⟨_,oGE (by have:=h2.jlen;omega)⟩;obtain⟨t,ht⟩:∃t,ts2[i]?=some t:=⟨_,oGE (by have:=h2.mach.tlen;omega)⟩;have htc:=(h2.mach.thr t (dK ht)).code;simp only[dH,oBS,show dF js2 k=some x from hx,show dF ts2 i=some t from ht];refine Ok.bind (P:=fun r=>∃cs ls ts rec js,r=((i:Int),4,(k:Int),code,ss,dt,bs,key,cs,ls,ts,ck,rn,ins,d,os,us,ow',qs',rec,js,())∧i5 n (q+4+(k+1)) code ss dt bs cs ls ts ck rn ins d os us ow' qs' rec js) ?_ ?_
   ·(with_reducible refine Ok.cb (fun hcb=>?_) (fun hcb=>?_))
    ·refine (DX h2 hn (by omega) htc).bind ?_;rintro _ ⟨cs3,ls3,ts3,rec3,rfl,h3⟩;simp only[dH,oBS,show dF js2 k=some x from hx,dZ hx];exact Ok.ret ⟨_,_,_,_,_,rfl,h3.prog,h3.mach,h3.outs,h3.lock,by have:=h3.rlen;omega,by rw[List.length_set];exact h3.jlen⟩
    ·exact Ok.ret ⟨_,_,_,_,_,rfl,h2.prog,h2.mach,h2.outs,h2.lock,by have:=h2.rlen;omega,h2.jlen⟩
   ·rintro _ ⟨cs3,ls3,ts3,rec3,js3,rfl,h3⟩;dsimp only;rw[dL (x:=(k:Int)+1) (by omega) (by omega)];exact Ok.ret ⟨⟨k+1,_,_,_,_,_,rfl,by omega,h3⟩,by dsimp only;omega⟩
  ·exact Ok.ret ⟨_,_,_,_,_,_,_,_,_,rfl,h2.prog,h2.mach,h2.outs,h2.lock,by have:=h2.rlen;omega,h2.jlen⟩
 ·rintro _ ⟨a,b,c,f,cs2,ls2,ts2,rec2,js2,rfl,h2⟩;exact Ok.ret ⟨_,_,_,_,_,_,_,_,_,_,_,_,_,rfl,h2⟩
def Nl(n key:Int) (q:Nat) (code:List DIn) (ss:List Int) (dt:List (List Int)) (bs:List Int) (r:(List DIn)×(List (Int))×(List (List (Int)))×(List (Int))×Int×(List DCe)×(List DLn)×(List DTh)×(List (Int))×(List (Int))×(List (List (Int)))×(List (List DCn))×(List DOp)×(List DOu)×(List (Int))×(List (List (Int)))×(List DEn)×(List (Int))×Int×Unit):Prop:=
 (∃e,r=([],[],[],[],0,[],[],[],[],[],[],[],[],[],[],[],[],[],e,())∧e≠0)∨(∃cs ls ts ck rn ins d os us ow qs rec js,r=(code,ss,dt,bs,key,cs,ls,ts,ck,rn,ins,d,os,us,ow,qs,rec,js,0,())∧i5 n q code ss dt bs cs ls ts ck rn ins d os us ow qs rec js)
theorem DF{code:List DIn}{ss:List Int}{dt:List (List Int)}{bs:List Int}{key:Int}{cs:List DCe}{ls:List DLn}{ts:List DTh}{ck rn:List Int}{ins:List (List Int)}{d:List (List DCn)}{os:List DOp}{us:List DOu}{ow:List Int}{qs:List (List Int)}{rec:List DEn}{js:List Int}(h1:rec.length≤1000) (h2:js.length≤1000):kg code ss dt bs key cs ls ts ck rn ins d os us ow qs rec js=some (code,ss,dt,bs,key,cs,ls,ts,ck,rn,ins,d,os,us,ow,qs,rec,js,()):=by
 unfold kg;rw[dN (show 8≤1000∧0+js.length≤1000000 by omega),dN (show 184≤1000∧0+rec.length≤1000000 by omega)];rfl
set_option maxHeartbeats 4000000 in
theorem Hz{n:Int}{q:Nat}{code:List DIn}{ss:List Int}{dt:List (List Int)}{bs:List Int}{key:Int}{cs:List DCe}{ls:List DLn}{ts:List DTh}{ck rn:List Int}{ins:List (List Int)}{d:List (List DCn)}{os:List DOp}{us:List DOu}{ow:List Int}{qs:List (List Int)}{rec:List DEn}{js:List Int}{c1 c2:Int}{c3:Bool}(h:i5 n q code ss dt bs cs ls ts ck rn ins d os us ow qs rec js) (hn0:0≤n) (hn:n+64≤1099511627776) (hq:q≤700) (hc1:DV c1) (hc2:DV c2) :
 Ok (mD code ss dt bs key cs ls ts ck rn ins d os us ow qs rec js c1 c2 c3) (Nl (n+64) key (q+12) code ss dt bs):=by
 have htl:=h.mach.tlen;have hr:=h.rlen;unfold mD;delta dI;rw[Ji (by omega)];simp only[oBS];have hrl:=xU ts 0
 (with_reducible refine Ok.cb (fun hca=>?_) (fun hca=>?_))
 ·exact Ok.ret (.inl ⟨15,rfl,by decide⟩)
 (with_reducible refine Ok.cb (fun hcb=>?_) (fun hcb=>?_))
 ·exact Ok.ret (.inl ⟨3,rfl,by decide⟩)
 refine Mq hc1 (by omega) (by omega) fun v v0 v1=>?_;dsimp only;obtain⟨k,rfl⟩:∃k:Nat,v=k:=⟨v.toNat,by omega⟩;obtain⟨x,hx⟩:∃x,(gR ts 0)[k]?=some x:=⟨_,oGE (by omega)⟩;obtain⟨x0,x1,_⟩:=Fh (dK hx);obtain⟨i,rfl⟩:∃i:Nat,x=i:=⟨x.toNat,by omega⟩
 have hi:i < 4:=by omega
 simp only[dH,oBS,show dF (gR ts 0) k=some (i:Int) from hx];refine Mq hc2 (by decide) (by decide) fun u u0 u1=>?_;dsimp only;rw[dL (x:=1+u) (by omega) (by omega),DF (by omega) (by have:=h.jlen;omega)]
 have hk:1≤1+u∧1+u≤64:=by omega
 generalize 1+u=kk at hk;simp only[oBS]
 cases c3 with
 | false=>
  simp only[cond_false];have h2:i5 n (q+1) code ss dt bs cs ls ts ck rn ins d os us ow qs rec js:=⟨h.prog,h.mach,h.outs,h.lock,by omega,h.jlen⟩;have htl2:=h2.mach.tlen;refine (uR h2.prog h2.mach hn0 hn hi hk).bind ?_;rintro _ ⟨cs3,ls3,t3,stop,trap,call,args,data,rfl,hm3,hth3,hreq,hask,_⟩;dsimp only;have hr2:=h2.rlen;have hM3:=(h2.mach.mono (show n≤n+64 by omega)).set hm3 (i:=i) hth3;refine Ok.need (dN (by simp;omega)) ?_;refine Ok.bind (P:=fun r=>∃cs ls ts ck rn ins d os us ow qs rec js,r=((i:Int),(),(),(),(),0,(),(),(),(),(),(),(),(),(),(),(),(),(),code,ss,dt,bs,key,cs,ls,ts,ck,rn,ins,d,os,us,ow,qs,rec,js,())∧i5 (n+64) (q+4) code ss dt bs cs ls ts ck rn ins d os us ow qs rec js) ?_ ?_
  ·by_cases hs1:stop=1
   ·subst hs1;simp only[BEq.rfl,cond_true];refine (wi (q:=q+2) ⟨h2.prog,hM3,h2.outs,h2.lock,by rw[eJ];simp;omega,h2.jlen⟩ hi (by omega) hn (by omega) hreq).bind ?_;rintro _ ⟨cs4,ls4,ts4,ck4,rn4,ins4,d4,os4,us4,ow4,qs4,rec4,js4,rfl,h4⟩;exact Ok.ret ⟨_,_,_,_,_,_,_,_,_,_,_,_,_,rfl,h4⟩
   ·simp only[beq_eq_false_iff_ne.2 hs1,cond_false];exact Ok.ret ⟨_,_,_,_,_,_,_,_,_,_,_,_,_,rfl,h2.prog,hM3,h2.outs,h2.lock,by rw[eJ];simp;omega,h2.jlen⟩
  rintro _ ⟨cs,ls,ts,ck,rn,ins,d,os,us,ow,qs,rec,js,rfl,h5⟩;dsimp only;obtain⟨t5,ht5⟩:∃t5,ts[i]?=some t5:=⟨_,oGE (by have:=h5.mach.tlen;omega)⟩;simp only[dH,oBS,show dF ts i=some t5 from ht5];refine Ok.bind (P:=fun r=>∃cs ls ts ck rn ins d os us ow qs rec js,r=((),(),(),(),0,(),(),(),(),(),(),(),(),(),(),(),(),(),code,ss,dt,bs,key,cs,ls,ts,ck,rn,ins,d,os,us,ow,qs,rec,js,())∧i5 (n+64) (q+12) code ss dt bs cs ls ts ck rn ins d os us ow qs rec js) ?_ ?_
  ·(with_reducible refine Ok.cb (fun hce=>?_) (fun hce=>?_))
   ·refine (Ai h5 hi (by omega) (by omega)).bind ?_;rintro _ ⟨cs4,ls4,ts4,ck4,rn4,ins4,d4,os4,us4,ow4,qs4,rec4,js4,rfl,h4⟩;exact Ok.ret ⟨_,_,_,_,_,_,_,_,_,_,_,_,_,rfl,h4⟩
   ·exact Ok.ret ⟨_,_,_,_,_,_,_,_,_,_,_,_,_,rfl,h5.prog,h5.mach,h5.outs,h5.lock,by have:=h5.rlen;omega,h5.jlen⟩
  rintro _ ⟨cs,ls,ts,ck,rn,ins,d,os,us,ow,qs,rec,js,rfl,h6⟩;exact Ok.ret (.inr ⟨_,_,_,_,_,_,_,_,_,_,_,_,_,rfl,h6⟩)
 | true=>
  simp only[cond_true];obtain⟨⟨b,_⟩,eC,_⟩:=Ku (key:=key) h.mach (i:Int);simp only[eC,oBS]
  cases b with
  | false=>
   simp only[cond_false];have h2:i5 n (q+1) code ss dt bs cs ls ts ck rn ins d os us ow qs rec js:=⟨h.prog,h.mach,h.outs,h.lock,by omega,h.jlen⟩;have htl2:=h2.mach.tlen;refine (uR h2.prog h2.mach hn0 hn hi hk).bind ?_;rintro _ ⟨cs3,ls3,t3,stop,trap,call,args,data,rfl,hm3,hth3,hreq,hask,_⟩;dsimp only;have hr2:=h2.rlen;have hM3:=(h2.mach.mono (show n≤n+64 by omega)).set hm3 (i:=i) hth3;refine Ok.need (dN (by simp;omega)) ?_;refine Ok.bind (P:=fun r=>∃cs ls ts ck rn ins d os us ow qs rec js,r=((i:Int),(),(),(),(),0,(),(),(),(),(),(),(),(),(),(),(),(),(),code,ss,dt,bs,key,cs,ls,ts,ck,rn,ins,d,os,us,ow,qs,rec,js,())∧i5 (n+64) (q+4) code ss dt bs cs ls ts ck rn ins d os us ow qs rec js) ?_ ?_
   ·by_cases hs1:stop=1
    ·subst hs1;simp only[BEq.rfl,cond_true];refine (wi (q:=q+2) ⟨h2.prog,hM3,h2.outs,h2.lock,by rw[eJ];simp;omega,h2.jlen⟩ hi (by omega) hn (by omega) hreq).bind ?_;rintro _ ⟨cs4,ls4,ts4,ck4,rn4,ins4,d4,os4,us4,ow4,qs4,rec4,js4,rfl,h4⟩;exact Ok.ret ⟨_,_,_,_,_,_,_,_,_,_,_,_,_,rfl,h4⟩
    ·simp only[beq_eq_false_iff_ne.2 hs1,cond_false];exact Ok.ret ⟨_,_,_,_,_,_,_,_,_,_,_,_,_,rfl,h2.prog,hM3,h2.outs,h2.lock,by rw[eJ];simp;omega,h2.jlen⟩
   rintro _ ⟨cs,ls,ts,ck,rn,ins,d,os,us,ow,qs,rec,js,rfl,h5⟩;dsimp only;obtain⟨t5,ht5⟩:∃t5,ts[i]?=some t5:=⟨_,oGE (by have:=h5.mach.tlen;omega)⟩;simp only[dH,oBS,show dF ts i=some t5 from ht5];refine Ok.bind (P:=fun r=>∃cs ls ts ck rn ins d os us ow qs rec js,r=((),(),(),(),0,(),(),(),(),(),(),(),(),(),(),(),(),(),code,ss,dt,bs,key,cs,ls,ts,ck,rn,ins,d,os,us,ow,qs,rec,js,())∧i5 (n+64) (q+12) code ss dt bs cs ls ts ck rn ins d os us ow qs rec js) ?_ ?_
   ·(with_reducible refine Ok.cb (fun hce=>?_) (fun hce=>?_))
    ·refine (Ai h5 hi (by omega) (by omega)).bind ?_;rintro _ ⟨cs4,ls4,ts4,ck4,rn4,ins4,d4,os4,us4,ow4,qs4,rec4,js4,rfl,h4⟩;exact Ok.ret ⟨_,_,_,_,_,_,_,_,_,_,_,_,_,rfl,h4⟩
    ·exact Ok.ret ⟨_,_,_,_,_,_,_,_,_,_,_,_,_,rfl,h5.prog,h5.mach,h5.outs,h5.lock,by have:=h5.rlen;omega,h5.jlen⟩
   rintro _ ⟨cs,ls,ts,ck,rn,ins,d,os,us,ow,qs,rec,js,rfl,h6⟩;exact Ok.ret (.inr ⟨_,_,_,_,_,_,_,_,_,_,_,_,_,rfl,h6⟩)
  | true=>
   obtain⟨_,eD,ts',b',rfl,hD⟩:=FU (key:=key) h.mach (i:Int);simp only[cond_true,eD,oBS];rw[dN (show 184≤1000∧rec.length + _≤1000000 by simp;omega)];simp only[cond_true];have h2:i5 n (q+1) code ss dt bs cs ls ts' ck rn ins d os us ow qs (List.append rec [(3,(i:Int),0,0,0,0,0,0,0,[],[],0,0,0,0,[],0,false)]) js:=⟨h.prog,hD,h.outs,h.lock,by rw[eJ];simp;omega,h.jlen⟩;have htl2:=h2.mach.tlen;refine (uR h2.prog h2.mach hn0 hn hi hk).bind ?_;rintro _ ⟨cs3,ls3,t3,stop,trap,call,args,data,rfl,hm3,hth3,hreq,hask,_⟩;dsimp only;have hr2:=h2.rlen;have hM3:=(h2.mach.mono (show n≤n+64 by omega)).set hm3 (i:=i) hth3;refine Ok.need (dN (by simp;omega)) ?_;refine Ok.bind (P:=fun r=>∃cs ls ts ck rn ins d os us ow qs rec js,r=((i:Int),(),(),(),(),0,(),(),(),(),(),(),(),(),(),(),(),(),(),code,ss,dt,bs,key,cs,ls,ts,ck,rn,ins,d,os,us,ow,qs,rec,js,())∧i5 (n+64) (q+4) code ss dt bs cs ls ts ck rn ins d os us ow qs rec js) ?_ ?_
   ·by_cases hs1:stop=1
    ·subst hs1;simp only[BEq.rfl,cond_true];refine (wi (q:=q+2) ⟨h2.prog,hM3,h2.outs,h2.lock,by rw[eJ];simp;omega,h2.jlen⟩ hi (by omega) hn (by omega) hreq).bind ?_;rintro _ ⟨cs4,ls4,ts4,ck4,rn4,ins4,d4,os4,us4,ow4,qs4,rec4,js4,rfl,h4⟩;exact Ok.ret ⟨_,_,_,_,_,_,_,_,_,_,_,_,_,rfl,h4⟩
    ·simp only[beq_eq_false_iff_ne.2 hs1,cond_false];exact Ok.ret ⟨_,_,_,_,_,_,_,_,_,_,_,_,_,rfl,h2.prog,hM3,h2.outs,h2.lock,by rw[eJ];simp;omega,h2.jlen⟩
   rintro _ ⟨cs,ls,ts,ck,rn,ins,d,os,us,ow,qs,rec,js,rfl,h5⟩;dsimp only;obtain⟨t5,ht5⟩:∃t5,ts[i]?=some t5:=⟨_,oGE (by have:=h5.mach.tlen;omega)⟩;simp only[dH,oBS,show dF ts i=some t5 from ht5];refine Ok.bind (P:=fun r=>∃cs ls ts ck rn ins d os us ow qs rec js,r=((),(),(),(),0,(),(),(),(),(),(),(),(),(),(),(),(),(),code,ss,dt,bs,key,cs,ls,ts,ck,rn,ins,d,os,us,ow,qs,rec,js,())∧i5 (n+64) (q+12) code ss dt bs cs ls ts ck rn ins d os us ow qs rec js) ?_ ?_
   ·(with_reducible refine Ok.cb (fun hce=>?_) (fun hce=>?_))
    ·refine (Ai h5 hi (by omega) (by omega)).bind ?_;rintro _ ⟨cs4,ls4,ts4,ck4,rn4,ins4,d4,os4,us4,ow4,qs4,rec4,js4,rfl,h4⟩;exact Ok.ret ⟨_,_,_,_,_,_,_,_,_,_,_,_,_,rfl,h4⟩
    ·exact Ok.ret ⟨_,_,_,_,_,_,_,_,_,_,_,_,_,rfl,h5.prog,h5.mach,h5.outs,h5.lock,by have:=h5.rlen;omega,h5.jlen⟩
   rintro _ ⟨cs,ls,ts,ck,rn,ins,d,os,us,ow,qs,rec,js,rfl,h6⟩;exact Ok.ret (.inr ⟨_,_,_,_,_,_,_,_,_,_,_,_,_,rfl,h6⟩)
theorem HM{l ss:List Int}{k:Int}(hs:wA ss) (h:DOk l k):Ok (lD ss l k) fun r=>∃bs key k',r=(bs,key,l,k',())∧LV bs ss∧W16 key∧DOk l k':=by
 unfold lD
 (with_reducible refine eY (by assumption) (by omega) (by omega) (fun v0 k0 a0 b0 d0=>?_);try dsimp only)
 refine (Lw hs a0 (by omega)).bind ?_;rintro _ ⟨key,rfl,hk⟩;exact Ok.ret ⟨_,_,_,rfl,MO hs a0,hk,d0⟩
theorem Mj{l:List Int}{k:Int}(h:DOk l k):Ok (pO l k) fun r=>∃code ss dt bs key cs ls ts ck rn ins d os us ow qs rec js k',r=(code,ss,dt,bs,key,cs,ls,ts,ck,rn,ins,d,os,us,ow,qs,rec,js,l,k',())∧W16 key∧i5 1152 216 code ss dt bs cs ls ts ck rn ins d os us ow qs rec js∧DOk l k':=by
 unfold pO;refine (Fn h).bind ?_;rintro _ ⟨code,ss,dt,k1,rfl,hp,h1⟩;dsimp only;refine (HM hp.sz h1).bind ?_;rintro _ ⟨bs,key,k2,rfl,hL,hkey,h2⟩;dsimp only;refine (Fs hp.sz h2).bind ?_;rintro _ ⟨ck,rn,ins,d,os,k3,rfl,hO,h3⟩;dsimp only;refine (J5 hp hL hO).bind ?_;rintro _ ⟨cs,ts,rfl,hM⟩;dsimp only
 (with_reducible refine eY (by assumption) (by omega) (by omega) (fun v4 k4 a4 b4 d4=>?_);try dsimp only)
 rw[dL (x:=3+v4) (by omega) (by omega)]
 obtain⟨y,e,hy⟩:=Ok.iter (f:=nQ) (n:=NN) (s:=(3+v4,l,k4,(),(),(),(),0,(),(),(),(),(),(),(),(),(),(),(),(),(),code,ss,dt,bs,key,cs,eK,ts,ck,rn,ins,d,os,[],[-1,-1,-1,-1],[[],[],[],[]],[],[-1,-1,-1,-1],()))
  (P:=fun s'=>∃(c k':Int) (q:Nat),∃cs ls ts ck rn ins d os us ow qs rec js,s'=(c,l,k',(),(),(),(),0,(),(),(),(),(),(),(),(),(),(),(),(),(),code,ss,dt,bs,key,cs,ls,ts,ck,rn,ins,d,os,us,ow,qs,rec,js,())∧0≤c∧c+q≤18∧DOk l k'∧i5 (64*q) (12*q) code ss dt bs cs ls ts ck rn ins d os us ow qs rec js)
  (R:=fun y=>(∃(c k':Int) (f:Bool) (q:Nat),∃cs ls ts ck rn ins d os us ow qs rec js z1 z2 z3 z4 z5 z6 z7 z8 z9 z10 z11 z12 z13 z14 z15 z16 z17 z18,y=.inl (c,f,l,k',(),(),(),(),0,(),(),(),(),(),(),(),(),(),(),(),(),(),code,ss,dt,bs,key,cs,ls,ts,ck,rn,ins,d,os,us,ow,qs,rec,js,z1,z2,z3,z4,z5,z6,z7,z8,z9,z10,z11,z12,z13,z14,z15,z16,z17,z18,())∧q≤18∧DOk l k'∧i5 (64*q) (12*q) code ss dt bs cs ls ts ck rn ins d os us ow qs rec js) ∨
   (∃(c k':Int) (f:Bool) (q:Nat),∃cs ls ts ck rn ins d os us ow qs rec js,y=.inr (c,f,l,k',(),(),(),(),0,(),(),(),(),(),(),(),(),(),(),(),(),(),code,ss,dt,bs,key,cs,ls,ts,ck,rn,ins,d,os,us,ow,qs,rec,js,())∧q≤18∧DOk l k'∧i5 (64*q) (12*q) code ss dt bs cs ls ts ck rn ins d os us ow qs rec js)) (m:=fun s'=>s'.1.toNat)
  ⟨3+v4,k4,0,_,_,_,_,_,_,_,_,_,_,_,_,_,rfl,by omega,by omega,d4,hp,by simpa using hM,hO,Mr,by simp,rfl⟩ (by unfold NN;dsimp only;omega) (by
   rintro _ ⟨c,k',q,cs,ls,ts,ck,rn,ins,d,os,us,ow,qs,rec,js,rfl,hc0,hcq,hd,hR⟩;unfold nQ;dsimp only
   (with_reducible refine Ok.cb (fun hca=>?_) (fun hca=>?_))
   ·refine (Ik hd).bind ?_;rintro _ ⟨t,b,s,k5,rfl,t0,t1,b0,b1,hd5⟩;dsimp only;refine (Hz hR (by omega) (by omega) (by omega) ⟨by omega,by omega⟩ ⟨by omega,by omega⟩).bind ?_;rintro _ (⟨e,rfl,he⟩ | ⟨cs2,ls2,ts2,ck2,rn2,ins2,d2,os2,us2,ow2,qs2,rec2,js2,rfl,hR2⟩)
    ·dsimp only;rw[bne_iff_ne.2 he];exact Ok.ret (.inl ⟨_,_,_,q,_,_,_,_,_,_,_,_,_,_,_,_,_,_,_,_,_,_,_,_,_,_,_,_,_,_,_,_,_,_,_,rfl,by omega,hd5,hR⟩)
    ·dsimp only;rw[dL (x:=c - 1) (by omega) (by omega)];refine Ok.ret ⟨⟨_,_,q+1,_,_,_,_,_,_,_,_,_,_,_,_,_,rfl,by omega,by omega,hd5,?_⟩,by dsimp only;omega⟩;rw[show 64*((q+1:Nat):Int)=64*(q:Int)+64 by omega,show 12*(q+1)=12*q+12 by omega];exact hR2
   ·exact Ok.ret (.inr ⟨_,_,_,q,_,_,_,_,_,_,_,_,_,_,_,_,_,rfl,by omega,hd,hR⟩))
 rw[e];have fin:∀{q:Nat} {cs ls ts ck rn ins d os us ow qs rec js},q≤18→i5 (64*q) (12*q) code ss dt bs cs ls ts ck rn ins d os us ow qs rec js→i5 1152 216 code ss dt bs cs ls ts ck rn ins d os us ow qs rec js:=fun hq hR=>⟨hR.prog,hR.mach.mono (by omega),hR.outs,hR.lock,by have:=hR.rlen;omega,hR.jlen⟩;rcases hy with ⟨c,k',f,q,cs,ls,ts,ck,rn,ins,d,os,us,ow,qs,rec,js,z1,z2,z3,z4,z5,z6,z7,z8,z9,z10,z11,z12,z13,z14,z15,z16,z17,z18,rfl,hq,hd,hR⟩ | ⟨c,k',f,q,cs,ls,ts,ck,rn,ins,d,os,us,ow,qs,rec,js,rfl,hq,hd,hR⟩
 ·exact Ok.ret ⟨_,_,_,_,_,_,_,_,_,_,_,_,_,_,_,_,_,_,_,rfl,hkey,fin hq hR,hd⟩
 ·exact Ok.ret ⟨_,_,_,_,_,_,_,_,_,_,_,_,_,_,_,_,_,_,_,rfl,hkey,fin hq hR,hd⟩
def Mk(bs ss:List Int) (key:Int) (cs:List DCe) (ls:List DLn) (r o:Nat):DCn:=qp bs ss key (CZ cs ls (bs.getD r 0+o))
def Lm(bs ss:List Int) (key:Int) (cs:List DCe) (ls:List DLn) (r:Nat):List DCn:=(List.range (ss.getD r 0).toNat).map (Mk bs ss key cs ls r)
def CA(bs ss:List Int) (key:Int) (cs:List DCe) (ls:List DLn):List (List DCn):=(List.range ss.length).map (Lm bs ss key cs ls)
def sr(bs ss:List Int) (key:Int) (t:DTh):DTs:=(t.1,t.2.2.1,t.2.2.2.1,t.2.2.2.2.1,t.2.2.2.2.2.1,t.2.2.2.2.2.2.1,t.2.2.2.2.2.2.2,t.2.1.map (qp bs ss key))
theorem LV.at_{bs ss:List Int}(h:LV bs ss) {r:Nat}(hr:r < ss.length):∃b z,bs[r]?=some b∧ss[r]?=some z∧1≤z∧z≤32∧0≤b∧b+z≤512:=by
 obtain⟨hs,hl,hg⟩:=h;obtain⟨b,hb⟩:∃b,bs[r]?=some b:=⟨_,oGE (by omega)⟩;obtain⟨z,hz⟩:∃z,ss[r]?=some z:=⟨_,oGE (by omega)⟩;have h1:=hg r (by omega);unfold uv at h1;rw[ej hb,ej hz] at h1;have h2:=hs.2.2 z (dK hz);exact⟨b,z,hb,hz,h2.1,h2.2,h1.1,h1.2.1⟩
theorem Fg{K:Int→Prop}{bs ss:List Int}{key:Int}{cs:List DCe}{ls:List DLn}(h:LV bs ss) (hm:i6 K cs ls):jA cs ls bs key ss=some (CA bs ss key cs ls,()):=by
 have hs4:=h.1.2.1
 have e0:∀(r:Nat) (b z:Int),bs[r]?=some b→ss[r]?=some z→1≤z→z≤32→0≤b→b+z≤512→∀(a1 a2 a3:_) (out:List (List DCn)),dO fP NN (ss,(r:Int),a1,a2,a3,z,0,cs,ls,bs,key,out,[],())=some (ss,(r:Int),a1,a2,a3,z,z,false,cs,ls,bs,key,out,Lm bs ss key cs ls r,()):=by
  intro r b z hb hz z1 z32 b0 bz a1 a2 a3 out;obtain⟨n,rfl⟩:∃n:Nat,z=n:=⟨z.toNat,by omega⟩
  have e:Lm bs ss key cs ls r=(List.range n).map (Mk bs ss key cs ls r):=by unfold Lm;rw[ej hz,Int.toNat_natCast]
  rw[e];refine mt (f:=fP) (N:=NN) (st:=fun o=>(ss,(r:Int),a1,a2,a3,(n:Int),(o:Int),cs,ls,bs,key,out,(List.range o).map (Mk bs ss key cs ls r),())) (n:=n) (by unfold NN;omega) ?_ ?_
  ·intro o ho;unfold fP;dsimp only;rw[decide_eq_true (show (o:Int) < n by omega),dH];simp only[cond_true,oBS,show dF bs r=some b from hb];rw[dL (x:=b+o) (by omega) (by omega)];obtain⟨hlk,hlv⟩:=yK (a:=b+o) hm ⟨by omega,by omega⟩;rw[hlk];simp only[oBS];rw[p5 h hlv];simp only[oBS];refine Ok.need (dN (by simp;omega)) ?_;rw[dL (x:=(o:Int)+1) (by omega) (by omega)];refine Ok.ret ?_;rw[← m0];unfold Mk;rw[ej hb];rfl
  ·unfold fP;dsimp only;rw[decide_eq_false (show ¬ (n:Int) < n by omega)];exact Ok.ret rfl
 have e1:dO fO NN (ss,ss,(ss.length:Int),0,cs,ls,bs,key,[],())=some (ss,ss,(ss.length:Int),(ss.length:Int),false,cs,ls,bs,key,CA bs ss key cs ls,()):=by
  refine mt (f:=fO) (N:=NN) (st:=fun r=>(ss,ss,(ss.length:Int),(r:Int),cs,ls,bs,key,(List.range r).map (Lm bs ss key cs ls),())) (n:=ss.length) (by unfold NN;omega) ?_ ?_
  ·intro r hr;obtain⟨b,z,hb,hz,z1,z32,b0,bz⟩:=h.at_ hr;unfold fO;dsimp only;rw[decide_eq_true (show (r:Int) < ss.length by omega),dH];simp only[cond_true,oBS,show dF ss r=some z from hz];rw[e0 r b z hb hz z1 z32 b0 bz];simp only[oBS];refine Ok.need (dN (by simp;omega)) ?_;rw[dL (x:=(r:Int)+1) (by omega) (by omega)];refine Ok.ret ?_;rw[← m0];rfl
  ·unfold fO;dsimp only;rw[decide_eq_false (show ¬ (ss.length:Int) < ss.length by omega)];exact Ok.ret rfl
 unfold jA;delta dI
 try dsimp only
 rw[e1];rfl
theorem IK{n key:Int}{code:List DIn}{dt:List (List Int)}{bs ss:List Int}{cs:List DCe}{ls:List DLn}{ts:List DTh}(h:MOk n ss bs cs ls ts):lj code ss dt bs key cs ls ts=some (CA bs ss key cs ls,ts.map (sr bs ss key),()):=by
 have h4:=h.tlen
 have e1:dO gF NN (ts,(ts.length:Int),0,code,ss,dt,bs,key,cs,ls,ts,(),(),CA bs ss key cs ls,[],())=some (ts,(ts.length:Int),(ts.length:Int),false,code,ss,dt,bs,key,cs,ls,ts,(),(),CA bs ss key cs ls,ts.map (sr bs ss key),()):=by
  have:=mt (f:=gF) (N:=NN) (st:=fun r=>(ts,(ts.length:Int),(r:Int),code,ss,dt,bs,key,cs,ls,ts,(),(),CA bs ss key cs ls,(ts.take r).map (sr bs ss key),())) (n:=ts.length) (t:=(ts,(ts.length:Int),(ts.length:Int),false,code,ss,dt,bs,key,cs,ls,ts,(),(),CA bs ss key cs ls,ts.map (sr bs ss key),())) (by unfold NN;omega) ?_ ?_
  ·exact this
  ·intro r hr;obtain⟨t,ht⟩:∃t,ts[r]?=some t:=⟨_,oGE (by omega)⟩;have hok:=h.thr t (dK ht);have h8:=hok.len;unfold gF;delta dI;dsimp only;rw[decide_eq_true (show (r:Int) < ts.length by omega),dH];simp only[cond_true,oBS,show dF ts r=some t from ht]
   have e0:∀(a1 a2 a3 a4 a5 a6 a7 a8 a9 a10 a11 a12 a13 a14:_),dO gG NN (ts,(ts.length:Int),(r:Int),t.2.1,(t.2.1.length:Int),0,code,ss,dt,bs,key,cs,ls,ts,(),(),CA bs ss key cs ls,(ts.take r).map (sr bs ss key),a1,t.2.1,a2,a3,a4,a5,a6,a7,a8,a9,a10,a11,a12,a13,a14,[],()) =
    some (ts,(ts.length:Int),(r:Int),t.2.1,(t.2.1.length:Int),(t.2.1.length:Int),false,code,ss,dt,bs,key,cs,ls,ts,(),(),CA bs ss key cs ls,(ts.take r).map (sr bs ss key),a1,t.2.1,a2,a3,a4,a5,a6,a7,a8,a9,a10,a11,a12,a13,a14,t.2.1.map (qp bs ss key),()):=by
    intro a1 a2 a3 a4 a5 a6 a7 a8 a9 a10 a11 a12 a13 a14
    have:=mt (f:=gG) (N:=NN) (st:=fun o=>(ts,(ts.length:Int),(r:Int),t.2.1,(t.2.1.length:Int),(o:Int),code,ss,dt,bs,key,cs,ls,ts,(),(),CA bs ss key cs ls,(ts.take r).map (sr bs ss key),a1,t.2.1,a2,a3,a4,a5,a6,a7,a8,a9,a10,a11,a12,a13,a14,(t.2.1.take o).map (qp bs ss key),())) (n:=t.2.1.length)
     (t:=(ts,(ts.length:Int),(r:Int),t.2.1,(t.2.1.length:Int),(t.2.1.length:Int),false,code,ss,dt,bs,key,cs,ls,ts,(),(),CA bs ss key cs ls,(ts.take r).map (sr bs ss key),a1,t.2.1,a2,a3,a4,a5,a6,a7,a8,a9,a10,a11,a12,a13,a14,t.2.1.map (qp bs ss key),())) (by unfold NN;omega) ?_ ?_
    ·exact this
    ·intro o ho;obtain⟨c,hc⟩:∃c,t.2.1[o]?=some c:=⟨_,oGE ho⟩;unfold gG;dsimp only;rw[decide_eq_true (show (o:Int) < t.2.1.length by omega),dH];simp only[cond_true,oBS,show dF t.2.1 o=some c from hc];rw[p5 h.lay (hok.regs c (dK hc))];simp only[oBS];refine Ok.need (dN (by simp;omega)) ?_;rw[dL (x:=(o:Int)+1) (by omega) (by omega)];refine Ok.ret ?_;rw[← gw (qp bs ss key) hc];rfl
    ·unfold gG;dsimp only;rw[decide_eq_false (show ¬ (t.2.1.length:Int) < t.2.1.length by omega),List.take_length];exact Ok.ret rfl
   rw[e0];simp only[oBS];refine Ok.need (dN (by simp;omega)) ?_;rw[dL (x:=(r:Int)+1) (by omega) (by omega)];refine Ok.ret ?_;rw[← gw (sr bs ss key) ht];rfl
  ·unfold gF;dsimp only;rw[decide_eq_false (show ¬ (ts.length:Int) < ts.length by omega),List.take_length];exact Ok.ret rfl
 unfold lj;delta dI;simp only[Fg h.lay h.mem,oBS];rw[e1];rfl
structure Ng (n:Int) (ss:List Int) (v:DTs):Prop where
 state:0≤v.1∧v.1≤4
 pc:0≤v.2.1∧v.2.1≤255
 count:0≤v.2.2.1∧v.2.2.1≤n
 handler:-1≤v.2.2.2.1∧v.2.2.2.1≤255
 saved:-1≤v.2.2.2.2.1∧v.2.2.2.2.1≤255
 trap:0≤v.2.2.2.2.2.1∧v.2.2.2.2.2.1≤6
 code:W16 v.2.2.2.2.2.2.1
 len:v.2.2.2.2.2.2.2.length=8
 regs:∀c∈v.2.2.2.2.2.2.2,Pr ss c
structure Ay (n:Int) (ss:List Int) (rg:List (List DCn)) (vs:List DTs):Prop where
 rlen:rg.length=ss.length
 fit:∀(j:Nat) x z,rg[j]?=some x→ss[j]?=some z→(x.length:Int)=z
 cells:∀x∈rg,∀c∈x,Pr ss c
 vlen:vs.length=4
 views:∀v∈vs,Ng n ss v
theorem IJ{n key:Int}{bs ss:List Int}{cs:List DCe}{ls:List DLn}{ts:List DTh}(h:MOk n ss bs cs ls ts):Ay n ss (CA bs ss key cs ls) (ts.map (sr bs ss key)):=by
 refine⟨by unfold CA;simp,fun j x z hx hz=>?_,fun x hx c hc=>?_,by rw[List.length_map];exact h.tlen,fun v hv=>?_⟩
 ·unfold CA at hx;rw[List.getElem?_map,List.getElem?_range (oGS hz).1] at hx
  injection hx with hx
  subst hx;have:=(h.lay.1.2.2 z (dK hz)).1;unfold Lm;rw[List.length_map,List.length_range,ej hz];omega
 ·unfold CA at hx;obtain⟨r,hr,rfl⟩:=List.mem_map.1 hx;have hr:=List.mem_range.1 hr;obtain⟨b,z,hb,hz,z1,z32,b0,bz⟩:=h.lay.at_ hr;unfold Lm at hc;obtain⟨o,ho,rfl⟩:=List.mem_map.1 hc;have ho:=List.mem_range.1 ho;rw[ej hz] at ho;unfold Mk;rw[ej hb];exact At h.lay (yK (a:=b+o) h.mem ⟨by omega,by omega⟩).2
 ·obtain⟨t,ht,rfl⟩:=List.mem_map.1 hv;have hok:=h.thr t ht;refine⟨hok.state,hok.pc,hok.count,hok.handler,hok.saved,hok.trap,hok.code,by unfold sr;dsimp only;rw[List.length_map];exact hok.len,fun c hc=>?_⟩;unfold sr at hc;dsimp only at hc;obtain⟨c',hc',rfl⟩:=List.mem_map.1 hc;exact At h.lay (hok.regs c' hc')
theorem Gn{l:List Int}(h:∀x∈l,1≤x∧x≤32):(l.length:Int)≤l.sum∧l.sum≤32*l.length:=by
 induction l with
 | nil=>simp
 | cons a l ih=>
  have h1:=h a (by simp);have h2:=ih fun x hx=>h x (by simp[hx]);rw[List.sum_cons,List.length_cons];omega
theorem LH{l:List Int}{k:Nat}{x:Int}(h:l[k]?=some x):l.drop k=x :: l.drop (k+1):=by
 obtain⟨hk,rfl⟩:=oGS h;exact List.drop_eq_getElem_cons hk
theorem IG{ss:List Int}(h:wA ss):ly ss=some (ss.sum,()):=by
 have e:dO gJ NN (0,ss,(ss.length:Int),0,())=some (ss.sum,ss,(ss.length:Int),(ss.length:Int),false,()):=by
  have:=mt (f:=gJ) (N:=NN) (st:=fun k=>((ss.take k).sum,ss,(ss.length:Int),(k:Int),())) (n:=ss.length) (t:=(ss.sum,ss,(ss.length:Int),(ss.length:Int),false,())) (by unfold NN;have:=h.2.1;omega) ?_ ?_
  ·exact this
  ·intro k hk;obtain⟨x,hx⟩:∃x,ss[k]?=some x:=⟨_,oGE hk⟩;have hx2:=h.2.2 x (dK hx);have hb:=Gn (l:=ss.take k) fun y hy=>h.2.2 y (List.mem_of_mem_take hy);have hl:=h.2.1;rw[List.length_take] at hb;unfold gJ;dsimp only;rw[decide_eq_true (show (k:Int) < ss.length by omega),dH];simp only[cond_true,oBS,show dF ss k=some x from hx];rw[dL (x:=(ss.take k).sum+x) (by omega) (by omega),dL (x:=(k:Int)+1) (by omega) (by omega)];refine Ok.ret ?_;rw[show ss.take (k+1)=ss.take k++[x] by rw[List.take_add_one,hx];rfl];simp
  ·unfold gJ;dsimp only;rw[decide_eq_false (show ¬ (ss.length:Int) < ss.length by omega),List.take_length];exact Ok.ret rfl
 unfold ly;delta dI
 try dsimp only
 rw[e];rfl
theorem Nf{ss:List Int}{i:Int}(h:wA ss) (h0:0≤i) (h1:i < ss.sum):Ok (pN ss i) fun r=>∃rg o,r=(rg,o,0,())∧0≤rg∧∃n,ss[rg.toNat]?=some n∧0≤o∧o < n:=by
 have hl:=h.2.1;unfold pN;delta dI
 try dsimp only
 obtain⟨y,e,rg,o,rfl,hy⟩:=Ok.iter (f:=nO) (n:=NN) (s:=(i,ss,(ss.length:Int),0,0,0,())) (P:=fun s'=>∃(k:Nat) (i':Int),s'=(i',ss,(ss.length:Int),(k:Int),0,0,())∧k≤ss.length∧0≤i'∧i' < (ss.drop k).sum∧i'≤1000)
  (R:=fun y=>∃rg o,y=.inl (0,rg,o,())∧0≤rg∧∃n,ss[rg.toNat]?=some n∧0≤o∧o < n) (m:=fun s'=>(s'.2.2.1 - s'.2.2.2.1).toNat) ⟨0,i,rfl,by omega,h0,h1,by have:=(Gn h.2.2).2;omega⟩ (by unfold NN;dsimp only;omega) (by
   rintro _ ⟨k,i',rfl,hk,i0,i1,i2⟩;unfold nO;dsimp only;by_cases hkl:k=ss.length
   ·subst hkl;rw[List.drop_length] at i1;simp at i1;omega
   obtain⟨x,hx⟩:∃x,ss[k]?=some x:=⟨_,oGE (by omega)⟩;have hx2:=h.2.2 x (dK hx);rw[LH hx,List.sum_cons] at i1;rw[decide_eq_true (show (k:Int) < ss.length by omega),dH];simp only[cond_true,oBS,show dF ss k=some x from hx];rw[decide_eq_true (show i'≥0 from i0)];by_cases hlt:i' < x
   ·rw[decide_eq_true hlt];exact Ok.ret ⟨_,_,rfl,by omega,x,by rw[Int.toNat_natCast];exact hx,i0,hlt⟩
   ·rw[decide_eq_false hlt];simp only[cond_true,cond_false];rw[dL (x:=i' - x) (by omega) (by omega),dL (x:=(k:Int)+1) (by omega) (by omega)]
    exact Ok.ret ⟨⟨k+1,_,rfl,by omega,by omega,by omega,by omega⟩,by dsimp only;omega⟩)
 rw[e];exact Ok.ret ⟨rg,o,rfl,hy⟩
theorem EI{ss l:List Int}{k:Int}(hs:wA ss) (h:DOk l k):Ok (kQ ss l k) fun r=>∃t v rg o k',r=(t,v,rg,o,l,k',())∧Pr ss (t,v,rg,o)∧DOk l k':=by
 unfold kQ
 (with_reducible refine eY (by assumption) (by omega) (by omega) (fun v0 k0 a0 b0 d0=>?_);try dsimp only)
 rw[IG hs];simp only[oBS];have hb:=Gn hs.2.2;have h1:=hs.1;have h4:=hs.2.1
 (with_reducible refine Ok.cb (fun hca=>?_) (fun hca=>?_))
 ·(with_reducible refine eY (by assumption) (by omega) (by omega) (fun v1 k1 a1 b1 d1=>?_);try dsimp only)
  refine (Nf hs a1 b1).bind ?_;rintro _ ⟨rg,o,rfl,g1,n,g2,g3,g4⟩;exact Ok.ret ⟨_,_,_,_,_,rfl,.inr ⟨rfl,rfl,g1,n,g2,g3,g4⟩,d1⟩
 (with_reducible refine Ok.cb (fun hcb=>?_) (fun hcb=>?_))
 ·(with_reducible refine eY (by assumption) (by omega) (by omega) (fun v2 k2 a2 b2 d2=>?_);try dsimp only)
  exact Ok.ret ⟨_,_,_,_,_,rfl,Ko (lW _),d2⟩
 ·(with_reducible refine AA (by assumption) (fun v3 k3 a3 b3 d3=>?_);try dsimp only)
  exact Ok.ret ⟨_,_,_,_,_,rfl,jI ⟨by omega,by omega⟩,d3⟩
def wH(v:DTs):List DCn:=v.2.2.2.2.2.2.2
def thF(bs:List Int) (key:Int) (v:DTs):DTh:=(v.1,(wH v).map (xV bs key),v.2.1,v.2.2.1,v.2.2.2.1,v.2.2.2.2.1,v.2.2.2.2.2.1,v.2.2.2.2.2.2.1)
theorem AD{n:Int}{ss:List Int}{vs:List DTs}(hs:wA ss) (hl:vs.length=4) (h:∀v∈vs,Ng n ss v) (hn:n≤1099511627776):jv vs=some (true,()):=by
 have e:dO fN NN (vs,vs,(vs.length:Int),0,())=some (.inr (vs,vs,(vs.length:Int),(vs.length:Int),false,())):=by
  refine mt (f:=fN) (N:=NN) (st:=fun k=>(vs,vs,(vs.length:Int),(k:Int),())) (n:=vs.length) (by unfold NN;omega) ?_ ?_
  ·intro k hk;obtain⟨v,hv⟩:∃v,vs[k]?=some v:=⟨_,oGE hk⟩;obtain⟨⟨a1,a2⟩,⟨b1,b2⟩,⟨c1,c2⟩,⟨d1,d2⟩,⟨e1,e2⟩,⟨f1,f2⟩,_,hl8,hr⟩:=h v (dK hv);unfold fN;delta dI;dsimp only;rw[decide_eq_true (show (k:Int) < vs.length by omega),dH];simp only[cond_true,oBS,show dF vs k=some v from hv];rw[decide_eq_true (show v.1≥0 from a1),decide_eq_true a2,decide_eq_true (show v.2.1≥0 from b1),decide_eq_true b2,decide_eq_true (show v.2.2.1≥0 from c1),decide_eq_true (show v.2.2.1≤1099511627776 by omega),decide_eq_true (show v.2.2.2.1≥-1 from d1),decide_eq_true d2,decide_eq_true (show v.2.2.2.2.1≥-1 from e1),decide_eq_true e2,decide_eq_true (show v.2.2.2.2.2.1≥0 from f1),decide_eq_true f2];simp only[cond_true,cond_false,oBS,Bool.not_true];rw[hl8,jf (n:=8) hs hr (by omega) (by omega)];simp only[show (((8:Nat):Int) != 8)=false from rfl,cond_false,oBS,Bool.not_true];rw[dL (x:=(k:Int)+1) (by omega) (by omega)];exact Ok.ret rfl
  ·unfold fN;dsimp only;rw[decide_eq_false (show ¬ (vs.length:Int) < vs.length by omega)];exact Ok.ret rfl
 unfold jv;delta dI;dsimp only;rw[e];dsimp only;rw[hl];rfl
theorem EX{n:Int}{code:List DIn}{ss:List Int}{dt:List (List Int)}{rg:List (List DCn)}{vs:List DTs}(hp:jW code ss dt) (h:Ay n ss rg vs) (hn:n≤1099511627776):li code ss dt rg vs=some (true,()):=by
 have h4:=hp.sz.2.1;have hl:=h.rlen
 have e:dO gE NN (rg,(rg.length:Int),0,code,ss,dt,rg,vs,())=some (.inr (rg,(rg.length:Int),(rg.length:Int),false,code,ss,dt,rg,vs,())):=by
  refine mt (f:=gE) (N:=NN) (st:=fun k=>(rg,(rg.length:Int),(k:Int),code,ss,dt,rg,vs,())) (n:=rg.length) (by unfold NN;omega) ?_ ?_
  ·intro k hk;obtain⟨x,hx⟩:∃x,rg[k]?=some x:=⟨_,oGE hk⟩;obtain⟨z,hz⟩:∃z,ss[k]?=some z:=⟨_,oGE (by omega)⟩;have hf:=h.fit k x z hx hz;have hz2:=hp.sz.2.2 z (dK hz);unfold gE;delta dI;dsimp only;rw[decide_eq_true (show (k:Int) < rg.length by omega),dH];simp only[cond_true,oBS,show dF rg k=some x from hx,show dF ss k=some z from hz,hf,bne_self_eq_false,cond_false];rw[jf (n:=32) hp.sz (h.cells x (dK hx)) (by omega) (by omega)];simp only[oBS,Bool.not_true,cond_false];rw[dL (x:=(k:Int)+1) (by omega) (by omega)];exact Ok.ret rfl
  ·unfold gE;dsimp only;rw[decide_eq_false (show ¬ (rg.length:Int) < rg.length by omega)];exact Ok.ret rfl
 unfold li;delta dI;rw[Ar hp,AD hp.sz h.vlen h.views hn];simp only[oBS,bne_self_eq_false,cond_false,Bool.not_true];rw[show ((rg.length:Int) != (ss.length:Int))=false by rw[hl];simp];simp only[cond_false,oBS];rw[e]
theorem FB{rg:List (List DCn)}{vs:List DTs}(h1:rg.length≤1000) (h2:vs.length≤1000):lh rg vs=some (rg++vs.map wH,()):=by
 have e:dO gD NN (vs,(vs.length:Int),0,rg,vs,rg,())=some (vs,(vs.length:Int),(vs.length:Int),false,rg,vs,rg++vs.map wH,()):=by
  have:=mt (f:=gD) (N:=NN) (st:=fun k=>(vs,(vs.length:Int),(k:Int),rg,vs,rg++(vs.take k).map wH,())) (n:=vs.length) (t:=(vs,(vs.length:Int),(vs.length:Int),false,rg,vs,rg++vs.map wH,())) (by unfold NN;omega) ?_ ?_
  ·simpa using this
  ·intro k hk;obtain⟨v,hv⟩:∃v,vs[k]?=some v:=⟨_,oGE hk⟩;unfold gD;dsimp only;rw[decide_eq_true (show (k:Int) < vs.length by omega),dH];simp only[cond_true,oBS,show dF vs k=some v from hv];refine Ok.need (dN (by simp;omega)) ?_;rw[dL (x:=(k:Int)+1) (by omega) (by omega)];refine Ok.ret ?_;rw[← gw wH hv,← List.append_assoc];rfl
  ·unfold gD;dsimp only;rw[decide_eq_false (show ¬ (vs.length:Int) < vs.length by omega),List.take_length];exact Ok.ret rfl
 unfold lh;rw[dN (show 24≤1000∧0+rg.length≤1000000 by omega)];delta dI;simp only[cond_true];rw[show List.append [] rg=rg from rfl,e];rfl
theorem LV.apart{bs ss:List Int}(h:LV bs ss) {r r':Nat}{b z b' z' o o':Int}(hne:r≠r') (hb:bs[r]?=some b) (hz:ss[r]?=some z) (hb':bs[r']?=some b') (hz':ss[r']?=some z') (h0:0≤o) (h1:o < z) (h0':0≤o') (h1':o' < z'):b+o≠b'+o':=by
 obtain⟨_,hl,hg⟩:=h;have l1:=(oGS hb).1;have l2:=(oGS hb').1;have g1:=hg r l1;have g2:=hg r' l2;unfold uv at g1 g2;rw[ej hb,ej hz] at g1;rw[ej hb',ej hz'] at g2;by_cases hlt:r' < r
 ·have:=g1.2.2 r' hlt;rw[ej hb',ej hz'] at this;omega
 ·have:=g2.2.2 r (by omega);rw[ej hb,ej hz] at this;omega
def MP(bs:List Int) (key:Int) (rg:List (List DCn)) (cs:List DCe) (r o:Nat):Prop:=∀(r' o':Nat) (x:List DCn) (c:DCn) (b:Int),rg[r']?=some x→x[o']?=some c→bs[r']?=some b→(r' < r∨(r'=r∧o' < o))→cs[(b+o').toNat]?=some (xV bs key c)
set_option maxHeartbeats 4000000 in
theorem HY{n key:Int}{code:List DIn}{ss bs:List Int}{dt:List (List Int)}{rg:List (List DCn)}{vs:List DTs}(hp:jW code ss dt) (hL:LV bs ss) (h:Ay n ss rg vs) (hn:n≤1099511627776) :
 Ok (kj code ss dt bs key rg vs) fun r=>∃cs,r=(bs,key,cs,eK,vs.map (thF bs key),true,())∧MOk n ss bs cs eK (vs.map (thF bs key))∧MP bs key rg cs ss.length 0:=by
 have h4:=hp.sz.2.1;have hbl:=hL.2.1;have hrl:=h.rlen;have hvl:=h.vlen;unfold kj;delta dI;rw[EX hp h hn,pJ hL,FB (by omega) (by omega),ED];simp only[oBS,Bool.not_true,cond_false]
 have hall:∀x∈rg++vs.map wH,x.length≤100∧∀c∈x,Pr ss c:=by
  intro x hx;rcases List.mem_append.1 hx with hx | hx
  ·obtain⟨j,hj⟩:=List.getElem?_of_mem hx;have:=(oGS hj).1;obtain⟨z,hz⟩:∃z,ss[j]?=some z:=⟨_,oGE (by omega)⟩;have:=h.fit j x z hj hz;have:=hp.sz.2.2 z (dK hz);exact⟨by omega,h.cells x hx⟩
  ·obtain⟨v,hv,rfl⟩:=List.mem_map.1 hx;have:=h.views v hv;exact⟨by unfold wH;rw[this.len];omega,this.regs⟩
 have hll:(rg++vs.map wH).length≤100:=by rw[List.length_append,List.length_map];omega
 generalize rg++vs.map wH=lst at hall hll
 have e1:dO f7 NN ((lst.length:Int),0,code,ss,dt,bs,key,rg,vs,(),0,(),(),(),lst,())=some (.inr ((lst.length:Int),(lst.length:Int),false,code,ss,dt,bs,key,rg,vs,(),0,(),(),(),lst,())):=by
  refine mt (f:=f7) (N:=NN) (st:=fun k=>((lst.length:Int),(k:Int),code,ss,dt,bs,key,rg,vs,(),0,(),(),(),lst,())) (n:=lst.length) (by unfold NN;omega) ?_ ?_
  ·intro k hk;obtain⟨x,hx⟩:∃x,lst[k]?=some x:=⟨_,oGE hk⟩;obtain⟨hxl,hxc⟩:=hall x (dK hx)
   have e0:dO f8 NN ((lst.length:Int),(k:Int),x,(x.length:Int),0,code,ss,dt,bs,key,rg,vs,(),0,(),(),(),lst,())=some (.inr ((lst.length:Int),(k:Int),x,(x.length:Int),(x.length:Int),false,code,ss,dt,bs,key,rg,vs,(),0,(),(),(),lst,())):=by
    refine mt (f:=f8) (N:=NN) (st:=fun o=>((lst.length:Int),(k:Int),x,(x.length:Int),(o:Int),code,ss,dt,bs,key,rg,vs,(),0,(),(),(),lst,())) (n:=x.length) (by unfold NN;omega) ?_ ?_
    ·intro o ho;obtain⟨c,hc⟩:∃c,x[o]?=some c:=⟨_,oGE ho⟩;unfold f8;dsimp only;rw[decide_eq_true (show (o:Int) < x.length by omega),dH];simp only[cond_true,oBS,show dF x o=some c from hc,md (hxc c (dK hc)),Bool.not_true,cond_false];rw[dL (x:=(o:Int)+1) (by omega) (by omega)];exact Ok.ret rfl
    ·unfold f8;dsimp only;rw[decide_eq_false (show ¬ (x.length:Int) < x.length by omega)];exact Ok.ret rfl
   unfold f7;delta dI;dsimp only;rw[decide_eq_true (show (k:Int) < lst.length by omega),dH];simp only[cond_true,oBS,show dF lst k=some x from hx,e0];rw[dL (x:=(k:Int)+1) (by omega) (by omega)];exact Ok.ret rfl
  ·unfold f7;dsimp only;rw[decide_eq_false (show ¬ (lst.length:Int) < lst.length by omega)];exact Ok.ret rfl
 rw[e1];dsimp only;refine Ok.need (dN (by omega)) (Ok.need (by decide) ?_);rw[show List.append [] bs=bs from rfl]
 refine Ok.loop (P:=fun s'=>∃(r:Nat),∃cs,s'=(rg,(rg.length:Int),(r:Int),code,ss,dt,bs,key,rg,vs,(),0,(),(),(),bs,key,cs,eK,(),())∧r≤rg.length∧cs.length=512∧(∀c∈cs,mw (RK bs ss) c)∧MP bs key rg cs r 0)
  (R:=fun y=>∃a b c f cs,y=(a,b,c,f,code,ss,dt,bs,key,rg,vs,(),0,(),(),(),bs,key,cs,eK,(),())∧cs.length=512∧(∀c∈cs,mw (RK bs ss) c)∧MP bs key rg cs ss.length 0) (m:=fun s'=>(s'.2.1 - s'.2.2.1).toNat)
  ⟨0,_,rfl,by omega,List.length_replicate,fun c hc=>by rw[List.eq_of_mem_replicate hc];exact kT (by decide),fun r' o' x c b _ _ _ hlt=>by omega⟩ (by unfold NN;dsimp only;omega) ?_ ?_
 ·rintro _ ⟨r,cs,rfl,hr,hc1,hc2,hI⟩;unfold nc;delta dI;dsimp only
  (with_reducible refine Ok.cb (fun hca=>?_) (fun hca=>?_))
  ·obtain⟨x,hx⟩:∃x,rg[r]?=some x:=⟨_,oGE (by omega)⟩;obtain⟨b,z,hb,hz,z1,z32,b0,bz⟩:=hL.at_ (r:=r) (by omega);have hf:=h.fit r x z hx hz;have hxc:=h.cells x (dK hx);rw[dH];simp only[oBS,show dF rg r=some x from hx]
   refine Ok.loop (P:=fun s'=>∃(o:Nat),∃cs,s'=((r:Int),rg,(rg.length:Int),(r:Int),x,(x.length:Int),(o:Int),code,ss,dt,bs,key,rg,vs,(),0,(),(),(),bs,key,cs,eK,(),())∧o≤x.length∧cs.length=512∧(∀c∈cs,mw (RK bs ss) c)∧MP bs key rg cs r o)
    (R:=fun y=>∃a2 a3 a4 f cs,y=((r:Int),rg,(rg.length:Int),(r:Int),a2,a3,a4,f,code,ss,dt,bs,key,rg,vs,(),0,(),(),(),bs,key,cs,eK,(),())∧cs.length=512∧(∀c∈cs,mw (RK bs ss) c)∧MP bs key rg cs (r+1) 0) (m:=fun s'=>(s'.2.2.2.2.2.1 - s'.2.2.2.2.2.2.1).toNat) ⟨0,cs,rfl,by omega,hc1,hc2,hI⟩ (by unfold NN;dsimp only;omega) ?_ ?_
   ·rintro _ ⟨o,cs,rfl,ho,hc1,hc2,hI⟩;unfold nd;dsimp only
    (with_reducible refine Ok.cb (fun hcb=>?_) (fun hcb=>?_))
    ·obtain⟨c,hc⟩:∃c,x[o]?=some c:=⟨_,oGE (by omega)⟩;obtain⟨hr1,hr2⟩:=u3 (key:=key) hL (hxc c (dK hc));simp only[dH,oBS,show dF x o=some c from hc,show dF bs r=some b from hb,hr1];rw[dL (x:=b+o) (by omega) (by omega),dL (x:=(o:Int)+1) (by omega) (by omega)];obtain⟨a,ha⟩:∃a:Nat,b+o=a:=⟨(b+o).toNat,by omega⟩;obtain⟨y,hy⟩:∃y,cs[a]?=some y:=⟨_,oGE (by omega)⟩;rw[ha,dH];simp only[oBS,show dF cs a=some y from hy,dZ hy];refine Ok.ret ⟨⟨o+1,_,rfl,by omega,by rw[List.length_set];exact hc1,ia hc2 hr2,fun r' o' x' c' b' h1 h2 h3 hlt=>?_⟩,by dsimp only;omega⟩;by_cases e:r'=r∧o'=o
     ·obtain⟨rfl,rfl⟩:=e;rw[hx] at h1;cases h1;rw[hc] at h2;cases h2;rw[hb] at h3;cases h3;rw[ha,Int.toNat_natCast];exact gd (by omega) _
     ·have hr'l:=(oGS h1).1;obtain⟨b2,z2,hb2,hz2,_,_,b20,b2z⟩:=hL.at_ (r:=r') (by omega)
      have h3':b2=b':=by rw[hb2] at h3;injection h3
      subst h3';have hf2:=h.fit r' x' z2 h1 hz2;have ho'l:=(oGS h2).1
      have hne:(b2+o').toNat≠a:=by
       by_cases er:r'=r
       ·subst er;rw[hb] at hb2;cases hb2;omega
       ·have:=hL.apart er hb2 hz2 hb hz (o:=o') (o':=o) (by omega) (by omega) (by omega) (by omega);omega
      rw[j5 (fun e=>hne e.symm)];exact hI r' o' x' c' b2 h1 h2 hb2 (by omega)
    ·refine Ok.ret ⟨_,_,_,_,cs,rfl,hc1,hc2,fun r' o' x' c' b' h1 h2 h3 hlt=>hI r' o' x' c' b' h1 h2 h3 ?_⟩;by_cases er:r'=r
     ·subst er;rw[hx] at h1;cases h1;have:=(oGS h2).1;omega
     ·omega
   ·rintro _ ⟨a2,a3,a4,f,cs,rfl,hc1,hc2,hI⟩;dsimp only;rw[dL (x:=(r:Int)+1) (by omega) (by omega)];exact Ok.ret ⟨⟨r+1,cs,rfl,by omega,hc1,hc2,hI⟩,by dsimp only;omega⟩
  ·obtain rfl:r=ss.length:=by omega
   exact Ok.ret ⟨_,_,_,_,cs,rfl,hc1,hc2,hI⟩
 rintro _ ⟨a,b,c,f,cs,rfl,hc1,hc2,hI⟩;dsimp only
 have e5:dO fZ NN (vs,(vs.length:Int),0,code,ss,dt,bs,key,rg,vs,(),0,(),(),(),bs,key,cs,eK,[],())=some (vs,(vs.length:Int),(vs.length:Int),false,code,ss,dt,bs,key,rg,vs,(),0,(),(),(),bs,key,cs,eK,vs.map (thF bs key),()):=by
  have:=mt (f:=fZ) (N:=NN) (st:=fun k=>(vs,(vs.length:Int),(k:Int),code,ss,dt,bs,key,rg,vs,(),0,(),(),(),bs,key,cs,eK,(vs.take k).map (thF bs key),())) (n:=vs.length) (t:=(vs,(vs.length:Int),(vs.length:Int),false,code,ss,dt,bs,key,rg,vs,(),0,(),(),(),bs,key,cs,eK,vs.map (thF bs key),())) (by unfold NN;omega) ?_ ?_
  ·exact this
  ·intro k hk;obtain⟨v,hv⟩:∃v,vs[k]?=some v:=⟨_,oGE hk⟩;have hvo:=h.views v (dK hv);have h8:=hvo.len;unfold fZ;delta dI;dsimp only;rw[decide_eq_true (show (k:Int) < vs.length by omega),dH];simp only[cond_true,oBS,show dF vs k=some v from hv]
   have e4:∀(a1 a2 a3 a4 a5 a6 a7 a8 b1 b2 b3 b4 b5 b6 b7:_),dO f6 NN (vs,(vs.length:Int),(k:Int),v.2.2.2.2.2.2.2,(v.2.2.2.2.2.2.2.length:Int),0,code,ss,dt,bs,key,rg,vs,(),0,(),(),(),bs,key,cs,eK,(vs.take k).map (thF bs key),a1,a2,a3,a4,a5,a6,a7,a8,b1,[],b2,b3,b4,b5,b6,b7,()) =
    some (vs,(vs.length:Int),(k:Int),v.2.2.2.2.2.2.2,(v.2.2.2.2.2.2.2.length:Int),(v.2.2.2.2.2.2.2.length:Int),false,code,ss,dt,bs,key,rg,vs,(),0,(),(),(),bs,key,cs,eK,(vs.take k).map (thF bs key),a1,a2,a3,a4,a5,a6,a7,a8,b1,v.2.2.2.2.2.2.2.map (xV bs key),b2,b3,b4,b5,b6,b7,()):=by
    intro a1 a2 a3 a4 a5 a6 a7 a8 b1 b2 b3 b4 b5 b6 b7
    have:=mt (f:=f6) (N:=NN) (st:=fun o=>(vs,(vs.length:Int),(k:Int),v.2.2.2.2.2.2.2,(v.2.2.2.2.2.2.2.length:Int),(o:Int),code,ss,dt,bs,key,rg,vs,(),0,(),(),(),bs,key,cs,eK,(vs.take k).map (thF bs key),a1,a2,a3,a4,a5,a6,a7,a8,b1,(v.2.2.2.2.2.2.2.take o).map (xV bs key),b2,b3,b4,b5,b6,b7,())) (n:=v.2.2.2.2.2.2.2.length)
     (t:=(vs,(vs.length:Int),(k:Int),v.2.2.2.2.2.2.2,(v.2.2.2.2.2.2.2.length:Int),(v.2.2.2.2.2.2.2.length:Int),false,code,ss,dt,bs,key,rg,vs,(),0,(),(),(),bs,key,cs,eK,(vs.take k).map (thF bs key),a1,a2,a3,a4,a5,a6,a7,a8,b1,v.2.2.2.2.2.2.2.map (xV bs key),b2,b3,b4,b5,b6,b7,())) (by unfold NN;omega) ?_ ?_
    ·exact this
    ·intro o ho;obtain⟨c,hc⟩:∃c,v.2.2.2.2.2.2.2[o]?=some c:=⟨_,oGE ho⟩;unfold f6;dsimp only;rw[decide_eq_true (show (o:Int) < v.2.2.2.2.2.2.2.length by omega),dH];simp only[cond_true,oBS,show dF v.2.2.2.2.2.2.2 o=some c from hc];rw[(u3 (key:=key) hL (hvo.regs c (dK hc))).1];simp only[oBS];refine Ok.need (dN (by simp;omega)) ?_;rw[dL (x:=(o:Int)+1) (by omega) (by omega)];refine Ok.ret ?_;rw[← gw (xV bs key) hc];rfl
    ·unfold f6;dsimp only;rw[decide_eq_false (show ¬ (v.2.2.2.2.2.2.2.length:Int) < v.2.2.2.2.2.2.2.length by omega),List.take_length];exact Ok.ret rfl
   rw[e4];simp only[oBS];refine Ok.need (dN (by simp;omega)) ?_;rw[dL (x:=(k:Int)+1) (by omega) (by omega)];refine Ok.ret ?_;rw[← gw (thF bs key) hv];rfl
  ·unfold fZ;dsimp only;rw[decide_eq_false (show ¬ (vs.length:Int) < vs.length by omega),List.take_length];exact Ok.ret rfl
 rw[e5];refine Ok.ret ⟨cs,rfl,⟨hL,Ch hc1 hc2,by rw[List.length_map];exact hvl,fun t ht=>?_⟩,hI⟩;obtain⟨v,hv,rfl⟩:=List.mem_map.1 ht;have hvo:=h.views v hv;refine⟨hvo.state,by unfold thF;dsimp only;rw[List.length_map];exact hvo.len,fun c hc=>?_,hvo.pc,hvo.count,hvo.handler,hvo.saved,hvo.trap,hvo.code⟩;unfold thF at hc;dsimp only at hc;obtain⟨c',hc',rfl⟩:=List.mem_map.1 hc;exact (u3 hL (hvo.regs c' hc')).2
theorem Lq{l:List Int}{k n:Int}(h:DOk l k) (hn:0 < n) (hn2:n≤9223372036854775807):Ok (dG n l k) fun r=>∃v k',r=(v,l,k',())∧0≤v∧v < n∧DOk l k':=by
 have:Ok ((dG n l k).bind some) fun r=>∃v k',r=(v,l,k',())∧0≤v∧v < n∧DOk l k':=eY h hn hn2 fun v k' h0 h1 h2=>Ok.ret ⟨_,_,rfl,h0,h1,h2⟩;simpa using this
theorem Ay.setReg{n:Int}{ss:List Int}{rg:List (List DCn)}{vs:List DTs}{r o:Nat}{x:List DCn}{c:DCn}(h:Ay n ss rg vs) (hx:rg[r]?=some x) (hc:Pr ss c):Ay n ss (rg.set r (x.set o c)) vs:=by
 refine⟨by rw[List.length_set];exact h.rlen,fun j y z hy hz=>?_,ia h.cells (ia (h.cells x (dK hx)) hc),h.vlen,h.views⟩;by_cases e:r=j
 ·subst e;rw[show (rg.set r (x.set o c))[r]?=some (x.set o c) from gd (oGS hx).1 _] at hy;cases hy;rw[List.length_set];exact h.fit r x z hx hz
 ·rw[j5 e] at hy;exact h.fit j y z hy hz
theorem Ay.setView{n:Int}{ss:List Int}{rg:List (List DCn)}{vs:List DTs}{k:Nat}{v:DTs}(h:Ay n ss rg vs) (hv:Ng n ss v):Ay n ss rg (vs.set k v):=
 ⟨h.rlen,h.fit,h.cells,by rw[List.length_set];exact h.vlen,ia h.views hv⟩
set_option maxHeartbeats 4000000 in
theorem ya{l:List Int}{k:Int}(h:DOk l k):Ok (iG l k) fun r=>∃code ss dt bs key cs ls ts k',r=(code,ss,dt,bs,key,cs,ls,ts,l,k',())∧jW code ss dt∧W16 key∧MOk 1152 ss bs cs ls ts∧DOk l k':=by
 unfold iG;refine (Mj h).bind ?_;rintro _ ⟨code,ss,dt,bs,key,cs,ls,ts,ck,rn,ins,d,os,us,ow,qs,rec,js,k1,rfl,hkey,hR,h1⟩;dsimp only;have hp:=hR.prog;have hM:=hR.mach;have hL:=hM.lay;have hs1:=hp.sz.1;obtain⟨_,en,v,k2,rfl,v0,v1,h2⟩:=Lq (n:=3) h1 (by decide) (by decide);rw[en];simp only[oBS];by_cases hv:v=0
 ·simp only[beq_iff_eq.2 hv,cond_true,IK (code:=code) (dt:=dt) hM,oBS];have hS:=IJ (key:=key) hM;generalize CA bs ss key cs ls=rg at hS;generalize ts.map (sr bs ss key)=vs at hS;obtain⟨x,hx⟩:∃x,rg[0]?=some x:=⟨_,oGE (by have:=hS.rlen;omega)⟩
  have hxl:x.length≤32:=by
   obtain⟨z,hz⟩:∃z,ss[0]?=some z:=⟨_,oGE (by omega)⟩;have:=hS.fit 0 x z hx hz;have:=hp.sz.2.2 z (dK hz);omega
  delta dI;simp only[show dF rg 0=some x from hx,oBS]
  obtain⟨y,e,rg',k3,a,b,rfl,hS3,h3⟩:=Ok.iter (f:=j3) (n:=NN) (s:=((x.length:Int),0,l,k2,(),(),(),(),0,(),(),(),code,ss,dt,bs,key,cs,ls,ts,ck,rn,ins,d,os,us,ow,qs,rec,js,bs,key,cs,ls,ts,rg,vs,()))
   (P:=fun s'=>∃(q:Nat) (k':Int) (rg':List (List DCn)) (x':List DCn),s'=((x.length:Int),(q:Int),l,k',(),(),(),(),0,(),(),(),code,ss,dt,bs,key,cs,ls,ts,ck,rn,ins,d,os,us,ow,qs,rec,js,bs,key,cs,ls,ts,rg',vs,())∧DOk l k'∧Ay 1152 ss rg' vs∧rg'[0]?=some x'∧x'.length=x.length)
   (R:=fun y=>∃rg' k' a b,y=(a,b,false,l,k',(),(),(),(),0,(),(),(),code,ss,dt,bs,key,cs,ls,ts,ck,rn,ins,d,os,us,ow,qs,rec,js,bs,key,cs,ls,ts,rg',vs,())∧Ay 1152 ss rg' vs∧DOk l k') (m:=fun s'=>(s'.1 - s'.2.1).toNat) ⟨0,k2,rg,x,rfl,h2,hS,hx,rfl⟩ (by unfold NN;dsimp only;omega) (by
    rintro _ ⟨q,k',rg',x',rfl,hd,hS',hx',hxl'⟩;unfold j3;dsimp only
    (with_reducible refine Ok.cb (fun hca=>?_) (fun hca=>?_))
    ·refine Ok.bind (P:=fun r=>∃(k':Int) (rg':List (List DCn)) (x':List DCn),r=((x.length:Int),(q:Int),l,k',(),(),(),(),0,(),(),(),code,ss,dt,bs,key,cs,ls,ts,ck,rn,ins,d,os,us,ow,qs,rec,js,bs,key,cs,ls,ts,rg',vs,())∧DOk l k'∧Ay 1152 ss rg' vs∧rg'[0]?=some x'∧x'.length=x.length) ?_ ?_
     ·refine eY (n:=3) hd (by decide) (by decide) fun u k4 u0 u1 h4=>?_;dsimp only
      (with_reducible refine Ok.cb (fun hcb=>?_) (fun hcb=>?_))
      ·obtain⟨c,hc⟩:∃c,x'[q]?=some c:=⟨_,oGE (by omega)⟩;simp only[show dF rg' 0=some x' from hx',oBS];refine (EI hp.sz h4).bind ?_;rintro _ ⟨t,v,rr,o,k5,rfl,hc5,h5⟩;dsimp only;simp only[dH,oBS,show dF x' q=some c from hc,dZ hx',dZ hc];exact Ok.ret ⟨_,_,_,rfl,h5,hS'.setReg hx' hc5,gd (oGS hx').1 _,by rw[List.length_set];exact hxl'⟩
      ·exact Ok.ret ⟨_,_,_,rfl,h4,hS',hx',hxl'⟩
     ·rintro _ ⟨k',rg',x',rfl,hd,hS',hx',hxl'⟩;dsimp only;rw[dL (x:=(q:Int)+1) (by omega) (by omega)];exact Ok.ret ⟨⟨q+1,k',rg',x',rfl,hd,hS',hx',hxl'⟩,by dsimp only;omega⟩
    ·exact Ok.ret ⟨_,_,_,_,rfl,hS',hd⟩)
  simp only[e,oBS]
  obtain⟨y,e,vs',k4,a,b,rfl,hS4,h4⟩:=Ok.iter (f:=j0) (n:=NN) (s:=((vs.length:Int),0,l,k3,(),(),(),(),0,(),(),(),code,ss,dt,bs,key,cs,ls,ts,ck,rn,ins,d,os,us,ow,qs,rec,js,bs,key,cs,ls,ts,rg',vs,()))
   (P:=fun s'=>∃(q:Nat) (k':Int) (vs':List DTs),s'=((vs.length:Int),(q:Int),l,k',(),(),(),(),0,(),(),(),code,ss,dt,bs,key,cs,ls,ts,ck,rn,ins,d,os,us,ow,qs,rec,js,bs,key,cs,ls,ts,rg',vs',())∧DOk l k'∧Ay 1152 ss rg' vs')
   (R:=fun y=>∃vs' k' a b,y=(a,b,false,l,k',(),(),(),(),0,(),(),(),code,ss,dt,bs,key,cs,ls,ts,ck,rn,ins,d,os,us,ow,qs,rec,js,bs,key,cs,ls,ts,rg',vs',())∧Ay 1152 ss rg' vs'∧DOk l k') (m:=fun s'=>(s'.1 - s'.2.1).toNat) ⟨0,k3,vs,rfl,h3,hS3⟩ (by unfold NN;dsimp only;have:=hS3.vlen;omega) (by
    rintro _ ⟨q,k',vs',rfl,hd,hS'⟩;have hvl:=hS3.vlen;have hvl':=hS'.vlen;unfold j0;delta dI;dsimp only
    (with_reducible refine Ok.cb (fun hca=>?_) (fun hca=>?_))
    ·obtain⟨w,hw⟩:∃w,vs'[q]?=some w:=⟨_,oGE (by omega)⟩;have hw8:=(hS'.views w (dK hw)).len;rw[dH];simp only[oBS,show dF vs' q=some w from hw];refine Ok.bind (P:=fun r=>∃(k':Int) (vs':List DTs),r=((vs.length:Int),(q:Int),l,k',(),(),(),(),0,(),(),(),code,ss,dt,bs,key,cs,ls,ts,ck,rn,ins,d,os,us,ow,qs,rec,js,bs,key,cs,ls,ts,rg',vs',())∧DOk l k'∧Ay 1152 ss rg' vs') ?_ ?_
     ·refine Ok.loop (P:=fun s'=>∃(o:Nat) (k':Int) (vs':List DTs),s'=((q:Int),(vs.length:Int),(q:Int),(w.2.2.2.2.2.2.2.length:Int),(o:Int),l,k',(),(),(),(),0,(),(),(),code,ss,dt,bs,key,cs,ls,ts,ck,rn,ins,d,os,us,ow,qs,rec,js,bs,key,cs,ls,ts,rg',vs',())∧DOk l k'∧Ay 1152 ss rg' vs')
       (R:=fun y=>∃vs' k' a b c,y=((q:Int),(vs.length:Int),(q:Int),a,b,c,l,k',(),(),(),(),0,(),(),(),code,ss,dt,bs,key,cs,ls,ts,ck,rn,ins,d,os,us,ow,qs,rec,js,bs,key,cs,ls,ts,rg',vs',())∧Ay 1152 ss rg' vs'∧DOk l k') (m:=fun s'=>(s'.2.2.2.1 - s'.2.2.2.2.1).toNat) ⟨0,k',vs',rfl,hd,hS'⟩ (by unfold NN;dsimp only;omega) ?_ ?_
      ·rintro _ ⟨o,k',vs',rfl,hd,hS'⟩;have hvl':=hS'.vlen;unfold nh;dsimp only
       (with_reducible refine Ok.cb (fun hcb=>?_) (fun hcb=>?_))
       ·refine Ok.bind (P:=fun r=>∃(k':Int) (vs':List DTs),r=((q:Int),(vs.length:Int),(q:Int),(w.2.2.2.2.2.2.2.length:Int),(o:Int),l,k',(),(),(),(),0,(),(),(),code,ss,dt,bs,key,cs,ls,ts,ck,rn,ins,d,os,us,ow,qs,rec,js,bs,key,cs,ls,ts,rg',vs',())∧DOk l k'∧Ay 1152 ss rg' vs') ?_ ?_
        ·refine eY (n:=3) hd (by decide) (by decide) fun u k4 u0 u1 h4=>?_;dsimp only
         (with_reducible refine Ok.cb (fun hcc=>?_) (fun hcc=>?_))
         ·obtain⟨w',hw'⟩:∃w',vs'[q]?=some w':=⟨_,oGE (by omega)⟩;have hvo:=hS'.views w' (dK hw');have hw8':=hvo.len;obtain⟨cc,hcc⟩:∃cc,w'.2.2.2.2.2.2.2[o]?=some cc:=⟨_,oGE (by omega)⟩;simp only[dH,oBS,show dF vs' q=some w' from hw'];refine (EI hp.sz h4).bind ?_;rintro _ ⟨t,v,rr,o',k5,rfl,hc5,h5⟩;dsimp only;simp only[show dF w'.2.2.2.2.2.2.2 o=some cc from hcc,oBS,dZ hw',dZ hcc];exact Ok.ret ⟨_,_,rfl,h5,hS'.setView ⟨hvo.state,hvo.pc,hvo.count,hvo.handler,hvo.saved,hvo.trap,hvo.code,by dsimp only;rw[List.length_set];exact hw8',ia hvo.regs hc5⟩⟩
         ·exact Ok.ret ⟨_,_,rfl,h4,hS'⟩
        ·rintro _ ⟨k',vs',rfl,hd,hS'⟩;dsimp only;rw[dL (x:=(o:Int)+1) (by omega) (by omega)];exact Ok.ret ⟨⟨o+1,k',vs',rfl,hd,hS'⟩,by dsimp only;omega⟩
       ·exact Ok.ret ⟨_,_,_,_,_,rfl,hS',hd⟩
      ·rintro _ ⟨vs',k',a,b,c,rfl,hS',hd⟩;dsimp only;refine eY (n:=4) hd (by decide) (by decide) fun u k4 u0 u1 h4=>?_;dsimp only
       (with_reducible refine Ok.cb (fun hcc=>?_) (fun hcc=>?_))
       ·refine eY (n:=5) h4 (by decide) (by decide) fun u2 k5 u20 u21 h5=>?_;dsimp only;obtain⟨w',hw'⟩:∃w',vs'[q]?=some w':=⟨_,oGE (by have:=hS'.vlen;omega)⟩;have hvo:=hS'.views w' (dK hw');simp only[dH,oBS,show dF vs' q=some w' from hw',dZ hw'];exact Ok.ret ⟨_,_,rfl,h5,hS'.setView ⟨⟨u20,by dsimp only;omega⟩,hvo.pc,hvo.count,hvo.handler,hvo.saved,hvo.trap,hvo.code,hvo.len,hvo.regs⟩⟩
       ·exact Ok.ret ⟨_,_,rfl,h4,hS'⟩
     ·rintro _ ⟨k',vs',rfl,hd,hS'⟩;dsimp only;rw[dL (x:=(q:Int)+1) (by omega) (by omega)];exact Ok.ret ⟨⟨q+1,k',vs',rfl,hd,hS'⟩,by dsimp only;omega⟩
    ·exact Ok.ret ⟨_,_,_,_,rfl,hS',hd⟩)
  simp only[e,oBS];obtain⟨_,ei,cs',rfl,hM',_⟩:=HY (key:=key) hp hL hS4 (by decide);simp only[ei,oBS,cond_true];exact Ok.ret ⟨_,_,_,_,_,_,_,_,_,rfl,hp,hkey,hM',h4⟩
 ·simp only[beq_eq_false_iff_ne.2 hv,cond_false];exact Ok.ret ⟨_,_,_,_,_,_,_,_,_,rfl,hp,hkey,hM,h2⟩
def Ge:List CT→CT
 | []=>.nat
 | [t]=>t
 | t :: u :: r=>.pair t (Ge (u :: r))
def oF:(l:List CT)→HL den l→den (Ge l)
 | [],_=>(0:Nat)
 | [_],h=>h.1
 | _ :: u :: r,h=>(h.1,oF (u :: r) h.2)
def encL:(l:List CT)→HL den l→List TV
 | [],_=>[]
 | t :: r,h=>enc t h.1++encL r h.2
theorem EB:∀(l:List CT) (h:HL den l),enc (Ge l) (oF l h)=encL l h
 | [],_=>rfl
 | [_],h=>(List.append_nil _).symm
 | _ :: u :: r,h=>by
  show enc _ h.1++enc (Ge (u :: r)) (oF (u :: r) h.2)=_;rw[EB (u :: r) h.2];rfl
def DW:(c:CT)→den c→Prop
 | .int k,n=>(Lit.int k n).wf=true
 | .str,s=>ByteArray.size s≤maxLen
 | .row _ t,xs=>List.length xs≤maxLen∧∀x∈xs,DW t x
 | .pair a b,x=>DW a x.1∧DW b x.2
 | _,_=>True
def GoodL:(l:List CT)→HL den l→Prop
 | [],_=>True
 | t :: r,h=>DW t h.1∧GoodL r h.2
theorem B7:∀(l:List CT) (h:HL den l),GoodL l h→DW (Ge l) (oF l h)
 | [],_,_=>trivial
 | [_],_,g=>g.1
 | _ :: u :: r,h,g=>⟨g.1,B7 (u :: r) h.2 g.2⟩
def appL:(l m:List CT)→HL den l→HL den m→HL den (l++m)
 | [],_,_,k=>k
 | _ :: r,m,h,k=>(h.1,appL r m h.2 k)
theorem EC:∀(l m:List CT) (h:HL den l) (k:HL den m),encL (l++m) (appL l m h k)=encL l h++encL m k
 | [],_,_,_=>rfl
 | t :: r,m,h,k=>by
  show enc t h.1++encL (r++m) (appL r m h.2 k)=(enc t h.1++encL r h.2)++_;rw[EC r m h.2 k,List.append_assoc]
theorem Eu:∀(l m:List CT) (h:HL den l) (k:HL den m),GoodL l h→GoodL m k→GoodL (l++m) (appL l m h k)
 | [],_,_,_,_,g=>g
 | _ :: r,m,h,k,g,g'=>⟨g.1,Eu r m h.2 k g.2 g'⟩
def RelL(w:World):List TV→List Value→Prop
 | [],[]=>True
 | t :: ts,v :: vs=>m9 w (fun _=>True) t v∧RelL w ts vs
 | _,_=>False
theorem RelL.app{w:World}:∀{a:List TV}{x:List Value}{b:List TV}{y:List Value},RelL w a x→RelL w b y→RelL w (a++b) (x++y)
 | [],[],_,_,_,h=>h
 | _ :: a,_ :: x,_,_,g,h=>⟨g.1,RelL.app (a:=a) (x:=x) g.2 h⟩
 | [],_ :: _,_,_,g,_=>g.elim
 | _ :: _,[],_,_,g,_=>g.elim
theorem RelL.len{w:World}:∀{a:List TV}{x:List Value},RelL w a x→a.length=x.length
 | [],[],_=>rfl
 | _ :: a,_ :: x,g=>by rw[List.length_cons,List.length_cons,RelL.len (a:=a) (x:=x) g.2]
 | [],_ :: _,g=>g.elim
 | _ :: _,[],g=>g.elim
theorem RelL.get{w:World}:∀{a:List TV}{x:List Value},RelL w a x→∀j (h:j < a.length) (h':j < x.length),m9 w (fun _=>True) a[j] x[j]
 | _ :: _,_ :: _,g,0,_,_=>g.1
 | _ :: a,_ :: x,g,j+1,h,h'=>RelL.get (a:=a) (x:=x) g.2 j (by simpa using h) (by simpa using h')
 | [],_,_,_,h,_=>by simp at h
 | _ :: _,[],g,_,_,_=>g.elim
def Mh(P:Program) (g:TypeId→Option (List CT)):Nat→List Field→Option (List CT)
 | _,[]=>some []
 | off,f :: fs=>match g f.type with
  | some l=>if f.offset=off∧l.length=P.cellsOf f.type then (Mh P g (off+l.length) fs).map (l++·) else none
  | none=>none
def uX(P:Program):Nat→TypeId→Option (List CT)
 | 0,_=>none
 | n+1,t=>match P.underlying t with
  | some .bool=>some [.bool]
  | some (.int k)=>some [.int k]
  | some .string=>some [.str]
  | some (.slice e)=>match uX P n e with
   | some l=>if l.length=P.cellsOf e then some [.row false (Ge l)] else none
   | none=>none
  | some (.struct fs)=>match Mh P (uX P n) 0 fs.toList with
   | some l=>if l.length=P.cellsOf t then some l else none
   | none=>none
  | _=>none
section
variable {H:Type} {ec:TypeId×Value→H} {P:Program} {w:World} {base:Nat} {spare:Nat→Bool} {held:Bool}
theorem HW{g:TypeId→Option (List CT)}{m:Nat}{cs:List Value}
 (ih:∀t L,g t=some L→∀cs x,DataW.trod ec P w base spare held m t cs=some x→∃h:HL den L,GoodL L h∧RelL w (encL L h) cs) :
 ∀(fs:List Field) (off:Nat) (L:List CT),Mh P g off fs=some L→(∀f∈fs,∃x,DataW.trod ec P w base spare held m f.type ((cs.drop f.offset).take (P.cellsOf f.type))=some x) →
  ∃h:HL den L,GoodL L h∧RelL w (encL L h) ((cs.drop off).take L.length):=by
 intro fs
 induction fs with
 | nil=>
  intro off L hL _
  injection hL with hL
  subst hL;exact⟨(),trivial,trivial⟩
 | cons f fs ihf=>
  intro off L hL hx;unfold Mh at hL;split at hL
  ·rename_i l hg;split at hL
   ·rename_i ho;obtain⟨rfl,hlen⟩:=ho
    cases hr:Mh P g (f.offset+l.length) fs with
    | none=>rw[hr] at hL;cases hL
    | some L2=>
     rw[hr] at hL
     injection hL with hL
     subst hL;obtain⟨x,h1⟩:=hx f List.mem_cons_self;obtain⟨h,g1,r1⟩:=ih _ _ hg _ _ h1;obtain⟨k,g2,r2⟩:=ihf _ _ hr fun f' hf'=>hx f' (List.mem_cons_of_mem _ hf');refine⟨appL l L2 h k,Eu _ _ _ _ g1 g2,?_⟩;rw[EC,List.length_append,List.take_add,List.drop_drop];rw[hlen];rw[hlen] at r2;exact r1.app r2
   ·cases hL
  ·cases hL
theorem Mv:∀(n:Nat) (t:TypeId) (L:List CT),uX P n t=some L→∀(fuel:Nat) (cs:List Value) (x:DataW H×List MemPlace),DataW.trod ec P w base spare held fuel t cs=some x →
 ∃h:HL den L,GoodL L h∧RelL w (encL L h) cs:=by
 intro n
 induction n with
 | zero=>intro t L h;cases h
 | succ n ih=>
  intro t L hL fuel cs x hx;unfold uX at hL;split at hL
  ·rename_i ht
   injection hL with hL
   subst hL;obtain⟨b,rfl,_⟩:=DataW.trod_bool ht hx;exact⟨(b,()),⟨trivial,trivial⟩,.v rfl,trivial⟩
  ·rename_i k ht
   injection hL with hL
   subst hL;obtain⟨z,rfl,_,hw⟩:=DataW.trod_int ht hx;exact⟨(z,()),⟨hw,trivial⟩,.v rfl,trivial⟩
  ·rename_i ht
   injection hL with hL
   subst hL;obtain⟨s,rfl,_,hs⟩:=DataW.trod_string ht hx;exact⟨(s,()),⟨hs,trivial⟩,.v rfl,trivial⟩
  ·rename_i e ht;split at hL
   ·rename_i l hl;split at hL
    ·rename_i hsz
     injection hL with hL
     subst hL;rcases DataW.trod_slice ht hx with ⟨rfl,_⟩ | ⟨a,len,cap,elems,rest,m,_,rfl,_,_,hle,hmax,hel,hget,_,_⟩
     ·exact⟨([],()),⟨⟨Nat.zero_le _,fun x hx=>by cases hx⟩,trivial⟩,.sl (c:=[]) 1 (fun _ _=>undef) (fun i h=>by simp at h) (Nat.le_refl _) (Nat.zero_le _) (fun _=>rfl) (fun i j h=>by simp at h) (fun i j h=>by simp at h),trivial⟩
     ·have each:∀i:Fin len,∃p:HL den l×List Value,GoodL l p.1∧RelL w (encL l p.1) p.2∧w.cells? base (a.add (i.1*P.cellsOf e)) (P.cellsOf e)=some p.2:=by
       intro i;have h1:=hget i.1 i.2;rw[oGE (by omega)] at h1;obtain⟨cs',h2,h3⟩:=Option.bind_eq_some_iff.1 h1;obtain⟨h,g,r⟩:=ih _ _ hl _ _ _ h3;exact⟨(h,cs'),g,r,h2⟩
      obtain⟨f,hf⟩:=Classical.axiomOfChoice each
      have clen:∀i,(encL l (f i).1).length=l.length:=fun i=>by
       rw[(hf i).2.1.len,(World.cells?_some (hf i).2.2).2.1,hsz]
      have key:m9 w (fun _=>True) (.sl ((List.ofFn fun i:Fin len=>oF l (f i).1).map (enc (Ge l)))) (.slice (some a) ((List.ofFn fun i:Fin len=>oF l (f i).1).map (enc (Ge l))).length cap):=by
       have el:((List.ofFn fun i:Fin len=>oF l (f i).1).map (enc (Ge l))).length=len:=by simp
       have eg:∀i (hi:i < ((List.ofFn fun i:Fin len=>oF l (f i).1).map (enc (Ge l))).length),((List.ofFn fun i:Fin len=>oF l (f i).1).map (enc (Ge l)))[i]=encL l (f ⟨i,by omega⟩).1:=by
        intro i hi;simp[EB]
       refine .sl l.length (fun i j=>if h:i < len then (f ⟨i,h⟩).2.getD j undef else undef) (fun i hi=>by rw[eg i hi,clen]) (by rw[el];exact hle) hmax (fun h=>by cases h) (fun i j hi hj=>?_) (fun i j hi hj=>?_)
       ·rw[el] at hi
        have cell:∀i' (hi':i' < len) j',j' < l.length→w.cell? ((a.add (i'*l.length)).add j')=some ((f ⟨i',hi'⟩).2.getD j' undef):=by
         intro i' hi' j' hj';have h1:=World.cells?_some (hf ⟨i',hi'⟩).2.2;have h2:=h1.2.2 j' (by omega);rw[hsz];rw[h2]
         have:j' < (f ⟨i',hi'⟩).2.length:=by rw[h1.2.1];omega
         simp[this]
        have h0:=World.cell?_spot (cell 0 (by omega) 0 (by omega));obtain⟨b,o,spot⟩:=a
        have hspot:spot=none:=by simpa [Addr.add] using h0
        subst hspot;refine⟨b,o,rfl,trivial,?_⟩;have h2:=cell i hi j hj;rw[Go.WideShapes.add_plain,Go.WideShapes.add_plain] at h2;rw[dif_pos hi,← h2,Nat.add_assoc]
       ·rw[el] at hi;have hr:=(hf ⟨i,hi⟩).2.1
        have hj2:j < (encL l (f ⟨i,hi⟩).1).length:=by rw[eg i (by omega)] at hj;exact hj
        have hj3:j < (f ⟨i,hi⟩).2.length:=by rw[← hr.len];exact hj2
        have h3:=hr.get j hj2 hj3
        have e1:(if h:i < len then (f ⟨i,h⟩).2.getD j undef else undef)=(f ⟨i,hi⟩).2[j]:=by
         rw[dif_pos hi];simp[hj3]
        simp only[e1];have e2:((List.ofFn fun i:Fin len=>oF l (f i).1).map (enc (Ge l)))[i]'(by omega)=encL l (f ⟨i,hi⟩).1:=eg i (by omega);simp only[e2];exact h3
      rw[List.length_map,List.length_ofFn] at key;refine⟨(List.ofFn fun i:Fin len=>oF l (f i).1,()),⟨⟨by rw[List.length_ofFn];omega,fun x hx=>?_⟩,trivial⟩,key,trivial⟩;obtain⟨i,rfl⟩:=List.mem_ofFn.1 hx;exact B7 _ _ (hf i).1
    ·cases hL
   ·cases hL
  ·rename_i fs ht;split at hL
   ·rename_i l hl;split at hL
    ·rename_i hsz
     injection hL with hL
     subst hL;obtain⟨xs,m,_,_,hlen,hxl,hf⟩:=DataW.trod_struct ht hx
     obtain⟨h,g,r⟩:=HW (cs:=cs) (m:=m) (fun t L hL cs x hx=>ih t L hL m cs x hx) fs.toList 0 l hl (by
      intro f hfm;obtain⟨i,hi,rfl⟩:=List.mem_iff_getElem.1 hfm
      have hi2:i < fs.size:=by simpa using hi
      have h1:=hf i fs[i] (by simp[hi2]);rw[oGE (by omega)] at h1
      exact⟨_,by simpa using h1⟩)
     refine⟨h,g,?_⟩;rw[List.drop_zero,hsz,← hlen,List.take_length] at r;exact r
    ·cases hL
   ·cases hL
  ·cases hL
theorem intake_arg(n:Nat) {t:TypeId}{L:List CT}{v:Value}{d:DataW H}{p:List MemPlace}(hL:uX P n t=some L) (h:DataW.Trod ec P w base spare held t v d p) :
 ∃h:HL den L,GoodL L h∧RelL w (encL L h) v.cells.toList:=by
 obtain⟨fuel,hf⟩:=h;exact Mv n t L hL fuel _ _ hf
end
theorem plain_one{w:World}{t:TV}{v:Value}(r:RelL w [t] [v]):Cy w t v:=r.1.plain
theorem plain_agg{w:World}{l:List TV}{cs:Array Value}(r:RelL w l cs.toList):Cy w (.agg l) (.agg cs):=by
 intro F V C G hF
 have hl:cs.size=l.length:=by rw[r.len];simp
 refine .agg hl fun j hj=>?_
 have hj2:j < cs.toList.length:=by rw[← r.len];exact hj
 have h1:=(r.get j hj hj2).plain F V C G hF
 have e:cs.getD j undef=cs.toList[j]:=by
  have:j < cs.size:=by omega
  simp[Array.getD,this]
 rw[e];exact h1
theorem Ls{a b:Int}(ha:DV a) (hb:0 < b) (hb2:b≤9223372036854775807):gt a b=some (a % b,()):=by
 have hne:(b != 0)=true:=by simp;omega
 have hm:Int.tmod a b < b:=Int.tmod_lt_of_pos a hb
 have hm2:-b < Int.tmod a b:=by
  have:=Int.tmod_lt_of_pos (-a) hb;rw[Int.neg_tmod] at this;omega
 have hq:a % b=Int.tmod a b % b:=by
  have e:=Int.mul_tdiv_add_tmod a b;rw[Int.add_comm] at e
  conv=>lhs;rw[← e]
  exact Int.add_mul_emod_self_left ..
 unfold gt;simp only[hne,cond_true];by_cases h:Int.tmod a b < 0
 ·simp only[h,decide_true,cond_true,oBS];rw[dL (by omega) (by omega),hq,← Int.emod_eq_of_lt (a:=Int.tmod a b+b) (b:=b) (by omega) (by omega),Int.add_emod_right]
 ·simp only[h,decide_false,cond_false,oBS];rw[hq,Int.emod_eq_of_lt (by omega) hm]
theorem Em{a b:Int}(ha:DV a) (hb:0 < b) (hb2:b≤9223372036854775807):lA a b=some (a % b,()):=by
 unfold lA;rw[Ls ha hb hb2];rfl
theorem Cq{a:List DCe}(h:a.length≤1000):kP a a=some (true,()):=by
 have e:dO jE NN (a,a,(a.length:Int),0,())=some (.inr (a,a,(a.length:Int),(a.length:Int),false,())):=by
  refine mt (st:=fun k=>(a,a,(a.length:Int),(k:Int),())) (n:=a.length) (by unfold NN;omega) ?_ ?_
  ·intro k hk;unfold jE;dsimp only;rw[decide_eq_true (show (k:Int) < a.length by omega),dH];simp only[cond_true,oBS,show dF a k=some a[k] from oGE hk,BEq.rfl,Bool.and_self,Bool.not_true,cond_false];rw[dL (x:=(k:Int)+1) (by omega) (by omega)];exact Ok.ret rfl
  ·unfold jE;dsimp only;rw[decide_eq_false (show ¬ (a.length:Int) < a.length by omega)];exact Ok.ret rfl
 unfold kP;delta dI;dsimp only;rw[e];simp only[bne_self_eq_false,cond_false]
def Sh4(ls:List DLn):Prop:=ls.length≤4∧∀x∈ls,x.2.2.length≤4
theorem HD{cs:List DCe}{ls:List DLn}(h:cs.length≤1000) (hs:Sh4 ls):kN cs ls cs ls=some (true,()):=by
 have e:dO jC NN ((ls.length:Int),0,cs,ls,cs,ls,())=some (.inr ((ls.length:Int),(ls.length:Int),false,cs,ls,cs,ls,())):=by
  have h4:=hs.1;refine mt (st:=fun k=>((ls.length:Int),(k:Int),cs,ls,cs,ls,())) (n:=ls.length) (by unfold NN;omega) ?_ ?_
  ·intro k hk;unfold jC;dsimp only;have hx:ls[k]?=some ls[k]:=oGE hk;have hl:=hs.2 _ (dK hx);rw[decide_eq_true (show (k:Int) < ls.length by omega),dH];simp only[cond_true,oBS,show dF ls k=some ls[k] from hx,BEq.rfl,bne_self_eq_false,Bool.not_true,cond_false];rw[Cq (by omega)];simp only[oBS,Bool.not_true,cond_false];rw[dL (x:=(k:Int)+1) (by omega) (by omega)];exact Ok.ret rfl
  ·unfold jC;dsimp only;rw[decide_eq_false (show ¬ (ls.length:Int) < ls.length by omega)];exact Ok.ret rfl
 unfold kN;rw[Cq h];delta dI;simp only[oBS,Bool.not_true,cond_false,bne_self_eq_false];rw[e]
theorem vW{rs:List DCe}(h:rs.length≤1000):fC rs=some (rs,()):=by
 unfold fC;rw[dN (by omega)];rfl
theorem DM{rs:List DLn}(h:rs.length≤1000):gl rs=some (rs,()):=by
 unfold gl;rw[dN (by omega)];rfl
theorem HC{α:Type}{l:List α}{i:Nat}{f:α→α}(h:∀x,l[i]?=some x→f x=x):List.modify l i f=l:=by
 apply List.ext_getElem?;intro j;rw[List.getElem?_modify];by_cases hij:i=j
 ·subst hij
  cases hl:l[i]? with
  | none=>simp
  | some x=>simp[h x hl]
 ·simp[hij]
theorem JC{cs:List DCe}{ls:List DLn}(h:cs.length≤1000) (hs:Sh4 ls):lB cs ls=some (cs,ls,()):=by
 have h4:=hs.1
 have e:dO iZ NN ((ls.length:Int),0,(),(),cs,ls,())=some ((ls.length:Int),(ls.length:Int),false,(),(),cs,ls,()):=by
  refine mt (st:=fun k=>((ls.length:Int),(k:Int),(),(),cs,ls,())) (n:=ls.length) (by unfold NN;omega) ?_ ?_
  ·intro k hk;unfold iZ;dsimp only;have hx:ls[k]?=some ls[k]:=oGE hk;have hl:=hs.2 _ (dK hx);rw[decide_eq_true (show (k:Int) < ls.length by omega),dH];simp only[cond_true,oBS,show dF ls k=some ls[k] from hx];rw[vW (by omega)];simp only[oBS];rw[HC fun x hx'=>by rw[hx] at hx';injection hx' with hx';subst hx';rfl];rw[dL (x:=(k:Int)+1) (by omega) (by omega)];exact Ok.ret rfl
  ·unfold iZ;dsimp only;rw[decide_eq_false (show ¬ (ls.length:Int) < ls.length by omega)];exact Ok.ret rfl
 unfold lB;rw[vW h,DM (by omega)];delta dI;simp only[oBS];rw[e];rfl
section
variable {K:Int→Prop} {cs:List DCe} {ls:List DLn} {a t v:Int}
theorem i6.sh4(h:i6 K cs ls):Sh4 ls:=⟨by rw[h.llen];omega,fun x hx=>by
 obtain⟨i,hi⟩:=List.getElem?_of_mem hx
 exact (h.lines i x hi).len⟩
theorem yJ(h5:cs.length=512) (hs:Sh4 ls) (ha:0≤a∧a < 512) (ht:t≤2):fr cs ls a t v=some (cs.set a.toNat (t,v),ls,0,()):=by
 obtain⟨i,rfl⟩:∃i:Nat,a=i:=⟨a.toNat,by omega⟩;have hx:cs[i]?=some cs[i]:=oGE (by omega);unfold fr kG fh;rw[JC (by omega) hs];delta dI;dsimp only;rw[decide_eq_true ht,decide_eq_false (show ¬ (i:Int) < 0 by omega),decide_eq_false (show ¬ (i:Int)≥512 by omega)];simp only[oBS,Bool.not_true,cond_false];rw[decide_eq_false (show ¬ (i:Int)≥cs.length by omega),dH];simp only[oBS,cond_false,show dF cs i=some cs[i] from hx,dZ hx,Int.toNat_natCast]
theorem Jc(h:i6 K cs ls) (ha:0≤a∧a < 512) (ht:t≤2):hJ cs ls a t v=some (cs.set a.toNat (t,v),ls,0,()):=by
 have h5:=h.clen;obtain⟨i,rfl⟩:∃i:Nat,a=i:=⟨a.toNat,by omega⟩;have hx:cs[i]?=some cs[i]:=oGE (by omega);unfold hJ fQ;rw[Cl h];dsimp only;rw[decide_eq_true ht,decide_eq_false (show ¬ (i:Int) < 0 by omega),decide_eq_false (show ¬ (i:Int)≥512 by omega),dH];simp only[oBS,Bool.not_true,cond_false,show dF cs i=some cs[i] from hx,dZ hx,Int.toNat_natCast]
theorem Jn(hb:¬ t≤2∨a < 0∨512≤a):∃e,fr cs ls a t v=some ([],[],e,())∧hJ cs ls a t v=some ([],[],e,()):=by
 unfold fr hJ kG fQ fh;by_cases ht:t≤2
 ·rw[decide_eq_true ht];simp only[oBS,Bool.not_true,cond_false];by_cases h0:a < 0
  ·rw[decide_eq_true h0];exact⟨_,rfl,rfl⟩
  ·rw[decide_eq_false h0,decide_eq_true (show a≥512 by omega)];exact⟨_,rfl,rfl⟩
 ·rw[decide_eq_false ht];exact⟨_,rfl,rfl⟩
theorem CR{x:DCe}(ha:0≤a∧a < 512) (hl:cs.length=512) (hx:cs[a.toNat]?=some x):ft cs ls a=some (x.1,x.2,0,())∧hU cs ls a=some (x.1,x.2,0,()):=by
 obtain⟨i,rfl⟩:∃i:Nat,a=i:=⟨a.toNat,by omega⟩;rw[Int.toNat_natCast] at hx;unfold ft hU fh;delta dI;rw[decide_eq_false (show ¬ (i:Int) < 0 by omega),decide_eq_false (show ¬ (i:Int)≥512 by omega),hl];simp only[oBS,cond_false];rw[decide_eq_false (show ¬ (i:Int)≥((512:Nat):Int) by omega),dH];simp only[oBS,cond_false,show dF cs i=some x from hx];exact⟨trivial,trivial⟩
theorem Jp(ha:a < 0∨512≤a):ft cs ls a=some (0,0,6,())∧hU cs ls a=some (0,0,6,()):=by
 unfold ft hU fh;by_cases h0:a < 0
 ·rw[decide_eq_true h0];exact⟨rfl,rfl⟩
 ·rw[decide_eq_false h0,decide_eq_true (show a≥512 by omega)];exact⟨rfl,rfl⟩
theorem As{l:List Int}{k:Int}(h:DOk l k):Ok (j4 l k) fun r=>∃t v k',r=(t,v,l,k',())∧0≤t∧t≤2∧DOk l k':=by
 unfold j4;refine eY (n:=5) h (by decide) (by decide) fun u k4 u0 u1 h4=>?_;obtain⟨T,hT⟩:∃T:List Int,T=[0,0,0,1,2]:=⟨_,rfl⟩;dsimp only;rw[← hT];obtain⟨i,rfl⟩:∃i:Nat,u=i:=⟨u.toNat,by omega⟩
 obtain⟨x,hx,hx2⟩:∃x,T[i]?=some x∧(x=0∨x=1∨x=2):=by
  rw[hT]
  match i,u1 with
  | 0,_=>exact⟨_,rfl,by omega⟩
  | 1,_=>exact⟨_,rfl,by omega⟩
  | 2,_=>exact⟨_,rfl,by omega⟩
  | 3,_=>exact⟨_,rfl,by omega⟩
  | 4,_=>exact⟨_,rfl,by omega⟩
  | n+5,h=>omega
 simp only[dH,oBS,show dF T i=some x from hx];refine AA h4 fun v k5 v0 v1 h5=>?_
 have hw:wk .u8 x=x:=by rcases hx2 with rfl | rfl | rfl<;>decide
 rw[hw];exact Ok.ret ⟨_,_,_,rfl,by omega,by omega,h5⟩
end
theorem s8:lC=some (true,()):=by kernel_rfl
theorem one04_law{l:List Int}{a1 a2:Int}(hl:∀x∈l,DV x) (hm:l.length≤maxLen) (h1:DV a1) (h2:DV a2):jZ l a1 a2=some (true,()):=by
 refine Ok.eq ?_;unfold jZ;refine (ya (DOk.start hl hm)).bind ?_;rintro _ ⟨code,ss,dt,bs,key,cs,ls,ts,k',rfl,hp,hkey,hM,hd⟩;dsimp only;rw[Em h1 (by decide) (by decide),Em h2 (by decide) (by decide)];obtain⟨i,hi⟩:∃i:Nat,a1 % 512=i:=⟨(a1 % 512).toNat,by omega⟩;obtain⟨j,hj⟩:∃j:Nat,a2 % 512=j:=⟨(a2 % 512).toNat,by omega⟩
 have hi5:i < 512:=by omega
 have hj5:j < 512:=by omega
 rw[hi,hj];simp only[oBS];refine (As hd).bind ?_;rintro _ ⟨t,v,k1,rfl,t0,t2,hd1⟩;dsimp only;refine (As hd1).bind ?_;rintro _ ⟨u,w,k2,rfl,u0,u2,hd2⟩;dsimp only;have hmm:=hM.mem;have h5:=hmm.clen;obtain⟨cs',hcs⟩:∃cs',cs'=cs.set i (t,v):=⟨_,rfl⟩
 have h5':cs'.length=512:=by rw[hcs,List.length_set];exact h5
 rw[yJ h5 hmm.sh4 ⟨by omega,by omega⟩ t2,Int.toNat_natCast,← hcs];delta dI;simp only[oBS];rw[h5',show ((512:Nat):Int)=512 from rfl];simp only[bne_self_eq_false,cond_false]
 have e:dO iy NN ((i:Int),(j:Int),512,0,bs,key,cs,ls,ts,t,v,u,w,cs',ls,())=some (.inr ((i:Int),(j:Int),512,512,false,bs,key,cs,ls,ts,t,v,u,w,cs',ls,())):=by
  refine mt (st:=fun k=>((i:Int),(j:Int),512,(k:Int),bs,key,cs,ls,ts,t,v,u,w,cs',ls,())) (n:=512) (by unfold NN;omega) ?_ ?_
  ·intro k hk;unfold iy;dsimp only;rw[decide_eq_true (show (k:Int) < 512 by omega),dH];by_cases hik:k=i
   ·subst hik
    have hx:cs'[k]?=some (t,v):=by rw[hcs];exact List.getElem?_set_self (by omega)
    simp only[cond_true,oBS,show dF cs' k=some (t,v) from hx,bne_self_eq_false,cond_false,BEq.rfl,Bool.and_self,Bool.not_true];rw[dL (x:=(k:Int)+1) (by omega) (by omega)];exact Ok.ret rfl
   ·have hy:cs[k]?=some cs[k]:=oGE (by omega)
    have hx:cs'[k]?=some cs[k]:=by rw[hcs,List.getElem?_set_ne (by omega)];exact hy
    simp only[cond_true,oBS,show dF cs' k=some cs[k] from hx,show dF cs k=some cs[k] from hy,show ((k:Int) != (i:Int))=true by simp;omega,show ((k:Int)==(i:Int))=false by simp;omega,BEq.rfl,Bool.and_self,Bool.not_true,cond_false];rw[dL (x:=(k:Int)+1) (by omega) (by omega)];exact Ok.ret rfl
  ·exact Ok.ret rfl
 rw[e];dsimp only;rw[yJ h5' hmm.sh4 ⟨by omega,by omega⟩ u2,Int.toNat_natCast];simp only[oBS];by_cases hij:i=j
 ·subst hij;rw[(CR (ls:=ls) (a:=(i:Int)) (cs:=cs'.set i (u,w)) (x:=(u,w)) ⟨by omega,by omega⟩ (by rw[List.length_set];exact h5') (by rw[Int.toNat_natCast];exact List.getElem?_set_self (by omega))).1];simp only[oBS,BEq.rfl,cond_true,Bool.and_self,s8];exact Ok.ret rfl
 ·rw[(CR (ls:=ls) (a:=(i:Int)) (cs:=cs'.set j (u,w)) (x:=(t,v)) ⟨by omega,by omega⟩ (by rw[List.length_set];exact h5') (by rw[Int.toNat_natCast,List.getElem?_set_ne (by omega),hcs];exact List.getElem?_set_self (by omega))).1];simp only[oBS,show ((i:Int)==(j:Int))=false by simp;omega,BEq.rfl,cond_true,cond_false,Bool.and_self,s8];exact Ok.ret rfl
theorem pokes04_law{l:List Int}{a1 a2 a3:Int}(hl:∀x∈l,DV x) (hm:l.length≤maxLen) (h1:DV a1):i3 l a1 a2 a3=some (true,()):=by
 refine Ok.eq ?_;unfold i3;refine (ya (DOk.start hl hm)).bind ?_;rintro _ ⟨code,ss,dt,bs,key,cs,ls,ts,k',rfl,hp,hkey,hM,hd⟩;dsimp only;rw[Em h1 (by decide) (by decide),Em h1 (by decide) (by decide)];simp only[oBS];rw[dL (x:=a1 % 514 - 1) (by omega) (by omega)];obtain⟨V,hV⟩:∃V:List Int,V=[a1,a1 % 514 - 1,a1 % 120]:=⟨_,rfl⟩;rw[← hV]
 have hV3:V.length=3:=by rw[hV];rfl
 delta dI
 try dsimp only
 rw[hV3,show ((3:Nat):Int)=3 from rfl];have hmm:=hM.mem;have h5:=hmm.clen;have hs4:=hmm.sh4
 have key1:∀a t v:Int,∃x y e,fr cs ls a t v=some (x,y,e,())∧hJ cs ls a t v=some (x,y,e,())∧kN x y x y=some (true,()):=by
  intro a t v;by_cases hg:t≤2∧0≤a∧a < 512
  ·exact⟨_,_,_,yJ h5 hs4 hg.2 hg.1,Jc hmm hg.2 hg.1,HD (by rw[List.length_set];omega) hs4⟩
  ·obtain⟨e,e1,e2⟩:=Jn (cs:=cs) (ls:=ls) (a:=a) (t:=t) (v:=v) (by omega);exact⟨_,_,_,e1,e2,HD (by simp) ⟨by simp,dX⟩⟩
 have key2:∀a:Int,∃x y e,ft cs ls a=some (x,y,e,())∧hU cs ls a=some (x,y,e,()):=by
  intro a;by_cases hg:0≤a∧a < 512
  ·obtain⟨e1,e2⟩:=CR (cs:=cs) (ls:=ls) hg h5 (oGE (show a.toNat < cs.length by omega));exact⟨_,_,_,e1,e2⟩
  ·obtain⟨e1,e2⟩:=Jp (cs:=cs) (ls:=ls) (a:=a) (by omega);exact⟨_,_,_,e1,e2⟩
 obtain⟨y,e,hy⟩:=Ok.iter (f:=gO) (n:=NN) (s:=(3,0,a2,a3,bs,key,cs,ls,ts,l,k',V,()))
  (P:=fun s'=>∃(q:Nat) (k':Int),s'=(3,(q:Int),a2,a3,bs,key,cs,ls,ts,l,k',V,())∧q≤3∧DOk l k')
  (R:=fun y=>∃z,y=.inr z) (m:=fun s'=>(3 - s'.2.1).toNat) ⟨0,k',rfl,by omega,hd⟩ (by unfold NN;dsimp only;omega) (by
   rintro _ ⟨q,k',rfl,hq,hd⟩;unfold gO;delta dI;dsimp only
   (with_reducible refine Ok.cb (fun hca=>?_) (fun hca=>?_))
   ·obtain⟨a,ha⟩:∃a,V[q]?=some a:=⟨_,oGE (by omega)⟩;rw[dH];simp only[oBS,show dF V q=some a from ha];refine (As hd).bind ?_;rintro _ ⟨t,v,k1,rfl,t0,t2,hd1⟩;dsimp only;obtain⟨W,hW⟩:∃W:List DCe,W=[(a2,a3),(t,v)]:=⟨_,rfl⟩;rw[← hW]
    have hW2:W.length=2:=by rw[hW];rfl
    rw[hW2,show ((2:Nat):Int)=2 from rfl]
    have e2:dO gP NN (a,3,(q:Int),2,0,a2,a3,bs,key,cs,ls,ts,l,k1,V,W,())=some (.inr (a,3,(q:Int),2,2,false,a2,a3,bs,key,cs,ls,ts,l,k1,V,W,())):=by
     refine mt (st:=fun j=>(a,3,(q:Int),2,(j:Int),a2,a3,bs,key,cs,ls,ts,l,k1,V,W,())) (n:=2) (by unfold NN;omega) ?_ ?_
     ·intro j hj;unfold gP;dsimp only;obtain⟨c,hc⟩:∃c,W[j]?=some c:=⟨_,oGE (by omega)⟩;rw[decide_eq_true (show (j:Int) < 2 by omega),dH];simp only[cond_true,oBS,show dF W j=some c from hc];obtain⟨x,y,e,e1,e2,e3⟩:=key1 a c.1 c.2;rw[e1,e2];simp only[oBS,bne_self_eq_false,cond_false];rw[e3];simp only[oBS,Bool.not_true,cond_false];rw[dL (x:=(j:Int)+1) (by omega) (by omega)];exact Ok.ret rfl
     ·exact Ok.ret rfl
    rw[e2];dsimp only;obtain⟨x,y,e,e1,e2⟩:=key2 a;rw[e1,e2];simp only[oBS,BEq.rfl,Bool.and_self,Bool.not_true,cond_false,bne_self_eq_false];rw[dL (x:=(q:Int)+1) (by omega) (by omega)];exact Ok.ret ⟨⟨q+1,k1,rfl,by omega,hd1⟩,by dsimp only;omega⟩
   ·exact Ok.ret ⟨_,rfl⟩)
 rw[e];obtain⟨z,rfl⟩:=hy;dsimp only;rw[s8];exact Ok.ret rfl
theorem g64{h:den I64}(g:DW I64 h):DV h:=bounds_i64 g
theorem JR{h:den RI}(g:DW RI h):(∀z∈(show List Int from h),DV z)∧(show List Int from h).length≤maxLen:=⟨fun z hz=>bounds_i64 (g.2 z hz),g.1⟩
theorem law_MemoryOne{h0:HL den [RI]}{h1:HL den [I64]}{h2:HL den [I64]}(g0:GoodL _ h0) (g1:GoodL _ h1) (g2:GoodL _ h2):nA.g (appL _ _ h0 (appL _ _ h1 (appL _ _ h2 ())))=some (true,()):=
 one04_law (JR g0.1).1 (JR g0.1).2 (g64 g1.1) (g64 g2.1)
theorem law_MemoryPokes{h0:HL den [RI]}{h1:HL den [I64]}{h2:HL den [.int .u8,.int .u16]}(g0:GoodL _ h0) (g1:GoodL _ h1) (_:GoodL _ h2):mq.g (appL _ _ h0 (appL _ _ h1 (appL _ _ h2 ())))=some (true,()):=
 pokes04_law (JR g0.1).1 (JR g0.1).2 (g64 g1.1)
end Go.Proofs.YtdcpgpngdcfhhaaGreat
