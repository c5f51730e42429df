/- Part of the proof; no condition. -/
import Derived.Test.YtpodeigolpjeeaaGreatSe
import Derived.Deep.Slices
set_option linter.unusedVariables false
set_option linter.unusedSimpArgs false
namespace Go.Proofs.YtpodeigolpjeeaaGreat
open Go.RowKit
theorem Mv{K:Int→Prop}:∀c∈List.replicate 8 ((0:Int),(0:Int)),mJ K c:=fun c hc=>by rw[List.eq_of_mem_replicate hc];exact lk (by decide)
theorem K2{K:Int→Prop}{s:Int}(h:0≤s∧s≤4):w7 K 0 (s,List.replicate 8 (0,0),0,0,-1,-1,0,0):=
 ⟨h,rfl,Mv,⟨by dsimp only;omega,by dsimp only;omega⟩,⟨by dsimp only;omega,by dsimp only;omega⟩,⟨by dsimp only;omega,by dsimp only;omega⟩,⟨by dsimp only;omega,by dsimp only;omega⟩,⟨by dsimp only;omega,by dsimp only;omega⟩,⟨by dsimp only;omega,by dsimp only;omega⟩⟩
theorem Ja{code:List DIn}{ss bs:List Int}{d:List (List Int)}{key:Int}(hp:km code ss d) (hl:LV bs ss):Ok (lJ code ss d bs key) fun r=>∃cs ts,r=(bs,key,cs,eL,ts,0,())∧MOk 0 ss bs cs eL ts:=by
 unfold lJ;rw[AB hp,qk hl];simp only[oBS,Bool.not_true,cond_false,bne_self_eq_false];refine (LT hp hl).bind ?_;rintro _ ⟨cs,rfl,hc1,hc2⟩;dsimp only;have hbl:=hl.2.1;have hs4:=hp.sz.2.1;refine Ok.need (dN (by omega)) ?_;rw[show List.append [] bs=bs from rfl]
 refine Ok.loop (P:=fun s'=>∃k:Nat,∃ts,s'=((k:Int),(),0,(),(),(),bs,key,cs,eL,ts,())∧k≤4∧ts.length=k∧∀t∈ts,w7 (RK bs ss) 0 t)
  (R:=fun r=>∃a b ts,r=(a,b,(),0,(),(),(),bs,key,cs,eL,ts,())∧ts.length=4∧∀t∈ts,w7 (RK bs ss) 0 t) (m:=fun s'=>(4 - s'.1).toNat) ⟨0,[],rfl,by omega,rfl,dX⟩ (by unfold NN;dsimp only;omega) ?_ ?_
 ·rintro _ ⟨k,ts,rfl,hk,ht1,ht2⟩;unfold oW;dsimp only
  (with_reducible refine Ok.cb (fun hca=>?_) (fun hca=>?_))
  ·refine Ok.need (by decide) ?_;refine Ok.bind (P:=fun r=>∃s,(0≤s∧s≤4)∧r=((k:Int),(),0,(),(),(),bs,key,cs,eL,ts,s,List.replicate 8 (0,0),0,0,-1,-1,0,0,())) ?_ ?_
   ·(with_reducible refine Ok.cb (fun hcb=>?_) (fun hcb=>?_))
    ·exact Ok.ret ⟨1,by decide,rfl⟩
    ·exact Ok.ret ⟨0,by decide,rfl⟩
   ·rintro _ ⟨s,hs,rfl⟩;dsimp only;refine Ok.need (dN (by simp;omega)) ?_
    (simp (disch:=omega) only [dL,dS,dO,dQ])
    exact Ok.ret ⟨⟨k+1,_,rfl,by omega,by rw[eK,ht1];rfl,iQ ht2 (all_cons (K2 hs) dX)⟩,by dsimp only;omega⟩
  ·exact Ok.ret ⟨_,_,_,rfl,by omega,ht2⟩
 ·rintro _ ⟨a,b,ts,rfl,ht1,ht2⟩;exact Ok.ret ⟨cs,ts,rfl,hl,Cr hc1 fun c hc=>(hc2 c hc).mono fun _ h=>h.elim,ht1,ht2⟩
def Pr(ss:List Int) (c:DCn):Prop:=
 ((c.1=0∨c.1=2)∧c.2.2.1=0∧c.2.2.2=0∧W16 c.2.1)∨(c.1=1∧c.2.1=0∧0≤c.2.2.1∧∃n,ss[c.2.2.1.toNat]?=some n∧0≤c.2.2.2∧c.2.2.2 < n)
theorem CC{ss:List Int}{c:DCn}(hs:w8 ss) (h:Pr ss c):jo c.1 c.2.1 c.2.2.1 c.2.2.2=some (true,()):=by
 refine Ok.eq ?_;unfold jo;rcases h with ⟨h1,h2,h3,_⟩ | ⟨h1,h2,h3,n,h4,h5,h6⟩
 ·rw[h2,h3]
  rcases h1 with h1 | h1<;>rw[h1]<;>exact Ok.ret rfl
 ·have hn:=hs.2.2 n (dK h4);have hl:=(oGS h4).1;have hs4:=hs.2.1;rw[h1,h2,show (c.2.2.1==-1)=false by rw[beq_eq_false_iff_ne];omega];refine Ok.cond (fun h=>by cases h) fun _=>Ok.cond (fun h=>by cases h) fun _=>Ok.need rfl ?_;refine Ok.cond (fun h=>by cases h) fun _=>Ok.need rfl ?_;exact Ok.need (decide_eq_true h3) (Ok.need (decide_eq_true (by omega)) (Ok.need (decide_eq_true h5) (Ok.ret (by rw[decide_eq_true (show c.2.2.2 < 32 by omega)]))))
theorem jv{ss:List Int}{l:List DCn}{n:Int}(hs:w8 ss) (h:∀c∈l,Pr ss c) (hn:(l.length:Int)≤n) (hl:l.length≤1000):eW l n=some (true,()):=by
 have e:dP i8 NN (l,n,l,(l.length:Int),0,())=some (.inr (l,n,l,(l.length:Int),(l.length:Int),false,())):=by
  refine mr (st:=fun k=>(l,n,l,(l.length:Int),(k:Int),())) (n:=l.length) (by unfold NN;omega) ?_ ?_
  ·intro k hk;unfold i8;dsimp only
   (with_reducible refine Ok.cb (fun hca=>?_) (fun hca=>?_))
   ·rw[dH];simp only[oBS];refine Ok.get (by omega) fun x hx=>?_;rw[CC hs (h x (dK hx))];simp only[oBS,Bool.not_true,cond_false]
    (simp (disch:=omega) only [dL,dS,dO,dQ])
    exact Ok.ret rfl
   ·omega
  ·unfold i8;dsimp only
   (with_reducible refine Ok.cb (fun hca=>?_) (fun hca=>?_))
   ·omega
   ·exact Ok.ret rfl
 refine Ok.eq ?_;unfold eW;delta dI
 try dsimp only
 rw[e];exact Ok.ret (congrArg (fun b=>(b,())) (decide_eq_true hn))
def Mm(d:List (List DCn)) (o:DOp):Prop:=(o.1=-1∧o.2.1=0∧o.2.2=false)∨(0≤o.1∧∃x,d[o.1.toNat]?=some x∧0≤o.2.1∧o.2.1≤x.length)
structure fj (ss:List Int) (d:List (List DCn)) (os:List DOp):Prop where
 dlen:d.length≤4
 flen:∀x∈d,x.length≤64
 cells:∀x∈d,∀c∈x,Pr ss c
 olen:os.length=8
 opens:∀o∈os,Mm d o
theorem yd{ss:List Int}{d:List (List DCn)}{os:List DOp}(hs:w8 ss) (h:fj ss d os):jH d os=some (true,()):=by
 obtain⟨h1,h2,h3,h4,h5⟩:=h
 have e0:dP i7 NN (d,(d.length:Int),0,d,os,())=some (.inr (d,(d.length:Int),(d.length:Int),false,d,os,())):=by
  refine mr (st:=fun k=>(d,(d.length:Int),(k:Int),d,os,())) (n:=d.length) (by unfold NN;omega) ?_ ?_
  ·intro k hk;unfold i7;dsimp only
   (with_reducible refine Ok.cb (fun hca=>?_) (fun hca=>?_))
   ·rw[dH];simp only[oBS];refine Ok.get (by omega) fun x hx=>?_;have:=h2 x (dK hx);rw[jv hs (h3 x (dK hx)) (by omega) (by omega)];simp only[oBS,Bool.not_true,cond_false]
    (simp (disch:=omega) only [dL,dS,dO,dQ])
    exact Ok.ret rfl
   ·omega
  ·unfold i7;dsimp only
   (with_reducible refine Ok.cb (fun hca=>?_) (fun hca=>?_))
   ·omega
   ·exact Ok.ret rfl
 have e2:dP lq NN (os,8,0,d,os,())=some (.inr (os,8,8,false,d,os,())):=by
  refine mr (st:=fun k=>(os,8,(k:Int),d,os,())) (n:=8) (by unfold NN;omega) ?_ ?_
  ·intro k hk;unfold lq;dsimp only
   (with_reducible refine Ok.cb (fun hca=>?_) (fun hca=>?_))
   ·rw[dH];simp only[oBS];refine Ok.get (by omega) fun x hx=>?_;obtain⟨f,o,w⟩:=x;refine Ok.bind (P:=(·=(os,8,(k:Int),false,d,os,f,o,w,()))) ?_ ?_
    ·rcases h5 _ (dK hx) with ⟨g1,g2,g3⟩ | ⟨g1,y,g2,g3,g4⟩
     ·have g1:f=-1:=g1;have g2:o=0:=g2;have g3:w=false:=g3;subst g1 g2 g3;dsimp only;refine Ok.need rfl (Ok.cond (fun h=>by cases h) fun _=>Ok.cond (fun h=>by cases h) fun _=>Ok.cond (fun h=>by cases h) fun _=>Ok.cond (fun h=>?_) fun _=>Ok.cond (fun h=>by cases h) fun _=>Ok.ret rfl);have h:(-1:Int)≥(d.length:Int):=of_decide_eq_true h;omega
     ·dsimp only at g1 g2 g3 g4 ⊢;have hl:=(oGS g2).1;rw[show (f==-1)=false by rw[beq_eq_false_iff_ne];omega,decide_eq_false (show ¬ f < -1 by omega)];simp only[cond_false];refine Ok.cond (fun h=>?_) fun _=>Ok.need (decide_eq_true g1) ?_
      ·have h:f≥(d.length:Int):=of_decide_eq_true h;omega
      ·rw[decide_eq_false (show ¬ o < 0 by omega)];simp only[cond_false];refine Ok.nat g1 fun j hj=>?_;refine Ok.get (by omega) fun z hz=>?_
       have hjj:j=f.toNat:=by omega
       subst hjj;rw[g2] at hz
       injection hz with hz
       subst hz;exact Ok.ret (by rw[decide_eq_false (show ¬ o > dI y.length from fun h=>by rw[dQ] at h;omega)])
    ·rintro _ rfl;dsimp only;simp only[cond_false]
     (simp (disch:=omega) only [dL,dS,dO,dQ])
     exact Ok.ret rfl
   ·omega
  ·exact Ok.ret rfl
 refine Ok.eq ?_;unfold jH;delta dI
 try dsimp only
 (with_reducible refine Ok.cb (fun hca=>?_) (fun hca=>?_))
 ·omega
 ·rw[h4];refine Ok.cond (fun h=>by cases h) fun _=>?_;rw[e0];dsimp only;rw[h4,show ((8:Nat):Int)=8 from rfl,e2];exact Ok.ret rfl
def No(ss:List Int) (i:Nat) (x:DOu):Prop:=x.1=i∧0≤x.2.1∧x.2.1 < 2∧x.2.2.length≤16∧∀c∈x.2.2,Pr ss c
structure w9 (ss:List Int) (ck rn:List Int) (ins:List (List Int)) (d:List (List DCn)) (os:List DOp) (us:List DOu):Prop where
 clock:ck.length≤64∧∀w∈ck,W16 w
 rand:rn.length≤64∧∀w∈rn,W16 w
 ilen:ins.length≤2
 inp:∀x∈ins,x.length≤64∧∀w∈x,W16 w
 files:fj ss d os
 ulen:us.length≤200
 outs:∀(i:Nat) x,us[i]?=some x→No ss i x
theorem FI{ss:List Int}{us:List DOu}(hl:us.length≤200) (h:∀(i:Nat) x,us[i]?=some x→No ss i x):jG us=some (true,()):=by
 have e:dP hU NN (us,(us.length:Int),0,())=some (.inr (us,(us.length:Int),(us.length:Int),false,())):=by
  refine mr (st:=fun k=>(us,(us.length:Int),(k:Int),())) (n:=us.length) (by unfold NN;omega) ?_ ?_
  ·intro k hk;unfold hU;dsimp only
   (with_reducible refine Ok.cb (fun hca=>?_) (fun hca=>?_))
   ·rw[dH];simp only[oBS];refine Ok.get (by omega) fun x hx=>?_;obtain⟨g1,g2,g3,g4,g5⟩:=h k x hx;rw[g1,decide_eq_false (show ¬ x.2.1 < 0 by omega),decide_eq_false (show ¬ x.2.1≥2 by omega)];simp only[bne_self_eq_false,cond_false,oBS];refine Ok.cond (fun h=>?_) fun _=>?_
    ·have h:(x.2.2.length:Int) > 16:=of_decide_eq_true h;omega
    ·(simp (disch:=omega) only [dL,dS,dO,dQ])
     exact Ok.ret rfl
   ·omega
  ·unfold hU;dsimp only
   (with_reducible refine Ok.cb (fun hca=>?_) (fun hca=>?_))
   ·omega
   ·exact Ok.ret rfl
 refine Ok.eq ?_;unfold jG;delta dI
 try dsimp only
 rw[e];exact Ok.ret rfl
theorem sV{ss ck rn:List Int}{ins:List (List Int)}{d:List (List DCn)}{os:List DOp}{us:List DOu}(hs:w8 ss) (h:w9 ss ck rn ins d os us):iE ck rn ins d os us=some (true,()):=by
 have e0:dP i6 NN (ins,(ins.length:Int),0,ck,rn,ins,d,os,us,())=some (.inr (ins,(ins.length:Int),(ins.length:Int),false,ck,rn,ins,d,os,us,())):=by
  refine mr (st:=fun k=>(ins,(ins.length:Int),(k:Int),ck,rn,ins,d,os,us,())) (n:=ins.length) (by unfold NN;have:=h.ilen;omega) ?_ ?_
  ·intro k hk;have hil:=h.ilen;unfold i6;dsimp only
   (with_reducible refine Ok.cb (fun hca=>?_) (fun hca=>?_))
   ·rw[dH];delta dI;simp only[oBS];refine Ok.get (by omega) fun x hx=>?_;have:=(h.inp x (dK hx)).1
    (with_reducible refine Ok.cb (fun hcb=>?_) (fun hcb=>?_))
    ·omega
    ·(simp (disch:=omega) only [dL,dS,dO,dQ])
     exact Ok.ret rfl
   ·omega
  ·unfold i6;dsimp only
   (with_reducible refine Ok.cb (fun hca=>?_) (fun hca=>?_))
   ·omega
   ·exact Ok.ret rfl
 have e1:dP i5 NN (us,(us.length:Int),0,ck,rn,ins,d,os,us,())=some (.inr (us,(us.length:Int),(us.length:Int),false,ck,rn,ins,d,os,us,())):=by
  refine mr (st:=fun k=>(us,(us.length:Int),(k:Int),ck,rn,ins,d,os,us,())) (n:=us.length) (by unfold NN;have:=h.ulen;omega) ?_ ?_
  ·intro k hk;have hul:=h.ulen;unfold i5;dsimp only
   (with_reducible refine Ok.cb (fun hca=>?_) (fun hca=>?_))
   ·rw[dH];simp only[oBS];refine Ok.get (by omega) fun x hx=>?_;obtain⟨_,_,_,g4,g5⟩:=h.outs k x hx;rw[jv hs g5 (by omega) (by omega)];simp only[oBS,Bool.not_true,cond_false]
    (simp (disch:=omega) only [dL,dS,dO,dQ])
    exact Ok.ret rfl
   ·omega
  ·unfold i5;dsimp only
   (with_reducible refine Ok.cb (fun hca=>?_) (fun hca=>?_))
   ·omega
   ·exact Ok.ret rfl
 have c1:=h.clock.1;have c2:=h.rand.1;have c3:=h.ilen;have c4:=h.ulen;refine Ok.eq ?_;unfold iE;delta dI
 try dsimp only
 rw[e0];dsimp only;rw[e1];dsimp only;refine Ok.need (decide_eq_true (show (ck.length:Int)≤64 by omega)) (Ok.need (decide_eq_true (show (rn.length:Int)≤64 by omega)) (Ok.need (decide_eq_true (show (ins.length:Int)≤2 by omega)) ?_));rw[yd hs h.files];simp only[oBS,cond_true];refine Ok.need (decide_eq_true (show (us.length:Int)≤200 by omega)) ?_;rw[FI h.ulen h.outs];exact Ok.ret rfl
def oA:List DOp:=List.replicate 8 (-1,0,false)
theorem JM(a:List (List Int)):dP qM NN (a,8,0,(),(),(),List.replicate 8 (0,(0,false)),())=some (a,8,8,false,(),(),(),oA,()):=by
 rfl
theorem JR{ss:List Int}{a:List (List Int)}(hs:w8 ss) (hl:a.length≤4) (h:∀x∈a,x.length≤64∧∀w∈x,W16 w):Ok (n6 a) fun r=>∃d,r=(d,oA,0,())∧fj ss d oA:=by
 unfold n6;refine Ok.need (by decide) ?_;dsimp only;rw[show dI (List.replicate 8 ((0:Int),((0:Int),false))).length=8 from rfl,JM];delta dI;simp only[oBS]
 refine Ok.loop (P:=fun s'=>∃k:Nat,∃d,s'=(a,(a.length:Int),(k:Int),(),(),d,oA,())∧k≤a.length∧d.length=k∧(∀x∈d,x.length≤64)∧∀x∈d,∀c∈x,Pr ss c)
  (R:=fun r=>∃e b c f d,r=(e,b,c,f,(),(),d,oA,())∧d.length≤4∧(∀x∈d,x.length≤64)∧∀x∈d,∀c∈x,Pr ss c) (m:=fun s'=>(s'.2.1 - s'.2.2.1).toNat) ⟨0,[],rfl,by omega,rfl,dX,dX⟩ (by unfold NN;dsimp only;omega) ?_ ?_
 ·rintro _ ⟨k,d,rfl,hk,hd1,hd2,hd3⟩;unfold qK;dsimp only
  (with_reducible refine Ok.cb (fun hca=>?_) (fun hca=>?_))
  ·rw[dH];delta dI;simp only[oBS];refine Ok.get (by omega) fun x hx=>?_;obtain⟨hx1,hx2⟩:=h x (dK hx)
   refine Ok.loop (P:=fun s'=>∃j:Nat,∃l,s'=(a,(a.length:Int),(k:Int),x,(x.length:Int),(j:Int),(),(),d,oA,l,())∧j≤x.length∧l.length=j∧∀c∈l,Pr ss c)
    (R:=fun r=>∃b c e f l,r=(a,(a.length:Int),(k:Int),b,c,e,f,(),(),d,oA,l,())∧l.length≤64∧∀c∈l,Pr ss c) (m:=fun s'=>(s'.2.2.2.2.1 - s'.2.2.2.2.2.1).toNat) ⟨0,[],rfl,by omega,rfl,dX⟩ (by unfold NN;dsimp only;omega) ?_ ?_
   ·rintro _ ⟨j,l,rfl,hj,hl1,hl2⟩;unfold qL;dsimp only
    (with_reducible refine Ok.cb (fun hcb=>?_) (fun hcb=>?_))
    ·rw[dH];simp only[oBS];refine Ok.get (by omega) fun v hv=>?_;refine Ok.need (dN (by simp;omega)) ?_
     (simp (disch:=omega) only [dL,dS,dO,dQ])
     exact Ok.ret ⟨⟨j+1,_,rfl,by omega,by rw[eK,hl1];rfl,iQ hl2 (all_cons (.inl ⟨.inl rfl,rfl,rfl,hx2 v (dK hv)⟩) dX)⟩,by dsimp only;omega⟩
    ·exact Ok.ret ⟨_,_,_,_,_,rfl,by omega,hl2⟩
   ·rintro _ ⟨b,c,e,f,l,rfl,hl1,hl2⟩;dsimp only;refine Ok.need (dN (by simp;omega)) ?_
    (simp (disch:=omega) only [dL,dS,dO,dQ])
    exact Ok.ret ⟨⟨k+1,_,rfl,by omega,by rw[eK,hd1];rfl,iQ hd2 (all_cons hl1 dX),iQ hd3 (all_cons hl2 dX)⟩,by dsimp only;omega⟩
  ·exact Ok.ret ⟨_,_,_,_,_,rfl,by omega,hd2,hd3⟩
 ·rintro _ ⟨e,b,c,f,d,rfl,hd1,hd2,hd3⟩;have hf:fj ss d oA:=⟨hd1,hd2,hd3,rfl,fun o ho=>by rw[List.eq_of_mem_replicate ho];exact .inl ⟨rfl,rfl,rfl⟩⟩;dsimp only;rw[yd hs hf];simp only[oBS,Bool.not_true,cond_false];exact Ok.ret ⟨d,rfl,hf⟩
theorem wC{a:List (List Int)}(hl:a.length≤1000) (h:∀x∈a,x.length≤1000):fm a=some (a,()):=by
 have e:dP fh NN (a,(a.length:Int),0,[],())=some (a,(a.length:Int),(a.length:Int),false,a,()):=by
  have:=mr (f:=fh) (N:=NN) (st:=fun k=>(a,(a.length:Int),(k:Int),a.take k,())) (n:=a.length) (t:=(a,(a.length:Int),(a.length:Int),false,a,())) (by unfold NN;omega) ?_ ?_
  ·exact this
  ·intro k hk;unfold fh;dsimp only
   (with_reducible refine Ok.cb (fun hca=>?_) (fun hca=>?_))
   ·rw[dH];simp only[oBS];refine Ok.get (by omega) fun x hx=>?_;have:=h x (dK hx);refine Ok.need (dN (by omega)) (Ok.need (dN (by simp;omega)) ?_)
    (simp (disch:=omega) only [dL,dS,dO,dQ])
    refine Ok.ret ?_;rw[List.take_add_one,hx];rfl
   ·omega
  ·unfold fh;dsimp only
   (with_reducible refine Ok.cb (fun hca=>?_) (fun hca=>?_))
   ·omega
   ·rw[List.take_length];exact Ok.ret rfl
 refine Ok.eq ?_;unfold fm;delta dI
 try dsimp only
 rw[e];exact Ok.ret rfl
theorem FH{ss l:List Int}{k:Int}(hs:w8 ss) (h:DOk l k):Ok (kL l k) fun r=>∃ck rn ins d os k',r=(ck,rn,ins,d,os,(),l,k',())∧w9 ss ck rn ins d os []∧DOk l k':=by
 unfold kL;refine (nT h (by decide)).bind ?_;rintro _ ⟨w1,k1,rfl,h1,g1,d1⟩;dsimp only;refine (nT d1 (by decide)).bind ?_;rintro _ ⟨w2,k2,rfl,h2,g2,d2⟩;dsimp only;refine (nT d2 (by decide)).bind ?_;rintro _ ⟨w3,k3,rfl,h3,g3,d3⟩;dsimp only;refine (nT d3 (by decide)).bind ?_;rintro _ ⟨w4,k4,rfl,h4,g4,d4⟩;dsimp only;refine (nT d4 (by decide)).bind ?_;rintro _ ⟨w5,k5,rfl,h5,g5,d5⟩;dsimp only;refine (nT d5 (by decide)).bind ?_;rintro _ ⟨w6,k6,rfl,h6,g6,d6⟩;dsimp only;refine Ok.bind (P:=fun r=>∃ck rn ins d os,r=(ck,rn,ins,d,os,(),0,())∧w9 ss ck rn ins d os []) ?_ ?_
 ·unfold n5;refine (JR (ss:=ss) (a:=[w1,w2]) hs (by simp) (all_cons ⟨by omega,g1⟩ (all_cons ⟨by omega,g2⟩ dX))).bind ?_;rintro _ ⟨d,rfl,hf⟩;dsimp only;refine Ok.cond (fun h=>by cases h) fun _=>?_;refine Ok.need (dN (by omega)) (Ok.need (dN (by omega)) ?_);have ho:w9 ss w5 w6 [w3,w4] d oA []:=⟨⟨by omega,g5⟩,⟨by omega,g6⟩,by simp,all_cons ⟨by omega,g3⟩ (all_cons ⟨by omega,g4⟩ dX),hf,by simp,fun i x hx=>by simp at hx⟩;rw[wC (by simp) (all_cons (by omega) (all_cons (by omega) dX))];simp only[oBS];rw[show List.append [] w5=w5 from rfl,show List.append [] w6=w6 from rfl,sV hs ho];exact Ok.ret ⟨_,_,_,_,_,rfl,ho⟩
 ·rintro _ ⟨ck,rn,ins,d,os,rfl,ho⟩;exact Ok.ret ⟨_,_,_,_,_,_,rfl,ho,d6⟩
theorem By{ss:List Int}{r o n:Int}(h1:0≤r) (h2:ss[r.toNat]?=some n) (h3:0≤o) (h4:o < n):fe ss r o=some (true,()):=by
 refine Ok.eq ?_;have hl:=(oGS h2).1;unfold fe;refine Ok.need (decide_eq_true h1) (Ok.need (decide_eq_true (show r < (ss.length:Int) by omega)) (Ok.need (decide_eq_true h3) ?_));obtain⟨j,rfl⟩:∃j:Nat,r=j:=⟨r.toNat,by omega⟩;rw[dH];simp only[oBS];rw[show dF ss j=some n from h2];simp only[oBS];exact Ok.ret (by rw[decide_eq_true h4])
theorem mq{ss:List Int}{c:DCn}(h:Pr ss c):gf ss c.1 c.2.1 c.2.2.1 c.2.2.2=some (true,()):=by
 refine Ok.eq ?_;unfold gf;rcases h with ⟨h1,h2,h3,_⟩ | ⟨h1,h2,h3,n,h4,h5,h6⟩
 ·rw[h2,h3]
  rcases h1 with h1 | h1<;>rw[h1]<;>exact Ok.ret rfl
 ·rw[h1,h2,By h3 h4 h5 h6];exact Ok.ret rfl
theorem C5{ss:List Int}{d:List (List DCn)}{os:List DOp}(h:fj ss d os):kC ss d os=some (true,()):=by
 obtain⟨h1,h2,h3,h4,h5⟩:=h
 have e0:dP iC NN (ss,d,(d.length:Int),0,d,os,())=some (.inr (ss,d,(d.length:Int),(d.length:Int),false,d,os,())):=by
  refine mr (st:=fun k=>(ss,d,(d.length:Int),(k:Int),d,os,())) (n:=d.length) (by unfold NN;omega) ?_ ?_
  ·intro k hk;unfold iC;dsimp only
   (with_reducible refine Ok.cb (fun hca=>?_) (fun hca=>?_))
   ·rw[dH];delta dI;simp only[oBS];refine Ok.get (by omega) fun x hx=>?_;have hx1:=h2 x (dK hx)
    have e:dP iD NN (ss,d,(d.length:Int),(k:Int),x,(x.length:Int),0,d,os,())=some (.inr (ss,d,(d.length:Int),(k:Int),x,(x.length:Int),(x.length:Int),false,d,os,())):=by
     refine mr (st:=fun j=>(ss,d,(d.length:Int),(k:Int),x,(x.length:Int),(j:Int),d,os,())) (n:=x.length) (by unfold NN;omega) ?_ ?_
     ·intro j hj;unfold iD;dsimp only
      (with_reducible refine Ok.cb (fun hca=>?_) (fun hca=>?_))
      ·rw[dH];simp only[oBS];refine Ok.get (by omega) fun y hy=>?_;rw[mq (h3 x (dK hx) y (dK hy))];simp only[oBS,Bool.not_true,cond_false]
       (simp (disch:=omega) only [dL,dS,dO,dQ])
       exact Ok.ret rfl
      ·omega
     ·unfold iD;dsimp only
      (with_reducible refine Ok.cb (fun hca=>?_) (fun hca=>?_))
      ·omega
      ·exact Ok.ret rfl
    rw[e];dsimp only
    (simp (disch:=omega) only [dL,dS,dO,dQ])
    exact Ok.ret rfl
   ·omega
  ·unfold iC;dsimp only
   (with_reducible refine Ok.cb (fun hca=>?_) (fun hca=>?_))
   ·omega
   ·exact Ok.ret rfl
 refine Ok.eq ?_;unfold kC;delta dI
 try dsimp only
 rw[e0];exact Ok.ret rfl
theorem copy17_ok{d:List (List DCn)}{os:List DOp}(h1:d.length≤1000) (h2:∀x∈d,x.length≤1000) (h3:os.length≤1000):fF d os=some (d,os,()):=by
 have e:dP ie NN (d,(d.length:Int),0,d,os,(),(),[],os,())=some (d,(d.length:Int),(d.length:Int),false,d,os,(),(),d,os,()):=by
  have:=mr (f:=ie) (N:=NN) (st:=fun k=>(d,(d.length:Int),(k:Int),d,os,(),(),d.take k,os,())) (n:=d.length) (t:=(d,(d.length:Int),(d.length:Int),false,d,os,(),(),d,os,())) (by unfold NN;omega) ?_ ?_
  ·exact this
  ·intro k hk;unfold ie;dsimp only
   (with_reducible refine Ok.cb (fun hca=>?_) (fun hca=>?_))
   ·rw[dH];simp only[oBS];refine Ok.get (by omega) fun x hx=>?_;have:=h2 x (dK hx);refine Ok.need (dN (by omega)) (Ok.need (dN (by simp;omega)) ?_)
    (simp (disch:=omega) only [dL,dS,dO,dQ])
    refine Ok.ret ?_;rw[List.take_add_one,hx];rfl
   ·omega
  ·unfold ie;dsimp only
   (with_reducible refine Ok.cb (fun hca=>?_) (fun hca=>?_))
   ·omega
   ·rw[List.take_length];exact Ok.ret rfl
 refine Ok.eq ?_;unfold fF;refine Ok.need (dN (by omega)) ?_;rw[show List.append [] os=os from rfl];delta dI
 try dsimp only
 rw[e];exact Ok.ret rfl
theorem Cv{us:List DOu}(h1:us.length≤1000) (h2:∀x∈us,x.2.2.length≤1000):jl us=some (us,()):=by
 have e:dP ic NN (us,(us.length:Int),0,[],())=some (us,(us.length:Int),(us.length:Int),false,us,()):=by
  have:=mr (f:=ic) (N:=NN) (st:=fun k=>(us,(us.length:Int),(k:Int),us.take k,())) (n:=us.length) (t:=(us,(us.length:Int),(us.length:Int),false,us,())) (by unfold NN;omega) ?_ ?_
  ·exact this
  ·intro k hk;unfold ic;dsimp only
   (with_reducible refine Ok.cb (fun hca=>?_) (fun hca=>?_))
   ·rw[dH];simp only[oBS];refine Ok.get (by omega) fun x hx=>?_;have:=h2 x (dK hx);refine Ok.need (dN (by omega)) (Ok.need (dN (by simp;omega)) ?_)
    (simp (disch:=omega) only [dL,dS,dO,dQ])
    refine Ok.ret ?_;rw[List.take_add_one,hx];rfl
   ·omega
  ·unfold ic;dsimp only
   (with_reducible refine Ok.cb (fun hca=>?_) (fun hca=>?_))
   ·omega
   ·rw[List.take_length];exact Ok.ret rfl
 refine Ok.eq ?_;unfold jl;delta dI
 try dsimp only
 rw[e];exact Ok.ret rfl
theorem Cu{ss ck rn:List Int}{ins:List (List Int)}{d:List (List DCn)}{os:List DOp}{us:List DOu}(h:w9 ss ck rn ins d os us):k8 ck rn ins d os us=some (ck,rn,ins,d,os,us,()):=by
 have h1:=h.clock.1;have h2:=h.rand.1;have h3:=h.ilen;have h4:=h.ulen;have h5:=h.files.olen;have h6:=h.files.dlen;refine Ok.eq ?_;unfold k8;refine Ok.need (dN (by omega)) (Ok.need (dN (by omega)) ?_)
 rw[wC (by omega) (fun x hx=>by have:=(h.inp x hx).1;omega),copy17_ok (by omega) (fun x hx=>by have:=h.files.flen x hx;omega) (by omega),Cv (by omega) (fun x hx=>by
  obtain⟨i,hi⟩:=List.getElem?_of_mem hx;have:=(h.outs i x hi).2.2.2.1
  omega)]
 exact Ok.ret rfl
theorem H6:ri=some ([-1,-1,-1,-1],[[],[],[],[]],()):=by kernel_rfl
structure iA (ow:List Int) (qs:List (List Int)):Prop where
 olen:ow.length=4
 qlen:qs.length=4
 owner:∀o∈ow,-1≤o∧o≤3
 queue:∀q∈qs,q.Nodup∧∀t∈q,0≤t∧t≤3
theorem HX:∀{n:Nat}{q:List Int},q.Nodup→(∀t∈q,0≤t∧t < n)→q.length≤n:=by
 intro n
 induction n with
 | zero=>
  intro q _ h
  cases q with
  | nil=>simp
  | cons x q=>have:=h x (by simp);omega
 | succ n ih=>
  intro q hq h;have h1:(q.erase (n:Int)).Nodup:=hq.erase _
  have h2:∀t∈q.erase (n:Int),0≤t∧t < n:=fun t ht=>by
   have hm:=(hq.mem_erase_iff).1 ht;have:=h t hm.2;have:=hm.1;omega
  have h3:=ih h1 h2;have h4:=List.length_erase (a:=(n:Int)) (l:=q);split at h4<;>omega
theorem iA.qlen4{ow:List Int}{qs:List (List Int)}(h:iA ow qs) {q:List Int}(hq:q∈qs):q.length≤4:=HX (h.queue q hq).1 fun t ht=>by have:=(h.queue q hq).2 t ht;omega
theorem MQ:iA [-1,-1,-1,-1] [[],[],[],[]]:=⟨rfl,rfl,by decide,by decide⟩
theorem Kp{code:List DIn}{ss bs:List Int}{dt:List (List Int)}{key:Int}{ck rn:List Int}{ins:List (List Int)}{d:List (List DCn)}{os:List DOp}{us:List DOu}(hp:km code ss dt) (hl:LV bs ss) (ho:w9 ss ck rn ins d os us) :
 Ok (lA code ss dt bs key ck rn ins d os us) fun r=>∃cs ts,r=(code,ss,dt,bs,key,cs,eL,ts,ck,rn,ins,d,os,us,[-1,-1,-1,-1],[[],[],[],[]],(),[-1,-1,-1,-1],0,())∧MOk 0 ss bs cs eL ts:=by
 unfold lA;refine (Ja hp hl).bind ?_;rintro _ ⟨cs,ts,rfl,hm⟩;dsimp only;rw[sV hp.sz ho,C5 ho.files,Cu ho,H6];simp only[oBS,Bool.not_true,cond_false,bne_self_eq_false]
 have e:dP oT NN (0,(),(),(),(),0,(),(),(),(),(),(),(),(),(),(),(),(),(),code,ss,dt,bs,key,cs,eL,ts,ck,rn,ins,d,os,us,[-1,-1,-1,-1],[[],[],[],[]],(),[],())
  = some (4,false,(),(),(),(),0,(),(),(),(),(),(),(),(),(),(),(),(),(),code,ss,dt,bs,key,cs,eL,ts,ck,rn,ins,d,os,us,[-1,-1,-1,-1],[[],[],[],[]],(),[-1,-1,-1,-1],()):=rfl
 rw[e];exact Ok.ret ⟨cs,ts,rfl,hm⟩
theorem Np.len{K:Int→Prop}{i:Nat}{x:DLn}(h:Np K i x):x.2.2.length≤4:=by
 rcases h with ⟨_,_,h⟩ | ⟨_,_,_,h,_⟩
 ·rw[h];simp
 ·omega
theorem IA{K:Int→Prop}{cs:List DCe}{ls:List DLn}(h:ki K cs ls):mY cs ls=some (cs,ls,()):=by
 obtain⟨h1,h2,h3,h4⟩:=h
 have e:dP is NN (ls,(ls.length:Int),0,cs,ls,(),(),cs,[],())=some (ls,(ls.length:Int),(ls.length:Int),false,cs,ls,(),(),cs,ls,()):=by
  have:=mr (f:=is) (N:=NN) (st:=fun k=>(ls,(ls.length:Int),(k:Int),cs,ls,(),(),cs,ls.take k,())) (n:=ls.length) (t:=(ls,(ls.length:Int),(ls.length:Int),false,cs,ls,(),(),cs,ls,())) (by unfold NN;omega) ?_ ?_
  ·exact this
  ·intro k hk;unfold is;dsimp only
   (with_reducible refine Ok.cb (fun hca=>?_) (fun hca=>?_))
   ·rw[dH];simp only[oBS];refine Ok.get (by omega) fun x hx=>?_;have:=(h4 k x hx).len;refine Ok.need (dN (by omega)) (Ok.need (dN (by simp;omega)) ?_)
    (simp (disch:=omega) only [dL,dS,dO,dQ])
    refine Ok.ret ?_;rw[List.take_add_one,hx];rfl
   ·omega
  ·unfold is;dsimp only
   (with_reducible refine Ok.cb (fun hca=>?_) (fun hca=>?_))
   ·omega
   ·rw[List.take_length];exact Ok.ret rfl
 refine Ok.eq ?_;unfold mY;refine Ok.need (dN (by omega)) ?_;rw[show List.append [] cs=cs from rfl];delta dI
 try dsimp only
 rw[e];exact Ok.ret rfl
theorem pL{n key:Int}{ss bs:List Int}{cs:List DCe}{ls:List DLn}{ts:List DTh}(h:MOk n ss bs cs ls ts):ir bs key cs ls ts=some (bs,key,cs,ls,ts,()):=by
 obtain⟨h1,h2,h3,h4⟩:=h;have hb:=h1.2.1;have hs4:=h1.1.2.1
 have e:dP iq NN (ts,(ts.length:Int),0,bs,key,cs,ls,ts,(),0,(),(),(),bs,key,cs,ls,[],())=some (ts,(ts.length:Int),(ts.length:Int),false,bs,key,cs,ls,ts,(),0,(),(),(),bs,key,cs,ls,ts,()):=by
  have:=mr (f:=iq) (N:=NN) (st:=fun k=>(ts,(ts.length:Int),(k:Int),bs,key,cs,ls,ts,(),0,(),(),(),bs,key,cs,ls,ts.take k,())) (n:=ts.length) (t:=(ts,(ts.length:Int),(ts.length:Int),false,bs,key,cs,ls,ts,(),0,(),(),(),bs,key,cs,ls,ts,())) (by unfold NN;omega) ?_ ?_
  ·exact this
  ·intro k hk;unfold iq;dsimp only
   (with_reducible refine Ok.cb (fun hca=>?_) (fun hca=>?_))
   ·rw[dH];simp only[oBS];refine Ok.get (by omega) fun x hx=>?_;have:=(h4 x (dK hx)).len;refine Ok.need (dN (by omega)) (Ok.need (dN (by simp;omega)) ?_)
    (simp (disch:=omega) only [dL,dS,dO,dQ])
    refine Ok.ret ?_;rw[List.take_add_one,hx];rfl
   ·omega
  ·unfold iq;dsimp only
   (with_reducible refine Ok.cb (fun hca=>?_) (fun hca=>?_))
   ·omega
   ·rw[List.take_length];exact Ok.ret rfl
 refine Ok.eq ?_;unfold ir;refine Ok.need (dN (by omega)) ?_;rw[IA h2,show List.append [] bs=bs from rfl];delta dI;simp only[oBS];rw[e];exact Ok.ret rfl
theorem qx{α:Type}{l:List α}{i:Nat}{f:α→α}{a:α}(h:l[i]?=some a):(List.modify l i f)[i]?=some (f a):=by rw[List.getElem?_modify,h];simp
theorem iJ{α:Type}(l:List α) (i:Nat) (f g:α→α):List.modify (List.modify l i f) i g=List.modify l i fun a=>g (f a):=by
 apply List.ext_getElem?;intro j;simp only[List.getElem?_modify];by_cases h:i=j
 ·simp only[h,if_true];cases l[j]?<;>rfl
 ·simp[h]
theorem MOk.thread{n:Int}{ss bs:List Int}{cs:List DCe}{ls:List DLn}{ts:List DTh}(h:MOk n ss bs cs ls ts) {i:Nat}{t:DTh}{f:DTh→DTh}(ht:ts[i]?=some t) (hf:w7 (RK bs ss) n (f t)):MOk n ss bs cs ls (List.modify ts i f):=by
 refine⟨h.lay,h.mem,by rw[List.length_modify];exact h.tlen,fun x hx=>?_⟩;obtain⟨j,hj⟩:=List.getElem?_of_mem hx;rw[List.getElem?_modify] at hj;by_cases hij:i=j
 ·subst hij;rw[ht] at hj
  have hj:f t=x:=by simpa using hj
  rw[← hj];exact hf
 ·simp only[hij,if_false] at hj
  have:ts[j]?=some x:=by simpa using hj
  exact h.thr x (dK this)
theorem KO{n key:Int}{ss bs:List Int}{cs:List DCe}{ls:List DLn}{ts:List DTh}(h:MOk n ss bs cs ls ts) (i:Int):Ok (me bs key cs ls ts i) fun r=>r.1=true→0≤i∧i < 4∧∀t,ts[i.toNat]?=some t→t.2.2.2.2.1≠-1:=by
 unfold me;delta dI
 try dsimp only
 have:=h.tlen
 (with_reducible refine Ok.cb (fun hca=>?_) (fun hca=>?_))
 ·exact Ok.ret (fun h=>by cases h)
 ·(with_reducible refine Ok.cb (fun hcb=>?_) (fun hcb=>?_))
  ·exact Ok.ret (fun h=>by cases h)
  ·refine Ok.nat (by omega) fun j hj=>?_;refine Ok.get (by omega) fun t ht=>?_;subst hj
   (with_reducible refine Ok.cb (fun hcc=>?_) (fun hcc=>?_))
   ·(with_reducible refine Ok.cb (fun hcd=>?_) (fun hcd=>?_))
    ·exact Ok.ret (fun _=>⟨by omega,by omega,fun t' ht'=>by
      rw[Int.toNat_natCast,ht] at ht'
      injection ht' with ht'
      rw[← ht']
      exact hcd⟩)
    ·exact Ok.ret (fun h=>by cases h)
   ·exact Ok.ret (fun h=>by cases h)
theorem F9{n key:Int}{ss bs:List Int}{cs:List DCe}{ls:List DLn}{ts:List DTh}(h:MOk n ss bs cs ls ts) (i:Int):Ok (jI bs key cs ls ts i) fun r=>∃ts' b,r=(bs,key,cs,ls,ts',b,())∧MOk n ss bs cs ls ts':=by
 unfold jI;rw[pL h];simp only[oBS];refine (KO h i).bind ?_;rintro⟨b,_⟩ hb;dsimp only at hb ⊢
 (with_reducible refine Ok.cb (fun hca=>?_) (fun hca=>?_))
 ·exact Ok.ret ⟨ts,false,rfl,h⟩
 ·have hb:=hb hca;have htl:=h.tlen;obtain⟨hb1,hb2,hb3⟩:=hb;refine Ok.nat hb1 fun j hj=>?_;subst hj;refine Ok.get (by omega) fun t ht=>?_;refine Ok.get (by omega) fun t1 ht1=>?_;refine Ok.get (by omega) fun t2 ht2=>?_;refine Ok.get (by omega) fun t3 ht3=>?_;rw[ht] at ht1 ht2 ht3
  injection ht1 with ht1
  injection ht2 with ht2
  subst ht1 ht2;refine Ok.get (by rw[List.length_modify];omega) fun t4 ht4=>?_;have hne:=hb3 t (by rw[Int.toNat_natCast];exact ht);have hok:=h.thr t (dK ht);rw[iJ];exact Ok.ret ⟨_,_,rfl,h.thread ht ⟨hok.state,hok.len,hok.regs,⟨by have:=hok.handler;dsimp only;omega,hok.handler.2⟩,hok.count,hok.handler,⟨by have:=hok.pc;dsimp only;omega,hok.pc.2⟩,hok.trap,hok.code⟩⟩
theorem K0{n why:Int}{ts:List DTh}{i:Nat}{t:DTh}(ht:ts[i]?=some t):eU i why ts=some (2,List.modify ts i fun t=>(4,t.2.1,t.2.2.1,t.2.2.2.1,t.2.2.2.2.1,t.2.2.2.2.2.1,why,0),()):=by
 refine Ok.eq ?_;have hl:=(oGS ht).1;unfold eU;refine Ok.get hl fun _ _=>?_;refine Ok.get (by rw[List.length_modify];exact hl) fun _ _=>?_;refine Ok.get (by rw[List.length_modify,List.length_modify];exact hl) fun _ _=>?_;rw[iJ,iJ];exact Ok.ret rfl
theorem w7.ended{K:Int→Prop}{n why:Int}{t:DTh}(h:w7 K n t) (hw:0≤why∧why≤6):w7 K n (4,t.2.1,t.2.2.1,t.2.2.2.1,t.2.2.2.2.1,t.2.2.2.2.2.1,why,0):=
 ⟨⟨by dsimp only;omega,by dsimp only;omega⟩,h.len,h.regs,h.pc,h.count,h.handler,h.saved,hw,⟨by dsimp only;omega,by dsimp only;omega⟩⟩
theorem tk{ss bs:List Int}{key a:Int}(h:LV bs ss) (ha:0≤a∧a≤65535):Ok (eQ bs key ss a) fun r=>(r.2.2.1=true→∃b n,0≤r.1∧bs[r.1.toNat]?=some b∧ss[r.1.toNat]?=some n∧0≤r.2.1∧r.2.1 < n∧a=b+r.2.1):=by
 obtain⟨hs,hl,hr⟩:=h;have hs4:=hs.2.1;unfold eQ;delta dI
 try dsimp only
 obtain⟨t,e,ht⟩:=Ok.iter (f:=eu) (n:=NN) (s:=(ss,a,bs,(bs.length:Int),0,bs,key,0,0,())) (P:=fun s'=>∃k:Nat,s'=(ss,a,bs,(bs.length:Int),(k:Int),bs,key,0,0,())∧k≤bs.length)
  (R:=fun r=>(∃x y,r=.inl (true,x,y,())∧∃b n,0≤x∧bs[x.toNat]?=some b∧ss[x.toNat]?=some n∧0≤y∧y < n∧a=b+y)∨∃z,r=.inr z) (m:=fun s'=>(s'.2.2.2.1 - s'.2.2.2.2.1).toNat) ⟨0,rfl,by omega⟩ (by unfold NN;dsimp only;omega) (by
   rintro _ ⟨k,rfl,hk⟩;unfold eu;dsimp only
   (with_reducible refine Ok.cb (fun hca=>?_) (fun hca=>?_))
   ·rw[dH];simp only[oBS];obtain⟨b,hb⟩:∃b,bs[k]?=some b:=⟨_,oGE (by omega)⟩;obtain⟨y,hy⟩:∃y,ss[k]?=some y:=⟨_,oGE (by omega)⟩;have hy2:=hs.2.2 y (dK hy);have hrk:=hr k (by omega);unfold uT at hrk;rw[ej hb,ej hy] at hrk;rw[show dF bs k=some b from hb];simp only[oBS];rw[show dF ss k=some y from hy];simp only[oBS];rw[dL (x:=b+y) (by omega) (by omega)];by_cases h1:a≥b
    ·by_cases h2:a < b+y
     ·simp only[h1,h2,decide_true,cond_true];rw[dL (x:=a - b) (by omega) (by omega)];exact Ok.ret (.inl ⟨_,_,rfl,b,y,by omega,by rw[Int.toNat_natCast];exact hb,by rw[Int.toNat_natCast];exact hy,by omega,by omega,by omega⟩)
     ·simp only[h1,h2,decide_true,decide_false,cond_true,cond_false]
      (simp (disch:=omega) only [dL,dS,dO,dQ])
      exact Ok.ret ⟨⟨k+1,rfl,by omega⟩,by dsimp only;omega⟩
    ·simp only[h1,decide_false,cond_false]
     (simp (disch:=omega) only [dL,dS,dO,dQ])
     exact Ok.ret ⟨⟨k+1,rfl,by omega⟩,by dsimp only;omega⟩
   ·exact Ok.ret (.inr ⟨_,rfl⟩))
 rw[e];rcases ht with ⟨x,y,rfl,hxy⟩ | ⟨z,rfl⟩
 ·exact Ok.ret fun _=>hxy
 ·exact Ok.ret fun h=>by cases h
theorem yy{ss:List Int}{r o:Int}:Ok (fe ss r o) fun x=>x.1=true→0≤r∧0≤o∧∃n,ss[r.toNat]?=some n∧o < n:=by
 unfold fe;delta dI
 try dsimp only
 (with_reducible refine Ok.cb (fun hca=>?_) (fun hca=>?_))
 ·(with_reducible refine Ok.cb (fun hcb=>?_) (fun hcb=>?_))
  ·(with_reducible refine Ok.cb (fun hcc=>?_) (fun hcc=>?_))
   ·refine Ok.nat (by omega) fun j hj=>?_;refine Ok.get (by omega) fun n hn=>?_;subst hj;exact Ok.ret fun h=>⟨by omega,by omega,n,by rw[Int.toNat_natCast];exact hn,of_decide_eq_true h⟩
   ·exact Ok.ret fun h=>by cases h
  ·exact Ok.ret fun h=>by cases h
 ·exact Ok.ret fun h=>by cases h
theorem vF{ss bs:List Int}{key tag v n:Int}{back:Bool}(h:LV bs ss) (hv:W16 v) (hn:W16 n):Ok (fi bs key ss tag v n back) fun r=>∃t x e,r=(t,x,e,())∧mJ (RK bs ss) (t,x)∧0≤e∧e≤6∧(e=0→x < 512):=by
 have hz:∀e:Int,0 < e→e≤6→∃t x e',((0:Int),(0:Int),e,())=(t,x,e',())∧mJ (RK bs ss) (t,x)∧0≤e'∧e'≤6∧(e'=0→x < 512):=fun e h1 h2=>⟨0,0,e,rfl,lk (by decide),by omega,h2,by omega⟩;obtain⟨v0,v1⟩:=hv;obtain⟨n0,n1⟩:=hn;unfold fi
 (with_reducible refine Ok.cb (fun hca=>?_) (fun hca=>?_))
 ·exact Ok.ret (hz 3 (by decide) (by decide))
 ·rw[dO (x:=v) (by omega) (by omega),dO (x:=n) (by omega) (by omega)];refine (tk h ⟨v0,v1⟩).bind ?_;rintro⟨r,o,ok,_⟩ hres;dsimp only at hres ⊢
  (with_reducible refine Ok.cb (fun hcb=>?_) (fun hcb=>?_))
  ·exact Ok.ret (hz 4 (by decide) (by decide))
  ·obtain⟨b,z,hr0,hb,hzz,ho0,ho1,_⟩:=hres hcb;have hz2:=h.1.2.2 z (dK hzz);refine Ok.bind (P:=fun x=>∃o',x=(ss,bs,key,0,0,r,o',())∧-70000≤o'∧o'≤70000) ?_ ?_
   ·refine Ok.cond (fun _=>?_) fun _=>?_
    ·(simp (disch:=omega) only [dL,dS,dO,dQ])
     exact Ok.ret ⟨_,rfl,by omega,by omega⟩
    ·(simp (disch:=omega) only [dL,dS,dO,dQ])
     exact Ok.ret ⟨_,rfl,by omega,by omega⟩
   rintro _ ⟨o',rfl,ho2,ho3⟩;dsimp only;refine yy.bind ?_;rintro⟨q,_⟩ hin;dsimp only at hin ⊢
   (with_reducible refine Ok.cb (fun hcc=>?_) (fun hcc=>?_))
   ·exact Ok.ret (hz 4 (by decide) (by decide))
   ·obtain⟨_,g1,m,g2,g3⟩:=hin hcc;have hm2:=h.1.2.2 m (dK g2);refine Ok.nat hr0 fun j hj=>?_;subst hj;rw[Int.toNat_natCast] at hb g2;have hjl:=(oGS hb).1;have hrj:=h.2.2 j hjl;unfold uT at hrj;rw[ej hb,ej g2] at hrj;rw[show dF bs j=some b from hb];simp only[oBS];rw[dL (x:=b+o') (by omega) (by omega),dS (x:=b+o') (by omega) (by omega)];exact Ok.ret ⟨_,_,_,rfl,⟨by dsimp only;omega,by dsimp only;omega,by dsimp only;omega,by dsimp only;omega,fun _=>⟨j,b,m,hb,g2,by dsimp only;omega,by dsimp only;omega⟩⟩,by decide,by decide,fun _=>by omega⟩
theorem ki.line{K:Int→Prop}{cs:List DCe}{ls:List DLn}(h:ki K cs ls) {i:Nat}{x:DLn}{f:DLn→DLn}(hx:ls[i]?=some x) (hf:Np K i (f x)):ki K cs (List.modify ls i f):=by
 refine⟨h.clen,h.cells,by rw[List.length_modify];exact h.llen,fun j y hy=>?_⟩;rw[List.getElem?_modify] at hy;by_cases hij:i=j
 ·subst hij;rw[hx] at hy
  have hy:f x=y:=by simpa using hy
  rw[← hy];exact hf
 ·simp only[hij,if_false] at hy;exact h.lines j y (by simpa using hy)
theorem GJ{K:Int→Prop}{cs xs:List DCe}{lo n:Nat}(h1:cs.length=512) (h2:lo+n≤512) (h3:n≤xs.length) (hc:∀c∈cs,mJ K c) (hx:∀c∈xs,mJ K c):(s6 cs lo n xs).length=512∧∀c∈s6 cs lo n xs,mJ K c:=by
 unfold s6;refine⟨?_,fun c hh=>?_⟩
 ·simp only[List.length_append,List.length_take,List.length_drop];omega
 ·simp only[List.mem_append] at hh;rcases hh with (hh | hh) | hh
  ·exact hc c (List.mem_of_mem_take hh)
  ·exact hx c (List.mem_of_mem_take hh)
  ·exact hc c (List.mem_of_mem_drop hh)
theorem EO{K:Int→Prop}{cs:List DCe}{ls:List DLn}{a:Int}(h:ki K cs ls) (ha:0≤a∧a < 512):Ok (jR a cs ls) fun r=>∃i cs' ls' x,r=(i,cs',ls',())∧ki K cs' ls'∧ls'[i]?=some x∧x.1=a / 4∧x.2.2.length=4:=by
 obtain⟨a0,a1⟩:=ha;obtain⟨h1,h2,h3,h4⟩:=id h;unfold jR;rw[Int.tdiv_eq_ediv_of_nonneg a0,dL (x:=a / 4) (by omega) (by omega)];dsimp only;rw[Int.tmod_eq_emod_of_nonneg (show 0≤a / 4 by omega)];refine Ok.nat (by omega) fun i hi=>?_
 have hil:i < ls.length:=by omega
 obtain⟨x,hx⟩:∃x,ls[i]?=some x:=⟨_,oGE hil⟩;have hg:dF ls i=some x:=hx;have hL:=h4 i x hx;simp only[hg,oBS]
 (with_reducible refine Ok.cb (fun hca=>?_) (fun hca=>?_))
 ·refine Ok.ret ⟨i,cs,ls,x,rfl,h,hx,hca,?_⟩;rcases hL with ⟨g1,_,_⟩ | ⟨_,_,_,g,_⟩
  ·omega
  ·exact g
 ·refine Ok.bind (P:=fun r=>∃cs',r=(a / 4,i,cs',ls,())∧cs'.length=512∧∀c∈cs',mJ K c) ?_ ?_
  ·refine Ok.cond (fun hd=>?_) fun _=>Ok.ret ⟨cs,rfl,h1,h2⟩;rcases hL with ⟨_,g,_⟩ | ⟨g1,g2,g3,g4,g5⟩
   ·rw[g] at hd;cases hd
   ·rw[dL (x:=x.1*4) (by omega) (by omega)];refine Ok.nat (by omega) fun q hq=>?_;refine Ok.need (by unfold jU;simp;omega) ?_
    try simp only[hg,oBS]
    rw[g4,h1]
    have hmin:Nat.min 4 (Nat.sub 512 q)=4:=by
     show min 4 (512 - q)=4;omega
    rw[hmin];refine Ok.need (by unfold jU;simp;omega) ?_;refine Ok.need rfl ?_;obtain⟨s1,s2⟩:=GJ (lo:=q) (n:=4) h1 (by omega) (by omega) h2 g5;exact Ok.ret ⟨_,rfl,s1,s2⟩
  rintro _ ⟨cs',rfl,c1,c2⟩;dsimp only;rw[dL (x:=a / 4*4) (by omega) (by omega),dL (x:=a / 4+1) (by omega) (by omega),dL (x:=(a / 4+1)*4) (by omega) (by omega)];simp only[hg,oBS];refine Ok.get (by rw[List.length_modify];exact hil) fun _ _=>?_;refine Ok.nat (by omega) fun q hq=>?_;refine Ok.nat (by omega) fun q2 hq2=>?_;refine Ok.need (by unfold jU;simp;omega) ?_
  have hw:(mN cs' q (Nat.sub q2 q)).length=4:=by
   unfold mN;rw[List.length_take,List.length_drop];show min (q2 - q) _=4;omega
  refine Ok.need (dN (by omega)) ?_;refine Ok.get (by rw[List.length_modify,List.length_modify];exact hil) fun _ _=>?_;rw[iJ,iJ,show List.append [] (mN cs' q (Nat.sub q2 q))=mN cs' q (Nat.sub q2 q) from rfl];have hmem:ki K cs' ls:=⟨c1,c2,h3,h4⟩;refine Ok.ret ⟨i,cs',_,_,rfl,hmem.line hx (.inr ⟨by dsimp only;omega,by dsimp only;omega,by dsimp only;omega,hw,fun c hc=>c2 c ?_⟩),qx hx,rfl,hw⟩;dsimp only at hc;unfold mN at hc;exact List.mem_of_mem_drop (List.mem_of_mem_take hc)
theorem H8{K:Int→Prop}{cs:List DCe}{ls:List DLn}{a:Int}(h:ki K cs ls) (ha:0≤a∧a < 512):Ok (ld a cs ls) fun r=>∃t v cs' ls',r=(t,v,cs',ls',())∧mJ K (t,v)∧ki K cs' ls':=by
 unfold ld;refine (EO h ha).bind ?_;rintro _ ⟨i,cs',ls',x,rfl,hm,hx,hx1,hx2⟩;dsimp only;have hg:dF ls' i=some x:=hx;simp only[hg,oBS];rw[Int.tmod_eq_emod_of_nonneg ha.1];refine Ok.nat (by omega) fun j hj=>?_;refine Ok.get (by omega) fun _ _=>?_;refine Ok.get (by omega) fun c hc=>?_
 have hc2:mJ K c:=by
  rcases hm.lines i x hx with ⟨_,_,g⟩ | ⟨_,_,_,_,g⟩
  ·rw[g] at hx2;cases hx2
  ·exact g c (dK hc)
 exact Ok.ret ⟨_,_,_,_,rfl,hc2,hm⟩
theorem yj{K:Int→Prop}{cs:List DCe}{ls:List DLn}{a t v:Int}(h:ki K cs ls) (ha:0≤a∧a < 512) (hc:mJ K (t,v)):Ok (iH a t v cs ls) fun r=>∃cs' ls',r=(cs',ls',())∧ki K cs' ls':=by
 unfold iH;refine (EO h ha).bind ?_;rintro _ ⟨i,cs',ls',x,rfl,hm,hx,hx1,hx2⟩;dsimp only;have hg:dF ls' i=some x:=hx;have hil:=(oGS hx).1;simp only[hg,oBS];rw[Int.tmod_eq_emod_of_nonneg ha.1];refine Ok.nat (by omega) fun j hj=>?_;refine Ok.get (by omega) fun _ _=>?_;refine Ok.get (by omega) fun _ _=>?_;refine Ok.get (by rw[List.length_modify];exact hil) fun _ _=>?_;rw[iJ];refine Ok.ret ⟨_,_,rfl,hm.line hx ?_⟩;rcases hm.lines i x hx with ⟨_,_,g⟩ | ⟨g1,g2,g3,g4,g5⟩
 ·rw[g] at hx2;cases hx2
 ·exact .inr ⟨g1,g2,g3,by dsimp only;rw[List.length_modify];exact g4,iK g5 fun _ _=>hc⟩
theorem nU(x:Int):W16 (wk .u16 x):=by
 unfold wk;rw[yL];exact⟨by omega,by omega⟩
theorem Ks{ss bs:List Int}{key t v t' v':Int}(h:LV bs ss) (hv:W16 v) (hv':W16 v'):Ok (jP bs key ss t v t' v') fun _=>True:=by
 obtain⟨v0,v1⟩:=hv;obtain⟨u0,u1⟩:=hv';unfold jP;rw[dO (x:=v) (by omega) (by omega),dO (x:=v') (by omega) (by omega)];refine (tk h ⟨v0,v1⟩).bind ?_;rintro⟨r,o,ok,_⟩ _;dsimp only;refine (tk h ⟨u0,u1⟩).bind ?_;rintro⟨r',o',ok',_⟩ _;dsimp only;cases ok<;>cases ok'<;>exact Ok.ret trivial
theorem DN(b:Bool):jp b=some (0,(bif b then 1 else 0),()):=by cases b<;>rfl
theorem MM{op b c:Int}(hb:W16 b) (hc:W16 c):Ok (jO op b c) fun r=>∃v e,r=(0,v,e,())∧W16 v∧0≤e∧e≤6:=by
 obtain⟨b0,b1⟩:=hb;obtain⟨c0,c1⟩:=hc;have fin:∀x:Int,W16 x→Ok (some ((0:Int),x,(0:Int),())) fun r=>∃v e,r=(0,v,e,())∧W16 v∧0≤e∧e≤6:=fun x h=>Ok.ret ⟨x,0,rfl,h,by decide,by decide⟩;have z5:Ok (some ((0:Int),(0:Int),(5:Int),())) fun r=>∃v e,r=(0,v,e,())∧W16 v∧0≤e∧e≤6:=Ok.ret ⟨0,5,rfl,⟨by decide,by decide⟩,by decide,by decide⟩;have hw:∀x:Int,W16 (IntKind.wrap .u16 x):=nU;unfold jO
 (with_reducible refine Ok.cb (fun hca=>?_) (fun hca=>?_))
 ·exact fin _ (nU _)
 (with_reducible refine Ok.cb (fun hcb=>?_) (fun hcb=>?_))
 ·exact fin _ (nU _)
 (with_reducible refine Ok.cb (fun hcc=>?_) (fun hcc=>?_))
 ·exact fin _ (nU _)
 have hq:∀X:Option (Int×Int×Int×Unit),c≠0→(X=(bif (op==6) then (bif (c != 0) then some ((0:Int),wk .u16 (Int.tdiv b c),(0:Int),()) else none) else bif (c != 0) then some ((0:Int),Int.tmod b c,(0:Int),()) else none))→Ok X fun r=>∃v e,r=(0,v,e,())∧W16 v∧0≤e∧e≤6:=by
  rintro _ hne rfl;refine Ok.cond (fun _=>Ok.need (by rw[bne_iff_ne];exact hne) (fin _ (nU _))) fun _=>Ok.need (by rw[bne_iff_ne];exact hne) (fin _ ?_);rw[Int.tmod_eq_emod_of_nonneg b0];have h1:=Int.emod_nonneg b hne;have h2:=Int.emod_lt_of_pos b (show 0 < c by omega);exact⟨h1,by omega⟩
 (with_reducible refine Ok.cb (fun hcd=>?_) (fun hcd=>?_))
 ·(with_reducible refine Ok.cb (fun hce=>?_) (fun hce=>?_))
  ·exact z5
  ·exact hq _ hce rfl
 (with_reducible refine Ok.cb (fun hcd=>?_) (fun hcd=>?_))
 ·(with_reducible refine Ok.cb (fun hce=>?_) (fun hce=>?_))
  ·exact z5
  ·exact hq _ hce rfl
 (with_reducible refine Ok.cb (fun hcf=>?_) (fun hcf=>?_))
 ·exact fin _ (hw _)
 (with_reducible refine Ok.cb (fun hcf=>?_) (fun hcf=>?_))
 ·exact fin _ (hw _)
 (with_reducible refine Ok.cb (fun hcf=>?_) (fun hcf=>?_))
 ·exact fin _ (hw _)
 (with_reducible refine Ok.cb (fun hcf=>?_) (fun hcf=>?_))
 ·rw[Int.tmod_eq_emod_of_nonneg c0];refine Ok.nat (by omega) fun j hj=>?_;exact fin _ (hw _)
 (with_reducible refine Ok.cb (fun hcf=>?_) (fun hcf=>?_))
 ·rw[Int.tmod_eq_emod_of_nonneg c0];refine Ok.nat (by omega) fun j hj=>fin _ ?_;show W16 (Int.fdiv b (2 ^ (min j 16)));have hp:(0:Int) < 2 ^ (min j 16):=Int.pow_pos (by decide);rw[Int.fdiv_eq_ediv_of_nonneg _ (by omega)];exact⟨Int.ediv_nonneg b0 (by omega),by have:=Int.ediv_le_self (2 ^ (min j 16)) b0;omega⟩
 rw[DN];refine fin _ ?_;cases decide (b < c)
 ·exact⟨by decide,by decide⟩
 ·exact⟨by decide,by decide⟩
def KV(K:Int→Prop) (r:Int×Int×Int×Unit):Prop:=∃t v e,r=(t,v,e,())∧mJ K (t,v)∧0≤e∧e≤6
theorem pK{K:Int→Prop}{t v e:Int}(h:mJ K (t,v)) (h0:0≤e) (h1:e≤6):Ok (some (t,v,e,())) (KV K):=Ok.ret ⟨t,v,e,rfl,h,h0,h1⟩
theorem u3{K:Int→Prop}{v:Int}(h:W16 v):mJ K (0,v):=lk h
theorem Cn{K:Int→Prop}(b:Bool):mJ K (0,bif b then 1 else 0):=u3 (by cases b<;>exact⟨by decide,by decide⟩)
theorem rI{K:Int→Prop}:mJ K (0,0):=u3 ⟨by decide,by decide⟩
theorem NB{ss bs:List Int}{key op t v t' v':Int}(h:LV bs ss) (hb:mJ (RK bs ss) (t,v)) (hc:mJ (RK bs ss) (t',v')):Ok (qn bs key ss op t v t' v') (KV (RK bs ss)):=by
 obtain⟨t0,t2,v0,v1,_⟩:=hb;obtain⟨u0,u2,w0,w1,_⟩:=hc;dsimp only at t0 t2 v0 v1 u0 u2 w0 w1;obtain⟨_,eN,n1,n2,rfl,hn1,hn2,hn3⟩:=MM (op:=op) (b:=v) (c:=v') ⟨v0,v1⟩ ⟨w0,w1⟩;obtain⟨_,eA,a1,a2,a3,rfl,ha1,ha2,ha3,_⟩:=vF (key:=key) (tag:=t) (back:=false) h (v:=v) (n:=v') ⟨v0,v1⟩ ⟨w0,w1⟩;obtain⟨_,eB,b1,b2,b3,rfl,hb1,hb2,hb3,_⟩:=vF (key:=key) (tag:=t') (back:=false) h (v:=v') (n:=v) ⟨w0,w1⟩ ⟨v0,v1⟩;obtain⟨_,eC,c1,c2,c3,rfl,hc1,hc2,hc3,_⟩:=vF (key:=key) (tag:=t) (back:=true) h (v:=v) (n:=v') ⟨v0,v1⟩ ⟨w0,w1⟩;obtain⟨⟨p1,p2,p3,p4,ok,_⟩,eP,_⟩:=Ks (key:=key) (t:=t) (t':=t') h (v:=v) (v':=v') ⟨v0,v1⟩ ⟨w0,w1⟩;unfold qn
 (with_reducible refine Ok.cb (fun hca=>?_) (fun hca=>?_))
 ·exact pK rI (by decide) (by decide)
 (with_reducible refine Ok.cb (fun hcb=>?_) (fun hcb=>?_))
 ·exact pK rI (by decide) (by decide)
 cases h14:(op==14) with
 | true=>
  simp only[cond_true,DN,oBS];exact pK (Cn _) (by decide) (by decide)
 | false=>
  simp only[cond_false,eN,eA,eB,eC,eP,oBS]
  rcases (show t=0∨t=1∨t=2 by omega) with rfl | rfl | rfl<;>rcases (show t'=0∨t'=1∨t'=2 by omega) with rfl | rfl | rfl
  all_goals
   cases h3:(op==3)<;>cases h4:(op==4)<;>cases h13:(op==13)<;>simp only[Int.reduceBEq,cond_true,cond_false,oBS,h3,h4,h13,DN,eN,eA,eB,eC,eP,BEq.rfl]
  all_goals first
   | exact pK (u3 hn1) hn2 hn3
   | exact pK ha1 ha2 ha3
   | exact pK hb1 hb2 hb3
   | exact pK hc1 hc2 hc3
   | exact pK rI (by decide) (by decide)
   | (cases ok<;>first
    | exact pK rI (by decide) (by decide)
    | exact pK (Cn _) (by decide) (by decide)
    | exact pK (u3 (nU _)) (by decide) (by decide))
theorem IG{l:List Int}{k:Int}(h:DOk l k):Ok (lQ l k) fun r=>∃t b s k',r=(t,b,s,l,k',())∧0≤t∧t < 4∧0≤b∧b≤63∧DOk l k':=by
 unfold lQ
 (with_reducible refine fb (by assumption) (by omega) (by omega) (fun v0 k0 a0 b0 d0=>?_);try dsimp only)
 (with_reducible refine fb (by assumption) (by omega) (by omega) (fun v1 k1 a1 b1 d1=>?_);try dsimp only)
 (with_reducible refine Ok.nat (by omega) (fun j1 hj1=>?_);try dsimp only)
 have hm:∀x∈[(0:Int),1,2,3,7,63],0≤x∧x≤63:=all_cons (by omega) (all_cons (by omega) (all_cons (by omega) (all_cons (by omega) (all_cons (by omega) (all_cons (by omega) dX)))));refine Ok.get (by simp only[List.length_cons,List.length_nil];omega) fun x hx=>?_;refine Ok.get (by simp only[List.length_cons,List.length_nil];omega) fun y hy=>?_;have hy2:=hm y (dK hy)
 (with_reducible refine fb (by assumption) (by omega) (by omega) (fun v2 k2 a2 b2 d2=>?_);try dsimp only)
 exact Ok.ret ⟨_,_,_,_,rfl,a0,b0,hy2.1,hy2.2,d2⟩
def fv:List DTh→Int→List Int
 | [],_=>[]
 | t :: ts,i=>if t.1=1 then i :: fv ts (i+1) else fv ts (i+1)
theorem rR(a b:List DTh) (i:Int):fv (a++b) i=fv a i++fv b (i+a.length):=by
 induction a generalizing i with
 | nil=>simp[fv]
 | cons t a ih=>
  simp only[List.cons_append,fv,ih,List.length_cons];rw[show i+1+(a.length:Int)=i+((a.length+1:Nat):Int) by omega];split<;>rfl
theorem nL(a:List DTh) (i:Int):(fv a i).length≤a.length:=by
 induction a generalizing i with
 | nil=>simp[fv]
 | cons t a ih=>
  simp only[fv];have:=ih (i+1);split<;>simp only[List.length_cons]<;>omega
theorem Fw{a:List DTh}{i x:Int}(h:x∈fv a i):i≤x∧x < i+a.length∧∃t,a[(x - i).toNat]?=some t∧t.1=1:=by
 induction a generalizing i with
 | nil=>simp[fv] at h
 | cons t a ih=>
  simp only[fv] at h
  have key:x∈fv a (i+1)→i≤x∧x < i+((t :: a).length:Int)∧∃t',(t :: a)[(x - i).toNat]?=some t'∧t'.1=1:=by
   intro h;obtain⟨h1,h2,t',h3,h4⟩:=ih h;refine⟨by omega,by simp only[List.length_cons];omega,t',?_,h4⟩;rw[show (x - i).toNat=(x - (i+1)).toNat+1 by omega,List.getElem?_cons_succ];exact h3
  split at h
  ·rename_i ht;rcases List.mem_cons.1 h with rfl | h
   ·exact⟨by omega,by simp only[List.length_cons];omega,t,by simp,ht⟩
   ·exact key h
  ·exact key h
theorem JF{ts:List DTh}(h:ts.length≤1000):gI ts=some (fv ts 0,()):=by
 have e:dP gW NN (ts,(ts.length:Int),0,[],())=some (ts,(ts.length:Int),(ts.length:Int),false,fv ts 0,()):=by
  have:=mr (f:=gW) (N:=NN) (st:=fun k=>(ts,(ts.length:Int),(k:Int),fv (ts.take k) 0,())) (n:=ts.length) (t:=(ts,(ts.length:Int),(ts.length:Int),false,fv ts 0,())) (by unfold NN;omega) ?_ ?_
  ·exact this
  ·intro k hk;unfold gW;dsimp only
   (with_reducible refine Ok.cb (fun hca=>?_) (fun hca=>?_))
   ·rw[dH];simp only[oBS];obtain⟨x,hx⟩:∃x,ts[k]?=some x:=⟨_,oGE hk⟩;rw[show dF ts k=some x from hx];simp only[oBS];have hlen:=nL (ts.take k) 0;rw[List.length_take] at hlen
    have hnext:fv (ts.take (k+1)) 0=fv (ts.take k) 0++(if x.1=1 then [(k:Int)] else []):=by
     rw[List.take_add_one,hx,rR];congr 1;rw[List.length_take,show 0+((min k ts.length:Nat):Int)=(k:Int) by omega];simp only[Option.toList,fv]
    refine Ok.bind (P:=(·=(ts,(ts.length:Int),(k:Int),fv (ts.take (k+1)) 0,()))) ?_ ?_
    ·(with_reducible refine Ok.cb (fun hcb=>?_) (fun hcb=>?_))
     ·refine Ok.need (dN (by simp;omega)) ?_;rw[hnext,if_pos hcb];exact Ok.ret rfl
     ·rw[hnext,if_neg hcb,List.append_nil];exact Ok.ret rfl
    ·rintro _ rfl;dsimp only
     (simp (disch:=omega) only [dL,dS,dO,dQ])
     exact Ok.ret rfl
   ·omega
  ·unfold gW;dsimp only
   (with_reducible refine Ok.cb (fun hca=>?_) (fun hca=>?_))
   ·omega
   ·rw[List.take_length];exact Ok.ret rfl
 refine Ok.eq ?_;unfold gI;delta dI
 try dsimp only
 rw[e];exact Ok.ret rfl
theorem wD{ow:List Int}{qs:List (List Int)}(h:iA ow qs):jn ow qs=some (ow,qs,()):=by
 have hq4:∀q∈qs,q.length≤4:=fun q hq=>h.qlen4 hq;obtain⟨h1,h2,h3,h4⟩:=h
 have e:dP ig NN (qs,(qs.length:Int),0,ow,qs,(),(),ow,[],())=some (qs,(qs.length:Int),(qs.length:Int),false,ow,qs,(),(),ow,qs,()):=by
  have:=mr (f:=ig) (N:=NN) (st:=fun k=>(qs,(qs.length:Int),(k:Int),ow,qs,(),(),ow,qs.take k,())) (n:=qs.length) (t:=(qs,(qs.length:Int),(qs.length:Int),false,ow,qs,(),(),ow,qs,())) (by unfold NN;omega) ?_ ?_
  ·exact this
  ·intro k hk;unfold ig;dsimp only
   (with_reducible refine Ok.cb (fun hca=>?_) (fun hca=>?_))
   ·rw[dH];simp only[oBS];refine Ok.get (by omega) fun x hx=>?_;have:=hq4 x (dK hx);refine Ok.need (dN (by omega)) (Ok.need (dN (by simp;omega)) ?_)
    (simp (disch:=omega) only [dL,dS,dO,dQ])
    refine Ok.ret ?_;rw[List.take_add_one,hx];rfl
   ·omega
  ·unfold ig;dsimp only
   (with_reducible refine Ok.cb (fun hca=>?_) (fun hca=>?_))
   ·omega
   ·rw[List.take_length];exact Ok.ret rfl
 refine Ok.eq ?_;unfold jn;refine Ok.need (dN (by omega)) ?_;rw[show List.append [] ow=ow from rfl];delta dI
 try dsimp only
 rw[e];exact Ok.ret rfl
theorem DJ{ow:List Int}{qs:List (List Int)}{lock t:Int}(h:iA ow qs):Ok (jm ow qs lock t) fun r=>∃ow' qs' n b,r=(ow',qs',n,b,())∧iA ow' qs'∧-1≤n∧n≤3:=by
 unfold jm;rw[wD h];simp only[oBS];obtain⟨h1,h2,h3,h4⟩:=id h;refine Ok.bind (P:=fun r=>∃b,r=(lock,b,(),(),ow,qs,())∧(b=false→0≤lock∧lock < 4)) ?_ ?_
 ·(with_reducible refine Ok.cb (fun hca=>?_) (fun hca=>?_))
  ·exact Ok.ret ⟨true,rfl,fun h=>by cases h⟩
  ·(with_reducible refine Ok.cb (fun hcb=>?_) (fun hcb=>?_))
   ·exact Ok.ret ⟨true,rfl,fun h=>by cases h⟩
   ·refine Ok.nat (by omega) fun j hj=>?_;refine Ok.get (by omega) fun x hx=>?_;exact Ok.ret ⟨_,rfl,fun _=>⟨by omega,by omega⟩⟩
 rintro _ ⟨b,rfl,hb⟩;dsimp only;refine Ok.cond (fun _=>Ok.ret ⟨_,_,_,_,rfl,h,by omega,by omega⟩) fun hbf=>?_;obtain⟨l0,l1⟩:=hb hbf;obtain⟨j,rfl⟩:∃j:Nat,lock=j:=⟨lock.toNat,by omega⟩;obtain⟨o,ho⟩:∃o,ow[j]?=some o:=⟨_,oGE (by omega)⟩;obtain⟨q,hq⟩:∃q,qs[j]?=some q:=⟨_,oGE (by omega)⟩;have go:dF ow j=some o:=ho;have gq:dF qs j=some q:=hq;have gm:∀f:Int→Int,dF (List.modify ow j f) j=some (f o):=fun f=>qx ho;have gm2:∀f g:Int→Int,dF (List.modify (List.modify ow j f) j g) j=some (g (f o)):=fun f g=>qx (qx ho);delta dI;simp only[dH,oBS,go,gq,gm,gm2];have hl1:iA (List.modify ow j fun _=>-1) qs:=⟨by rw[List.length_modify];exact h1,h2,iK h3 fun _ _=>⟨by omega,by omega⟩,h4⟩
 (with_reducible refine Ok.cb (fun hcc=>?_) (fun hcc=>?_))
 ·obtain⟨x,hx⟩:∃x,q[0]?=some x:=⟨_,oGE (by omega)⟩;have gx:dF q 0=some x:=hx;have hx2:=(h4 q (dK hq)).2 x (dK hx);simp only[gx,oBS];refine Ok.need (by unfold jU;simp;omega) ?_;refine Ok.ret ⟨_,_,_,_,rfl,⟨by rw[List.length_modify,List.length_modify];exact h1,by rw[List.length_modify];exact h2,iK (iK h3 fun _ _=>⟨by omega,by omega⟩) fun _ _=>⟨by omega,by omega⟩,iK h4 fun _ _=>?_⟩,by omega,by omega⟩;obtain⟨q1,q2⟩:=h4 q (dK hq);unfold mN;have hs:(List.take (Nat.sub q.length 1) (List.drop 1 q)).Sublist q:=(List.take_sublist _ _).trans (List.drop_sublist _ _);exact⟨q1.sublist hs,fun t ht=>q2 t (hs.subset ht)⟩
 ·exact Ok.ret ⟨_,_,_,_,rfl,hl1,by omega,by omega⟩
theorem FN{q:List Int}{x:Int}(h:q.Nodup) (hx:x ∉ q):(q++[x]).Nodup:=by
 rw[List.nodup_append];refine⟨h,by simp,fun a ha b hb=>?_⟩;simp only[List.mem_singleton] at hb;subst hb;intro e;subst e;exact hx ha
theorem L5{ow:List Int}{qs:List (List Int)}{t:Int}(h:iA ow qs):Ok (mW ow qs t) fun r=>∃ow' qs' nx,r=(ow',qs',nx,())∧iA ow' qs'∧nx.length≤4∧∀x∈nx,0≤x∧x≤3:=by
 unfold mW;rw[wD h];delta dI;simp only[oBS];have h2:=h.qlen;refine Ok.loop (P:=fun s'=>∃k:Nat,∃qs',s'=(t,(qs.length:Int),(k:Int),(),(),ow,qs',())∧k≤qs.length∧iA ow qs') (R:=fun r=>∃a b c qs',r=(t,a,b,c,(),(),ow,qs',())∧iA ow qs') (m:=fun s'=>(s'.2.1 - s'.2.2.1).toNat) ⟨0,qs,rfl,by omega,h⟩ (by unfold NN;dsimp only;omega) ?_ ?_
 ·rintro _ ⟨k,qs',rfl,hk,hl⟩;obtain⟨g1,g2,g3,g4⟩:=id hl;unfold pm;dsimp only
  (with_reducible refine Ok.cb (fun hca=>?_) (fun hca=>?_))
  ·obtain⟨q,hq⟩:∃q,qs'[k]?=some q:=⟨_,oGE (by omega)⟩;have gq:dF qs' k=some q:=hq;obtain⟨q1,q2⟩:=g4 q (dK hq);have q3:=hl.qlen4 (dK hq);delta dI;simp only[dH,oBS,gq]
   refine Ok.loop (P:=fun s'=>∃j:Nat,∃l,s'=(t,(k:Int),(qs.length:Int),(k:Int),k,(q.length:Int),(j:Int),(),(),ow,qs',l,())∧j≤q.length∧l.Sublist (q.take j))
    (R:=fun r=>∃a b c d l,r=(t,(k:Int),(qs.length:Int),(k:Int),a,b,c,d,(),(),ow,qs',l,())∧l.Sublist q) (m:=fun s'=>(s'.2.2.2.2.2.1 - s'.2.2.2.2.2.2.1).toNat) ⟨0,[],rfl,by omega,by simp⟩ (by unfold NN;dsimp only;omega) ?_ ?_
   ·rintro _ ⟨j,l,rfl,hj,hsub⟩;unfold pn;dsimp only
    (with_reducible refine Ok.cb (fun hcb=>?_) (fun hcb=>?_))
    ·obtain⟨x,hx⟩:∃x,q[j]?=some x:=⟨_,oGE (by omega)⟩;have gx:dF q j=some x:=hx;simp only[dH,oBS,gq,gx];have hll:=hsub.length_le;rw[List.length_take] at hll
     have htk:q.take (j+1)=q.take j++[x]:=by rw[List.take_add_one,hx];rfl
     refine Ok.bind (P:=fun r=>∃l',r=(t,(k:Int),(qs.length:Int),(k:Int),k,(q.length:Int),(j:Int),(),(),ow,qs',l',())∧l'.Sublist (q.take (j+1))) ?_ ?_
     ·refine Ok.cond (fun _=>Ok.need (dN (by simp;omega)) (Ok.ret ⟨_,rfl,?_⟩)) fun _=>Ok.ret ⟨l,rfl,?_⟩
      ·rw[htk];exact hsub.append (List.Sublist.refl _)
      ·rw[htk];exact hsub.trans (List.sublist_append_left _ _)
     ·rintro _ ⟨l',rfl,hs⟩;dsimp only
      (simp (disch:=omega) only [dL,dS,dO,dQ])
      exact Ok.ret ⟨⟨j+1,l',rfl,by omega,hs⟩,by dsimp only;omega⟩
    ·exact Ok.ret ⟨_,_,_,_,l,rfl,hsub.trans (List.take_sublist _ _)⟩
   ·rintro _ ⟨a,b,c,d,l,rfl,hs⟩;dsimp only;simp only[dH,oBS,gq]
    (simp (disch:=omega) only [dL,dS,dO,dQ])
    exact Ok.ret ⟨⟨k+1,_,rfl,by omega,⟨g1,by rw[List.length_modify];exact g2,g3,iK g4 fun _ _=>⟨q1.sublist hs,fun t ht=>q2 t (hs.subset ht)⟩⟩⟩,by dsimp only;omega⟩
  ·exact Ok.ret ⟨_,_,_,qs',rfl,hl⟩
 ·rintro _ ⟨a,b,c,qs',rfl,hl⟩;dsimp only
  refine Ok.loop (P:=fun s'=>∃k:Nat,∃ow' qs' nx,s'=(t,4,(k:Int),(),(),ow',qs',nx,())∧k≤4∧nx.length≤k∧iA ow' qs'∧∀x∈nx,0≤x∧x≤3) (R:=fun r=>∃a b c ow' qs' nx,r=(t,a,b,c,(),(),ow',qs',nx,())∧iA ow' qs'∧nx.length≤4∧∀x∈nx,0≤x∧x≤3) (m:=fun s'=>(4 - s'.2.2.1).toNat)
   ⟨0,ow,qs',[],by rw[hl.olen];rfl,by omega,by simp,hl,dX⟩ (by unfold NN;dsimp only;omega) ?_ ?_
  ·rintro _ ⟨k,ow',qs',nx,rfl,hk,hnl,hl',hnx⟩;unfold pj;dsimp only
   (with_reducible refine Ok.cb (fun hca=>?_) (fun hca=>?_))
   ·refine (DJ hl').bind ?_;rintro _ ⟨ow2,qs2,n,bb,rfl,hl2,n0,n1⟩;dsimp only;refine Ok.bind (P:=fun r=>∃nx',r=(t,4,(k:Int),(),(),ow',qs',nx',ow2,qs2,())∧nx'.length≤k+1∧∀x∈nx',0≤x∧x≤3) ?_ ?_
    ·refine Ok.cond (fun _=>?_) fun _=>Ok.ret ⟨nx,rfl,by omega,hnx⟩
     (with_reducible refine Ok.cb (fun hcb=>?_) (fun hcb=>?_))
     ·refine Ok.need (dN (by simp;omega)) (Ok.ret ⟨_,rfl,by rw[eK];simp;omega,iQ hnx (all_cons ⟨by omega,n1⟩ dX)⟩)
     ·exact Ok.ret ⟨nx,rfl,by omega,hnx⟩
    ·rintro _ ⟨nx',rfl,hn1,hn2⟩;dsimp only
     (simp (disch:=omega) only [dL,dS,dO,dQ])
     exact Ok.ret ⟨⟨k+1,_,_,_,rfl,by omega,hn1,hl2,hn2⟩,by dsimp only;omega⟩
   ·exact Ok.ret ⟨_,_,_,_,_,_,rfl,hl',by omega,hnx⟩
  ·rintro _ ⟨a,b,c,ow',qs',nx,rfl,hl',hn4,hnx⟩;exact Ok.ret ⟨_,_,_,rfl,hl',hn4,hnx⟩
theorem K4{ow:List Int}{qs:List (List Int)}{lock t:Int}(h:iA ow qs) (ht:0≤t∧t≤3):Ok (mV ow qs lock t) fun r=>∃ow' qs' n,r=(ow',qs',n,())∧iA ow' qs':=by
 unfold mV;rw[wD h];simp only[oBS];obtain⟨h1,h2,h3,h4⟩:=id h;refine Ok.bind (P:=fun r=>∃b,r=(lock,t,b,ow,qs,(),(),ow,qs,())∧(b=false→0≤lock∧lock < 4)) ?_ ?_
 ·(with_reducible refine Ok.cb (fun hca=>?_) (fun hca=>?_))
  ·exact Ok.ret ⟨true,rfl,fun h=>by cases h⟩
  ·(with_reducible refine Ok.cb (fun hcb=>?_) (fun hcb=>?_))
   ·exact Ok.ret ⟨true,rfl,fun h=>by cases h⟩
   ·refine Ok.nat (by omega) fun j hj=>?_;refine Ok.get (by omega) fun x hx=>?_;exact Ok.ret ⟨_,rfl,fun _=>⟨by omega,by omega⟩⟩
 rintro _ ⟨b,rfl,hb⟩;dsimp only;refine Ok.cond (fun _=>Ok.ret ⟨_,_,_,rfl,h⟩) fun hbf=>?_;obtain⟨l0,l1⟩:=hb hbf;delta dI
 try dsimp only
 obtain⟨r,e,hr⟩:=Ok.iter (f:=mf) (n:=NN) (s:=(lock,t,qs,(qs.length:Int),0,ow,qs,(),(),ow,qs,())) (P:=fun s'=>∃k:Nat,s'=(lock,t,qs,(qs.length:Int),(k:Int),ow,qs,(),(),ow,qs,())∧k≤qs.length∧∀(i:Nat) q,i < k→qs[i]?=some q→t ∉ q)
  (R:=fun r=>r=.inl (2,ow,qs,())∨((∃a b c,r=.inr (lock,t,a,b,c,false,ow,qs,(),(),ow,qs,()))∧∀q∈qs,t ∉ q)) (m:=fun s'=>(s'.2.2.2.1 - s'.2.2.2.2.1).toNat) ⟨0,rfl,by omega,fun i q hi=>by omega⟩ (by unfold NN;dsimp only;omega) (by
   rintro _ ⟨k,rfl,hk,hall⟩;unfold mf;dsimp only
   (with_reducible refine Ok.cb (fun hca=>?_) (fun hca=>?_))
   ·obtain⟨q,hq⟩:∃q,qs[k]?=some q:=⟨_,oGE (by omega)⟩;have gq:dF qs k=some q:=hq;have q3:=h.qlen4 (dK hq);delta dI;simp only[dH,oBS,gq]
    obtain⟨r,e,hr⟩:=Ok.iter (f:=mg) (n:=NN) (s:=(lock,t,qs,(qs.length:Int),(k:Int),q,(q.length:Int),0,ow,qs,(),(),ow,qs,())) (P:=fun s'=>∃j:Nat,s'=(lock,t,qs,(qs.length:Int),(k:Int),q,(q.length:Int),(j:Int),ow,qs,(),(),ow,qs,())∧j≤q.length∧∀(i:Nat) x,i < j→q[i]?=some x→x≠t)
     (R:=fun r=>r=.inl (2,ow,qs,())∨((∃a b c,r=.inr (lock,t,qs,(qs.length:Int),(k:Int),a,b,c,false,ow,qs,(),(),ow,qs,()))∧t ∉ q)) (m:=fun s'=>(s'.2.2.2.2.2.2.1 - s'.2.2.2.2.2.2.2.1).toNat) ⟨0,rfl,by omega,fun i x hi=>by omega⟩ (by unfold NN;dsimp only;omega) (by
      rintro _ ⟨j,rfl,hj,hne⟩;unfold mg;dsimp only
      (with_reducible refine Ok.cb (fun hcb=>?_) (fun hcb=>?_))
      ·obtain⟨x,hx⟩:∃x,q[j]?=some x:=⟨_,oGE (by omega)⟩;have gx:dF q j=some x:=hx;simp only[dH,oBS,gx]
       (with_reducible refine Ok.cb (fun hcc=>?_) (fun hcc=>?_))
       ·exact Ok.ret (.inl rfl)
       ·(simp (disch:=omega) only [dL,dS,dO,dQ])
        exact Ok.ret ⟨⟨j+1,rfl,by omega,E5 hne hx hcc⟩,by dsimp only;omega⟩
      ·refine Ok.ret (.inr ⟨⟨_,_,_,rfl⟩,fun hm=>?_⟩);obtain⟨i,hi⟩:=List.getElem?_of_mem hm
       exact hne i t (by have:=(oGS hi).1;omega) hi rfl)
    rw[e];rcases hr with rfl | ⟨⟨a,b,c,rfl⟩,hnot⟩
    ·exact Ok.ret (.inl rfl)
    ·dsimp only
     (simp (disch:=omega) only [dL,dS,dO,dQ])
     refine Ok.ret ⟨⟨k+1,rfl,by omega,fun i q' hi hq'=>?_⟩,by dsimp only;omega⟩;by_cases hik:i=k
     ·subst hik;rw[hq] at hq'
      injection hq' with hq'
      rw[← hq'];exact hnot
     ·exact hall i q' (by omega) hq'
   ·refine Ok.ret (.inr ⟨⟨_,_,_,rfl⟩,fun q hq=>?_⟩);obtain⟨i,hi⟩:=List.getElem?_of_mem hq
    exact hall i q (by have:=(oGS hi).1;omega) hi)
 rw[e];rcases hr with rfl | ⟨⟨a,b,c,rfl⟩,hnot⟩
 ·exact Ok.ret ⟨_,_,_,rfl,h⟩
 ·dsimp only;obtain⟨j,rfl⟩:∃j:Nat,lock=j:=⟨lock.toNat,by omega⟩;obtain⟨o,ho⟩:∃o,ow[j]?=some o:=⟨_,oGE (by omega)⟩;obtain⟨q,hq⟩:∃q,qs[j]?=some q:=⟨_,oGE (by omega)⟩;have go:dF ow j=some o:=ho;have gq:dF qs j=some q:=hq;simp only[dH,oBS,go,gq]
  (with_reducible refine Ok.cb (fun hcd=>?_) (fun hcd=>?_))
  ·exact Ok.ret ⟨_,_,_,rfl,⟨by rw[List.length_modify];exact h1,h2,iK h3 fun _ _=>⟨by omega,ht.2⟩,h4⟩⟩
  ·have q3:=h.qlen4 (dK hq);refine Ok.need (dN (by simp;omega)) (Ok.need (by simp) (Ok.ret ⟨_,_,_,rfl,⟨h1,by rw[List.length_modify];exact h2,h3,iK h4 fun _ _=>⟨?_,?_⟩⟩⟩))
   ·exact FN (h4 q (dK hq)).1 (hnot q (dK hq))
   ·exact iQ (h4 q (dK hq)).2 (all_cons ht dX)
theorem dZ{α:Type}{l:List α}{i:Nat}{a:α}(h:l[i]?=some a) (f:α→α):List.modify l i f=l.set i (f a):=by
 rw[← yw];apply List.ext_getElem?;intro j;simp only[List.getElem?_modify];by_cases hij:i=j
 ·subst hij;rw[h];rfl
 ·simp[hij]
theorem gu{α:Type}{l:List α}{i:Nat}(h:i < l.length) (a:α):dF (l.set i a) i=some a:=by
 show (l.set i a)[i]?=some a;rw[List.getElem?_set];simp[h]
theorem nH{α:Type}{l:List α}{i:Nat}(h:i < l.length) (a:α) (f:α→α):List.modify (l.set i a) i f=l.set i (f a):=by
 rw[dZ (a:=a) (gu h a),List.set_set]
theorem ix{α:Type}{P:α→Prop}{l:List α}{i:Nat}{a:α}(h:∀x∈l,P x) (ha:P a):∀x∈l.set i a,P x:=by
 intro x hx;rcases List.mem_or_eq_of_mem_set hx with hx | rfl
 ·exact h x hx
 ·exact ha
theorem MOk.set{n:Int}{ss bs:List Int}{cs cs':List DCe}{ls ls':List DLn}{ts:List DTh}(h:MOk n ss bs cs ls ts) (hm:ki (RK bs ss) cs' ls') {i:Nat}{t:DTh}(ht:w7 (RK bs ss) n t):MOk n ss bs cs' ls' (ts.set i t):=
 ⟨h.lay,hm,by rw[List.length_set];exact h.tlen,ix h.thr ht⟩
def N6(code:List DIn) (t:DTh) (s:Int) (t':DTh):Prop:=
 (s=-1∧t'.1=1∧((t'.2.2.2.1=t.2.2.2.1∧t'.2.2.1=t.2.2.1+1)∨t'.2.2.2.1=t.2.2.2.1+1))∨(s=2∧t'.1=4∧t'.2.2.2.1=t.2.2.2.1) ∨
  (s=1∧t'.1=2∧t'.2.2.2.1=t.2.2.2.1∧∃i:DIn,1≤t'.2.2.1∧code[(t'.2.2.1 - 1).toNat]?=some i∧i.1=23)
def D7(n key:Int) (code:List DIn) (ss bs:List Int) (ts:List DTh) (i:Nat) (t:DTh) (r:Int×List Int×Int×List DCe×List DLn×List DTh×Unit):Prop:=
 ∃s cs' ls' t',r=(s,bs,key,cs',ls',ts.set i t',())∧ki (RK bs ss) cs' ls'∧w7 (RK bs ss) n t'∧N6 code t s t'
theorem ms{n key:Int}{code:List DIn}{ss bs:List Int}{ts:List DTh}{i:Nat}{t t':DTh}{cs':List DCe}{ls':List DLn}(hm:ki (RK bs ss) cs' ls') (ht:w7 (RK bs ss) n t') (h1:t'.1=1)
 (h:(t'.2.2.2.1=t.2.2.2.1∧t'.2.2.1=t.2.2.1+1)∨t'.2.2.2.1=t.2.2.2.1+1):Ok (some (-1,bs,key,cs',ls',ts.set i t',())) (D7 n key code ss bs ts i t):=Ok.ret ⟨_,_,_,_,rfl,hm,ht,.inl ⟨rfl,h1,h⟩⟩
theorem lR{n key why:Int}{code:List DIn}{ss bs:List Int}{ts:List DTh}{i:Nat}{t:DTh}{cs':List DCe}{ls':List DLn}(hm:ki (RK bs ss) cs' ls') (ht:w7 (RK bs ss) n t) (hw:0≤why∧why≤6) :
 Ok (some (2,bs,key,cs',ls',ts.set i (4,t.2.1,t.2.2.1,t.2.2.2.1,t.2.2.2.2.1,t.2.2.2.2.2.1,why,0),())) (D7 n key code ss bs ts i t):=Ok.ret ⟨_,_,_,_,rfl,hm,ht.ended hw,.inr (.inl ⟨rfl,rfl,rfl⟩)⟩
theorem g7(op:Int):kH op=some (lU op || op==22 || op==24,()):=by
 unfold kH;rw[vW];simp only[oBS];cases lU op<;>cases op==22<;>rfl
set_option maxHeartbeats 4000000 in
theorem ML{n key:Int}{code:List DIn}{ss bs:List Int}{d:List (List Int)}{cs:List DCe}{ls:List DLn}{ts:List DTh}{i:Nat}{t:DTh}(hp:km code ss d) (h:MOk n ss bs cs ls ts) (ht:ts[i]?=some t) (hs:t.1=1)
 (hc:t.2.2.2.1+1≤n) (hn:n≤1099511627776):Ok (n9 code ss d (i:Int) bs key cs ls ts) (D7 n key code ss bs ts i t):=by
 have hok:=h.thr t (dK ht);have hm:=h.mem;obtain⟨_,hl,hr,⟨p0,p1⟩,⟨c0,c1⟩,ha,⟨s0,s1⟩,⟨r0,r1⟩,hco⟩:=id hok;obtain⟨st,rs,pc,ct,hd,sa,tr,co⟩:=t;dsimp only at *;subst hs;have hil:=(oGS ht).1;have hg:dF ts i=some (1,rs,pc,ct,hd,sa,tr,co):=ht;have e1:∀f:DTh→DTh,List.modify ts i f=ts.set i (f (1,rs,pc,ct,hd,sa,tr,co)):=fun f=>dZ ht f;have e2:∀x,dF (ts.set i x) i=some x:=fun x=>gu hil x;have e3:∀(x:DTh) (f:DTh→DTh),List.modify (ts.set i x) i f=ts.set i (f x):=fun x f=>nH hil x f
 have eT:∀why,eU (i:Nat) why ts=some (2,ts.set i (4,rs,pc,ct,hd,sa,why,0),()):=fun why=>by rw[K0 (n:=n) ht,e1]
 have mk:∀{rs':List DCe} {pc' ct' sa':Int},rs'.length=8→(∀c∈rs',mJ (RK bs ss) c)→0≤pc'∧pc'≤255→0≤ct'∧ct'≤n→-1≤sa'∧sa'≤255→w7 (RK bs ss) n (1,rs',pc',ct',hd,sa',tr,co):=
  fun h1 h2 h3 h4 h5=>⟨⟨show (0:Int)≤1 by decide,show (1:Int)≤4 by decide⟩,h1,h2,h3,h4,ha,h5,⟨r0,r1⟩,hco⟩
 unfold n9;rw[dH];delta dI;simp only[hg,oBS]
 (with_reducible refine Ok.cb (fun hca=>?_) (fun hca=>?_))
 ·rw[eT 2];exact lR hm hok (by decide)
 refine Ok.nat p0 fun j hj=>?_;subst hj;have hcl:=hp.clen;refine Ok.get (by omega) fun x hx=>?_;obtain⟨op,A,B,C,I⟩:=x;obtain⟨⟨o0,o1⟩,⟨A0,A1,_⟩,⟨B0,B1,_⟩,⟨C0,C1,_⟩,⟨I0,I1,_⟩,hlea,hsys,hjmp⟩:=hp.ins _ (dK hx);dsimp only at *;obtain⟨A,rfl⟩:∃k:Nat,A=k:=⟨A.toNat,by omega⟩;obtain⟨B,rfl⟩:∃k:Nat,B=k:=⟨B.toNat,by omega⟩;obtain⟨C,rfl⟩:∃k:Nat,C=k:=⟨C.toNat,by omega⟩;obtain⟨I,rfl⟩:∃k:Nat,I=k:=⟨I.toNat,by omega⟩;obtain⟨⟨ta,va⟩,gA⟩:∃c,dF rs A=some c:=⟨_,oGE (by omega)⟩;obtain⟨⟨tb,vb⟩,gB⟩:∃c,dF rs B=some c:=⟨_,oGE (by omega)⟩;obtain⟨⟨tc,vc⟩,gC⟩:∃c,dF rs C=some c:=⟨_,oGE (by omega)⟩;have cA:=hr _ (dK gA);have cB:=hr _ (dK gB);have cC:=hr _ (dK gC);have eR:∀f:DCe→DCe,List.modify rs A f=rs.set A (f (ta,va)):=fun f=>dZ gA f;have w1:w64 ((j:Int)+1)=(j:Int)+1:=dL (by omega) (by omega);have wI:wk .u16 (I:Int)=I:=dS (by omega) (by omega);have setOk:∀{c:DCe},mJ (RK bs ss) c→(rs.set A c).length=8∧∀x∈rs.set A c,mJ (RK bs ss) x:=fun hc=>⟨by rw[List.length_set];exact hl,ix hr hc⟩;have wc:w64 (ct+1)=ct+1:=dL (by omega) (by omega);simp only[dH,hg,gA,gB,oBS,w1,wI];rcases (show op=0∨op=1∨op=2∨op=15∨op=16∨op=17∨op=18∨op=19∨op=20∨op=21∨op=22∨op=23∨op=24∨(3≤op∧op≤14) by omega) with rfl | rfl | rfl | rfl | rfl | rfl | rfl | rfl | rfl | rfl | rfl | rfl | rfl | ⟨q0,q1⟩
 all_goals try simp only[Int.reduceBEq,cond_true,cond_false,dH,hg,gA,gB,gC,e1,e2,e3,eR,eT,oBS,w1,wI,wc,g7,lU,Bool.or_false,Bool.or_true,Bool.or_self,bne_self_eq_false]
 ·exact ms hm (mk hl hr (by omega) (by omega) (by omega)) rfl (.inl ⟨rfl,rfl⟩)
 ·exact ms hm (mk (setOk (lk (by omega))).1 (setOk (lk (by omega))).2 (by omega) (by omega) (by omega)) rfl (.inl ⟨rfl,rfl⟩)
 ·exact ms hm (mk (setOk cB).1 (setOk cB).2 (by omega) (by omega) (by omega)) rfl (.inl ⟨rfl,rfl⟩)
 ·have hI:=hlea rfl;have hbl:=h.lay.2.1;obtain⟨b,hb⟩:∃b,bs[I]?=some b:=⟨_,oGE (by omega)⟩;obtain⟨z,hz⟩:∃z,ss[I]?=some z:=⟨_,oGE (by omega)⟩;have hr2:=h.lay.2.2 I (by omega);unfold uT at hr2;rw[ej hb,ej hz] at hr2;have hz2:=h.lay.1.2.2 z (dK hz);have wb:wk .u16 b=b:=dS (by omega) (by omega);have gb:dF bs I=some b:=hb;simp only[gb,wb,Int.reduceBEq,cond_true,cond_false,dH,hg,gA,gB,gC,e1,e2,e3,eR,eT,oBS,w1,wI,wc,g7,lU,Bool.or_false,Bool.or_true,Bool.or_self,bne_self_eq_false];have hcb:mJ (RK bs ss) (1,b):=⟨by dsimp only;omega,by dsimp only;omega,by dsimp only;omega,by dsimp only;omega,fun _=>⟨I,b,z,hb,hz,by dsimp only;omega,by dsimp only;omega⟩⟩;exact ms hm (mk (setOk hcb).1 (setOk hcb).2 (by omega) (by omega) (by omega)) rfl (.inl ⟨rfl,rfl⟩)
 ·obtain⟨_,em,t1,x1,e,rfl,hc1,he0,he6,hx512⟩:=vF (key:=key) (tag:=tb) (v:=vb) (n:=(I:Int)) (back:=false) h.lay ⟨cB.2.2.1,cB.2.2.2.1⟩ ⟨by omega,by omega⟩;simp only[em,oBS];by_cases hne:e=0
  ·subst hne;have wx:wk .i64 x1=x1:=dO (by have:=hc1.2.2.1;dsimp only at this;omega) (by have:=hc1.2.2.2.1;dsimp only at this;omega);obtain⟨_,el,t2,x2,cs2,ls2,rfl,hc2,hm2⟩:=H8 (a:=x1) hm ⟨hc1.2.2.1,hx512 rfl⟩;simp only[wx,el,Int.reduceBEq,cond_true,cond_false,dH,hg,gA,gB,gC,e1,e2,e3,eR,eT,oBS,w1,wI,wc,g7,lU,Bool.or_false,Bool.or_true,Bool.or_self,bne_self_eq_false];exact ms hm2 (mk (setOk hc2).1 (setOk hc2).2 (by omega) (by omega) (by omega)) rfl (.inl ⟨rfl,rfl⟩)
  ·simp only[bne_iff_ne.2 hne,cond_true];exact lR hm hok ⟨he0,he6⟩
 ·obtain⟨_,em,t1,x1,e,rfl,hc1,he0,he6,hx512⟩:=vF (key:=key) (tag:=ta) (v:=va) (n:=(I:Int)) (back:=false) h.lay ⟨cA.2.2.1,cA.2.2.2.1⟩ ⟨by omega,by omega⟩;simp only[em,oBS];by_cases hne:e=0
  ·subst hne;have wx:wk .i64 x1=x1:=dO (by have:=hc1.2.2.1;dsimp only at this;omega) (by have:=hc1.2.2.2.1;dsimp only at this;omega);obtain⟨_,el,cs2,ls2,rfl,hm2⟩:=yj (a:=x1) (t:=tb) (v:=vb) hm ⟨hc1.2.2.1,hx512 rfl⟩ cB;simp only[wx,el,Int.reduceBEq,cond_true,cond_false,dH,hg,gA,gB,gC,e1,e2,e3,eR,eT,oBS,w1,wI,wc,g7,lU,Bool.or_false,Bool.or_true,Bool.or_self,bne_self_eq_false];exact ms hm2 (mk hl hr (by omega) (by omega) (by omega)) rfl (.inl ⟨rfl,rfl⟩)
  ·simp only[bne_iff_ne.2 hne,cond_true];exact lR hm hok ⟨he0,he6⟩
 ·have:=hjmp (by decide);exact ms hm (mk hl hr (by omega) (by omega) (by omega)) rfl (.inr rfl)
 ·have:=hjmp (by decide);by_cases hta:ta=0
  ·subst hta
   cases va==0 with
   | true=>
    simp only[BEq.rfl,Int.reduceBEq,cond_true,cond_false,dH,hg,gA,gB,gC,e1,e2,e3,eR,eT,oBS,w1,wI,wc,g7,lU,Bool.or_false,Bool.or_true,Bool.or_self,bne_self_eq_false];exact ms hm (mk hl hr (by omega) (by omega) (by omega)) rfl (.inr rfl)
   | false=>
    simp only[show (false==true)=false from rfl,Int.reduceBEq,cond_true,cond_false,dH,hg,gA,gB,gC,e1,e2,e3,eR,eT,oBS,w1,wI,wc,g7,lU,Bool.or_false,Bool.or_true,Bool.or_self,bne_self_eq_false];exact ms hm (mk hl hr (by omega) (by omega) (by omega)) rfl (.inr rfl)
  ·simp only[bne_iff_ne.2 hta,cond_true];exact lR hm hok (by decide)
 ·have:=hjmp (by decide);by_cases hta:ta=0
  ·subst hta
   cases va==0 with
   | true=>
    simp only[show (true==false)=false from rfl,Int.reduceBEq,cond_true,cond_false,dH,hg,gA,gB,gC,e1,e2,e3,eR,eT,oBS,w1,wI,wc,g7,lU,Bool.or_false,Bool.or_true,Bool.or_self,bne_self_eq_false];exact ms hm (mk hl hr (by omega) (by omega) (by omega)) rfl (.inr rfl)
   | false=>
    simp only[BEq.rfl,Int.reduceBEq,cond_true,cond_false,dH,hg,gA,gB,gC,e1,e2,e3,eR,eT,oBS,w1,wI,wc,g7,lU,Bool.or_false,Bool.or_true,Bool.or_self,bne_self_eq_false];exact ms hm (mk hl hr (by omega) (by omega) (by omega)) rfl (.inr rfl)
  ·simp only[bne_iff_ne.2 hta,cond_true];exact lR hm hok (by decide)
 ·have:=hjmp (by decide);have wj:wk .u16 ((j:Int)+1)=(j:Int)+1:=dS (by omega) (by omega);rw[wj];exact ms hm (mk (setOk (lk (by omega))).1 (setOk (lk (by omega))).2 (by omega) (by omega) (by omega)) rfl (.inr rfl)
 ·by_cases hta:ta=0
  ·subst hta;have wa:wk .i64 va=va:=dO (by have:=cA.2.2.1;dsimp only at this;omega) (by have:=cA.2.2.2.1;dsimp only at this;omega);have a0:=cA.2.2.1;dsimp only at a0;by_cases hva:va > 255
   ·simp only[decide_eq_true hva,bne_self_eq_false,cond_true,cond_false];exact lR hm hok (by decide)
   ·simp only[decide_eq_false hva,wa,Int.reduceBEq,cond_true,cond_false,dH,hg,gA,gB,gC,e1,e2,e3,eR,eT,oBS,w1,wI,wc,g7,lU,Bool.or_false,Bool.or_true,Bool.or_self,bne_self_eq_false];exact ms hm (mk hl hr (by omega) (by omega) (by omega)) rfl (.inr rfl)
  ·simp only[bne_iff_ne.2 hta,cond_true];exact lR hm hok (by decide)
 ·refine Ok.ret ⟨_,_,_,_,rfl,hm,⟨⟨show (0:Int)≤2 by decide,show (2:Int)≤4 by decide⟩,hl,hr,⟨by dsimp only;omega,by dsimp only;omega⟩,⟨c0,by dsimp only;omega⟩,ha,⟨s0,s1⟩,⟨r0,r1⟩,hco⟩,.inr (.inr ⟨rfl,rfl,rfl,(23,(A:Int),(B:Int),(C:Int),(I:Int)),by dsimp only;omega,?_,rfl⟩)⟩;dsimp only;rw[show (j:Int)+1 - 1=(j:Int) by omega,Int.toNat_natCast];exact hx
 ·by_cases hsa:sa=-1
  ·simp only[beq_iff_eq.2 hsa,cond_true];exact lR hm hok (by decide)
  ·simp only[beq_eq_false_iff_ne.2 hsa,Int.reduceBEq,cond_true,cond_false,dH,hg,gA,gB,gC,e1,e2,e3,eR,eT,oBS,w1,wI,wc,g7,lU,Bool.or_false,Bool.or_true,Bool.or_self,bne_self_eq_false];exact ms hm (mk hl hr (by omega) (by omega) (by omega)) rfl (.inr rfl)
 ·obtain⟨_,ed,t1,x1,e,rfl,hc1,he0,he6⟩:=NB (key:=key) (op:=op) h.lay cB cC;have n0:(op==0)=false:=beq_eq_false_iff_ne.2 (by omega);have n1:(op==1)=false:=beq_eq_false_iff_ne.2 (by omega);have n2:(op==2)=false:=beq_eq_false_iff_ne.2 (by omega);have n15:(op==15)=false:=beq_eq_false_iff_ne.2 (by omega);have n16:(op==16)=false:=beq_eq_false_iff_ne.2 (by omega);have n17:(op==17)=false:=beq_eq_false_iff_ne.2 (by omega);have n18:(op==18)=false:=beq_eq_false_iff_ne.2 (by omega);have n19:(op==19)=false:=beq_eq_false_iff_ne.2 (by omega);have n20:(op==20)=false:=beq_eq_false_iff_ne.2 (by omega);have n21:(op==21)=false:=beq_eq_false_iff_ne.2 (by omega);have n22:(op==22)=false:=beq_eq_false_iff_ne.2 (by omega);have n23:(op==23)=false:=beq_eq_false_iff_ne.2 (by omega);have n24:(op==24)=false:=beq_eq_false_iff_ne.2 (by omega);simp only[n0,n1,n2,n15,n16,n17,n18,n19,n20,n21,n22,n23,n24,ed,Int.reduceBEq,cond_true,cond_false,dH,hg,gA,gB,gC,e1,e2,e3,eR,eT,oBS,w1,wI,wc,g7,lU,Bool.or_false,Bool.or_true,Bool.or_self,bne_self_eq_false];by_cases hne:e=0
  ·subst hne;simp only[n18,n19,n20,n21,n22,n24,Int.reduceBEq,cond_true,cond_false,dH,hg,gA,gB,gC,e1,e2,e3,eR,eT,oBS,w1,wI,wc,g7,lU,Bool.or_false,Bool.or_true,Bool.or_self,bne_self_eq_false];exact ms hm (mk (setOk hc1).1 (setOk hc1).2 (by omega) (by omega) (by omega)) rfl (.inl ⟨rfl,rfl⟩)
  ·simp only[bne_iff_ne.2 hne,cond_true];exact lR hm hok ⟨he0,he6⟩
theorem w7.mono{K:Int→Prop}{n m:Int}{t:DTh}(h:w7 K n t) (hm:n≤m):w7 K m t:=⟨h.state,h.len,h.regs,h.pc,⟨h.count.1,by have:=h.count.2;omega⟩,h.handler,h.saved,h.trap,h.code⟩
theorem MOk.mono{n m:Int}{ss bs:List Int}{cs:List DCe}{ls:List DLn}{ts:List DTh}(h:MOk n ss bs cs ls ts) (hm:n≤m):MOk m ss bs cs ls ts:=⟨h.lay,h.mem,h.tlen,fun t ht=>(h.thr t ht).mono hm⟩
theorem yQ{α:Type}{l:List α}{i:Nat}{a:α}(h:l[i]?=some a):l.set i a=l:=by
 apply List.ext_getElem?;intro j;rw[List.getElem?_set];split
 ·rename_i hij;subst hij;have:=(oGS h).1;rw[if_pos this,h]
 ·rfl
def NO(code:List DIn) (s:Int) (t':DTh):Prop:=
 (s=0∧t'.1=1)∨(s=2∧t'.1=4)∨(s=1∧t'.1=2∧∃i:DIn,1≤t'.2.2.1∧code[(t'.2.2.1 - 1).toNat]?=some i∧i.1=23)
def Mk(n key:Int) (code:List DIn) (ss bs:List Int) (ts:List DTh) (i:Nat) (r:List Int×Int×List DCe×List DLn×List DTh×Int×Int×Unit):Prop:=
 ∃s cs' ls' t',r=(bs,key,cs',ls',ts.set i t',s,0,())∧ki (RK bs ss) cs' ls'∧w7 (RK bs ss) n t'∧((s=3∧ts[i]?=some t'∧t'.1≠1)∨NO code s t')
def Nu(i:Nat) (s:Int×Int×(List DIn)×(List (Int))×(List (List (Int)))×Unit×Int×Unit×Unit×Unit×(List (Int))×Int×(List DCe)×(List DLn)×(List DTh)×Unit):Nat:=
 match s.2.2.2.2.2.2.2.2.2.2.2.2.2.2.1[i]? with
 | some t=>((s.2.1 - t.2.2.2.1)*256+(255 - t.2.2.1)).toNat
 | none=>0
theorem CO{i:Nat}{a b k:Int}{code:List DIn}{ss bs:List Int}{d:List (List Int)}{cs:List DCe}{ls:List DLn}{ts:List DTh}{t:DTh}(h:ts[i]?=some t):Nu i (a,b,code,ss,d,(),0,(),(),(),bs,k,cs,ls,ts,())=((b - t.2.2.2.1)*256+(255 - t.2.2.1)).toNat:=by
 unfold Nu;dsimp only;rw[h]
theorem Jd{n key k:Int}{code:List DIn}{ss bs:List Int}{d:List (List Int)}{cs:List DCe}{ls:List DLn}{ts:List DTh}{i:Nat}(hp:km code ss d) (h:MOk n ss bs cs ls ts) (hn0:0≤n) (hn:n+64≤1099511627776) (hi:i < 4) (hk:1≤k∧k≤64) :
 Ok (lI code ss d bs key cs ls ts (i:Int) k) (Mk (n+64) key code ss bs ts i):=by
 have htl:=h.tlen;obtain⟨t,ht⟩:∃t,ts[i]?=some t:=⟨_,oGE (by omega)⟩;have hg:dF ts i=some t:=ht
 have hil:i < ts.length:=by omega
 have hok:=h.thr t (dK ht);unfold lI;rw[sW hp h (by omega)];simp only[oBS,Bool.not_true,cond_false,pL h,dH,hg];rw[decide_eq_false (show ¬ (i:Int) < 0 by omega),decide_eq_false (show ¬ (i:Int)≥4 by omega),decide_eq_false (show ¬ k < 1 by omega),decide_eq_false (show ¬ k > 64 by omega)];simp only[oBS,cond_false,pL h,dH,hg]
 (with_reducible refine Ok.cb (fun hca=>?_) (fun hca=>?_))
 ·refine Ok.ret ⟨3,cs,ls,t,?_,h.mem,hok.mono (by omega),.inl ⟨rfl,ht,hca⟩⟩;rw[yQ ht]
 have hct:=hok.count;have hpc:=hok.pc;rw[dL (x:=t.2.2.2.1+k) (by omega) (by omega)]
 refine Ok.loop (P:=fun s'=>∃cs' ls' t',s'=((i:Int),t.2.2.2.1+k,code,ss,d,(),0,(),(),(),bs,key,cs',ls',ts.set i t',())∧ki (RK bs ss) cs' ls'∧w7 (RK bs ss) (n+64) t'∧t'.1=1∧t'.2.2.2.1 < t.2.2.2.1+k)
  (R:=fun r=>∃s cs' ls' t',r=(s,0,bs,key,cs',ls',ts.set i t',())∧ki (RK bs ss) cs' ls'∧w7 (RK bs ss) (n+64) t'∧NO code s t') (m:=Nu i) ⟨cs,ls,t,by rw[yQ ht],h.mem,hok.mono (by omega),hca,by omega⟩ ?_ ?_ ?_
 ·rw[CO ht];unfold NN;omega
 ·rintro _ ⟨cs',ls',t',rfl,hm,hth,hr,hlt⟩;have ht':(ts.set i t')[i]?=some t':=gu hil t';unfold oV;dsimp only;refine (ML hp (((h.mono (show n≤n+64 by omega)).set hm hth):MOk (n+64) ss bs cs' ls' (ts.set i t')) ht' hr (by omega) (by omega)).bind ?_;rintro _ ⟨s,cs2,ls2,t2,rfl,hm2,hth2,hs2⟩;dsimp only;rw[List.set_set]
  (with_reducible refine Ok.cb (fun hcb=>?_) (fun hcb=>?_))
  ·refine Ok.ret ⟨_,_,_,_,rfl,hm2,hth2,?_⟩;rcases hs2 with ⟨q,_⟩ | ⟨q1,q2,_⟩ | ⟨q1,q2,_,q3⟩
   ·exact absurd q hcb
   ·exact .inr (.inl ⟨q1,q2⟩)
   ·exact .inr (.inr ⟨q1,q2,q3⟩)
  ·rw[dH];simp only[oBS,gu hil];have h0:=hth2.count;have h1:=hth2.pc;have h2:=hth.pc;rcases hs2 with ⟨_,q1,q2⟩ | ⟨q1,_⟩ | ⟨q1,_⟩
   ·(with_reducible refine Ok.cb (fun hcc=>?_) (fun hcc=>?_))
    ·exact Ok.ret ⟨_,_,_,_,rfl,hm2,hth2,.inl ⟨rfl,q1⟩⟩
    ·refine Ok.ret ⟨⟨_,_,_,rfl,hm2,hth2,q1,by omega⟩,?_⟩;rw[CO ht',CO (gu hil t2)];omega
   ·omega
   ·omega
 ·rintro _ ⟨s,cs',ls',t',rfl,hm,hth,hs⟩;exact Ok.ret ⟨_,_,_,_,rfl,hm,hth,.inr hs⟩
def HA(bs ss:List Int) (a:Int):Nat→Nat→Option (Int×Int)
 | 0,_=>none
 | n+1,k=>if bs.getD k 0≤a∧a < bs.getD k 0+ss.getD k 0 then some ((k:Int),a - bs.getD k 0) else HA bs ss a n (k+1)
def JB(bs ss:List Int) (a:Int):Option (Int×Int):=HA bs ss a bs.length 0
theorem Hy{bs ss:List Int}{a r o:Int}:∀{n k:Nat},k+n=bs.length→bs.length=ss.length→HA bs ss a n k=some (r,o)→∃(j:Nat) (b z:Int),r=j∧o=a - b∧bs[j]?=some b∧ss[j]?=some z∧b≤a∧a < b+z:=by
 intro n
 induction n with
 | zero=>intro k _ _ h;cases h
 | succ n ih=>
  intro k hk hl h;simp only[HA] at h;split at h
  ·rename_i hh
   injection h with h
   injection h with h1 h2
   refine⟨k,_,_,h1.symm,h2.symm,?_,?_,hh.1,hh.2⟩
   ·rw[DM (by omega)];exact oGE (by omega)
   ·rw[DM (by omega)];exact oGE (by omega)
  ·exact ih (by omega) hl h
theorem Hz{bs ss:List Int}{a:Int}:∀{n k:Nat},k+n=bs.length→HA bs ss a n k=none→∀(j:Nat) (b z:Int),k≤j→bs[j]?=some b→ss[j]?=some z→¬ (b≤a∧a < b+z):=by
 intro n
 induction n with
 | zero=>
  intro k hk _ j b z hj hb;have:=(oGS hb).1;omega
 | succ n ih=>
  intro k hk h j b z hj hb hz;simp only[HA] at h;split at h
  ·cases h
  ·rename_i hh;by_cases hjk:j=k
   ·subst hjk;rw[ej hb,ej hz] at hh;exact hh
   ·exact ih (by omega) h j b z (by omega) hb hz
theorem AW{bs ss:List Int}{a r o:Int}(hl:bs.length=ss.length) (h:JB bs ss a=some (r,o)):∃(j:Nat) (b z:Int),r=j∧o=a - b∧bs[j]?=some b∧ss[j]?=some z∧b≤a∧a < b+z:=Hy (by omega) hl h
theorem LG{bs ss:List Int}{a:Int}(h:RK bs ss a):∃r o,JB bs ss a=some (r,o):=by
 cases e:JB bs ss a with
 | some x=>exact⟨x.1,x.2,rfl⟩
 | none=>
  obtain⟨j,b,z,h1,h2,h3,h4⟩:=h;exact absurd ⟨h3,h4⟩ (Hz (by omega) e j b z (by omega) h1 h2)
theorem yp{bs ss:List Int}{key a:Int}(h:LV bs ss) (ha:W16 a):eQ bs key ss a=some (match JB bs ss a with | some (r,o)=>(r,o,true,()) | none=>(0,0,false,())):=by
 obtain⟨hs,hl,hr⟩:=h;obtain⟨a0,a1⟩:=ha;have hs4:=hs.2.1
 have key1:∀(n k N:Nat),k+n=bs.length→n < N→dP eu N (ss,a,bs,(bs.length:Int),(k:Int),bs,key,0,0,())=some (match HA bs ss a n k with | some (r,o)=>.inl (true,r,o,()) | none=>.inr (ss,a,bs,(bs.length:Int),(bs.length:Int),false,bs,key,0,0,())):=by
  intro n
  induction n with
  | zero=>
   intro k N hk hN;obtain⟨N,rfl⟩:∃M,N=M+1:=⟨N - 1,by omega⟩
   obtain rfl:k=bs.length:=by omega
   have e:eu (ss,a,bs,(bs.length:Int),(bs.length:Int),bs,key,0,0,())=some (.inr (.inr (ss,a,bs,(bs.length:Int),(bs.length:Int),false,bs,key,0,0,()))):=by
    refine Ok.eq ?_;unfold eu;dsimp only
    (with_reducible refine Ok.cb (fun hca=>?_) (fun hca=>?_))
    ·omega
    ·exact Ok.ret rfl
   simp only[dP,e,oBS,HA]
  | succ n ih=>
   intro k N hk hN;obtain⟨N,rfl⟩:∃M,N=M+1:=⟨N - 1,by omega⟩;obtain⟨b,hb⟩:∃b,bs[k]?=some b:=⟨_,oGE (by omega)⟩;obtain⟨z,hz⟩:∃z,ss[k]?=some z:=⟨_,oGE (by omega)⟩;have hz2:=hs.2.2 z (dK hz);have hrk:=hr k (by omega);unfold uT at hrk;rw[ej hb,ej hz] at hrk;by_cases hh:b≤a∧a < b+z
   ·have e:eu (ss,a,bs,(bs.length:Int),(k:Int),bs,key,0,0,())=some (.inr (.inl (true,(k:Int),a - b,()))):=by
     refine Ok.eq ?_;unfold eu;dsimp only;rw[decide_eq_true (show (k:Int) < bs.length by omega),dH];simp only[cond_true,oBS,show dF bs k=some b from hb,show dF ss k=some z from hz];rw[decide_eq_true (show a≥b by omega),dL (x:=b+z) (by omega) (by omega),decide_eq_true hh.2,dL (x:=a - b) (by omega) (by omega)];exact Ok.ret rfl
    simp only[dP,e,oBS,HA,ej hb,ej hz,if_pos hh]
   ·have e:eu (ss,a,bs,(bs.length:Int),(k:Int),bs,key,0,0,())=some (.inl (ss,a,bs,(bs.length:Int),((k+1:Nat):Int),bs,key,0,0,())):=by
     refine Ok.eq ?_;unfold eu;dsimp only;rw[decide_eq_true (show (k:Int) < bs.length by omega),dH];simp only[cond_true,oBS,show dF bs k=some b from hb,show dF ss k=some z from hz];rw[dL (x:=b+z) (by omega) (by omega)];by_cases h1:a≥b
     ·rw[decide_eq_true h1,decide_eq_false (show ¬ a < b+z by omega)];simp only[cond_true,cond_false];rw[dL (x:=(k:Int)+1) (by omega) (by omega)];exact Ok.ret rfl
     ·rw[decide_eq_false h1];simp only[cond_false];rw[dL (x:=(k:Int)+1) (by omega) (by omega)];exact Ok.ret rfl
    simp only[dP,e,oBS,HA,ej hb,ej hz,if_neg hh];exact ih (k+1) N (by omega) (by omega)
 unfold eQ JB;delta dI
 try dsimp only
 rw[show dP eu NN (ss,a,bs,(bs.length:Int),0,bs,key,0,0,())=_ from key1 bs.length 0 NN (by omega) (by unfold NN;omega)]
 cases HA bs ss a bs.length 0 with
 | some x=>rfl
 | none=>rfl
def qT(bs ss:List Int) (key:Int) (c:DCe):DCn:=
 if c.1=0 then (0,c.2,0,0) else if c.1=2 then (2,wk .u16 (c.2 - key),0,0) else match JB bs ss c.2 with | some (r,o)=>(1,0,r,o) | none=>(1,0,-1,c.2)
theorem qC{K:Int→Prop}{bs ss:List Int}{key:Int}{c:DCe}(h:LV bs ss) (hc:mJ K c):gK bs key ss c.1 c.2=some ((qT bs ss key c).1,(qT bs ss key c).2.1,(qT bs ss key c).2.2.1,(qT bs ss key c).2.2.2,()):=by
 obtain⟨c0,c1,c2,c3,_⟩:=hc;unfold gK qT;rw[dO (x:=c.2) (by omega) (by omega)];dsimp only;rw[yp h ⟨c2,c3⟩]
 rcases (show c.1=0∨c.1=1∨c.1=2 by omega) with e | e | e<;>rw[e]
 ·rfl
 ·simp only[Int.reduceBEq,Int.reduceEq,cond_false,if_false,oBS]
  cases JB bs ss c.2 with
  | some x=>rfl
  | none=>rfl
 ·rfl
theorem md(x:Int):W16 (wk .u16 x):=nU x
theorem AC{bs ss:List Int}{key:Int}{c:DCe}(h:LV bs ss) (hc:mJ (RK bs ss) c):Pr ss (qT bs ss key c):=by
 obtain⟨c0,c1,c2,c3,c4⟩:=hc;unfold qT;rcases (show c.1=0∨c.1=1∨c.1=2 by omega) with e | e | e
 ·rw[if_pos e];exact .inl ⟨.inl rfl,rfl,rfl,c2,c3⟩
 ·rw[if_neg (by omega),if_neg (by omega)];obtain⟨r,o,hro⟩:=LG (c4 e);rw[hro];obtain⟨j,b,z,rfl,rfl,h1,h2,h3,h4⟩:=AW h.2.1 hro;exact .inr ⟨rfl,rfl,by dsimp only;omega,z,by rw[Int.toNat_natCast];exact h2,by dsimp only;omega,by dsimp only;omega⟩
 ·rw[if_neg (by omega),if_pos e];exact .inl ⟨.inr rfl,rfl,rfl,md _⟩
theorem EZ{K:Int→Prop}{bs ss:List Int}{key:Int}{c:DCe}(hc:mJ K c):(qT bs ss key c).1=c.1∧(c.1=0→(qT bs ss key c).2.1=c.2):=by
 obtain⟨c0,c1,_⟩:=hc;unfold qT;rcases (show c.1=0∨c.1=1∨c.1=2 by omega) with e | e | e
 ·rw[if_pos e];exact⟨e.symm,fun _=>rfl⟩
 ·rw[if_neg (by omega),if_neg (by omega)]
  cases JB bs ss c.2 with
  | some x=>exact⟨e.symm,fun h=>by omega⟩
  | none=>exact⟨e.symm,fun h=>by omega⟩
 ·rw[if_neg (by omega),if_pos e];exact⟨e.symm,fun h=>by omega⟩
def Db(cs:List DCe) (ls:List DLn) (a:Int):DCe:=
 match ls[(a / 4 % 4).toNat]? with
 | some x=>if x.1=a / 4 then x.2.2.getD (a % 4).toNat (0,0) else cs.getD a.toNat (0,0)
 | none=>(0,0)
theorem getD_some{α:Type}{l:List α}{k:Nat}{d x:α}(h:l[k]?=some x):l.getD k d=x:=by rw[List.getD_eq_getElem?_getD,h];rfl
theorem za{K:Int→Prop}{cs:List DCe}{ls:List DLn}{a:Int}(h:ki K cs ls) (ha:0≤a∧a < 512):lc cs ls a=some ((Db cs ls a).1,(Db cs ls a).2,())∧mJ K (Db cs ls a):=by
 obtain⟨a0,a1⟩:=ha;obtain⟨h1,h2,h3,h4⟩:=id h;unfold lc Db;rw[Int.tdiv_eq_ediv_of_nonneg a0,dL (x:=a / 4) (by omega) (by omega)];dsimp only;rw[Int.tmod_eq_emod_of_nonneg (show 0≤a / 4 by omega),Int.tmod_eq_emod_of_nonneg a0];obtain⟨i,hi⟩:∃i:Nat,a / 4 % 4=i:=⟨(a / 4 % 4).toNat,by omega⟩;rw[hi,dH,Int.toNat_natCast];obtain⟨x,hx⟩:∃x,ls[i]?=some x:=⟨_,oGE (by omega)⟩;simp only[oBS,show dF ls i=some x from hx,hx];by_cases hq:x.1=a / 4
 ·rcases h4 i x hx with ⟨g,_,_⟩ | ⟨_,_,_,g4,g5⟩
  ·omega
  ·obtain⟨j,hj⟩:∃j:Nat,a % 4=j:=⟨(a % 4).toNat,by omega⟩;obtain⟨y,hy⟩:∃y,x.2.2[j]?=some y:=⟨_,oGE (by omega)⟩;rw[hj,dH,Int.toNat_natCast,if_pos hq,getD_some hy,beq_iff_eq.2 hq];simp only[cond_true,oBS,show dF x.2.2 j=some y from hy];exact⟨trivial,g5 y (dK hy)⟩
 ·obtain⟨j,rfl⟩:∃j:Nat,a=j:=⟨a.toNat,by omega⟩;obtain⟨y,hy⟩:∃y,cs[j]?=some y:=⟨_,oGE (by omega)⟩;rw[if_neg hq,beq_eq_false_iff_ne.2 hq,dH,Int.toNat_natCast,getD_some hy];simp only[cond_false,oBS,show dF cs j=some y from hy];exact⟨trivial,h2 y (dK hy)⟩
def kB(call:Int):List Int:=
 if call=0∨call=8∨call=9∨call=11∨call=12 then [78] else if call=1∨call=2 then [72,80,78] else if call=3 then [78,78] else if call=4 then [72] else if call=5 then [72,78]
 else if call=10 then [78,88] else if call=13∨call=14 then [78,80,78] else []
theorem Ic(call:Int):(kB call).length≤3:=by
 unfold kB
 repeat' split
 all_goals simp
def BOk(b:ByteArray) (l:List Int):Prop:=yN b=(l.length:Int)∧∀j:Nat,yi b j=l[j]?
theorem N2:BOk (bytes []) []:=⟨rfl,fun j=>rfl⟩
theorem N0q{a:Nat}(h:a < 256):BOk (bytes [a]) [(a:Int)]:=⟨rfl,fun j=>by
 match j with
 | 0=>show some (((UInt8.ofNat a).toNat:Nat):Int)=some (a:Int);simp;omega
 | n+1=>rfl⟩
theorem NZ{a b:Nat}(h:a < 256) (hb:b < 256):BOk (bytes [a,b]) [(a:Int),(b:Int)]:=⟨rfl,fun j=>by
 match j with
 | 0=>show some (((UInt8.ofNat a).toNat:Nat):Int)=some (a:Int);simp;omega
 | 1=>show some (((UInt8.ofNat b).toNat:Nat):Int)=some (b:Int);simp;omega
 | n+2=>rfl⟩
theorem NY{a b c:Nat}(h:a < 256) (hb:b < 256) (hc:c < 256):BOk (bytes [a,b,c]) [(a:Int),(b:Int),(c:Int)]:=⟨rfl,fun j=>by
 match j with
 | 0=>show some (((UInt8.ofNat a).toNat:Nat):Int)=some (a:Int);simp;omega
 | 1=>show some (((UInt8.ofNat b).toNat:Nat):Int)=some (b:Int);simp;omega
 | 2=>show some (((UInt8.ofNat c).toNat:Nat):Int)=some (c:Int);simp;omega
 | n+3=>rfl⟩
theorem tI{call:Int}(h:0≤call∧call≤15):call=0∨call=1∨call=2∨call=3∨call=4∨call=5∨call=6∨call=7∨call=8∨call=9∨call=10∨call=11∨call=12∨call=13∨call=14∨call=15:=by omega
theorem zd{call:Int}(h:0≤call∧call≤15):∃b,jL call=some (b,())∧BOk b (kB call):=by
 rcases tI h with rfl | rfl | rfl | rfl | rfl | rfl | rfl | rfl | rfl | rfl | rfl | rfl | rfl | rfl | rfl | rfl
 all_goals first
  | exact⟨_,rfl,N2⟩
  | exact⟨_,rfl,N0q (by decide)⟩
  | exact⟨_,rfl,NZ (by decide) (by decide)⟩
  | exact⟨_,rfl,NY (by decide) (by decide) (by decide)⟩
def Ke(k t:Int):Bool:=if k=78 then t==0 else if k=72 then t==2 else if k=80 then t==1 else true
theorem Iw(k t:Int):la k t=some (Ke k t,()):=by
 unfold la Ke;by_cases h1:k=78
 ·simp[h1]
 ·by_cases h2:k=72
  ·simp[h2]
  ·by_cases h3:k=80
   ·simp[h3]
   ·simp[h1,h2,h3,beq_eq_false_iff_ne.2 h1,beq_eq_false_iff_ne.2 h2,beq_eq_false_iff_ne.2 h3]
def qD(call:Int):Int:=if call=1∨call=13 then 1 else if call=2∨call=14 then 2 else 0
theorem sR{call:Int}(h:0≤call∧call≤15):g9 call=some (qD call,()):=by
 rcases tI h with rfl | rfl | rfl | rfl | rfl | rfl | rfl | rfl | rfl | rfl | rfl | rfl | rfl | rfl | rfl | rfl<;>rfl
theorem uF{call:Int}(h:0≤call∧call≤15):gr call=some (((kB call).length:Int),()):=by
 obtain⟨b,e,hb⟩:=zd h;unfold gr;rw[decide_eq_false (show ¬ call < 0 by omega),decide_eq_false (show ¬ call > 15 by omega),e];simp only[cond_false,oBS,hb.1]
theorem Gx{bs ss:List Int}{key t v n:Int}(h:LV bs ss) (hv:W16 v) (hn:0≤n∧n≤65535):Ok (kG bs key ss t v n) fun r=>∃a e,r=(a,e,())∧(e=0→t=1∧a=v∧∃(j:Nat) (b z:Int),bs[j]?=some b∧ss[j]?=some z∧b≤v∧v+n≤b+z∧v < b+z):=by
 obtain⟨v0,v1⟩:=hv;unfold kG
 (with_reducible refine Ok.cb (fun hca=>?_) (fun hca=>?_))
 ·exact Ok.ret ⟨_,_,rfl,fun h=>by omega⟩
 rw[dO (x:=v) (by omega) (by omega)];dsimp only;rw[yp h ⟨v0,v1⟩];simp only[oBS]
 cases e:JB bs ss v with
 | none=>exact Ok.ret ⟨_,_,rfl,fun h=>by omega⟩
 | some x=>
  obtain⟨r,o⟩:=x;obtain⟨j,b,z,rfl,rfl,h1,h2,h3,h4⟩:=AW h.2.1 e;have hj:=(oGS h1).1;have hr:=h.2.2 j hj;unfold uT at hr;rw[ej h1,ej h2] at hr;have hz:=h.1.2.2 z (dK h2);dsimp only;rw[decide_eq_false (show ¬ n < 0 by omega),dH];simp only[Bool.not_true,cond_false,oBS,show dF ss j=some z from h2];rw[dL (x:=z - (v - b)) (by omega) (by omega)]
  (with_reducible refine Ok.cb (fun hcb=>?_) (fun hcb=>?_))
  ·exact Ok.ret ⟨_,_,rfl,fun h=>by omega⟩
  ·exact Ok.ret ⟨_,_,rfl,fun _=>⟨hca,dO (by omega) (by omega),j,b,z,h1,h2,h3,by omega,h4⟩⟩
structure IY (call:Int) (m:Int) (bs ss:List Int) (rs:List DCe):Prop where
 fit:∀(j:Nat) k c,(kB call)[j]?=some k→rs[j]?=some c→Ke k c.1=true
 buf:0 < qD call→∃p q,rs[1]?=some p∧rs[2]?=some q∧q.2≤16∧p.1=1∧∃(j:Nat) (b z:Int),bs[j]?=some b∧ss[j]?=some z∧b≤p.2∧p.2+q.2≤b+z
 code:call=10∨call=12→∃c,rs[0]?=some c∧c.2 < m
theorem D2{call m:Int}{bs ss:List Int}{rs:List DCe}(h:IY call m bs ss rs):Ok (some ((0:Int),())) fun r=>∃e,r=(e,())∧0≤e∧e≤6∧(e=0→IY call m bs ss rs):=Ok.ret ⟨0,rfl,by decide,by decide,fun _=>h⟩
theorem wJ{call m:Int}{bs ss:List Int}{rs:List DCe}:Ok (some ((6:Int),())) fun r=>∃e,r=(e,())∧0≤e∧e≤6∧(e=0→IY call m bs ss rs):=Ok.ret ⟨6,rfl,by decide,by decide,fun h=>absurd h (by decide)⟩
theorem Gl{n key:Int}{code:List DIn}{ss bs:List Int}{d:List (List Int)}{cs:List DCe}{ls:List DLn}{ts:List DTh}{i:Nat}{t:DTh}{x:DIn}(h:MOk n ss bs cs ls ts) (ht:ts[i]?=some t) (hp1:1≤t.2.2.1)
 (hx:code[(t.2.2.1 - 1).toNat]?=some x) (hc:0≤x.2.2.2.2∧x.2.2.2.2≤15):Ok (lH code ss d bs key cs ls ts (i:Int)) fun r=>∃e,r=(e,())∧0≤e∧e≤6∧(e=0→IY x.2.2.2.2 code.length bs ss t.2.1):=by
 have hok:=h.thr t (dK ht);obtain⟨_,hl,hr,⟨p0,p1⟩,_⟩:=id hok;obtain⟨o,A,B,C,call⟩:=x;dsimp only at hc ⊢;obtain⟨b,eb,hb1,hb2⟩:=zd hc;have hk3:=Ic call;obtain⟨st,rs,pc,rest⟩:=t;dsimp only at *;obtain⟨j,hj⟩:∃j:Nat,pc - 1=j:=⟨(pc - 1).toNat,by omega⟩;rw[hj,Int.toNat_natCast] at hx;unfold lH;rw[dH];simp only[oBS,show dF ts i=some (st,rs,pc,rest) from ht];rw[dL (x:=pc - 1) (by omega) (by omega),hj,dH];simp only[oBS,show dF code j=some (o,A,B,C,call) from hx,eb,hb1];obtain⟨c0,hc0⟩:∃c,rs[0]?=some c:=⟨_,oGE (by omega)⟩;obtain⟨c1,hc1⟩:∃c,rs[1]?=some c:=⟨_,oGE (by omega)⟩;obtain⟨c2,hc2⟩:∃c,rs[2]?=some c:=⟨_,oGE (by omega)⟩;have v0:=hr c0 (dK hc0);have v1:=hr c1 (dK hc1);have v2:=hr c2 (dK hc2);have g0:dF rs 0=some c0:=hc0;have g1:dF rs 1=some c1:=hc1;have g2:dF rs 2=some c2:=hc2
 obtain⟨y,e,hy⟩:=Ok.iter (f:=lr) (n:=NN) (s:=(call,b,((kB call).length:Int),0,code,ss,d,bs,key,cs,ls,ts,st,rs,pc,rest.1,rest.2.1,rest.2.2.1,rest.2.2.2.1,rest.2.2.2.2,()))
  (P:=fun s'=>∃q:Nat,s'=(call,b,((kB call).length:Int),(q:Int),code,ss,d,bs,key,cs,ls,ts,st,rs,pc,rest.1,rest.2.1,rest.2.2.1,rest.2.2.2.1,rest.2.2.2.2,())∧q≤(kB call).length∧∀(j:Nat) k c,j < q→(kB call)[j]?=some k→rs[j]?=some c→Ke k c.1=true)
  (R:=fun r=>r=.inl (6,())∨(∃q,r=.inr (call,b,((kB call).length:Int),q,false,code,ss,d,bs,key,cs,ls,ts,st,rs,pc,rest.1,rest.2.1,rest.2.2.1,rest.2.2.2.1,rest.2.2.2.2,())∧∀(j:Nat) k c,(kB call)[j]?=some k→rs[j]?=some c→Ke k c.1=true))
  (m:=fun s'=>(s'.2.2.1 - s'.2.2.2.1).toNat) ⟨0,rfl,by omega,fun j k c hj=>by omega⟩ (by unfold NN;dsimp only;omega) (by
   rintro _ ⟨q,rfl,hq,hfit⟩;unfold lr;dsimp only
   (with_reducible refine Ok.cb (fun hca=>?_) (fun hca=>?_))
   ·rw[dH];obtain⟨k,hk⟩:∃k,(kB call)[q]?=some k:=⟨_,oGE (by omega)⟩;obtain⟨c,hcq⟩:∃c,rs[q]?=some c:=⟨_,oGE (by omega)⟩;simp only[oBS,hb2 q,hk,show dF rs q=some c from hcq,Iw]
    (with_reducible refine Ok.cb (fun hcb=>?_) (fun hcb=>?_))
    ·exact Ok.ret (.inl rfl)
    ·rw[dL (x:=(q:Int)+1) (by omega) (by omega)];refine Ok.ret ⟨⟨q+1,rfl,by omega,fun j' k' c' hj' h1 h2=>?_⟩,by dsimp only;omega⟩;by_cases hjq:j'=q
     ·subst hjq;rw[hk] at h1;rw[hcq] at h2;cases h1;cases h2;exact hcb
     ·exact hfit j' k' c' (by omega) h1 h2
   ·refine Ok.ret (.inr ⟨_,rfl,fun j k c h1 h2=>hfit j k c ?_ h1 h2⟩);have:=(oGS h1).1
    omega)
 rw[e];rcases hy with rfl | ⟨q,rfl,hfit⟩
 ·exact wJ
 dsimp only;rw[sR hc];delta dI;simp only[oBS,g0,g1,g2];rw[dO (x:=c2.2) (by have:=v2.2.2.1;omega) (by have:=v2.2.2.2.1;omega),dO (x:=c0.2) (by have:=v0.2.2.1;omega) (by have:=v0.2.2.2.1;omega)]
 have fin:(0 < qD call→∃p q,rs[1]?=some p∧rs[2]?=some q∧q.2≤16∧p.1=1∧∃(j:Nat) (b z:Int),bs[j]?=some b∧ss[j]?=some z∧b≤p.2∧p.2+q.2≤b+z)→Ok ((bif (call==10) then (some ((decide (c0.2≥(code.length:Int))),())) else
  bif (call==12) then (some ((decide (c0.2≥(code.length:Int))),())) else some (false,()):Option (Bool×Unit)).bind fun(x35,_)=>bif x35 then (some ((6:Int),())) else some (0,()))
  fun r=>∃e,r=(e,())∧0≤e∧e≤6∧(e=0→IY call code.length bs ss rs):=by
  intro hbuf;by_cases q10:call=10
  ·simp only[beq_iff_eq.2 q10,cond_true,oBS]
   (with_reducible refine Ok.cb (fun hcb=>?_) (fun hcb=>?_))
   ·exact wJ
   ·exact D2 ⟨hfit,hbuf,fun _=>⟨c0,hc0,by omega⟩⟩
  ·by_cases q12:call=12
   ·simp only[beq_eq_false_iff_ne.2 q10,beq_iff_eq.2 q12,cond_true,cond_false,oBS]
    (with_reducible refine Ok.cb (fun hcb=>?_) (fun hcb=>?_))
    ·exact wJ
    ·exact D2 ⟨hfit,hbuf,fun _=>⟨c0,hc0,by omega⟩⟩
   ·simp only[beq_eq_false_iff_ne.2 q10,beq_eq_false_iff_ne.2 q12,cond_false,oBS];exact D2 ⟨hfit,hbuf,fun h=>by omega⟩
 (with_reducible refine Ok.cb (fun hca=>?_) (fun hca=>?_))
 ·refine (Gx (t:=c1.1) (v:=c1.2) (n:=c2.2) h.lay ⟨v1.2.2.1,v1.2.2.2.1⟩ ⟨v2.2.2.1,v2.2.2.2.1⟩).bind ?_;rintro _ ⟨a,e,rfl,he⟩;dsimp only
  (with_reducible refine Ok.cb (fun hcb=>?_) (fun hcb=>?_))
  ·exact wJ
  obtain⟨w1,_,j,b',z,w2,w3,w4,w5,w6⟩:=he hcb
  (with_reducible refine Ok.cb (fun hcc=>?_) (fun hcc=>?_))
  ·exact wJ
  exact fin fun _=>⟨c1,c2,hc1,hc2,by omega,w1,j,b',z,w2,w3,w4,w5⟩
 ·exact fin fun h=>by omega
structure yb (n:Int) (ss:List Int) (i stop trap count pc call:Int) (args data:List DCn):Prop where
 hthr:0≤i∧i < 4
 hstop:0≤stop∧stop≤3
 htrap:0≤trap∧trap≤6
 hcnt:0≤count∧count≤n
 hpc:0≤pc∧pc≤255
 hcall:0≤call∧call≤15
 hargs:args.length≤3∧∀c∈args,Pr ss c
 hdata:data.length≤16∧∀c∈data,Pr ss c
 hkind:stop=1→args.length=(kB call).length∧∀(j:Nat) k a,(kB call)[j]?=some k→args[j]?=some a→Ke k a.1=true
 hbuf:stop=1→qD call=2→∃a,args[2]?=some a∧a.2.1≤16
def N9(stop trap:Int) (t':DTh):Prop:=(stop=0∧t'.1=1)∨(stop=1∧t'.1=2)∨(stop=2∧t'.1=4∧t'.2.2.2.2.2.2.1=trap)∨(stop=3∧t'.1≠1)
def E7(n key:Int) (ss bs:List Int) (ts:List DTh) (i:Nat) (r:(List (Int))×Int×(List DCe)×(List DLn)×(List DTh)×Int×Int×Int×Int×Int×Int×(List DCn)×(List DCn)×Int×Unit):Prop:=
 ∃cs' ls' t' stop trap call args data,r=(bs,key,cs',ls',ts.set i t',(i:Int),stop,trap,t'.2.2.2.1,t'.2.2.1,call,args,data,0,())∧ki (RK bs ss) cs' ls'∧w7 (RK bs ss) n t' ∧
  yb n ss i stop trap t'.2.2.2.1 t'.2.2.1 call args data∧N9 stop trap t'∧(stop=3→ts[i]?=some t')
theorem uW{n:Int}{ss bs:List Int}{i:Nat}{t':DTh}{stop trap:Int}(hi:i < 4) (ht:w7 (RK bs ss) n t') (hs:0≤stop∧stop≤3) (hs1:stop≠1) (htr:0≤trap∧trap≤6):yb n ss i stop trap t'.2.2.2.1 t'.2.2.1 0 [] []:=
 ⟨⟨by omega,by omega⟩,hs,htr,ht.count,ht.pc,by decide,⟨by decide,dX⟩,⟨by decide,dX⟩,fun h=>absurd h hs1,fun h=>absurd h hs1⟩
theorem gO{α β:Type}(f:α→β) {l:List α}{k:Nat}{x:α}(h:l[k]?=some x):(l.take k).map f++[f x]=(l.take (k+1)).map f:=by
 rw[List.take_add_one,h];simp
theorem nn{β:Type}(f:Nat→β) (k:Nat):(List.range k).map f++[f k]=(List.range (k+1)).map f:=by
 rw[List.range_succ];simp
set_option maxHeartbeats 4000000 in
theorem vm{n key k:Int}{code:List DIn}{ss bs:List Int}{d:List (List Int)}{cs:List DCe}{ls:List DLn}{ts:List DTh}{i:Nat}(hp:km code ss d) (h:MOk n ss bs cs ls ts) (hn0:0≤n) (hn:n+64≤1099511627776) (hi:i < 4) (hk:1≤k∧k≤64) :
 Ok (lb code ss d bs key cs ls ts (i:Int) k) (E7 (n+64) key ss bs ts i):=by
 have htl:=h.tlen
 have hil:i < ts.length:=by omega
 unfold lb;refine (Jd hp h hn0 hn hi hk).bind ?_;rintro _ ⟨s,cs',ls',t',rfl,hm,ht',hs⟩;have hM:MOk (n+64) ss bs cs' ls' (ts.set i t'):=(h.mono (show n≤n+64 by omega)).set hm ht';have hgt:(ts.set i t')[i]?=some t':=gu hil t';dsimp only;simp only[bne_self_eq_false,cond_false,dH,oBS,gu hil];rcases hs with ⟨rfl,hs1,hs2⟩ | ⟨rfl,hs1⟩ | ⟨rfl,hs1⟩ | ⟨rfl,hs1,x,hs2,hs3,hs4⟩
 ·exact Ok.ret ⟨_,_,_,_,_,_,_,_,rfl,hm,ht',uW hi ht' (by decide) (by decide) (by decide),.inr (.inr (.inr ⟨rfl,hs2⟩)),fun _=>hs1⟩
 ·exact Ok.ret ⟨_,_,_,_,_,_,_,_,rfl,hm,ht',uW hi ht' (by decide) (by decide) (by decide),.inl ⟨rfl,hs1⟩,fun h=>absurd h (by decide)⟩
 ·exact Ok.ret ⟨_,_,_,_,_,_,_,_,rfl,hm,ht',uW hi ht' (by decide) (by decide) ht'.trap,.inr (.inr (.inl ⟨rfl,hs1,rfl⟩)),fun h=>absurd h (by decide)⟩
 ·have hins:=hp.ins x (dK hs3);have hcall:0≤x.2.2.2.2∧x.2.2.2.2≤15:=⟨hins.imm.1,hins.sys hs4⟩;obtain⟨_,ec,e,rfl,he0,he6,hcok⟩:=Gl (key:=key) (d:=d) hM hgt hs2 hs3 hcall;obtain⟨o,A,B,C,call⟩:=x;dsimp only at hcall hcok;have hk3:=Ic call;have hl8:=ht'.len;obtain⟨j,hj⟩:∃j:Nat,t'.2.2.1 - 1=j:=⟨(t'.2.2.1 - 1).toNat,by omega⟩;have hpc:=ht'.pc;rw[hj,Int.toNat_natCast] at hs3;rw[dL (x:=t'.2.2.1 - 1) (by omega) (by omega),hj];simp only[Int.reduceBEq,cond_true,cond_false,ec,oBS,dH,show dF code j=some (o,A,B,C,call) from hs3,uF hcall];by_cases hne:e=0
  ·subst hne;obtain⟨hfit,hbuf,_⟩:=hcok rfl
   have e1:dP ij NN (((kB call).length:Int),0,code,ss,d,(),0,(),(),(),0,0,0,0,0,0,(),(),bs,key,cs',ls',ts.set i t',t'.1,t'.2.1,t'.2.2.1,t'.2.2.2.1,t'.2.2.2.2.1,t'.2.2.2.2.2.1,t'.2.2.2.2.2.2.1,t'.2.2.2.2.2.2.2,(i:Int),1,0,t'.2.2.2.1,t'.2.2.1,call,[],(),()) =
    some (((kB call).length:Int),((kB call).length:Int),false,code,ss,d,(),0,(),(),(),0,0,0,0,0,0,(),(),bs,key,cs',ls',ts.set i t',t'.1,t'.2.1,t'.2.2.1,t'.2.2.2.1,t'.2.2.2.2.1,t'.2.2.2.2.2.1,t'.2.2.2.2.2.2.1,t'.2.2.2.2.2.2.2,(i:Int),1,0,t'.2.2.2.1,t'.2.2.1,call,(t'.2.1.take (kB call).length).map (qT bs ss key),(),()):=by
    refine mr (f:=ij) (N:=NN) (st:=fun q=>(((kB call).length:Int),(q:Int),code,ss,d,(),0,(),(),(),0,0,0,0,0,0,(),(),bs,key,cs',ls',ts.set i t',t'.1,t'.2.1,t'.2.2.1,t'.2.2.2.1,t'.2.2.2.2.1,t'.2.2.2.2.2.1,t'.2.2.2.2.2.2.1,t'.2.2.2.2.2.2.2,(i:Int),1,0,t'.2.2.2.1,t'.2.2.1,call,(t'.2.1.take q).map (qT bs ss key),(),())) (n:=(kB call).length) (by unfold NN;omega) ?_ ?_
    ·intro q hq;unfold ij;dsimp only;rw[decide_eq_true (show (q:Int) < (kB call).length by omega),dH];simp only[cond_true,oBS];refine Ok.get (by omega) fun c hc=>?_;rw[qC h.lay (ht'.regs c (dK hc))];simp only[oBS];refine Ok.need (dN (by simp;omega)) ?_;rw[dL (x:=(q:Int)+1) (by omega) (by omega)];refine Ok.ret ?_;rw[← gO (qT bs ss key) hc];rfl
    ·unfold ij;dsimp only;rw[decide_eq_false (show ¬ ((kB call).length:Int) < (kB call).length by omega)];exact Ok.ret rfl
   have hargs:((t'.2.1.take (kB call).length).map (qT bs ss key)).length=(kB call).length:=by rw[List.length_map,List.length_take];omega
   have hgetA:∀(j:Nat) a,((t'.2.1.take (kB call).length).map (qT bs ss key))[j]?=some a→∃c,t'.2.1[j]?=some c∧a=qT bs ss key c:=by
    intro j a ha;rw[List.getElem?_map] at ha
    cases hc:(t'.2.1.take (kB call).length)[j]? with
    | none=>rw[hc] at ha;cases ha
    | some c=>
     rw[hc] at ha
     injection ha with ha
     refine⟨c,?_,ha.symm⟩;rw[List.getElem?_take] at hc;split at hc
     ·exact hc
     ·cases hc
   have hargsPr:∀c∈(t'.2.1.take (kB call).length).map (qT bs ss key),Pr ss c:=by
    intro c hc;obtain⟨c',hc',rfl⟩:=List.mem_map.1 hc;exact AC h.lay (ht'.regs c' (List.mem_of_mem_take hc'))
   have hkinds:∀(j:Nat) k a,(kB call)[j]?=some k→((t'.2.1.take (kB call).length).map (qT bs ss key))[j]?=some a→Ke k a.1=true:=by
    intro j k a hk ha;obtain⟨c,hc,rfl⟩:=hgetA j a ha;rw[(EZ (ht'.regs c (dK hc))).1];exact hfit j k c hk hc
   have hbuf2:qD call=2→∃a,((t'.2.1.take (kB call).length).map (qT bs ss key))[2]?=some a∧a.2.1≤16:=by
    intro hb;obtain⟨p,q,hp1,hq2,hq16,_⟩:=hbuf (by omega)
    have hkk:(kB call)[2]?=some 78:=by
     have:call=2∨call=14:=by unfold qD at hb;split at hb<;>first | omega | (split at hb<;>omega)
     rcases this with rfl | rfl<;>rfl
    have hf:=hfit 2 78 q hkk hq2;have hl3:=(oGS hkk).1;refine⟨qT bs ss key q,?_,?_⟩
    ·rw[List.getElem?_map,List.getElem?_take,if_pos hl3,hq2];rfl
    ·have hq:=(EZ (bs:=bs) (ss:=ss) (key:=key) (ht'.regs q (dK hq2))).2 (by unfold Ke at hf;simpa using hf);rw[hq];exact hq16
   simp only[e1,bne_self_eq_false,cond_false,oBS,sR hcall]
   have fin:∀data:List DCn,data.length≤16→(∀c∈data,Pr ss c)→Ok (some (bs,key,cs',ls',ts.set i t',(i:Int),(1:Int),(0:Int),t'.2.2.2.1,t'.2.2.1,call,(t'.2.1.take (kB call).length).map (qT bs ss key),data,(0:Int),())) (E7 (n+64) key ss bs ts i):=
    fun data h1 h2=>Ok.ret ⟨_,_,_,_,_,_,_,_,rfl,hm,ht',⟨⟨by omega,by omega⟩,by decide,by decide,ht'.count,ht'.pc,hcall,⟨by omega,hargsPr⟩,⟨h1,h2⟩,fun _=>⟨hargs,hkinds⟩,fun _=>hbuf2⟩,.inr (.inl ⟨rfl,hs1⟩),fun h=>absurd h (by decide)⟩
   by_cases hb1:qD call=1
   ·obtain⟨p,q,hp1,hq2,hq16,_,jr,b,z,hbz1,hbz2,hbz3,hbz4⟩:=hbuf (by omega);have hp':=ht'.regs p (dK hp1);have hq':=ht'.regs q (dK hq2);have hjr:=(oGS hbz1).1;have hreg:=h.lay.2.2 jr hjr;unfold uT at hreg;rw[ej hbz1,ej hbz2] at hreg;obtain⟨m,hqm⟩:∃m:Nat,q.2=m:=⟨q.2.toNat,by have:=hq'.2.2.1;omega⟩
    have e2:dP ii NN ((m:Int),0,code,ss,d,(),0,(),(),(),0,0,0,0,0,0,(),(),bs,key,cs',ls',ts.set i t',t'.1,t'.2.1,t'.2.2.1,t'.2.2.2.1,t'.2.2.2.2.1,t'.2.2.2.2.2.1,t'.2.2.2.2.2.2.1,t'.2.2.2.2.2.2.2,(i:Int),1,0,t'.2.2.2.1,t'.2.2.1,call,(t'.2.1.take (kB call).length).map (qT bs ss key),[],()) =
     some ((m:Int),(m:Int),false,code,ss,d,(),0,(),(),(),0,0,0,0,0,0,(),(),bs,key,cs',ls',ts.set i t',t'.1,t'.2.1,t'.2.2.1,t'.2.2.2.1,t'.2.2.2.2.1,t'.2.2.2.2.2.1,t'.2.2.2.2.2.2.1,t'.2.2.2.2.2.2.2,(i:Int),1,0,t'.2.2.2.1,t'.2.2.1,call,(t'.2.1.take (kB call).length).map (qT bs ss key),(List.range m).map (fun j:Nat=>qT bs ss key (Db cs' ls' (p.2+(j:Int)))),()):=by
     refine mr (f:=ii) (N:=NN) (st:=fun q=>((m:Int),(q:Int),code,ss,d,(),0,(),(),(),0,0,0,0,0,0,(),(),bs,key,cs',ls',ts.set i t',t'.1,t'.2.1,t'.2.2.1,t'.2.2.2.1,t'.2.2.2.2.1,t'.2.2.2.2.2.1,t'.2.2.2.2.2.2.1,t'.2.2.2.2.2.2.2,(i:Int),1,0,t'.2.2.2.1,t'.2.2.1,call,(t'.2.1.take (kB call).length).map (qT bs ss key),(List.range q).map (fun j:Nat=>qT bs ss key (Db cs' ls' (p.2+(j:Int)))),())) (n:=m) (by unfold NN;omega) ?_ ?_
     ·intro v hv;unfold ii;dsimp only;have hp0:=hp'.2.2.1;have hp01:=hp'.2.2.2.1;rw[decide_eq_true (show (v:Int) < m by omega)];simp only[cond_true,oBS,show dF t'.2.1 1=some p from hp1];rw[dO (x:=p.2) (by omega) (by omega),dL (x:=p.2+v) (by omega) (by omega)];obtain⟨hlk,hlv⟩:=za (a:=p.2+v) hm ⟨by omega,by omega⟩;rw[hlk];simp only[oBS];rw[qC h.lay hlv];simp only[oBS];refine Ok.need (dN (by simp;omega)) ?_;rw[dL (x:=(v:Int)+1) (by omega) (by omega)];refine Ok.ret ?_;rw[← nn];rfl
     ·unfold ii;dsimp only;rw[decide_eq_false (show ¬ (m:Int) < m by omega)];exact Ok.ret rfl
    simp only[hb1,BEq.rfl,cond_true,show dF t'.2.1 2=some q from hq2,oBS];rw[dO (x:=q.2) (by omega) (by omega),hqm,e2];simp only[oBS];refine fin _ (by rw[List.length_map,List.length_range];omega) ?_;intro c hc;obtain⟨v,hv,rfl⟩:=List.mem_map.1 hc;have hv:=List.mem_range.1 hv;have hp0:=hp'.2.2.1;exact AC h.lay (za (a:=p.2+v) hm ⟨by omega,by omega⟩).2
   ·simp only[beq_eq_false_iff_ne.2 hb1,cond_false];exact fin [] (by decide) dX
  ·unfold io gd;simp only[bne_iff_ne.2 hne,cond_true];rw[dN (show 4≤1000∧0+t'.2.1.length≤1000000 by omega)];simp only[cond_true,oBS,dH,gu hil,nH hil];exact Ok.ret ⟨_,_,_,_,_,_,_,_,rfl,hm,ht'.ended ⟨he0,he6⟩,uW hi (ht'.ended ⟨he0,he6⟩) (by decide) (by decide) ⟨he0,he6⟩,.inr (.inr (.inl ⟨rfl,rfl,rfl⟩)),fun h=>absurd h (by decide)⟩
theorem Da{a b:Int}:mmR false a b≤a∧mmR false a b≤b∧(mmR false a b=a∨mmR false a b=b):=by
 unfold mmR;simp only[Bool.false_eq_true,if_false];split<;>omega
theorem kv{α:Type}{l:List α}{i j:Nat}(h:i≠j) (a:α):(l.set i a)[j]?=l[j]?:=by
 rw[List.getElem?_set];simp[h]
theorem Mm.setFile{d:List (List DCn)}{o:DOp}{f:Nat}{x y:List DCn}(h:Mm d o) (hf:d[f]?=some x) (hxy:x.length≤y.length):Mm (d.set f y) o:=by
 rcases h with h | ⟨h1,z,h2,h3,h4⟩
 ·exact .inl h
 ·refine .inr ⟨h1,?_⟩;by_cases e:f=o.1.toNat
  ·subst e;rw[hf] at h2;cases h2;exact⟨y,gu (oGS hf).1 y,h3,by omega⟩
  ·exact⟨z,by rw[kv e];exact h2,h3,h4⟩
theorem fj.setFile{ss:List Int}{d:List (List DCn)}{os:List DOp}{f:Nat}{x y:List DCn}(h:fj ss d os) (hf:d[f]?=some x) (h64:y.length≤64) (hc:∀c∈y,Pr ss c) (hxy:x.length≤y.length):fj ss (d.set f y) os:=
 ⟨by rw[List.length_set];exact h.dlen,ix h.flen h64,ix h.cells hc,h.olen,fun o ho=>(h.opens o ho).setFile hf hxy⟩
theorem fj.setOpen{ss:List Int}{d:List (List DCn)}{os:List DOp}{i:Nat}{o:DOp}(h:fj ss d os) (ho:Mm d o):fj ss d (os.set i o):=
 ⟨h.dlen,h.flen,h.cells,by rw[List.length_set];exact h.olen,ix h.opens ho⟩
theorem yY{ss:List Int}{d:List (List DCn)}{os:List DOp}{h:Int}(hF:fj ss d os):∃b,gD d os h=some (b,())∧(b=true→∃(j f:Nat) (o:DOp) (x:List DCn),h=j∧j < 8∧os[j]?=some o∧o.1=f∧d[f]?=some x∧0≤o.2.1∧o.2.1≤x.length):=by
 have:Ok (gD d os h) fun r=>∃b,r=(b,())∧(b=true→∃(j f:Nat) (o:DOp) (x:List DCn),h=j∧j < 8∧os[j]?=some o∧o.1=f∧d[f]?=some x∧0≤o.2.1∧o.2.1≤x.length):=by
  unfold gD;delta dI;simp only[hF.olen]
  (with_reducible refine Ok.cb (fun hca=>?_) (fun hca=>?_))
  ·(with_reducible refine Ok.cb (fun hcb=>?_) (fun hcb=>?_))
   ·refine Ok.nat (by omega) fun j hj=>?_;have h8:=hF.olen;refine Ok.get (by omega) fun o ho=>?_;refine Ok.ret ⟨_,rfl,fun hb=>?_⟩;rcases hF.opens o (dK ho) with ⟨h1,_⟩ | ⟨h1,x,h2,h3,h4⟩
    ·rw[h1] at hb;simp at hb
    ·exact⟨j,o.1.toNat,o,x,hj,by omega,ho,by omega,h2,h3,h4⟩
   ·exact Ok.ret ⟨_,rfl,fun h=>by cases h⟩
  ·exact Ok.ret ⟨_,rfl,fun h=>by cases h⟩
 obtain⟨_,e,b,rfl,hb⟩:=this;exact⟨b,e,hb⟩
theorem sr{ss:List Int}{d:List (List DCn)}{os:List DOp}(h:fj ss d os):fF d os=some (d,os,()):=
 copy17_ok (by have:=h.dlen;omega) (fun x hx=>by have:=h.flen x hx;omega) (by have:=h.olen;omega)
theorem Fd{ss:List Int}{d:List (List DCn)}{os:List DOp}{h:Int}{l:List DCn}(hs:w8 ss) (hF:fj ss d os) (hl:l.length≤16) (hlc:∀c∈l,Pr ss c) :
 Ok (lB d os h l) fun r=>∃d' os' n b,r=(d',os',n,b,())∧fj ss d' os'∧0≤n∧n≤16:=by
 obtain⟨b,eo,hb⟩:=yY (h:=h) hF;unfold lB;rw[sr hF];simp only[oBS,eo]
 cases b with
 | false=>
  simp only[Bool.not_false,cond_true,oBS];exact Ok.ret ⟨_,_,_,_,rfl,hF,by decide,by decide⟩
 | true=>
  obtain⟨j,f,o,x,rfl,hj,ho,hof,hx,o0,o1⟩:=hb rfl;have hg:dF os j=some o:=ho;have hgx:dF d f=some x:=hx;have hjl:=(oGS ho).1;have hfl:=(oGS hx).1;have hx64:=hF.flen x (dK hx);simp only[Bool.not_true,cond_false,dH,oBS,hg]
  cases hw:o.2.2 with
  | false=>
   simp only[Bool.not_false,cond_true,oBS];exact Ok.ret ⟨_,_,_,_,rfl,hF,by decide,by decide⟩
  | true=>
   delta dI;simp only[Bool.not_true,cond_false,oBS,jv (n:=(l.length:Int)) hs hlc (by omega) (by omega),dH,hg,hof,hgx];rw[dL (x:=64 - o.2.1) (by omega) (by omega)];obtain⟨m1,m2,m3⟩:=Da (a:=(l.length:Int)) (b:=64 - o.2.1);generalize mmR false (l.length:Int) (64 - o.2.1)=k at m1 m2 m3
   refine Ok.loop (P:=fun s'=>∃(i:Nat) (y:List DCn),s'=(l,j,k,k,(i:Int),(),(),d,f,os,y,())∧(i:Int)≤k∧(∀c∈y,Pr ss c)∧x.length≤y.length∧o.2.1+i≤y.length∧y.length≤64)
    (R:=fun r=>∃y:List DCn,r=(l,j,k,k,k,false,(),(),d,f,os,y,())∧(∀c∈y,Pr ss c)∧x.length≤y.length∧o.2.1+k≤y.length∧y.length≤64) (m:=fun s'=>(k - s'.2.2.2.2.1).toNat) ⟨0,x,rfl,by omega,hF.cells x (dK hx),by omega,by omega,hx64⟩ (by unfold NN;dsimp only;omega) ?_ ?_
   ·rintro _ ⟨i,y,rfl,hi,hy,hxy,hoy,hy64⟩;unfold oU;dsimp only
    (with_reducible refine Ok.cb (fun hca=>?_) (fun hca=>?_))
    ·delta dI;simp only[hg,oBS,dH];rw[dL (x:=o.2.1+i) (by omega) (by omega)];obtain⟨c,hc⟩:∃c,l[i]?=some c:=⟨_,oGE (by omega)⟩;have hgc:dF l i=some c:=hc;have hcp:=hlc c (dK hc);simp only[hgc,oBS];refine Ok.bind (P:=fun r=>∃y':List DCn,r=(l,j,k,k,(i:Int),(),(),d,f,os,y',())∧(∀c∈y',Pr ss c)∧x.length≤y'.length∧o.2.1+i+1≤y'.length∧y'.length≤64) ?_ ?_
     ·(with_reducible refine Ok.cb (fun hcb=>?_) (fun hcb=>?_))
      ·refine Ok.nat (by omega) fun q hq=>?_;refine Ok.get (by omega) fun _ hz=>?_;refine Ok.get (by omega) fun _ _=>?_;rw[dZ hz];exact Ok.ret ⟨_,rfl,ix hy hcp,by rw[List.length_set];omega,by rw[List.length_set];omega,by rw[List.length_set];omega⟩
      ·refine Ok.need (dN (by simp;omega)) ?_;exact Ok.ret ⟨_,rfl,iQ hy (all_cons hcp dX),by rw[eK];omega,by rw[eK,List.length_singleton];omega,by rw[eK,List.length_singleton];omega⟩
     ·rintro _ ⟨y',rfl,g1,g2,g3,g4⟩;dsimp only;rw[dL (x:=(i:Int)+1) (by omega) (by omega)];exact Ok.ret ⟨⟨i+1,y',rfl,by omega,g1,g2,by omega,g4⟩,by dsimp only;omega⟩
    ·obtain rfl:(i:Int)=k:=by omega
     exact Ok.ret ⟨y,rfl,hy,hxy,hoy,hy64⟩
   ·rintro _ ⟨y,rfl,hy,hxy,hoy,hy64⟩;dsimp only;simp only[hg,oBS,hof,dH,hgx];refine Ok.need (by simp) ?_;rw[dL (x:=o.2.1+k) (by omega) (by omega),dZ hx,dZ ho];refine Ok.ret ⟨_,_,_,_,rfl,(hF.setFile hx hy64 hy hxy).setOpen (.inr ⟨by dsimp only;omega,y,?_,by dsimp only;omega,by dsimp only;omega⟩),by omega,by omega⟩;dsimp only;rw[hof,Int.toNat_natCast];exact gu hfl y
theorem HD{ss:List Int}{d:List (List DCn)}{os:List DOp}{h n:Int}(hF:fj ss d os) (hn:0≤n∧n≤65535) :
 Ok (mT d os h n) fun r=>(∃d' os',r=.inl (d',os',(),false,())∧fj ss d' os')∨(∃d' os' l,r=.inr (d',os',l,true,())∧fj ss d' os'∧(l.length:Int)≤n∧l.length≤64∧∀c∈l,Pr ss c):=by
 obtain⟨b,eo,hb⟩:=yY (h:=h) hF;unfold mT;rw[sr hF];simp only[oBS,eo]
 cases b with
 | false=>
  simp only[Bool.not_false,cond_true,oBS];exact Ok.ret (.inl ⟨_,_,rfl,hF⟩)
 | true=>
  obtain⟨j,f,o,x,rfl,hj,ho,hof,hx,o0,o1⟩:=hb rfl;have hg:dF os j=some o:=ho;have hgx:dF d f=some x:=hx;have hx64:=hF.flen x (dK hx);rw[decide_eq_false (show ¬ n < 0 by omega)];simp only[Bool.not_true,cond_false,dH,oBS,hg]
  cases hw:o.2.2 with
  | true=>exact Ok.ret (.inl ⟨_,_,rfl,hF⟩)
  | false=>
   delta dI;simp only[cond_false,dH,oBS,hg,hof,hgx];rw[dL (x:=(x.length:Int) - o.2.1) (by omega) (by omega)];obtain⟨m1,m2,m3⟩:=Da (a:=n) (b:=(x.length:Int) - o.2.1);generalize mmR false n ((x.length:Int) - o.2.1)=k at m1 m2 m3;rw[dL (x:=o.2.1+k) (by omega) (by omega)];refine Ok.nat o0 fun p hp=>?_;refine Ok.nat (by omega) fun q hq=>?_;refine Ok.need (by unfold jU;simp;omega) ?_
   have hw2:(mN x p (Nat.sub q p)).length=q - p:=by
    unfold mN;rw[List.length_take,List.length_drop];show min (q - p) _=q - p;omega
   refine Ok.need (dN (by omega)) ?_;rw[dZ ho];refine Ok.ret (.inr ⟨_,_,_,rfl,hF.setOpen (.inr ⟨by dsimp only;omega,x,by dsimp only;rw[hof,Int.toNat_natCast];exact hx,by dsimp only;omega,by dsimp only;omega⟩),?_,?_,?_⟩)
   ·rw[eK,hw2];simp;omega
   ·rw[eK,hw2];simp;omega
   ·refine iQ dX fun c hc=>hF.cells x (dK hx) c ?_;unfold mN at hc;exact List.mem_of_mem_drop (List.mem_of_mem_take hc)
theorem Gg{ss:List Int}{d:List (List DCn)}{os:List DOp}{h:Int}(hF:fj ss d os):Ok (lC d os h) fun r=>∃d' os' b,r=(d',os',b,())∧fj ss d' os':=by
 obtain⟨b,eo,hb⟩:=yY (h:=h) hF;unfold lC;rw[sr hF];simp only[oBS,eo]
 cases b with
 | false=>exact Ok.ret ⟨_,_,_,rfl,hF⟩
 | true=>
  obtain⟨j,f,o,x,rfl,hj,ho,hof,hx,o0,o1⟩:=hb rfl;have hg:dF os j=some o:=ho;simp only[Bool.not_true,cond_false,dH,oBS,hg];rw[dZ ho];exact Ok.ret ⟨_,_,_,rfl,hF.setOpen (.inl ⟨rfl,rfl,rfl⟩)⟩
theorem Hp{ss:List Int}{d:List (List DCn)}{os:List DOp}{h n:Int}(hF:fj ss d os):Ok (mS d os h n) fun r=>∃d' os' b,r=(d',os',b,())∧fj ss d' os':=by
 obtain⟨b,eo,hb⟩:=yY (h:=h) hF;unfold mS;rw[sr hF];simp only[oBS,eo]
 cases b with
 | false=>
  simp only[Bool.not_false,cond_true,oBS];exact Ok.ret ⟨_,_,_,rfl,hF⟩
 | true=>
  obtain⟨j,f,o,x,rfl,hj,ho,hof,hx,o0,o1⟩:=hb rfl;have hg:dF os j=some o:=ho;have hgx:dF d f=some x:=hx;delta dI;simp only[Bool.not_true,cond_false,dH,oBS,hg,hof,hgx];by_cases hn:n < 0
  ·simp only[decide_eq_true hn,cond_true,oBS];exact Ok.ret ⟨_,_,_,rfl,hF⟩
  ·simp only[decide_eq_false hn,cond_false,oBS]
   (with_reducible refine Ok.cb (fun hca=>?_) (fun hca=>?_))
   ·exact Ok.ret ⟨_,_,_,rfl,hF⟩
   ·simp only[dH,oBS,hg];rw[dZ ho];exact Ok.ret ⟨_,_,_,rfl,hF.setOpen (.inr ⟨by dsimp only;omega,x,by dsimp only;rw[hof,Int.toNat_natCast];exact hx,by dsimp only;omega,by dsimp only;omega⟩)⟩
theorem JN{ss:List Int}{d:List (List DCn)}{os:List DOp}{file mode:Int}(hF:fj ss d os):Ok (mU d os file mode) fun r=>∃d' os' h,r=(d',os',h,())∧fj ss d' os'∧-1≤h∧h≤7:=by
 have h8:=hF.olen;have hd4:=hF.dlen;unfold mU;rw[sr hF];simp only[oBS];refine Ok.loop (P:=fun s'=>∃i:Nat,s'=(file,mode,(i:Int),d,os,(),(),d,os,())∧i≤8) (R:=fun r=>∃i:Nat,r=(file,mode,(i:Int),false,d,os,(),(),d,os,())∧i≤8) (m:=fun s'=>(8 - s'.2.2.1).toNat) ⟨0,rfl,by omega⟩ (by unfold NN;dsimp only;omega) ?_ ?_
 ·rintro _ ⟨i,rfl,hi⟩;unfold pi;delta dI;simp only[h8,dH,oBS]
  (with_reducible refine Ok.cb (fun hca=>?_) (fun hca=>?_))
  ·refine Ok.get (by omega) fun o ho=>?_
   (with_reducible refine Ok.cb (fun hcb=>?_) (fun hcb=>?_))
   ·rw[dL (x:=(i:Int)+1) (by omega) (by omega)];exact Ok.ret ⟨⟨i+1,rfl,by omega⟩,by dsimp only;omega⟩
   ·exact Ok.ret ⟨i,rfl,hi⟩
  ·exact Ok.ret ⟨i,rfl,hi⟩
 rintro _ ⟨i,rfl,hi⟩;delta dI;simp only[h8];have bad:fj ss d os∧(-1:Int)≤-1∧(-1:Int)≤7:=⟨hF,by decide,by decide⟩;refine Ok.bind (P:=fun r=>(∃b:Bool,r=(file,mode,(i:Int),b,(),(),d,os,())∧(b=false→0≤file∧file < d.length∧i < 8))) ?_ ?_
 ·(with_reducible refine Ok.cb (fun hca=>?_) (fun hca=>?_))
  ·exact Ok.ret ⟨true,rfl,fun h=>by cases h⟩
  (with_reducible refine Ok.cb (fun hcb=>?_) (fun hcb=>?_))
  ·exact Ok.ret ⟨true,rfl,fun h=>by cases h⟩
  (with_reducible refine Ok.cb (fun hcc=>?_) (fun hcc=>?_))
  ·exact Ok.ret ⟨true,rfl,fun h=>by cases h⟩
  (with_reducible refine Ok.cb (fun hcd=>?_) (fun hcd=>?_))
  ·exact Ok.ret ⟨true,rfl,fun h=>by cases h⟩
  exact Ok.ret ⟨_,rfl,fun h=>⟨by omega,by omega,by rw[beq_eq_false_iff_ne] at h;omega⟩⟩
 rintro _ ⟨b,rfl,hb⟩;dsimp only
 cases b with
 | true=>exact Ok.ret ⟨_,_,_,rfl,bad⟩
 | false=>
  obtain⟨f0,f1,hi8⟩:=hb rfl;obtain⟨f,rfl⟩:∃f:Nat,file=f:=⟨file.toNat,by omega⟩;obtain⟨x,hx⟩:∃x,d[f]?=some x:=⟨_,oGE (by omega)⟩;obtain⟨o,ho⟩:∃o,os[i]?=some o:=⟨_,oGE (by omega)⟩;have hgx:dF d f=some x:=hx;have hg:dF os i=some o:=ho;have hfl:=(oGS hx).1;have hil:=(oGS ho).1;simp only[cond_false,dH,oBS,hgx,hg];by_cases h1:mode=1
  ·subst h1;simp only[BEq.rfl,cond_true];rw[dZ hx];simp only[h8]
   refine Ok.loop (P:=fun s'=>∃(q:Nat) (os':List DOp),s'=((f:Int),1,(i:Int),((8:Nat):Int),(q:Int),(),(),d.set f [],os',())∧q≤8∧os'.length=8∧(∀(j:Nat) o,j < q→os'[j]?=some o→Mm (d.set f []) o)∧∀j:Nat,q≤j→os'[j]?=os[j]?)
    (R:=fun r=>∃(z:Int) (os':List DOp),r=((f:Int),1,(i:Int),((8:Nat):Int),z,false,(),(),d.set f [],os',())∧fj ss (d.set f []) os') (m:=fun s'=>(8 - s'.2.2.2.2.1).toNat) ⟨0,os,rfl,by omega,h8,fun j o hj=>by omega,fun _ _=>rfl⟩ (by unfold NN;dsimp only;omega) ?_ ?_
   ·rintro _ ⟨q,os',rfl,hq,hl',ha,hr⟩;unfold ph;dsimp only
    (with_reducible refine Ok.cb (fun hca=>?_) (fun hca=>?_))
    ·obtain⟨o',ho'⟩:∃o',os'[q]?=some o':=⟨_,oGE (by omega)⟩;have hg':dF os' q=some o':=ho';have hop:=hF.opens o' (dK (by rw[← hr q (by omega)];exact ho'));simp only[dH,oBS,hg'];refine Ok.bind (P:=fun r=>∃o2:DOp,Mm (d.set f []) o2∧r=((f:Int),1,(i:Int),((8:Nat):Int),(q:Int),(),(),d.set f [],os'.set q o2,())) ?_ ?_
     ·by_cases hof:o'.1=f
      ·simp only[beq_iff_eq.2 hof,cond_true];rw[dZ ho'];exact Ok.ret ⟨_,.inr ⟨by dsimp only;omega,[],by dsimp only;rw[hof,Int.toNat_natCast];exact gu hfl [],by dsimp only;omega,by simp⟩,rfl⟩
      ·simp only[beq_eq_false_iff_ne.2 hof,cond_false];refine Ok.ret ⟨o',?_,by rw[yQ ho']⟩;rcases hop with h | ⟨g1,z,g2,g3⟩
       ·exact .inl h
       ·exact .inr ⟨g1,z,by rw[kv (by omega)];exact g2,g3⟩
     ·rintro _ ⟨o2,hop2,rfl⟩;dsimp only;rw[dL (x:=(q:Int)+1) (by omega) (by omega)];refine Ok.ret ⟨⟨q+1,_,rfl,by omega,by rw[List.length_set];exact hl',fun j o hj hjo=>?_,fun j hj=>?_⟩,by dsimp only;omega⟩
      ·by_cases e:q=j
       ·subst e;rw[show (os'.set q o2)[q]?=some o2 from gu (by omega) o2] at hjo;cases hjo;exact hop2
       ·rw[kv e] at hjo;exact ha j o (by omega) hjo
      ·rw[kv (by omega)];exact hr j (by omega)
    ·refine Ok.ret ⟨_,_,rfl,⟨by rw[List.length_set];exact hd4,ix hF.flen (by simp),ix hF.cells dX,hl',fun o' ho'=>?_⟩⟩;obtain⟨j,hj⟩:=List.getElem?_of_mem ho';have:=(oGS hj).1;exact ha j o' (by omega) hj
   ·rintro _ ⟨z,os',rfl,hF'⟩;have hl':=hF'.olen;obtain⟨o',ho'⟩:∃o',os'[i]?=some o':=⟨_,oGE (by omega)⟩;have hg':dF os' i=some o':=ho';simp only[dH,oBS,hg',show ((1:Int)==2)=false from rfl,cond_false];rw[dZ ho'];exact Ok.ret ⟨_,_,_,rfl,hF'.setOpen (.inr ⟨by dsimp only;omega,[],by dsimp only;rw[Int.toNat_natCast];exact gu hfl [],by dsimp only;omega,by simp⟩),by omega,by omega⟩
  ·simp only[beq_eq_false_iff_ne.2 h1,cond_false];rw[dZ ho];by_cases h2:mode=2
   ·subst h2;simp only[BEq.rfl,cond_true,oBS,gu hil,nH hil];exact Ok.ret ⟨_,_,_,rfl,hF.setOpen (.inr ⟨by dsimp only;omega,x,by dsimp only;rw[Int.toNat_natCast];exact hx,by dsimp only;omega,by dsimp only;omega⟩),by omega,by omega⟩
   ·simp only[beq_eq_false_iff_ne.2 h2,cond_false,oBS];exact Ok.ret ⟨_,_,_,rfl,hF.setOpen (.inr ⟨by dsimp only;omega,x,by dsimp only;rw[Int.toNat_natCast];exact hx,by dsimp only;omega,by dsimp only;omega⟩),by omega,by omega⟩
theorem fT(n:Int) (b:Bool):∃v,dU n b=some (0,v,0,0,(),-1,false,())∧W16 v:=by
 unfold dU
 cases b with
 | true=>exact⟨_,rfl,md _⟩
 | false=>exact⟨_,rfl,md _⟩
theorem jY{ss:List Int}{v:Int}(h:W16 v):Pr ss (0,v,0,0):=.inl ⟨.inl rfl,rfl,rfl,h⟩
theorem KI{ss:List Int}{v:Int}(h:W16 v):Pr ss (2,v,0,0):=.inl ⟨.inr rfl,rfl,rfl,h⟩
theorem Ho{ss:List Int}{us:List DOu}{sk:Int}{l:List DCn}(hu:us.length≤200) (ho:∀(i:Nat) x,us[i]?=some x→No ss i x) (hl:l.length≤16) (hlc:∀c∈l,Pr ss c) :
 Ok (mR us sk l) fun r=>∃us' n b,r=(us',n,b,())∧us'.length≤200∧∀(i:Nat) x,us'[i]?=some x→No ss i x:=by
 have hc:jl us=some (us,()):=Cv (by omega) fun x hx=>by
  obtain⟨j,hj⟩:=List.getElem?_of_mem hx;have:=(ho j x hj).2.2.2.1;omega
 unfold mR;rw[hc];delta dI;simp only[oBS];refine Ok.bind (P:=fun r=>∃b:Bool,r=(us,sk,l,b,us,())∧(b=false→0≤sk∧sk < 2∧us.length < 200)) ?_ ?_
 ·(with_reducible refine Ok.cb (fun hca=>?_) (fun hca=>?_))
  ·exact Ok.ret ⟨true,rfl,fun h=>by cases h⟩
  (with_reducible refine Ok.cb (fun hcb=>?_) (fun hcb=>?_))
  ·exact Ok.ret ⟨true,rfl,fun h=>by cases h⟩
  (with_reducible refine Ok.cb (fun hcc=>?_) (fun hcc=>?_))
  ·exact Ok.ret ⟨true,rfl,fun h=>by cases h⟩
  exact Ok.ret ⟨_,rfl,fun h=>⟨by omega,by omega,by omega⟩⟩
 rintro _ ⟨b,rfl,hb⟩;dsimp only
 cases b with
 | true=>exact Ok.ret ⟨_,_,_,rfl,hu,ho⟩
 | false=>
  obtain⟨s0,s1,hlt⟩:=hb rfl;simp only[cond_false];refine Ok.need (dN (by omega)) (Ok.need (dN (by simp;omega)) ?_);refine Ok.ret ⟨_,_,_,rfl,by rw[eK];simp;omega,fun i x hx=>?_⟩;simp only[List.append_eq,List.nil_append] at hx;rw[List.getElem?_append] at hx;split at hx
  ·exact ho i x hx
  ·rename_i hi;obtain⟨q,hq⟩:∃q,i - us.length=q:=⟨_,rfl⟩;rw[hq] at hx
   cases q with
   | zero=>
    have:x=((us.length:Int),sk,l):=by simpa using hx.symm
    subst this;exact⟨by dsimp only;omega,s0,s1,hl,hlc⟩
   | succ q=>simp at hx
theorem AX{ss:List Int}{ins:List (List Int)}{sk n:Int}(hi:ins.length≤2) (h:∀x∈ins,x.length≤64∧∀w∈x,W16 w) (hn:0≤n∧n≤65535) :
 Ok (jF ins sk n) fun r=>(∃ins',r=.inl (ins',(),false,())∧ins'.length≤2∧∀x∈ins',x.length≤64∧∀w∈x,W16 w) ∨
  (∃ins' l,r=.inr (ins',l,true,())∧(ins'.length≤2∧∀x∈ins',x.length≤64∧∀w∈x,W16 w)∧(l.length:Int)≤n∧l.length≤64∧∀c∈l,Pr ss c):=by
 unfold jF;rw[wC (by omega) (fun x hx=>by have:=(h x hx).1;omega)];delta dI;simp only[oBS];refine Ok.bind (P:=fun r=>∃b:Bool,r=(ins,sk,n,b,ins,())∧(b=false→0≤sk∧sk < ins.length)) ?_ ?_
 ·(with_reducible refine Ok.cb (fun hca=>?_) (fun hca=>?_))
  ·exact Ok.ret ⟨true,rfl,fun h=>by cases h⟩
  (with_reducible refine Ok.cb (fun hcb=>?_) (fun hcb=>?_))
  ·exact Ok.ret ⟨true,rfl,fun h=>by cases h⟩
  exact Ok.ret ⟨_,rfl,fun _=>⟨by omega,by omega⟩⟩
 rintro _ ⟨b,rfl,hb⟩;dsimp only
 cases b with
 | true=>exact Ok.ret (Or.inl ⟨_,rfl,hi,h⟩)
 | false=>
 obtain⟨s0,s1⟩:=hb rfl;obtain⟨j,rfl⟩:∃j:Nat,sk=j:=⟨sk.toNat,by omega⟩;obtain⟨x,hx⟩:∃x,ins[j]?=some x:=⟨_,oGE (by omega)⟩;have hgx:dF ins j=some x:=hx;have hjl:=(oGS hx).1;obtain⟨hx64,hxw⟩:=h x (dK hx);simp only[cond_false,oBS,dH,hgx];obtain⟨m1,m2,m3⟩:=Da (a:=n) (b:=(x.length:Int));generalize mmR false n (x.length:Int)=k at m1 m2 m3;obtain⟨q,rfl⟩:∃q:Nat,k=q:=⟨k.toNat,by omega⟩;simp only[dH,oBS];refine Ok.need (by unfold jU;simp;omega) ?_
 have hw:mN x 0 (Nat.sub q 0)=x.take q:=by unfold mN;rw[List.drop_zero];rfl
 have hwl:(x.take q).length=q:=by rw[List.length_take];omega
 rw[hw];simp only[hwl]
 have e:dP fU NN ((j:Int),(q:Int),x.take q,(q:Int),0,ins,[],())=some ((j:Int),(q:Int),x.take q,(q:Int),(q:Int),false,ins,(x.take q).map (fun w=>(0,w,0,0)),()):=by
  have:=mr (f:=fU) (N:=NN) (st:=fun i=>((j:Int),(q:Int),x.take q,(q:Int),(i:Int),ins,((x.take q).take i).map (fun w=>((0:Int),w,(0:Int),(0:Int))),())) (n:=q) (t:=((j:Int),(q:Int),x.take q,(q:Int),(q:Int),false,ins,(x.take q).map (fun w=>((0:Int),w,(0:Int),(0:Int))),())) (by unfold NN;omega) ?_ ?_
  ·exact this
  ·intro i hi;unfold fU;dsimp only;rw[decide_eq_true (show (i:Int) < q by omega),dH];simp only[cond_true,oBS];refine Ok.get (by omega) fun w hw=>?_;refine Ok.need (dN (by simp;omega)) ?_;rw[dL (x:=(i:Int)+1) (by omega) (by omega)];refine Ok.ret ?_;rw[← gO (fun w=>((0:Int),w,(0:Int),(0:Int))) hw];rfl
  ·unfold fU;dsimp only;rw[decide_eq_false (show ¬ (q:Int) < q by omega)];refine Ok.ret ?_;rw[show (x.take q).take q=x.take q from List.take_of_length_le (by omega)]
 rw[e];simp only[dH,oBS,hgx];refine Ok.need (by unfold jU;simp;omega) ?_
 try simp only[dH,oBS,hgx]
 rw[dZ hx]
 have hd:∀c∈mN x q (Nat.sub x.length q),c∈x:=fun c hc=>by
  unfold mN at hc;exact List.mem_of_mem_drop (List.mem_of_mem_take hc)
 have hdl:(mN x q (Nat.sub x.length q)).length≤64:=by
  unfold mN;rw[List.length_take,List.length_drop];omega
 refine Ok.ret (.inr ⟨_,_,rfl,⟨by rw[List.length_set];exact hi,ix h ⟨hdl,fun w hw=>hxw w (hd w hw)⟩⟩,by rw[List.length_map,hwl];omega,by rw[List.length_map,hwl];omega,fun c hc=>?_⟩);obtain⟨w,hw,rfl⟩:=List.mem_map.1 hc;exact jY (hxw w (List.mem_of_mem_take hw))
theorem yf{n:Int}{ss:List Int}{i stop trap count pc call:Int}{args data:List DCn}(hs:w8 ss) (h:yb n ss i stop trap count pc call args data) (hn:n≤1099511627776):jM i stop trap count pc call args data=some (true,()):=by
 obtain⟨⟨a1,a2⟩,⟨b1,b2⟩,⟨c1,c2⟩,⟨d1,d2⟩,⟨e1,e2⟩,⟨f1,f2⟩,⟨g1,g2⟩,⟨k1,k2⟩,_,_⟩:=h;refine Ok.eq ?_;unfold jM;rw[jv (n:=3) hs g2 (by omega) (by omega),jv (n:=16) hs k2 (by omega) (by omega)];refine Ok.need (decide_eq_true a1) (Ok.need (decide_eq_true (by omega)) (Ok.need (decide_eq_true b1) (Ok.need (decide_eq_true b2) (Ok.need (decide_eq_true c1) (Ok.need (decide_eq_true c2) (Ok.need (decide_eq_true d1) (Ok.need (decide_eq_true (by omega)) (Ok.need (decide_eq_true e1) (Ok.need (decide_eq_true e2) (Ok.need (decide_eq_true f1) (Ok.need (decide_eq_true f2) ?_)))))))))));exact Ok.ret rfl
theorem FS{n:Int}{ss:List Int}{i trap count pc call:Int}{args data:List DCn}(h:yb n ss i 1 trap count pc call args data):lG i 1 trap count pc call args data=some (true,()):=by
 obtain⟨hl,hk⟩:=h.hkind rfl;obtain⟨b,eb,hb1,hb2⟩:=zd h.hcall;have h3:=Ic call
 have e:dP gV NN (b,args,(args.length:Int),0,i,1,trap,count,pc,call,args,data,())=some (.inr (b,args,(args.length:Int),(args.length:Int),false,i,1,trap,count,pc,call,args,data,())):=by
  refine mr (f:=gV) (N:=NN) (st:=fun q=>(b,args,(args.length:Int),(q:Int),i,1,trap,count,pc,call,args,data,())) (n:=args.length) (by unfold NN;omega) ?_ ?_
  ·intro q hq;obtain⟨k,hkq⟩:∃k,(kB call)[q]?=some k:=⟨_,oGE (by omega)⟩;obtain⟨a,ha⟩:∃a,args[q]?=some a:=⟨_,oGE (by omega)⟩;unfold gV;dsimp only;rw[decide_eq_true (show (q:Int) < args.length by omega),dH];simp only[cond_true,oBS,show dF args q=some a from ha,hb2 q,hkq,Iw,hk q k a hkq ha,Bool.not_true,cond_false];rw[dL (x:=(q:Int)+1) (by omega) (by omega)];exact Ok.ret rfl
  ·unfold gV;dsimp only;rw[decide_eq_false (show ¬ (args.length:Int) < args.length by omega)];exact Ok.ret rfl
 unfold lG;delta dI;simp only[eb,oBS,hb1,hl,bne_self_eq_false,cond_false];rw[hl] at e;rw[e]
def Mj(call:Int):Bool:=decide ((1≤call∧call≤7)∨call=13∨call=14)
theorem Mi{call:Int}(h:0≤call∧call≤15):pf call=some (Mj call,()):=by
 rcases tI h with rfl | rfl | rfl | rfl | rfl | rfl | rfl | rfl | rfl | rfl | rfl | rfl | rfl | rfl | rfl | rfl<;>rfl
structure NH (ss:List Int) (t v r o:Int) (data:List DCn) (sp:Int) (w:Bool):Prop where
 val:Pr ss (t,v,r,o)
 dat:data.length≤64∧∀c∈data,Pr ss c
 spn:-1≤sp∧sp≤3
def DoP(ss:List Int) (r:(List (Int))×(List (Int))×(List (List (Int)))×(List (List DCn))×(List DOp)×(List DOu)×Int×Int×Int×Int×(List DCn)×Int×Bool×Int×Unit):Prop:=
 ∃ck rn ins d os us t v rg o data,r=(ck,rn,ins,d,os,us,t,v,rg,o,data,-1,false,0,())∧w9 ss ck rn ins d os us∧Pr ss (t,v,rg,o)∧data.length≤16∧∀c∈data,Pr ss c
theorem j4{ss:List Int}{ck rn:List Int}{ins:List (List Int)}{d:List (List DCn)}{os:List DOp}{us:List DOu}{t v rg o:Int}{data:List DCn}(h:w9 ss ck rn ins d os us) (hv:Pr ss (t,v,rg,o)) (hd:data.length≤16∧∀c∈data,Pr ss c) :
 Ok (some (ck,rn,ins,d,os,us,t,v,rg,o,data,(-1:Int),false,(0:Int),())) (DoP ss):=Ok.ret ⟨_,_,_,_,_,_,_,_,_,_,_,rfl,h,hv,hd⟩
theorem Pr.val{ss:List Int}{c:DCn}(h:Pr ss c):W16 c.2.1:=by
 rcases h with ⟨_,_,_,h⟩ | ⟨_,h,_⟩
 ·exact h
 ·rw[h];exact⟨by decide,by decide⟩
theorem M4{n:Int}{ss:List Int}{i trap count pc call:Int}{args data:List DCn}(h:yb n ss i 1 trap count pc call args data):qD call=0∨qD call=1∨(qD call=2∧∃a,args[2]?=some a∧a.2.1≤16):=by
 by_cases h2:qD call=2
 ·exact .inr (.inr ⟨h2,h.hbuf rfl h2⟩)
 ·have:qD call=0∨qD call=1∨qD call=2:=by unfold qD;split<;>first | omega | (split<;>omega)
  omega
theorem Ok.of_eq{α:Type}{a b:Option α}{Q:α→Prop}(h:Ok a Q) (e:b=a):Ok b Q:=by rw[e];exact h
set_option maxHeartbeats 4000000 in
theorem L7{n:Int}{ss:List Int}{ck rn:List Int}{ins:List (List Int)}{d:List (List DCn)}{os:List DOp}{us:List DOu}{i trap count pc call:Int}{args data:List DCn}(hs:w8 ss) (hO:w9 ss ck rn ins d os us) (hR:yb n ss i 1 trap count pc call args data)
 (ha:Mj call=true) (hn:n≤1099511627776):Ok (nA ck rn ins d os us i 1 trap count pc call args data) (DoP ss):=by
 have hc:=hR.hcall;have hdat:=hR.hdata;have hap:=hR.hargs;unfold nA;rw[sV hs hO,yf hs hR hn,Mi hc,ha,FS hR,sR hc];simp only[oBS,Bool.not_true,cond_false,bne_self_eq_false];refine Ok.bind (P:=fun r=>r=(false,ck,rn,ins,d,os,us,i,1,trap,count,pc,call,args,data,(),(),(),(),(),(),0,0,0,0,(),0,false,())) ?_ ?_
 ·rcases M4 hR with h | h | ⟨h,a,h2,h3⟩
  ·rw[h];exact Ok.ret rfl
  ·rw[h];exact Ok.ret rfl
  ·rw[h];simp only[BEq.rfl,cond_true,show dF args 2=some a from h2,oBS];rw[decide_eq_false (show ¬ a.2.1 > 16 by omega)];exact Ok.ret rfl
 rintro _ rfl;dsimp only;delta dI;simp only[cond_false,Cu hO,oBS]
 refine Ok.loop (P:=fun s'=>∃(k:Nat) (vs:List Int),s'=(args,(args.length:Int),(k:Int),ck,rn,ins,d,os,us,i,1,trap,count,pc,call,args,data,(),(),(),(),(),(),0,0,0,0,(),0,false,ck,rn,ins,d,os,us,vs,())∧k≤args.length∧vs.length=3∧(∀v∈vs,W16 v)∧∀(j:Nat) a,j < k→args[j]?=some a→vs[j]?=some a.2.1)
  (R:=fun r=>∃(z:Int) (vs:List Int),r=(args,(args.length:Int),z,false,ck,rn,ins,d,os,us,i,1,trap,count,pc,call,args,data,(),(),(),(),(),(),0,0,0,0,(),0,false,ck,rn,ins,d,os,us,vs,())∧vs.length=3∧(∀v∈vs,W16 v)∧∀(j:Nat) a,args[j]?=some a→vs[j]?=some a.2.1) (m:=fun s'=>(s'.2.1 - s'.2.2.1).toNat)
  ⟨0,[0,0,0],rfl,by omega,rfl,all_cons ⟨by decide,by decide⟩ (all_cons ⟨by decide,by decide⟩ (all_cons ⟨by decide,by decide⟩ dX)),fun j a hj=>by omega⟩ (by unfold NN;dsimp only;omega) ?_ ?_
 ·rintro _ ⟨k,vs,rfl,hk,hv3,hvw,hva⟩;unfold rL;dsimp only
  (with_reducible refine Ok.cb (fun hca=>?_) (fun hca=>?_))
  ·simp only[dH,oBS];refine Ok.get (by omega) fun a hak=>?_;have hw:=(hap.2 a (dK hak)).val;refine Ok.get (by omega) fun v hv=>?_;refine Ok.get (by omega) fun _ _=>?_;rw[dO (x:=a.2.1) (by have:=hw.1;omega) (by have:=hw.2;omega),dL (x:=(k:Int)+1) (by omega) (by omega),dZ hv];refine Ok.ret ⟨⟨k+1,_,rfl,by omega,by rw[List.length_set];exact hv3,ix hvw hw,fun j a' hj haj=>?_⟩,by dsimp only;omega⟩;by_cases e:k=j
   ·subst e;rw[hak] at haj;cases haj;exact gu (by omega) _
   ·rw[kv e];exact hva j a' (by omega) haj
  ·refine Ok.ret ⟨_,vs,rfl,hv3,hvw,fun j a haj=>hva j a ?_ haj⟩;have:=(oGS haj).1;omega
 rintro _ ⟨z,vs,rfl,hv3,hvw,hva⟩;obtain⟨v0,ev0,hv0⟩:=fT 0 false
 obtain⟨a0,a1,a2,rfl⟩:∃a b c,vs=[a,b,c]:=by
  match vs,hv3 with
  | [a,b,c],_=>exact⟨a,b,c,rfl⟩
 have w0:W16 a0:=hvw a0 (by simp);have w1:W16 a1:=hvw a1 (by simp);have w2:W16 a2:=hvw a2 (by simp);have g0:dF [a0,a1,a2] 0=some a0:=rfl;have g1:dF [a0,a1,a2] 1=some a1:=rfl;have g2:dF [a0,a1,a2] 2=some a2:=rfl
 have a2le:qD call=2→a2≤16:=fun h=>by
  obtain⟨a,h2,h3⟩:=hR.hbuf rfl h;have:=hva 2 a h2
  have:a2=a.2.1:=by simpa using this
  omega
 have nil16:([]:List DCn).length≤16∧∀c∈([]:List DCn),Pr ss c:=⟨by decide,dX⟩;dsimp only;simp only[ev0,oBS,g0,g1,g2];rcases tI hc with rfl | rfl | rfl | rfl | rfl | rfl | rfl | rfl | rfl | rfl | rfl | rfl | rfl | rfl | rfl | rfl
 all_goals first | (exact absurd ha (by decide)) | simp only[Int.reduceBEq,cond_true,cond_false]
 ·obtain⟨_,e,d1,os1,m,b,rfl,hF,_⟩:=Fd (h:=a0) hs hO.files hdat.1 hdat.2;obtain⟨v,ev,hv⟩:=fT m b;simp only[e,ev,oBS];exact j4 ⟨hO.clock,hO.rand,hO.ilen,hO.inp,hF,hO.ulen,hO.outs⟩ (jY hv) nil16
 ·have hle:=a2le rfl;obtain⟨_,e,hr⟩:=HD (h:=a0) (n:=a2) hO.files w2;rcases hr with ⟨d1,os1,rfl,hF⟩ | ⟨d1,os1,l,rfl,hF,hl,_,hlc⟩
  ·simp only[e,ev0,oBS];exact j4 ⟨hO.clock,hO.rand,hO.ilen,hO.inp,hF,hO.ulen,hO.outs⟩ (jY hv0) nil16
  ·obtain⟨v,ev,hv⟩:=fT (l.length:Int) true;simp only[e,ev,oBS];exact j4 ⟨hO.clock,hO.rand,hO.ilen,hO.inp,hF,hO.ulen,hO.outs⟩ (jY hv) ⟨by omega,hlc⟩
 ·obtain⟨_,e,d1,os1,h,rfl,hF,h0,h7⟩:=JN (file:=a0) (mode:=a1) hO.files;simp only[e,oBS];have hout:w9 ss ck rn ins d1 os1 us:=⟨hO.clock,hO.rand,hO.ilen,hO.inp,hF,hO.ulen,hO.outs⟩;by_cases hh:h≥0
  ·simp only[decide_eq_true hh,cond_true];exact j4 hout (KI (md _)) nil16
  ·simp only[decide_eq_false hh,cond_false];exact j4 hout (jY hv0) nil16
 ·obtain⟨_,e,d1,os1,b,rfl,hF⟩:=Gg (h:=a0) hO.files;obtain⟨v,ev,hv⟩:=fT 0 b;simp only[e,ev,oBS];exact j4 ⟨hO.clock,hO.rand,hO.ilen,hO.inp,hF,hO.ulen,hO.outs⟩ (jY hv) nil16
 ·obtain⟨_,e,d1,os1,b,rfl,hF⟩:=Hp (h:=a0) (n:=a1) hO.files;obtain⟨v,ev,hv⟩:=fT 0 b;simp only[e,ev,oBS];exact j4 ⟨hO.clock,hO.rand,hO.ilen,hO.inp,hF,hO.ulen,hO.outs⟩ (jY hv) nil16
 ·cases ck with
  | nil=>exact j4 hO (jY hv0) nil16
  | cons x ck=>
   obtain⟨v,ev,hv⟩:=fT (wk .i64 x) true
   have hw:mN (x :: ck) 1 (Nat.sub (x :: ck).length 1)=ck:=by unfold mN;simp
   refine Ok.of_eq (j4 (ck:=ck) ⟨⟨by have:=hO.clock.1;simp at this;omega,fun w hw=>hO.clock.2 w (by simp[hw])⟩,hO.rand,hO.ilen,hO.inp,hO.files,hO.ulen,hO.outs⟩ (jY hv) nil16) ?_;simp only[List.length_cons,show dF (x :: ck) 0=some x from rfl,oBS,ev];have hd:∀inst:Decidable (((ck.length+1:Nat):Int) > 0),@decide _ inst=true:=fun inst=>decide_eq_true (by omega);rw[List.length_cons] at hw;rw[hd,show jU 1 (ck.length+1) (ck.length+1)=true by unfold jU;simp,hw];rfl
 ·cases rn with
  | nil=>exact j4 hO (jY hv0) nil16
  | cons x rn=>
   obtain⟨v,ev,hv⟩:=fT (wk .i64 x) true
   have hw:mN (x :: rn) 1 (Nat.sub (x :: rn).length 1)=rn:=by unfold mN;simp
   refine Ok.of_eq (j4 (rn:=rn) ⟨hO.clock,⟨by have:=hO.rand.1;simp at this;omega,fun w hw=>hO.rand.2 w (by simp[hw])⟩,hO.ilen,hO.inp,hO.files,hO.ulen,hO.outs⟩ (jY hv) nil16) ?_;simp only[List.length_cons,show dF (x :: rn) 0=some x from rfl,oBS,ev];have hd:∀inst:Decidable (((rn.length+1:Nat):Int) > 0),@decide _ inst=true:=fun inst=>decide_eq_true (by omega);rw[List.length_cons] at hw;rw[hd,show jU 1 (rn.length+1) (rn.length+1)=true by unfold jU;simp,hw];rfl
 ·obtain⟨_,e,us1,m,b,rfl,hu,ho⟩:=Ho (sk:=a0) hO.ulen hO.outs hdat.1 hdat.2;obtain⟨v,ev,hv⟩:=fT m b;simp only[e,ev,oBS];exact j4 ⟨hO.clock,hO.rand,hO.ilen,hO.inp,hO.files,hu,ho⟩ (jY hv) nil16
 ·have hle:=a2le rfl;obtain⟨_,e,hr⟩:=AX (ss:=ss) (sk:=a0) (n:=a2) hO.ilen hO.inp w2;rcases hr with ⟨in1,rfl,hi1,hi2⟩ | ⟨in1,l,rfl,⟨hi1,hi2⟩,hl,_,hlc⟩
  ·simp only[e,ev0,oBS];exact j4 ⟨hO.clock,hO.rand,hi1,hi2,hO.files,hO.ulen,hO.outs⟩ (jY hv0) nil16
  ·obtain⟨v,ev,hv⟩:=fT (l.length:Int) true;simp only[e,ev,oBS];exact j4 ⟨hO.clock,hO.rand,hi1,hi2,hO.files,hO.ulen,hO.outs⟩ (jY hv) ⟨by omega,hlc⟩
def yq(bs:List Int) (key:Int) (c:DCn):DCe:=if c.1=0 then (0,c.2.1) else if c.1=2 then (2,wk .u16 (c.2.1+key)) else (1,wk .u16 (bs.getD c.2.2.1.toNat 0+c.2.2.2))
theorem Ez{bs ss:List Int}(h:LV bs ss) {r o n:Int}(h1:0≤r) (h2:ss[r.toNat]?=some n) (h3:0≤o) (h4:o < n):∃b,bs[r.toNat]?=some b∧0≤b+o∧b+o < 512∧b≤b+o∧b+o < b+n:=by
 obtain⟨hs,hl,hr⟩:=h;have hj:=(oGS h2).1;obtain⟨b,hb⟩:∃b,bs[r.toNat]?=some b:=⟨_,oGE (by omega)⟩;have hrr:=hr r.toNat (by omega);unfold uT at hrr;rw[ej hb,ej h2] at hrr;exact⟨b,hb,by omega,by omega,by omega,by omega⟩
theorem vA{bs ss:List Int}{key:Int}{c:DCn}(h:LV bs ss) (hc:Pr ss c):ge bs key ss c.1 c.2.1 c.2.2.1 c.2.2.2=some ((yq bs key c).1,(yq bs key c).2,0,())∧mJ (RK bs ss) (yq bs key c):=by
 unfold ge yq;rw[mq hc];simp only[oBS,Bool.not_true,cond_false];rcases hc with ⟨h1 | h1,h2,h3,h4⟩ | ⟨h1,h2,h3,n,h5,h6,h7⟩
 ·rw[h1];exact⟨rfl,lk h4⟩
 ·rw[h1];exact⟨rfl,(show (0:Int)≤2 by decide),(show (2:Int)≤2 by decide),(md _).1,(md _).2,fun e=>absurd (show (2:Int)=1 from e) (by decide)⟩
 ·obtain⟨b,hb,b0,b1,b2,b3⟩:=Ez h h3 h5 h6 h7;obtain⟨j,hj⟩:∃j:Nat,c.2.2.1=j:=⟨c.2.2.1.toNat,by omega⟩;rw[hj] at hb h5 ⊢;rw[Int.toNat_natCast] at hb h5 ⊢;rw[h1,ej hb];simp only[Int.reduceBEq,Int.reduceEq,cond_false,if_false,dH,oBS,show dF bs j=some b from hb];rw[dL (x:=b+c.2.2.2) (by omega) (by omega),dS (x:=b+c.2.2.2) (by omega) (by omega)];exact⟨rfl,by dsimp only;omega,by dsimp only;omega,by dsimp only;omega,by dsimp only;omega,fun _=>⟨j,b,n,hb,h5,b2,b3⟩⟩
theorem Gq{bs ss:List Int}{key r o n:Int}(h:LV bs ss) (h1:0≤r) (h2:ss[r.toNat]?=some n) (h3:0≤o) (h4:o < n):∃a,jS bs key ss r o=some (a,0,())∧0≤a∧a < 512∧a=bs.getD r.toNat 0+o:=by
 obtain⟨b,hb,b0,b1,_⟩:=Ez h h1 h2 h3 h4;obtain⟨j,rfl⟩:∃j:Nat,r=j:=⟨r.toNat,by omega⟩;rw[Int.toNat_natCast] at hb ⊢;unfold jS;rw[By h1 h2 h3 h4];simp only[oBS,Bool.not_true,cond_false,dH,show dF bs j=some b from hb];rw[dL (x:=b+o) (by omega) (by omega)];exact⟨_,rfl,b0,b1,by rw[ej hb]⟩
theorem JS(pc t v:Int):im pc t v=some (1,[(t,v),(0,0),(0,0),(0,0),(0,0),(0,0),(0,0),(0,0)],pc,0,-1,-1,0,0,()):=rfl
def NI(n key:Int) (ss bs:List Int) (r:Bool×(List (Int))×Int×(List DCe)×(List DLn)×(List DTh)×Unit):Prop:=∃b cs' ls' ts',r=(b,bs,key,cs',ls',ts',())∧(b=true→MOk n ss bs cs' ls' ts')
theorem vB{n key:Int}{ss bs:List Int}{cs:List DCe}{ls:List DLn}{ts:List DTh}:Ok (some (false,bs,key,cs,ls,ts,())) (NI n key ss bs):=Ok.ret ⟨_,_,_,_,rfl,fun h=>by cases h⟩
theorem pd{n key ct cv:Int}{ss bs:List Int}{cs:List DCe}{ls:List DLn}{ts:List DTh}{i:Nat}(h:MOk n ss bs cs ls ts) (hi:i < 4) (hc:mJ (RK bs ss) (ct,cv)) :
 Ok ((dF ts i).bind fun _=>(dF ts i).bind fun x75=>(dF x75.2.1 0).bind fun _=>(dF ts i).bind fun x77=>(dF x77.2.1 0).bind fun _=>(dF (List.modify ts i fun e=>(e.1,((List.modify e.2.1 0 fun _=>(ct,cv)),e.2.2))) i).bind fun _=>
  some (true,bs,key,cs,ls,List.modify (List.modify ts i fun e=>(e.1,((List.modify e.2.1 0 fun _=>(ct,cv)),e.2.2))) i fun e=>((1:Int),e.2),())) (NI n key ss bs):=by
 have htl:=h.tlen;obtain⟨t,ht⟩:∃t,ts[i]?=some t:=⟨_,oGE (by omega)⟩;have hg:dF ts i=some t:=ht;have hil:=(oGS ht).1;have hok:=h.thr t (dK ht);obtain⟨c,hc0⟩:∃c,t.2.1[0]?=some c:=⟨_,oGE (by have:=hok.len;omega)⟩;simp only[hg,oBS,show dF t.2.1 0=some c from hc0,dZ ht,dZ hc0,gu hil,nH hil];exact Ok.ret ⟨_,_,_,_,rfl,fun _=>h.set h.mem ⟨⟨show (0:Int)≤1 by decide,show (1:Int)≤4 by decide⟩,by dsimp only;rw[List.length_set];exact hok.len,ix hok.regs hc,hok.pc,hok.count,hok.handler,hok.saved,hok.trap,hok.code⟩⟩
theorem Fg{K:Int→Prop}{n pc:Int}{rs:List DCe}(hl:rs.length=8) (hr:∀c∈rs,mJ K c) (hp:0≤pc∧pc≤255) (hn:0≤n):w7 K n (1,rs,pc,0,-1,-1,0,0):=
 ⟨⟨show (0:Int)≤1 by decide,show (1:Int)≤4 by decide⟩,hl,hr,hp,⟨show (0:Int)≤0 by decide,hn⟩,⟨show (-1:Int)≤-1 by decide,show (-1:Int)≤255 by decide⟩,⟨show (-1:Int)≤-1 by decide,show (-1:Int)≤255 by decide⟩,⟨show (0:Int)≤0 by decide,show (0:Int)≤6 by decide⟩,⟨show (0:Int)≤0 by decide,show (0:Int)≤65535 by decide⟩⟩
theorem MOk.mk_mem{n:Int}{ss bs:List Int}{cs cs':List DCe}{ls ls':List DLn}{ts:List DTh}(h:MOk n ss bs cs ls ts) (hm:ki (RK bs ss) cs' ls'):MOk n ss bs cs' ls' ts:=⟨h.lay,hm,h.tlen,h.thr⟩
set_option maxHeartbeats 4000000 in
theorem JH{n m key:Int}{code:List DIn}{ss bs:List Int}{dd:List (List Int)}{cs:List DCe}{ls:List DLn}{ts:List DTh}{i:Nat}{trap count pc call:Int}{args data:List DCn}{t v rg o sp:Int}{dat:List DCn}{w:Bool}(h:MOk n ss bs cs ls ts) (hi:i < 4)
 (hR:yb m ss (i:Int) 1 trap count pc call args data) (hv:Pr ss (t,v,rg,o)) (hd:dat.length≤16∧∀c∈dat,Pr ss c) (hsp:-1≤sp∧sp≤3) :
 Ok (n7 code ss dd (i:Int) 1 trap count pc call args data t v rg o dat sp w bs key cs ls ts) (NI n key ss bs):=by
 have hL:=h.lay;have htl:=h.tlen;obtain⟨hk1,hk2⟩:=hR.hkind rfl;have hargs:=hR.hargs;obtain⟨hraw,hrawc⟩:=vA (key:=key) hL hv;obtain⟨th,hth⟩:∃th,ts[i]?=some th:=⟨_,oGE (by omega)⟩;have hok:=h.thr th (dK hth);have hc0:=hok.count;have hil:=(oGS hth).1;dsimp only at hraw;unfold n7;delta dI;rw[dH,hraw,sR hR.hcall];simp only[oBS,bne_self_eq_false,cond_false];refine Ok.get hil fun _ _=>?_;have fin:=pd (key:=key) (ct:=(yq bs key (t,v,rg,o)).1) (cv:=(yq bs key (t,v,rg,o)).2) h hi hrawc
 have buf:qD call=2→dat.length > 0→∃a:DCn,args[1]?=some a∧Pr ss a∧a.1=1∧∃y,dP kE NN (i,dat,(dat.length:Int),0,bs,key,cs,ls,ts,code,ss,dd,(i:Int),1,trap,count,pc,call,args,data,t,v,rg,o,dat,sp,w,(yq bs key (t,v,rg,o)).1,(yq bs key (t,v,rg,o)).2,a.2.2.1,a.2.2.2,())=some y ∧
  ((∃cs' ls',y=.inl (false,bs,key,cs',ls',ts,()))∨(∃cs' ls' z f,y=.inr (i,dat,(dat.length:Int),z,false,bs,key,cs',ls',ts,code,ss,dd,(i:Int),1,trap,count,pc,call,args,data,t,v,rg,o,dat,sp,w,(yq bs key (t,v,rg,o)).1,(yq bs key (t,v,rg,o)).2,a.2.2.1,f,())∧ki (RK bs ss) cs' ls')):=by
  intro hb hpos
  have hkk:(kB call)[1]?=some 80:=by
   have:call=2∨call=14:=by unfold qD at hb;split at hb<;>first | omega | (split at hb<;>omega)
   rcases this with rfl | rfl<;>rfl
  have hl1:=(oGS hkk).1;obtain⟨a,ha⟩:∃a,args[1]?=some a:=⟨_,oGE (by omega)⟩;have hap:=hargs.2 a (dK ha);have hfit:=hk2 1 80 a hkk ha
  have ha1:a.1=1:=by unfold Ke at hfit;simpa using hfit
  have ha32:0≤a.2.2.2∧a.2.2.2≤32:=by
   rcases hap with ⟨g,_⟩ | ⟨_,_,_,z,g1,g2,g3⟩
   ·omega
   ·have:=hL.1.2.2 z (dK g1);omega
  refine⟨a,ha,hap,ha1,?_⟩
  refine Ok.iter (f:=kE) (n:=NN) (P:=fun s'=>∃k:Nat,∃cs' ls',s'=(i,dat,(dat.length:Int),(k:Int),bs,key,cs',ls',ts,code,ss,dd,(i:Int),1,trap,count,pc,call,args,data,t,v,rg,o,dat,sp,w,(yq bs key (t,v,rg,o)).1,(yq bs key (t,v,rg,o)).2,a.2.2.1,a.2.2.2+k,())∧k≤dat.length∧ki (RK bs ss) cs' ls')
   (R:=fun y=>(∃cs' ls',y=.inl (false,bs,key,cs',ls',ts,()))∨(∃cs' ls' z f,y=.inr (i,dat,(dat.length:Int),z,false,bs,key,cs',ls',ts,code,ss,dd,(i:Int),1,trap,count,pc,call,args,data,t,v,rg,o,dat,sp,w,(yq bs key (t,v,rg,o)).1,(yq bs key (t,v,rg,o)).2,a.2.2.1,f,())∧ki (RK bs ss) cs' ls'))
   (m:=fun s'=>(s'.2.2.1 - s'.2.2.2.1).toNat) ⟨0,cs,ls,by simp,by omega,h.mem⟩ (by unfold NN;dsimp only;omega) ?_
  rintro _ ⟨k,cs',ls',rfl,hk,hm⟩;unfold kE;dsimp only
  (with_reducible refine Ok.cb (fun hca=>?_) (fun hca=>?_))
  ·rw[dH];simp only[oBS];refine Ok.get (by omega) fun c hc=>?_;obtain⟨hr1,hr2⟩:=vA (key:=key) hL (hd.2 c (dK hc));rw[hr1];simp only[oBS,bne_self_eq_false,cond_false];refine yy.bind ?_;rintro⟨q,_⟩ hin;dsimp only at hin ⊢
   (with_reducible refine Ok.cb (fun hcb=>?_) (fun hcb=>?_))
   ·exact Ok.ret (.inl ⟨_,_,rfl⟩)
   ·obtain⟨g1,g2,z,g3,g4⟩:=hin hcb;obtain⟨ad,ea,a0,a1,_⟩:=Gq (key:=key) hL g1 g3 g2 g4;rw[ea];simp only[oBS];refine (yj hm ⟨a0,a1⟩ hr2).bind ?_;rintro _ ⟨cs2,ls2,rfl,hm2⟩;dsimp only;rw[dL (x:=a.2.2.2+k+1) (by omega) (by omega),dL (x:=(k:Int)+1) (by omega) (by omega)];exact Ok.ret ⟨⟨k+1,_,_,by rw[show a.2.2.2+((k+1:Nat):Int)=a.2.2.2+k+1 by omega];rfl,by omega,hm2⟩,by dsimp only;omega⟩
  ·exact Ok.ret (.inr ⟨_,_,_,_,rfl,hm⟩)
 rcases tI hR.hcall with rfl | rfl | rfl | rfl | rfl | rfl | rfl | rfl | rfl | rfl | rfl | rfl | rfl | rfl | rfl | rfl
 case inr.inr.inl=>
  simp only[show ((qD 2)==2)=true from rfl,cond_true];by_cases hpos:dat.length > 0
  ·obtain⟨a,ha,hap,ha1,y,ey,hy⟩:=buf rfl hpos;simp only[decide_eq_true (show ((dat.length:Nat):Int) > 0 by omega),cond_true,show dF args 1=some a from ha,oBS,mq hap,Bool.not_true,cond_false,bne_eq_false_iff_eq.2 ha1,ey];rcases hy with ⟨cs',ls',rfl⟩ | ⟨cs',ls',z,f,rfl,hm⟩
   ·exact vB
   ·simp only[Int.reduceBEq,cond_false];exact pd (h.mk_mem hm) hi hrawc
  ·simp only[decide_eq_false (show ¬ ((dat.length:Nat):Int) > 0 by omega),cond_false,Int.reduceBEq];exact fin
 case inr.inr.inr.inr.inr.inr.inr.inr.inr.inr.inr.inr.inr.inr.inl=>
  simp only[show ((qD 14)==2)=true from rfl,cond_true];by_cases hpos:dat.length > 0
  ·obtain⟨a,ha,hap,ha1,y,ey,hy⟩:=buf rfl hpos;simp only[decide_eq_true (show ((dat.length:Nat):Int) > 0 by omega),cond_true,show dF args 1=some a from ha,oBS,mq hap,Bool.not_true,cond_false,bne_eq_false_iff_eq.2 ha1,ey];rcases hy with ⟨cs',ls',rfl⟩ | ⟨cs',ls',z,f,rfl,hm⟩
   ·exact vB
   ·simp only[Int.reduceBEq,cond_false];exact pd (h.mk_mem hm) hi hrawc
  ·simp only[decide_eq_false (show ¬ ((dat.length:Nat):Int) > 0 by omega),cond_false,Int.reduceBEq];exact fin
 case inr.inr.inr.inr.inr.inr.inr.inr.inr.inr.inr.inr.inl=>
  obtain⟨a,ha⟩:∃a,args[0]?=some a:=⟨_,oGE (by rw[hk1];decide)⟩;have hva:=(hargs.2 a (dK ha)).val;simp only[show ((qD 12)==2)=false from rfl,cond_false,Int.reduceBEq,cond_true,show dF args 0=some a from ha,oBS];rw[dO (x:=a.2.1) (by have:=hva.1;omega) (by have:=hva.2;omega)];by_cases h1:a.2.1 > 255
  ·simp only[decide_eq_true h1,cond_true];exact vB
  by_cases h2:a.1=0
  ·simp only[decide_eq_false h1,cond_false,bne_eq_false_iff_eq.2 h2,show dF ts i=some th from hth,oBS,dZ hth];exact pd (h.set h.mem ⟨hok.state,hok.len,hok.regs,hok.pc,hok.count,⟨by dsimp only;have:=hva.1;omega,by dsimp only;omega⟩,hok.saved,hok.trap,hok.code⟩) hi hrawc
  ·simp only[decide_eq_false h1,cond_false,bne_iff_ne.2 h2,cond_true];exact vB
 case inr.inr.inr.inr.inr.inr.inr.inr.inr.inr.inl=>
  obtain⟨a,ha⟩:∃a,args[0]?=some a:=⟨_,oGE (by rw[hk1];decide)⟩;obtain⟨c,hc⟩:∃c,args[1]?=some c:=⟨_,oGE (by rw[hk1];decide)⟩;have hva:=(hargs.2 a (dK ha)).val;obtain⟨hr1,hr2⟩:=vA (key:=key) hL (hargs.2 c (dK hc));simp only[show ((qD 10)==2)=false from rfl,cond_false,Int.reduceBEq,cond_true];by_cases hsp0:sp≥0
  ·obtain⟨j,rfl⟩:∃j:Nat,sp=j:=⟨sp.toNat,by omega⟩;obtain⟨tj,htj⟩:∃tj,ts[j]?=some tj:=⟨_,oGE (by omega)⟩;simp only[decide_eq_true hsp0,cond_true,show dF args 0=some a from ha,show dF args 1=some c from hc,oBS,hr1,bne_self_eq_false,cond_false,dH,show dF ts j=some tj from htj];rw[dO (x:=a.2.1) (by have:=hva.1;omega) (by have:=hva.2;omega)];by_cases h0:tj.1=0
   ·by_cases h1:a.2.1 > 255
    ·simp only[bne_eq_false_iff_eq.2 h0,cond_false,decide_eq_true h1,cond_true,oBS];exact vB
    by_cases h2:a.1=0
    ·simp only[bne_eq_false_iff_eq.2 h0,decide_eq_false h1,cond_false,bne_eq_false_iff_eq.2 h2,oBS,show dF args 0=some a from ha,dO (x:=a.2.1) (by have:=hva.1;omega) (by have:=hva.2;omega),JS,dH,show dF ts j=some tj from htj,dZ htj];refine pd (h.set h.mem (Fg rfl (all_cons hr2 ?_) ⟨hva.1,by omega⟩ (by omega))) hi hrawc;exact all_cons (lk (by decide)) (all_cons (lk (by decide)) (all_cons (lk (by decide)) (all_cons (lk (by decide)) (all_cons (lk (by decide)) (all_cons (lk (by decide)) (all_cons (lk (by decide)) dX))))))
    ·simp only[bne_eq_false_iff_eq.2 h0,decide_eq_false h1,cond_false,bne_iff_ne.2 h2,cond_true,oBS];exact vB
   ·simp only[bne_iff_ne.2 h0,cond_true,oBS];exact vB
  ·simp only[decide_eq_false hsp0,cond_false];exact fin
 all_goals
  simp only[show ((qD 0)==2)=false from rfl,show ((qD 1)==2)=false from rfl,show ((qD 3)==2)=false from rfl,show ((qD 4)==2)=false from rfl,show ((qD 5)==2)=false from rfl,show ((qD 6)==2)=false from rfl,show ((qD 7)==2)=false from rfl,
   show ((qD 8)==2)=false from rfl,show ((qD 9)==2)=false from rfl,show ((qD 11)==2)=false from rfl,show ((qD 13)==2)=false from rfl,show ((qD 15)==2)=false from rfl,cond_false,Int.reduceBEq]
  exact fin
theorem ye{ss:List Int}{t v rg o sp:Int}{dat:List DCn}{w:Bool}(hs:w8 ss) (hv:Pr ss (t,v,rg,o)) (hd:dat.length≤16∧∀c∈dat,Pr ss c) (hsp:-1≤sp∧sp≤3):jJ t v rg o dat sp w=some (true,()):=by
 refine Ok.eq ?_;unfold jJ;rw[show jo t v rg o=some (true,()) from CC hs hv,jv (n:=16) hs hd.2 (by omega) (by omega)];refine Ok.need (decide_eq_true hsp.1) ?_;exact Ok.ret (by rw[decide_eq_true (show sp < 4 by omega)])
theorem Na{n m key:Int}{code:List DIn}{ss bs:List Int}{dd:List (List Int)}{cs:List DCe}{ls:List DLn}{ts:List DTh}{i:Nat}{trap count pc call:Int}{args data:List DCn}{t v rg o sp:Int}{dat:List DCn}{w:Bool}(hp:km code ss dd) (h:MOk n ss bs cs ls ts) (hi:i < 4)
 (hn:n≤1099511627776) (hm:m≤1099511627776) (hR:yb m ss (i:Int) 1 trap count pc call args data) (hv:Pr ss (t,v,rg,o)) (hd:dat.length≤16∧∀c∈dat,Pr ss c) (hsp:-1≤sp∧sp≤3) :
 Ok (n8 code ss dd bs key cs ls ts (i:Int) 1 trap count pc call args data t v rg o dat sp w) fun r=>∃cs' ls' ts' b,r=(bs,key,cs',ls',ts',b,())∧MOk n ss bs cs' ls' ts':=by
 have htl:=h.tlen;obtain⟨hk1,hk2⟩:=hR.hkind rfl;obtain⟨th,hth⟩:∃th,ts[i]?=some th:=⟨_,oGE (by omega)⟩;have hok:=h.thr th (dK hth);have hil:=(oGS hth).1;have hg:dF ts i=some th:=hth;unfold n8;delta dI;rw[sW hp h hn,yf hp.sz hR hm,uF hR.hcall,ye hp.sz hv hd hsp,hk1];simp only[oBS,Bool.not_true,cond_false,bne_self_eq_false,dH,hg];by_cases h2:th.1=2
 ·simp only[bne_eq_false_iff_eq.2 h2,cond_false,pL h,oBS,dH,hg];by_cases hc0:call=0
  ·subst hc0;obtain⟨a,ha⟩:∃a,args[0]?=some a:=⟨_,oGE (by rw[hk1];decide)⟩;have hva:=(hR.hargs.2 a (dK ha)).val;simp only[BEq.rfl,cond_true,show dF args 0=some a from ha,oBS];unfold io gd;rw[dN (show 4≤1000∧0+th.2.1.length≤1000000 by have:=hok.len;omega)];simp only[cond_true,oBS,dZ hth];exact Ok.ret ⟨_,_,_,_,rfl,h.set h.mem ⟨⟨show (0:Int)≤4 by decide,show (4:Int)≤4 by decide⟩,by dsimp only;rw[eK];simpa using hok.len,iQ dX hok.regs,hok.pc,hok.count,hok.handler,hok.saved,⟨show (0:Int)≤0 by decide,show (0:Int)≤6 by decide⟩,hva⟩⟩
  ·simp only[beq_eq_false_iff_ne.2 hc0,cond_false]
   cases w with
   | true=>
    simp only[cond_true,dZ hth];exact Ok.ret ⟨_,_,_,_,rfl,h.set h.mem ⟨⟨show (0:Int)≤3 by decide,show (3:Int)≤4 by decide⟩,hok.len,hok.regs,hok.pc,hok.count,hok.handler,hok.saved,hok.trap,hok.code⟩⟩
   | false=>
    simp only[cond_false];refine (JH h hi hR hv hd hsp).bind ?_;rintro _ ⟨b,cs',ls',ts',rfl,hb⟩;dsimp only
    cases b with
    | true=>exact Ok.ret ⟨_,_,_,_,rfl,hb rfl⟩
    | false=>exact Ok.ret ⟨_,_,_,_,rfl,h⟩
 ·simp only[bne_iff_ne.2 h2,cond_true];exact Ok.ret ⟨_,_,_,_,rfl,h⟩
theorem IS{n key:Int}{code:List DIn}{ss bs:List Int}{dd:List (List Int)}{cs:List DCe}{ls:List DLn}{ts:List DTh}{i t v rg o sp:Int}{dat:List DCn}{w:Bool}(hp:km code ss dd) (h:MOk n ss bs cs ls ts)
 (hn:n≤1099511627776) (hv:Pr ss (t,v,rg,o)) (hd:dat.length≤16∧∀c∈dat,Pr ss c) (hsp:-1≤sp∧sp≤3) :
 Ok (k9 code ss dd bs key cs ls ts i t v rg o dat sp w) fun r=>∃cs' ls' ts' b,r=(bs,key,cs',ls',ts',b,())∧MOk n ss bs cs' ls' ts':=by
 have htl:=h.tlen;obtain⟨hraw,hrawc⟩:=vA (key:=key) h.lay hv;dsimp only at hraw;unfold k9;rw[sW hp h hn,ye hp.sz hv hd hsp];simp only[oBS,Bool.not_true,cond_false];by_cases h1:i < 0
 ·simp only[decide_eq_true h1,cond_true,oBS];exact Ok.ret ⟨_,_,_,_,rfl,h⟩
 by_cases h2:i≥4
 ·simp only[decide_eq_false h1,decide_eq_true h2,cond_true,cond_false,oBS];exact Ok.ret ⟨_,_,_,_,rfl,h⟩
 obtain⟨i,rfl⟩:∃k:Nat,i=k:=⟨i.toNat,by omega⟩;obtain⟨th,hth⟩:∃th,ts[i]?=some th:=⟨_,oGE (by omega)⟩;have hok:=h.thr th (dK hth);have hil:=(oGS hth).1;have hg:dF ts i=some th:=hth;obtain⟨c,hc0⟩:∃c,th.2.1[0]?=some c:=⟨_,oGE (by have:=hok.len;omega)⟩;simp only[decide_eq_false h1,decide_eq_false h2,cond_false,dH,oBS,hg];by_cases h3:th.1=3
 ·simp only[bne_eq_false_iff_eq.2 h3,cond_false,hraw,oBS,bne_self_eq_false,pL h,dH,hg,show dF th.2.1 0=some c from hc0,dZ hth,dZ hc0,gu hil,nH hil];exact Ok.ret ⟨_,_,_,_,rfl,h.set h.mem ⟨⟨show (0:Int)≤1 by decide,show (1:Int)≤4 by decide⟩,by dsimp only;rw[List.length_set];exact hok.len,ix hok.regs hrawc,hok.pc,hok.count,hok.handler,hok.saved,hok.trap,hok.code⟩⟩
 ·simp only[bne_iff_ne.2 h3,cond_true];exact Ok.ret ⟨_,_,_,_,rfl,h⟩
structure jk (n:Int) (q:Nat) (code:List DIn) (ss:List Int) (dt:List (List Int)) (bs:List Int) (cs:List DCe) (ls:List DLn) (ts:List DTh) (ck rn:List Int) (ins:List (List Int)) (d:List (List DCn)) (os:List DOp) (us:List DOu) (ow:List Int) (qs:List (List Int)) (rec:List DEn) (js:List Int):Prop where
 prog:km code ss dt
 mach:MOk n ss bs cs ls ts
 outs:w9 ss ck rn ins d os us
 lock:iA ow qs
 rlen:rec.length≤q
 jlen:js.length=4
def NG(n key:Int) (q:Nat) (code:List DIn) (ss:List Int) (dt:List (List Int)) (bs:List Int) (r:(List DIn)×(List (Int))×(List (List (Int)))×(List (Int))×Int×(List DCe)×(List DLn)×(List DTh)×(List (Int))×(List (Int))×(List (List (Int)))×(List (List DCn))×(List DOp)×(List DOu)×(List (Int))×(List (List (Int)))×(List DEn)×(List (Int))×Unit):Prop:=
 ∃cs ls ts ck rn ins d os us ow qs rec js,r=(code,ss,dt,bs,key,cs,ls,ts,ck,rn,ins,d,os,us,ow,qs,rec,js,())∧jk n q code ss dt bs cs ls ts ck rn ins d os us ow qs rec js
theorem Gy{n:Int}{q:Nat}{code:List DIn}{ss:List Int}{dt:List (List Int)}{bs:List Int}{key:Int}{cs:List DCe}{ls:List DLn}{ts:List DTh}{ck rn:List Int}{ins:List (List Int)}{d:List (List DCn)}{os:List DOp}{us:List DOu}{ow:List Int}{qs:List (List Int)}{rec:List DEn}{js:List Int}{i v:Int}(h:jk n q code ss dt bs cs ls ts ck rn ins d os us ow qs rec js) (hn:n≤1099511627776) (hq:q≤900) (hv:W16 v) :
 Ok (mP i v code ss dt bs key cs ls ts ck rn ins d os us ow qs rec js) (NG n key (q+1) code ss dt bs):=by
 unfold mP;rw[dO (x:=v) (by have:=hv.1;omega) (by have:=hv.2;omega)];obtain⟨v2,ev,hv2⟩:=fT v true;simp only[ev,oBS];refine (IS h.prog h.mach hn (jY hv2) ⟨by decide,dX⟩ (by decide)).bind ?_;rintro _ ⟨cs',ls',ts',b,rfl,hM⟩;dsimp only;have hr:=h.rlen;refine Ok.need (dN (by simp;omega)) ?_;exact Ok.ret ⟨_,_,_,_,_,_,_,_,_,_,_,_,_,rfl,h.prog,hM,h.outs,h.lock,by rw[eK];simp;omega,h.jlen⟩
theorem Eb{n:Int}{q:Nat}{code:List DIn}{ss:List Int}{dt:List (List Int)}{bs:List Int}{key:Int}{cs:List DCe}{ls:List DLn}{ts:List DTh}{ck rn:List Int}{ins:List (List Int)}{d:List (List DCn)}{os:List DOp}{us:List DOu}{ow:List Int}{qs:List (List Int)}{rec:List DEn}{js:List Int}{i v:Int}(h:jk n q code ss dt bs cs ls ts ck rn ins d os us ow qs rec js) (hn:n≤1099511627776) (hq:q≤900) (hv:W16 v) :
 Ok (iU i v code ss dt bs key cs ls ts ck rn ins d os us ow qs rec) fun r=>∃cs' ls' ts' rec',r=(code,ss,dt,bs,key,cs',ls',ts',ck,rn,ins,d,os,us,ow,qs,rec',())∧jk n (q+1) code ss dt bs cs' ls' ts' ck rn ins d os us ow qs rec' js:=by
 unfold iU;rw[dO (x:=v) (by have:=hv.1;omega) (by have:=hv.2;omega)];obtain⟨v2,ev,hv2⟩:=fT v true;simp only[ev,oBS];refine (IS h.prog h.mach hn (jY hv2) ⟨by decide,dX⟩ (by decide)).bind ?_;rintro _ ⟨cs',ls',ts',b,rfl,hM⟩;dsimp only;have hr:=h.rlen;refine Ok.need (dN (by simp;omega)) ?_;exact Ok.ret ⟨_,_,_,_,rfl,h.prog,hM,h.outs,h.lock,by rw[eK];simp;omega,h.jlen⟩
def NJ(n key:Int) (q:Nat) (code:List DIn) (ss:List Int) (dt:List (List Int)) (bs:List Int) (cs:List DCe) (ls:List DLn) (ts:List DTh) (rec:List DEn) (r:Int×Int×Int×Int×(List DCn)×Int×Bool×(List DIn)×(List (Int))×(List (List (Int)))×(List (Int))×Int×(List DCe)×(List DLn)×(List DTh)×(List (Int))×(List (Int))×(List (List (Int)))×(List (List DCn))×(List DOp)×(List DOu)×(List (Int))×(List (List (Int)))×(List DEn)×(List (Int))×Unit):Prop:=
 ∃t v rg o dat sp w ck rn ins d os us ow qs js,r=(t,v,rg,o,dat,sp,w,code,ss,dt,bs,key,cs,ls,ts,ck,rn,ins,d,os,us,ow,qs,rec,js,())∧jk n q code ss dt bs cs ls ts ck rn ins d os us ow qs rec js∧Pr ss (t,v,rg,o)∧(dat.length≤16∧∀c∈dat,Pr ss c)∧-1≤sp∧sp≤3
set_option maxHeartbeats 4000000 in
theorem FD{n m:Int}{q:Nat}{code:List DIn}{ss:List Int}{dt:List (List Int)}{bs:List Int}{key:Int}{cs:List DCe}{ls:List DLn}{ts:List DTh}{ck rn:List Int}{ins:List (List Int)}{d:List (List DCn)}{os:List DOp}{us:List DOu}{ow:List Int}{qs:List (List Int)}{rec:List DEn}{js:List Int}{i:Nat}{trap count pc call:Int}{args data:List DCn}(h:jk n q code ss dt bs cs ls ts ck rn ins d os us ow qs rec js) (hi:i < 4) (hm:m≤1099511627776) (hR:yb m ss (i:Int) 1 trap count pc call args data) :
 Ok (jD (i:Int) 1 trap count pc call args data code ss dt bs key cs ls ts ck rn ins d os us ow qs rec js) (NJ n key q code ss dt bs cs ls ts rec):=by
 obtain⟨hk1,_⟩:=hR.hkind rfl;have htl:=h.mach.tlen;obtain⟨v0,ev0,hv0⟩:=fT 0 true;obtain⟨v1,ev1,hv1⟩:=fT 0 false;have nil16:([]:List DCn).length≤16∧∀c∈([]:List DCn),Pr ss c:=⟨by decide,dX⟩
 have fin:∀{v:Int} {w:Bool} {ow':List Int} {qs':List (List Int)} {js':List Int},W16 v→iA ow' qs'→js'.length=4→Ok (some ((0:Int),v,(0:Int),(0:Int),([]:List DCn),(-1:Int),w,code,ss,dt,bs,key,cs,ls,ts,ck,rn,ins,d,os,us,ow',qs',rec,js',())) (NJ n key q code ss dt bs cs ls ts rec):=
  fun hv hl hj=>Ok.ret ⟨_,_,_,_,_,_,_,_,_,_,_,_,_,_,_,_,rfl,⟨h.prog,h.mach,h.outs,hl,h.rlen,hj⟩,jY hv,nil16,by decide,by decide⟩
 have hdo:Mj call=true→Ok ((nA ck rn ins d os us (i:Int) 1 trap count pc call args data).bind fun(x35,x36,x37,x38,x39,x40,x41,x42,x43,x44,x45,x46,x47,x48,_)=>some (x41,x42,x43,x44,x45,x46,x47,code,ss,dt,bs,key,cs,ls,ts,x35,x36,x37,x38,x39,x40,ow,qs,rec,js,())) (NJ n key q code ss dt bs cs ls ts rec):=by
  intro ha;refine (L7 h.prog.sz h.outs hR ha hm).bind ?_;rintro _ ⟨ck',rn',ins',d',os',us',t,v,rg,o,dat,rfl,hO,hv,hd1,hd2⟩;exact Ok.ret ⟨_,_,_,_,_,_,_,_,_,_,_,_,_,_,_,_,rfl,⟨h.prog,h.mach,hO,h.lock,h.rlen,h.jlen⟩,hv,⟨hd1,hd2⟩,by decide,by decide⟩
 have arg0:0 < (kB call).length→∃a,dF args 0=some a∧W16 a.2.1∧wk .i64 a.2.1=a.2.1:=fun hl=>by
  obtain⟨a,ha⟩:∃a,args[0]?=some a:=⟨_,oGE (by omega)⟩;have hva:=(hR.hargs.2 a (dK ha)).val;exact⟨a,ha,hva,dO (by have:=hva.1;omega) (by have:=hva.2;omega)⟩
 unfold jD;delta dI
 try dsimp only
 rcases tI hR.hcall with rfl | rfl | rfl | rfl | rfl | rfl | rfl | rfl | rfl | rfl | rfl | rfl | rfl | rfl | rfl | rfl
 all_goals simp only[Int.reduceBEq,cond_true,cond_false,oBS,ev0,ev1]
 all_goals first
  | exact hdo rfl
  | exact fin hv0 h.lock h.jlen
  | skip
 ·obtain⟨a,ga,ha,wa⟩:=arg0 (by decide);simp only[ga,oBS,wa];refine (K4 h.lock (by omega)).bind ?_;rintro _ ⟨ow',qs',how,rfl,hl⟩;dsimp only;obtain⟨v,ev,hv⟩:=fT 0 (how != 2);simp only[ev,oBS];exact fin hv hl h.jlen
 ·obtain⟨a,ga,ha,wa⟩:=arg0 (by decide);simp only[ga,oBS,wa];refine (DJ h.lock).bind ?_;rintro _ ⟨ow',qs',nx,b,rfl,hl,_⟩;dsimp only;obtain⟨v,ev,hv⟩:=fT 0 b;simp only[ev,oBS];exact fin hv hl h.jlen
 ·obtain⟨y,e,hy⟩:=Ok.iter (f:=jC) (n:=NN) (s:=(ts,(ts.length:Int),0,code,ss,dt,bs,key,cs,ls,ts,ck,rn,ins,d,os,us,ow,qs,rec,js,0,0,0,0,(),0,false,()))
   (P:=fun s'=>∃k:Nat,s'=(ts,(ts.length:Int),(k:Int),code,ss,dt,bs,key,cs,ls,ts,ck,rn,ins,d,os,us,ow,qs,rec,js,0,0,0,0,(),0,false,())∧k≤4)
   (R:=fun y=>(∃v k,y=.inl (code,ss,dt,bs,key,cs,ls,ts,ck,rn,ins,d,os,us,ow,qs,rec,js,0,v,0,0,(),k,false,())∧W16 v∧0≤k∧k≤3)∨(∃a b c f,y=.inr (a,b,c,f,code,ss,dt,bs,key,cs,ls,ts,ck,rn,ins,d,os,us,ow,qs,rec,js,0,0,0,0,(),0,false,())))
   (m:=fun s'=>(s'.2.1 - s'.2.2.1).toNat) ⟨0,rfl,by omega⟩ (by unfold NN;dsimp only;omega) (by
    rintro _ ⟨k,rfl,hk⟩;unfold jC;dsimp only
    (with_reducible refine Ok.cb (fun hca=>?_) (fun hca=>?_))
    ·obtain⟨t,ht⟩:∃t,ts[k]?=some t:=⟨_,oGE (by omega)⟩;simp only[dH,oBS,show dF ts k=some t from ht]
     (with_reducible refine Ok.cb (fun hcb=>?_) (fun hcb=>?_))
     ·obtain⟨v,ev,hv⟩:=fT (k:Int) true;simp only[ev,oBS];exact Ok.ret (.inl ⟨_,_,rfl,hv,by omega,by omega⟩)
     ·rw[dL (x:=(k:Int)+1) (by omega) (by omega)];exact Ok.ret ⟨⟨k+1,rfl,by omega⟩,by dsimp only;omega⟩
    ·exact Ok.ret (.inr ⟨_,_,_,_,rfl⟩))
  simp only[e];rcases hy with ⟨v,k,rfl,hv,k0,k3⟩ | ⟨a,b,c,f,rfl⟩
  ·exact Ok.ret ⟨_,_,_,_,_,_,_,_,_,_,_,_,_,_,_,_,rfl,⟨h.prog,h.mach,h.outs,h.lock,h.rlen,h.jlen⟩,jY hv,nil16,by omega,by omega⟩
  ·simp only[ev1,oBS];exact fin hv1 h.lock h.jlen
 ·obtain⟨a,ga,ha,wa⟩:=arg0 (by decide);simp only[ga,oBS,wa];obtain⟨j,hj⟩:∃j:Nat,a.2.1=j:=⟨a.2.1.toNat,by have:=ha.1;omega⟩;simp only[hj];by_cases h1:(j:Int)=i
  ·simp only[beq_iff_eq.2 h1,cond_true,oBS,ev1];exact fin hv1 h.lock h.jlen
  by_cases h2:(j:Int)≥4
  ·simp only[beq_eq_false_iff_ne.2 h1,decide_eq_true h2,cond_true,cond_false,oBS,ev1];exact fin hv1 h.lock h.jlen
  obtain⟨t,ht⟩:∃t,ts[j]?=some t:=⟨_,oGE (by omega)⟩;simp only[beq_eq_false_iff_ne.2 h1,decide_eq_false h2,cond_false,oBS,dH,show dF ts j=some t from ht]
  cases t.1==0 with
  | true=>
   simp only[cond_true,ev1,oBS];exact fin hv1 h.lock h.jlen
  | false=>
   simp only[cond_false,dH,oBS,show dF ts j=some t from ht]
   cases t.1==4 with
   | true=>
    obtain⟨v,ev,hv⟩:=fT (wk .i64 t.2.2.2.2.2.2.2) true;simp only[cond_true,ev,oBS];exact fin hv h.lock h.jlen
   | false=>
    obtain⟨z,hz⟩:∃z,js[i]?=some z:=⟨_,oGE (by have:=h.jlen;omega)⟩;simp only[cond_false,show dF js i=some z from hz,oBS,ev0,dZ hz];exact fin hv0 h.lock (by rw[List.length_set];exact h.jlen)
theorem wN{n m:Int}{q:Nat}{code:List DIn}{ss:List Int}{dt:List (List Int)}{bs:List Int}{key:Int}{cs:List DCe}{ls:List DLn}{ts:List DTh}{ck rn:List Int}{ins:List (List Int)}{d:List (List DCn)}{os:List DOp}{us:List DOu}{ow:List Int}{qs:List (List Int)}{rec:List DEn}{js:List Int}{i:Nat}{trap count pc call:Int}{args data:List DCn}(h:jk n q code ss dt bs cs ls ts ck rn ins d os us ow qs rec js) (hi:i < 4) (hn:n≤1099511627776) (hm:m≤1099511627776) (hq:q≤800) (hR:yb m ss (i:Int) 1 trap count pc call args data) :
 Ok (iV (i:Int) 1 trap count pc call args data code ss dt bs key cs ls ts ck rn ins d os us ow qs rec js) (NG n key (q+2) code ss dt bs):=by
 obtain⟨hk1,_⟩:=hR.hkind rfl;unfold iV;refine Ok.bind (P:=fun r=>∃nx,r=(nx,code,ss,dt,bs,key,cs,ls,ts,ck,rn,ins,d,os,us,ow,qs,rec,js,(i:Int),1,trap,count,pc,call,args,data,())) ?_ ?_
 ·by_cases h9:call=9
  ·subst h9;obtain⟨a,ha⟩:∃a,args[0]?=some a:=⟨_,oGE (by rw[hk1];decide)⟩;simp only[BEq.rfl,cond_true,show dF args 0=some a from ha,oBS];refine (DJ h.lock).bind ?_;rintro _ ⟨ow',qs',nx,b,rfl,hl,_⟩;exact Ok.ret ⟨nx,rfl⟩
  ·simp only[beq_eq_false_iff_ne.2 h9,cond_false];exact Ok.ret ⟨_,rfl⟩
 rintro _ ⟨nx,rfl⟩;dsimp only;refine (FD h hi hm hR).bind ?_;rintro _ ⟨t,v,rg,o,dat,sp,w,ck',rn',ins',d',os',us',ow',qs',js',rfl,h2,hv,hd,hs1,hs2⟩;dsimp only;refine (Na h.prog h.mach hi hn hm hR hv hd ⟨hs1,hs2⟩).bind ?_;rintro _ ⟨cs',ls',ts',b,rfl,hM⟩;dsimp only;have hr:=h.rlen;refine Ok.need (dN (by simp;omega)) ?_;have h3:∀e:DEn,jk n (q+1) code ss dt bs cs' ls' ts' ck' rn' ins' d' os' us' ow' qs' (List.append rec [e]) js':=fun e=>⟨h2.prog,hM,h2.outs,h2.lock,by rw[eK];simp;omega,h2.jlen⟩
 (with_reducible refine Ok.cb (fun hca=>?_) (fun hca=>?_))
 ·refine (Gy (h3 _) hn (by omega) ⟨by decide,by decide⟩).bind ?_;rintro _ ⟨cs3,ls3,ts3,ck3,rn3,ins3,d3,os3,us3,ow3,qs3,rec3,js3,rfl,h4⟩;exact Ok.ret ⟨_,_,_,_,_,_,_,_,_,_,_,_,_,rfl,h4⟩
 ·have h4:=h3 (2,(i:Int),0,(i:Int),1,trap,count,pc,call,args,data,t,v,rg,o,dat,sp,w);exact Ok.ret ⟨_,_,_,_,_,_,_,_,_,_,_,_,_,rfl,h4.prog,h4.mach,h4.outs,h4.lock,by have:=h4.rlen;omega,h4.jlen⟩
theorem As{n:Int}{q:Nat}{code:List DIn}{ss:List Int}{dt:List (List Int)}{bs:List Int}{key:Int}{cs:List DCe}{ls:List DLn}{ts:List DTh}{ck rn:List Int}{ins:List (List Int)}{d:List (List DCn)}{os:List DOp}{us:List DOu}{ow:List Int}{qs:List (List Int)}{rec:List DEn}{js:List Int}{i:Nat}(h:jk n q code ss dt bs cs ls ts ck rn ins d os us ow qs rec js) (hi:i < 4) (hn:n≤1099511627776) (hq:q≤800) :
 Ok (jE (i:Int) code ss dt bs key cs ls ts ck rn ins d os us ow qs rec js) (NG n key (q+8) code ss dt bs):=by
 unfold jE;delta dI
 try dsimp only
 refine (L5 h.lock).bind ?_;rintro _ ⟨ow',qs',nx,rfl,hl,hn4,hnx⟩;dsimp only
 refine Ok.loop (P:=fun s'=>∃k:Nat,∃cs ls ts rec,s'=((i:Int),(nx.length:Int),(k:Int),code,ss,dt,bs,key,cs,ls,ts,ck,rn,ins,d,os,us,ow',qs',rec,js,nx,())∧k≤nx.length∧jk n (q+k) code ss dt bs cs ls ts ck rn ins d os us ow' qs' rec js)
  (R:=fun r=>∃a b f cs ls ts rec,r=((i:Int),a,b,f,code,ss,dt,bs,key,cs,ls,ts,ck,rn,ins,d,os,us,ow',qs',rec,js,nx,())∧jk n (q+4) code ss dt bs cs ls ts ck rn ins d os us ow' qs' rec js) (m:=fun s'=>(s'.2.1 - s'.2.2.1).toNat)
  ⟨0,cs,ls,ts,rec,rfl,by omega,h.prog,h.mach,h.outs,hl,by have:=h.rlen;omega,h.jlen⟩ (by unfold NN;dsimp only;omega) ?_ ?_
 ·rintro _ ⟨k,cs2,ls2,ts2,rec2,rfl,hk,h2⟩;unfold oS;dsimp only
  (with_reducible refine Ok.cb (fun hca=>?_) (fun hca=>?_))
  ·obtain⟨x,hx⟩:∃x,nx[k]?=some x:=⟨_,oGE (by omega)⟩;simp only[dH,oBS,show dF nx k=some x from hx];refine (Eb h2 hn (by omega) ⟨by decide,by decide⟩).bind ?_;rintro _ ⟨cs3,ls3,ts3,rec3,rfl,h3⟩;dsimp only;rw[dL (x:=(k:Int)+1) (by omega) (by omega)];exact Ok.ret ⟨⟨k+1,_,_,_,_,rfl,by omega,h3⟩,by dsimp only;omega⟩
  ·exact Ok.ret ⟨_,_,_,_,_,_,_,rfl,h2.prog,h2.mach,h2.outs,h2.lock,by have:=h2.rlen;omega,h2.jlen⟩
 rintro _ ⟨a,b,f,cs2,ls2,ts2,rec2,rfl,h2⟩;dsimp only
 refine Ok.loop (P:=fun s'=>∃k:Nat,∃cs ls ts rec js,s'=((i:Int),4,(k:Int),code,ss,dt,bs,key,cs,ls,ts,ck,rn,ins,d,os,us,ow',qs',rec,js,())∧k≤4∧jk n (q+4+k) code ss dt bs cs ls ts ck rn ins d os us ow' qs' rec js)
  (R:=fun r=>∃a b c f cs ls ts rec js,r=(a,b,c,f,code,ss,dt,bs,key,cs,ls,ts,ck,rn,ins,d,os,us,ow',qs',rec,js,())∧jk n (q+8) code ss dt bs cs ls ts ck rn ins d os us ow' qs' rec js) (m:=fun s'=>(s'.2.1 - s'.2.2.1).toNat)
  ⟨0,cs2,ls2,ts2,rec2,js,by rw[h.jlen];rfl,by omega,h2⟩ (by unfold NN;dsimp only;have:=h.jlen;omega) ?_ ?_
 ·rintro _ ⟨k,cs2,ls2,ts2,rec2,js2,rfl,hk,h2⟩;unfold oR;dsimp only
  (with_reducible refine Ok.cb (fun hca=>?_) (fun hca=>?_))
  ·obtain⟨x,hx⟩:∃x,js2[k]?=some x:=⟨_,oGE (by have:=h2.jlen;omega)⟩;obtain⟨t,ht⟩:∃t,ts2[i]?=some t:=⟨_,oGE (by have:=h2.mach.tlen;omega)⟩;have htc:=(h2.mach.thr t (dK ht)).code;simp only[dH,oBS,show dF js2 k=some x from hx,show dF ts2 i=some t from ht];refine Ok.bind (P:=fun r=>∃cs ls ts rec js,r=((i:Int),4,(k:Int),code,ss,dt,bs,key,cs,ls,ts,ck,rn,ins,d,os,us,ow',qs',rec,js,())∧jk n (q+4+(k+1)) code ss dt bs cs ls ts ck rn ins d os us ow' qs' rec js) ?_ ?_
   ·(with_reducible refine Ok.cb (fun hcb=>?_) (fun hcb=>?_))
    ·refine (Eb h2 hn (by omega) htc).bind ?_;rintro _ ⟨cs3,ls3,ts3,rec3,rfl,h3⟩;simp only[dH,oBS,show dF js2 k=some x from hx,dZ hx];exact Ok.ret ⟨_,_,_,_,_,rfl,h3.prog,h3.mach,h3.outs,h3.lock,by have:=h3.rlen;omega,by rw[List.length_set];exact h3.jlen⟩
    ·exact Ok.ret ⟨_,_,_,_,_,rfl,h2.prog,h2.mach,h2.outs,h2.lock,by have:=h2.rlen;omega,h2.jlen⟩
   ·rintro _ ⟨cs3,ls3,ts3,rec3,js3,rfl,h3⟩;dsimp only;rw[dL (x:=(k:Int)+1) (by omega) (by omega)];exact Ok.ret ⟨⟨k+1,_,_,_,_,_,rfl,by omega,h3⟩,by dsimp only;omega⟩
  ·exact Ok.ret ⟨_,_,_,_,_,_,_,_,_,rfl,h2.prog,h2.mach,h2.outs,h2.lock,by have:=h2.rlen;omega,h2.jlen⟩
 ·rintro _ ⟨a,b,c,f,cs2,ls2,ts2,rec2,js2,rfl,h2⟩;exact Ok.ret ⟨_,_,_,_,_,_,_,_,_,_,_,_,_,rfl,h2⟩
def NK(n key:Int) (q:Nat) (code:List DIn) (ss:List Int) (dt:List (List Int)) (bs:List Int) (r:(List DIn)×(List (Int))×(List (List (Int)))×(List (Int))×Int×(List DCe)×(List DLn)×(List DTh)×(List (Int))×(List (Int))×(List (List (Int)))×(List (List DCn))×(List DOp)×(List DOu)×(List (Int))×(List (List (Int)))×(List DEn)×(List (Int))×Int×Unit):Prop:=
 (∃e,r=([],[],[],[],0,[],[],[],[],[],[],[],[],[],[],[],[],[],e,())∧e≠0)∨(∃cs ls ts ck rn ins d os us ow qs rec js,r=(code,ss,dt,bs,key,cs,ls,ts,ck,rn,ins,d,os,us,ow,qs,rec,js,0,())∧jk n q code ss dt bs cs ls ts ck rn ins d os us ow qs rec js)
theorem DT{code:List DIn}{ss:List Int}{dt:List (List Int)}{bs:List Int}{key:Int}{cs:List DCe}{ls:List DLn}{ts:List DTh}{ck rn:List Int}{ins:List (List Int)}{d:List (List DCn)}{os:List DOp}{us:List DOu}{ow:List Int}{qs:List (List Int)}{rec:List DEn}{js:List Int}(h1:rec.length≤1000) (h2:js.length≤1000):kD code ss dt bs key cs ls ts ck rn ins d os us ow qs rec js=some (code,ss,dt,bs,key,cs,ls,ts,ck,rn,ins,d,os,us,ow,qs,rec,js,()):=by
 unfold kD;rw[dN (show 8≤1000∧0+js.length≤1000000 by omega),dN (show 184≤1000∧0+rec.length≤1000000 by omega)];rfl
set_option maxHeartbeats 4000000 in
theorem HY{n:Int}{q:Nat}{code:List DIn}{ss:List Int}{dt:List (List Int)}{bs:List Int}{key:Int}{cs:List DCe}{ls:List DLn}{ts:List DTh}{ck rn:List Int}{ins:List (List Int)}{d:List (List DCn)}{os:List DOp}{us:List DOu}{ow:List Int}{qs:List (List Int)}{rec:List DEn}{js:List Int}{c1 c2:Int}{c3:Bool}(h:jk n q code ss dt bs cs ls ts ck rn ins d os us ow qs rec js) (hn0:0≤n) (hn:n+64≤1099511627776) (hq:q≤700) (hc1:rG c1) (hc2:rG c2) :
 Ok (mQ code ss dt bs key cs ls ts ck rn ins d os us ow qs rec js c1 c2 c3) (NK (n+64) key (q+12) code ss dt bs):=by
 have htl:=h.mach.tlen;have hr:=h.rlen;unfold mQ;delta dI;rw[JF (by omega)];simp only[oBS];have hrl:=nL ts 0
 (with_reducible refine Ok.cb (fun hca=>?_) (fun hca=>?_))
 ·exact Ok.ret (.inl ⟨15,rfl,by decide⟩)
 (with_reducible refine Ok.cb (fun hcb=>?_) (fun hcb=>?_))
 ·exact Ok.ret (.inl ⟨3,rfl,by decide⟩)
 refine MP hc1 (by omega) (by omega) fun v v0 v1=>?_;dsimp only;obtain⟨k,rfl⟩:∃k:Nat,v=k:=⟨v.toNat,by omega⟩;obtain⟨x,hx⟩:∃x,(fv ts 0)[k]?=some x:=⟨_,oGE (by omega)⟩;obtain⟨x0,x1,_⟩:=Fw (dK hx);obtain⟨i,rfl⟩:∃i:Nat,x=i:=⟨x.toNat,by omega⟩
 have hi:i < 4:=by omega
 simp only[dH,oBS,show dF (fv ts 0) k=some (i:Int) from hx];refine MP hc2 (by decide) (by decide) fun u u0 u1=>?_;dsimp only;rw[dL (x:=1+u) (by omega) (by omega),DT (by omega) (by have:=h.jlen;omega)]
 have hk:1≤1+u∧1+u≤64:=by omega
 generalize 1+u=kk at hk;simp only[oBS]
 cases c3 with
 | false=>
  simp only[cond_false];have h2:jk n (q+1) code ss dt bs cs ls ts ck rn ins d os us ow qs rec js:=⟨h.prog,h.mach,h.outs,h.lock,by omega,h.jlen⟩;have htl2:=h2.mach.tlen;refine (vm h2.prog h2.mach hn0 hn hi hk).bind ?_;rintro _ ⟨cs3,ls3,t3,stop,trap,call,args,data,rfl,hm3,hth3,hreq,hask,_⟩;dsimp only;have hr2:=h2.rlen;have hM3:=(h2.mach.mono (show n≤n+64 by omega)).set hm3 (i:=i) hth3;refine Ok.need (dN (by simp;omega)) ?_;refine Ok.bind (P:=fun r=>∃cs ls ts ck rn ins d os us ow qs rec js,r=((i:Int),(),(),(),(),0,(),(),(),(),(),(),(),(),(),(),(),(),(),code,ss,dt,bs,key,cs,ls,ts,ck,rn,ins,d,os,us,ow,qs,rec,js,())∧jk (n+64) (q+4) code ss dt bs cs ls ts ck rn ins d os us ow qs rec js) ?_ ?_
  ·by_cases hs1:stop=1
   ·subst hs1;simp only[BEq.rfl,cond_true];refine (wN (q:=q+2) ⟨h2.prog,hM3,h2.outs,h2.lock,by rw[eK];simp;omega,h2.jlen⟩ hi (by omega) hn (by omega) hreq).bind ?_;rintro _ ⟨cs4,ls4,ts4,ck4,rn4,ins4,d4,os4,us4,ow4,qs4,rec4,js4,rfl,h4⟩;exact Ok.ret ⟨_,_,_,_,_,_,_,_,_,_,_,_,_,rfl,h4⟩
   ·simp only[beq_eq_false_iff_ne.2 hs1,cond_false];exact Ok.ret ⟨_,_,_,_,_,_,_,_,_,_,_,_,_,rfl,h2.prog,hM3,h2.outs,h2.lock,by rw[eK];simp;omega,h2.jlen⟩
  rintro _ ⟨cs,ls,ts,ck,rn,ins,d,os,us,ow,qs,rec,js,rfl,h5⟩;dsimp only;obtain⟨t5,ht5⟩:∃t5,ts[i]?=some t5:=⟨_,oGE (by have:=h5.mach.tlen;omega)⟩;simp only[dH,oBS,show dF ts i=some t5 from ht5];refine Ok.bind (P:=fun r=>∃cs ls ts ck rn ins d os us ow qs rec js,r=((),(),(),(),0,(),(),(),(),(),(),(),(),(),(),(),(),(),code,ss,dt,bs,key,cs,ls,ts,ck,rn,ins,d,os,us,ow,qs,rec,js,())∧jk (n+64) (q+12) code ss dt bs cs ls ts ck rn ins d os us ow qs rec js) ?_ ?_
  ·(with_reducible refine Ok.cb (fun hce=>?_) (fun hce=>?_))
   ·refine (As h5 hi (by omega) (by omega)).bind ?_;rintro _ ⟨cs4,ls4,ts4,ck4,rn4,ins4,d4,os4,us4,ow4,qs4,rec4,js4,rfl,h4⟩;exact Ok.ret ⟨_,_,_,_,_,_,_,_,_,_,_,_,_,rfl,h4⟩
   ·exact Ok.ret ⟨_,_,_,_,_,_,_,_,_,_,_,_,_,rfl,h5.prog,h5.mach,h5.outs,h5.lock,by have:=h5.rlen;omega,h5.jlen⟩
  rintro _ ⟨cs,ls,ts,ck,rn,ins,d,os,us,ow,qs,rec,js,rfl,h6⟩;exact Ok.ret (.inr ⟨_,_,_,_,_,_,_,_,_,_,_,_,_,rfl,h6⟩)
 | true=>
  simp only[cond_true];obtain⟨⟨b,_⟩,eC,_⟩:=KO (key:=key) h.mach (i:Int);simp only[eC,oBS]
  cases b with
  | false=>
   simp only[cond_false];have h2:jk n (q+1) code ss dt bs cs ls ts ck rn ins d os us ow qs rec js:=⟨h.prog,h.mach,h.outs,h.lock,by omega,h.jlen⟩;have htl2:=h2.mach.tlen;refine (vm h2.prog h2.mach hn0 hn hi hk).bind ?_;rintro _ ⟨cs3,ls3,t3,stop,trap,call,args,data,rfl,hm3,hth3,hreq,hask,_⟩;dsimp only;have hr2:=h2.rlen;have hM3:=(h2.mach.mono (show n≤n+64 by omega)).set hm3 (i:=i) hth3;refine Ok.need (dN (by simp;omega)) ?_;refine Ok.bind (P:=fun r=>∃cs ls ts ck rn ins d os us ow qs rec js,r=((i:Int),(),(),(),(),0,(),(),(),(),(),(),(),(),(),(),(),(),(),code,ss,dt,bs,key,cs,ls,ts,ck,rn,ins,d,os,us,ow,qs,rec,js,())∧jk (n+64) (q+4) code ss dt bs cs ls ts ck rn ins d os us ow qs rec js) ?_ ?_
   ·by_cases hs1:stop=1
    ·subst hs1;simp only[BEq.rfl,cond_true];refine (wN (q:=q+2) ⟨h2.prog,hM3,h2.outs,h2.lock,by rw[eK];simp;omega,h2.jlen⟩ hi (by omega) hn (by omega) hreq).bind ?_;rintro _ ⟨cs4,ls4,ts4,ck4,rn4,ins4,d4,os4,us4,ow4,qs4,rec4,js4,rfl,h4⟩;exact Ok.ret ⟨_,_,_,_,_,_,_,_,_,_,_,_,_,rfl,h4⟩
    ·simp only[beq_eq_false_iff_ne.2 hs1,cond_false];exact Ok.ret ⟨_,_,_,_,_,_,_,_,_,_,_,_,_,rfl,h2.prog,hM3,h2.outs,h2.lock,by rw[eK];simp;omega,h2.jlen⟩
   rintro _ ⟨cs,ls,ts,ck,rn,ins,d,os,us,ow,qs,rec,js,rfl,h5⟩;dsimp only;obtain⟨t5,ht5⟩:∃t5,ts[i]?=some t5:=⟨_,oGE (by have:=h5.mach.tlen;omega)⟩;simp only[dH,oBS,show dF ts i=some t5 from ht5];refine Ok.bind (P:=fun r=>∃cs ls ts ck rn ins d os us ow qs rec js,r=((),(),(),(),0,(),(),(),(),(),(),(),(),(),(),(),(),(),code,ss,dt,bs,key,cs,ls,ts,ck,rn,ins,d,os,us,ow,qs,rec,js,())∧jk (n+64) (q+12) code ss dt bs cs ls ts ck rn ins d os us ow qs rec js) ?_ ?_
   ·(with_reducible refine Ok.cb (fun hce=>?_) (fun hce=>?_))
    ·refine (As h5 hi (by omega) (by omega)).bind ?_;rintro _ ⟨cs4,ls4,ts4,ck4,rn4,ins4,d4,os4,us4,ow4,qs4,rec4,js4,rfl,h4⟩;exact Ok.ret ⟨_,_,_,_,_,_,_,_,_,_,_,_,_,rfl,h4⟩
    ·exact Ok.ret ⟨_,_,_,_,_,_,_,_,_,_,_,_,_,rfl,h5.prog,h5.mach,h5.outs,h5.lock,by have:=h5.rlen;omega,h5.jlen⟩
   rintro _ ⟨cs,ls,ts,ck,rn,ins,d,os,us,ow,qs,rec,js,rfl,h6⟩;exact Ok.ret (.inr ⟨_,_,_,_,_,_,_,_,_,_,_,_,_,rfl,h6⟩)
  | true=>
   obtain⟨_,eD,ts',b',rfl,hD⟩:=F9 (key:=key) h.mach (i:Int);simp only[cond_true,eD,oBS];rw[dN (show 184≤1000∧rec.length + _≤1000000 by simp;omega)];simp only[cond_true];have h2:jk n (q+1) code ss dt bs cs ls ts' ck rn ins d os us ow qs (List.append rec [(3,(i:Int),0,0,0,0,0,0,0,[],[],0,0,0,0,[],0,false)]) js:=⟨h.prog,hD,h.outs,h.lock,by rw[eK];simp;omega,h.jlen⟩;have htl2:=h2.mach.tlen;refine (vm h2.prog h2.mach hn0 hn hi hk).bind ?_;rintro _ ⟨cs3,ls3,t3,stop,trap,call,args,data,rfl,hm3,hth3,hreq,hask,_⟩;dsimp only;have hr2:=h2.rlen;have hM3:=(h2.mach.mono (show n≤n+64 by omega)).set hm3 (i:=i) hth3;refine Ok.need (dN (by simp;omega)) ?_;refine Ok.bind (P:=fun r=>∃cs ls ts ck rn ins d os us ow qs rec js,r=((i:Int),(),(),(),(),0,(),(),(),(),(),(),(),(),(),(),(),(),(),code,ss,dt,bs,key,cs,ls,ts,ck,rn,ins,d,os,us,ow,qs,rec,js,())∧jk (n+64) (q+4) code ss dt bs cs ls ts ck rn ins d os us ow qs rec js) ?_ ?_
   ·by_cases hs1:stop=1
    ·subst hs1;simp only[BEq.rfl,cond_true];refine (wN (q:=q+2) ⟨h2.prog,hM3,h2.outs,h2.lock,by rw[eK];simp;omega,h2.jlen⟩ hi (by omega) hn (by omega) hreq).bind ?_;rintro _ ⟨cs4,ls4,ts4,ck4,rn4,ins4,d4,os4,us4,ow4,qs4,rec4,js4,rfl,h4⟩;exact Ok.ret ⟨_,_,_,_,_,_,_,_,_,_,_,_,_,rfl,h4⟩
    ·simp only[beq_eq_false_iff_ne.2 hs1,cond_false];exact Ok.ret ⟨_,_,_,_,_,_,_,_,_,_,_,_,_,rfl,h2.prog,hM3,h2.outs,h2.lock,by rw[eK];simp;omega,h2.jlen⟩
   rintro _ ⟨cs,ls,ts,ck,rn,ins,d,os,us,ow,qs,rec,js,rfl,h5⟩;dsimp only;obtain⟨t5,ht5⟩:∃t5,ts[i]?=some t5:=⟨_,oGE (by have:=h5.mach.tlen;omega)⟩;simp only[dH,oBS,show dF ts i=some t5 from ht5];refine Ok.bind (P:=fun r=>∃cs ls ts ck rn ins d os us ow qs rec js,r=((),(),(),(),0,(),(),(),(),(),(),(),(),(),(),(),(),(),code,ss,dt,bs,key,cs,ls,ts,ck,rn,ins,d,os,us,ow,qs,rec,js,())∧jk (n+64) (q+12) code ss dt bs cs ls ts ck rn ins d os us ow qs rec js) ?_ ?_
   ·(with_reducible refine Ok.cb (fun hce=>?_) (fun hce=>?_))
    ·refine (As h5 hi (by omega) (by omega)).bind ?_;rintro _ ⟨cs4,ls4,ts4,ck4,rn4,ins4,d4,os4,us4,ow4,qs4,rec4,js4,rfl,h4⟩;exact Ok.ret ⟨_,_,_,_,_,_,_,_,_,_,_,_,_,rfl,h4⟩
    ·exact Ok.ret ⟨_,_,_,_,_,_,_,_,_,_,_,_,_,rfl,h5.prog,h5.mach,h5.outs,h5.lock,by have:=h5.rlen;omega,h5.jlen⟩
   rintro _ ⟨cs,ls,ts,ck,rn,ins,d,os,us,ow,qs,rec,js,rfl,h6⟩;exact Ok.ret (.inr ⟨_,_,_,_,_,_,_,_,_,_,_,_,_,rfl,h6⟩)
theorem Ia{l ss:List Int}{k:Int}(hs:w8 ss) (h:DOk l k):Ok (lP ss l k) fun r=>∃bs key k',r=(bs,key,l,k',())∧LV bs ss∧W16 key∧DOk l k':=by
 unfold lP
 (with_reducible refine fb (by assumption) (by omega) (by omega) (fun v0 k0 a0 b0 d0=>?_);try dsimp only)
 refine (LS hs a0 (by omega)).bind ?_;rintro _ ⟨key,rfl,hk⟩;exact Ok.ret ⟨_,_,_,rfl,Nc hs a0,hk,d0⟩
theorem MF{l:List Int}{k:Int}(h:DOk l k):Ok (qp l k) fun r=>∃code ss dt bs key cs ls ts ck rn ins d os us ow qs rec js k',r=(code,ss,dt,bs,key,cs,ls,ts,ck,rn,ins,d,os,us,ow,qs,rec,js,l,k',())∧W16 key∧jk 1152 216 code ss dt bs cs ls ts ck rn ins d os us ow qs rec js∧DOk l k':=by
 unfold qp;refine (FC h).bind ?_;rintro _ ⟨code,ss,dt,k1,rfl,hp,h1⟩;dsimp only;refine (Ia hp.sz h1).bind ?_;rintro _ ⟨bs,key,k2,rfl,hL,hkey,h2⟩;dsimp only;refine (FH hp.sz h2).bind ?_;rintro _ ⟨ck,rn,ins,d,os,k3,rfl,hO,h3⟩;dsimp only;refine (Kp hp hL hO).bind ?_;rintro _ ⟨cs,ts,rfl,hM⟩;dsimp only
 (with_reducible refine fb (by assumption) (by omega) (by omega) (fun v4 k4 a4 b4 d4=>?_);try dsimp only)
 rw[dL (x:=3+v4) (by omega) (by omega)]
 obtain⟨y,e,hy⟩:=Ok.iter (f:=og) (n:=NN) (s:=(3+v4,l,k4,(),(),(),(),0,(),(),(),(),(),(),(),(),(),(),(),(),(),code,ss,dt,bs,key,cs,eL,ts,ck,rn,ins,d,os,[],[-1,-1,-1,-1],[[],[],[],[]],[],[-1,-1,-1,-1],()))
  (P:=fun s'=>∃(c k':Int) (q:Nat),∃cs ls ts ck rn ins d os us ow qs rec js,s'=(c,l,k',(),(),(),(),0,(),(),(),(),(),(),(),(),(),(),(),(),(),code,ss,dt,bs,key,cs,ls,ts,ck,rn,ins,d,os,us,ow,qs,rec,js,())∧0≤c∧c+q≤18∧DOk l k'∧jk (64*q) (12*q) code ss dt bs cs ls ts ck rn ins d os us ow qs rec js)
  (R:=fun y=>(∃(c k':Int) (f:Bool) (q:Nat),∃cs ls ts ck rn ins d os us ow qs rec js z1 z2 z3 z4 z5 z6 z7 z8 z9 z10 z11 z12 z13 z14 z15 z16 z17 z18,y=.inl (c,f,l,k',(),(),(),(),0,(),(),(),(),(),(),(),(),(),(),(),(),(),code,ss,dt,bs,key,cs,ls,ts,ck,rn,ins,d,os,us,ow,qs,rec,js,z1,z2,z3,z4,z5,z6,z7,z8,z9,z10,z11,z12,z13,z14,z15,z16,z17,z18,())∧q≤18∧DOk l k'∧jk (64*q) (12*q) code ss dt bs cs ls ts ck rn ins d os us ow qs rec js) ∨
   (∃(c k':Int) (f:Bool) (q:Nat),∃cs ls ts ck rn ins d os us ow qs rec js,y=.inr (c,f,l,k',(),(),(),(),0,(),(),(),(),(),(),(),(),(),(),(),(),(),code,ss,dt,bs,key,cs,ls,ts,ck,rn,ins,d,os,us,ow,qs,rec,js,())∧q≤18∧DOk l k'∧jk (64*q) (12*q) code ss dt bs cs ls ts ck rn ins d os us ow qs rec js)) (m:=fun s'=>s'.1.toNat)
  ⟨3+v4,k4,0,_,_,_,_,_,_,_,_,_,_,_,_,_,rfl,by omega,by omega,d4,hp,by simpa using hM,hO,MQ,by simp,rfl⟩ (by unfold NN;dsimp only;omega) (by
   rintro _ ⟨c,k',q,cs,ls,ts,ck,rn,ins,d,os,us,ow,qs,rec,js,rfl,hc0,hcq,hd,hR⟩;unfold og;dsimp only
   (with_reducible refine Ok.cb (fun hca=>?_) (fun hca=>?_))
   ·refine (IG hd).bind ?_;rintro _ ⟨t,b,s,k5,rfl,t0,t1,b0,b1,hd5⟩;dsimp only;refine (HY hR (by omega) (by omega) (by omega) ⟨by omega,by omega⟩ ⟨by omega,by omega⟩).bind ?_;rintro _ (⟨e,rfl,he⟩ | ⟨cs2,ls2,ts2,ck2,rn2,ins2,d2,os2,us2,ow2,qs2,rec2,js2,rfl,hR2⟩)
    ·dsimp only;rw[bne_iff_ne.2 he];exact Ok.ret (.inl ⟨_,_,_,q,_,_,_,_,_,_,_,_,_,_,_,_,_,_,_,_,_,_,_,_,_,_,_,_,_,_,_,_,_,_,_,rfl,by omega,hd5,hR⟩)
    ·dsimp only;rw[dL (x:=c - 1) (by omega) (by omega)];refine Ok.ret ⟨⟨_,_,q+1,_,_,_,_,_,_,_,_,_,_,_,_,_,rfl,by omega,by omega,hd5,?_⟩,by dsimp only;omega⟩;rw[show 64*((q+1:Nat):Int)=64*(q:Int)+64 by omega,show 12*(q+1)=12*q+12 by omega];exact hR2
   ·exact Ok.ret (.inr ⟨_,_,_,q,_,_,_,_,_,_,_,_,_,_,_,_,_,rfl,by omega,hd,hR⟩))
 rw[e];have fin:∀{q:Nat} {cs ls ts ck rn ins d os us ow qs rec js},q≤18→jk (64*q) (12*q) code ss dt bs cs ls ts ck rn ins d os us ow qs rec js→jk 1152 216 code ss dt bs cs ls ts ck rn ins d os us ow qs rec js:=fun hq hR=>⟨hR.prog,hR.mach.mono (by omega),hR.outs,hR.lock,by have:=hR.rlen;omega,hR.jlen⟩;rcases hy with ⟨c,k',f,q,cs,ls,ts,ck,rn,ins,d,os,us,ow,qs,rec,js,z1,z2,z3,z4,z5,z6,z7,z8,z9,z10,z11,z12,z13,z14,z15,z16,z17,z18,rfl,hq,hd,hR⟩ | ⟨c,k',f,q,cs,ls,ts,ck,rn,ins,d,os,us,ow,qs,rec,js,rfl,hq,hd,hR⟩
 ·exact Ok.ret ⟨_,_,_,_,_,_,_,_,_,_,_,_,_,_,_,_,_,_,_,rfl,hkey,fin hq hR,hd⟩
 ·exact Ok.ret ⟨_,_,_,_,_,_,_,_,_,_,_,_,_,_,_,_,_,_,_,rfl,hkey,fin hq hR,hd⟩
def MJ(bs ss:List Int) (key:Int) (cs:List DCe) (ls:List DLn) (r o:Nat):DCn:=qT bs ss key (Db cs ls (bs.getD r 0+o))
def LJ(bs ss:List Int) (key:Int) (cs:List DCe) (ls:List DLn) (r:Nat):List DCn:=(List.range (ss.getD r 0).toNat).map (MJ bs ss key cs ls r)
def CK(bs ss:List Int) (key:Int) (cs:List DCe) (ls:List DLn):List (List DCn):=(List.range ss.length).map (LJ bs ss key cs ls)
def sU(bs ss:List Int) (key:Int) (t:DTh):DTs:=(t.1,t.2.2.1,t.2.2.2.1,t.2.2.2.2.1,t.2.2.2.2.2.1,t.2.2.2.2.2.2.1,t.2.2.2.2.2.2.2,t.2.1.map (qT bs ss key))
theorem LV.at_{bs ss:List Int}(h:LV bs ss) {r:Nat}(hr:r < ss.length):∃b z,bs[r]?=some b∧ss[r]?=some z∧1≤z∧z≤32∧0≤b∧b+z≤512:=by
 obtain⟨hs,hl,hg⟩:=h;obtain⟨b,hb⟩:∃b,bs[r]?=some b:=⟨_,oGE (by omega)⟩;obtain⟨z,hz⟩:∃z,ss[r]?=some z:=⟨_,oGE (by omega)⟩;have h1:=hg r (by omega);unfold uT at h1;rw[ej hb,ej hz] at h1;have h2:=hs.2.2 z (dK hz);exact⟨b,z,hb,hz,h2.1,h2.2,h1.1,h1.2.1⟩
theorem Fv{K:Int→Prop}{bs ss:List Int}{key:Int}{cs:List DCe}{ls:List DLn}(h:LV bs ss) (hm:ki K cs ls):jQ cs ls bs key ss=some (CK bs ss key cs ls,()):=by
 have hs4:=h.1.2.1
 have e0:∀(r:Nat) (b z:Int),bs[r]?=some b→ss[r]?=some z→1≤z→z≤32→0≤b→b+z≤512→∀(a1 a2 a3:_) (out:List (List DCn)),dP fX NN (ss,(r:Int),a1,a2,a3,z,0,cs,ls,bs,key,out,[],())=some (ss,(r:Int),a1,a2,a3,z,z,false,cs,ls,bs,key,out,LJ bs ss key cs ls r,()):=by
  intro r b z hb hz z1 z32 b0 bz a1 a2 a3 out;obtain⟨n,rfl⟩:∃n:Nat,z=n:=⟨z.toNat,by omega⟩
  have e:LJ bs ss key cs ls r=(List.range n).map (MJ bs ss key cs ls r):=by unfold LJ;rw[ej hz,Int.toNat_natCast]
  rw[e];refine mr (f:=fX) (N:=NN) (st:=fun o=>(ss,(r:Int),a1,a2,a3,(n:Int),(o:Int),cs,ls,bs,key,out,(List.range o).map (MJ bs ss key cs ls r),())) (n:=n) (by unfold NN;omega) ?_ ?_
  ·intro o ho;unfold fX;dsimp only;rw[decide_eq_true (show (o:Int) < n by omega),dH];simp only[cond_true,oBS,show dF bs r=some b from hb];rw[dL (x:=b+o) (by omega) (by omega)];obtain⟨hlk,hlv⟩:=za (a:=b+o) hm ⟨by omega,by omega⟩;rw[hlk];simp only[oBS];rw[qC h hlv];simp only[oBS];refine Ok.need (dN (by simp;omega)) ?_;rw[dL (x:=(o:Int)+1) (by omega) (by omega)];refine Ok.ret ?_;rw[← nn];unfold MJ;rw[ej hb];rfl
  ·unfold fX;dsimp only;rw[decide_eq_false (show ¬ (n:Int) < n by omega)];exact Ok.ret rfl
 have e1:dP fW NN (ss,ss,(ss.length:Int),0,cs,ls,bs,key,[],())=some (ss,ss,(ss.length:Int),(ss.length:Int),false,cs,ls,bs,key,CK bs ss key cs ls,()):=by
  refine mr (f:=fW) (N:=NN) (st:=fun r=>(ss,ss,(ss.length:Int),(r:Int),cs,ls,bs,key,(List.range r).map (LJ bs ss key cs ls),())) (n:=ss.length) (by unfold NN;omega) ?_ ?_
  ·intro r hr;obtain⟨b,z,hb,hz,z1,z32,b0,bz⟩:=h.at_ hr;unfold fW;dsimp only;rw[decide_eq_true (show (r:Int) < ss.length by omega),dH];simp only[cond_true,oBS,show dF ss r=some z from hz];rw[e0 r b z hb hz z1 z32 b0 bz];simp only[oBS];refine Ok.need (dN (by simp;omega)) ?_;rw[dL (x:=(r:Int)+1) (by omega) (by omega)];refine Ok.ret ?_;rw[← nn];rfl
  ·unfold fW;dsimp only;rw[decide_eq_false (show ¬ (ss.length:Int) < ss.length by omega)];exact Ok.ret rfl
 unfold jQ;delta dI
 try dsimp only
 rw[e1];rfl
theorem I9{n key:Int}{code:List DIn}{dt:List (List Int)}{bs ss:List Int}{cs:List DCe}{ls:List DLn}{ts:List DTh}(h:MOk n ss bs cs ls ts):lF code ss dt bs key cs ls ts=some (CK bs ss key cs ls,ts.map (sU bs ss key),()):=by
 have h4:=h.tlen
 have e1:dP gT NN (ts,(ts.length:Int),0,code,ss,dt,bs,key,cs,ls,ts,(),(),CK bs ss key cs ls,[],())=some (ts,(ts.length:Int),(ts.length:Int),false,code,ss,dt,bs,key,cs,ls,ts,(),(),CK bs ss key cs ls,ts.map (sU bs ss key),()):=by
  have:=mr (f:=gT) (N:=NN) (st:=fun r=>(ts,(ts.length:Int),(r:Int),code,ss,dt,bs,key,cs,ls,ts,(),(),CK bs ss key cs ls,(ts.take r).map (sU bs ss key),())) (n:=ts.length) (t:=(ts,(ts.length:Int),(ts.length:Int),false,code,ss,dt,bs,key,cs,ls,ts,(),(),CK bs ss key cs ls,ts.map (sU bs ss key),())) (by unfold NN;omega) ?_ ?_
  ·exact this
  ·intro r hr;obtain⟨t,ht⟩:∃t,ts[r]?=some t:=⟨_,oGE (by omega)⟩;have hok:=h.thr t (dK ht);have h8:=hok.len;unfold gT;delta dI;dsimp only;rw[decide_eq_true (show (r:Int) < ts.length by omega),dH];simp only[cond_true,oBS,show dF ts r=some t from ht]
   have e0:∀(a1 a2 a3 a4 a5 a6 a7 a8 a9 a10 a11 a12 a13 a14:_),dP gU NN (ts,(ts.length:Int),(r:Int),t.2.1,(t.2.1.length:Int),0,code,ss,dt,bs,key,cs,ls,ts,(),(),CK bs ss key cs ls,(ts.take r).map (sU bs ss key),a1,t.2.1,a2,a3,a4,a5,a6,a7,a8,a9,a10,a11,a12,a13,a14,[],()) =
    some (ts,(ts.length:Int),(r:Int),t.2.1,(t.2.1.length:Int),(t.2.1.length:Int),false,code,ss,dt,bs,key,cs,ls,ts,(),(),CK bs ss key cs ls,(ts.take r).map (sU bs ss key),a1,t.2.1,a2,a3,a4,a5,a6,a7,a8,a9,a10,a11,a12,a13,a14,t.2.1.map (qT bs ss key),()):=by
    intro a1 a2 a3 a4 a5 a6 a7 a8 a9 a10 a11 a12 a13 a14
    have:=mr (f:=gU) (N:=NN) (st:=fun o=>(ts,(ts.length:Int),(r:Int),t.2.1,(t.2.1.length:Int),(o:Int),code,ss,dt,bs,key,cs,ls,ts,(),(),CK bs ss key cs ls,(ts.take r).map (sU bs ss key),a1,t.2.1,a2,a3,a4,a5,a6,a7,a8,a9,a10,a11,a12,a13,a14,(t.2.1.take o).map (qT bs ss key),())) (n:=t.2.1.length)
     (t:=(ts,(ts.length:Int),(r:Int),t.2.1,(t.2.1.length:Int),(t.2.1.length:Int),false,code,ss,dt,bs,key,cs,ls,ts,(),(),CK bs ss key cs ls,(ts.take r).map (sU bs ss key),a1,t.2.1,a2,a3,a4,a5,a6,a7,a8,a9,a10,a11,a12,a13,a14,t.2.1.map (qT bs ss key),())) (by unfold NN;omega) ?_ ?_
    ·exact this
    ·intro o ho;obtain⟨c,hc⟩:∃c,t.2.1[o]?=some c:=⟨_,oGE ho⟩;unfold gU;dsimp only;rw[decide_eq_true (show (o:Int) < t.2.1.length by omega),dH];simp only[cond_true,oBS,show dF t.2.1 o=some c from hc];rw[qC h.lay (hok.regs c (dK hc))];simp only[oBS];refine Ok.need (dN (by simp;omega)) ?_;rw[dL (x:=(o:Int)+1) (by omega) (by omega)];refine Ok.ret ?_;rw[← gO (qT bs ss key) hc];rfl
    ·unfold gU;dsimp only;rw[decide_eq_false (show ¬ (t.2.1.length:Int) < t.2.1.length by omega),List.take_length];exact Ok.ret rfl
   rw[e0];simp only[oBS];refine Ok.need (dN (by simp;omega)) ?_;rw[dL (x:=(r:Int)+1) (by omega) (by omega)];refine Ok.ret ?_;rw[← gO (sU bs ss key) ht];rfl
  ·unfold gT;dsimp only;rw[decide_eq_false (show ¬ (ts.length:Int) < ts.length by omega),List.take_length];exact Ok.ret rfl
 unfold lF;delta dI;simp only[Fv h.lay h.mem,oBS];rw[e1];rfl
structure NF (n:Int) (ss:List Int) (v:DTs):Prop where
 state:0≤v.1∧v.1≤4
 pc:0≤v.2.1∧v.2.1≤255
 count:0≤v.2.2.1∧v.2.2.1≤n
 handler:-1≤v.2.2.2.1∧v.2.2.2.1≤255
 saved:-1≤v.2.2.2.2.1∧v.2.2.2.2.1≤255
 trap:0≤v.2.2.2.2.2.1∧v.2.2.2.2.2.1≤6
 code:W16 v.2.2.2.2.2.2.1
 len:v.2.2.2.2.2.2.2.length=8
 regs:∀c∈v.2.2.2.2.2.2.2,Pr ss c
structure AH (n:Int) (ss:List Int) (rg:List (List DCn)) (vs:List DTs):Prop where
 rlen:rg.length=ss.length
 fit:∀(j:Nat) x z,rg[j]?=some x→ss[j]?=some z→(x.length:Int)=z
 cells:∀x∈rg,∀c∈x,Pr ss c
 vlen:vs.length=4
 views:∀v∈vs,NF n ss v
theorem I8{n key:Int}{bs ss:List Int}{cs:List DCe}{ls:List DLn}{ts:List DTh}(h:MOk n ss bs cs ls ts):AH n ss (CK bs ss key cs ls) (ts.map (sU bs ss key)):=by
 refine⟨by unfold CK;simp,fun j x z hx hz=>?_,fun x hx c hc=>?_,by rw[List.length_map];exact h.tlen,fun v hv=>?_⟩
 ·unfold CK at hx;rw[List.getElem?_map,List.getElem?_range (oGS hz).1] at hx
  injection hx with hx
  subst hx;have:=(h.lay.1.2.2 z (dK hz)).1;unfold LJ;rw[List.length_map,List.length_range,ej hz];omega
 ·unfold CK at hx;obtain⟨r,hr,rfl⟩:=List.mem_map.1 hx;have hr:=List.mem_range.1 hr;obtain⟨b,z,hb,hz,z1,z32,b0,bz⟩:=h.lay.at_ hr;unfold LJ at hc;obtain⟨o,ho,rfl⟩:=List.mem_map.1 hc;have ho:=List.mem_range.1 ho;rw[ej hz] at ho;unfold MJ;rw[ej hb];exact AC h.lay (za (a:=b+o) h.mem ⟨by omega,by omega⟩).2
 ·obtain⟨t,ht,rfl⟩:=List.mem_map.1 hv;have hok:=h.thr t ht;refine⟨hok.state,hok.pc,hok.count,hok.handler,hok.saved,hok.trap,hok.code,by unfold sU;dsimp only;rw[List.length_map];exact hok.len,fun c hc=>?_⟩;unfold sU at hc;dsimp only at hc;obtain⟨c',hc',rfl⟩:=List.mem_map.1 hc;exact AC h.lay (hok.regs c' hc')
theorem GG{l:List Int}(h:∀x∈l,1≤x∧x≤32):(l.length:Int)≤l.sum∧l.sum≤32*l.length:=by
 induction l with
 | nil=>simp
 | cons a l ih=>
  have h1:=h a (by simp);have h2:=ih fun x hx=>h x (by simp[hx]);rw[List.sum_cons,List.length_cons];omega
theorem L6{l:List Int}{k:Nat}{x:Int}(h:l[k]?=some x):l.drop k=x :: l.drop (k+1):=by
 obtain⟨hk,rfl⟩:=oGS h;exact List.drop_eq_getElem_cons hk
theorem I5{ss:List Int}(h:w8 ss):lN ss=some (ss.sum,()):=by
 have e:dP gX NN (0,ss,(ss.length:Int),0,())=some (ss.sum,ss,(ss.length:Int),(ss.length:Int),false,()):=by
  have:=mr (f:=gX) (N:=NN) (st:=fun k=>((ss.take k).sum,ss,(ss.length:Int),(k:Int),())) (n:=ss.length) (t:=(ss.sum,ss,(ss.length:Int),(ss.length:Int),false,())) (by unfold NN;have:=h.2.1;omega) ?_ ?_
  ·exact this
  ·intro k hk;obtain⟨x,hx⟩:∃x,ss[k]?=some x:=⟨_,oGE hk⟩;have hx2:=h.2.2 x (dK hx);have hb:=GG (l:=ss.take k) fun y hy=>h.2.2 y (List.mem_of_mem_take hy);have hl:=h.2.1;rw[List.length_take] at hb;unfold gX;dsimp only;rw[decide_eq_true (show (k:Int) < ss.length by omega),dH];simp only[cond_true,oBS,show dF ss k=some x from hx];rw[dL (x:=(ss.take k).sum+x) (by omega) (by omega),dL (x:=(k:Int)+1) (by omega) (by omega)];refine Ok.ret ?_;rw[show ss.take (k+1)=ss.take k++[x] by rw[List.take_add_one,hx];rfl];simp
  ·unfold gX;dsimp only;rw[decide_eq_false (show ¬ (ss.length:Int) < ss.length by omega),List.take_length];exact Ok.ret rfl
 unfold lN;delta dI
 try dsimp only
 rw[e];rfl
theorem NE{ss:List Int}{i:Int}(h:w8 ss) (h0:0≤i) (h1:i < ss.sum):Ok (qo ss i) fun r=>∃rg o,r=(rg,o,0,())∧0≤rg∧∃n,ss[rg.toNat]?=some n∧0≤o∧o < n:=by
 have hl:=h.2.1;unfold qo;delta dI
 try dsimp only
 obtain⟨y,e,rg,o,rfl,hy⟩:=Ok.iter (f:=od) (n:=NN) (s:=(i,ss,(ss.length:Int),0,0,0,())) (P:=fun s'=>∃(k:Nat) (i':Int),s'=(i',ss,(ss.length:Int),(k:Int),0,0,())∧k≤ss.length∧0≤i'∧i' < (ss.drop k).sum∧i'≤1000)
  (R:=fun y=>∃rg o,y=.inl (0,rg,o,())∧0≤rg∧∃n,ss[rg.toNat]?=some n∧0≤o∧o < n) (m:=fun s'=>(s'.2.2.1 - s'.2.2.2.1).toNat) ⟨0,i,rfl,by omega,h0,h1,by have:=(GG h.2.2).2;omega⟩ (by unfold NN;dsimp only;omega) (by
   rintro _ ⟨k,i',rfl,hk,i0,i1,i2⟩;unfold od;dsimp only;by_cases hkl:k=ss.length
   ·subst hkl;rw[List.drop_length] at i1;simp at i1;omega
   obtain⟨x,hx⟩:∃x,ss[k]?=some x:=⟨_,oGE (by omega)⟩;have hx2:=h.2.2 x (dK hx);rw[L6 hx,List.sum_cons] at i1;rw[decide_eq_true (show (k:Int) < ss.length by omega),dH];simp only[cond_true,oBS,show dF ss k=some x from hx];rw[decide_eq_true (show i'≥0 from i0)];by_cases hlt:i' < x
   ·rw[decide_eq_true hlt];exact Ok.ret ⟨_,_,rfl,by omega,x,by rw[Int.toNat_natCast];exact hx,i0,hlt⟩
   ·rw[decide_eq_false hlt];simp only[cond_true,cond_false];rw[dL (x:=i' - x) (by omega) (by omega),dL (x:=(k:Int)+1) (by omega) (by omega)]
    exact Ok.ret ⟨⟨k+1,_,rfl,by omega,by omega,by omega,by omega⟩,by dsimp only;omega⟩)
 rw[e];exact Ok.ret ⟨rg,o,rfl,hy⟩
theorem EY{ss l:List Int}{k:Int}(hs:w8 ss) (h:DOk l k):Ok (lh ss l k) fun r=>∃t v rg o k',r=(t,v,rg,o,l,k',())∧Pr ss (t,v,rg,o)∧DOk l k':=by
 unfold lh
 (with_reducible refine fb (by assumption) (by omega) (by omega) (fun v0 k0 a0 b0 d0=>?_);try dsimp only)
 rw[I5 hs];simp only[oBS];have hb:=GG hs.2.2;have h1:=hs.1;have h4:=hs.2.1
 (with_reducible refine Ok.cb (fun hca=>?_) (fun hca=>?_))
 ·(with_reducible refine fb (by assumption) (by omega) (by omega) (fun v1 k1 a1 b1 d1=>?_);try dsimp only)
  refine (NE hs a1 b1).bind ?_;rintro _ ⟨rg,o,rfl,g1,n,g2,g3,g4⟩;exact Ok.ret ⟨_,_,_,_,_,rfl,.inr ⟨rfl,rfl,g1,n,g2,g3,g4⟩,d1⟩
 (with_reducible refine Ok.cb (fun hcb=>?_) (fun hcb=>?_))
 ·(with_reducible refine fb (by assumption) (by omega) (by omega) (fun v2 k2 a2 b2 d2=>?_);try dsimp only)
  exact Ok.ret ⟨_,_,_,_,_,rfl,KI (md _),d2⟩
 ·(with_reducible refine Ea (by assumption) (fun v3 k3 a3 b3 d3=>?_);try dsimp only)
  exact Ok.ret ⟨_,_,_,_,_,rfl,jY ⟨by omega,by omega⟩,d3⟩
def xk(v:DTs):List DCn:=v.2.2.2.2.2.2.2
def thF(bs:List Int) (key:Int) (v:DTs):DTh:=(v.1,(xk v).map (yq bs key),v.2.1,v.2.2.1,v.2.2.2.1,v.2.2.2.2.1,v.2.2.2.2.2.1,v.2.2.2.2.2.2.1)
theorem AM{n:Int}{ss:List Int}{vs:List DTs}(hs:w8 ss) (hl:vs.length=4) (h:∀v∈vs,NF n ss v) (hn:n≤1099511627776):jK vs=some (true,()):=by
 have e:dP fV NN (vs,vs,(vs.length:Int),0,())=some (.inr (vs,vs,(vs.length:Int),(vs.length:Int),false,())):=by
  refine mr (f:=fV) (N:=NN) (st:=fun k=>(vs,vs,(vs.length:Int),(k:Int),())) (n:=vs.length) (by unfold NN;omega) ?_ ?_
  ·intro k hk;obtain⟨v,hv⟩:∃v,vs[k]?=some v:=⟨_,oGE hk⟩;obtain⟨⟨a1,a2⟩,⟨b1,b2⟩,⟨c1,c2⟩,⟨d1,d2⟩,⟨e1,e2⟩,⟨f1,f2⟩,_,hl8,hr⟩:=h v (dK hv);unfold fV;delta dI;dsimp only;rw[decide_eq_true (show (k:Int) < vs.length by omega),dH];simp only[cond_true,oBS,show dF vs k=some v from hv];rw[decide_eq_true (show v.1≥0 from a1),decide_eq_true a2,decide_eq_true (show v.2.1≥0 from b1),decide_eq_true b2,decide_eq_true (show v.2.2.1≥0 from c1),decide_eq_true (show v.2.2.1≤1099511627776 by omega),decide_eq_true (show v.2.2.2.1≥-1 from d1),decide_eq_true d2,decide_eq_true (show v.2.2.2.2.1≥-1 from e1),decide_eq_true e2,decide_eq_true (show v.2.2.2.2.2.1≥0 from f1),decide_eq_true f2];simp only[cond_true,cond_false,oBS,Bool.not_true];rw[hl8,jv (n:=8) hs hr (by omega) (by omega)];simp only[show (((8:Nat):Int) != 8)=false from rfl,cond_false,oBS,Bool.not_true];rw[dL (x:=(k:Int)+1) (by omega) (by omega)];exact Ok.ret rfl
  ·unfold fV;dsimp only;rw[decide_eq_false (show ¬ (vs.length:Int) < vs.length by omega)];exact Ok.ret rfl
 unfold jK;delta dI;dsimp only;rw[e];dsimp only;rw[hl];rfl
theorem Fe{n:Int}{code:List DIn}{ss:List Int}{dt:List (List Int)}{rg:List (List DCn)}{vs:List DTs}(hp:km code ss dt) (h:AH n ss rg vs) (hn:n≤1099511627776):lE code ss dt rg vs=some (true,()):=by
 have h4:=hp.sz.2.1;have hl:=h.rlen
 have e:dP gS NN (rg,(rg.length:Int),0,code,ss,dt,rg,vs,())=some (.inr (rg,(rg.length:Int),(rg.length:Int),false,code,ss,dt,rg,vs,())):=by
  refine mr (f:=gS) (N:=NN) (st:=fun k=>(rg,(rg.length:Int),(k:Int),code,ss,dt,rg,vs,())) (n:=rg.length) (by unfold NN;omega) ?_ ?_
  ·intro k hk;obtain⟨x,hx⟩:∃x,rg[k]?=some x:=⟨_,oGE hk⟩;obtain⟨z,hz⟩:∃z,ss[k]?=some z:=⟨_,oGE (by omega)⟩;have hf:=h.fit k x z hx hz;have hz2:=hp.sz.2.2 z (dK hz);unfold gS;delta dI;dsimp only;rw[decide_eq_true (show (k:Int) < rg.length by omega),dH];simp only[cond_true,oBS,show dF rg k=some x from hx,show dF ss k=some z from hz,hf,bne_self_eq_false,cond_false];rw[jv (n:=32) hp.sz (h.cells x (dK hx)) (by omega) (by omega)];simp only[oBS,Bool.not_true,cond_false];rw[dL (x:=(k:Int)+1) (by omega) (by omega)];exact Ok.ret rfl
  ·unfold gS;dsimp only;rw[decide_eq_false (show ¬ (rg.length:Int) < rg.length by omega)];exact Ok.ret rfl
 unfold lE;delta dI;rw[AB hp,AM hp.sz h.vlen h.views hn];simp only[oBS,bne_self_eq_false,cond_false,Bool.not_true];rw[show ((rg.length:Int) != (ss.length:Int))=false by rw[hl];simp];simp only[cond_false,oBS];rw[e]
theorem FQ{rg:List (List DCn)}{vs:List DTs}(h1:rg.length≤1000) (h2:vs.length≤1000):lD rg vs=some (rg++vs.map xk,()):=by
 have e:dP gR NN (vs,(vs.length:Int),0,rg,vs,rg,())=some (vs,(vs.length:Int),(vs.length:Int),false,rg,vs,rg++vs.map xk,()):=by
  have:=mr (f:=gR) (N:=NN) (st:=fun k=>(vs,(vs.length:Int),(k:Int),rg,vs,rg++(vs.take k).map xk,())) (n:=vs.length) (t:=(vs,(vs.length:Int),(vs.length:Int),false,rg,vs,rg++vs.map xk,())) (by unfold NN;omega) ?_ ?_
  ·simpa using this
  ·intro k hk;obtain⟨v,hv⟩:∃v,vs[k]?=some v:=⟨_,oGE hk⟩;unfold gR;dsimp only;rw[decide_eq_true (show (k:Int) < vs.length by omega),dH];simp only[cond_true,oBS,show dF vs k=some v from hv];refine Ok.need (dN (by simp;omega)) ?_;rw[dL (x:=(k:Int)+1) (by omega) (by omega)];refine Ok.ret ?_;rw[← gO xk hv,← List.append_assoc];rfl
  ·unfold gR;dsimp only;rw[decide_eq_false (show ¬ (vs.length:Int) < vs.length by omega),List.take_length];exact Ok.ret rfl
 unfold lD;rw[dN (show 24≤1000∧0+rg.length≤1000000 by omega)];delta dI;simp only[cond_true];rw[show List.append [] rg=rg from rfl,e];rfl
theorem LV.apart{bs ss:List Int}(h:LV bs ss) {r r':Nat}{b z b' z' o o':Int}(hne:r≠r') (hb:bs[r]?=some b) (hz:ss[r]?=some z) (hb':bs[r']?=some b') (hz':ss[r']?=some z') (h0:0≤o) (h1:o < z) (h0':0≤o') (h1':o' < z'):b+o≠b'+o':=by
 obtain⟨_,hl,hg⟩:=h;have l1:=(oGS hb).1;have l2:=(oGS hb').1;have g1:=hg r l1;have g2:=hg r' l2;unfold uT at g1 g2;rw[ej hb,ej hz] at g1;rw[ej hb',ej hz'] at g2;by_cases hlt:r' < r
 ·have:=g1.2.2 r' hlt;rw[ej hb',ej hz'] at this;omega
 ·have:=g2.2.2 r (by omega);rw[ej hb,ej hz] at this;omega
def Nd(bs:List Int) (key:Int) (rg:List (List DCn)) (cs:List DCe) (r o:Nat):Prop:=∀(r' o':Nat) (x:List DCn) (c:DCn) (b:Int),rg[r']?=some x→x[o']?=some c→bs[r']?=some b→(r' < r∨(r'=r∧o' < o))→cs[(b+o').toNat]?=some (yq bs key c)
set_option maxHeartbeats 4000000 in
theorem Il{n key:Int}{code:List DIn}{ss bs:List Int}{dt:List (List Int)}{rg:List (List DCn)}{vs:List DTs}(hp:km code ss dt) (hL:LV bs ss) (h:AH n ss rg vs) (hn:n≤1099511627776) :
 Ok (kF code ss dt bs key rg vs) fun r=>∃cs,r=(bs,key,cs,eL,vs.map (thF bs key),true,())∧MOk n ss bs cs eL (vs.map (thF bs key))∧Nd bs key rg cs ss.length 0:=by
 have h4:=hp.sz.2.1;have hbl:=hL.2.1;have hrl:=h.rlen;have hvl:=h.vlen;unfold kF;delta dI;rw[Fe hp h hn,qk hL,FQ (by omega) (by omega),ES];simp only[oBS,Bool.not_true,cond_false]
 have hall:∀x∈rg++vs.map xk,x.length≤100∧∀c∈x,Pr ss c:=by
  intro x hx;rcases List.mem_append.1 hx with hx | hx
  ·obtain⟨j,hj⟩:=List.getElem?_of_mem hx;have:=(oGS hj).1;obtain⟨z,hz⟩:∃z,ss[j]?=some z:=⟨_,oGE (by omega)⟩;have:=h.fit j x z hj hz;have:=hp.sz.2.2 z (dK hz);exact⟨by omega,h.cells x hx⟩
  ·obtain⟨v,hv,rfl⟩:=List.mem_map.1 hx;have:=h.views v hv;exact⟨by unfold xk;rw[this.len];omega,this.regs⟩
 have hll:(rg++vs.map xk).length≤100:=by rw[List.length_append,List.length_map];omega
 generalize rg++vs.map xk=lst at hall hll
 have e1:dP gn NN ((lst.length:Int),0,code,ss,dt,bs,key,rg,vs,(),0,(),(),(),lst,())=some (.inr ((lst.length:Int),(lst.length:Int),false,code,ss,dt,bs,key,rg,vs,(),0,(),(),(),lst,())):=by
  refine mr (f:=gn) (N:=NN) (st:=fun k=>((lst.length:Int),(k:Int),code,ss,dt,bs,key,rg,vs,(),0,(),(),(),lst,())) (n:=lst.length) (by unfold NN;omega) ?_ ?_
  ·intro k hk;obtain⟨x,hx⟩:∃x,lst[k]?=some x:=⟨_,oGE hk⟩;obtain⟨hxl,hxc⟩:=hall x (dK hx)
   have e0:dP gp NN ((lst.length:Int),(k:Int),x,(x.length:Int),0,code,ss,dt,bs,key,rg,vs,(),0,(),(),(),lst,())=some (.inr ((lst.length:Int),(k:Int),x,(x.length:Int),(x.length:Int),false,code,ss,dt,bs,key,rg,vs,(),0,(),(),(),lst,())):=by
    refine mr (f:=gp) (N:=NN) (st:=fun o=>((lst.length:Int),(k:Int),x,(x.length:Int),(o:Int),code,ss,dt,bs,key,rg,vs,(),0,(),(),(),lst,())) (n:=x.length) (by unfold NN;omega) ?_ ?_
    ·intro o ho;obtain⟨c,hc⟩:∃c,x[o]?=some c:=⟨_,oGE ho⟩;unfold gp;dsimp only;rw[decide_eq_true (show (o:Int) < x.length by omega),dH];simp only[cond_true,oBS,show dF x o=some c from hc,mq (hxc c (dK hc)),Bool.not_true,cond_false];rw[dL (x:=(o:Int)+1) (by omega) (by omega)];exact Ok.ret rfl
    ·unfold gp;dsimp only;rw[decide_eq_false (show ¬ (x.length:Int) < x.length by omega)];exact Ok.ret rfl
   unfold gn;delta dI;dsimp only;rw[decide_eq_true (show (k:Int) < lst.length by omega),dH];simp only[cond_true,oBS,show dF lst k=some x from hx,e0];rw[dL (x:=(k:Int)+1) (by omega) (by omega)];exact Ok.ret rfl
  ·unfold gn;dsimp only;rw[decide_eq_false (show ¬ (lst.length:Int) < lst.length by omega)];exact Ok.ret rfl
 rw[e1];dsimp only;refine Ok.need (dN (by omega)) (Ok.need (by decide) ?_);rw[show List.append [] bs=bs from rfl]
 refine Ok.loop (P:=fun s'=>∃(r:Nat),∃cs,s'=(rg,(rg.length:Int),(r:Int),code,ss,dt,bs,key,rg,vs,(),0,(),(),(),bs,key,cs,eL,(),())∧r≤rg.length∧cs.length=512∧(∀c∈cs,mJ (RK bs ss) c)∧Nd bs key rg cs r 0)
  (R:=fun y=>∃a b c f cs,y=(a,b,c,f,code,ss,dt,bs,key,rg,vs,(),0,(),(),(),bs,key,cs,eL,(),())∧cs.length=512∧(∀c∈cs,mJ (RK bs ss) c)∧Nd bs key rg cs ss.length 0) (m:=fun s'=>(s'.2.1 - s'.2.2.1).toNat)
  ⟨0,_,rfl,by omega,List.length_replicate,fun c hc=>by rw[List.eq_of_mem_replicate hc];exact lk (by decide),fun r' o' x c b _ _ _ hlt=>by omega⟩ (by unfold NN;dsimp only;omega) ?_ ?_
 ·rintro _ ⟨r,cs,rfl,hr,hc1,hc2,hI⟩;unfold nB;delta dI;dsimp only
  (with_reducible refine Ok.cb (fun hca=>?_) (fun hca=>?_))
  ·obtain⟨x,hx⟩:∃x,rg[r]?=some x:=⟨_,oGE (by omega)⟩;obtain⟨b,z,hb,hz,z1,z32,b0,bz⟩:=hL.at_ (r:=r) (by omega);have hf:=h.fit r x z hx hz;have hxc:=h.cells x (dK hx);rw[dH];simp only[oBS,show dF rg r=some x from hx]
   refine Ok.loop (P:=fun s'=>∃(o:Nat),∃cs,s'=((r:Int),rg,(rg.length:Int),(r:Int),x,(x.length:Int),(o:Int),code,ss,dt,bs,key,rg,vs,(),0,(),(),(),bs,key,cs,eL,(),())∧o≤x.length∧cs.length=512∧(∀c∈cs,mJ (RK bs ss) c)∧Nd bs key rg cs r o)
    (R:=fun y=>∃a2 a3 a4 f cs,y=((r:Int),rg,(rg.length:Int),(r:Int),a2,a3,a4,f,code,ss,dt,bs,key,rg,vs,(),0,(),(),(),bs,key,cs,eL,(),())∧cs.length=512∧(∀c∈cs,mJ (RK bs ss) c)∧Nd bs key rg cs (r+1) 0) (m:=fun s'=>(s'.2.2.2.2.2.1 - s'.2.2.2.2.2.2.1).toNat) ⟨0,cs,rfl,by omega,hc1,hc2,hI⟩ (by unfold NN;dsimp only;omega) ?_ ?_
   ·rintro _ ⟨o,cs,rfl,ho,hc1,hc2,hI⟩;unfold nC;dsimp only
    (with_reducible refine Ok.cb (fun hcb=>?_) (fun hcb=>?_))
    ·obtain⟨c,hc⟩:∃c,x[o]?=some c:=⟨_,oGE (by omega)⟩;obtain⟨hr1,hr2⟩:=vA (key:=key) hL (hxc c (dK hc));simp only[dH,oBS,show dF x o=some c from hc,show dF bs r=some b from hb,hr1];rw[dL (x:=b+o) (by omega) (by omega),dL (x:=(o:Int)+1) (by omega) (by omega)];obtain⟨a,ha⟩:∃a:Nat,b+o=a:=⟨(b+o).toNat,by omega⟩;obtain⟨y,hy⟩:∃y,cs[a]?=some y:=⟨_,oGE (by omega)⟩;rw[ha,dH];simp only[oBS,show dF cs a=some y from hy,dZ hy];refine Ok.ret ⟨⟨o+1,_,rfl,by omega,by rw[List.length_set];exact hc1,ix hc2 hr2,fun r' o' x' c' b' h1 h2 h3 hlt=>?_⟩,by dsimp only;omega⟩;by_cases e:r'=r∧o'=o
     ·obtain⟨rfl,rfl⟩:=e;rw[hx] at h1;cases h1;rw[hc] at h2;cases h2;rw[hb] at h3;cases h3;rw[ha,Int.toNat_natCast];exact gu (by omega) _
     ·have hr'l:=(oGS h1).1;obtain⟨b2,z2,hb2,hz2,_,_,b20,b2z⟩:=hL.at_ (r:=r') (by omega)
      have h3':b2=b':=by rw[hb2] at h3;injection h3
      subst h3';have hf2:=h.fit r' x' z2 h1 hz2;have ho'l:=(oGS h2).1
      have hne:(b2+o').toNat≠a:=by
       by_cases er:r'=r
       ·subst er;rw[hb] at hb2;cases hb2;omega
       ·have:=hL.apart er hb2 hz2 hb hz (o:=o') (o':=o) (by omega) (by omega) (by omega) (by omega);omega
      rw[kv (fun e=>hne e.symm)];exact hI r' o' x' c' b2 h1 h2 hb2 (by omega)
    ·refine Ok.ret ⟨_,_,_,_,cs,rfl,hc1,hc2,fun r' o' x' c' b' h1 h2 h3 hlt=>hI r' o' x' c' b' h1 h2 h3 ?_⟩;by_cases er:r'=r
     ·subst er;rw[hx] at h1;cases h1;have:=(oGS h2).1;omega
     ·omega
   ·rintro _ ⟨a2,a3,a4,f,cs,rfl,hc1,hc2,hI⟩;dsimp only;rw[dL (x:=(r:Int)+1) (by omega) (by omega)];exact Ok.ret ⟨⟨r+1,cs,rfl,by omega,hc1,hc2,hI⟩,by dsimp only;omega⟩
  ·obtain rfl:r=ss.length:=by omega
   exact Ok.ret ⟨_,_,_,_,cs,rfl,hc1,hc2,hI⟩
 rintro _ ⟨a,b,c,f,cs,rfl,hc1,hc2,hI⟩;dsimp only
 have e5:dP gk NN (vs,(vs.length:Int),0,code,ss,dt,bs,key,rg,vs,(),0,(),(),(),bs,key,cs,eL,[],())=some (vs,(vs.length:Int),(vs.length:Int),false,code,ss,dt,bs,key,rg,vs,(),0,(),(),(),bs,key,cs,eL,vs.map (thF bs key),()):=by
  have:=mr (f:=gk) (N:=NN) (st:=fun k=>(vs,(vs.length:Int),(k:Int),code,ss,dt,bs,key,rg,vs,(),0,(),(),(),bs,key,cs,eL,(vs.take k).map (thF bs key),())) (n:=vs.length) (t:=(vs,(vs.length:Int),(vs.length:Int),false,code,ss,dt,bs,key,rg,vs,(),0,(),(),(),bs,key,cs,eL,vs.map (thF bs key),())) (by unfold NN;omega) ?_ ?_
  ·exact this
  ·intro k hk;obtain⟨v,hv⟩:∃v,vs[k]?=some v:=⟨_,oGE hk⟩;have hvo:=h.views v (dK hv);have h8:=hvo.len;unfold gk;delta dI;dsimp only;rw[decide_eq_true (show (k:Int) < vs.length by omega),dH];simp only[cond_true,oBS,show dF vs k=some v from hv]
   have e4:∀(a1 a2 a3 a4 a5 a6 a7 a8 b1 b2 b3 b4 b5 b6 b7:_),dP gl NN (vs,(vs.length:Int),(k:Int),v.2.2.2.2.2.2.2,(v.2.2.2.2.2.2.2.length:Int),0,code,ss,dt,bs,key,rg,vs,(),0,(),(),(),bs,key,cs,eL,(vs.take k).map (thF bs key),a1,a2,a3,a4,a5,a6,a7,a8,b1,[],b2,b3,b4,b5,b6,b7,()) =
    some (vs,(vs.length:Int),(k:Int),v.2.2.2.2.2.2.2,(v.2.2.2.2.2.2.2.length:Int),(v.2.2.2.2.2.2.2.length:Int),false,code,ss,dt,bs,key,rg,vs,(),0,(),(),(),bs,key,cs,eL,(vs.take k).map (thF bs key),a1,a2,a3,a4,a5,a6,a7,a8,b1,v.2.2.2.2.2.2.2.map (yq bs key),b2,b3,b4,b5,b6,b7,()):=by
    intro a1 a2 a3 a4 a5 a6 a7 a8 b1 b2 b3 b4 b5 b6 b7
    have:=mr (f:=gl) (N:=NN) (st:=fun o=>(vs,(vs.length:Int),(k:Int),v.2.2.2.2.2.2.2,(v.2.2.2.2.2.2.2.length:Int),(o:Int),code,ss,dt,bs,key,rg,vs,(),0,(),(),(),bs,key,cs,eL,(vs.take k).map (thF bs key),a1,a2,a3,a4,a5,a6,a7,a8,b1,(v.2.2.2.2.2.2.2.take o).map (yq bs key),b2,b3,b4,b5,b6,b7,())) (n:=v.2.2.2.2.2.2.2.length)
     (t:=(vs,(vs.length:Int),(k:Int),v.2.2.2.2.2.2.2,(v.2.2.2.2.2.2.2.length:Int),(v.2.2.2.2.2.2.2.length:Int),false,code,ss,dt,bs,key,rg,vs,(),0,(),(),(),bs,key,cs,eL,(vs.take k).map (thF bs key),a1,a2,a3,a4,a5,a6,a7,a8,b1,v.2.2.2.2.2.2.2.map (yq bs key),b2,b3,b4,b5,b6,b7,())) (by unfold NN;omega) ?_ ?_
    ·exact this
    ·intro o ho;obtain⟨c,hc⟩:∃c,v.2.2.2.2.2.2.2[o]?=some c:=⟨_,oGE ho⟩;unfold gl;dsimp only;rw[decide_eq_true (show (o:Int) < v.2.2.2.2.2.2.2.length by omega),dH];simp only[cond_true,oBS,show dF v.2.2.2.2.2.2.2 o=some c from hc];rw[(vA (key:=key) hL (hvo.regs c (dK hc))).1];simp only[oBS];refine Ok.need (dN (by simp;omega)) ?_;rw[dL (x:=(o:Int)+1) (by omega) (by omega)];refine Ok.ret ?_;rw[← gO (yq bs key) hc];rfl
    ·unfold gl;dsimp only;rw[decide_eq_false (show ¬ (v.2.2.2.2.2.2.2.length:Int) < v.2.2.2.2.2.2.2.length by omega),List.take_length];exact Ok.ret rfl
   rw[e4];simp only[oBS];refine Ok.need (dN (by simp;omega)) ?_;rw[dL (x:=(k:Int)+1) (by omega) (by omega)];refine Ok.ret ?_;rw[← gO (thF bs key) hv];rfl
  ·unfold gk;dsimp only;rw[decide_eq_false (show ¬ (vs.length:Int) < vs.length by omega),List.take_length];exact Ok.ret rfl
 rw[e5];refine Ok.ret ⟨cs,rfl,⟨hL,Cr hc1 hc2,by rw[List.length_map];exact hvl,fun t ht=>?_⟩,hI⟩;obtain⟨v,hv,rfl⟩:=List.mem_map.1 ht;have hvo:=h.views v hv;refine⟨hvo.state,by unfold thF;dsimp only;rw[List.length_map];exact hvo.len,fun c hc=>?_,hvo.pc,hvo.count,hvo.handler,hvo.saved,hvo.trap,hvo.code⟩;unfold thF at hc;dsimp only at hc;obtain⟨c',hc',rfl⟩:=List.mem_map.1 hc;exact (vA hL (hvo.regs c' hc')).2
theorem LN{l:List Int}{k n:Int}(h:DOk l k) (hn:0 < n) (hn2:n≤9223372036854775807):Ok (dG n l k) fun r=>∃v k',r=(v,l,k',())∧0≤v∧v < n∧DOk l k':=by
 have:Ok ((dG n l k).bind some) fun r=>∃v k',r=(v,l,k',())∧0≤v∧v < n∧DOk l k':=fb h hn hn2 fun v k' h0 h1 h2=>Ok.ret ⟨_,_,rfl,h0,h1,h2⟩;simpa using this
theorem AH.setReg{n:Int}{ss:List Int}{rg:List (List DCn)}{vs:List DTs}{r o:Nat}{x:List DCn}{c:DCn}(h:AH n ss rg vs) (hx:rg[r]?=some x) (hc:Pr ss c):AH n ss (rg.set r (x.set o c)) vs:=by
 refine⟨by rw[List.length_set];exact h.rlen,fun j y z hy hz=>?_,ix h.cells (ix (h.cells x (dK hx)) hc),h.vlen,h.views⟩;by_cases e:r=j
 ·subst e;rw[show (rg.set r (x.set o c))[r]?=some (x.set o c) from gu (oGS hx).1 _] at hy;cases hy;rw[List.length_set];exact h.fit r x z hx hz
 ·rw[kv e] at hy;exact h.fit j y z hy hz
theorem AH.setView{n:Int}{ss:List Int}{rg:List (List DCn)}{vs:List DTs}{k:Nat}{v:DTs}(h:AH n ss rg vs) (hv:NF n ss v):AH n ss rg (vs.set k v):=
 ⟨h.rlen,h.fit,h.cells,by rw[List.length_set];exact h.vlen,ix h.views hv⟩
set_option maxHeartbeats 4000000 in
theorem tB{l:List Int}{k:Int}(h:DOk l k):Ok (gg l k) fun r=>∃code ss dt bs key cs ls ts k',r=(code,ss,dt,bs,key,cs,ls,ts,l,k',())∧km code ss dt∧W16 key∧MOk 1152 ss bs cs ls ts∧DOk l k':=by
 unfold gg;refine (MF h).bind ?_;rintro _ ⟨code,ss,dt,bs,key,cs,ls,ts,ck,rn,ins,d,os,us,ow,qs,rec,js,k1,rfl,hkey,hR,h1⟩;dsimp only;have hp:=hR.prog;have hM:=hR.mach;have hL:=hM.lay;have hs1:=hp.sz.1;obtain⟨_,en,v,k2,rfl,v0,v1,h2⟩:=LN (n:=3) h1 (by decide) (by decide);rw[en];simp only[oBS];by_cases hv:v=0
 ·simp only[beq_iff_eq.2 hv,cond_true,I9 (code:=code) (dt:=dt) hM,oBS];have hS:=I8 (key:=key) hM;generalize CK bs ss key cs ls=rg at hS;generalize ts.map (sU bs ss key)=vs at hS;obtain⟨x,hx⟩:∃x,rg[0]?=some x:=⟨_,oGE (by have:=hS.rlen;omega)⟩
  have hxl:x.length≤32:=by
   obtain⟨z,hz⟩:∃z,ss[0]?=some z:=⟨_,oGE (by omega)⟩;have:=hS.fit 0 x z hx hz;have:=hp.sz.2.2 z (dK hz);omega
  delta dI;simp only[show dF rg 0=some x from hx,oBS]
  obtain⟨y,e,rg',k3,a,b,rfl,hS3,h3⟩:=Ok.iter (f:=kt) (n:=NN) (s:=((x.length:Int),0,l,k2,(),(),(),(),0,(),(),(),code,ss,dt,bs,key,cs,ls,ts,ck,rn,ins,d,os,us,ow,qs,rec,js,bs,key,cs,ls,ts,rg,vs,()))
   (P:=fun s'=>∃(q:Nat) (k':Int) (rg':List (List DCn)) (x':List DCn),s'=((x.length:Int),(q:Int),l,k',(),(),(),(),0,(),(),(),code,ss,dt,bs,key,cs,ls,ts,ck,rn,ins,d,os,us,ow,qs,rec,js,bs,key,cs,ls,ts,rg',vs,())∧DOk l k'∧AH 1152 ss rg' vs∧rg'[0]?=some x'∧x'.length=x.length)
   (R:=fun y=>∃rg' k' a b,y=(a,b,false,l,k',(),(),(),(),0,(),(),(),code,ss,dt,bs,key,cs,ls,ts,ck,rn,ins,d,os,us,ow,qs,rec,js,bs,key,cs,ls,ts,rg',vs,())∧AH 1152 ss rg' vs∧DOk l k') (m:=fun s'=>(s'.1 - s'.2.1).toNat) ⟨0,k2,rg,x,rfl,h2,hS,hx,rfl⟩ (by unfold NN;dsimp only;omega) (by
    rintro _ ⟨q,k',rg',x',rfl,hd,hS',hx',hxl'⟩;unfold kt;dsimp only
    (with_reducible refine Ok.cb (fun hca=>?_) (fun hca=>?_))
    ·refine Ok.bind (P:=fun r=>∃(k':Int) (rg':List (List DCn)) (x':List DCn),r=((x.length:Int),(q:Int),l,k',(),(),(),(),0,(),(),(),code,ss,dt,bs,key,cs,ls,ts,ck,rn,ins,d,os,us,ow,qs,rec,js,bs,key,cs,ls,ts,rg',vs,())∧DOk l k'∧AH 1152 ss rg' vs∧rg'[0]?=some x'∧x'.length=x.length) ?_ ?_
     ·refine fb (n:=3) hd (by decide) (by decide) fun u k4 u0 u1 h4=>?_;dsimp only
      (with_reducible refine Ok.cb (fun hcb=>?_) (fun hcb=>?_))
      ·obtain⟨c,hc⟩:∃c,x'[q]?=some c:=⟨_,oGE (by omega)⟩;simp only[show dF rg' 0=some x' from hx',oBS];refine (EY hp.sz h4).bind ?_;rintro _ ⟨t,v,rr,o,k5,rfl,hc5,h5⟩;dsimp only;simp only[dH,oBS,show dF x' q=some c from hc,dZ hx',dZ hc];exact Ok.ret ⟨_,_,_,rfl,h5,hS'.setReg hx' hc5,gu (oGS hx').1 _,by rw[List.length_set];exact hxl'⟩
      ·exact Ok.ret ⟨_,_,_,rfl,h4,hS',hx',hxl'⟩
     ·rintro _ ⟨k',rg',x',rfl,hd,hS',hx',hxl'⟩;dsimp only;rw[dL (x:=(q:Int)+1) (by omega) (by omega)];exact Ok.ret ⟨⟨q+1,k',rg',x',rfl,hd,hS',hx',hxl'⟩,by dsimp only;omega⟩
    ·exact Ok.ret ⟨_,_,_,_,rfl,hS',hd⟩)
  simp only[e,oBS]
  obtain⟨y,e,vs',k4,a,b,rfl,hS4,h4⟩:=Ok.iter (f:=kq) (n:=NN) (s:=((vs.length:Int),0,l,k3,(),(),(),(),0,(),(),(),code,ss,dt,bs,key,cs,ls,ts,ck,rn,ins,d,os,us,ow,qs,rec,js,bs,key,cs,ls,ts,rg',vs,()))
   (P:=fun s'=>∃(q:Nat) (k':Int) (vs':List DTs),s'=((vs.length:Int),(q:Int),l,k',(),(),(),(),0,(),(),(),code,ss,dt,bs,key,cs,ls,ts,ck,rn,ins,d,os,us,ow,qs,rec,js,bs,key,cs,ls,ts,rg',vs',())∧DOk l k'∧AH 1152 ss rg' vs')
   (R:=fun y=>∃vs' k' a b,y=(a,b,false,l,k',(),(),(),(),0,(),(),(),code,ss,dt,bs,key,cs,ls,ts,ck,rn,ins,d,os,us,ow,qs,rec,js,bs,key,cs,ls,ts,rg',vs',())∧AH 1152 ss rg' vs'∧DOk l k') (m:=fun s'=>(s'.1 - s'.2.1).toNat) ⟨0,k3,vs,rfl,h3,hS3⟩ (by unfold NN;dsimp only;have:=hS3.vlen;omega) (by
    rintro _ ⟨q,k',vs',rfl,hd,hS'⟩;have hvl:=hS3.vlen;have hvl':=hS'.vlen;unfold kq;delta dI;dsimp only
    (with_reducible refine Ok.cb (fun hca=>?_) (fun hca=>?_))
    ·obtain⟨w,hw⟩:∃w,vs'[q]?=some w:=⟨_,oGE (by omega)⟩;have hw8:=(hS'.views w (dK hw)).len;rw[dH];simp only[oBS,show dF vs' q=some w from hw];refine Ok.bind (P:=fun r=>∃(k':Int) (vs':List DTs),r=((vs.length:Int),(q:Int),l,k',(),(),(),(),0,(),(),(),code,ss,dt,bs,key,cs,ls,ts,ck,rn,ins,d,os,us,ow,qs,rec,js,bs,key,cs,ls,ts,rg',vs',())∧DOk l k'∧AH 1152 ss rg' vs') ?_ ?_
     ·refine Ok.loop (P:=fun s'=>∃(o:Nat) (k':Int) (vs':List DTs),s'=((q:Int),(vs.length:Int),(q:Int),(w.2.2.2.2.2.2.2.length:Int),(o:Int),l,k',(),(),(),(),0,(),(),(),code,ss,dt,bs,key,cs,ls,ts,ck,rn,ins,d,os,us,ow,qs,rec,js,bs,key,cs,ls,ts,rg',vs',())∧DOk l k'∧AH 1152 ss rg' vs')
       (R:=fun y=>∃vs' k' a b c,y=((q:Int),(vs.length:Int),(q:Int),a,b,c,l,k',(),(),(),(),0,(),(),(),code,ss,dt,bs,key,cs,ls,ts,ck,rn,ins,d,os,us,ow,qs,rec,js,bs,key,cs,ls,ts,rg',vs',())∧AH 1152 ss rg' vs'∧DOk l k') (m:=fun s'=>(s'.2.2.2.1 - s'.2.2.2.2.1).toNat) ⟨0,k',vs',rfl,hd,hS'⟩ (by unfold NN;dsimp only;omega) ?_ ?_
      ·rintro _ ⟨o,k',vs',rfl,hd,hS'⟩;have hvl':=hS'.vlen;unfold nF;dsimp only
       (with_reducible refine Ok.cb (fun hcb=>?_) (fun hcb=>?_))
       ·refine Ok.bind (P:=fun r=>∃(k':Int) (vs':List DTs),r=((q:Int),(vs.length:Int),(q:Int),(w.2.2.2.2.2.2.2.length:Int),(o:Int),l,k',(),(),(),(),0,(),(),(),code,ss,dt,bs,key,cs,ls,ts,ck,rn,ins,d,os,us,ow,qs,rec,js,bs,key,cs,ls,ts,rg',vs',())∧DOk l k'∧AH 1152 ss rg' vs') ?_ ?_
        ·refine fb (n:=3) hd (by decide) (by decide) fun u k4 u0 u1 h4=>?_;dsimp only
         (with_reducible refine Ok.cb (fun hcc=>?_) (fun hcc=>?_))
         ·obtain⟨w',hw'⟩:∃w',vs'[q]?=some w':=⟨_,oGE (by omega)⟩;have hvo:=hS'.views w' (dK hw');have hw8':=hvo.len;obtain⟨cc,hcc⟩:∃cc,w'.2.2.2.2.2.2.2[o]?=some cc:=⟨_,oGE (by omega)⟩;simp only[dH,oBS,show dF vs' q=some w' from hw'];refine (EY hp.sz h4).bind ?_;rintro _ ⟨t,v,rr,o',k5,rfl,hc5,h5⟩;dsimp only;simp only[show dF w'.2.2.2.2.2.2.2 o=some cc from hcc,oBS,dZ hw',dZ hcc];exact Ok.ret ⟨_,_,rfl,h5,hS'.setView ⟨hvo.state,hvo.pc,hvo.count,hvo.handler,hvo.saved,hvo.trap,hvo.code,by dsimp only;rw[List.length_set];exact hw8',ix hvo.regs hc5⟩⟩
         ·exact Ok.ret ⟨_,_,rfl,h4,hS'⟩
        ·rintro _ ⟨k',vs',rfl,hd,hS'⟩;dsimp only;rw[dL (x:=(o:Int)+1) (by omega) (by omega)];exact Ok.ret ⟨⟨o+1,k',vs',rfl,hd,hS'⟩,by dsimp only;omega⟩
       ·exact Ok.ret ⟨_,_,_,_,_,rfl,hS',hd⟩
      ·rintro _ ⟨vs',k',a,b,c,rfl,hS',hd⟩;dsimp only;refine fb (n:=4) hd (by decide) (by decide) fun u k4 u0 u1 h4=>?_;dsimp only
       (with_reducible refine Ok.cb (fun hcc=>?_) (fun hcc=>?_))
       ·refine fb (n:=5) h4 (by decide) (by decide) fun u2 k5 u20 u21 h5=>?_;dsimp only;obtain⟨w',hw'⟩:∃w',vs'[q]?=some w':=⟨_,oGE (by have:=hS'.vlen;omega)⟩;have hvo:=hS'.views w' (dK hw');simp only[dH,oBS,show dF vs' q=some w' from hw',dZ hw'];exact Ok.ret ⟨_,_,rfl,h5,hS'.setView ⟨⟨u20,by dsimp only;omega⟩,hvo.pc,hvo.count,hvo.handler,hvo.saved,hvo.trap,hvo.code,hvo.len,hvo.regs⟩⟩
       ·exact Ok.ret ⟨_,_,rfl,h4,hS'⟩
     ·rintro _ ⟨k',vs',rfl,hd,hS'⟩;dsimp only;rw[dL (x:=(q:Int)+1) (by omega) (by omega)];exact Ok.ret ⟨⟨q+1,k',vs',rfl,hd,hS'⟩,by dsimp only;omega⟩
    ·exact Ok.ret ⟨_,_,_,_,rfl,hS',hd⟩)
  simp only[e,oBS];obtain⟨_,ei,cs',rfl,hM',_⟩:=Il (key:=key) hp hL hS4 (by decide);simp only[ei,oBS,cond_true];exact Ok.ret ⟨_,_,_,_,_,_,_,_,_,rfl,hp,hkey,hM',h4⟩
 ·simp only[beq_eq_false_iff_ne.2 hv,cond_false];exact Ok.ret ⟨_,_,_,_,_,_,_,_,_,rfl,hp,hkey,hM,h2⟩
def Gv:List CT→CT
 | []=>.nat
 | [t]=>t
 | t :: u :: r=>.pair t (Gv (u :: r))
def pa:(l:List CT)→HL den l→den (Gv l)
 | [],_=>(0:Nat)
 | [_],h=>h.1
 | _ :: u :: r,h=>(h.1,pa (u :: r) h.2)
def encL:(l:List CT)→HL den l→List TV
 | [],_=>[]
 | t :: r,h=>enc t h.1++encL r h.2
theorem EQ:∀(l:List CT) (h:HL den l),enc (Gv l) (pa l h)=encL l h
 | [],_=>rfl
 | [_],h=>(List.append_nil _).symm
 | _ :: u :: r,h=>by
  show enc _ h.1++enc (Gv (u :: r)) (pa (u :: r) h.2)=_;rw[EQ (u :: r) h.2];rfl
def D9:(c:CT)→den c→Prop
 | .int k,n=>(Lit.int k n).wf=true
 | .str,s=>ByteArray.size s≤maxLen
 | .row _ t,xs=>List.length xs≤maxLen∧∀x∈xs,D9 t x
 | .pair a b,x=>D9 a x.1∧D9 b x.2
 | _,_=>True
def GoodL:(l:List CT)→HL den l→Prop
 | [],_=>True
 | t :: r,h=>D9 t h.1∧GoodL r h.2
theorem Ch:∀(l:List CT) (h:HL den l),GoodL l h→D9 (Gv l) (pa l h)
 | [],_,_=>trivial
 | [_],_,g=>g.1
 | _ :: u :: r,h,g=>⟨g.1,Ch (u :: r) h.2 g.2⟩
def appL:(l m:List CT)→HL den l→HL den m→HL den (l++m)
 | [],_,_,k=>k
 | _ :: r,m,h,k=>(h.1,appL r m h.2 k)
theorem ER:∀(l m:List CT) (h:HL den l) (k:HL den m),encL (l++m) (appL l m h k)=encL l h++encL m k
 | [],_,_,_=>rfl
 | t :: r,m,h,k=>by
  show enc t h.1++encL (r++m) (appL r m h.2 k)=(enc t h.1++encL r h.2)++_;rw[ER r m h.2 k,List.append_assoc]
theorem EJ:∀(l m:List CT) (h:HL den l) (k:HL den m),GoodL l h→GoodL m k→GoodL (l++m) (appL l m h k)
 | [],_,_,_,_,g=>g
 | _ :: r,m,h,k,g,g'=>⟨g.1,EJ r m h.2 k g.2 g'⟩
def RelL(w:World):List TV→List Value→Prop
 | [],[]=>True
 | t :: ts,v :: vs=>nz w (fun _=>True) t v∧RelL w ts vs
 | _,_=>False
theorem RelL.app{w:World}:∀{a:List TV}{x:List Value}{b:List TV}{y:List Value},RelL w a x→RelL w b y→RelL w (a++b) (x++y)
 | [],[],_,_,_,h=>h
 | _ :: a,_ :: x,_,_,g,h=>⟨g.1,RelL.app (a:=a) (x:=x) g.2 h⟩
 | [],_ :: _,_,_,g,_=>g.elim
 | _ :: _,[],_,_,g,_=>g.elim
theorem RelL.len{w:World}:∀{a:List TV}{x:List Value},RelL w a x→a.length=x.length
 | [],[],_=>rfl
 | _ :: a,_ :: x,g=>by rw[List.length_cons,List.length_cons,RelL.len (a:=a) (x:=x) g.2]
 | [],_ :: _,g=>g.elim
 | _ :: _,[],g=>g.elim
theorem RelL.get{w:World}:∀{a:List TV}{x:List Value},RelL w a x→∀j (h:j < a.length) (h':j < x.length),nz w (fun _=>True) a[j] x[j]
 | _ :: _,_ :: _,g,0,_,_=>g.1
 | _ :: a,_ :: x,g,j+1,h,h'=>RelL.get (a:=a) (x:=x) g.2 j (by simpa using h) (by simpa using h')
 | [],_,_,_,h,_=>by simp at h
 | _ :: _,[],g,_,_,_=>g.elim
def MC(P:Program) (g:TypeId→Option (List CT)):Nat→List Field→Option (List CT)
 | _,[]=>some []
 | off,f :: fs=>match g f.type with
  | some l=>if f.offset=off∧l.length=P.cellsOf f.type then (MC P g (off+l.length) fs).map (l++·) else none
  | none=>none
def vv(P:Program):Nat→TypeId→Option (List CT)
 | 0,_=>none
 | n+1,t=>match P.underlying t with
  | some .bool=>some [.bool]
  | some (.int k)=>some [.int k]
  | some .string=>some [.str]
  | some (.slice e)=>match vv P n e with
   | some l=>if l.length=P.cellsOf e then some [.row false (Gv l)] else none
   | none=>none
  | some (.struct fs)=>match MC P (vv P n) 0 fs.toList with
   | some l=>if l.length=P.cellsOf t then some l else none
   | none=>none
  | _=>none
section
variable {H:Type} {ec:TypeId×Value→H} {P:Program} {w:World} {base:Nat} {spare:Nat→Bool} {held:Bool}
theorem Ij{g:TypeId→Option (List CT)}{m:Nat}{cs:List Value}
 (ih:∀t L,g t=some L→∀cs x,DataW.trod ec P w base spare held m t cs=some x→∃h:HL den L,GoodL L h∧RelL w (encL L h) cs) :
 ∀(fs:List Field) (off:Nat) (L:List CT),MC P g off fs=some L→(∀f∈fs,∃x,DataW.trod ec P w base spare held m f.type ((cs.drop f.offset).take (P.cellsOf f.type))=some x) →
  ∃h:HL den L,GoodL L h∧RelL w (encL L h) ((cs.drop off).take L.length):=by
 intro fs
 induction fs with
 | nil=>
  intro off L hL _
  injection hL with hL
  subst hL;exact⟨(),trivial,trivial⟩
 | cons f fs ihf=>
  intro off L hL hx;unfold MC at hL;split at hL
  ·rename_i l hg;split at hL
   ·rename_i ho;obtain⟨rfl,hlen⟩:=ho
    cases hr:MC P g (f.offset+l.length) fs with
    | none=>rw[hr] at hL;cases hL
    | some L2=>
     rw[hr] at hL
     injection hL with hL
     subst hL;obtain⟨x,h1⟩:=hx f List.mem_cons_self;obtain⟨h,g1,r1⟩:=ih _ _ hg _ _ h1;obtain⟨k,g2,r2⟩:=ihf _ _ hr fun f' hf'=>hx f' (List.mem_cons_of_mem _ hf');refine⟨appL l L2 h k,EJ _ _ _ _ g1 g2,?_⟩;rw[ER,List.length_append,List.take_add,List.drop_drop];rw[hlen];rw[hlen] at r2;exact r1.app r2
   ·cases hL
  ·cases hL
theorem MU:∀(n:Nat) (t:TypeId) (L:List CT),vv P n t=some L→∀(fuel:Nat) (cs:List Value) (x:DataW H×List MemPlace),DataW.trod ec P w base spare held fuel t cs=some x →
 ∃h:HL den L,GoodL L h∧RelL w (encL L h) cs:=by
 intro n
 induction n with
 | zero=>intro t L h;cases h
 | succ n ih=>
  intro t L hL fuel cs x hx;unfold vv at hL;split at hL
  ·rename_i ht
   injection hL with hL
   subst hL;obtain⟨b,rfl,_⟩:=DataW.trod_bool ht hx;exact⟨(b,()),⟨trivial,trivial⟩,.v rfl,trivial⟩
  ·rename_i k ht
   injection hL with hL
   subst hL;obtain⟨z,rfl,_,hw⟩:=DataW.trod_int ht hx;exact⟨(z,()),⟨hw,trivial⟩,.v rfl,trivial⟩
  ·rename_i ht
   injection hL with hL
   subst hL;obtain⟨s,rfl,_,hs⟩:=DataW.trod_string ht hx;exact⟨(s,()),⟨hs,trivial⟩,.v rfl,trivial⟩
  ·rename_i e ht;split at hL
   ·rename_i l hl;split at hL
    ·rename_i hsz
     injection hL with hL
     subst hL;rcases DataW.trod_slice ht hx with ⟨rfl,_⟩ | ⟨a,len,cap,elems,rest,m,_,rfl,_,_,hle,hmax,hel,hget,_,_⟩
     ·exact⟨([],()),⟨⟨Nat.zero_le _,fun x hx=>by cases hx⟩,trivial⟩,.sl (c:=[]) 1 (fun _ _=>undef) (fun i h=>by simp at h) (Nat.le_refl _) (Nat.zero_le _) (fun _=>rfl) (fun i j h=>by simp at h) (fun i j h=>by simp at h),trivial⟩
     ·have each:∀i:Fin len,∃p:HL den l×List Value,GoodL l p.1∧RelL w (encL l p.1) p.2∧w.cells? base (a.add (i.1*P.cellsOf e)) (P.cellsOf e)=some p.2:=by
       intro i;have h1:=hget i.1 i.2;rw[oGE (by omega)] at h1;obtain⟨cs',h2,h3⟩:=Option.bind_eq_some_iff.1 h1;obtain⟨h,g,r⟩:=ih _ _ hl _ _ _ h3;exact⟨(h,cs'),g,r,h2⟩
      obtain⟨f,hf⟩:=Classical.axiomOfChoice each
      have clen:∀i,(encL l (f i).1).length=l.length:=fun i=>by
       rw[(hf i).2.1.len,(World.cells?_some (hf i).2.2).2.1,hsz]
      have key:nz w (fun _=>True) (.sl ((List.ofFn fun i:Fin len=>pa l (f i).1).map (enc (Gv l)))) (.slice (some a) ((List.ofFn fun i:Fin len=>pa l (f i).1).map (enc (Gv l))).length cap):=by
       have el:((List.ofFn fun i:Fin len=>pa l (f i).1).map (enc (Gv l))).length=len:=by simp
       have eg:∀i (hi:i < ((List.ofFn fun i:Fin len=>pa l (f i).1).map (enc (Gv l))).length),((List.ofFn fun i:Fin len=>pa l (f i).1).map (enc (Gv l)))[i]=encL l (f ⟨i,by omega⟩).1:=by
        intro i hi;simp[EQ]
       refine .sl l.length (fun i j=>if h:i < len then (f ⟨i,h⟩).2.getD j undef else undef) (fun i hi=>by rw[eg i hi,clen]) (by rw[el];exact hle) hmax (fun h=>by cases h) (fun i j hi hj=>?_) (fun i j hi hj=>?_)
       ·rw[el] at hi
        have cell:∀i' (hi':i' < len) j',j' < l.length→w.cell? ((a.add (i'*l.length)).add j')=some ((f ⟨i',hi'⟩).2.getD j' undef):=by
         intro i' hi' j' hj';have h1:=World.cells?_some (hf ⟨i',hi'⟩).2.2;have h2:=h1.2.2 j' (by omega);rw[hsz];rw[h2]
         have:j' < (f ⟨i',hi'⟩).2.length:=by rw[h1.2.1];omega
         simp[this]
        have h0:=World.cell?_spot (cell 0 (by omega) 0 (by omega));obtain⟨b,o,spot⟩:=a
        have hspot:spot=none:=by simpa [Addr.add] using h0
        subst hspot;refine⟨b,o,rfl,trivial,?_⟩;have h2:=cell i hi j hj;rw[Go.WideShapes.add_plain,Go.WideShapes.add_plain] at h2;rw[dif_pos hi,← h2,Nat.add_assoc]
       ·rw[el] at hi;have hr:=(hf ⟨i,hi⟩).2.1
        have hj2:j < (encL l (f ⟨i,hi⟩).1).length:=by rw[eg i (by omega)] at hj;exact hj
        have hj3:j < (f ⟨i,hi⟩).2.length:=by rw[← hr.len];exact hj2
        have h3:=hr.get j hj2 hj3
        have e1:(if h:i < len then (f ⟨i,h⟩).2.getD j undef else undef)=(f ⟨i,hi⟩).2[j]:=by
         rw[dif_pos hi];simp[hj3]
        simp only[e1];have e2:((List.ofFn fun i:Fin len=>pa l (f i).1).map (enc (Gv l)))[i]'(by omega)=encL l (f ⟨i,hi⟩).1:=eg i (by omega);simp only[e2];exact h3
      rw[List.length_map,List.length_ofFn] at key;refine⟨(List.ofFn fun i:Fin len=>pa l (f i).1,()),⟨⟨by rw[List.length_ofFn];omega,fun x hx=>?_⟩,trivial⟩,key,trivial⟩;obtain⟨i,rfl⟩:=List.mem_ofFn.1 hx;exact Ch _ _ (hf i).1
    ·cases hL
   ·cases hL
  ·rename_i fs ht;split at hL
   ·rename_i l hl;split at hL
    ·rename_i hsz
     injection hL with hL
     subst hL;obtain⟨xs,m,_,_,hlen,hxl,hf⟩:=DataW.trod_struct ht hx
     obtain⟨h,g,r⟩:=Ij (cs:=cs) (m:=m) (fun t L hL cs x hx=>ih t L hL m cs x hx) fs.toList 0 l hl (by
      intro f hfm;obtain⟨i,hi,rfl⟩:=List.mem_iff_getElem.1 hfm
      have hi2:i < fs.size:=by simpa using hi
      have h1:=hf i fs[i] (by simp[hi2]);rw[oGE (by omega)] at h1
      exact⟨_,by simpa using h1⟩)
     refine⟨h,g,?_⟩;rw[List.drop_zero,hsz,← hlen,List.take_length] at r;exact r
    ·cases hL
   ·cases hL
  ·cases hL
theorem intake_arg(n:Nat) {t:TypeId}{L:List CT}{v:Value}{d:DataW H}{p:List MemPlace}(hL:vv P n t=some L) (h:DataW.Trod ec P w base spare held t v d p) :
 ∃h:HL den L,GoodL L h∧RelL w (encL L h) v.cells.toList:=by
 obtain⟨fuel,hf⟩:=h;exact MU n t L hL fuel _ _ hf
end
theorem plain_one{w:World}{t:TV}{v:Value}(r:RelL w [t] [v]):CI w t v:=r.1.plain
theorem plain_agg{w:World}{l:List TV}{cs:Array Value}(r:RelL w l cs.toList):CI w (.agg l) (.agg cs):=by
 intro F V C G hF
 have hl:cs.size=l.length:=by rw[r.len];simp
 refine .agg hl fun j hj=>?_
 have hj2:j < cs.toList.length:=by rw[← r.len];exact hj
 have h1:=(r.get j hj hj2).plain F V C G hF
 have e:cs.getD j undef=cs.toList[j]:=by
  have:j < cs.size:=by omega
  simp[Array.getD,this]
 rw[e];exact h1
theorem AK{ts:List DTh}(h:ts.length≤1000):gc ts=some (fv ts 0,()):=by
 have e:dP gj NN (ts,(ts.length:Int),0,[],())=some (ts,(ts.length:Int),(ts.length:Int),false,fv ts 0,()):=by
  have:=mr (f:=gj) (N:=NN) (st:=fun k=>(ts,(ts.length:Int),(k:Int),fv (ts.take k) 0,())) (n:=ts.length) (t:=(ts,(ts.length:Int),(ts.length:Int),false,fv ts 0,())) (by unfold NN;omega) ?_ ?_
  ·exact this
  ·intro k hk;obtain⟨t,ht⟩:∃t,ts[k]?=some t:=⟨_,oGE hk⟩;have hl:=nL (ts.take k) 0;rw[List.length_take] at hl;unfold gj;dsimp only;rw[decide_eq_true (show (k:Int) < ts.length by omega),dH];simp only[cond_true,oBS,show dF ts k=some t from ht]
   have e2:fv (ts.take (k+1)) 0=fv (ts.take k) 0++(if t.1=1 then [(k:Int)] else []):=by
    rw[List.take_add_one,ht];show fv (ts.take k++[t]) 0=_;rw[rR];simp only[fv,List.length_take];rw[show (0:Int)+((min k ts.length:Nat):Int)=(k:Int) by omega]
   by_cases h1:t.1=1
   ·rw[if_pos h1] at e2;simp only[beq_iff_eq.2 h1,cond_true];rw[dN (show 8≤1000∧(fv (ts.take k) 0).length + [(k:Int)].length≤1000000 by simp;omega)];simp only[cond_true,oBS];rw[dL (x:=(k:Int)+1) (by omega) (by omega),e2];exact Ok.ret rfl
   ·rw[if_neg h1,List.append_nil] at e2;simp only[beq_eq_false_iff_ne.2 h1,cond_false,oBS];rw[dL (x:=(k:Int)+1) (by omega) (by omega),e2];exact Ok.ret rfl
  ·unfold gj;dsimp only;rw[decide_eq_false (show ¬ (ts.length:Int) < ts.length by omega),List.take_length];exact Ok.ret rfl
 unfold gc;delta dI
 try dsimp only
 rw[e];rfl
theorem nS:fY=some (true,()):=by kernel_rfl
theorem vG{a b:Int}(ha:rG a) (hb:0 < b) (hb2:b≤9223372036854775807):fr a b=some (a % b,()):=by
 have hne:(b != 0)=true:=by simp;omega
 have hm:Int.tmod a b < b:=Int.tmod_lt_of_pos a hb
 have hm2:-b < Int.tmod a b:=by
  have:=Int.tmod_lt_of_pos (-a) hb;rw[Int.neg_tmod] at this;omega
 have hq:a % b=Int.tmod a b % b:=by
  have e:=Int.mul_tdiv_add_tmod a b;rw[Int.add_comm] at e
  conv=>lhs;rw[← e]
  exact Int.add_mul_emod_self_left ..
 unfold fr;simp only[hne,cond_true];by_cases h:Int.tmod a b < 0
 ·simp only[h,decide_true,cond_true,oBS];rw[dL (by omega) (by omega),hq,← Int.emod_eq_of_lt (a:=Int.tmod a b+b) (b:=b) (by omega) (by omega),Int.add_emod_right]
 ·simp only[h,decide_false,cond_false,oBS];rw[hq,Int.emod_eq_of_lt (by omega) hm]
theorem IL:oe=fr:=rfl
theorem vH{a b:Int}(ha:rG a) (hb:0 < b) (hb2:b≤9223372036854775807):jg a b=some (a % b,()):=by
 unfold jg;rw[vG ha hb hb2];rfl
def vCs(rs:List DCe):Bool:=rs.all fun c=>decide (c.1≤2)
theorem Ed{rs:List DCe}{k:Nat}{x:DCe}(h:rs[k]?=some x) (h1:vCs (rs.take k)=true) (h2:x.1≤2):vCs (rs.take (k+1))=true:=by
 unfold vCs at *;rw[List.take_add_one,h,List.all_append,h1];simp[h2]
theorem GB{rs:List DCe}{k:Nat}{x:DCe}(h:rs[k]?=some x) (h2:¬ x.1≤2):vCs rs=false:=by
 unfold vCs;rw[List.all_eq_false];exact⟨x,dK h,by simpa using h2⟩
theorem DV{rs:List DCe}(hl:rs.length≤1000):fa rs=some (!vCs rs,()):=by
 refine Ok.eq ?_;unfold fa gG;delta dI;dsimp only
 obtain⟨y,e,hy⟩:=Ok.iter (f:=fQ) (n:=NN) (s:=(rs,(rs.length:Int),0,()))
  (P:=fun s'=>∃k:Nat,s'=(rs,(rs.length:Int),(k:Int),())∧k≤rs.length∧vCs (rs.take k)=true)
  (R:=fun y=>(∃k:Nat,y=.inl ((k:Int),())∧vCs rs=false)∨(y=.inr (rs,(rs.length:Int),(rs.length:Int),false,())∧vCs rs=true)) (m:=fun s'=>(s'.2.1 - s'.2.2.1).toNat) ⟨0,rfl,by omega,rfl⟩ (by unfold NN;dsimp only;omega) (by
   rintro _ ⟨k,rfl,hk,hv⟩;unfold fQ lp pe;dsimp only
   (with_reducible refine Ok.cb (fun hca=>?_) (fun hca=>?_))
   ·rw[dH];simp only[oBS];refine Ok.get (by omega) fun x hx=>?_;by_cases h2:x.1≤2
    ·simp only[h2,decide_true,Bool.not_true,cond_false];rw[dL (x:=(k:Int)+1) (by omega) (by omega)];exact Ok.ret ⟨⟨k+1,rfl,by omega,Ed hx hv h2⟩,by dsimp only;omega⟩
    ·simp only[h2,decide_false,Bool.not_false,cond_true];exact Ok.ret (.inl ⟨k,rfl,GB hx h2⟩)
   ·obtain rfl:k=rs.length:=by omega
    rw[List.take_length] at hv
    exact Ok.ret (.inr ⟨rfl,hv⟩))
 rw[e];obtain⟨k,rfl,hv⟩ | ⟨rfl,hv⟩:=hy<;>rw[hv]<;>dsimp only[oBS]
 ·exact Ok.ret (by simp)
 ·exact Ok.ret rfl
theorem ID{α:Type}{a b:Bool}{x y:α}:(bif a && b then x else y)=bif a then (bif b then x else y) else y:=by cases a<;>rfl
theorem Jc{a b:Bool}:(some (a && b,()):Option (Bool×Unit))=bif a then some (b,()) else some (false,()):=by cases a<;>rfl
theorem eX{c:Bool}{x:Option (Bool×Unit)}(h:∃b,x=some (b,())):∃b,(bif c then x else some (false,()))=some (b,()):=by
 cases c
 ·exact⟨_,rfl⟩
 ·exact h
theorem Gz{a b c:Int}:eS a b c=some (decide (a≥b) && decide (a≤c),()):=by
 unfold eS;cases decide (a≥b)<;>rfl
theorem rK{rs:List DCe}{s pc ct ha sa tr co:Int}(hl:rs.length≤1000):fE s rs pc ct ha sa tr co=fC s rs pc ct ha sa tr co∧∃b,fC s rs pc ct ha sa tr co=some (b,()):=by
 have key:∃y,dP fq NN (rs,(rs.length:Int),0,s,rs,pc,ct,ha,sa,tr,co,())=some y∧((y=.inl (false,())∧vCs rs=false)∨(y=.inr (rs,(rs.length:Int),(rs.length:Int),false,s,rs,pc,ct,ha,sa,tr,co,())∧vCs rs=true)):=by
  refine Ok.iter (f:=fq) (n:=NN) (s:=(rs,(rs.length:Int),0,s,rs,pc,ct,ha,sa,tr,co,()))
   (P:=fun s'=>∃k:Nat,s'=(rs,(rs.length:Int),(k:Int),s,rs,pc,ct,ha,sa,tr,co,())∧k≤rs.length∧vCs (rs.take k)=true)
   (R:=fun y=>(y=.inl (false,())∧vCs rs=false)∨(y=.inr (rs,(rs.length:Int),(rs.length:Int),false,s,rs,pc,ct,ha,sa,tr,co,())∧vCs rs=true)) (m:=fun s'=>(s'.2.1 - s'.2.2.1).toNat) ⟨0,rfl,by omega,rfl⟩ (by unfold NN;dsimp only;omega) ?_
  rintro _ ⟨k,rfl,hk,hv⟩;unfold fq iI;dsimp only
  (with_reducible refine Ok.cb (fun hca=>?_) (fun hca=>?_))
  ·rw[dH];simp only[oBS];refine Ok.get (by omega) fun x hx=>?_;by_cases h2:x.1≤2
   ·simp only[h2,decide_true,Bool.not_true,cond_false];rw[dL (x:=(k:Int)+1) (by omega) (by omega)];exact Ok.ret ⟨⟨k+1,rfl,by omega,Ed hx hv h2⟩,by dsimp only;omega⟩
   ·simp only[h2,decide_false,Bool.not_false,cond_true];exact Ok.ret (.inl ⟨rfl,GB hx h2⟩)
  ·obtain rfl:k=rs.length:=by omega
   rw[List.take_length] at hv;exact Ok.ret (.inr ⟨rfl,hv⟩)
 obtain⟨y,e,hy⟩:=key;unfold fE fC;delta dI;dsimp only;rw[DV hl,e];simp only[Gz,oBS,ID,Bool.not_not];obtain⟨rfl,hv⟩ | ⟨rfl,hv⟩:=hy<;>rw[hv]<;>simp only[cond_true,cond_false,Bool.cond_self]
 ·exact⟨trivial,_,rfl⟩
 ·refine⟨by simp only[← Jc],?_⟩;exact eX (eX (eX (eX (eX (eX (eX (eX (eX (eX (eX (eX ⟨_,rfl⟩)))))))))))
section
variable {rs:List DCe} {s pc ct ha sa tr co:Int}
theorem Ap{r:Int}{i:Nat}{c:DCe}(h8:rs.length=8) (hr:rG r) (hi:r % 8=i) (hc:rs[i]?=some c):ff s rs pc ct ha sa tr co r=some (c.1,c.2,()):=by
 have hl:=(oGS hc).1;unfold ff;delta dI;dsimp only;rw[IL,vG hr (by decide) (by decide),hi,h8];simp only[oBS];rw[decide_eq_true (show (i:Int) < ((8:Nat):Int) by omega),dH];simp only[cond_true,oBS,show dF rs i=some c from hc]
theorem EV(h8:rs.length=8):gH rs=some (rs,()):=by
 unfold gH;rw[dN (by omega)];rfl
theorem MD{r k v:Int}{i:Nat}(h8:rs.length=8) (hr:rG r) (hi:r % 8=i):kY s rs pc ct ha sa tr co r k v=some (s,rs.set i (k,v),pc,ct,ha,sa,tr,co,()):=by
 have hl:i < rs.length:=by omega
 unfold kY jB;rw[EV h8];delta dI;simp only[oBS];rw[IL,vG hr (by decide) (by decide),hi,h8];simp only[oBS];rw[decide_eq_true (show (i:Int) < ((8:Nat):Int) by omega),dH];simp only[cond_true,oBS,show dF rs i=some rs[i] from oGE hl,dZ (oGE hl)]
theorem L4{w c:Int}(h8:rs.length=8):kZ s rs pc ct ha sa tr co w c=some (4,rs,pc,ct,ha,sa,w,c,()):=by
 unfold kZ jB;rw[EV h8];rfl
end
theorem w24{a:Int}(h:rG a):rG (w64 (a+24))∧w64 (a+24) % 8=a % 8:=by
 unfold rG at *;by_cases h1:a+24≤9223372036854775807
 ·rw[dL (by omega) h1];omega
 ·have e:w64 (a+24)=a+24 - 18446744073709551616:=by
   show IntKind.wrap .i64 (a+24)=_;simp only[IntKind.wrap,IntKind.bits,IntKind.signed];simp;omega
  rw[e];omega
theorem one10_law{l:List Int}{a1 a2 a3 a4:Int}(hl:∀x∈l,rG x) (hm:l.length≤maxLen) (h1:rG a1) (h2:rG a2):kp l a1 a2 a3 a4=some (true,()):=by
 refine Ok.eq ?_;unfold kp;refine (tB (DOk.start hl hm)).bind ?_;rintro _ ⟨code,ss,dt,bs,key,cs,ls,ts,k',rfl,hp,hkey,hM,hd⟩;delta dI;dsimp only;rw[hM.tlen,show ((4:Nat):Int)=4 from rfl,vH h2 (by decide) (by decide)];obtain⟨j,hj⟩:∃j:Nat,a2 % 4=j:=⟨(a2 % 4).toNat,by omega⟩;obtain⟨i,hi⟩:∃i:Nat,a1 % 8=i:=⟨(a1 % 8).toNat,by omega⟩;have h4:=hM.tlen;obtain⟨t,ht⟩:∃t,ts[j]?=some t:=⟨_,oGE (by omega)⟩;have hT:=hM.thr _ (dK ht);have hV:=sX (hT.mono (show (1152:Int)≤1099511627776 by decide));rw[hj];simp only[oBS,dH,show dF ts j=some t from ht];obtain⟨s,rs,pc,ct,ha,sa,tr,co⟩:=t;have h8:rs.length=8:=hT.len;dsimp only at *;obtain⟨rs',hrs⟩:∃rs',rs'=rs.set i (a3,a4):=⟨_,rfl⟩
 have h8':rs'.length=8:=by rw[hrs,List.length_set];exact h8
 have g1:rs'[i]?=some (a3,a4):=by rw[hrs];exact List.getElem?_set_self (by omega)
 rw[MD h8 h1 hi,← hrs];simp only[oBS];rw[Ap h8' h1 hi g1];simp only[oBS,BEq.rfl,Bool.and_self,Bool.not_true,cond_false];rw[Ap h8' (w24 h1).1 ((w24 h1).2.trans hi) g1];simp only[oBS,BEq.rfl,Bool.and_self,Bool.not_true,cond_false]
 have e:dP iO NN (a1,0,s,rs,pc,ct,ha,sa,tr,co,s,rs',pc,ct,ha,sa,tr,co,())=some (.inr (a1,8,false,s,rs,pc,ct,ha,sa,tr,co,s,rs',pc,ct,ha,sa,tr,co,())):=by
  refine mr (st:=fun k=>(a1,(k:Int),s,rs,pc,ct,ha,sa,tr,co,s,rs',pc,ct,ha,sa,tr,co,())) (n:=8) (by unfold NN;omega) ?_ ?_
  ·intro k hk;unfold iO;dsimp only
   have hk8:(k:Int) % 8=k:=by omega
   have hk64:rG (k:Int):=by unfold rG;omega
   have hg:rs[k]?=some rs[k]:=oGE (by omega);rw[decide_eq_true (show (k:Int) < 8 by omega),vH h1 (by decide) (by decide),hi];simp only[cond_true,oBS];by_cases hik:k=i
   ·simp only[show ((k:Int) != (i:Int))=false by simp[hik],cond_false];rw[L4 h8];simp only[oBS];rw[Ap h8 hk64 hk8 hg,Ap h8 hk64 hk8 hg];simp only[oBS,BEq.rfl,Bool.and_self,Bool.not_true,cond_false];rw[dL (x:=(k:Int)+1) (by omega) (by omega)];exact Ok.ret rfl
   ·have hg':rs'[k]?=some rs[k]:=by rw[hrs,List.getElem?_set_ne (by omega)];exact hg
    simp only[show ((k:Int) != (i:Int))=true by simp;omega,cond_true];rw[Ap h8' hk64 hk8 hg',Ap h8 hk64 hk8 hg];simp only[oBS,BEq.rfl,Bool.and_self,Bool.not_true,cond_false];rw[L4 h8];simp only[oBS];rw[Ap h8 hk64 hk8 hg,Ap h8 hk64 hk8 hg];simp only[oBS,BEq.rfl,Bool.and_self,Bool.not_true,cond_false];rw[dL (x:=(k:Int)+1) (by omega) (by omega)];exact Ok.ret rfl
  ·exact Ok.ret rfl
 rw[e];simp only[BEq.rfl,cond_true];rw[(rK (by omega)).1,hV];simp only[oBS,cond_true,nS];exact Ok.ret rfl
theorem Ht{a b:List DCe}(h:a.length≤1000):∃v,lf a b=some (v,())∧(a=b→v=true):=by
 unfold lf;delta dI;dsimp only;by_cases hl:(a.length:Int)=b.length
 ·rw[bne_eq_false_iff_eq.2 hl];simp only[cond_false]
  obtain⟨y,e,hy⟩:=Ok.iter (f:=mj) (n:=NN) (s:=(a,b,(a.length:Int),0,()))
   (P:=fun s'=>∃k:Nat,s'=(a,b,(a.length:Int),(k:Int),())∧k≤a.length)
   (R:=fun y=>(∃v,y=.inl (v,())∧a≠b)∨∃z,y=.inr z) (m:=fun s'=>(s'.2.2.1 - s'.2.2.2.1).toNat) ⟨0,rfl,by omega⟩ (by unfold NN;dsimp only;omega) (by
    rintro _ ⟨k,rfl,hk⟩;unfold mj;dsimp only
    (with_reducible refine Ok.cb (fun hca=>?_) (fun hca=>?_))
    ·simp only[dH,oBS];refine Ok.get (by omega) fun x hx=>Ok.get (by omega) fun z hz=>?_;by_cases hxz:x=z
     ·subst hxz;simp only[BEq.rfl,Bool.and_self,Bool.not_true,cond_false];rw[dL (x:=(k:Int)+1) (by omega) (by omega)];exact Ok.ret ⟨⟨k+1,rfl,by omega⟩,by dsimp only;omega⟩
     ·have hne:a≠b:=by
       rintro rfl;rw[hx] at hz;exact hxz (Option.some.inj hz)
      have e:(!((x.1==z.1) && ((x.2==z.2) && true)))=true:=by
       obtain⟨x1,x2⟩:=x;obtain⟨z1,z2⟩:=z;simp only[oPJ,not_and] at hxz;simp;exact Decidable.not_and_iff_or_not.1 fun h=>hxz h.1 h.2
      rw[e];exact Ok.ret (.inl ⟨_,rfl,hne⟩)
    ·exact Ok.ret (.inr ⟨_,rfl⟩))
  rw[e];obtain⟨v,rfl,hv⟩ | ⟨⟨z1,z2,z3,z4,z5,z6⟩,rfl⟩:=hy
  ·exact⟨_,rfl,fun e=>absurd e hv⟩
  ·exact⟨_,rfl,fun _=>rfl⟩
 ·rw[bne_iff_ne.2 hl];exact⟨_,rfl,fun e=>absurd (by rw[e]) hl⟩
theorem Kh:jh=lf:=rfl
theorem vx{x y:DTh}(h:x.2.1.length≤1000):∃v,fG x.1 x.2.1 x.2.2.1 x.2.2.2.1 x.2.2.2.2.1 x.2.2.2.2.2.1 x.2.2.2.2.2.2.1 x.2.2.2.2.2.2.2 y.1 y.2.1 y.2.2.1 y.2.2.2.1 y.2.2.2.2.1 y.2.2.2.2.2.1 y.2.2.2.2.2.2.1 y.2.2.2.2.2.2.2=some (v,()) ∧
 jA x.1 x.2.1 x.2.2.1 x.2.2.2.1 x.2.2.2.2.1 x.2.2.2.2.2.1 x.2.2.2.2.2.2.1 x.2.2.2.2.2.2.2 y.1 y.2.1 y.2.2.1 y.2.2.2.1 y.2.2.2.2.1 y.2.2.2.2.2.1 y.2.2.2.2.2.2.1 y.2.2.2.2.2.2.2=some (v,())∧(x=y→v=true):=by
 obtain⟨v,e,hv⟩:=Ht (b:=y.2.1) h;unfold fG jA rh;rw[Kh,e];simp only[oBS];by_cases hxy:x=y
 ·subst hxy;simp only[BEq.rfl,cond_true];exact⟨v,rfl,rfl,fun _=>hv rfl⟩
 ·have key:∃w,(bif x.1==y.1 then bif x.2.2.1==y.2.2.1 then bif x.2.2.2.1==y.2.2.2.1 then bif x.2.2.2.2.1==y.2.2.2.2.1 then bif x.2.2.2.2.2.1==y.2.2.2.2.2.1 then bif x.2.2.2.2.2.2.1==y.2.2.2.2.2.2.1 then bif x.2.2.2.2.2.2.2==y.2.2.2.2.2.2.2 then some (v,()) else some (false,()) else some (false,()) else some (false,()) else some (false,()) else some (false,()) else some (false,()) else some (false,()))=some (w,()):=
   eX (eX (eX (eX (eX (eX (eX ⟨_,rfl⟩))))))
  obtain⟨w,hw⟩:=key;exact⟨w,hw,hw,fun e=>absurd e hxy⟩
theorem qq{x:DTh}(h:x.2.1.length≤1000):fG x.1 x.2.1 x.2.2.1 x.2.2.2.1 x.2.2.2.2.1 x.2.2.2.2.2.1 x.2.2.2.2.2.2.1 x.2.2.2.2.2.2.2 x.1 x.2.1 x.2.2.1 x.2.2.2.1 x.2.2.2.2.1 x.2.2.2.2.2.1 x.2.2.2.2.2.2.1 x.2.2.2.2.2.2.2=some (true,()):=by
 obtain⟨v,e,_,h⟩:=vx (y:=x) h;rw[e,h rfl]
theorem EG{l:List Int}(h:l.length≤1000):gY l l=some (true,()):=by
 have e:dP gM NN (l,l,(l.length:Int),0,())=some (.inr (l,l,(l.length:Int),(l.length:Int),false,())):=by
  refine mr (st:=fun k=>(l,l,(l.length:Int),(k:Int),())) (n:=l.length) (by unfold NN;omega) ?_ ?_
  ·intro k hk;unfold gM;dsimp only;rw[decide_eq_true (show (k:Int) < l.length by omega),dH];simp only[cond_true,oBS,show dF l k=some l[k] from oGE hk,bne_self_eq_false,cond_false];rw[dL (x:=(k:Int)+1) (by omega) (by omega)];exact Ok.ret rfl
  ·unfold gM;dsimp only;rw[decide_eq_false (show ¬ (l.length:Int) < l.length by omega)];exact Ok.ret rfl
 unfold gY;delta dI;dsimp only;rw[e];simp only[bne_self_eq_false,cond_false]
section
variable {rs:List DCe} {s pc ct ha sa tr co:Int}
theorem Cw(h8:rs.length=8):gd s rs pc ct ha sa tr co=some (s,rs,pc,ct,ha,sa,tr,co,()):=by
 unfold gd;rw[dN (by omega)];rfl
theorem MH{r:Int}{i:Nat}{c:DCe}(hr:rG r) (hi:r % 8=i) (hc:rs[i]?=some c):oc s rs pc ct ha sa tr co r=some (c.1,c.2,()):=by
 unfold oc;rw[vG hr (by decide) (by decide),hi];simp only[oBS,dH,show dF rs i=some c from hc]
theorem MG{r k v:Int}{i:Nat}(h8:rs.length=8) (hr:rG r) (hi:r % 8=i):oa s rs pc ct ha sa tr co r k v=some (s,rs.set i (k,v),pc,ct,ha,sa,tr,co,()):=by
 have hl:i < rs.length:=by omega
 unfold oa;rw[Cw h8];simp only[oBS];rw[vG hr (by decide) (by decide),hi];simp only[oBS,dH,show dF rs i=some rs[i] from oGE hl,dZ (oGE hl)]
theorem MI{w c:Int}(h8:rs.length=8):io s rs pc ct ha sa tr co w c=some (4,rs,pc,ct,ha,sa,w,c,()):=by
 unfold io;rw[Cw h8];rfl
end
theorem Hv:gI=gc:=rfl
theorem sets10_law{l:List Int}{a1 a2 a3 a4 a5:Int}{us:List DTh}(hl:∀x∈l,rG x) (hm:l.length≤maxLen) (h1:rG a1):jT l a1 a2 a3 a4 a5 us=some (true,()):=by
 refine Ok.eq ?_;unfold jT;delta dI;dsimp only
 (with_reducible refine Ok.cb (fun hcu=>?_) (fun hcu=>?_))
 ·rw[nS];exact Ok.ret rfl
 refine (tB (DOk.start hl hm)).bind ?_;rintro _ ⟨code,ss,dt,bs,key,cs,ls,ts,k',rfl,hp,hkey,hM,hd⟩;dsimp only;have h4:=hM.tlen;rw[h4,show ((4:Nat):Int)=4 from rfl]
 have e:dP iu NN (a1,a4,a5,us,ts,4,0,a2,a3,bs,key,cs,ls,ts,())=some (.inr (a1,a4,a5,us,ts,4,4,false,a2,a3,bs,key,cs,ls,ts,())):=by
  refine mr (st:=fun k=>(a1,a4,a5,us,ts,4,(k:Int),a2,a3,bs,key,cs,ls,ts,())) (n:=4) (by unfold NN;omega) ?_ ?_
  ·intro k hk;unfold iu;delta dI;dsimp only;obtain⟨t,ht⟩:∃t,ts[k]?=some t:=⟨_,oGE (by omega)⟩;have h8:t.2.1.length=8:=(hM.thr _ (dK ht)).len;obtain⟨s,rs,pc,ct,ha,sa,tr,co⟩:=t;dsimp only at h8;rw[decide_eq_true (show (k:Int) < 4 by omega),dH,vH h1 (by decide) (by decide)];simp only[cond_true,oBS,show dF ts k=some _ from ht];rw[dL (x:=a1 % 11 - 2) (by omega) (by omega)]
   have e2:dP iv NN (a1,a4,a5,us,ts,4,(k:Int),2,0,a2,a3,bs,key,cs,ls,ts,s,rs,pc,ct,ha,sa,tr,co,[a1,a1 % 11 - 2],())=some (.inr (a1,a4,a5,us,ts,4,(k:Int),2,2,false,a2,a3,bs,key,cs,ls,ts,s,rs,pc,ct,ha,sa,tr,co,[a1,a1 % 11 - 2],())):=by
    refine mr (st:=fun j=>(a1,a4,a5,us,ts,4,(k:Int),2,(j:Int),a2,a3,bs,key,cs,ls,ts,s,rs,pc,ct,ha,sa,tr,co,[a1,a1 % 11 - 2],())) (n:=2) (by unfold NN;omega) ?_ ?_
    ·intro j hj;unfold iv;dsimp only
     obtain⟨r,hr,hr64⟩:∃r,[a1,a1 % 11 - 2][j]?=some r∧rG r:=by
      match j,hj with
      | 0,_=>exact⟨_,rfl,h1⟩
      | 1,_=>exact⟨_,rfl,by unfold rG at *;omega⟩
     obtain⟨i,hi⟩:∃i:Nat,r % 8=i:=⟨(r % 8).toNat,by omega⟩;have hg:rs[i]?=some rs[i]:=oGE (by omega);rw[decide_eq_true (show (j:Int) < 2 by omega),dH];simp only[cond_true,oBS,show dF [a1,a1 % 11 - 2] j=some _ from hr];rw[Ap h8 hr64 hi hg,MH hr64 hi hg];simp only[oBS,BEq.rfl,Bool.and_self,Bool.not_true,cond_false];rw[MD h8 hr64 hi,MG h8 hr64 hi];simp only[oBS];rw[qq (x:=(s,rs.set i (a2,a3),pc,ct,ha,sa,tr,co)) (by dsimp only;rw[List.length_set];omega)];simp only[oBS,Bool.not_true,cond_false];rw[dL (x:=(j:Int)+1) (by omega) (by omega)];exact Ok.ret rfl
    ·exact Ok.ret rfl
   rw[show (([a1,a1 % 11 - 2].length:Nat):Int)=2 from rfl,e2];dsimp only;rw[L4 h8,MI h8];simp only[oBS];rw[qq (x:=(4,rs,pc,ct,ha,sa,a4,a5)) (by dsimp only;omega)];simp only[oBS,Bool.not_true,cond_false];rw[dL (x:=(k:Int)+1) (by omega) (by omega)];exact Ok.ret rfl
  ·exact Ok.ret rfl
 rw[e];dsimp only;have hr1:=nL ts 0;have hr2:=nL us 0;rw[Hv,AK (by omega),AK (by omega)];simp only[oBS];rw[EG (by omega),EG (by omega),nS];exact Ok.ret rfl
def Few(r:Int×List DCe×Int×Int×Int×Int×Int×Int×Unit):Prop:=r.2.1.length≤1000
theorem KX(rs:List DCe) (n:Nat):(mN rs 1 n).length≤rs.length:=by
 unfold mN;rw[List.length_take,List.length_drop];omega
theorem GI{rs:List DCe}{s pc ct ha sa tr co a b:Int}(h8:rs.length=8) (ha':rG a) (hb:rG b):Ok (kJ s rs pc ct ha sa tr co a b) Few:=by
 unfold kJ;rw[dN (by omega)];simp only[cond_true];dsimp only[List.append];rw[vH hb (by decide) (by decide),vH ha' (by decide) (by decide)];obtain⟨i,hi⟩:∃i:Nat,b % 12=i:=⟨(b % 12).toNat,by omega⟩;rw[hi];simp only[oBS,dH];obtain⟨T,hT⟩:∃T:List Int,T=[(-2),(-1),0,1,4,5,6,7,255,256,1099511627776,1099511627777]:=⟨_,rfl⟩;rw[← hT]
 have hTl:T.length=12:=by rw[hT];rfl
 refine Ok.get (by omega) fun v hv=>?_;rw[show dF T i=some v from hv];simp only[oBS]
 have h9:rs.length≤1000:=by omega
 delta dI
 try dsimp only
 rw[h8]
 obtain h | h | h | h | h | h | h | h | h:a % 9=0∨a % 9=1∨a % 9=2∨a % 9=3∨a % 9=4∨a % 9=5∨a % 9=6∨a % 9=7∨a % 9=8:=by omega
 all_goals rw[h]
 ·exact⟨_,rfl,h9⟩
 ·exact⟨_,rfl,h9⟩
 ·exact⟨_,rfl,h9⟩
 ·exact⟨_,rfl,h9⟩
 ·exact⟨_,rfl,h9⟩
 ·exact⟨_,rfl,h9⟩
 ·exact⟨_,rfl,Nat.le_trans (KX rs _) h9⟩
 ·obtain⟨j,hj⟩:∃j:Nat,b % 8=j:=⟨(b % 8).toNat,by omega⟩;have hl:rs[j]?=some rs[j]:=oGE (by omega);rw[show ((8:Nat):Int)=8 from rfl,vH hb (by decide) (by decide),vH hb (by decide) (by decide),hj];simp only[oBS,dH,show dF rs j=some rs[j] from hl];exact⟨_,rfl,by show (List.modify _ _ _).length≤1000;rw[List.length_modify];exact h9⟩
 ·exact⟨_,rfl,h9⟩
theorem K1{p k v:Int}:mO p k v=im p k v:=rfl
theorem LD{p k v:Int}:im p k v=some (1,[(k,v),(0,0),(0,0),(0,0),(0,0),(0,0),(0,0),(0,0)],p,0,-1,-1,0,0,()):=by
 unfold im jN;rw[show rm 8 8 2=true by kernel_rfl];rfl
theorem GE:iT=some (0,[(0,0),(0,0),(0,0),(0,0),(0,0),(0,0),(0,0),(0,0)],0,0,-1,-1,0,0,()):=by kernel_rfl
theorem HC:jN=some (0,[(0,0),(0,0),(0,0),(0,0),(0,0),(0,0),(0,0),(0,0)],0,0,-1,-1,0,0,()):=by kernel_rfl
theorem valid10_law{l:List Int}{s pc ct ha sa tr co p k v a b:Int}{rs:List DCe}(hl:∀x∈l,rG x) (hm:l.length≤maxLen) (ha':rG a) (hb:rG b):ji s rs pc ct ha sa tr co p k v l a b=some (true,()):=by
 refine Ok.eq ?_;unfold ji;delta dI
 try dsimp only
 (with_reducible refine Ok.cb (fun hcu=>?_) (fun hcu=>?_))
 ·rw[nS];exact Ok.ret rfl
 refine (tB (DOk.start hl hm)).bind ?_;rintro _ ⟨code,ss,dt,bs,key,cs,ls,ts,k',rfl,hp,hkey,hM,hd⟩
 try dsimp only
 have h4:=hM.tlen
 have hrs:rs.length≤1000:=by omega
 rw[h4,show ((4:Nat):Int)=4 from rfl]
 have e:dP hJ NN (p,a,b,ts,4,0,s,rs,pc,ct,ha,sa,tr,co,k,v,bs,key,cs,ls,ts,())=some (.inr (p,a,b,ts,4,4,false,s,rs,pc,ct,ha,sa,tr,co,k,v,bs,key,cs,ls,ts,())):=by
  refine mr (st:=fun j=>(p,a,b,ts,4,(j:Int),s,rs,pc,ct,ha,sa,tr,co,k,v,bs,key,cs,ls,ts,())) (n:=4) (by unfold NN;omega) ?_ ?_
  ·intro j hj;unfold hJ;dsimp only;obtain⟨t,ht⟩:∃t,ts[j]?=some t:=⟨_,oGE (by omega)⟩;have hT:=hM.thr _ (dK ht);have hV:=sX (hT.mono (show (1152:Int)≤1099511627776 by decide));have h8:t.2.1.length=8:=hT.len;rw[decide_eq_true (show (j:Int) < 4 by omega),dH];simp only[cond_true,oBS,show dF ts j=some _ from ht];refine (GI h8 ha' hb).bind ?_;rintro⟨s2,rs2,pc2,ct2,ha2,sa2,tr2,co2,u⟩ hf;have hf2:rs2.length≤1000:=hf;dsimp only;rw[(rK (by omega)).1,hV];simp only[oBS,Bool.not_true,cond_false];obtain⟨ev,w,ew⟩:=rK (rs:=rs2) (s:=s2) (pc:=pc2) (ct:=ct2) (ha:=ha2) (sa:=sa2) (tr:=tr2) (co:=co2) hf2;rw[ev,ew];simp only[oBS,BEq.rfl,Bool.not_true,cond_false];obtain⟨w1,e1,e1',_⟩:=vx (x:=t) (y:=(s2,rs2,pc2,ct2,ha2,sa2,tr2,co2)) (by omega);obtain⟨w2,e2,e2',_⟩:=vx (x:=t) (y:=(s,rs,pc,ct,ha,sa,tr,co)) (by omega);dsimp only at e1 e1' e2 e2';rw[e1,e1',e2,e2'];simp only[oBS,BEq.rfl,Bool.not_true,cond_false];rw[dL (x:=(j:Int)+1) (by omega) (by omega)];exact Ok.ret rfl
  ·exact Ok.ret rfl
 rw[e]
 try dsimp only
 obtain⟨ev,w,ew⟩:=rK (rs:=rs) (s:=s) (pc:=pc) (ct:=ct) (ha:=ha) (sa:=sa) (tr:=tr) (co:=co) hrs;rw[ev,ew];simp only[oBS,BEq.rfl,cond_true];rw[K1,LD];simp only[oBS];rw[qq (x:=(1,[(k,v),(0,0),(0,0),(0,0),(0,0),(0,0),(0,0),(0,0)],p,0,-1,-1,0,0)) (by dsimp only[List.length];omega),GE,HC];simp only[oBS,cond_true];rw[qq (x:=(0,[(0,0),(0,0),(0,0),(0,0),(0,0),(0,0),(0,0),(0,0)],0,0,-1,-1,0,0)) (by dsimp only[List.length];omega),nS];exact Ok.ret rfl
theorem g64{h:den I64}(g:D9 I64 h):rG h:=bounds_i64 g
theorem F6{h:den RI}(g:D9 RI h):(∀z∈(show List Int from h),rG z)∧(show List Int from h).length≤maxLen:=⟨fun z hz=>bounds_i64 (g.2 z hz),g.1⟩
theorem law_ThreadOne{h0:HL den [RI]}{h1:HL den [I64]}{h2:HL den [I64]}{h3:HL den [.int .u8,.int .u16]}(g0:GoodL _ h0) (g1:GoodL _ h1) (g2:GoodL _ h2) (_:GoodL _ h3):nR.g (appL _ _ h0 (appL _ _ h1 (appL _ _ h2 (appL _ _ h3 ()))))=some (true,()):=
 one10_law (F6 g0.1).1 (F6 g0.1).2 (g64 g1.1) (g64 g2.1)
theorem law_ThreadValid{h0:HL den [I64,eE,I64,I64,I64,I64,I64,.int .u16]}{h1:HL den [I64]}{h2:HL den [.int .u8,.int .u16]}{h3:HL den [RI]}{h4:HL den [I64]}{h5:HL den [I64]}(_:GoodL _ h0) (_:GoodL _ h1) (_:GoodL _ h2) (g3:GoodL _ h3) (g4:GoodL _ h4) (g5:GoodL _ h5):mE.g (appL _ _ h0 (appL _ _ h1 (appL _ _ h2 (appL _ _ h3 (appL _ _ h4 (appL _ _ h5 ()))))))=some (true,()):=
 valid10_law (F6 g3.1).1 (F6 g3.1).2 (g64 g4.1) (g64 g5.1)
theorem law_ThreadSets{h0:HL den [RI]}{h1:HL den [I64]}{h2:HL den [.int .u8,.int .u16]}{h3:HL den [I64]}{h4:HL den [.int .u16]}{h5:HL den [fc]}(g0:GoodL _ h0) (g1:GoodL _ h1) (_:GoodL _ h2) (_:GoodL _ h3) (_:GoodL _ h4) (_:GoodL _ h5):nj.g (appL _ _ h0 (appL _ _ h1 (appL _ _ h2 (appL _ _ h3 (appL _ _ h4 (appL _ _ h5 ()))))))=some (true,()):=
 sets10_law (F6 g0.1).1 (F6 g0.1).2 (g64 g1.1)
end Go.Proofs.YtpodeigolpjeeaaGreat
