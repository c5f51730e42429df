/- Part of the proof; no condition. -/
import Derived.Test.YtoldehogdgdhmaaGreatMe
import Derived.Deep.Slices
set_option linter.unusedVariables false
set_option linter.unusedSimpArgs false
namespace Go.Proofs.YtoldehogdgdhmaaGreat
open Go.RowKit
def Qp(n key:Int)(q:Nat)(code:List DIn)(ss:List Int)(dt:List (List Int))(bs:List Int)(r:(List DIn)×(List (Int))×(List (List (Int)))×(List (Int))×Int×(List DCe)×(List DLn)×(List DTh)×(List (Int))×(List (Int))×(List (List (Int)))×(List (List DCn))×(List DOp)×(List DOu)×(List (Int))×(List (List (Int)))×(List DEn)×(List (Int))×Int×Unit):Prop:=
 (∃e,r=([],[],[],[],0,[],[],[],[],[],[],[],[],[],[],[],[],[],e,())/\e≠0)\/(∃cs ls ts ck rn ins d os us ow qs rec js,r=(code,ss,dt,bs,key,cs,ls,ts,ck,rn,ins,d,os,us,ow,qs,rec,js,0,())/\jD n q code ss dt bs cs ls ts ck rn ins d os us ow qs rec js)
theorem Fu{code:List DIn}{ss:List Int}{dt:List (List Int)}{bs:List Int}{key:Int}{cs:List DCe}{ls:List DLn}{ts:List DTh}{ck rn:List Int}{ins:List (List Int)}{d:List (List DCn)}{os:List DOp}{us:List DOu}{ow:List Int}{qs:List (List Int)}{rec:List DEn}{js:List Int}(h1:rec.length<=1000)(h2:js.length<=1000):li code ss dt bs key cs ls ts ck rn ins d os us ow qs rec js=some (code,ss,dt,bs,key,cs,ls,ts,ck,rn,ins,d,os,us,ow,qs,rec,js,()):=by
 unfold li;rw[dW (show 8<=1000/\0+js.length<=1000000 by omega),dW (show 184<=1000/\0+rec.length<=1000000 by omega)];rfl
theorem ne3{stop trap:Int}{t:DTh}(h:Qu stop trap t)(hr:stop=3->t.1=1):stop≠3:=by
 intro e
 rcases h with⟨h,_⟩|⟨h,_⟩|⟨h,_⟩|⟨_,h⟩
 ·omega
 ·omega
 ·omega
 ·exact h (hr e)
set_option maxHeartbeats 4000000 in
theorem JR{n:Int}{q:Nat}{code:List DIn}{ss:List Int}{dt:List (List Int)}{bs:List Int}{key:Int}{cs:List DCe}{ls:List DLn}{ts:List DTh}{ck rn:List Int}{ins:List (List Int)}{d:List (List DCn)}{os:List DOp}{us:List DOu}{ow:List Int}{qs:List (List Int)}{rec:List DEn}{js:List Int}{c1 c2:Int}{c3:Bool}(h:jD n q code ss dt bs cs ls ts ck rn ins d os us ow qs rec js)(Yu:0<=n)(hn:n+64<=1099511627776)(hq:q<=700)(ZO:K4 c1)(ZK:K4 c2):
 Ok (nj code ss dt bs key cs ls ts ck rn ins d os us ow qs rec js c1 c2 c3) (Qp (n+64) key (q+11) code ss dt bs):=by
 have Xp:=h.mach.tlen;have hr:=h.rlen;unfold nj;delta dO;rw[LF (by omega)];simp only[oBS];have VZ:=Ac ts 0
 (with_reducible refine dE (λZ9=>?_) λZ9=>?_)
 ·exact Ok.ret (.inl ⟨15,rfl,by decide⟩)
 (with_reducible refine dE (λZZ=>?_) λZZ=>?_)
 ·exact Ok.ret (.inl ⟨3,rfl,by decide⟩)
 refine N6 ZO (by omega) (by omega) λv v0 v1=>?_;dsimp only;obtain⟨k,rfl⟩:∃k:Nat,v=k:=⟨v.toNat,by omega⟩;obtain⟨x,hx⟩:∃x,(iq ts 0)[k]?=some x:=⟨_,oGE (by omega)⟩;obtain⟨x0,x1,hxt⟩:=Hr (dR hx);obtain⟨i,rfl⟩:∃i:Nat,x=i:=⟨x.toNat,by omega⟩
 have hi:i<4:=by omega
 have Yw:∀t,ts[i]?=some t->t.1=1:=λt e=>by
  obtain⟨t0,e0,e1⟩:=hxt;rw[show((i:Int)-0).toNat=i by omega,e]at e0
  injection e0 with e0
  rw[e0];exact e1
 simp only[dM,oBS,show dJ (iq ts 0) k=some (i:Int)from hx];refine N6 ZK (by decide) (by decide) λu u0 u1=>?_;dsimp only;rw[dP (x:=1+u) (by omega) (by omega),Fu (by omega) (by have:=h.jlen;omega)]
 have hk:1<=1+u/\1+u<=64:=by omega
 generalize 1+u=kk at hk;simp only[oBS]
 cases c3 with
 |false=>
  simp only[oCF];have h2:jD n (q+1) code ss dt bs cs ls ts ck rn ins d os us ow qs rec js:=⟨h.prog,h.mach,h.outs,h.lock,by omega,h.jlen,h.rent,h.jne⟩;have TE:=h2.mach.tlen;refine(xo h2.prog h2.mach Yu hn hi hk).bind ?_;rintro _ ⟨T3,Un,t3,stop,trap,call,args,data,rfl,VH,Wu,XJ,V9,XF⟩;have hns:stop≠3:=ne3 V9 λe=>Yw _ (XF e);have Va:ww (1,(i:Int),kk,(i:Int),stop,trap,t3.2.2.2.1,t3.2.2.1,call,args,data,0,0,0,0,[],0,false):=.slice (XJ.z h.prog.sz hn) hns hk;dsimp only;have XX:=h2.rlen;have U6:=(h2.mach.mono (show n<=n+64 by omega)).set VH (i:=i) Wu;refine dG (dW (by simp;omega)) ?_;refine Ok.bind (P:=λr=>∃cs ls ts ck rn ins d os us ow qs rec js,r=((i:Int),(),(),(),(),0,(),(),(),(),(),(),(),(),(),(),(),(),(),code,ss,dt,bs,key,cs,ls,ts,ck,rn,ins,d,os,us,ow,qs,rec,js,())/\jD (n+64) (q+4) code ss dt bs cs ls ts ck rn ins d os us ow qs rec js) ?_ ?_
  ·by_cases hs1:stop=1
   ·subst hs1;simp only[BEq.rfl,oCT];refine(yE (q:=q+2) ⟨h2.prog,U6,h2.outs,h2.lock,by rw[fe];simp;omega,h2.jlen,r6 h2.rent Va,h2.jne⟩ hi (by omega) hn (by omega) XJ).bind ?_;rintro _ ⟨SC,TR,TZ,SA,TY,WD,d4,TS,T0,TU,TW,WF,TP,rfl,h4⟩;exact Ok.ret ⟨_,_,_,_,_,_,_,_,_,_,_,_,_,rfl,h4⟩
   ·simp only[oBF hs1,oCF];exact Ok.ret ⟨_,_,_,_,_,_,_,_,_,_,_,_,_,rfl,h2.prog,U6,h2.outs,h2.lock,by rw[fe];simp;omega,h2.jlen,r6 h2.rent Va,h2.jne⟩
  rintro _ ⟨cs,ls,ts,ck,rn,ins,d,os,us,ow,qs,rec,js,rfl,h5⟩;dsimp only;obtain⟨t5,TA⟩:∃t5,ts[i]?=some t5:=⟨_,oGE (by have:=h5.mach.tlen;omega)⟩;simp only[dM,oBS,show dJ ts i=some t5 from TA];refine Ok.bind (P:=λr=>∃cs ls ts ck rn ins d os us ow qs rec js,r=((),(),(),(),0,(),(),(),(),(),(),(),(),(),(),(),(),(),code,ss,dt,bs,key,cs,ls,ts,ck,rn,ins,d,os,us,ow,qs,rec,js,())/\jD (n+64) (q+11) code ss dt bs cs ls ts ck rn ins d os us ow qs rec js) ?_ ?_
  ·(with_reducible refine dE (λX2=>?_) λX2=>?_)
   ·refine(BZ h5 hi (by omega) (by omega)).bind ?_;rintro _ ⟨SC,TR,TZ,SA,TY,WD,d4,TS,T0,TU,TW,WF,TP,rfl,h4⟩;exact Ok.ret ⟨_,_,_,_,_,_,_,_,_,_,_,_,_,rfl,h4⟩
   ·exact Ok.ret ⟨_,_,_,_,_,_,_,_,_,_,_,_,_,rfl,h5.prog,h5.mach,h5.outs,h5.lock,by have:=h5.rlen;omega,h5.jlen,h5.rent,h5.jne⟩
  rintro _ ⟨cs,ls,ts,ck,rn,ins,d,os,us,ow,qs,rec,js,rfl,h6⟩;exact Ok.ret (.inr ⟨_,_,_,_,_,_,_,_,_,_,_,_,_,rfl,h6⟩)
 |true=>
  simp only[oCT];obtain⟨⟨b,_⟩,eC,_⟩:=MY (key:=key) h.mach (i:Int);simp only[eC,oBS]
  cases b with
  |false=>
   simp only[oCF];have h2:jD n (q+1) code ss dt bs cs ls ts ck rn ins d os us ow qs rec js:=⟨h.prog,h.mach,h.outs,h.lock,by omega,h.jlen,h.rent,h.jne⟩;have TE:=h2.mach.tlen;refine(xo h2.prog h2.mach Yu hn hi hk).bind ?_;rintro _ ⟨T3,Un,t3,stop,trap,call,args,data,rfl,VH,Wu,XJ,V9,XF⟩;have hns:stop≠3:=ne3 V9 λe=>Yw _ (XF e);have Va:ww (1,(i:Int),kk,(i:Int),stop,trap,t3.2.2.2.1,t3.2.2.1,call,args,data,0,0,0,0,[],0,false):=.slice (XJ.z h.prog.sz hn) hns hk;dsimp only;have XX:=h2.rlen;have U6:=(h2.mach.mono (show n<=n+64 by omega)).set VH (i:=i) Wu;refine dG (dW (by simp;omega)) ?_;refine Ok.bind (P:=λr=>∃cs ls ts ck rn ins d os us ow qs rec js,r=((i:Int),(),(),(),(),0,(),(),(),(),(),(),(),(),(),(),(),(),(),code,ss,dt,bs,key,cs,ls,ts,ck,rn,ins,d,os,us,ow,qs,rec,js,())/\jD (n+64) (q+4) code ss dt bs cs ls ts ck rn ins d os us ow qs rec js) ?_ ?_
   ·by_cases hs1:stop=1
    ·subst hs1;simp only[BEq.rfl,oCT];refine(yE (q:=q+2) ⟨h2.prog,U6,h2.outs,h2.lock,by rw[fe];simp;omega,h2.jlen,r6 h2.rent Va,h2.jne⟩ hi (by omega) hn (by omega) XJ).bind ?_;rintro _ ⟨SC,TR,TZ,SA,TY,WD,d4,TS,T0,TU,TW,WF,TP,rfl,h4⟩;exact Ok.ret ⟨_,_,_,_,_,_,_,_,_,_,_,_,_,rfl,h4⟩
    ·simp only[oBF hs1,oCF];exact Ok.ret ⟨_,_,_,_,_,_,_,_,_,_,_,_,_,rfl,h2.prog,U6,h2.outs,h2.lock,by rw[fe];simp;omega,h2.jlen,r6 h2.rent Va,h2.jne⟩
   rintro _ ⟨cs,ls,ts,ck,rn,ins,d,os,us,ow,qs,rec,js,rfl,h5⟩;dsimp only;obtain⟨t5,TA⟩:∃t5,ts[i]?=some t5:=⟨_,oGE (by have:=h5.mach.tlen;omega)⟩;simp only[dM,oBS,show dJ ts i=some t5 from TA];refine Ok.bind (P:=λr=>∃cs ls ts ck rn ins d os us ow qs rec js,r=((),(),(),(),0,(),(),(),(),(),(),(),(),(),(),(),(),(),code,ss,dt,bs,key,cs,ls,ts,ck,rn,ins,d,os,us,ow,qs,rec,js,())/\jD (n+64) (q+11) code ss dt bs cs ls ts ck rn ins d os us ow qs rec js) ?_ ?_
   ·(with_reducible refine dE (λX2=>?_) λX2=>?_)
    ·refine(BZ h5 hi (by omega) (by omega)).bind ?_;rintro _ ⟨SC,TR,TZ,SA,TY,WD,d4,TS,T0,TU,TW,WF,TP,rfl,h4⟩;exact Ok.ret ⟨_,_,_,_,_,_,_,_,_,_,_,_,_,rfl,h4⟩
    ·exact Ok.ret ⟨_,_,_,_,_,_,_,_,_,_,_,_,_,rfl,h5.prog,h5.mach,h5.outs,h5.lock,by have:=h5.rlen;omega,h5.jlen,h5.rent,h5.jne⟩
   rintro _ ⟨cs,ls,ts,ck,rn,ins,d,os,us,ow,qs,rec,js,rfl,h6⟩;exact Ok.ret (.inr ⟨_,_,_,_,_,_,_,_,_,_,_,_,_,rfl,h6⟩)
  |true=>
   obtain⟨_,eD,Zl,b',rfl,hD,hDs⟩:=Ic (key:=key) h.mach (i:Int)
   replace Yw:∀t,Zl[i]?=some t->t.1=1:=λt e=>by
    obtain⟨t0,e0,e1⟩:=hDs i t e;rw[e1];exact Yw t0 e0
   simp only[oCT,eD,oBS];rw[dW (show 184<=1000/\rec.length + _<=1000000 by simp;omega)];simp only[oCT];have h2:jD n (q+1) code ss dt bs cs ls Zl ck rn ins d os us ow qs (List.append rec [(3,(i:Int),0,0,0,0,0,0,0,[],[],0,0,0,0,[],0,false)]) js:=⟨h.prog,hD,h.outs,h.lock,by rw[fe];simp;omega,h.jlen,r6 h.rent (.signal (by omega)),h.jne⟩;have TE:=h2.mach.tlen;refine(xo h2.prog h2.mach Yu hn hi hk).bind ?_;rintro _ ⟨T3,Un,t3,stop,trap,call,args,data,rfl,VH,Wu,XJ,V9,XF⟩;have hns:stop≠3:=ne3 V9 λe=>Yw _ (XF e);have Va:ww (1,(i:Int),kk,(i:Int),stop,trap,t3.2.2.2.1,t3.2.2.1,call,args,data,0,0,0,0,[],0,false):=.slice (XJ.z h.prog.sz hn) hns hk;dsimp only;have XX:=h2.rlen;have U6:=(h2.mach.mono (show n<=n+64 by omega)).set VH (i:=i) Wu;refine dG (dW (by simp;omega)) ?_;refine Ok.bind (P:=λr=>∃cs ls ts ck rn ins d os us ow qs rec js,r=((i:Int),(),(),(),(),0,(),(),(),(),(),(),(),(),(),(),(),(),(),code,ss,dt,bs,key,cs,ls,ts,ck,rn,ins,d,os,us,ow,qs,rec,js,())/\jD (n+64) (q+4) code ss dt bs cs ls ts ck rn ins d os us ow qs rec js) ?_ ?_
   ·by_cases hs1:stop=1
    ·subst hs1;simp only[BEq.rfl,oCT];refine(yE (q:=q+2) ⟨h2.prog,U6,h2.outs,h2.lock,by rw[fe];simp;omega,h2.jlen,r6 h2.rent Va,h2.jne⟩ hi (by omega) hn (by omega) XJ).bind ?_;rintro _ ⟨SC,TR,TZ,SA,TY,WD,d4,TS,T0,TU,TW,WF,TP,rfl,h4⟩;exact Ok.ret ⟨_,_,_,_,_,_,_,_,_,_,_,_,_,rfl,h4⟩
    ·simp only[oBF hs1,oCF];exact Ok.ret ⟨_,_,_,_,_,_,_,_,_,_,_,_,_,rfl,h2.prog,U6,h2.outs,h2.lock,by rw[fe];simp;omega,h2.jlen,r6 h2.rent Va,h2.jne⟩
   rintro _ ⟨cs,ls,ts,ck,rn,ins,d,os,us,ow,qs,rec,js,rfl,h5⟩;dsimp only;obtain⟨t5,TA⟩:∃t5,ts[i]?=some t5:=⟨_,oGE (by have:=h5.mach.tlen;omega)⟩;simp only[dM,oBS,show dJ ts i=some t5 from TA];refine Ok.bind (P:=λr=>∃cs ls ts ck rn ins d os us ow qs rec js,r=((),(),(),(),0,(),(),(),(),(),(),(),(),(),(),(),(),(),code,ss,dt,bs,key,cs,ls,ts,ck,rn,ins,d,os,us,ow,qs,rec,js,())/\jD (n+64) (q+11) code ss dt bs cs ls ts ck rn ins d os us ow qs rec js) ?_ ?_
   ·(with_reducible refine dE (λX2=>?_) λX2=>?_)
    ·refine(BZ h5 hi (by omega) (by omega)).bind ?_;rintro _ ⟨SC,TR,TZ,SA,TY,WD,d4,TS,T0,TU,TW,WF,TP,rfl,h4⟩;exact Ok.ret ⟨_,_,_,_,_,_,_,_,_,_,_,_,_,rfl,h4⟩
    ·exact Ok.ret ⟨_,_,_,_,_,_,_,_,_,_,_,_,_,rfl,h5.prog,h5.mach,h5.outs,h5.lock,by have:=h5.rlen;omega,h5.jlen,h5.rent,h5.jne⟩
   rintro _ ⟨cs,ls,ts,ck,rn,ins,d,os,us,ow,qs,rec,js,rfl,h6⟩;exact Ok.ret (.inr ⟨_,_,_,_,_,_,_,_,_,_,_,_,_,rfl,h6⟩)
theorem J4{l ss:List Int}{k:Int}(hs:zK ss)(h:DOk l k):Ok (mo ss l k) λr=>∃bs key k',r=(bs,key,l,k',())/\LV bs ss/\W16 key/\DOk l k':=by
 unfold mo
 (with_reducible refine gn (by omega) (by omega) (by omega) (λv0 k0 a0 b0 d0=>?_);try dsimp only)
 refine(N9 hs a0 (by omega)).bind ?_;rintro _ ⟨key,rfl,hk⟩;exact Ok.ret ⟨_,_,_,rfl,PP hs a0,hk,d0⟩
theorem jn0:OR [-1,-1,-1,-1]:=by
 intro u j hj;have:j∈[(-1:Int),-1,-1,-1]:=dR hj;simp at this;omega
theorem Jp{l:List Int}{k:Int}(h:DOk l k):Ok (mF l k) λr=>∃code ss dt bs key cs ls ts ck rn ins d os us ow qs rec js k',r=(code,ss,dt,bs,key,cs,ls,ts,ck,rn,ins,d,os,us,ow,qs,rec,js,l,k',())/\W16 key/\jD 1152 198 code ss dt bs cs ls ts ck rn ins d os us ow qs rec js/\DOk l k':=by
 unfold mF;refine(Hw h).bind ?_;rintro _ ⟨code,ss,dt,k1,rfl,hp,h1⟩;dsimp only;refine(J4 hp.sz h1).bind ?_;rintro _ ⟨bs,key,k2,rfl,hL,Wi,h2⟩;dsimp only;refine(HB hp.sz h2).bind ?_;rintro _ ⟨ck,rn,ins,d,os,k3,rfl,hO,h3⟩;dsimp only;refine(MA hp hL hO).bind ?_;rintro _ ⟨cs,ts,rfl,hM⟩;dsimp only
 (with_reducible refine gn (by assumption) (by omega) (by omega) (λv4 k4 a4 b4 d4=>?_);try dsimp only)
 rw[dP (x:=3+v4) (by omega) (by omega)]
 obtain⟨y,e,hy⟩:=g7 (f:=o4) (n:=NN) (s:=(3+v4,l,k4,(),(),(),(),0,(),(),(),(),(),(),(),(),(),(),(),(),(),code,ss,dt,bs,key,cs,ib,ts,ck,rn,ins,d,os,[],[-1,-1,-1,-1],[[],[],[],[]],[],[-1,-1,-1,-1],()))
  (P:=λs'=>∃(c k':Int)(q:Nat),∃cs ls ts ck rn ins d os us ow qs rec js,s'=(c,l,k',(),(),(),(),0,(),(),(),(),(),(),(),(),(),(),(),(),(),code,ss,dt,bs,key,cs,ls,ts,ck,rn,ins,d,os,us,ow,qs,rec,js,())/\0<=c/\c+q<=18/\DOk l k'/\jD (64*q) (11*q) code ss dt bs cs ls ts ck rn ins d os us ow qs rec js)
  (R:=λy=>(∃(c k':Int)(f:Bool)(q:Nat),∃cs ls ts ck rn ins d os us ow qs rec js z1 z2 z3 z4 z5 z6 z7 z8 z9 z10 z11 z12 z13 z14 z15 z16 z17 z18,y=.inl (c,f,l,k',(),(),(),(),0,(),(),(),(),(),(),(),(),(),(),(),(),(),code,ss,dt,bs,key,cs,ls,ts,ck,rn,ins,d,os,us,ow,qs,rec,js,z1,z2,z3,z4,z5,z6,z7,z8,z9,z10,z11,z12,z13,z14,z15,z16,z17,z18,())/\q<=18/\DOk l k'/\jD (64*q) (11*q) code ss dt bs cs ls ts ck rn ins d os us ow qs rec js)\/
   (∃(c k':Int)(f:Bool)(q:Nat),∃cs ls ts ck rn ins d os us ow qs rec js,y=.inr (c,f,l,k',(),(),(),(),0,(),(),(),(),(),(),(),(),(),(),(),(),(),code,ss,dt,bs,key,cs,ls,ts,ck,rn,ins,d,os,us,ow,qs,rec,js,())/\q<=18/\DOk l k'/\jD (64*q) (11*q) code ss dt bs cs ls ts ck rn ins d os us ow qs rec js)) (m:=λs'=>s'.1.toNat)
  ⟨3+v4,k4,0,_,_,_,_,_,_,_,_,_,_,_,_,_,rfl,by omega,by omega,d4,hp,by simpa using hM,hO,Pk,by simp,rfl,(λe he=>by cases he),jn0⟩ (by unfold NN;dsimp only;omega) (by
   rintro _ ⟨c,k',q,cs,ls,ts,ck,rn,ins,d,os,us,ow,qs,rec,js,rfl,hc0,QZ,hd,hR⟩;unfold o4;dsimp only
   (with_reducible refine dE (λZ9=>?_) λZ9=>?_)
   ·refine(KE hd).bind ?_;rintro _ ⟨t,b,s,k5,rfl,t0,t1,b0,b1,hd5⟩;dsimp only;refine(JR hR (by omega) (by omega) (by omega) ⟨by omega,by omega⟩ ⟨by omega,by omega⟩).bind ?_;rintro _ (⟨e,rfl,he⟩|⟨Vq,VR,ts2,ck2,rn2,ins2,d2,os2,us2,ow2,qs2,WE,TO,rfl,E'⟩)
    ·dsimp only;rw[bne_iff_ne.2 he];exact Ok.ret (.inl ⟨_,_,_,q,_,_,_,_,_,_,_,_,_,_,_,_,_,_,_,_,_,_,_,_,_,_,_,_,_,_,_,_,_,_,_,rfl,by omega,hd5,hR⟩)
    ·dsimp only;rw[dP (x:=c-1) (by omega) (by omega)];refine Ok.ret ⟨⟨_,_,q+1,_,_,_,_,_,_,_,_,_,_,_,_,_,rfl,by omega,by omega,hd5,?_⟩,by dsimp only;omega⟩;rw[show 64*((q+1:Nat):Int)=64*(q:Int)+64 by omega,show 11*(q+1)=11*q+11 by omega];exact E'
   ·exact Ok.ret (.inr ⟨_,_,_,q,_,_,_,_,_,_,_,_,_,_,_,_,_,rfl,by omega,hd,hR⟩))
 rw[e];have ZV:∀{q:Nat}{cs ls ts ck rn ins d os us ow qs rec js},q<=18->jD (64*q) (11*q) code ss dt bs cs ls ts ck rn ins d os us ow qs rec js->jD 1152 198 code ss dt bs cs ls ts ck rn ins d os us ow qs rec js:=λhq hR=>⟨hR.prog,hR.mach.mono (by omega),hR.outs,hR.lock,by have:=hR.rlen;omega,hR.jlen,hR.rent,hR.jne⟩
 rcases hy with⟨c,k',f,q,cs,ls,ts,ck,rn,ins,d,os,us,ow,qs,rec,js,z1,z2,z3,z4,z5,z6,z7,z8,z9,z10,z11,z12,z13,z14,z15,z16,z17,z18,rfl,hq,hd,hR⟩|⟨c,k',f,q,cs,ls,ts,ck,rn,ins,d,os,us,ow,qs,rec,js,rfl,hq,hd,hR⟩
 ·exact Ok.ret ⟨_,_,_,_,_,_,_,_,_,_,_,_,_,_,_,_,_,_,_,rfl,Wi,ZV hq hR,hd⟩
 ·exact Ok.ret ⟨_,_,_,_,_,_,_,_,_,_,_,_,_,_,_,_,_,_,_,rfl,Wi,ZV hq hR,hd⟩
theorem KQ:mn=some (true,()):=by kernel_rfl
theorem back20{l m:List Int}(h1:DOk l 0)(h2:DOk m 0):ko l m=some (true,()):=by
 refine eY ?_;unfold ko;refine(Jp h1).bind ?_;rintro _ ⟨code,ss,dt,bs,key,cs,ls,ts,ck,rn,ins,d,os,us,ow,qs,x,js,k1,rfl,_,hR,_⟩;dsimp only;refine(Jp h2).bind ?_;rintro _ ⟨_,_,_,_,_,_,_,_,_,_,_,_,_,_,_,_,y,_,_,rfl,_,hS,_⟩;dsimp only;have hx:=hR.rlen;have hy:=hS.rlen;obtain⟨r,e1,g1⟩:=yu (a:=x) (b:=x) hR.rent (by omega);obtain⟨s,e2,g2⟩:=yu (a:=x) (b:=y) hR.rent (by omega);obtain rfl:r=true:=g1.2 rfl
 have hs:Ix (lX (eb x)) (lX (eb y))=s:=by
  rw[Bool.eq_iff_iff,Mp (M1 hR.rent) (M1 hS.rent),g2];refine⟨λh=>?_,λh=>by rw[h]⟩;have q1:=tU hR.rent (by omega);rw[h,tU hS.rent (by omega)]at q1
  injection q1 with q1
  injection q1 with q1
  exact q1.symm
 rw[oC hR.rent (by omega),oC hS.rent (by omega)];simp only[oBS,tU hR.rent (show x.length<=200 by omega),beq_self_eq_true,oCT,e1,e2,hs,KQ];exact Ok.ret rfl
theorem Ed(l:List Int):(lX l).size=l.length:=by
 show(lX l).data.size=_;rw[<- Array.length_toList,mI,List.length_map]
theorem PC{a b:List Int}(h:a.length+b.length<=1000000):Ec (lX a) (lX b)=true:=by
 unfold Ec;rw[Ed,Ed];exact oDT (by omega)
theorem PD(a b:List Int):Ix (KH (lX a) (lX b)) (lX (a++b))=true:=by
 unfold Ix KH;rw[ByteArray.toList_eq,ByteArray.toList_eq,ByteArray.data_append,Array.toList_append,mI,mI,mI,List.map_append];exact beq_self_eq_true _
theorem Qb{x n:Int}{f:Int×Unit->Option (Bool×Unit)}(hx:K4 x)(hn:0<n)(Vc:n<=1000){Q:Bool×Unit->Prop}(K:∀v,0<=v->v<n->Ok (f (v,())) Q):Ok ((rr x n).bind f) Q:=by
 unfold rr;refine Ok.bind (P:=λr=>∃v,r=(v,())/\0<=v/\v<n) ?_ ?_
 ·exact N6 hx hn (by omega) λv v0 v1=>Ok.ret ⟨v,rfl,v0,v1⟩
 ·rintro _ ⟨v,rfl,v0,v1⟩;exact K v v0 v1
theorem joins20{l:List Int}{k:Int}(h1:DOk l 0)(hk:K4 k):jA l k=some (true,()):=by
 refine eY ?_;unfold jA;refine(Jp h1).bind ?_;rintro _ ⟨code,ss,dt,bs,key,cs,ls,ts,ck,rn,ins,d,os,us,ow,qs,x,js,k1,rfl,_,hR,_⟩;delta dO;dsimp only;have hx:=hR.rlen;have he:=hR.rent;rw[dP (x:=(x.length:Int)+1) (by omega) (by omega)];refine Qb hk (by omega) (by omega) λv v0 v1=>?_;obtain⟨i,rfl⟩:∃i:Nat,v=i:=⟨v.toNat,by omega⟩;dsimp only
 have s1:gi 0 i x.length=true:=by simp[gi];omega
 have s2:gi i x.length x.length=true:=by simp[gi];omega
 have w1:lO x 0 (Nat.sub i 0)=x.take i:=by
  show(x.drop 0).take (i-0)=x.take i;rw[List.drop_zero,Nat.sub_zero]
 have w2:lO x i (Nat.sub x.length i)=x.drop i:=by
  show(x.drop i).take (x.length-i)=x.drop i;exact List.take_of_length_le (by rw[List.length_drop];omega)
 have h3:∀e∈x.take i,ww e:=λe h=>he e (List.mem_of_mem_take h);have h4:∀e∈x.drop i,ww e:=λe h=>he e (List.mem_of_mem_drop h)
 have l3:(x.take i).length<=200:=by rw[oLT];omega
 have l4:(x.drop i).length<=200:=by rw[List.length_drop];omega
 have b3:=GG h3;have b4:=GG h4
 have SO:eb (x.take i)++eb (x.drop i)=eb x:=by
  unfold eb;rw[<- List.flatMap_append,List.take_append_drop]
 obtain⟨r,e1,g1⟩:=yu (a:=x) (b:=x) he (by omega);obtain rfl:r=true:=g1.2 rfl;rw[dM];simp only[oBS,s1,s2,w1,w2,oCT];rw[oC h3 l3];simp only[oBS];rw[oC h4 l4];simp only[oBS];rw[oC he (by omega)];simp only[oBS,J5,List.nil_append];rw[eH (by decide) (by omega),eH (by decide) (by omega)];simp only[oCT];rw[SO,tU he (by omega)];have hq:=PD (eb (x.take i)) (eb (x.drop i));rw[SO]at hq;simp only[oBS,beq_self_eq_true,oCT,PC (show(eb (x.take i)).length+(eb (x.drop i)).length<=1000000 by omega),hq,e1,KQ];exact Ok.ret rfl
def JS:List CT->CT
 | []=>.nat
 | [t]=>t
 |t::u::r=>.pair t (JS (u::r))
def rP:(l:List CT)->HL den l->den (JS l)
 | [],_=>(0:Nat)
 | [_],h=>h.1
 |_::u::r,h=>(h.1,rP (u::r) h.2)
def encL:(l:List CT)->HL den l->List TV
 | [],_=>[]
 |t::r,h=>enc t h.1++encL r h.2
theorem GC:∀(l:List CT)(h:HL den l),enc (JS l) (rP l h)=encL l h
 | [],_=>rfl
 | [_],h=>(List.append_nil _).symm
 |_::u::r,h=>by
  show enc _ h.1++enc (JS (u::r)) (rP (u::r) h.2)=_;rw[GC (u::r) h.2];rfl
def FP:(c:CT)->den c->Prop
 |.int k,n=>(Lit.int k n).wf=true
 |.str,s=>ByteArray.size s<=maxLen
 |.row _ t,xs=>List.length xs<=maxLen/\∀x∈xs,FP t x
 |.pair a b,x=>FP a x.1/\FP b x.2
 |_,_=>True
def GoodL:(l:List CT)->HL den l->Prop
 | [],_=>True
 |t::r,h=>FP t h.1/\GoodL r h.2
theorem DU:∀(l:List CT)(h:HL den l),GoodL l h->FP (JS l) (rP l h)
 | [],_,_=>trivial
 | [_],_,g=>g.1
 |_::u::r,h,g=>⟨g.1,DU (u::r) h.2 g.2⟩
def appL:(l m:List CT)->HL den l->HL den m->HL den (l++m)
 | [],_,_,k=>k
 |_::r,m,h,k=>(h.1,appL r m h.2 k)
theorem GD:∀(l m:List CT)(h:HL den l)(k:HL den m),encL (l++m) (appL l m h k)=encL l h++encL m k
 | [],_,_,_=>rfl
 |t::r,m,h,k=>by
  show enc t h.1++encL (r++m) (appL r m h.2 k)=(enc t h.1++encL r h.2)++_;rw[GD r m h.2 k,List.append_assoc]
theorem Gu:∀(l m:List CT)(h:HL den l)(k:HL den m),GoodL l h->GoodL m k->GoodL (l++m) (appL l m h k)
 | [],_,_,_,_,g=>g
 |_::r,m,h,k,g,g'=>⟨g.1,Gu r m h.2 k g.2 g'⟩
def RelL(w:World):List TV->List Value->Prop
 | [],[]=>True
 |t::ts,v::vs=>nV w (λ_=>True) t v/\RelL w ts vs
 |_,_=>False
theorem RelL.app{w:World}:∀{a:List TV}{x:List Value}{b:List TV}{y:List Value},RelL w a x->RelL w b y->RelL w (a++b) (x++y)
 | [],[],_,_,_,h=>h
 |_::a,_::x,_,_,g,h=>⟨g.1,RelL.app (a:=a) (x:=x) g.2 h⟩
 | [],_::_,_,_,g,_=>g.elim
 |_::_,[],_,_,g,_=>g.elim
theorem RelL.len{w:World}:∀{a:List TV}{x:List Value},RelL w a x->a.length=x.length
 | [],[],_=>rfl
 |_::a,_::x,g=>by rw[oLC,oLC,RelL.len (a:=a) (x:=x) g.2]
 | [],_::_,g=>g.elim
 |_::_,[],g=>g.elim
theorem RelL.get{w:World}:∀{a:List TV}{x:List Value},RelL w a x->∀j (h:j<a.length)(h':j<x.length),nV w (λ_=>True) a[j] x[j]
 |_::_,_::_,g,0,_,_=>g.1
 |_::a,_::x,g,j+1,h,h'=>RelL.get (a:=a) (x:=x) g.2 j (by simpa using h) (by simpa using h')
 | [],_,_,_,h,_=>by simp at h
 |_::_,[],g,_,_,_=>g.elim
def Pa(P:Program)(g:TypeId->Option (List CT)):Nat->List Field->Option (List CT)
 |_,[]=>some []
 |off,f::fs=>match g f.type with
  |some l=>if f.offset=off/\l.length=P.cellsOf f.type then(Pa P g (off+l.length) fs).map (l++·)else none
  |none=>none
def xw(P:Program):Nat->TypeId->Option (List CT)
 |0,_=>none
 |n+1,t=>match P.underlying t with
  |some .bool=>some [.bool]
  |some (.int k)=>some [.int k]
  |some .string=>some [.str]
  |some (.slice e)=>match xw P n e with
   |some l=>if l.length=P.cellsOf e then some [.row false (JS l)]else none
   |none=>none
  |some (.struct fs)=>match Pa P (xw P n) 0 fs.toList with
   |some l=>if l.length=P.cellsOf t then some l else none
   |none=>none
  |_=>none
section
variable {H:Type} {ec:TypeId×Value->H} {P:Program} {w:World} {base:Nat} {spare:Nat->Bool} {held:Bool}
theorem Kf{g:TypeId->Option (List CT)}{m:Nat}{cs:List Value}
 (ih:∀t L,g t=some L->∀cs x,DataW.trod ec P w base spare held m t cs=some x->∃h:HL den L,GoodL L h/\RelL w (encL L h) cs):
 ∀(fs:List Field)(off:Nat)(L:List CT),Pa P g off fs=some L->(∀f∈fs,∃x,DataW.trod ec P w base spare held m f.type ((cs.drop f.offset).take (P.cellsOf f.type))=some x)->
  ∃h:HL den L,GoodL L h/\RelL w (encL L h) ((cs.drop off).take L.length):=by
 intro fs
 induction fs with
 |nil=>
  intro off L hL _
  injection hL with hL
  subst hL;exact⟨(),trivial,trivial⟩
 |cons f fs RT=>
  intro off L hL hx;unfold Pa at hL;split at hL
  ·rename_i l hg;split at hL
   ·rename_i ho;obtain⟨rfl,hlen⟩:=ho
    cases hr:Pa P g (f.offset+l.length) fs with
    |none=>simp_all
    |some L2=>
     rw[hr]at hL
     injection hL with hL
     subst hL;obtain⟨x,h1⟩:=hx f List.mem_cons_self;obtain⟨h,g1,r1⟩:=ih _ _ hg _ _ h1;have ⟨k,g2,r2⟩:=RT _ _ hr λf' R'=>hx f' (List.mem_cons_of_mem _ R');refine⟨appL l L2 h k,Gu _ _ _ _ g1 g2,?_⟩;rw[GD,List.length_append,List.take_add,List.drop_drop];rw[hlen];rw[hlen]at r2;exact r1.app r2
   ·cases hL
  ·cases hL
theorem Pp:∀(n:Nat)(t:TypeId)(L:List CT),xw P n t=some L->∀(Vr:Nat)(cs:List Value)(x:DataW H×List MemPlace),DataW.trod ec P w base spare held Vr t cs=some x ->
 ∃h:HL den L,GoodL L h/\RelL w (encL L h) cs:=by
 intro n
 induction n with
 |zero=>intro t L h;cases h
 |succ n ih=>
  intro t L hL Vr cs x hx;unfold xw at hL;split at hL
  ·rename_i ht
   injection hL with hL
   subst hL;obtain⟨b,rfl,_⟩:=DataW.trod_bool ht hx;exact⟨(b,()),⟨trivial,trivial⟩,.v rfl,trivial⟩
  ·rename_i k ht
   injection hL with hL
   subst hL;obtain⟨z,rfl,_,hw⟩:=DataW.trod_int ht hx;exact⟨(z,()),⟨hw,trivial⟩,.v rfl,trivial⟩
  ·rename_i ht
   injection hL with hL
   subst hL;obtain⟨s,rfl,_,hs⟩:=DataW.trod_string ht hx;exact⟨(s,()),⟨hs,trivial⟩,.v rfl,trivial⟩
  ·rename_i e ht;split at hL
   ·rename_i l hl;split at hL
    ·rename_i hsz
     injection hL with hL
     subst hL
     rcases DataW.trod_slice ht hx with⟨rfl,_⟩|⟨a,len,cap,elems,rest,m,_,rfl,_,_,Ym,hmax,Y5,Z4,_,_⟩
     ·exact⟨([],()),⟨⟨Nat.zero_le _,λx hx=>by cases hx⟩,trivial⟩,.sl (c:=[]) 1 (λ_ _=>undef) (λi h=>by simp at h) (Nat.le_refl _) (Nat.zero_le _) (λ_=>rfl) (λi j h=>by simp at h) (λi j h=>by simp at h),trivial⟩
     ·have each:∀i:Fin len,∃p:HL den l×List Value,GoodL l p.1/\RelL w (encL l p.1) p.2/\w.cells? base (a.add (i.1*P.cellsOf e)) (P.cellsOf e)=some p.2:=by
       intro i;have h1:=Z4 i.1 i.2;rw[oGE (by omega)]at h1;obtain⟨Z3,h2,h3⟩:=Option.bind_eq_some_iff.1 h1;obtain⟨h,g,r⟩:=ih _ _ hl _ _ _ h3;exact⟨(h,Z3),g,r,h2⟩
      obtain⟨f,hf⟩:=Classical.axiomOfChoice each
      have clen:∀i,(encL l (f i).1).length=l.length:=λi=>by
       rw[(hf i).2.1.len,(World.cells?_some (hf i).2.2).2.1,hsz]
      have key:nV w (λ_=>True) (.sl ((List.ofFn λi:Fin len=>rP l (f i).1).map (enc (JS l)))) (.slice (some a) ((List.ofFn λi:Fin len=>rP l (f i).1).map (enc (JS l))).length cap):=by
       have el:((List.ofFn λi:Fin len=>rP l (f i).1).map (enc (JS l))).length=len:=by simp
       have eg:∀i (hi:i<((List.ofFn λi:Fin len=>rP l (f i).1).map (enc (JS l))).length),((List.ofFn λi:Fin len=>rP l (f i).1).map (enc (JS l)))[i]=encL l (f ⟨i,by omega⟩).1:=by
        intro i hi;simp[GC]
       refine .sl l.length (λi j=>if h:i<len then(f ⟨i,h⟩).2.getD j undef else undef) (λi hi=>by rw[eg i hi,clen]) (by rw[el];exact Ym) hmax (λh=>by cases h) (λi j hi hj=>?_) (λi j hi hj=>?_)
       ·rw[el]at hi
        have cell:∀i' (Zz:i'<len) j',j'<l.length->w.cell? ((a.add (i'*l.length)).add j')=some ((f ⟨i',Zz⟩).2.getD j' undef):=by
         intro i' Zz j' ZT;have h1:=World.cells?_some (hf ⟨i',Zz⟩).2.2;have h2:=h1.2.2 j' (by omega);rw[hsz];rw[h2]
         have:j'<(f ⟨i',Zz⟩).2.length:=by rw[h1.2.1];omega
         simp[this]
        have h0:=World.cell?_spot (cell 0 (by omega) 0 (by omega));obtain⟨b,o,spot⟩:=a
        have Tx:spot=none:=by simpa[Addr.add]using h0
        subst Tx;refine⟨b,o,rfl,trivial,?_⟩;have h2:=cell i hi j hj;rw[Go.WideShapes.add_plain,Go.WideShapes.add_plain]at h2;rw[dif_pos hi,<- h2,Nat.add_assoc]
       ·rw[el]at hi;have hr:=(hf ⟨i,hi⟩).2.1
        have hj2:j<(encL l (f ⟨i,hi⟩).1).length:=by rw[eg i (by omega)]at hj;exact hj
        have Ud:j<(f ⟨i,hi⟩).2.length:=by rw[<- hr.len];exact hj2
        have h3:=hr.get j hj2 Ud
        simp_all
      rw[List.length_map,List.length_ofFn]at key;refine⟨(List.ofFn λi:Fin len=>rP l (f i).1,()),⟨⟨by rw[List.length_ofFn];omega,λx hx=>?_⟩,trivial⟩,key,trivial⟩;obtain⟨i,rfl⟩:=List.mem_ofFn.1 hx;exact DU _ _ (hf i).1
    ·cases hL
   ·cases hL
  ·rename_i fs ht;split at hL
   ·rename_i l hl;split at hL
    ·rename_i hsz
     injection hL with hL
     subst hL;obtain⟨xs,m,_,_,hlen,hxl,hf⟩:=DataW.trod_struct ht hx
     obtain⟨h,g,r⟩:=Kf (cs:=cs) (m:=m) (λt L hL cs x hx=>ih t L hL m cs x hx) fs.toList 0 l hl (by
      intro f hfm;obtain⟨i,hi,rfl⟩:=List.mem_iff_getElem.1 hfm
      have YZ:i<fs.size:=by simpa using hi
      have h1:=hf i fs[i] (by simp[YZ]);rw[oGE (by omega)]at h1
      exact⟨_,by simpa using h1⟩)
     refine⟨h,g,?_⟩;rw[List.drop_zero,hsz,<- hlen,List.take_length]at r;exact r
    ·cases hL
   ·cases hL
  ·cases hL
theorem intake_arg(n:Nat){t:TypeId}{L:List CT}{v:Value}{d:DataW H}{p:List MemPlace}(hL:xw P n t=some L)(h:DataW.Trod ec P w base spare held t v d p):
 ∃h:HL den L,GoodL L h/\RelL w (encL L h) v.cells.toList:=by
 have ⟨Vr,hf⟩:=h;exact Pp n t L hL Vr _ _ hf
end
theorem plain_one{w:World}{t:TV}{v:Value}(r:RelL w [t] [v]):FL w t v:=r.1.plain
theorem g64{h:den I64}(g:FP I64 h):K4 h:=bounds_i64 g
theorem H7{h:den RI}(g:FP RI h):(∀z∈(show List Int from h),K4 z)/\(show List Int from h).length<=maxLen:=⟨λz hz=>bounds_i64 (g.2 z hz),g.1⟩
theorem law_RecordBack{h0:HL den [RI]}{h1:HL den [RI]}(g0:GoodL _ h0)(g1:GoodL _ h1):nT.g (appL _ _ h0 (appL _ _ h1 ()))=some (true,()):=
 back20 (.start (H7 g0.1).1 (H7 g0.1).2) (.start (H7 g1.1).1 (H7 g1.1).2)
theorem law_RecordJoins{h0:HL den [RI]}{h1:HL den [I64]}(g0:GoodL _ h0)(g1:GoodL _ h1):nd.g (appL _ _ h0 (appL _ _ h1 ()))=some (true,()):=
 joins20 (.start (H7 g0.1).1 (H7 g0.1).2) (g64 g1.1)
end Go.Proofs.YtoldehogdgdhmaaGreat
