/- Part of the proof; no condition. -/
import Derived.Test.YtoldehogdgdhmaaGreatGe
import Derived.Deep.Slices
set_option linter.unusedVariables false
set_option linter.unusedSimpArgs false
namespace Go.Proofs.YtoldehogdgdhmaaGreat
open Go.RowKit
theorem zC{ss:List Int}{t v rg o sp:Int}{dat:List DCn}{w:Bool}(hs:zu ss)(hv:Pr ss (t,v,rg,o))(hd:dat.length<=16/\∀c∈dat,Pr ss c)(ZC:-1<=sp/\sp<=3):jS t v rg o dat sp w=some (true,()):=by
 refine ff ?_;unfold jS;rw[show gJ t v rg o=some (true,())from D3 hs hv,mr hs hd.2 (by omega) (by omega)];refine dJ (oDT ZC.1) ?_;exact Ok.ret (by rw[oDT (show sp<4 by omega)])
theorem PA{n m key:Int}{code:List DIn}{ss bs:List Int}{dd:List (List Int)}{cs:List DCe}{ls:List DLn}{ts:List DTh}{i:Nat}{trap count pc call:Int}{args data:List DCn}{t v rg o sp:Int}{dat:List DCn}{w:Bool}(hp:mY code ss dd)(h:MOk n ss bs cs ls ts)(hi:i<4)
 (hn:n<=1099511627776)(hm:m<=1099511627776)(hR:ww m ss (i:Int) 1 trap count pc call args data)(hv:Pr ss (t,v,rg,o))(hd:dat.length<=16/\∀c∈dat,Pr ss c)(ZC:-1<=sp/\sp<=3):
 Ok (oH code ss dd bs key cs ls ts (i:Int) 1 trap count pc call args data t v rg o dat sp w) λr=>∃Z3 Z0 Zl b,r=(bs,key,Z3,Z0,Zl,b,())/\MOk n ss bs Z3 Z0 Zl:=by
 have Xi:=h.tlen;obtain⟨Zr,Yp⟩:=hR.hkind rfl;obtain⟨th,X5⟩:∃th,ts[i]?=some th:=⟨_,oGE (by omega)⟩;have hok:=h.thr th (dT X5)
 have YL:=by omega
 have hg:dN ts i=some th:=X5;unfold oH;delta dR;rw[uj hp h hn,zD hp.sz hR hm,vW hR.hcall,zC hp.sz hv hd ZC,Zr];simp only[oBS,oNT,oCF,bne_self_eq_false,dP,hg];by_cases h2:th.1=2
 ·simp only[bne_eq_false_iff_eq.2 h2,oCF,tF h,oBS,dP,hg];by_cases hc0:call=0
  ·subst hc0;obtain⟨a,ha⟩:∃a,args[0]?=some a:=⟨_,oGE (by rw[Zr];decide)⟩;have hva:=(hR.hargs.2 a (dT ha)).val;simp only[BEq.rfl,oCT,show dN args 0=some a from ha,oBS];unfold mD kQ;rw[dZ (show 4<=1000/\0+th.2.1.length<=1000000 by have:=hok.len;omega)];simp only[oCT,oBS,fe X5];exact Ok.ret ⟨_,_,_,_,rfl,h.set h.mem ⟨⟨show(0:Int)<=4 by decide,show(4:Int)<=4 by decide⟩,by dsimp only;rw[fi];simpa using hok.len,gE eJ hok.regs,hok.pc,hok.count,hok.handler,hok.saved,⟨show(0:Int)<=0 by decide,show(0:Int)<=6 by decide⟩,hva⟩⟩
  ·simp only[oBF hc0,oCF]
   cases w with
   |true=>
    simp only[oCT,fe X5];exact Ok.ret ⟨_,_,_,_,rfl,h.set h.mem ⟨⟨show(0:Int)<=3 by decide,show(3:Int)<=4 by decide⟩,hok.len,hok.regs,hok.pc,hok.count,hok.handler,hok.saved,hok.trap,hok.code⟩⟩
   |false=>
    refine(Lx h hi hR hv hd ZC).bind ?_;rintro _ ⟨b,Z3,Z0,Zl,rfl,hb⟩;dsimp only
    cases b with
    |true=>exact Ok.ret ⟨_,_,_,_,rfl,hb rfl⟩
    |false=>exact Ok.ret ⟨_,_,_,_,rfl,h⟩
 ·simp only[bne_iff_ne.2 h2,oCT];exact Ok.ret ⟨_,_,_,_,rfl,h⟩
theorem KK{n key:Int}{code:List DIn}{ss bs:List Int}{dd:List (List Int)}{cs:List DCe}{ls:List DLn}{ts:List DTh}{i t v rg o sp:Int}{dat:List DCn}{w:Bool}(hp:mY code ss dd)(h:MOk n ss bs cs ls ts)
 (hn:n<=1099511627776)(hv:Pr ss (t,v,rg,o))(hd:dat.length<=16/\∀c∈dat,Pr ss c)(ZC:-1<=sp/\sp<=3):
 Ok (ll code ss dd bs key cs ls ts i t v rg o dat sp w) λr=>∃Z3 Z0 Zl b,r=(bs,key,Z3,Z0,Zl,b,())/\MOk n ss bs Z3 Z0 Zl:=by
 have Xi:=h.tlen;obtain⟨VI,Yr⟩:=F0 (key:=key) h.lay hv;unfold ll;rw[uj hp h hn,zC hp.sz hv hd ZC];simp only[oBS,oNT,oCF];by_cases h1:i<0
 ·simp only[oDT h1,oCT];exact Ok.ret ⟨_,_,_,_,rfl,h⟩
 by_cases h2:i>=4
 ·simp only[oDF h1,oDT h2,oCT,oCF,oBS];exact Ok.ret ⟨_,_,_,_,rfl,h⟩
 obtain⟨i,rfl⟩:∃k:Nat,i=k:=⟨i.toNat,by omega⟩;obtain⟨th,X5⟩:∃th,ts[i]?=some th:=⟨_,oGE (by omega)⟩;have hok:=h.thr th (dT X5);have YL:=(oGS X5).1;have hg:dN ts i=some th:=X5;obtain⟨c,hc0⟩:∃c,th.2.1[0]?=some c:=⟨_,oGE (by have:=hok.len;omega)⟩;simp only[oDF h1,oDF h2,oCF,dP,oBS,hg];by_cases h3:th.1=3
 ·simp only[bne_eq_false_iff_eq.2 h3,oCF,VI,oBS,bne_self_eq_false,tF h,dP,hg,show dN th.2.1 0=some c from hc0,fe X5,fe hc0,iD YL,nY YL];exact Ok.ret ⟨_,_,_,_,rfl,h.set h.mem ⟨⟨show(0:Int)<=1 by decide,show(1:Int)<=4 by decide⟩,by dsimp only;rw[List.length_set];exact hok.len,lI hok.regs Yr,hok.pc,hok.count,hok.handler,hok.saved,hok.trap,hok.code⟩⟩
 ·simp only[bne_iff_ne.2 h3,oCT];exact Ok.ret ⟨_,_,_,_,rfl,h⟩
theorem HX{n key:Int}{ss bs:List Int}{cs:List DCe}{ls:List DLn}{ts:List DTh}(h:MOk n ss bs cs ls ts)(i:Int):Ok (jR bs key cs ls ts i) λr=>∃Zl b,r=(bs,key,cs,ls,Zl,b,())/\MOk n ss bs cs ls Zl/\∀(j:Nat) t',Zl[j]?=some t'->∃t,ts[j]?=some t/\t'.1=t.1:=by
 unfold jR;rw[tF h];simp only[oBS];refine(MP h i).bind ?_;rintro⟨b,_⟩ hb;dsimp only at hb⊢
 (with_reducible refine dI (λZ9=>?_) λZ9=>?_)
 ·exact Ok.ret ⟨ts,false,rfl,h,λj t' e=>⟨t',e,rfl⟩⟩
 ·have hb:=hb Z9;have Xi:=h.tlen;obtain⟨hb1,hb2,U0⟩:=hb;refine Ok.nat hb1 λj hj=>?_;subst hj;refine Ok.get (by omega) λt ht=>?_;refine Ok.get (by omega) λt1 XR=>?_;refine Ok.get (by omega) λt2 YV=>?_;refine Ok.get (by omega) λt3 ht3=>?_;rw[ht]at XR YV ht3
  injection XR with XR
  injection YV with YV
  subst XR YV;refine Ok.get (by rw[oLM];omega) λt4 Re=>?_;have hne:=U0 t (by rw[oTN];exact ht);have hok:=h.thr t (dT ht);rw[iS];refine Ok.ret ⟨_,_,rfl,h.thread ht ⟨hok.state,hok.len,hok.regs,⟨by have:=hok.handler;dsimp only;omega,hok.handler.2⟩,hok.count,hok.handler,⟨by have:=hok.pc;dsimp only;omega,hok.pc.2⟩,hok.trap,hok.code⟩,λu t' e=>?_⟩;rw[List.getElem?_modify]at e
  cases hu:ts[u]? with
  |none=>rw[hu]at e;split at e<;>cases e
  |some t0=>
   rw[hu]at e;refine⟨t0,rfl,?_⟩;split at e<;>(injection e with e;rw[<- e])
structure jq (n:Int)(q:Nat)(code:List DIn)(ss:List Int)(dt:List (List Int))(bs:List Int)(cs:List DCe)(ls:List DLn)(ts:List DTh)(ck rn:List Int)(ins:List (List Int))(d:List (List DCn))(os:List DOp)(us:List DOu)(ow:List Int)(qs:List (List Int))(rec:List DEn)(js:List Int):Prop where
 prog:mY code ss dt
 mach:MOk n ss bs cs ls ts
 outs:yz ss ck rn ins d os us
 lock:iI ow qs
 rlen:rec.length<=q
 jlen:js.length=4
 rent:∀e∈rec,Il e
 jne:OL js
def Qb(n key:Int)(q:Nat)(code:List DIn)(ss:List Int)(dt:List (List Int))(bs:List Int)(r:(List DIn)×(List (Int))×(List (List (Int)))×(List (Int))×Int×(List DCe)×(List DLn)×(List DTh)×(List (Int))×(List (Int))×(List (List (Int)))×(List (List DCn))×(List DOp)×(List DOu)×(List (Int))×(List (List (Int)))×(List DEn)×(List (Int))×Unit):Prop:=
 ∃cs ls ts ck rn ins d os us ow qs rec js,r=(code,ss,dt,bs,key,cs,ls,ts,ck,rn,ins,d,os,us,ow,qs,rec,js,())/\jq n q code ss dt bs cs ls ts ck rn ins d os us ow qs rec js
theorem Is{n:Int}{q:Nat}{code:List DIn}{ss:List Int}{dt:List (List Int)}{bs:List Int}{key:Int}{cs:List DCe}{ls:List DLn}{ts:List DTh}{ck rn:List Int}{ins:List (List Int)}{d:List (List DCn)}{os:List DOp}{us:List DOu}{ow:List Int}{qs:List (List Int)}{rec:List DEn}{js:List Int}{i v:Int}(h:jq n q code ss dt bs cs ls ts ck rn ins d os us ow qs rec js)(hn:n<=1099511627776)(hq:q<=900)(hv:W16 v)(hi:0<=i/\i<=3):
 Ok (m6 i v code ss dt bs key cs ls ts ck rn ins d os us ow qs rec js) (Qb n key (q+1) code ss dt bs):=by
 unfold m6;rw[dW (x:=v) (by have:=hv.1;omega) (by have:=hv.2;omega)];obtain⟨v2,ev,XT⟩:=f9 v true;simp only[ev,oBS];refine(KK h.prog h.mach hn (jC XT) ⟨by decide,eJ⟩ (by decide)).bind ?_;rintro _ ⟨Z3,Z0,Zl,b,rfl,hM⟩;dsimp only;have hr:=h.rlen;refine dJ (dZ (by simp;omega)) ?_;exact Ok.ret ⟨_,_,_,_,_,_,_,_,_,_,_,_,_,rfl,h.prog,hM,h.outs,h.lock,by rw[fi];simp;omega,h.jlen,rP h.rent (.wake hi ((jC XT).cell h.prog.sz)),h.jne⟩
theorem FE{n:Int}{q:Nat}{code:List DIn}{ss:List Int}{dt:List (List Int)}{bs:List Int}{key:Int}{cs:List DCe}{ls:List DLn}{ts:List DTh}{ck rn:List Int}{ins:List (List Int)}{d:List (List DCn)}{os:List DOp}{us:List DOu}{ow:List Int}{qs:List (List Int)}{rec:List DEn}{js:List Int}{i v:Int}(h:jq n q code ss dt bs cs ls ts ck rn ins d os us ow qs rec js)(hn:n<=1099511627776)(hq:q<=900)(hv:W16 v)(hi:0<=i/\i<=3):
 Ok (i4 i v code ss dt bs key cs ls ts ck rn ins d os us ow qs rec) λr=>∃Z3 Z0 Zl TE,r=(code,ss,dt,bs,key,Z3,Z0,Zl,ck,rn,ins,d,os,us,ow,qs,TE,())/\jq n (q+1) code ss dt bs Z3 Z0 Zl ck rn ins d os us ow qs TE js:=by
 unfold i4;rw[dW (x:=v) (by have:=hv.1;omega) (by have:=hv.2;omega)];obtain⟨v2,ev,XT⟩:=f9 v true;simp only[ev,oBS];refine(KK h.prog h.mach hn (jC XT) ⟨by decide,eJ⟩ (by decide)).bind ?_;rintro _ ⟨Z3,Z0,Zl,b,rfl,hM⟩;dsimp only;have hr:=h.rlen;refine dJ (dZ (by simp;omega)) ?_;exact Ok.ret ⟨_,_,_,_,rfl,h.prog,hM,h.outs,h.lock,by rw[fi];simp;omega,h.jlen,rP h.rent (.wake hi ((jC XT).cell h.prog.sz)),h.jne⟩
def Qe(n key:Int)(q:Nat)(code:List DIn)(ss:List Int)(dt:List (List Int))(bs:List Int)(cs:List DCe)(ls:List DLn)(ts:List DTh)(rec:List DEn)(r:Int×Int×Int×Int×(List DCn)×Int×Bool×(List DIn)×(List (Int))×(List (List (Int)))×(List (Int))×Int×(List DCe)×(List DLn)×(List DTh)×(List (Int))×(List (Int))×(List (List (Int)))×(List (List DCn))×(List DOp)×(List DOu)×(List (Int))×(List (List (Int)))×(List DEn)×(List (Int))×Unit):Prop:=
 ∃t v rg o dat sp w ck rn ins d os us ow qs js,r=(t,v,rg,o,dat,sp,w,code,ss,dt,bs,key,cs,ls,ts,ck,rn,ins,d,os,us,ow,qs,rec,js,())/\jq n q code ss dt bs cs ls ts ck rn ins d os us ow qs rec js/\Pr ss (t,v,rg,o)/\(dat.length<=16/\∀c∈dat,Pr ss c)/\-1<=sp/\sp<=3
set_option maxHeartbeats 4000000 in
theorem Hk{n m:Int}{q:Nat}{code:List DIn}{ss:List Int}{dt:List (List Int)}{bs:List Int}{key:Int}{cs:List DCe}{ls:List DLn}{ts:List DTh}{ck rn:List Int}{ins:List (List Int)}{d:List (List DCn)}{os:List DOp}{us:List DOu}{ow:List Int}{qs:List (List Int)}{rec:List DEn}{js:List Int}{i:Nat}{trap count pc call:Int}{args data:List DCn}(h:jq n q code ss dt bs cs ls ts ck rn ins d os us ow qs rec js)(hi:i<4)(hm:m<=1099511627776)(hR:ww m ss (i:Int) 1 trap count pc call args data):
 Ok (jM (i:Int) 1 trap count pc call args data code ss dt bs key cs ls ts ck rn ins d os us ow qs rec js) (Qe n key q code ss dt bs cs ls ts rec):=by
 obtain⟨Zr,_⟩:=hR.hkind rfl;have Xi:=h.mach.tlen;obtain⟨v0,TL,Yj⟩:=f9 0 true;obtain⟨v1,ev1,WH⟩:=f9 0 false;have Zx:([]:List DCn).length<=16/\∀c∈([]:List DCn),Pr ss c:=⟨by decide,eJ⟩
 have ZX:∀{v:Int}{w:Bool}{Y':List Int}{qs':List (List Int)}{Tu:List Int},W16 v->iI Y' qs'->Tu.length=4->OL Tu->Ok (some ((0:Int),v,(0:Int),(0:Int),([]:List DCn),(-1:Int),w,code,ss,dt,bs,key,cs,ls,ts,ck,rn,ins,d,os,us,Y',qs',rec,Tu,())) (Qe n key q code ss dt bs cs ls ts rec):=
  λhv hl hj RT=>Ok.ret ⟨_,_,_,_,_,_,_,_,_,_,_,_,_,_,_,_,rfl,⟨h.prog,h.mach,h.outs,hl,h.rlen,hj,h.rent,RT⟩,jC hv,Zx,by decide,by decide⟩
 have hdo:Ox call=true->Ok ((nS ck rn ins d os us (i:Int) 1 trap count pc call args data).bind λ(x35,x36,x37,x38,x39,x40,x41,x42,x43,x44,x45,x46,x47,x48,_)=>some (x41,x42,x43,x44,x45,x46,x47,code,ss,dt,bs,key,cs,ls,ts,x35,x36,x37,x38,x39,x40,ow,qs,rec,js,())) (Qe n key q code ss dt bs cs ls ts rec):=by
  intro ha;refine(Oe h.prog.sz h.outs hR ha hm).bind ?_;rintro _ ⟨ck',rn',Yl,d',Y9,T',t,v,rg,o,dat,rfl,hO,hv,YJ,hd2⟩;exact Ok.ret ⟨_,_,_,_,_,_,_,_,_,_,_,_,_,_,_,_,rfl,⟨h.prog,h.mach,hO,h.lock,h.rlen,h.jlen,h.rent,h.jne⟩,hv,⟨YJ,hd2⟩,by decide,by decide⟩
 have Uk:0<(kB call).length->∃a,dN args 0=some a/\W16 a.2.1/\wk .i64 a.2.1=a.2.1:=λhl=>by
  obtain⟨a,ha⟩:∃a,args[0]?=some a:=⟨_,oGE (by omega)⟩;have hva:=(hR.hargs.2 a (dT ha)).val;exact⟨a,ha,hva,dW (by have:=hva.1;omega) (by have:=hva.2;omega)⟩
 unfold jM;delta dR
 try dsimp only
 rcases uV hR.hcall with rfl|rfl|rfl|rfl|rfl|rfl|rfl|rfl|rfl|rfl|rfl|rfl|rfl|rfl|rfl|rfl
 all_goals simp only[Int.reduceBEq,oCT,oCF,oBS,TL,ev1]
 all_goals first
  |exact hdo rfl
  |exact ZX Yj h.lock h.jlen h.jne
  |skip
 ·obtain⟨a,ga,ha,wa⟩:=Uk (by decide);simp only[ga,oBS,wa];refine(M6 h.lock (by omega)).bind ?_;rintro _ ⟨Y',qs',Q5,rfl,hl⟩;dsimp only;obtain⟨v,ev,hv⟩:=f9 0 (Q5 != 2);simp only[ev,oBS];exact ZX hv hl h.jlen h.jne
 ·obtain⟨a,ga,ha,wa⟩:=Uk (by decide);simp only[ga,oBS,wa];refine(E9 h.lock).bind ?_;rintro _ ⟨Y',qs',nx,b,rfl,hl,_⟩;dsimp only;obtain⟨v,ev,hv⟩:=f9 0 b;simp only[ev,oBS];exact ZX hv hl h.jlen h.jne
 ·obtain⟨y,e,hy⟩:=gX (f:=jL) (n:=NN) (s:=(ts,(ts.length:Int),0,code,ss,dt,bs,key,cs,ls,ts,ck,rn,ins,d,os,us,ow,qs,rec,js,0,0,0,0,(),0,false,()))
   (P:=λs'=>∃k:Nat,s'=(ts,(ts.length:Int),(k:Int),code,ss,dt,bs,key,cs,ls,ts,ck,rn,ins,d,os,us,ow,qs,rec,js,0,0,0,0,(),0,false,())/\k<=4)
   (R:=λy=>(∃v k,y=.inl (code,ss,dt,bs,key,cs,ls,ts,ck,rn,ins,d,os,us,ow,qs,rec,js,0,v,0,0,(),k,false,())/\W16 v/\0<=k/\k<=3)\/(∃a b c f,y=.inr (a,b,c,f,code,ss,dt,bs,key,cs,ls,ts,ck,rn,ins,d,os,us,ow,qs,rec,js,0,0,0,0,(),0,false,())))
   (m:=λs'=>(s'.2.1-s'.2.2.1).toNat) ⟨0,rfl,by omega⟩ (by unfold NN;dsimp only;omega) (by
    rintro _ ⟨k,rfl,hk⟩;unfold jL;dsimp only
    (with_reducible refine dI (λZ9=>?_) λZ9=>?_)
    ·obtain⟨t,ht⟩:∃t,ts[k]?=some t:=⟨_,oGE (by omega)⟩;simp only[dP,oBS,show dN ts k=some t from ht]
     (with_reducible refine dI (λZY=>?_) λZY=>?_)
     ·obtain⟨v,ev,hv⟩:=f9 (k:Int) true;simp only[ev,oBS];exact Ok.ret (.inl ⟨_,_,rfl,hv,by omega,by omega⟩)
     ·rw[dS (x:=(k:Int)+1) (by omega) (by omega)];exact Ok.ret ⟨⟨k+1,rfl,by omega⟩,by dsimp only;omega⟩
    ·exact Ok.ret (.inr ⟨_,_,_,_,rfl⟩))
  simp only[e]
  rcases hy with⟨v,k,rfl,hv,k0,k3⟩|⟨a,b,c,f,rfl⟩
  ·exact Ok.ret ⟨_,_,_,_,_,_,_,_,_,_,_,_,_,_,_,_,rfl,⟨h.prog,h.mach,h.outs,h.lock,h.rlen,h.jlen,h.rent,h.jne⟩,jC hv,Zx,by omega,by omega⟩
  ·simp only[ev1,oBS];exact ZX WH h.lock h.jlen h.jne
 ·obtain⟨a,ga,ha,wa⟩:=Uk (by decide);simp only[ga,oBS,wa];obtain⟨j,hj⟩:∃j:Nat,a.2.1=j:=⟨a.2.1.toNat,by have:=ha.1;omega⟩;simp only[hj];by_cases h1:(j:Int)=i
  ·simp only[beq_iff_eq.2 h1,oCT,oBS,ev1];exact ZX WH h.lock h.jlen h.jne
  by_cases h2:(j:Int)>=4
  ·simp only[oBF h1,oDT h2,oCT,oCF,oBS,ev1];exact ZX WH h.lock h.jlen h.jne
  obtain⟨t,ht⟩:∃t,ts[j]?=some t:=⟨_,oGE (by omega)⟩;simp only[oBF h1,oDF h2,oCF,oBS,dP,show dN ts j=some t from ht]
  cases t.1==0 with
  |true=>
   simp only[oCT,ev1,oBS];exact ZX WH h.lock h.jlen h.jne
  |false=>
   simp only[oCF,dP,oBS,show dN ts j=some t from ht]
   cases t.1==4 with
   |true=>
    obtain⟨v,ev,hv⟩:=f9 (wk .i64 t.2.2.2.2.2.2.2) true;simp only[oCT,ev,oBS];exact ZX hv h.lock h.jlen h.jne
   |false=>
    obtain⟨z,hz⟩:∃z,js[i]?=some z:=⟨_,oGE (by have:=h.jlen;omega)⟩;simp only[oCF,show dN js i=some z from hz,oBS,TL,fe hz];exact ZX Yj h.lock (by rw[List.length_set];exact h.jlen) (h.jne.set h1)
theorem ym{n m:Int}{q:Nat}{code:List DIn}{ss:List Int}{dt:List (List Int)}{bs:List Int}{key:Int}{cs:List DCe}{ls:List DLn}{ts:List DTh}{ck rn:List Int}{ins:List (List Int)}{d:List (List DCn)}{os:List DOp}{us:List DOu}{ow:List Int}{qs:List (List Int)}{rec:List DEn}{js:List Int}{i:Nat}{trap count pc call:Int}{args data:List DCn}(h:jq n q code ss dt bs cs ls ts ck rn ins d os us ow qs rec js)(hi:i<4)(hn:n<=1099511627776)(hm:m<=1099511627776)(hq:q<=800)(hR:ww m ss (i:Int) 1 trap count pc call args data):
 Ok (i5 (i:Int) 1 trap count pc call args data code ss dt bs key cs ls ts ck rn ins d os us ow qs rec js) (Qb n key (q+2) code ss dt bs):=by
 obtain⟨Zr,_⟩:=hR.hkind rfl;unfold i5;refine Ok.bind (P:=λr=>∃nx,r=(nx,code,ss,dt,bs,key,cs,ls,ts,ck,rn,ins,d,os,us,ow,qs,rec,js,(i:Int),1,trap,count,pc,call,args,data,())/\nx<=3) ?_ ?_
 ·by_cases h9:call=9
  ·subst h9;obtain⟨a,ha⟩:∃a,args[0]?=some a:=⟨_,oGE (by rw[Zr];decide)⟩;simp only[BEq.rfl,oCT,show dN args 0=some a from ha,oBS];refine(E9 h.lock).bind ?_;rintro _ ⟨Y',qs',nx,b,rfl,hl,XN⟩;exact Ok.ret ⟨nx,rfl,XN.2⟩
  ·simp only[oBF h9,oCF];exact Ok.ret ⟨_,rfl,by decide⟩
 rintro _ ⟨nx,rfl,XN⟩;dsimp only;refine(Hk h hi hm hR).bind ?_;rintro _ ⟨t,v,rg,o,dat,sp,w,ck',rn',Yl,d',Y9,T',Y',qs',Tu,rfl,h2,hv,hd,hs1,Y6⟩;dsimp only;refine(PA h.prog h.mach hi hn hm hR hv hd ⟨hs1,Y6⟩).bind ?_;rintro _ ⟨Z3,Z0,Zl,b,rfl,hM⟩;dsimp only;have hr:=h.rlen;refine dJ (dZ (by simp;omega)) ?_;have h3:jq n (q+1) code ss dt bs Z3 Z0 Zl ck' rn' Yl d' Y9 T' Y' qs' (List.append rec [(2,(i:Int),0,(i:Int),1,trap,count,pc,call,args,data,t,v,rg,o,dat,sp,w)]) Tu:=⟨h2.prog,hM,h2.outs,h2.lock,by rw[fi];simp;omega,h2.jlen,rP h2.rent (.result (hR.z h.prog.sz hm) (hv.cell h.prog.sz) ⟨λc hc=>(hd.2 c hc).cell h.prog.sz,hd.1⟩ ⟨hs1,Y6⟩),h2.jne⟩
 (with_reducible refine dI (λZ9=>?_) λZ9=>?_)
 ·refine(Is h3 hn (by omega) ⟨by decide,by decide⟩ ⟨by omega,XN⟩).bind ?_;rintro _ ⟨TK,T8,RH,ck3,rn3,ins3,d3,os3,us3,ow3,qs3,UR,js3,rfl,h4⟩;exact Ok.ret ⟨_,_,_,_,_,_,_,_,_,_,_,_,_,rfl,h4⟩
 ·have h4:=h3;exact Ok.ret ⟨_,_,_,_,_,_,_,_,_,_,_,_,_,rfl,h4.prog,h4.mach,h4.outs,h4.lock,by have:=h4.rlen;omega,h4.jlen,h4.rent,h4.jne⟩
theorem BS{n:Int}{q:Nat}{code:List DIn}{ss:List Int}{dt:List (List Int)}{bs:List Int}{key:Int}{cs:List DCe}{ls:List DLn}{ts:List DTh}{ck rn:List Int}{ins:List (List Int)}{d:List (List DCn)}{os:List DOp}{us:List DOu}{ow:List Int}{qs:List (List Int)}{rec:List DEn}{js:List Int}{i:Nat}(h:jq n q code ss dt bs cs ls ts ck rn ins d os us ow qs rec js)(hi:i<4)(hn:n<=1099511627776)(hq:q<=800):
 Ok (jN (i:Int) code ss dt bs key cs ls ts ck rn ins d os us ow qs rec js) (Qb n key (q+7) code ss dt bs):=by
 unfold jN;delta dR
 try dsimp only
 refine(Od h.lock).bind ?_;rintro _ ⟨Y',qs',nx,rfl,hl,hn4,XN⟩;dsimp only
 refine Ok.loop (P:=λs'=>∃k:Nat,∃cs ls ts rec,s'=((i:Int),(nx.length:Int),(k:Int),code,ss,dt,bs,key,cs,ls,ts,ck,rn,ins,d,os,us,Y',qs',rec,js,nx,())/\k<=nx.length/\jq n (q+k) code ss dt bs cs ls ts ck rn ins d os us Y' qs' rec js)
  (R:=λr=>∃a b f cs ls ts rec,r=((i:Int),a,b,f,code,ss,dt,bs,key,cs,ls,ts,ck,rn,ins,d,os,us,Y',qs',rec,js,nx,())/\jq n (q+4) code ss dt bs cs ls ts ck rn ins d os us Y' qs' rec js) (m:=λs'=>(s'.2.1-s'.2.2.1).toNat)
  ⟨0,cs,ls,ts,rec,rfl,by omega,h.prog,h.mach,h.outs,hl,by have:=h.rlen;omega,h.jlen,h.rent,h.jne⟩ (by unfold NN;dsimp only;omega) ?_ ?_
 ·rintro _ ⟨k,Vm,VO,ts2,WB,rfl,hk,h2⟩;unfold pz;dsimp only
  (with_reducible refine dI (λZ9=>?_) λZ9=>?_)
  ·obtain⟨x,hx⟩:∃x,nx[k]?=some x:=⟨_,oGE (by omega)⟩;simp only[dP,oBS,show dN nx k=some x from hx];refine(FE h2 hn (by omega) ⟨by decide,by decide⟩ (XN x (dT hx))).bind ?_;rintro _ ⟨TK,T8,RH,UR,rfl,h3⟩;dsimp only;rw[dS (x:=(k:Int)+1) (by omega) (by omega)];exact Ok.ret ⟨⟨k+1,_,_,_,_,rfl,by omega,h3⟩,by dsimp only;omega⟩
  ·exact Ok.ret ⟨_,_,_,_,_,_,_,rfl,h2.prog,h2.mach,h2.outs,h2.lock,by have:=h2.rlen;omega,h2.jlen,h2.rent,h2.jne⟩
 rintro _ ⟨a,b,f,Vm,VO,ts2,WB,rfl,h2⟩;dsimp only
 refine Ok.loop (P:=λs'=>∃k c:Nat,∃cs ls ts rec js,s'=((i:Int),4,(k:Int),code,ss,dt,bs,key,cs,ls,ts,ck,rn,ins,d,os,us,Y',qs',rec,js,())/\(k<=4/\c<=k/\(i<k->c+1<=k))/\jq n (q+4+c) code ss dt bs cs ls ts ck rn ins d os us Y' qs' rec js)
  (R:=λr=>∃a b c f cs ls ts rec js,r=(a,b,c,f,code,ss,dt,bs,key,cs,ls,ts,ck,rn,ins,d,os,us,Y',qs',rec,js,())/\jq n (q+7) code ss dt bs cs ls ts ck rn ins d os us Y' qs' rec js) (m:=λs'=>(s'.2.1-s'.2.2.1).toNat)
  ⟨0,0,Vm,VO,ts2,WB,js,by rw[h.jlen];rfl,by omega,h2⟩ (by unfold NN;dsimp only;have:=h.jlen;omega) ?_ ?_
 ·rintro _ ⟨k,c,Vm,VO,ts2,WB,Tv,rfl,hk,h2⟩;unfold py;dsimp only
  (with_reducible refine dI (λZ9=>?_) λZ9=>?_)
  ·obtain⟨x,hx⟩:∃x,Tv[k]?=some x:=⟨_,oGE (by have:=h2.jlen;omega)⟩;obtain⟨t,ht⟩:∃t,ts2[i]?=some t:=⟨_,oGE (by have:=h2.mach.tlen;omega)⟩;have htc:=(h2.mach.thr t (dT ht)).code;simp only[dP,oBS,show dN Tv k=some x from hx,show dN ts2 i=some t from ht];refine Ok.bind (P:=λr=>∃cs ls ts rec js,r=((i:Int),4,(k:Int),code,ss,dt,bs,key,cs,ls,ts,ck,rn,ins,d,os,us,Y',qs',rec,js,())/\∃c':Nat,(c'<=k+1/\(i<k+1->c'<=k))/\jq n (q+4+c') code ss dt bs cs ls ts ck rn ins d os us Y' qs' rec js) ?_ ?_
   ·(with_reducible refine dI (λZY=>?_) λZY=>?_)
    ·have hki:x≠(k:Int):=h2.jne k x hx;refine(FE h2 hn (by omega) htc (by omega)).bind ?_;rintro _ ⟨TK,T8,RH,UR,rfl,h3⟩;simp only[dP,oBS,show dN Tv k=some x from hx,fe hx];exact Ok.ret ⟨_,_,_,_,_,rfl,c+1,by omega,h3.prog,h3.mach,h3.outs,h3.lock,by have:=h3.rlen;omega,by rw[List.length_set];exact h3.jlen,h3.rent,h3.jne.set (by omega)⟩
    ·exact Ok.ret ⟨_,_,_,_,_,rfl,c,by omega,h2.prog,h2.mach,h2.outs,h2.lock,by have:=h2.rlen;omega,h2.jlen,h2.rent,h2.jne⟩
   ·rintro _ ⟨TK,T8,RH,UR,js3,rfl,c',XY,h3⟩;dsimp only;rw[dS (x:=(k:Int)+1) (by omega) (by omega)];exact Ok.ret ⟨⟨k+1,c',_,_,_,_,_,rfl,by omega,h3⟩,by dsimp only;omega⟩
  ·exact Ok.ret ⟨_,_,_,_,_,_,_,_,_,rfl,h2.prog,h2.mach,h2.outs,h2.lock,by have:=h2.rlen;omega,h2.jlen,h2.rent,h2.jne⟩
 ·rintro _ ⟨a,b,c,f,Vm,VO,ts2,WB,Tv,rfl,h2⟩;exact Ok.ret ⟨_,_,_,_,_,_,_,_,_,_,_,_,_,rfl,h2⟩
def Qf(n key:Int)(q:Nat)(code:List DIn)(ss:List Int)(dt:List (List Int))(bs:List Int)(r:(List DIn)×(List (Int))×(List (List (Int)))×(List (Int))×Int×(List DCe)×(List DLn)×(List DTh)×(List (Int))×(List (Int))×(List (List (Int)))×(List (List DCn))×(List DOp)×(List DOu)×(List (Int))×(List (List (Int)))×(List DEn)×(List (Int))×Int×Unit):Prop:=
 (∃e,r=([],[],[],[],0,[],[],[],[],[],[],[],[],[],[],[],[],[],e,())/\e≠0)\/(∃cs ls ts ck rn ins d os us ow qs rec js,r=(code,ss,dt,bs,key,cs,ls,ts,ck,rn,ins,d,os,us,ow,qs,rec,js,0,())/\jq n q code ss dt bs cs ls ts ck rn ins d os us ow qs rec js)
theorem Fj{code:List DIn}{ss:List Int}{dt:List (List Int)}{bs:List Int}{key:Int}{cs:List DCe}{ls:List DLn}{ts:List DTh}{ck rn:List Int}{ins:List (List Int)}{d:List (List DCn)}{os:List DOp}{us:List DOu}{ow:List Int}{qs:List (List Int)}{rec:List DEn}{js:List Int}(h1:rec.length<=1000)(h2:js.length<=1000):kO code ss dt bs key cs ls ts ck rn ins d os us ow qs rec js=some (code,ss,dt,bs,key,cs,ls,ts,ck,rn,ins,d,os,us,ow,qs,rec,js,()):=by
 unfold kO;rw[dZ (show 8<=1000/\0+js.length<=1000000 by omega),dZ (show 184<=1000/\0+rec.length<=1000000 by omega)];rfl
theorem ne3{stop trap:Int}{t:DTh}(h:Qj stop trap t)(hr:stop=3->t.1=1):stop≠3:=by
 intro e
 rcases h with⟨h,_⟩|⟨h,_⟩|⟨h,_⟩|⟨_,h⟩
 ·omega
 ·omega
 ·omega
 ·exact h (hr e)
set_option maxHeartbeats 4000000 in
theorem JI{n:Int}{q:Nat}{code:List DIn}{ss:List Int}{dt:List (List Int)}{bs:List Int}{key:Int}{cs:List DCe}{ls:List DLn}{ts:List DTh}{ck rn:List Int}{ins:List (List Int)}{d:List (List DCn)}{os:List DOp}{us:List DOu}{ow:List Int}{qs:List (List Int)}{rec:List DEn}{js:List Int}{c1 c2:Int}{c3:Bool}(h:jq n q code ss dt bs cs ls ts ck rn ins d os us ow qs rec js)(Yq:0<=n)(hn:n+64<=1099511627776)(hq:q<=700)(ZP:KT c1)(ZH:KT c2):
 Ok (m7 code ss dt bs key cs ls ts ck rn ins d os us ow qs rec js c1 c2 c3) (Qf (n+64) key (q+11) code ss dt bs):=by
 have Xi:=h.mach.tlen;have hr:=h.rlen;unfold m7;delta dR;rw[Lv (by omega)];simp only[oBS];have VX:=zQ ts 0
 (with_reducible refine dI (λZ9=>?_) λZ9=>?_)
 ·exact Ok.ret (.inl ⟨15,rfl,by decide⟩)
 (with_reducible refine dI (λZY=>?_) λZY=>?_)
 ·exact Ok.ret (.inl ⟨3,rfl,by decide⟩)
 refine NS ZP (by omega) (by omega) λv v0 v1=>?_;dsimp only;obtain⟨k,rfl⟩:∃k:Nat,v=k:=⟨v.toNat,by omega⟩;obtain⟨x,hx⟩:∃x,(ib ts 0)[k]?=some x:=⟨_,oGE (by omega)⟩;obtain⟨x0,x1,hxt⟩:=He (dT hx);obtain⟨i,rfl⟩:∃i:Nat,x=i:=⟨x.toNat,by omega⟩
 have hi:i<4:=by omega
 have Ys:∀t,ts[i]?=some t->t.1=1:=λt e=>by
  obtain⟨t0,e0,e1⟩:=hxt;rw[show((i:Int)-0).toNat=i by omega,e]at e0
  injection e0 with e0
  rw[e0];exact e1
 simp only[dP,oBS,show dN (ib ts 0) k=some (i:Int)from hx];refine NS ZH (by decide) (by decide) λu u0 u1=>?_;dsimp only;rw[dS (x:=1+u) (by omega) (by omega),Fj (by omega) (by have:=h.jlen;omega)]
 have hk:1<=1+u/\1+u<=64:=by omega
 generalize 1+u=kk at hk;simp only[oBS]
 cases c3 with
 |false=>
  simp only[oCF];have h2:jq n (q+1) code ss dt bs cs ls ts ck rn ins d os us ow qs rec js:=⟨h.prog,h.mach,h.outs,h.lock,by omega,h.jlen,h.rent,h.jne⟩;have Tn:=h2.mach.tlen;refine(wY h2.prog h2.mach Yq hn hi hk).bind ?_;rintro _ ⟨TK,T8,t3,stop,trap,call,args,data,rfl,VD,Wt,XD,V7,Xz⟩;have hns:stop≠3:=ne3 V7 λe=>Ys _ (Xz e);have U5:Il (1,(i:Int),kk,(i:Int),stop,trap,t3.2.2.2.1,t3.2.2.1,call,args,data,0,0,0,0,[],0,false):=.slice (XD.z h.prog.sz hn) hns hk;dsimp only;have XQ:=h2.rlen;have UZ:=(h2.mach.mono (show n<=n+64 by omega)).set VD (i:=i) Wt;refine dJ (dZ (by simp;omega)) ?_;refine Ok.bind (P:=λr=>∃cs ls ts ck rn ins d os us ow qs rec js,r=((i:Int),(),(),(),(),0,(),(),(),(),(),(),(),(),(),(),(),(),(),code,ss,dt,bs,key,cs,ls,ts,ck,rn,ins,d,os,us,ow,qs,rec,js,())/\jq (n+64) (q+4) code ss dt bs cs ls ts ck rn ins d os us ow qs rec js) ?_ ?_
  ·by_cases hs1:stop=1
   ·subst hs1;simp only[BEq.rfl,oCT];refine(ym (q:=q+2) ⟨h2.prog,UZ,h2.outs,h2.lock,by rw[fi];simp;omega,h2.jlen,rP h2.rent U5,h2.jne⟩ hi (by omega) hn (by omega) XD).bind ?_;rintro _ ⟨Sg,Ty,TG,Se,TF,WA,d4,TA,TH,TC,TD,WC,Tw,rfl,h4⟩;exact Ok.ret ⟨_,_,_,_,_,_,_,_,_,_,_,_,_,rfl,h4⟩
   ·simp only[oBF hs1,oCF];exact Ok.ret ⟨_,_,_,_,_,_,_,_,_,_,_,_,_,rfl,h2.prog,UZ,h2.outs,h2.lock,by rw[fi];simp;omega,h2.jlen,rP h2.rent U5,h2.jne⟩
  rintro _ ⟨cs,ls,ts,ck,rn,ins,d,os,us,ow,qs,rec,js,rfl,h5⟩;dsimp only;obtain⟨t5,Tk⟩:∃t5,ts[i]?=some t5:=⟨_,oGE (by have:=h5.mach.tlen;omega)⟩;simp only[dP,oBS,show dN ts i=some t5 from Tk];refine Ok.bind (P:=λr=>∃cs ls ts ck rn ins d os us ow qs rec js,r=((),(),(),(),0,(),(),(),(),(),(),(),(),(),(),(),(),(),code,ss,dt,bs,key,cs,ls,ts,ck,rn,ins,d,os,us,ow,qs,rec,js,())/\jq (n+64) (q+11) code ss dt bs cs ls ts ck rn ins d os us ow qs rec js) ?_ ?_
  ·(with_reducible refine dI (λXZ=>?_) λXZ=>?_)
   ·refine(BS h5 hi (by omega) (by omega)).bind ?_;rintro _ ⟨Sg,Ty,TG,Se,TF,WA,d4,TA,TH,TC,TD,WC,Tw,rfl,h4⟩;exact Ok.ret ⟨_,_,_,_,_,_,_,_,_,_,_,_,_,rfl,h4⟩
   ·exact Ok.ret ⟨_,_,_,_,_,_,_,_,_,_,_,_,_,rfl,h5.prog,h5.mach,h5.outs,h5.lock,by have:=h5.rlen;omega,h5.jlen,h5.rent,h5.jne⟩
  rintro _ ⟨cs,ls,ts,ck,rn,ins,d,os,us,ow,qs,rec,js,rfl,h6⟩;exact Ok.ret (.inr ⟨_,_,_,_,_,_,_,_,_,_,_,_,_,rfl,h6⟩)
 |true=>
  simp only[oCT];obtain⟨⟨b,_⟩,eC,_⟩:=MP (key:=key) h.mach (i:Int);simp only[eC,oBS]
  cases b with
  |false=>
   simp only[oCF];have h2:jq n (q+1) code ss dt bs cs ls ts ck rn ins d os us ow qs rec js:=⟨h.prog,h.mach,h.outs,h.lock,by omega,h.jlen,h.rent,h.jne⟩;have Tn:=h2.mach.tlen;refine(wY h2.prog h2.mach Yq hn hi hk).bind ?_;rintro _ ⟨TK,T8,t3,stop,trap,call,args,data,rfl,VD,Wt,XD,V7,Xz⟩;have hns:stop≠3:=ne3 V7 λe=>Ys _ (Xz e);have U5:Il (1,(i:Int),kk,(i:Int),stop,trap,t3.2.2.2.1,t3.2.2.1,call,args,data,0,0,0,0,[],0,false):=.slice (XD.z h.prog.sz hn) hns hk;dsimp only;have XQ:=h2.rlen;have UZ:=(h2.mach.mono (show n<=n+64 by omega)).set VD (i:=i) Wt;refine dJ (dZ (by simp;omega)) ?_;refine Ok.bind (P:=λr=>∃cs ls ts ck rn ins d os us ow qs rec js,r=((i:Int),(),(),(),(),0,(),(),(),(),(),(),(),(),(),(),(),(),(),code,ss,dt,bs,key,cs,ls,ts,ck,rn,ins,d,os,us,ow,qs,rec,js,())/\jq (n+64) (q+4) code ss dt bs cs ls ts ck rn ins d os us ow qs rec js) ?_ ?_
   ·by_cases hs1:stop=1
    ·subst hs1;simp only[BEq.rfl,oCT];refine(ym (q:=q+2) ⟨h2.prog,UZ,h2.outs,h2.lock,by rw[fi];simp;omega,h2.jlen,rP h2.rent U5,h2.jne⟩ hi (by omega) hn (by omega) XD).bind ?_;rintro _ ⟨Sg,Ty,TG,Se,TF,WA,d4,TA,TH,TC,TD,WC,Tw,rfl,h4⟩;exact Ok.ret ⟨_,_,_,_,_,_,_,_,_,_,_,_,_,rfl,h4⟩
    ·simp only[oBF hs1,oCF];exact Ok.ret ⟨_,_,_,_,_,_,_,_,_,_,_,_,_,rfl,h2.prog,UZ,h2.outs,h2.lock,by rw[fi];simp;omega,h2.jlen,rP h2.rent U5,h2.jne⟩
   rintro _ ⟨cs,ls,ts,ck,rn,ins,d,os,us,ow,qs,rec,js,rfl,h5⟩;dsimp only;obtain⟨t5,Tk⟩:∃t5,ts[i]?=some t5:=⟨_,oGE (by have:=h5.mach.tlen;omega)⟩;simp only[dP,oBS,show dN ts i=some t5 from Tk];refine Ok.bind (P:=λr=>∃cs ls ts ck rn ins d os us ow qs rec js,r=((),(),(),(),0,(),(),(),(),(),(),(),(),(),(),(),(),(),code,ss,dt,bs,key,cs,ls,ts,ck,rn,ins,d,os,us,ow,qs,rec,js,())/\jq (n+64) (q+11) code ss dt bs cs ls ts ck rn ins d os us ow qs rec js) ?_ ?_
   ·(with_reducible refine dI (λXZ=>?_) λXZ=>?_)
    ·refine(BS h5 hi (by omega) (by omega)).bind ?_;rintro _ ⟨Sg,Ty,TG,Se,TF,WA,d4,TA,TH,TC,TD,WC,Tw,rfl,h4⟩;exact Ok.ret ⟨_,_,_,_,_,_,_,_,_,_,_,_,_,rfl,h4⟩
    ·exact Ok.ret ⟨_,_,_,_,_,_,_,_,_,_,_,_,_,rfl,h5.prog,h5.mach,h5.outs,h5.lock,by have:=h5.rlen;omega,h5.jlen,h5.rent,h5.jne⟩
   rintro _ ⟨cs,ls,ts,ck,rn,ins,d,os,us,ow,qs,rec,js,rfl,h6⟩;exact Ok.ret (.inr ⟨_,_,_,_,_,_,_,_,_,_,_,_,_,rfl,h6⟩)
  |true=>
   obtain⟨_,eD,Zl,b',rfl,hD,hDs⟩:=HX (key:=key) h.mach (i:Int)
   replace Ys:∀t,Zl[i]?=some t->t.1=1:=λt e=>by
    obtain⟨t0,e0,e1⟩:=hDs i t e;rw[e1];exact Ys t0 e0
   simp only[oCT,eD,oBS];rw[dZ (show 184<=1000/\rec.length + _<=1000000 by simp;omega)];simp only[oCT];have h2:jq n (q+1) code ss dt bs cs ls Zl ck rn ins d os us ow qs (List.append rec [(3,(i:Int),0,0,0,0,0,0,0,[],[],0,0,0,0,[],0,false)]) js:=⟨h.prog,hD,h.outs,h.lock,by rw[fi];simp;omega,h.jlen,rP h.rent (.signal (by omega)),h.jne⟩;have Tn:=h2.mach.tlen;refine(wY h2.prog h2.mach Yq hn hi hk).bind ?_;rintro _ ⟨TK,T8,t3,stop,trap,call,args,data,rfl,VD,Wt,XD,V7,Xz⟩;have hns:stop≠3:=ne3 V7 λe=>Ys _ (Xz e);have U5:Il (1,(i:Int),kk,(i:Int),stop,trap,t3.2.2.2.1,t3.2.2.1,call,args,data,0,0,0,0,[],0,false):=.slice (XD.z h.prog.sz hn) hns hk;dsimp only;have XQ:=h2.rlen;have UZ:=(h2.mach.mono (show n<=n+64 by omega)).set VD (i:=i) Wt;refine dJ (dZ (by simp;omega)) ?_;refine Ok.bind (P:=λr=>∃cs ls ts ck rn ins d os us ow qs rec js,r=((i:Int),(),(),(),(),0,(),(),(),(),(),(),(),(),(),(),(),(),(),code,ss,dt,bs,key,cs,ls,ts,ck,rn,ins,d,os,us,ow,qs,rec,js,())/\jq (n+64) (q+4) code ss dt bs cs ls ts ck rn ins d os us ow qs rec js) ?_ ?_
   ·by_cases hs1:stop=1
    ·subst hs1;simp only[BEq.rfl,oCT];refine(ym (q:=q+2) ⟨h2.prog,UZ,h2.outs,h2.lock,by rw[fi];simp;omega,h2.jlen,rP h2.rent U5,h2.jne⟩ hi (by omega) hn (by omega) XD).bind ?_;rintro _ ⟨Sg,Ty,TG,Se,TF,WA,d4,TA,TH,TC,TD,WC,Tw,rfl,h4⟩;exact Ok.ret ⟨_,_,_,_,_,_,_,_,_,_,_,_,_,rfl,h4⟩
    ·simp only[oBF hs1,oCF];exact Ok.ret ⟨_,_,_,_,_,_,_,_,_,_,_,_,_,rfl,h2.prog,UZ,h2.outs,h2.lock,by rw[fi];simp;omega,h2.jlen,rP h2.rent U5,h2.jne⟩
   rintro _ ⟨cs,ls,ts,ck,rn,ins,d,os,us,ow,qs,rec,js,rfl,h5⟩;dsimp only;obtain⟨t5,Tk⟩:∃t5,ts[i]?=some t5:=⟨_,oGE (by have:=h5.mach.tlen;omega)⟩;simp only[dP,oBS,show dN ts i=some t5 from Tk];refine Ok.bind (P:=λr=>∃cs ls ts ck rn ins d os us ow qs rec js,r=((),(),(),(),0,(),(),(),(),(),(),(),(),(),(),(),(),(),code,ss,dt,bs,key,cs,ls,ts,ck,rn,ins,d,os,us,ow,qs,rec,js,())/\jq (n+64) (q+11) code ss dt bs cs ls ts ck rn ins d os us ow qs rec js) ?_ ?_
   ·(with_reducible refine dI (λXZ=>?_) λXZ=>?_)
    ·refine(BS h5 hi (by omega) (by omega)).bind ?_;rintro _ ⟨Sg,Ty,TG,Se,TF,WA,d4,TA,TH,TC,TD,WC,Tw,rfl,h4⟩;exact Ok.ret ⟨_,_,_,_,_,_,_,_,_,_,_,_,_,rfl,h4⟩
    ·exact Ok.ret ⟨_,_,_,_,_,_,_,_,_,_,_,_,_,rfl,h5.prog,h5.mach,h5.outs,h5.lock,by have:=h5.rlen;omega,h5.jlen,h5.rent,h5.jne⟩
   rintro _ ⟨cs,ls,ts,ck,rn,ins,d,os,us,ow,qs,rec,js,rfl,h6⟩;exact Ok.ret (.inr ⟨_,_,_,_,_,_,_,_,_,_,_,_,_,rfl,h6⟩)
theorem JV{l ss:List Int}{k:Int}(hs:zu ss)(h:DOk l k):Ok (l9 ss l k) λr=>∃bs key k',r=(bs,key,l,k',())/\LV bs ss/\W16 key/\DOk l k':=by
 unfold l9
 (with_reducible refine fk (by omega) (by omega) (by omega) (λv0 k0 a0 b0 d0=>?_);try dsimp only)
 refine(NW hs a0 (by omega)).bind ?_;rintro _ ⟨key,rfl,hk⟩;exact Ok.ret ⟨_,_,_,rfl,PD hs a0,hk,d0⟩
theorem jn0:OL [-1,-1,-1,-1]:=by
 intro u j hj;have:j∈[(-1:Int),-1,-1,-1]:=dT hj;simp at this;omega
theorem O0{l:List Int}{k:Int}(h:DOk l k):Ok (rd l k) λr=>∃code ss dt bs key cs ls ts ck rn ins d os us ow qs rec js k',r=(code,ss,dt,bs,key,cs,ls,ts,ck,rn,ins,d,os,us,ow,qs,rec,js,l,k',())/\W16 key/\jq 1152 198 code ss dt bs cs ls ts ck rn ins d os us ow qs rec js/\DOk l k':=by
 unfold rd;refine(Hj h).bind ?_;rintro _ ⟨code,ss,dt,k1,rfl,hp,h1⟩;dsimp only;refine(JV hp.sz h1).bind ?_;rintro _ ⟨bs,key,k2,rfl,hL,Wh,h2⟩;dsimp only;refine(Ho hp.sz h2).bind ?_;rintro _ ⟨ck,rn,ins,d,os,k3,rfl,hO,h3⟩;dsimp only;refine(Mo hp hL hO).bind ?_;rintro _ ⟨cs,ts,rfl,hM⟩;dsimp only
 (with_reducible refine fk (by assumption) (by omega) (by omega) (λv4 k4 a4 b4 d4=>?_);try dsimp only)
 rw[dS (x:=3+v4) (by omega) (by omega)]
 obtain⟨y,e,hy⟩:=gX (f:=oN) (n:=NN) (s:=(3+v4,l,k4,(),(),(),(),0,(),(),(),(),(),(),(),(),(),(),(),(),(),code,ss,dt,bs,key,cs,hJ,ts,ck,rn,ins,d,os,[],[-1,-1,-1,-1],[[],[],[],[]],[],[-1,-1,-1,-1],()))
  (P:=λs'=>∃(c k':Int)(q:Nat),∃cs ls ts ck rn ins d os us ow qs rec js,s'=(c,l,k',(),(),(),(),0,(),(),(),(),(),(),(),(),(),(),(),(),(),code,ss,dt,bs,key,cs,ls,ts,ck,rn,ins,d,os,us,ow,qs,rec,js,())/\0<=c/\c+q<=18/\DOk l k'/\jq (64*q) (11*q) code ss dt bs cs ls ts ck rn ins d os us ow qs rec js)
  (R:=λy=>(∃(c k':Int)(f:Bool)(q:Nat),∃cs ls ts ck rn ins d os us ow qs rec js z1 z2 z3 z4 z5 z6 z7 z8 z9 z10 z11 z12 z13 z14 z15 z16 z17 z18,y=.inl (c,f,l,k',(),(),(),(),0,(),(),(),(),(),(),(),(),(),(),(),(),(),code,ss,dt,bs,key,cs,ls,ts,ck,rn,ins,d,os,us,ow,qs,rec,js,z1,z2,z3,z4,z5,z6,z7,z8,z9,z10,z11,z12,z13,z14,z15,z16,z17,z18,())/\q<=18/\DOk l k'/\jq (64*q) (11*q) code ss dt bs cs ls ts ck rn ins d os us ow qs rec js)\/
   (∃(c k':Int)(f:Bool)(q:Nat),∃cs ls ts ck rn ins d os us ow qs rec js,y=.inr (c,f,l,k',(),(),(),(),0,(),(),(),(),(),(),(),(),(),(),(),(),(),code,ss,dt,bs,key,cs,ls,ts,ck,rn,ins,d,os,us,ow,qs,rec,js,())/\q<=18/\DOk l k'/\jq (64*q) (11*q) code ss dt bs cs ls ts ck rn ins d os us ow qs rec js)) (m:=λs'=>s'.1.toNat)
  ⟨3+v4,k4,0,_,_,_,_,_,_,_,_,_,_,_,_,_,rfl,by omega,by omega,d4,hp,by simpa using hM,hO,O8,by simp,rfl,(λe he=>by cases he),jn0⟩ (by unfold NN;dsimp only;omega) (by
   rintro _ ⟨c,k',q,cs,ls,ts,ck,rn,ins,d,os,us,ow,qs,rec,js,rfl,hc0,hcq,hd,hR⟩;unfold oN;dsimp only
   (with_reducible refine dI (λZ9=>?_) λZ9=>?_)
   ·refine(Kw hd).bind ?_;rintro _ ⟨t,b,s,k5,rfl,t0,t1,b0,b1,RP⟩;dsimp only;refine(JI hR (by omega) (by omega) (by omega) ⟨by omega,by omega⟩ ⟨by omega,by omega⟩).bind ?_;rintro _ (⟨e,rfl,he⟩|⟨Vm,VO,ts2,ck2,rn2,ins2,d2,os2,us2,ow2,qs2,WB,Tv,rfl,hR2⟩)
    ·dsimp only;rw[bne_iff_ne.2 he];exact Ok.ret (.inl ⟨_,_,_,q,_,_,_,_,_,_,_,_,_,_,_,_,_,_,_,_,_,_,_,_,_,_,_,_,_,_,_,_,_,_,_,rfl,by omega,RP,hR⟩)
    ·dsimp only;rw[dS (x:=c-1) (by omega) (by omega)];refine Ok.ret ⟨⟨_,_,q+1,_,_,_,_,_,_,_,_,_,_,_,_,_,rfl,by omega,by omega,RP,?_⟩,by dsimp only;omega⟩;rw[show 64*((q+1:Nat):Int)=64*(q:Int)+64 by omega,show 11*(q+1)=11*q+11 by omega];exact hR2
   ·exact Ok.ret (.inr ⟨_,_,_,q,_,_,_,_,_,_,_,_,_,_,_,_,_,rfl,by omega,hd,hR⟩))
 rw[e];have ZX:∀{q:Nat}{cs ls ts ck rn ins d os us ow qs rec js},q<=18->jq (64*q) (11*q) code ss dt bs cs ls ts ck rn ins d os us ow qs rec js->jq 1152 198 code ss dt bs cs ls ts ck rn ins d os us ow qs rec js:=λhq hR=>⟨hR.prog,hR.mach.mono (by omega),hR.outs,hR.lock,by have:=hR.rlen;omega,hR.jlen,hR.rent,hR.jne⟩
 rcases hy with⟨c,k',f,q,cs,ls,ts,ck,rn,ins,d,os,us,ow,qs,rec,js,z1,z2,z3,z4,z5,z6,z7,z8,z9,z10,z11,z12,z13,z14,z15,z16,z17,z18,rfl,hq,hd,hR⟩|⟨c,k',f,q,cs,ls,ts,ck,rn,ins,d,os,us,ow,qs,rec,js,rfl,hq,hd,hR⟩
 ·exact Ok.ret ⟨_,_,_,_,_,_,_,_,_,_,_,_,_,_,_,_,_,_,_,rfl,Wh,ZX hq hR,hd⟩
 ·exact Ok.ret ⟨_,_,_,_,_,_,_,_,_,_,_,_,_,_,_,_,_,_,_,rfl,Wh,ZX hq hR,hd⟩
theorem On:iQ=some (true,()):=by kernel_rfl
theorem P0{x n:Int}{f:Int×Unit->Option (Bool×Unit)}(hx:KT x)(hn:0<n)(U7:n<=1000){Q:Bool×Unit->Prop}(K:∀v,0<=v->v<n->Ok (f (v,())) Q):Ok ((ra x n).bind f) Q:=by
 unfold ra;refine Ok.bind (P:=λr=>∃v,r=(v,())/\0<=v/\v<n) ?_ ?_
 ·exact NS hx hn (by omega) λv v0 v1=>Ok.ret ⟨v,rfl,v0,v1⟩
 ·rintro _ ⟨v,rfl,v0,v1⟩;exact K v v0 v1
def EnB(e:DEn):Prop:=EnS e/\(∀c∈e.2.2.2.2.2.2.2.2.2.1,rB c)/\(∀c∈e.2.2.2.2.2.2.2.2.2.2.1,rB c)/\rB (e.2.2.2.2.2.2.2.2.2.2.2.1,e.2.2.2.2.2.2.2.2.2.2.2.2.1,e.2.2.2.2.2.2.2.2.2.2.2.2.2.1,e.2.2.2.2.2.2.2.2.2.2.2.2.2.2.1)/\(∀c∈e.2.2.2.2.2.2.2.2.2.2.2.2.2.2.2.1,rB c)
theorem gM.t{c:DCn}(h:gM c):rB c:=by
 rcases h with⟨_,_,_,h4,h5⟩|⟨_,h2,_⟩
 ·exact⟨h4,h5⟩
 ·exact⟨by omega,by omega⟩
theorem F7:∀c∈([]:List DCn),rB c:=λc hc=>by cases hc
theorem zT:rB (0,0,0,0):=⟨by decide,by decide⟩
theorem kg:([]:List DCn).length<=1000:=by decide
section
variable {a0 a1 a2 a3 a4 a5 a6 a7 a8:Int} {a9 a10:List DCn} {a11 a12 a13 a14:Int} {a15:List DCn} {a16:Int} {a17:Bool}
theorem enB_mk(h9:a9.length<=1000)(ZT:a10.length<=1000)(UV:a15.length<=1000)(t9:∀c∈a9,rB c)(t10:∀c∈a10,rB c)(tv:rB (a11,a12,a13,a14))(RE:∀c∈a15,rB c):EnB (a0,a1,a2,a3,a4,a5,a6,a7,a8,a9,a10,a11,a12,a13,a14,a15,a16,a17):=⟨⟨h9,ZT,UV⟩,t9,t10,tv,RE⟩
theorem BU(hr:MV a3 a4 a5 a6 a7 a8 a9 a10)(UV:a15.length<=1000)(tv:rB (a11,a12,a13,a14))(RE:∀c∈a15,rB c):EnB (a0,a1,a2,a3,a4,a5,a6,a7,a8,a9,a10,a11,a12,a13,a14,a15,a16,a17):=
 enB_mk (by have:=hr.args.2;omega) (by have:=hr.data.2;omega) UV (λc hc=>(hr.args.1 c hc).t) (λc hc=>(hr.data.1 c hc).t) tv RE
end
theorem Il.b{e:DEn}(h:Il e):EnB e:=by
 cases h with
 |slice hr _ _=>exact BU hr kg zT F7
 |result hr hc hd _=>exact BU hr (by have:=hd.2;omega) hc.t λc hc=>(hd.1 c hc).t
 |signal _=>exact enB_mk kg kg kg F7 F7 zT F7
 |wake _ hv=>exact enB_mk kg kg kg F7 F7 hv.t F7
theorem Ji{l:List Int}{k:Int}(h:DOk l k):Ok (l8 l k) λr=>∃t v rg o dat sp w k',r=(t,v,rg,o,dat,sp,w,l,k',())/\gM (t,v,rg,o)/\(∀c∈dat,gM c)/\dat.length<=5/\DOk l k':=by
 obtain⟨t,v,rg,o,k1,e1,hc,d1⟩:=wP h;unfold l8;simp only[e1,oBS]
 (with_reducible refine fk (by assumption) (by omega) (by omega) (λv2 k2 a2 b2 d2=>?_);try dsimp only)
 (with_reducible refine fk (by assumption) (by omega) (by omega) (λv3 k3 a3 b3 d3=>?_);try dsimp only)
 have tail:∀(dat:List DCn)(kk:Int),DOk l kk->Ok ((dK 5 l kk).bind λ(x16,x17,x18,_)=>bif x16==0 then((dK 4 x17 x18).bind λ(x19,x20,x21,_)=>some (x20,x21,(0:Int),(0:Int),(0:Int),(0:Int),(),(0:Int),false,t,v,rg,o,dat,x19,(v2==0),()))else some (x17,x18,0,0,0,0,(),0,false,t,v,rg,o,dat,(-1),(v2==0),())) λr=>∃k' sp,r=(l,k',0,0,0,0,(),0,false,t,v,rg,o,dat,sp,(v2==0),())/\DOk l k':=by
  intro dat kk hk;refine fk hk (by decide) (by decide) λz k5 _ _ d5=>?_;dsimp only
  cases z==0 with
  |true=>
   simp only[oCT];refine fk d5 (by decide) (by decide) λz k6 _ _ d6=>?_;exact Ok.ret ⟨_,_,rfl,d6⟩
  |false=>exact Ok.ret ⟨_,_,rfl,d5⟩
 cases v3==0 with
 |true=>
  obtain⟨dat,k4,e4,g1,g2,d4⟩:=yl d3 (a:=5) (by decide) (by decide);simp only[oCT,e4,oBS];refine(tail dat k4 d4).bind ?_;rintro _ ⟨k',sp,rfl,hk⟩;exact Ok.ret ⟨_,_,_,_,dat,_,_,_,rfl,hc,g1,by omega,hk⟩
 |false=>
  simp only[oCF];refine(tail [] _ d3).bind ?_;rintro _ ⟨k',sp,rfl,hk⟩;exact Ok.ret ⟨_,_,_,_,[],_,_,_,rfl,hc,(λc hc=>by cases hc),by decide,hk⟩
theorem BR{l:List Int}{k:Int}(h:DOk l k):Ok (jz l k) λr=>∃(e:DEn)(k':Int),r=(e.1,e.2.1,e.2.2.1,e.2.2.2.1,e.2.2.2.2.1,e.2.2.2.2.2.1,e.2.2.2.2.2.2.1,e.2.2.2.2.2.2.2.1,e.2.2.2.2.2.2.2.2.1,e.2.2.2.2.2.2.2.2.2.1,e.2.2.2.2.2.2.2.2.2.2.1,e.2.2.2.2.2.2.2.2.2.2.2.1,e.2.2.2.2.2.2.2.2.2.2.2.2.1,e.2.2.2.2.2.2.2.2.2.2.2.2.2.1,e.2.2.2.2.2.2.2.2.2.2.2.2.2.2.1,e.2.2.2.2.2.2.2.2.2.2.2.2.2.2.2.1,e.2.2.2.2.2.2.2.2.2.2.2.2.2.2.2.2.1,e.2.2.2.2.2.2.2.2.2.2.2.2.2.2.2.2.2,l,k',())/\EnB e/\DOk l k':=by
 unfold jz
 (with_reducible refine fk (by assumption) (by omega) (by omega) (λv0 k0 a0 b0 d0=>?_);try dsimp only)
 obtain⟨j,rfl⟩:∃j:Nat,v0=j:=⟨v0.toNat,by omega⟩;obtain⟨kd,hkd⟩:∃kd:Int,dN [1,1,2,2,3,4,0] j=some kd:=⟨_,oGE (by simp only[oLC,List.length_nil];omega)⟩;simp only[dP,oBS,hkd]
 (with_reducible refine fk (by assumption) (by omega) (by omega) (λv1 k1 a1 b1 d1=>?_);try dsimp only)
 refine Ok.bind (P:=λq=>∃(e:DEn)(k':Int),q=(l,k',0,0,0,0,0,0,0,0,0,(),(),0,0,0,0,(),0,false,e.1,e.2.1,e.2.2.1,e.2.2.2.1,e.2.2.2.2.1,e.2.2.2.2.2.1,e.2.2.2.2.2.2.1,e.2.2.2.2.2.2.2.1,e.2.2.2.2.2.2.2.2.1,e.2.2.2.2.2.2.2.2.2.1,e.2.2.2.2.2.2.2.2.2.2.1,e.2.2.2.2.2.2.2.2.2.2.2.1,e.2.2.2.2.2.2.2.2.2.2.2.2.1,e.2.2.2.2.2.2.2.2.2.2.2.2.2.1,e.2.2.2.2.2.2.2.2.2.2.2.2.2.2.1,e.2.2.2.2.2.2.2.2.2.2.2.2.2.2.2.1,e.2.2.2.2.2.2.2.2.2.2.2.2.2.2.2.2.1,e.2.2.2.2.2.2.2.2.2.2.2.2.2.2.2.2.2,())/\EnB e/\DOk l k') ?_ ?_
 ·by_cases h1:kd=1
  ·simp only[beq_iff_eq.2 h1,oCT]
   (with_reducible refine fk (by assumption) (by omega) (by omega) (λv2 k2 a2 b2 d2=>?_);try dsimp only)
   obtain⟨a0,a1,a2,a3,a4,a5,a6,a7,k3,e3,hr,d3⟩:=zP d2;simp only[e3,oBS];exact Ok.ret ⟨(kd,a0,w64 (1+v2),a0,a1,a2,a3,a4,a5,a6,a7,0,0,0,0,[],0,false),k3,rfl,BU hr kg zT F7,d3⟩
  by_cases h2:kd=2
  ·simp only[oBF h1,beq_iff_eq.2 h2,oCT,oCF];obtain⟨a0,a1,a2,a3,a4,a5,a6,a7,k3,e3,hr,d3⟩:=zP d1;simp only[e3,oBS];refine(Ji d3).bind ?_;rintro _ ⟨t,v,rg,o,dat,sp,w,k4,rfl,hc,hd,hl,d4⟩;exact Ok.ret ⟨(kd,a0,0,a0,a1,a2,a3,a4,a5,a6,a7,t,v,rg,o,dat,sp,w),k4,rfl,BU hr (by omega) hc.t λc hc=>(hd c hc).t,d4⟩
  by_cases h4:kd=4
  ·simp only[oBF h1,oBF h2,beq_iff_eq.2 h4,oCT,oCF];obtain⟨t,v,rg,o,k3,e3,hc,d3⟩:=wP d1;simp only[e3,oBS];exact Ok.ret ⟨(kd,v1,0,0,0,0,0,0,0,[],[],t,v,rg,o,[],-1,false),k3,rfl,enB_mk kg kg kg F7 F7 hc.t F7,d3⟩
  ·simp only[oBF h1,oBF h2,oBF h4,oCF];exact Ok.ret ⟨(kd,v1,0,0,0,0,0,0,0,[],[],0,0,0,0,[],0,false),_,rfl,enB_mk kg kg kg F7 F7 zT F7,d1⟩
 ·rintro _ ⟨e,k',rfl,hb,hd⟩;exact Ok.ret ⟨e,k',rfl,hb,hd⟩
theorem DW{l:List DEn}(h:∀e∈l,EnS e)(hl:l.length<=1000):lj l=some (l,()):=by
 unfold lj;simp only[dV]
 obtain⟨t,e,x3,x4,x5,x6,rfl⟩:=oR (f:=mz)
  (λs=>∃i:Nat,i<=l.length/\s=(l,(l.length:Int),(i:Int),l.take i,()))
  (λt=>∃x3 x4 x5 x6,t=(x3,x4,x5,x6,l,()))
  (λs=>(s.2.1-s.2.2.1).toNat) (by
   rintro _ ⟨i,hi,rfl⟩;unfold mz;by_cases hn:(i:Int)<l.length
   ·left
    have YH:i<l.length:=by omega
    obtain⟨g1,g2,g3⟩:=h _ (List.getElem_mem YH);simp only[hn,decide_true,oCT,dP,oBS,dN,oGE YH,pZ,P1,List.nil_append];rw[gS (by decide) (by omega),gS (by decide) (by omega)];simp only[oCT,oBS];rw[gS (by decide) (by omega),gS (by decide) (by rw[oLT,oLC,List.length_nil];omega),dS (x:=(i:Int)+1) (by omega) (by omega)];refine⟨_,rfl,⟨i+1,by omega,?_⟩,by simp only;omega⟩;rw[List.take_succ_eq_append_getElem YH];rfl
   ·right;simp only[hn,decide_false,oCF]
    have:i=l.length:=by omega
    subst this
    exact⟨_,rfl,_,_,_,_,by rw[List.take_length]⟩) NN (l,(l.length:Int),0,[],()) ⟨0,by omega,by simp⟩ (by show((l.length:Int)-0).toNat<NN;unfold NN;omega)
 rw[e];rfl
theorem NT{α:Type}{P:α->Prop}{l:List α}{f:α->α}(h:∀e∈l,P e)(hf:∀e,P e->P (f e))(i:Nat):∀e∈List.modify l i f,P e:=by
 intro y hy;obtain⟨j,hj⟩:=List.getElem?_of_mem hy;rw[List.getElem?_modify]at hj
 cases hl:l[j]? with
 |none=>rw[hl]at hj;split at hj<;>cases hj
 |some z=>
  rw[hl]at hj;have hz:=h z (dT hl);split at hj
  ·injection hj with hj;rw[<- hj];exact hf z hz
  ·injection hj with hj;rw[<- hj];exact hz
def PG(l:List Int)(r:List DEn×List Int×Int×Unit):Prop:=∃(x:List DEn)(k':Int),r=(x,l,k',())/\(∀e∈x,EnB e)/\x.length<=200/\DOk l k'
def OD(l:List Int)(r:((List (Int))×Int×(List DEn)×Unit)⊕((List DEn)×(List (Int))×Int×Unit)):Prop:=(∃(k':Int)(x:List DEn),r=.inl (l,k',x,())/\(∀e∈x,EnB e)/\x.length<=200/\DOk l k')\/∃(k':Int)(x:List DEn),r=.inr (x,l,k',())/\(∀e∈x,EnB e)/\x.length<=200/\DOk l k'
theorem Qq{l:List Int}{o:Option (((List (Int))×Int×(List DEn)×Unit)⊕((List DEn)×(List (Int))×Int×Unit))}(h:Ok o (OD l)):Ok (match o with
 |none=>none
 |some (.inl (x24,x25,x26,_))=>some (x26,x24,x25,())
 |some (.inr (x24,x25,x26,_))=>some (x24,x25,x26,())) (PG l):=by
 obtain⟨_,rfl,⟨k',x,rfl,h1,h2,h3⟩|⟨k',x,rfl,h1,h2,h3⟩⟩:=h
 ·exact Ok.ret ⟨x,k',rfl,h1,h2,h3⟩
 ·exact Ok.ret ⟨x,k',rfl,h1,h2,h3⟩
theorem HW{l:List Int}{k:Int}(h:DOk l k):Ok (j5 l k) (PG l):=by
 unfold j5
 (with_reducible refine fk (by assumption) (by omega) (by omega) (λv0 k0 a0 b0 d0=>?_);try dsimp only)
 cases v0==0 with
 |true=>
  simp only[oCT]
  (with_reducible refine fk (by assumption) (by omega) (by omega) (λv1 k1 a1 b1 d1=>?_);try dsimp only)
  refine Ok.loop (P:=λs=>∃(c k':Int)(x:List DEn),s=(c,l,k',x,())/\0<=c/\c+x.length<=5/\(∀e∈x,EnB e)/\DOk l k') (R:=λr=>∃(c k':Int)(b:Bool)(x:List DEn),r=(c,b,l,k',x,())/\x.length<=5/\(∀e∈x,EnB e)/\DOk l k') (m:=λs=>s.1.toNat)
   ⟨_,_,[],rfl,by omega,by simp only[List.length_nil];omega,λe he=>(by cases he),d1⟩ (by unfold NN;dsimp only;omega) ?_ ?_
  ·rintro _ ⟨c,k',x,rfl,hc0,hcx,hx,hd⟩;unfold nu;dsimp only
   (with_reducible refine dI (λZ9=>?_) λZ9=>?_)
   ·refine(BR hd).bind ?_;rintro _ ⟨e,k2,rfl,hb,hd2⟩;dsimp only;refine dJ (gS (by decide) (by simp only[oLC,List.length_nil];omega)) ?_;rw[dS (x:=c-1) (by omega) (by omega)];exact Ok.ret ⟨⟨_,_,_,rfl,by omega,by rw[P1,List.length_append,oLC,List.length_nil];omega,gE hx (λy hy=>by rw[List.mem_singleton.1 hy];exact hb),hd2⟩,by dsimp only;omega⟩
   ·exact Ok.ret ⟨_,_,_,_,rfl,by omega,hx,hd⟩
  ·rintro _ ⟨c,k',b,x,rfl,hl,hx,hd⟩;exact Ok.ret ⟨x,k',rfl,hx,by omega,hd⟩
 |false=>
  simp only[oCF];refine(O0 d0).bind ?_;rintro _ ⟨code,ss,dt,bs,key,cs,ls,ts,ck,rn,ins,d,os,us,ow,qs,x,js,k1,rfl,_,hR,hd⟩;dsimp only;have hx:∀e∈x,EnB e:=λe he=>(hR.rent e he).b;have hl:x.length<=198:=hR.rlen;rw[DW (λe he=>(hx e he).1) (by omega)];simp only[oBS];refine Qq ?_;have Zd:∀{k':Int},DOk l k'->Ok (some (.inl (l,k',x,()))) (OD l):=λhd=>Ok.ret (.inl ⟨_,x,rfl,hx,by omega,hd⟩);have Yz:∀{k':Int}{i:Nat}{f:DEn->DEn},DOk l k'->(∀e,EnB e->EnB (f e))->Ok (some (.inl (l,k',List.modify x i f,()))) (OD l):=λhd hf=>Ok.ret (.inl ⟨_,_,rfl,NT hx hf _,by rw[oLM];omega,hd⟩);delta dR
  try dsimp only
  (with_reducible refine dI (λZ9=>?_) λZ9=>?_)
  ·(with_reducible refine fk (by assumption) (by omega) (by omega) (λv2 k2 a2 b2 d2=>?_);try dsimp only)
   cases v2==0 with
   |true=>
    simp only[oCT]
    (with_reducible refine fk (by assumption) (by omega) (by omega) (λv3 k3 a3 b3 d3=>?_);try dsimp only)
    obtain⟨i,rfl⟩:∃i:Nat,v3=i:=⟨v3.toNat,by omega⟩
    have hi:i<x.length:=by omega
    obtain⟨y,hy⟩:∃y,x[i]?=some y:=⟨_,oGE hi⟩;have hyb:=hx y (dT hy)
    (with_reducible refine fk (by assumption) (by omega) (by omega) (λv4 k4 a4 b4 d4=>?_);try dsimp only)
    simp only[dP,oBS,show dN x i=some y from hy]
    cases v4==0 with
    |true=>
     simp only[oCT];refine(BR d4).bind ?_;rintro _ ⟨e,k5,rfl,hb,RP⟩;exact Yz RP λ_ _=>hb
    |false=>cases v4==1 with
     |true=>
      simp only[oCT,oCF];rw[dS (x:=(i:Int)+1) (by omega) (by omega),show(i:Int)+1=((i+1:Nat):Int) by omega];simp only[dP,oBS];refine dJ (by simp[ge];omega) (dJ (by simp[ge];omega) (dJ (by simp[ge]) (dJ (by simp[ge]) (dJ (by simp[ge];omega) ?_))));refine Ok.ret (.inr ⟨_,_,rfl,gE (λe he=>hx e (List.mem_of_mem_drop (List.mem_of_mem_take he))) (λe he=>hx e (List.mem_of_mem_drop (List.mem_of_mem_take he))),?_,d4⟩);rw[P1,List.length_append];show((x.drop 0).take (i-0)).length+((x.drop (i+1)).take (x.length-(i+1))).length<=200;rw[oLT,oLT,List.length_drop,List.length_drop];omega
     |false=>cases v4==2 with
      |true=>
       simp only[oCT,oCF]
       (with_reducible refine fk (by assumption) (by omega) (by omega) (λv5 k5 a5 b5 d5=>?_);try dsimp only)
       exact Yz d5 λe he=>he
      |false=>cases v4==3 with
       |true=>
        simp only[oCT,oCF];exact Yz d4 λe he=>he
       |false=>cases v4==4 with
        |true=>
         simp only[oCT,oCF]
         (with_reducible refine fk (by assumption) (by omega) (by omega) (λv5 k5 a5 b5 d5=>?_);try dsimp only)
         exact Yz d5 λe he=>he
        |false=>cases v4==5 with
         |true=>
          simp only[oCT,oCF]
          (with_reducible refine fk (by assumption) (by omega) (by omega) (λv5 k5 a5 b5 d5=>?_);try dsimp only)
          exact Yz d5 λe he=>he
         |false=>exact Zd d4
   |false=>exact Zd d2
  ·exact Zd hd
theorem grows20{l:List Int}{k:Int}(h1:DOk l 0)(hk:KT k):jo l k=some (true,()):=by
 refine ff ?_;unfold jo;refine(HW h1).bind ?_;rintro _ ⟨x,k1,rfl,hx,hl,hd⟩;dsimp only;have hs:∀e∈x,EnS e:=λe he=>(hx e he).1;rw[DW hs (by omega)];simp only[oBS];refine(BR hd).bind ?_;rintro _ ⟨e,k2,rfl,hb,hd2⟩;delta dR;dsimp only;refine dJ (gS (by decide) (by simp only[oLC,List.length_nil];omega)) ?_;rw[dS (x:=(x.length:Int)+1) (by omega) (by omega)]
 have hy:∀z∈x++[e],EnS z:=gE hs λz hz=>by rw[List.mem_singleton.1 hz];exact hb.1
 have hsx:=Aq hs (by omega);have hsy:=Aq hy (by rw[List.length_append,oLC,List.length_nil];omega);have e2:u5 (x++[e]) s0=(u5 x s0).bind (u5 [e]):=wz _ _ _
 obtain⟨bx,stx,ex,TQ⟩:∃bx st,fa x=some (st,bx,())/\(bx=true↔(u5 x s0).isSome):=by
  rcases hsx with⟨st,la,q,e⟩|⟨q,e⟩
  ·exact⟨true,st,e,by rw[q];simp⟩
  ·exact⟨false,[],e,by rw[q];simp⟩
 obtain⟨by_,sty,ey,Vq⟩:∃bx st,fa (x++[e])=some (st,bx,())/\(bx=true↔(u5 (x++[e]) s0).isSome):=by
  rcases hsy with⟨st,la,q,e⟩|⟨q,e⟩
  ·exact⟨true,st,e,by rw[q];simp⟩
  ·exact⟨false,[],e,by rw[q];simp⟩
 have eyy:fa (List.append x [(e.1,(e.2.1,(e.2.2.1,(e.2.2.2.1,(e.2.2.2.2.1,(e.2.2.2.2.2.1,(e.2.2.2.2.2.2.1,(e.2.2.2.2.2.2.2.1,(e.2.2.2.2.2.2.2.2.1,(e.2.2.2.2.2.2.2.2.2.1,(e.2.2.2.2.2.2.2.2.2.2.1,(e.2.2.2.2.2.2.2.2.2.2.2.1,(e.2.2.2.2.2.2.2.2.2.2.2.2.1,(e.2.2.2.2.2.2.2.2.2.2.2.2.2.1,(e.2.2.2.2.2.2.2.2.2.2.2.2.2.2.1,(e.2.2.2.2.2.2.2.2.2.2.2.2.2.2.2.1,(e.2.2.2.2.2.2.2.2.2.2.2.2.2.2.2.2.1,(e.2.2.2.2.2.2.2.2.2.2.2.2.2.2.2.2.2))))))))))))))))))])=some (sty,by_,()):=ey;simp only[ex,eyy,oBS];refine P0 hk (by omega) (by omega) λv v0 v1=>?_;obtain⟨i,rfl⟩:∃i:Nat,v=i:=⟨v.toNat,by omega⟩;dsimp only;rw[dP];simp only[oBS];refine dJ (by simp[ge];omega) ?_
 have w1:mZ x 0 (Nat.sub i 0)=x.take i:=by
  show(x.drop 0).take (i-0)=x.take i;rw[List.drop_zero,Nat.sub_zero]
 have hst:=Aq (l:=x.take i) (λe he=>hs e (List.mem_of_mem_take he)) (by rw[oLT];omega)
 obtain⟨bt,stt,et,hbt⟩:∃bx st,fa (x.take i)=some (st,bx,())/\(bx=true↔(u5 (x.take i) s0).isSome):=by
  rcases hst with⟨st,la,q,e⟩|⟨q,e⟩
  ·exact⟨true,st,e,by rw[q];simp⟩
  ·exact⟨false,[],e,by rw[q];simp⟩
 have e3:u5 x s0=(u5 (x.take i) s0).bind (u5 (x.drop i)):=by rw[<- wz,List.take_append_drop]
 rw[w1,et];simp only[oBS,On]
 have k1:bx=true->bt=true:=λhh=>by
  rw[hbt];have:=TQ.1 hh;rw[e3]at this
  cases hq:u5 (x.take i) s0 with
  |none=>rw[hq]at this;cases this
  |some _=>rfl
 have k2:by_=true->bx=true:=λhh=>by
  rw[TQ];have:=Vq.1 hh;rw[e2]at this
  cases hq:u5 x s0 with
  |none=>rw[hq]at this;cases this
  |some _=>rfl
 cases bx with
 |true=>
  rw[k1 rfl];exact Ok.ret rfl
 |false=>
  cases by_ with
  |true=>cases k2 rfl
  |false=>cases bt<;>exact Ok.ret rfl
def JJ:List CT->CT
 | []=>.nat
 | [t]=>t
 |t::u::r=>.pair t (JJ (u::r))
def rD:(l:List CT)->HL den l->den (JJ l)
 | [],_=>(0:Nat)
 | [_],h=>h.1
 |_::u::r,h=>(h.1,rD (u::r) h.2)
def encL:(l:List CT)->HL den l->List TV
 | [],_=>[]
 |t::r,h=>enc t h.1++encL r h.2
theorem Gq:∀(l:List CT)(h:HL den l),enc (JJ l) (rD l h)=encL l h
 | [],_=>rfl
 | [_],h=>(List.append_nil _).symm
 |_::u::r,h=>by
  show enc _ h.1++enc (JJ (u::r)) (rD (u::r) h.2)=_;rw[Gq (u::r) h.2];rfl
def FD:(c:CT)->den c->Prop
 |.int k,n=>(Lit.int k n).wf=true
 |.str,s=>ByteArray.size s<=maxLen
 |.row _ t,xs=>List.length xs<=maxLen/\∀x∈xs,FD t x
 |.pair a b,x=>FD a x.1/\FD b x.2
 |_,_=>True
def GoodL:(l:List CT)->HL den l->Prop
 | [],_=>True
 |t::r,h=>FD t h.1/\GoodL r h.2
theorem DM:∀(l:List CT)(h:HL den l),GoodL l h->FD (JJ l) (rD l h)
 | [],_,_=>trivial
 | [_],_,g=>g.1
 |_::u::r,h,g=>⟨g.1,DM (u::r) h.2 g.2⟩
def appL:(l m:List CT)->HL den l->HL den m->HL den (l++m)
 | [],_,_,k=>k
 |_::r,m,h,k=>(h.1,appL r m h.2 k)
theorem Gr:∀(l m:List CT)(h:HL den l)(k:HL den m),encL (l++m) (appL l m h k)=encL l h++encL m k
 | [],_,_,_=>rfl
 |t::r,m,h,k=>by
  show enc t h.1++encL (r++m) (appL r m h.2 k)=(enc t h.1++encL r h.2)++_;rw[Gr r m h.2 k,List.append_assoc]
theorem Gg:∀(l m:List CT)(h:HL den l)(k:HL den m),GoodL l h->GoodL m k->GoodL (l++m) (appL l m h k)
 | [],_,_,_,_,g=>g
 |_::r,m,h,k,g,g'=>⟨g.1,Gg r m h.2 k g.2 g'⟩
def RelL(w:World):List TV->List Value->Prop
 | [],[]=>True
 |t::ts,v::vs=>ms w (λ_=>True) t v/\RelL w ts vs
 |_,_=>False
theorem RelL.app{w:World}:∀{a:List TV}{x:List Value}{b:List TV}{y:List Value},RelL w a x->RelL w b y->RelL w (a++b) (x++y)
 | [],[],_,_,_,h=>h
 |_::a,_::x,_,_,g,h=>⟨g.1,RelL.app (a:=a) (x:=x) g.2 h⟩
 | [],_::_,_,_,g,_=>g.elim
 |_::_,[],_,_,g,_=>g.elim
theorem RelL.len{w:World}:∀{a:List TV}{x:List Value},RelL w a x->a.length=x.length
 | [],[],_=>rfl
 |_::a,_::x,g=>by rw[oLC,oLC,RelL.len (a:=a) (x:=x) g.2]
 | [],_::_,g=>g.elim
 |_::_,[],g=>g.elim
theorem RelL.get{w:World}:∀{a:List TV}{x:List Value},RelL w a x->∀j (h:j<a.length)(h':j<x.length),ms w (λ_=>True) a[j] x[j]
 |_::_,_::_,g,0,_,_=>g.1
 |_::a,_::x,g,j+1,h,h'=>RelL.get (a:=a) (x:=x) g.2 j (by simpa using h) (by simpa using h')
 | [],_,_,_,h,_=>by simp at h
 |_::_,[],g,_,_,_=>g.elim
def OX(P:Program)(g:TypeId->Option (List CT)):Nat->List Field->Option (List CT)
 |_,[]=>some []
 |off,f::fs=>match g f.type with
  |some l=>if f.offset=off/\l.length=P.cellsOf f.type then(OX P g (off+l.length) fs).map (l++·)else none
  |none=>none
def xf(P:Program):Nat->TypeId->Option (List CT)
 |0,_=>none
 |n+1,t=>match P.underlying t with
  |some .bool=>some [.bool]
  |some (.int k)=>some [.int k]
  |some .string=>some [.str]
  |some (.slice e)=>match xf P n e with
   |some l=>if l.length=P.cellsOf e then some [.row false (JJ l)]else none
   |none=>none
  |some (.struct fs)=>match OX P (xf P n) 0 fs.toList with
   |some l=>if l.length=P.cellsOf t then some l else none
   |none=>none
  |_=>none
section
variable {H:Type} {ec:TypeId×Value->H} {P:Program} {w:World} {base:Nat} {spare:Nat->Bool} {held:Bool}
theorem J6{g:TypeId->Option (List CT)}{m:Nat}{cs:List Value}
 (ih:∀t L,g t=some L->∀cs x,DataW.trod ec P w base spare held m t cs=some x->∃h:HL den L,GoodL L h/\RelL w (encL L h) cs):
 ∀(fs:List Field)(off:Nat)(L:List CT),OX P g off fs=some L->(∀f∈fs,∃x,DataW.trod ec P w base spare held m f.type ((cs.drop f.offset).take (P.cellsOf f.type))=some x)->
  ∃h:HL den L,GoodL L h/\RelL w (encL L h) ((cs.drop off).take L.length):=by
 intro fs
 induction fs with
 |nil=>
  intro off L hL _
  injection hL with hL
  subst hL;exact⟨(),trivial,trivial⟩
 |cons f fs Rt=>
  intro off L hL hx;unfold OX at hL;split at hL
  ·rename_i l hg;split at hL
   ·rename_i ho;obtain⟨rfl,hlen⟩:=ho
    cases hr:OX P g (f.offset+l.length) fs with
    |none=>simp_all
    |some L2=>
     rw[hr]at hL
     injection hL with hL
     subst hL;obtain⟨x,h1⟩:=hx f List.mem_cons_self;obtain⟨h,g1,r1⟩:=ih _ _ hg _ _ h1;have ⟨k,g2,r2⟩:=Rt _ _ hr λf' RQ=>hx f' (List.mem_cons_of_mem _ RQ);refine⟨appL l L2 h k,Gg _ _ _ _ g1 g2,?_⟩;rw[Gr,List.length_append,List.take_add,List.drop_drop];rw[hlen];rw[hlen]at r2;exact r1.app r2
   ·cases hL
  ·cases hL
theorem Pe:∀(n:Nat)(t:TypeId)(L:List CT),xf P n t=some L->∀(Vn:Nat)(cs:List Value)(x:DataW H×List MemPlace),DataW.trod ec P w base spare held Vn t cs=some x ->
 ∃h:HL den L,GoodL L h/\RelL w (encL L h) cs:=by
 intro n
 induction n with
 |zero=>intro t L h;cases h
 |succ n ih=>
  intro t L hL Vn cs x hx;unfold xf at hL;split at hL
  ·rename_i ht
   injection hL with hL
   subst hL;obtain⟨b,rfl,_⟩:=DataW.trod_bool ht hx;exact⟨(b,()),⟨trivial,trivial⟩,.v rfl,trivial⟩
  ·rename_i k ht
   injection hL with hL
   subst hL;obtain⟨z,rfl,_,hw⟩:=DataW.trod_int ht hx;exact⟨(z,()),⟨hw,trivial⟩,.v rfl,trivial⟩
  ·rename_i ht
   injection hL with hL
   subst hL;obtain⟨s,rfl,_,hs⟩:=DataW.trod_string ht hx;exact⟨(s,()),⟨hs,trivial⟩,.v rfl,trivial⟩
  ·rename_i e ht;split at hL
   ·rename_i l hl;split at hL
    ·rename_i hsz
     injection hL with hL
     subst hL
     rcases DataW.trod_slice ht hx with⟨rfl,_⟩|⟨a,len,cap,elems,rest,m,_,rfl,_,_,Yh,hmax,Y2,Z5,_,_⟩
     ·exact⟨([],()),⟨⟨Nat.zero_le _,λx hx=>by cases hx⟩,trivial⟩,.sl (c:=[]) 1 (λ_ _=>undef) (λi h=>by simp at h) (Nat.le_refl _) (Nat.zero_le _) (λ_=>rfl) (λi j h=>by simp at h) (λi j h=>by simp at h),trivial⟩
     ·have each:∀i:Fin len,∃p:HL den l×List Value,GoodL l p.1/\RelL w (encL l p.1) p.2/\w.cells? base (a.add (i.1*P.cellsOf e)) (P.cellsOf e)=some p.2:=by
       intro i;have h1:=Z5 i.1 i.2;rw[oGE (by omega)]at h1;obtain⟨Z3,h2,h3⟩:=Option.bind_eq_some_iff.1 h1;obtain⟨h,g,r⟩:=ih _ _ hl _ _ _ h3;exact⟨(h,Z3),g,r,h2⟩
      obtain⟨f,hf⟩:=Classical.axiomOfChoice each
      have clen:∀i,(encL l (f i).1).length=l.length:=λi=>by
       rw[(hf i).2.1.len,(World.cells?_some (hf i).2.2).2.1,hsz]
      have key:ms w (λ_=>True) (.sl ((List.ofFn λi:Fin len=>rD l (f i).1).map (enc (JJ l)))) (.slice (some a) ((List.ofFn λi:Fin len=>rD l (f i).1).map (enc (JJ l))).length cap):=by
       have el:((List.ofFn λi:Fin len=>rD l (f i).1).map (enc (JJ l))).length=len:=by simp
       have eg:∀i (hi:i<((List.ofFn λi:Fin len=>rD l (f i).1).map (enc (JJ l))).length),((List.ofFn λi:Fin len=>rD l (f i).1).map (enc (JJ l)))[i]=encL l (f ⟨i,by omega⟩).1:=by
        intro i hi;simp[Gq]
       refine .sl l.length (λi j=>if h:i<len then(f ⟨i,h⟩).2.getD j undef else undef) (λi hi=>by rw[eg i hi,clen]) (by rw[el];exact Yh) hmax (λh=>by cases h) (λi j hi hj=>?_) (λi j hi hj=>?_)
       ·rw[el]at hi
        have cell:∀i' (Zz:i'<len) j',j'<l.length->w.cell? ((a.add (i'*l.length)).add j')=some ((f ⟨i',Zz⟩).2.getD j' undef):=by
         intro i' Zz j' ZU;have h1:=World.cells?_some (hf ⟨i',Zz⟩).2.2;have h2:=h1.2.2 j' (by omega);rw[hsz];rw[h2]
         have:j'<(f ⟨i',Zz⟩).2.length:=by rw[h1.2.1];omega
         simp[this]
        have h0:=World.cell?_spot (cell 0 (by omega) 0 (by omega));obtain⟨b,o,spot⟩:=a
        have Th:spot=none:=by simpa[Addr.add]using h0
        subst Th;refine⟨b,o,rfl,trivial,?_⟩;have h2:=cell i hi j hj;rw[Go.WideShapes.add_plain,Go.WideShapes.add_plain]at h2;rw[dif_pos hi,<- h2,Nat.add_assoc]
       ·rw[el]at hi;have hr:=(hf ⟨i,hi⟩).2.1
        have hj2:j<(encL l (f ⟨i,hi⟩).1).length:=by rw[eg i (by omega)]at hj;exact hj
        have TZ:j<(f ⟨i,hi⟩).2.length:=by rw[<- hr.len];exact hj2
        have h3:=hr.get j hj2 TZ
        simp_all
      rw[List.length_map,List.length_ofFn]at key;refine⟨(List.ofFn λi:Fin len=>rD l (f i).1,()),⟨⟨by rw[List.length_ofFn];omega,λx hx=>?_⟩,trivial⟩,key,trivial⟩;obtain⟨i,rfl⟩:=List.mem_ofFn.1 hx;exact DM _ _ (hf i).1
    ·cases hL
   ·cases hL
  ·rename_i fs ht;split at hL
   ·rename_i l hl;split at hL
    ·rename_i hsz
     injection hL with hL
     subst hL;obtain⟨xs,m,_,_,hlen,Rn,hf⟩:=DataW.trod_struct ht hx
     obtain⟨h,g,r⟩:=J6 (cs:=cs) (m:=m) (λt L hL cs x hx=>ih t L hL m cs x hx) fs.toList 0 l hl (by
      intro f hfm;obtain⟨i,hi,rfl⟩:=List.mem_iff_getElem.1 hfm
      have YH:i<fs.size:=by simpa using hi
      have h1:=hf i fs[i] (by simp[YH]);rw[oGE (by omega)]at h1
      exact⟨_,by simpa using h1⟩)
     refine⟨h,g,?_⟩;rw[List.drop_zero,hsz,<- hlen,List.take_length]at r;exact r
    ·cases hL
   ·cases hL
  ·cases hL
theorem intake_arg(n:Nat){t:TypeId}{L:List CT}{v:Value}{d:DataW H}{p:List MemPlace}(hL:xf P n t=some L)(h:DataW.Trod ec P w base spare held t v d p):
 ∃h:HL den L,GoodL L h/\RelL w (encL L h) v.cells.toList:=by
 have ⟨Vn,hf⟩:=h;exact Pe n t L hL Vn _ _ hf
end
theorem plain_one{w:World}{t:TV}{v:Value}(r:RelL w [t] [v]):FA w t v:=r.1.plain
theorem g64{h:den I64}(g:FD I64 h):KT h:=bounds_i64 g
theorem Pg{h:den RI}(g:FD RI h):(∀z∈(show List Int from h),KT z)/\(show List Int from h).length<=maxLen:=⟨λz hz=>bounds_i64 (g.2 z hz),g.1⟩
theorem law_RecordGrows{h0:HL den [RI]}{h1:HL den [I64]}(g0:GoodL _ h0)(g1:GoodL _ h1):mW.g (appL _ _ h0 (appL _ _ h1 ()))=some (true,()):=
 grows20 (.start (Pg g0.1).1 (Pg g0.1).2) (g64 g1.1)
end Go.Proofs.YtoldehogdgdhmaaGreat
