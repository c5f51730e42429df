/- Part of the proof; no condition. -/
import Derived.Test.YtoldehogdgdhmaaGreatCe
import Derived.Deep.Slices
set_option linter.unusedVariables false
set_option linter.unusedSimpArgs false
namespace Go.Proofs.YtoldehogdgdhmaaGreat
open Go.RowKit
theorem Az{ss:List Int}{t v rg o sp:Int}{dat:List DCn}{w:Bool}(hs:At ss)(hv:Pr ss (t,v,rg,o))(hd:dat.length<=16/\∀c∈dat,Pr ss c)(ZC:-1<=sp/\sp<=3):f9 t v rg o dat sp w=some (true,()):=by
 refine ff ?_;unfold f9;rw[show ic t v rg o=some (true,())from Fh hs hv,m9 hs hd.2 (by omega) (by omega)];refine dK (oDT ZC.1) ?_;exact Ok.ret (by rw[oDT (show sp<4 by omega)])
theorem QV{n m key:Int}{code:List DIn}{ss bs:List Int}{dd:List (List Int)}{cs:List DCe}{ls:List DLn}{ts:List DTh}{i:Nat}{trap count pc call:Int}{args data:List DCn}{t v rg o sp:Int}{dat:List DCn}{w:Bool}(hp:nQ code ss dd)(h:MOk n ss bs cs ls ts)(hi:i<4)
 (hn:n<=1099511627776)(hm:m<=1099511627776)(hR:xr m ss (i:Int) 1 trap count pc call args data)(hv:Pr ss (t,v,rg,o))(hd:dat.length<=16/\∀c∈dat,Pr ss c)(ZC:-1<=sp/\sp<=3):
 Ok (pC code ss dd bs key cs ls ts (i:Int) 1 trap count pc call args data t v rg o dat sp w) λr=>∃Z3 Z0 Zr b,r=(bs,key,Z3,Z0,Zr,b,())/\MOk n ss bs Z3 Z0 Zr:=by
 have Xo:=h.tlen;obtain⟨YU,Yc⟩:=hR.hkind rfl;obtain⟨th,X7⟩:∃th,ts[i]?=some th:=⟨_,oGE (by omega)⟩;have hok:=h.thr th (dU X7)
 have YN:=by omega
 have hg:dM ts i=some th:=X7;unfold pC;delta dQ;rw[uT hp h hn,AA hp.sz hR hm,wY hR.hcall,Az hp.sz hv hd ZC,YU];simp only[oBS,oNT,oCF,bne_self_eq_false,dO,hg];by_cases h2:th.1=2
 ·simp only[bne_eq_false_iff_eq.2 h2,oCF,ui h,oBS,dO,hg];by_cases hc0:call=0
  ·subst hc0;obtain⟨a,ha⟩:∃a,args[0]?=some a:=⟨_,oGE (by rw[YU];decide)⟩;have hva:=(hR.hargs.2 a (dU ha)).val;simp only[BEq.rfl,oCT,show dM args 0=some a from ha,oBS];unfold nu lD;rw[ee (show 4<=1000/\0+th.2.1.length<=1000000 by have:=hok.len;omega)];simp only[oCT,oBS,fc X7];exact Ok.ret ⟨_,_,_,_,rfl,h.set h.mem ⟨⟨show(0:Int)<=4 by decide,show(4:Int)<=4 by decide⟩,by dsimp only;rw[ft];simpa using hok.len,ir eG hok.regs,hok.pc,hok.count,hok.handler,hok.saved,⟨show(0:Int)<=0 by decide,show(0:Int)<=6 by decide⟩,hva⟩⟩
  ·simp only[oBF hc0,oCF]
   cases w with
   |true=>
    simp only[oCT,fc X7];exact Ok.ret ⟨_,_,_,_,rfl,h.set h.mem ⟨⟨show(0:Int)<=3 by decide,show(3:Int)<=4 by decide⟩,hok.len,hok.regs,hok.pc,hok.count,hok.handler,hok.saved,hok.trap,hok.code⟩⟩
   |false=>
    refine(MP h hi hR hv hd ZC).bind ?_;rintro _ ⟨b,Z3,Z0,Zr,rfl,hb⟩;dsimp only
    cases b with
    |true=>exact Ok.ret ⟨_,_,_,_,rfl,hb rfl⟩
    |false=>exact Ok.ret ⟨_,_,_,_,rfl,h⟩
 ·simp only[bne_iff_ne.2 h2,oCT];exact Ok.ret ⟨_,_,_,_,rfl,h⟩
theorem L3{n key:Int}{code:List DIn}{ss bs:List Int}{dd:List (List Int)}{cs:List DCe}{ls:List DLn}{ts:List DTh}{i t v rg o sp:Int}{dat:List DCn}{w:Bool}(hp:nQ code ss dd)(h:MOk n ss bs cs ls ts)
 (hn:n<=1099511627776)(hv:Pr ss (t,v,rg,o))(hd:dat.length<=16/\∀c∈dat,Pr ss c)(ZC:-1<=sp/\sp<=3):
 Ok (lV code ss dd bs key cs ls ts i t v rg o dat sp w) λr=>∃Z3 Z0 Zr b,r=(bs,key,Z3,Z0,Zr,b,())/\MOk n ss bs Z3 Z0 Zr:=by
 have Xo:=h.tlen;obtain⟨VL,Yq⟩:=Hn (key:=key) h.lay hv;unfold lV;rw[uT hp h hn,Az hp.sz hv hd ZC];simp only[oBS,oNT,oCF];by_cases h1:i<0
 ·simp only[oDT h1,oCT];exact Ok.ret ⟨_,_,_,_,rfl,h⟩
 by_cases h2:i>=4
 ·simp only[oDF h1,oDT h2,oCT,oCF,oBS];exact Ok.ret ⟨_,_,_,_,rfl,h⟩
 obtain⟨i,rfl⟩:∃k:Nat,i=k:=⟨i.toNat,by omega⟩;obtain⟨th,X7⟩:∃th,ts[i]?=some th:=⟨_,oGE (by omega)⟩;have hok:=h.thr th (dU X7);have YN:=(oGS X7).1;have hg:dM ts i=some th:=X7;obtain⟨c,hc0⟩:∃c,th.2.1[0]?=some c:=⟨_,oGE (by have:=hok.len;omega)⟩;simp only[oDF h1,oDF h2,oCF,dO,oBS,hg];by_cases h3:th.1=3
 ·simp only[bne_eq_false_iff_eq.2 h3,oCF,VL,oBS,bne_self_eq_false,ui h,dO,hg,show dM th.2.1 0=some c from hc0,fc X7,fc hc0,i3 YN,oN YN];exact Ok.ret ⟨_,_,_,_,rfl,h.set h.mem ⟨⟨show(0:Int)<=1 by decide,show(1:Int)<=4 by decide⟩,by dsimp only;rw[List.length_set];exact hok.len,mn hok.regs Yq,hok.pc,hok.count,hok.handler,hok.saved,hok.trap,hok.code⟩⟩
 ·simp only[bne_iff_ne.2 h3,oCT];exact Ok.ret ⟨_,_,_,_,rfl,h⟩
theorem Jf{n key:Int}{ss bs:List Int}{cs:List DCe}{ls:List DLn}{ts:List DTh}(h:MOk n ss bs cs ls ts)(i:Int):Ok (ky bs key cs ls ts i) λr=>∃Zr b,r=(bs,key,cs,ls,Zr,b,())/\MOk n ss bs cs ls Zr/\∀(j:Nat) t',Zr[j]?=some t'->∃t,ts[j]?=some t/\t'.1=t.1:=by
 unfold ky;rw[ui h];simp only[oBS];refine(Of h i).bind ?_;rintro⟨b,_⟩ hb;dsimp only at hb⊢
 (with_reducible refine dI (λZ9=>?_) λZ9=>?_)
 ·exact Ok.ret ⟨ts,false,rfl,h,λj t' e=>⟨t',e,rfl⟩⟩
 ·have hb:=hb Z9;have Xo:=h.tlen;obtain⟨hb1,hb2,U6⟩:=hb;refine Ok.nat hb1 λj hj=>?_;subst hj;refine Ok.get (by omega) λt ht=>?_;refine Ok.get (by omega) λt1 XX=>?_;refine Ok.get (by omega) λt2 Y5=>?_;refine Ok.get (by omega) λt3 ht3=>?_;rw[ht]at XX Y5 ht3
  injection XX with XX
  injection Y5 with Y5
  subst XX Y5;refine Ok.get (by rw[oLM];omega) λt4 ht4=>?_;have hne:=U6 t (by rw[oTN];exact ht);have hok:=h.thr t (dU ht);rw[jm];refine Ok.ret ⟨_,_,rfl,h.thread ht ⟨hok.state,hok.len,hok.regs,⟨by have:=hok.handler;dsimp only;omega,hok.handler.2⟩,hok.count,hok.handler,⟨by have:=hok.pc;dsimp only;omega,hok.pc.2⟩,hok.trap,hok.code⟩,λu t' e=>?_⟩;rw[List.getElem?_modify]at e
  cases hu:ts[u]? with
  |none=>rw[hu]at e;split at e<;>cases e
  |some t0=>
   rw[hu]at e;refine⟨t0,rfl,?_⟩;split at e<;>(injection e with e;rw[<- e])
structure jV (n:Int)(q:Nat)(code:List DIn)(ss:List Int)(dt:List (List Int))(bs:List Int)(cs:List DCe)(ls:List DLn)(ts:List DTh)(ck rn:List Int)(ins:List (List Int))(d:List (List DCn))(os:List DOp)(us:List DOu)(ow:List Int)(qs:List (List Int))(rec:List DEn)(js:List Int):Prop where
 prog:nQ code ss dt
 mach:MOk n ss bs cs ls ts
 outs:zt ss ck rn ins d os us
 lock:i8 ow qs
 rlen:rec.length<=q
 jlen:js.length=4
 rent:∀e∈rec,uR e
 jne:P5 js
def Rv(n key:Int)(q:Nat)(code:List DIn)(ss:List Int)(dt:List (List Int))(bs:List Int)(r:(List DIn)×(List (Int))×(List (List (Int)))×(List (Int))×Int×(List DCe)×(List DLn)×(List DTh)×(List (Int))×(List (Int))×(List (List (Int)))×(List (List DCn))×(List DOp)×(List DOu)×(List (Int))×(List (List (Int)))×(List DEn)×(List (Int))×Unit):Prop:=
 ∃cs ls ts ck rn ins d os us ow qs rec js,r=(code,ss,dt,bs,key,cs,ls,ts,ck,rn,ins,d,os,us,ow,qs,rec,js,())/\jV n q code ss dt bs cs ls ts ck rn ins d os us ow qs rec js
theorem JE{n:Int}{q:Nat}{code:List DIn}{ss:List Int}{dt:List (List Int)}{bs:List Int}{key:Int}{cs:List DCe}{ls:List DLn}{ts:List DTh}{ck rn:List Int}{ins:List (List Int)}{d:List (List DCn)}{os:List DOp}{us:List DOu}{ow:List Int}{qs:List (List Int)}{rec:List DEn}{js:List Int}{i v:Int}(h:jV n q code ss dt bs cs ls ts ck rn ins d os us ow qs rec js)(hn:n<=1099511627776)(hq:q<=900)(hv:W16 v)(hi:0<=i/\i<=3):
 Ok (nS i v code ss dt bs key cs ls ts ck rn ins d os us ow qs rec js) (Rv n key (q+1) code ss dt bs):=by
 unfold nS;rw[dY (x:=v) (by have:=hv.1;omega) (by have:=hv.2;omega)];obtain⟨v2,ev,XY⟩:=gI v true;simp only[ev,oBS];refine(L3 h.prog h.mach hn (j5 XY) ⟨by decide,eG⟩ (by decide)).bind ?_;rintro _ ⟨Z3,Z0,Zr,b,rfl,hM⟩;dsimp only;have hr:=h.rlen;refine dK (ee (by simp;omega)) ?_;exact Ok.ret ⟨_,_,_,_,_,_,_,_,_,_,_,_,_,rfl,h.prog,hM,h.outs,h.lock,by rw[ft];simp;omega,h.jlen,sG h.rent (.wake hi ((j5 XY).cell h.prog.sz)),h.jne⟩
theorem GU{n:Int}{q:Nat}{code:List DIn}{ss:List Int}{dt:List (List Int)}{bs:List Int}{key:Int}{cs:List DCe}{ls:List DLn}{ts:List DTh}{ck rn:List Int}{ins:List (List Int)}{d:List (List DCn)}{os:List DOp}{us:List DOu}{ow:List Int}{qs:List (List Int)}{rec:List DEn}{js:List Int}{i v:Int}(h:jV n q code ss dt bs cs ls ts ck rn ins d os us ow qs rec js)(hn:n<=1099511627776)(hq:q<=900)(hv:W16 v)(hi:0<=i/\i<=3):
 Ok (jy i v code ss dt bs key cs ls ts ck rn ins d os us ow qs rec) λr=>∃Z3 Z0 Zr TN,r=(code,ss,dt,bs,key,Z3,Z0,Zr,ck,rn,ins,d,os,us,ow,qs,TN,())/\jV n (q+1) code ss dt bs Z3 Z0 Zr ck rn ins d os us ow qs TN js:=by
 unfold jy;rw[dY (x:=v) (by have:=hv.1;omega) (by have:=hv.2;omega)];obtain⟨v2,ev,XY⟩:=gI v true;simp only[ev,oBS];refine(L3 h.prog h.mach hn (j5 XY) ⟨by decide,eG⟩ (by decide)).bind ?_;rintro _ ⟨Z3,Z0,Zr,b,rfl,hM⟩;dsimp only;have hr:=h.rlen;refine dK (ee (by simp;omega)) ?_;exact Ok.ret ⟨_,_,_,_,rfl,h.prog,hM,h.outs,h.lock,by rw[ft];simp;omega,h.jlen,sG h.rent (.wake hi ((j5 XY).cell h.prog.sz)),h.jne⟩
def Ry(n key:Int)(q:Nat)(code:List DIn)(ss:List Int)(dt:List (List Int))(bs:List Int)(cs:List DCe)(ls:List DLn)(ts:List DTh)(rec:List DEn)(r:Int×Int×Int×Int×(List DCn)×Int×Bool×(List DIn)×(List (Int))×(List (List (Int)))×(List (Int))×Int×(List DCe)×(List DLn)×(List DTh)×(List (Int))×(List (Int))×(List (List (Int)))×(List (List DCn))×(List DOp)×(List DOu)×(List (Int))×(List (List (Int)))×(List DEn)×(List (Int))×Unit):Prop:=
 ∃t v rg o dat sp w ck rn ins d os us ow qs js,r=(t,v,rg,o,dat,sp,w,code,ss,dt,bs,key,cs,ls,ts,ck,rn,ins,d,os,us,ow,qs,rec,js,())/\jV n q code ss dt bs cs ls ts ck rn ins d os us ow qs rec js/\Pr ss (t,v,rg,o)/\(dat.length<=16/\∀c∈dat,Pr ss c)/\-1<=sp/\sp<=3
set_option maxHeartbeats 4000000 in
theorem IE{n m:Int}{q:Nat}{code:List DIn}{ss:List Int}{dt:List (List Int)}{bs:List Int}{key:Int}{cs:List DCe}{ls:List DLn}{ts:List DTh}{ck rn:List Int}{ins:List (List Int)}{d:List (List DCn)}{os:List DOp}{us:List DOu}{ow:List Int}{qs:List (List Int)}{rec:List DEn}{js:List Int}{i:Nat}{trap count pc call:Int}{args data:List DCn}(h:jV n q code ss dt bs cs ls ts ck rn ins d os us ow qs rec js)(hi:i<4)(hm:m<=1099511627776)(hR:xr m ss (i:Int) 1 trap count pc call args data):
 Ok (kn (i:Int) 1 trap count pc call args data code ss dt bs key cs ls ts ck rn ins d os us ow qs rec js) (Ry n key q code ss dt bs cs ls ts rec):=by
 obtain⟨YU,_⟩:=hR.hkind rfl;have Xo:=h.mach.tlen;obtain⟨v0,TW,Yl⟩:=gI 0 true;obtain⟨v1,ev1,WM⟩:=gI 0 false;have Zz:([]:List DCn).length<=16/\∀c∈([]:List DCn),Pr ss c:=⟨by decide,eG⟩
 have ZX:∀{v:Int}{w:Bool}{Zc:List Int}{qs':List (List Int)}{TE:List Int},W16 v->i8 Zc qs'->TE.length=4->P5 TE->Ok (some ((0:Int),v,(0:Int),(0:Int),([]:List DCn),(-1:Int),w,code,ss,dt,bs,key,cs,ls,ts,ck,rn,ins,d,os,us,Zc,qs',rec,TE,())) (Ry n key q code ss dt bs cs ls ts rec):=
  λhv hl hj M'=>Ok.ret ⟨_,_,_,_,_,_,_,_,_,_,_,_,_,_,_,_,rfl,⟨h.prog,h.mach,h.outs,hl,h.rlen,hj,h.rent,M'⟩,j5 hv,Zz,by decide,by decide⟩
 have hdo:PT call=true->Ok ((oI ck rn ins d os us (i:Int) 1 trap count pc call args data).bind λ(x35,x36,x37,x38,x39,x40,x41,x42,x43,x44,x45,x46,x47,x48,_)=>some (x41,x42,x43,x44,x45,x46,x47,code,ss,dt,bs,key,cs,ls,ts,x35,x36,x37,x38,x39,x40,ow,qs,rec,js,())) (Ry n key q code ss dt bs cs ls ts rec):=by
  intro ha;refine(PD h.prog.sz h.outs hR ha hm).bind ?_;rintro _ ⟨ck',rn',Ym,d',Zb,Uh,t,v,rg,o,dat,rfl,hO,hv,YL,hd2⟩;exact Ok.ret ⟨_,_,_,_,_,_,_,_,_,_,_,_,_,_,_,_,rfl,⟨h.prog,h.mach,hO,h.lock,h.rlen,h.jlen,h.rent,h.jne⟩,hv,⟨YL,hd2⟩,by decide,by decide⟩
 have Us:0<(kB call).length->∃a,dM args 0=some a/\W16 a.2.1/\wk .i64 a.2.1=a.2.1:=λhl=>by
  obtain⟨a,ha⟩:∃a,args[0]?=some a:=⟨_,oGE (by omega)⟩;have hva:=(hR.hargs.2 a (dU ha)).val;exact⟨a,ha,hva,dY (by have:=hva.1;omega) (by have:=hva.2;omega)⟩
 unfold kn;delta dQ
 try dsimp only
 rcases vH hR.hcall with rfl|rfl|rfl|rfl|rfl|rfl|rfl|rfl|rfl|rfl|rfl|rfl|rfl|rfl|rfl|rfl
 all_goals simp only[Int.reduceBEq,oCT,oCF,oBS,TW,ev1]
 all_goals first
  |exact hdo rfl
  |exact ZX Yl h.lock h.jlen h.jne
  |skip
 ·obtain⟨a,ga,ha,wa⟩:=Us (by decide);simp only[ga,oBS,wa];refine(OA h.lock (by omega)).bind ?_;rintro _ ⟨Zc,qs',how,rfl,hl⟩;dsimp only;obtain⟨v,ev,hv⟩:=gI 0 (how != 2);simp only[ev,oBS];exact ZX hv hl h.jlen h.jne
 ·obtain⟨a,ga,ha,wa⟩:=Us (by decide);simp only[ga,oBS,wa];refine(Gs h.lock).bind ?_;rintro _ ⟨Zc,qs',nx,b,rfl,hl,_⟩;dsimp only;obtain⟨v,ev,hv⟩:=gI 0 b;simp only[ev,oBS];exact ZX hv hl h.jlen h.jne
 ·obtain⟨y,e,hy⟩:=iv (f:=km) (n:=NN) (s:=(ts,(ts.length:Int),0,code,ss,dt,bs,key,cs,ls,ts,ck,rn,ins,d,os,us,ow,qs,rec,js,0,0,0,0,(),0,false,()))
   (P:=λs'=>∃k:Nat,s'=(ts,(ts.length:Int),(k:Int),code,ss,dt,bs,key,cs,ls,ts,ck,rn,ins,d,os,us,ow,qs,rec,js,0,0,0,0,(),0,false,())/\k<=4)
   (R:=λy=>(∃v k,y=.inl (code,ss,dt,bs,key,cs,ls,ts,ck,rn,ins,d,os,us,ow,qs,rec,js,0,v,0,0,(),k,false,())/\W16 v/\0<=k/\k<=3)\/(∃a b c f,y=.inr (a,b,c,f,code,ss,dt,bs,key,cs,ls,ts,ck,rn,ins,d,os,us,ow,qs,rec,js,0,0,0,0,(),0,false,())))
   (m:=λs'=>(s'.2.1-s'.2.2.1).toNat) ⟨0,rfl,by omega⟩ (by unfold NN;dsimp only;omega) (by
    rintro _ ⟨k,rfl,hk⟩;unfold km;dsimp only
    (with_reducible refine dI (λZ9=>?_) λZ9=>?_)
    ·obtain⟨t,ht⟩:∃t,ts[k]?=some t:=⟨_,oGE (by omega)⟩;simp only[dO,oBS,show dM ts k=some t from ht]
     (with_reducible refine dI (λZZ=>?_) λZZ=>?_)
     ·obtain⟨v,ev,hv⟩:=gI (k:Int) true;simp only[ev,oBS];exact Ok.ret (.inl ⟨_,_,rfl,hv,by omega,by omega⟩)
     ·rw[dR (x:=(k:Int)+1) (by omega) (by omega)];exact Ok.ret ⟨⟨k+1,rfl,by omega⟩,by dsimp only;omega⟩
    ·exact Ok.ret (.inr ⟨_,_,_,_,rfl⟩))
  simp only[e]
  rcases hy with⟨v,k,rfl,hv,k0,k3⟩|⟨a,b,c,f,rfl⟩
  ·exact Ok.ret ⟨_,_,_,_,_,_,_,_,_,_,_,_,_,_,_,_,rfl,⟨h.prog,h.mach,h.outs,h.lock,h.rlen,h.jlen,h.rent,h.jne⟩,j5 hv,Zz,by omega,by omega⟩
  ·simp only[ev1,oBS];exact ZX WM h.lock h.jlen h.jne
 ·obtain⟨a,ga,ha,wa⟩:=Us (by decide);simp only[ga,oBS,wa];obtain⟨j,hj⟩:∃j:Nat,a.2.1=j:=⟨a.2.1.toNat,by have:=ha.1;omega⟩;simp only[hj];by_cases h1:(j:Int)=i
  ·simp only[beq_iff_eq.2 h1,oCT,oBS,ev1];exact ZX WM h.lock h.jlen h.jne
  by_cases h2:(j:Int)>=4
  ·simp only[oBF h1,oDT h2,oCT,oCF,oBS,ev1];exact ZX WM h.lock h.jlen h.jne
  obtain⟨t,ht⟩:∃t,ts[j]?=some t:=⟨_,oGE (by omega)⟩;simp only[oBF h1,oDF h2,oCF,oBS,dO,show dM ts j=some t from ht]
  cases t.1==0 with
  |true=>
   simp only[oCT,ev1,oBS];exact ZX WM h.lock h.jlen h.jne
  |false=>
   simp only[oCF,dO,oBS,show dM ts j=some t from ht]
   cases t.1==4 with
   |true=>
    obtain⟨v,ev,hv⟩:=gI (wk .i64 t.2.2.2.2.2.2.2) true;simp only[oCT,ev,oBS];exact ZX hv h.lock h.jlen h.jne
   |false=>
    obtain⟨z,hz⟩:∃z,js[i]?=some z:=⟨_,oGE (by have:=h.jlen;omega)⟩;simp only[oCF,show dM js i=some z from hz,oBS,TW,fc hz];exact ZX Yl h.lock (by rw[List.length_set];exact h.jlen) (h.jne.set h1)
theorem zg{n m:Int}{q:Nat}{code:List DIn}{ss:List Int}{dt:List (List Int)}{bs:List Int}{key:Int}{cs:List DCe}{ls:List DLn}{ts:List DTh}{ck rn:List Int}{ins:List (List Int)}{d:List (List DCn)}{os:List DOp}{us:List DOu}{ow:List Int}{qs:List (List Int)}{rec:List DEn}{js:List Int}{i:Nat}{trap count pc call:Int}{args data:List DCn}(h:jV n q code ss dt bs cs ls ts ck rn ins d os us ow qs rec js)(hi:i<4)(hn:n<=1099511627776)(hm:m<=1099511627776)(hq:q<=800)(hR:xr m ss (i:Int) 1 trap count pc call args data):
 Ok (jz (i:Int) 1 trap count pc call args data code ss dt bs key cs ls ts ck rn ins d os us ow qs rec js) (Rv n key (q+2) code ss dt bs):=by
 obtain⟨YU,_⟩:=hR.hkind rfl;unfold jz;refine Ok.bind (P:=λr=>∃nx,r=(nx,code,ss,dt,bs,key,cs,ls,ts,ck,rn,ins,d,os,us,ow,qs,rec,js,(i:Int),1,trap,count,pc,call,args,data,())/\nx<=3) ?_ ?_
 ·by_cases h9:call=9
  ·subst h9;obtain⟨a,ha⟩:∃a,args[0]?=some a:=⟨_,oGE (by rw[YU];decide)⟩;simp only[BEq.rfl,oCT,show dM args 0=some a from ha,oBS];refine(Gs h.lock).bind ?_;rintro _ ⟨Zc,qs',nx,b,rfl,hl,XU⟩;exact Ok.ret ⟨nx,rfl,XU.2⟩
  ·simp only[oBF h9,oCF];exact Ok.ret ⟨_,rfl,by decide⟩
 rintro _ ⟨nx,rfl,XU⟩;dsimp only;refine(IE h hi hm hR).bind ?_;rintro _ ⟨t,v,rg,o,dat,sp,w,ck',rn',Ym,d',Zb,Uh,Zc,qs',TE,rfl,h2,hv,hd,hs1,Y9⟩;dsimp only;refine(QV h.prog h.mach hi hn hm hR hv hd ⟨hs1,Y9⟩).bind ?_;rintro _ ⟨Z3,Z0,Zr,b,rfl,hM⟩;dsimp only;have hr:=h.rlen;refine dK (ee (by simp;omega)) ?_;have h3:jV n (q+1) code ss dt bs Z3 Z0 Zr ck' rn' Ym d' Zb Uh Zc qs' (List.append rec [(2,(i:Int),0,(i:Int),1,trap,count,pc,call,args,data,t,v,rg,o,dat,sp,w)]) TE:=⟨h2.prog,hM,h2.outs,h2.lock,by rw[ft];simp;omega,h2.jlen,sG h2.rent (.result (hR.z h.prog.sz hm) (hv.cell h.prog.sz) ⟨λc hc=>(hd.2 c hc).cell h.prog.sz,hd.1⟩ ⟨hs1,Y9⟩),h2.jne⟩
 (with_reducible refine dI (λZ9=>?_) λZ9=>?_)
 ·refine(JE h3 hn (by omega) ⟨by decide,by decide⟩ ⟨by omega,XU⟩).bind ?_;rintro _ ⟨TU,Ue,ts3,ck3,rn3,ins3,d3,os3,us3,ow3,qs3,UY,js3,rfl,h4⟩;exact Ok.ret ⟨_,_,_,_,_,_,_,_,_,_,_,_,_,rfl,h4⟩
 ·have h4:=h3;exact Ok.ret ⟨_,_,_,_,_,_,_,_,_,_,_,_,_,rfl,h4.prog,h4.mach,h4.outs,h4.lock,by have:=h4.rlen;omega,h4.jlen,h4.rent,h4.jne⟩
theorem CX{n:Int}{q:Nat}{code:List DIn}{ss:List Int}{dt:List (List Int)}{bs:List Int}{key:Int}{cs:List DCe}{ls:List DLn}{ts:List DTh}{ck rn:List Int}{ins:List (List Int)}{d:List (List DCn)}{os:List DOp}{us:List DOu}{ow:List Int}{qs:List (List Int)}{rec:List DEn}{js:List Int}{i:Nat}(h:jV n q code ss dt bs cs ls ts ck rn ins d os us ow qs rec js)(hi:i<4)(hn:n<=1099511627776)(hq:q<=800):
 Ok (ko (i:Int) code ss dt bs key cs ls ts ck rn ins d os us ow qs rec js) (Rv n key (q+7) code ss dt bs):=by
 unfold ko;delta dQ
 try dsimp only
 refine(PC h.lock).bind ?_;rintro _ ⟨Zc,qs',nx,rfl,hl,hn4,XU⟩;dsimp only
 refine Ok.loop (P:=λs'=>∃k:Nat,∃cs ls ts rec,s'=((i:Int),(nx.length:Int),(k:Int),code,ss,dt,bs,key,cs,ls,ts,ck,rn,ins,d,os,us,Zc,qs',rec,js,nx,())/\k<=nx.length/\jV n (q+k) code ss dt bs cs ls ts ck rn ins d os us Zc qs' rec js)
  (R:=λr=>∃a b f cs ls ts rec,r=((i:Int),a,b,f,code,ss,dt,bs,key,cs,ls,ts,ck,rn,ins,d,os,us,Zc,qs',rec,js,nx,())/\jV n (q+4) code ss dt bs cs ls ts ck rn ins d os us Zc qs' rec js) (m:=λs'=>(s'.2.1-s'.2.2.1).toNat)
  ⟨0,cs,ls,ts,rec,rfl,by omega,h.prog,h.mach,h.outs,hl,by have:=h.rlen;omega,h.jlen,h.rent,h.jne⟩ (by unfold NN;dsimp only;omega) ?_ ?_
 ·rintro _ ⟨k,Vr,VT,ts2,WH,rfl,hk,h2⟩;unfold qf;dsimp only
  (with_reducible refine dI (λZ9=>?_) λZ9=>?_)
  ·obtain⟨x,hx⟩:∃x,nx[k]?=some x:=⟨_,oGE (by omega)⟩;simp only[dO,oBS,show dM nx k=some x from hx];refine(GU h2 hn (by omega) ⟨by decide,by decide⟩ (XU x (dU hx))).bind ?_;rintro _ ⟨TU,Ue,ts3,UY,rfl,h3⟩;dsimp only;rw[dR (x:=(k:Int)+1) (by omega) (by omega)];exact Ok.ret ⟨⟨k+1,_,_,_,_,rfl,by omega,h3⟩,by dsimp only;omega⟩
  ·exact Ok.ret ⟨_,_,_,_,_,_,_,rfl,h2.prog,h2.mach,h2.outs,h2.lock,by have:=h2.rlen;omega,h2.jlen,h2.rent,h2.jne⟩
 rintro _ ⟨a,b,f,Vr,VT,ts2,WH,rfl,h2⟩;dsimp only
 refine Ok.loop (P:=λs'=>∃k c:Nat,∃cs ls ts rec js,s'=((i:Int),4,(k:Int),code,ss,dt,bs,key,cs,ls,ts,ck,rn,ins,d,os,us,Zc,qs',rec,js,())/\(k<=4/\c<=k/\(i<k->c+1<=k))/\jV n (q+4+c) code ss dt bs cs ls ts ck rn ins d os us Zc qs' rec js)
  (R:=λr=>∃a b c f cs ls ts rec js,r=(a,b,c,f,code,ss,dt,bs,key,cs,ls,ts,ck,rn,ins,d,os,us,Zc,qs',rec,js,())/\jV n (q+7) code ss dt bs cs ls ts ck rn ins d os us Zc qs' rec js) (m:=λs'=>(s'.2.1-s'.2.2.1).toNat)
  ⟨0,0,Vr,VT,ts2,WH,js,by rw[h.jlen];rfl,by omega,h2⟩ (by unfold NN;dsimp only;have:=h.jlen;omega) ?_ ?_
 ·rintro _ ⟨k,c,Vr,VT,ts2,WH,TF,rfl,hk,h2⟩;unfold qe;dsimp only
  (with_reducible refine dI (λZ9=>?_) λZ9=>?_)
  ·obtain⟨x,hx⟩:∃x,TF[k]?=some x:=⟨_,oGE (by have:=h2.jlen;omega)⟩;obtain⟨t,ht⟩:∃t,ts2[i]?=some t:=⟨_,oGE (by have:=h2.mach.tlen;omega)⟩;have htc:=(h2.mach.thr t (dU ht)).code;simp only[dO,oBS,show dM TF k=some x from hx,show dM ts2 i=some t from ht];refine Ok.bind (P:=λr=>∃cs ls ts rec js,r=((i:Int),4,(k:Int),code,ss,dt,bs,key,cs,ls,ts,ck,rn,ins,d,os,us,Zc,qs',rec,js,())/\∃c':Nat,(c'<=k+1/\(i<k+1->c'<=k))/\jV n (q+4+c') code ss dt bs cs ls ts ck rn ins d os us Zc qs' rec js) ?_ ?_
   ·(with_reducible refine dI (λZZ=>?_) λZZ=>?_)
    ·have hki:x≠(k:Int):=h2.jne k x hx;refine(GU h2 hn (by omega) htc (by omega)).bind ?_;rintro _ ⟨TU,Ue,ts3,UY,rfl,h3⟩;simp only[dO,oBS,show dM TF k=some x from hx,fc hx];exact Ok.ret ⟨_,_,_,_,_,rfl,c+1,by omega,h3.prog,h3.mach,h3.outs,h3.lock,by have:=h3.rlen;omega,by rw[List.length_set];exact h3.jlen,h3.rent,h3.jne.set (by omega)⟩
    ·exact Ok.ret ⟨_,_,_,_,_,rfl,c,by omega,h2.prog,h2.mach,h2.outs,h2.lock,by have:=h2.rlen;omega,h2.jlen,h2.rent,h2.jne⟩
   ·rintro _ ⟨TU,Ue,ts3,UY,js3,rfl,c',X0,h3⟩;dsimp only;rw[dR (x:=(k:Int)+1) (by omega) (by omega)];exact Ok.ret ⟨⟨k+1,c',_,_,_,_,_,rfl,by omega,h3⟩,by dsimp only;omega⟩
  ·exact Ok.ret ⟨_,_,_,_,_,_,_,_,_,rfl,h2.prog,h2.mach,h2.outs,h2.lock,by have:=h2.rlen;omega,h2.jlen,h2.rent,h2.jne⟩
 ·rintro _ ⟨a,b,c,f,Vr,VT,ts2,WH,TF,rfl,h2⟩;exact Ok.ret ⟨_,_,_,_,_,_,_,_,_,_,_,_,_,rfl,h2⟩
def Rz(n key:Int)(q:Nat)(code:List DIn)(ss:List Int)(dt:List (List Int))(bs:List Int)(r:(List DIn)×(List (Int))×(List (List (Int)))×(List (Int))×Int×(List DCe)×(List DLn)×(List DTh)×(List (Int))×(List (Int))×(List (List (Int)))×(List (List DCn))×(List DOp)×(List DOu)×(List (Int))×(List (List (Int)))×(List DEn)×(List (Int))×Int×Unit):Prop:=
 (∃e,r=([],[],[],[],0,[],[],[],[],[],[],[],[],[],[],[],[],[],e,())/\e≠0)\/(∃cs ls ts ck rn ins d os us ow qs rec js,r=(code,ss,dt,bs,key,cs,ls,ts,ck,rn,ins,d,os,us,ow,qs,rec,js,0,())/\jV n q code ss dt bs cs ls ts ck rn ins d os us ow qs rec js)
theorem GC{code:List DIn}{ss:List Int}{dt:List (List Int)}{bs:List Int}{key:Int}{cs:List DCe}{ls:List DLn}{ts:List DTh}{ck rn:List Int}{ins:List (List Int)}{d:List (List DCn)}{os:List DOp}{us:List DOu}{ow:List Int}{qs:List (List Int)}{rec:List DEn}{js:List Int}(h1:rec.length<=1000)(h2:js.length<=1000):lB code ss dt bs key cs ls ts ck rn ins d os us ow qs rec js=some (code,ss,dt,bs,key,cs,ls,ts,ck,rn,ins,d,os,us,ow,qs,rec,js,()):=by
 unfold lB;rw[ee (show 8<=1000/\0+js.length<=1000000 by omega),ee (show 184<=1000/\0+rec.length<=1000000 by omega)];rfl
theorem ne3{stop trap:Int}{t:DTh}(h:RE stop trap t)(hr:stop=3->t.1=1):stop≠3:=by
 intro e
 rcases h with⟨h,_⟩|⟨h,_⟩|⟨h,_⟩|⟨_,h⟩
 ·omega
 ·omega
 ·omega
 ·exact h (hr e)
set_option maxHeartbeats 4000000 in
theorem KU{n:Int}{q:Nat}{code:List DIn}{ss:List Int}{dt:List (List Int)}{bs:List Int}{key:Int}{cs:List DCe}{ls:List DLn}{ts:List DTh}{ck rn:List Int}{ins:List (List Int)}{d:List (List DCn)}{os:List DOp}{us:List DOu}{ow:List Int}{qs:List (List Int)}{rec:List DEn}{js:List Int}{c1 c2:Int}{c3:Bool}(h:jV n q code ss dt bs cs ls ts ck rn ins d os us ow qs rec js)(Yj:0<=n)(hn:n+64<=1099511627776)(hq:q<=700)(ZQ:PZ c1)(ZK:PZ c2):
 Ok (nT code ss dt bs key cs ls ts ck rn ins d os us ow qs rec js c1 c2 c3) (Rz (n+64) key (q+11) code ss dt bs):=by
 have Xo:=h.mach.tlen;have hr:=h.rlen;unfold nT;delta dQ;rw[MM (by omega)];simp only[oBS];have V5:=AO ts 0
 (with_reducible refine dI (λZ9=>?_) λZ9=>?_)
 ·exact Ok.ret (.inl ⟨15,rfl,by decide⟩)
 (with_reducible refine dI (λZZ=>?_) λZZ=>?_)
 ·exact Ok.ret (.inl ⟨3,rfl,by decide⟩)
 refine Qs ZQ (by omega) (by omega) λv v0 v1=>?_;dsimp only;obtain⟨k,rfl⟩:∃k:Nat,v=k:=⟨v.toNat,by omega⟩;obtain⟨x,hx⟩:∃x,(iD ts 0)[k]?=some x:=⟨_,oGE (by omega)⟩;obtain⟨x0,x1,hxt⟩:=Iz (dU hx);obtain⟨i,rfl⟩:∃i:Nat,x=i:=⟨x.toNat,by omega⟩
 have hi:i<4:=by omega
 have Yr:∀t,ts[i]?=some t->t.1=1:=λt e=>by
  obtain⟨t0,e0,e1⟩:=hxt;rw[show((i:Int)-0).toNat=i by omega,e]at e0
  injection e0 with e0
  rw[e0];exact e1
 simp only[dO,oBS,show dM (iD ts 0) k=some (i:Int)from hx];refine Qs ZK (by decide) (by decide) λu u0 u1=>?_;dsimp only;rw[dR (x:=1+u) (by omega) (by omega),GC (by omega) (by have:=h.jlen;omega)]
 have hk:1<=1+u/\1+u<=64:=by omega
 generalize 1+u=kk at hk;simp only[oBS]
 cases c3 with
 |false=>
  simp only[oCF];have h2:jV n (q+1) code ss dt bs cs ls ts ck rn ins d os us ow qs rec js:=⟨h.prog,h.mach,h.outs,h.lock,by omega,h.jlen,h.rent,h.jne⟩;have Tv:=h2.mach.tlen;refine(xR h2.prog h2.mach Yj hn hi hk).bind ?_;rintro _ ⟨TU,Ue,t3,stop,trap,call,args,data,rfl,VH,Wz,XI,Wc,XF⟩;have hns:stop≠3:=ne3 Wc λe=>Yr _ (XF e);have Va:uR (1,(i:Int),kk,(i:Int),stop,trap,t3.2.2.2.1,t3.2.2.1,call,args,data,0,0,0,0,[],0,false):=.slice (XI.z h.prog.sz hn) hns hk;dsimp only;have XW:=h2.rlen;have U5:=(h2.mach.mono (show n<=n+64 by omega)).set VH (i:=i) Wz;refine dK (ee (by simp;omega)) ?_;refine Ok.bind (P:=λr=>∃cs ls ts ck rn ins d os us ow qs rec js,r=((i:Int),(),(),(),(),0,(),(),(),(),(),(),(),(),(),(),(),(),(),code,ss,dt,bs,key,cs,ls,ts,ck,rn,ins,d,os,us,ow,qs,rec,js,())/\jV (n+64) (q+4) code ss dt bs cs ls ts ck rn ins d os us ow qs rec js) ?_ ?_
  ·by_cases hs1:stop=1
   ·subst hs1;simp only[BEq.rfl,oCT];refine(zg (q:=q+2) ⟨h2.prog,U5,h2.outs,h2.lock,by rw[ft];simp;omega,h2.jlen,sG h2.rent Va,h2.jne⟩ hi (by omega) hn (by omega) XI).bind ?_;rintro _ ⟨Ss,TI,TP,Sq,TO,WG,d4,TK,TQ,TL,TM,WI,TG,rfl,h4⟩;exact Ok.ret ⟨_,_,_,_,_,_,_,_,_,_,_,_,_,rfl,h4⟩
   ·simp only[oBF hs1,oCF];exact Ok.ret ⟨_,_,_,_,_,_,_,_,_,_,_,_,_,rfl,h2.prog,U5,h2.outs,h2.lock,by rw[ft];simp;omega,h2.jlen,sG h2.rent Va,h2.jne⟩
  rintro _ ⟨cs,ls,ts,ck,rn,ins,d,os,us,ow,qs,rec,js,rfl,h5⟩;dsimp only;obtain⟨t5,Ts⟩:∃t5,ts[i]?=some t5:=⟨_,oGE (by have:=h5.mach.tlen;omega)⟩;simp only[dO,oBS,show dM ts i=some t5 from Ts];refine Ok.bind (P:=λr=>∃cs ls ts ck rn ins d os us ow qs rec js,r=((),(),(),(),0,(),(),(),(),(),(),(),(),(),(),(),(),(),code,ss,dt,bs,key,cs,ls,ts,ck,rn,ins,d,os,us,ow,qs,rec,js,())/\jV (n+64) (q+11) code ss dt bs cs ls ts ck rn ins d os us ow qs rec js) ?_ ?_
  ·(with_reducible refine dI (λWe=>?_) λWe=>?_)
   ·refine(CX h5 hi (by omega) (by omega)).bind ?_;rintro _ ⟨Ss,TI,TP,Sq,TO,WG,d4,TK,TQ,TL,TM,WI,TG,rfl,h4⟩;exact Ok.ret ⟨_,_,_,_,_,_,_,_,_,_,_,_,_,rfl,h4⟩
   ·exact Ok.ret ⟨_,_,_,_,_,_,_,_,_,_,_,_,_,rfl,h5.prog,h5.mach,h5.outs,h5.lock,by have:=h5.rlen;omega,h5.jlen,h5.rent,h5.jne⟩
  rintro _ ⟨cs,ls,ts,ck,rn,ins,d,os,us,ow,qs,rec,js,rfl,h6⟩;exact Ok.ret (.inr ⟨_,_,_,_,_,_,_,_,_,_,_,_,_,rfl,h6⟩)
 |true=>
  simp only[oCT];obtain⟨⟨b,_⟩,eC,_⟩:=Of (key:=key) h.mach (i:Int);simp only[eC,oBS]
  cases b with
  |false=>
   simp only[oCF];have h2:jV n (q+1) code ss dt bs cs ls ts ck rn ins d os us ow qs rec js:=⟨h.prog,h.mach,h.outs,h.lock,by omega,h.jlen,h.rent,h.jne⟩;have Tv:=h2.mach.tlen;refine(xR h2.prog h2.mach Yj hn hi hk).bind ?_;rintro _ ⟨TU,Ue,t3,stop,trap,call,args,data,rfl,VH,Wz,XI,Wc,XF⟩;have hns:stop≠3:=ne3 Wc λe=>Yr _ (XF e);have Va:uR (1,(i:Int),kk,(i:Int),stop,trap,t3.2.2.2.1,t3.2.2.1,call,args,data,0,0,0,0,[],0,false):=.slice (XI.z h.prog.sz hn) hns hk;dsimp only;have XW:=h2.rlen;have U5:=(h2.mach.mono (show n<=n+64 by omega)).set VH (i:=i) Wz;refine dK (ee (by simp;omega)) ?_;refine Ok.bind (P:=λr=>∃cs ls ts ck rn ins d os us ow qs rec js,r=((i:Int),(),(),(),(),0,(),(),(),(),(),(),(),(),(),(),(),(),(),code,ss,dt,bs,key,cs,ls,ts,ck,rn,ins,d,os,us,ow,qs,rec,js,())/\jV (n+64) (q+4) code ss dt bs cs ls ts ck rn ins d os us ow qs rec js) ?_ ?_
   ·by_cases hs1:stop=1
    ·subst hs1;simp only[BEq.rfl,oCT];refine(zg (q:=q+2) ⟨h2.prog,U5,h2.outs,h2.lock,by rw[ft];simp;omega,h2.jlen,sG h2.rent Va,h2.jne⟩ hi (by omega) hn (by omega) XI).bind ?_;rintro _ ⟨Ss,TI,TP,Sq,TO,WG,d4,TK,TQ,TL,TM,WI,TG,rfl,h4⟩;exact Ok.ret ⟨_,_,_,_,_,_,_,_,_,_,_,_,_,rfl,h4⟩
    ·simp only[oBF hs1,oCF];exact Ok.ret ⟨_,_,_,_,_,_,_,_,_,_,_,_,_,rfl,h2.prog,U5,h2.outs,h2.lock,by rw[ft];simp;omega,h2.jlen,sG h2.rent Va,h2.jne⟩
   rintro _ ⟨cs,ls,ts,ck,rn,ins,d,os,us,ow,qs,rec,js,rfl,h5⟩;dsimp only;obtain⟨t5,Ts⟩:∃t5,ts[i]?=some t5:=⟨_,oGE (by have:=h5.mach.tlen;omega)⟩;simp only[dO,oBS,show dM ts i=some t5 from Ts];refine Ok.bind (P:=λr=>∃cs ls ts ck rn ins d os us ow qs rec js,r=((),(),(),(),0,(),(),(),(),(),(),(),(),(),(),(),(),(),code,ss,dt,bs,key,cs,ls,ts,ck,rn,ins,d,os,us,ow,qs,rec,js,())/\jV (n+64) (q+11) code ss dt bs cs ls ts ck rn ins d os us ow qs rec js) ?_ ?_
   ·(with_reducible refine dI (λWe=>?_) λWe=>?_)
    ·refine(CX h5 hi (by omega) (by omega)).bind ?_;rintro _ ⟨Ss,TI,TP,Sq,TO,WG,d4,TK,TQ,TL,TM,WI,TG,rfl,h4⟩;exact Ok.ret ⟨_,_,_,_,_,_,_,_,_,_,_,_,_,rfl,h4⟩
    ·exact Ok.ret ⟨_,_,_,_,_,_,_,_,_,_,_,_,_,rfl,h5.prog,h5.mach,h5.outs,h5.lock,by have:=h5.rlen;omega,h5.jlen,h5.rent,h5.jne⟩
   rintro _ ⟨cs,ls,ts,ck,rn,ins,d,os,us,ow,qs,rec,js,rfl,h6⟩;exact Ok.ret (.inr ⟨_,_,_,_,_,_,_,_,_,_,_,_,_,rfl,h6⟩)
  |true=>
   obtain⟨_,eD,Zr,b',rfl,hD,hDs⟩:=Jf (key:=key) h.mach (i:Int)
   replace Yr:∀t,Zr[i]?=some t->t.1=1:=λt e=>by
    obtain⟨t0,e0,e1⟩:=hDs i t e;rw[e1];exact Yr t0 e0
   simp only[oCT,eD,oBS];rw[ee (show 184<=1000/\rec.length + _<=1000000 by simp;omega)];simp only[oCT];have h2:jV n (q+1) code ss dt bs cs ls Zr ck rn ins d os us ow qs (List.append rec [(3,(i:Int),0,0,0,0,0,0,0,[],[],0,0,0,0,[],0,false)]) js:=⟨h.prog,hD,h.outs,h.lock,by rw[ft];simp;omega,h.jlen,sG h.rent (.signal (by omega)),h.jne⟩;have Tv:=h2.mach.tlen;refine(xR h2.prog h2.mach Yj hn hi hk).bind ?_;rintro _ ⟨TU,Ue,t3,stop,trap,call,args,data,rfl,VH,Wz,XI,Wc,XF⟩;have hns:stop≠3:=ne3 Wc λe=>Yr _ (XF e);have Va:uR (1,(i:Int),kk,(i:Int),stop,trap,t3.2.2.2.1,t3.2.2.1,call,args,data,0,0,0,0,[],0,false):=.slice (XI.z h.prog.sz hn) hns hk;dsimp only;have XW:=h2.rlen;have U5:=(h2.mach.mono (show n<=n+64 by omega)).set VH (i:=i) Wz;refine dK (ee (by simp;omega)) ?_;refine Ok.bind (P:=λr=>∃cs ls ts ck rn ins d os us ow qs rec js,r=((i:Int),(),(),(),(),0,(),(),(),(),(),(),(),(),(),(),(),(),(),code,ss,dt,bs,key,cs,ls,ts,ck,rn,ins,d,os,us,ow,qs,rec,js,())/\jV (n+64) (q+4) code ss dt bs cs ls ts ck rn ins d os us ow qs rec js) ?_ ?_
   ·by_cases hs1:stop=1
    ·subst hs1;simp only[BEq.rfl,oCT];refine(zg (q:=q+2) ⟨h2.prog,U5,h2.outs,h2.lock,by rw[ft];simp;omega,h2.jlen,sG h2.rent Va,h2.jne⟩ hi (by omega) hn (by omega) XI).bind ?_;rintro _ ⟨Ss,TI,TP,Sq,TO,WG,d4,TK,TQ,TL,TM,WI,TG,rfl,h4⟩;exact Ok.ret ⟨_,_,_,_,_,_,_,_,_,_,_,_,_,rfl,h4⟩
    ·simp only[oBF hs1,oCF];exact Ok.ret ⟨_,_,_,_,_,_,_,_,_,_,_,_,_,rfl,h2.prog,U5,h2.outs,h2.lock,by rw[ft];simp;omega,h2.jlen,sG h2.rent Va,h2.jne⟩
   rintro _ ⟨cs,ls,ts,ck,rn,ins,d,os,us,ow,qs,rec,js,rfl,h5⟩;dsimp only;obtain⟨t5,Ts⟩:∃t5,ts[i]?=some t5:=⟨_,oGE (by have:=h5.mach.tlen;omega)⟩;simp only[dO,oBS,show dM ts i=some t5 from Ts];refine Ok.bind (P:=λr=>∃cs ls ts ck rn ins d os us ow qs rec js,r=((),(),(),(),0,(),(),(),(),(),(),(),(),(),(),(),(),(),code,ss,dt,bs,key,cs,ls,ts,ck,rn,ins,d,os,us,ow,qs,rec,js,())/\jV (n+64) (q+11) code ss dt bs cs ls ts ck rn ins d os us ow qs rec js) ?_ ?_
   ·(with_reducible refine dI (λWe=>?_) λWe=>?_)
    ·refine(CX h5 hi (by omega) (by omega)).bind ?_;rintro _ ⟨Ss,TI,TP,Sq,TO,WG,d4,TK,TQ,TL,TM,WI,TG,rfl,h4⟩;exact Ok.ret ⟨_,_,_,_,_,_,_,_,_,_,_,_,_,rfl,h4⟩
    ·exact Ok.ret ⟨_,_,_,_,_,_,_,_,_,_,_,_,_,rfl,h5.prog,h5.mach,h5.outs,h5.lock,by have:=h5.rlen;omega,h5.jlen,h5.rent,h5.jne⟩
   rintro _ ⟨cs,ls,ts,ck,rn,ins,d,os,us,ow,qs,rec,js,rfl,h6⟩;exact Ok.ret (.inr ⟨_,_,_,_,_,_,_,_,_,_,_,_,_,rfl,h6⟩)
theorem K8{l ss:List Int}{k:Int}(hs:At ss)(h:DOk l k):Ok (mN ss l k) λr=>∃bs key k',r=(bs,key,l,k',())/\LV bs ss/\W16 key/\DOk l k':=by
 unfold mN
 (with_reducible refine fv (by omega) (by omega) (by omega) (λv0 k0 a0 b0 d0=>?_);try dsimp only)
 refine(Pl hs a0 (by omega)).bind ?_;rintro _ ⟨key,rfl,hk⟩;exact Ok.ret ⟨_,_,_,rfl,QY hs a0,hk,d0⟩
theorem jn0:P5 [-1,-1,-1,-1]:=by
 intro u j hj;have:j∈[(-1:Int),-1,-1,-1]:=dU hj;simp at this;omega
theorem Qk{l:List Int}{k:Int}(h:DOk l k):Ok (rX l k) λr=>∃code ss dt bs key cs ls ts ck rn ins d os us ow qs rec js k',r=(code,ss,dt,bs,key,cs,ls,ts,ck,rn,ins,d,os,us,ow,qs,rec,js,l,k',())/\W16 key/\jV 1152 198 code ss dt bs cs ls ts ck rn ins d os us ow qs rec js/\DOk l k':=by
 unfold rX;refine(ID h).bind ?_;rintro _ ⟨code,ss,dt,k1,rfl,hp,h1⟩;dsimp only;refine(K8 hp.sz h1).bind ?_;rintro _ ⟨bs,key,k2,rfl,hL,Wn,h2⟩;dsimp only;refine(II hp.sz h2).bind ?_;rintro _ ⟨ck,rn,ins,d,os,k3,rfl,hO,h3⟩;dsimp only;refine(NL hp hL hO).bind ?_;rintro _ ⟨cs,ts,rfl,hM⟩;dsimp only
 (with_reducible refine fv (by assumption) (by omega) (by omega) (λv4 k4 a4 b4 d4=>?_);try dsimp only)
 rw[dR (x:=3+v4) (by omega) (by omega)]
 obtain⟨y,e,hy⟩:=iv (f:=pI) (n:=NN) (s:=(3+v4,l,k4,(),(),(),(),0,(),(),(),(),(),(),(),(),(),(),(),(),(),code,ss,dt,bs,key,cs,iA,ts,ck,rn,ins,d,os,[],[-1,-1,-1,-1],[[],[],[],[]],[],[-1,-1,-1,-1],()))
  (P:=λs'=>∃(c k':Int)(q:Nat),∃cs ls ts ck rn ins d os us ow qs rec js,s'=(c,l,k',(),(),(),(),0,(),(),(),(),(),(),(),(),(),(),(),(),(),code,ss,dt,bs,key,cs,ls,ts,ck,rn,ins,d,os,us,ow,qs,rec,js,())/\0<=c/\c+q<=18/\DOk l k'/\jV (64*q) (11*q) code ss dt bs cs ls ts ck rn ins d os us ow qs rec js)
  (R:=λy=>(∃(c k':Int)(f:Bool)(q:Nat),∃cs ls ts ck rn ins d os us ow qs rec js z1 z2 z3 z4 z5 z6 z7 z8 z9 z10 z11 z12 z13 z14 z15 z16 z17 z18,y=.inl (c,f,l,k',(),(),(),(),0,(),(),(),(),(),(),(),(),(),(),(),(),(),code,ss,dt,bs,key,cs,ls,ts,ck,rn,ins,d,os,us,ow,qs,rec,js,z1,z2,z3,z4,z5,z6,z7,z8,z9,z10,z11,z12,z13,z14,z15,z16,z17,z18,())/\q<=18/\DOk l k'/\jV (64*q) (11*q) code ss dt bs cs ls ts ck rn ins d os us ow qs rec js)\/
   (∃(c k':Int)(f:Bool)(q:Nat),∃cs ls ts ck rn ins d os us ow qs rec js,y=.inr (c,f,l,k',(),(),(),(),0,(),(),(),(),(),(),(),(),(),(),(),(),(),code,ss,dt,bs,key,cs,ls,ts,ck,rn,ins,d,os,us,ow,qs,rec,js,())/\q<=18/\DOk l k'/\jV (64*q) (11*q) code ss dt bs cs ls ts ck rn ins d os us ow qs rec js)) (m:=λs'=>s'.1.toNat)
  ⟨3+v4,k4,0,_,_,_,_,_,_,_,_,_,_,_,_,_,rfl,by omega,by omega,d4,hp,by simpa using hM,hO,Qt,by simp,rfl,(λe he=>by cases he),jn0⟩ (by unfold NN;dsimp only;omega) (by
   rintro _ ⟨c,k',q,cs,ls,ts,ck,rn,ins,d,os,us,ow,qs,rec,js,rfl,hc0,hcq,hd,hR⟩;unfold pI;dsimp only
   (with_reducible refine dI (λZ9=>?_) λZ9=>?_)
   ·refine(LL hd).bind ?_;rintro _ ⟨t,b,s,k5,rfl,t0,t1,b0,b1,A'⟩;dsimp only;refine(KU hR (by omega) (by omega) (by omega) ⟨by omega,by omega⟩ ⟨by omega,by omega⟩).bind ?_;rintro _ (⟨e,rfl,he⟩|⟨Vr,VT,ts2,ck2,rn2,ins2,d2,os2,us2,ow2,qs2,WH,TF,rfl,hR2⟩)
    ·dsimp only;rw[bne_iff_ne.2 he];exact Ok.ret (.inl ⟨_,_,_,q,_,_,_,_,_,_,_,_,_,_,_,_,_,_,_,_,_,_,_,_,_,_,_,_,_,_,_,_,_,_,_,rfl,by omega,A',hR⟩)
    ·dsimp only;rw[dR (x:=c-1) (by omega) (by omega)];refine Ok.ret ⟨⟨_,_,q+1,_,_,_,_,_,_,_,_,_,_,_,_,_,rfl,by omega,by omega,A',?_⟩,by dsimp only;omega⟩;rw[show 64*((q+1:Nat):Int)=64*(q:Int)+64 by omega,show 11*(q+1)=11*q+11 by omega];exact hR2
   ·exact Ok.ret (.inr ⟨_,_,_,q,_,_,_,_,_,_,_,_,_,_,_,_,_,rfl,by omega,hd,hR⟩))
 rw[e];have ZX:∀{q:Nat}{cs ls ts ck rn ins d os us ow qs rec js},q<=18->jV (64*q) (11*q) code ss dt bs cs ls ts ck rn ins d os us ow qs rec js->jV 1152 198 code ss dt bs cs ls ts ck rn ins d os us ow qs rec js:=λhq hR=>⟨hR.prog,hR.mach.mono (by omega),hR.outs,hR.lock,by have:=hR.rlen;omega,hR.jlen,hR.rent,hR.jne⟩
 rcases hy with⟨c,k',f,q,cs,ls,ts,ck,rn,ins,d,os,us,ow,qs,rec,js,z1,z2,z3,z4,z5,z6,z7,z8,z9,z10,z11,z12,z13,z14,z15,z16,z17,z18,rfl,hq,hd,hR⟩|⟨c,k',f,q,cs,ls,ts,ck,rn,ins,d,os,us,ow,qs,rec,js,rfl,hq,hd,hR⟩
 ·exact Ok.ret ⟨_,_,_,_,_,_,_,_,_,_,_,_,_,_,_,_,_,_,_,rfl,Wn,ZX hq hR,hd⟩
 ·exact Ok.ret ⟨_,_,_,_,_,_,_,_,_,_,_,_,_,_,_,_,_,_,_,rfl,Wn,ZX hq hR,hd⟩
theorem LW:mL=some (true,()):=by kernel_rfl
def EnB(e:DEn):Prop:=EnS e/\(∀c∈e.2.2.2.2.2.2.2.2.2.1,sr c)/\(∀c∈e.2.2.2.2.2.2.2.2.2.2.1,sr c)/\sr (e.2.2.2.2.2.2.2.2.2.2.2.1,e.2.2.2.2.2.2.2.2.2.2.2.2.1,e.2.2.2.2.2.2.2.2.2.2.2.2.2.1,e.2.2.2.2.2.2.2.2.2.2.2.2.2.2.1)/\(∀c∈e.2.2.2.2.2.2.2.2.2.2.2.2.2.2.2.1,sr c)
theorem fP.t{c:DCn}(h:fP c):sr c:=by
 rcases h with⟨_,_,_,h4,h5⟩|⟨_,h2,_⟩
 ·exact⟨h4,h5⟩
 ·exact⟨by omega,by omega⟩
theorem AU:∀c∈([]:List DCn),sr c:=λc hc=>by cases hc
theorem zT:sr (0,0,0,0):=⟨by decide,by decide⟩
theorem hS:([]:List DCn).length<=1000:=by decide
section
variable {a0 a1 a2 a3 a4 a5 a6 a7 a8:Int} {a9 a10:List DCn} {a11 a12 a13 a14:Int} {a15:List DCn} {a16:Int} {a17:Bool}
theorem enB_mk(h9:a9.length<=1000)(ZY:a10.length<=1000)(XB:a15.length<=1000)(t9:∀c∈a9,sr c)(Sk:∀c∈a10,sr c)(tv:sr (a11,a12,a13,a14))(Ug:∀c∈a15,sr c):EnB (a0,a1,a2,a3,a4,a5,a6,a7,a8,a9,a10,a11,a12,a13,a14,a15,a16,a17):=⟨⟨h9,ZY,XB⟩,t9,Sk,tv,Ug⟩
theorem CZ(hr:Jx a3 a4 a5 a6 a7 a8 a9 a10)(XB:a15.length<=1000)(tv:sr (a11,a12,a13,a14))(Ug:∀c∈a15,sr c):EnB (a0,a1,a2,a3,a4,a5,a6,a7,a8,a9,a10,a11,a12,a13,a14,a15,a16,a17):=
 enB_mk (by have:=hr.args.2;omega) (by have:=hr.data.2;omega) XB (λc hc=>(hr.args.1 c hc).t) (λc hc=>(hr.data.1 c hc).t) tv Ug
end
theorem uR.b{e:DEn}(h:uR e):EnB e:=by
 cases h with
 |slice hr _ _=>exact CZ hr hS zT AU
 |result hr hc hd _=>exact CZ hr (by have:=hd.2;omega) hc.t λc hc=>(hd.1 c hc).t
 |signal _=>exact enB_mk hS hS hS AU AU zT AU
 |wake _ hv=>exact enB_mk hS hS hS AU AU hv.t AU
theorem Kv{l:List Int}{k:Int}(h:DOk l k):Ok (mM l k) λr=>∃t v rg o dat sp w k',r=(t,v,rg,o,dat,sp,w,l,k',())/\fP (t,v,rg,o)/\(∀c∈dat,fP c)/\dat.length<=5/\DOk l k':=by
 obtain⟨t,v,rg,o,k1,e1,hc,d1⟩:=xJ h;unfold mM;simp only[e1,oBS]
 (with_reducible refine fv (by assumption) (by omega) (by omega) (λv2 k2 a2 b2 d2=>?_);try dsimp only)
 (with_reducible refine fv (by assumption) (by omega) (by omega) (λv3 k3 a3 b3 d3=>?_);try dsimp only)
 have tail:∀(dat:List DCn)(kk:Int),DOk l kk->Ok ((dJ 5 l kk).bind λ(x16,x17,x18,_)=>bif x16==0 then((dJ 4 x17 x18).bind λ(x19,x20,x21,_)=>some (x20,x21,(0:Int),(0:Int),(0:Int),(0:Int),(),(0:Int),false,t,v,rg,o,dat,x19,(v2==0),()))else some (x17,x18,0,0,0,0,(),0,false,t,v,rg,o,dat,(-1),(v2==0),())) λr=>∃k' sp,r=(l,k',0,0,0,0,(),0,false,t,v,rg,o,dat,sp,(v2==0),())/\DOk l k':=by
  intro dat kk hk;refine fv hk (by decide) (by decide) λz k5 _ _ d5=>?_;dsimp only
  cases z==0 with
  |true=>
   simp only[oCT];refine fv d5 (by decide) (by decide) λz k6 _ _ d6=>?_;exact Ok.ret ⟨_,_,rfl,d6⟩
  |false=>exact Ok.ret ⟨_,_,rfl,d5⟩
 cases v3==0 with
 |true=>
  obtain⟨dat,k4,e4,g1,g2,d4⟩:=zf d3 (a:=5) (by decide) (by decide);simp only[oCT,e4,oBS];refine(tail dat k4 d4).bind ?_;rintro _ ⟨k',sp,rfl,hk⟩;exact Ok.ret ⟨_,_,_,_,dat,_,_,_,rfl,hc,g1,by omega,hk⟩
 |false=>
  simp only[oCF];refine(tail [] _ d3).bind ?_;rintro _ ⟨k',sp,rfl,hk⟩;exact Ok.ret ⟨_,_,_,_,[],_,_,_,rfl,hc,(λc hc=>by cases hc),by decide,hk⟩
theorem HN{l:List Int}{k:Int}(h:DOk l k):Ok (lY l k) λr=>∃(e:DEn)(k':Int),r=(e.1,e.2.1,e.2.2.1,e.2.2.2.1,e.2.2.2.2.1,e.2.2.2.2.2.1,e.2.2.2.2.2.2.1,e.2.2.2.2.2.2.2.1,e.2.2.2.2.2.2.2.2.1,e.2.2.2.2.2.2.2.2.2.1,e.2.2.2.2.2.2.2.2.2.2.1,e.2.2.2.2.2.2.2.2.2.2.2.1,e.2.2.2.2.2.2.2.2.2.2.2.2.1,e.2.2.2.2.2.2.2.2.2.2.2.2.2.1,e.2.2.2.2.2.2.2.2.2.2.2.2.2.2.1,e.2.2.2.2.2.2.2.2.2.2.2.2.2.2.2.1,e.2.2.2.2.2.2.2.2.2.2.2.2.2.2.2.2.1,e.2.2.2.2.2.2.2.2.2.2.2.2.2.2.2.2.2,l,k',())/\EnB e/\DOk l k':=by
 unfold lY
 (with_reducible refine fv (by assumption) (by omega) (by omega) (λv0 k0 a0 b0 d0=>?_);try dsimp only)
 obtain⟨j,rfl⟩:∃j:Nat,v0=j:=⟨v0.toNat,by omega⟩;obtain⟨kd,hkd⟩:∃kd:Int,dM [1,1,2,2,3,4,0] j=some kd:=⟨_,oGE (by simp only[oLC,List.length_nil];omega)⟩;simp only[dO,oBS,hkd]
 (with_reducible refine fv (by assumption) (by omega) (by omega) (λv1 k1 a1 b1 d1=>?_);try dsimp only)
 refine Ok.bind (P:=λq=>∃(e:DEn)(k':Int),q=(l,k',0,0,0,0,0,0,0,0,0,(),(),0,0,0,0,(),0,false,e.1,e.2.1,e.2.2.1,e.2.2.2.1,e.2.2.2.2.1,e.2.2.2.2.2.1,e.2.2.2.2.2.2.1,e.2.2.2.2.2.2.2.1,e.2.2.2.2.2.2.2.2.1,e.2.2.2.2.2.2.2.2.2.1,e.2.2.2.2.2.2.2.2.2.2.1,e.2.2.2.2.2.2.2.2.2.2.2.1,e.2.2.2.2.2.2.2.2.2.2.2.2.1,e.2.2.2.2.2.2.2.2.2.2.2.2.2.1,e.2.2.2.2.2.2.2.2.2.2.2.2.2.2.1,e.2.2.2.2.2.2.2.2.2.2.2.2.2.2.2.1,e.2.2.2.2.2.2.2.2.2.2.2.2.2.2.2.2.1,e.2.2.2.2.2.2.2.2.2.2.2.2.2.2.2.2.2,())/\EnB e/\DOk l k') ?_ ?_
 ·by_cases h1:kd=1
  ·simp only[beq_iff_eq.2 h1,oCT]
   (with_reducible refine fv (by assumption) (by omega) (by omega) (λv2 k2 a2 b2 d2=>?_);try dsimp only)
   obtain⟨a0,a1,a2,a3,a4,a5,a6,a7,k3,e3,hr,d3⟩:=AL d2;simp only[e3,oBS];exact Ok.ret ⟨(kd,a0,w64 (1+v2),a0,a1,a2,a3,a4,a5,a6,a7,0,0,0,0,[],0,false),k3,rfl,CZ hr hS zT AU,d3⟩
  by_cases h2:kd=2
  ·simp only[oBF h1,beq_iff_eq.2 h2,oCT,oCF];obtain⟨a0,a1,a2,a3,a4,a5,a6,a7,k3,e3,hr,d3⟩:=AL d1;simp only[e3,oBS];refine(Kv d3).bind ?_;rintro _ ⟨t,v,rg,o,dat,sp,w,k4,rfl,hc,hd,hl,d4⟩;exact Ok.ret ⟨(kd,a0,0,a0,a1,a2,a3,a4,a5,a6,a7,t,v,rg,o,dat,sp,w),k4,rfl,CZ hr (by omega) hc.t λc hc=>(hd c hc).t,d4⟩
  by_cases h4:kd=4
  ·simp only[oBF h1,oBF h2,beq_iff_eq.2 h4,oCT,oCF];obtain⟨t,v,rg,o,k3,e3,hc,d3⟩:=xJ d1;simp only[e3,oBS];exact Ok.ret ⟨(kd,v1,0,0,0,0,0,0,0,[],[],t,v,rg,o,[],-1,false),k3,rfl,enB_mk hS hS hS AU AU hc.t AU,d3⟩
  ·simp only[oBF h1,oBF h2,oBF h4,oCF];exact Ok.ret ⟨(kd,v1,0,0,0,0,0,0,0,[],[],0,0,0,0,[],0,false),_,rfl,enB_mk hS hS hS AU AU zT AU,d1⟩
 ·rintro _ ⟨e,k',rfl,hb,hd⟩;exact Ok.ret ⟨e,k',rfl,hb,hd⟩
theorem Fa{l:List DEn}(h:∀e∈l,EnS e)(hl:l.length<=1000):lT l=some (l,()):=by
 unfold lT;simp only[dT]
 obtain⟨t,e,x3,x4,x5,x6,rfl⟩:=gd (f:=nh)
  (λs=>∃i:Nat,i<=l.length/\s=(l,(l.length:Int),(i:Int),l.take i,()))
  (λt=>∃x3 x4 x5 x6,t=(x3,x4,x5,x6,l,()))
  (λs=>(s.2.1-s.2.2.1).toNat) (by
   rintro _ ⟨i,hi,rfl⟩;unfold nh;by_cases hn:(i:Int)<l.length
   ·left
    have ZT:i<l.length:=by omega
    obtain⟨g1,g2,g3⟩:=h _ (List.getElem_mem ZT);simp only[hn,decide_true,oCT,dO,oBS,dM,oGE ZT,qJ,AW,List.nil_append];rw[dV (by decide) (by omega),dV (by decide) (by omega)];simp only[oCT,oBS];rw[dV (by decide) (by omega),dV (by decide) (by rw[oLT,oLC,List.length_nil];omega),dR (x:=(i:Int)+1) (by omega) (by omega)];refine⟨_,rfl,⟨i+1,by omega,?_⟩,by simp only;omega⟩;rw[List.take_succ_eq_append_getElem ZT];rfl
   ·right;simp only[hn,decide_false,oCF]
    have:i=l.length:=by omega
    subst this
    exact⟨_,rfl,_,_,_,_,by rw[List.take_length]⟩) NN (l,(l.length:Int),0,[],()) ⟨0,by omega,by simp⟩ (by show((l.length:Int)-0).toNat<NN;unfold NN;omega)
 rw[e];rfl
theorem KY{α:Type}{P:α->Prop}{l:List α}{f:α->α}(h:∀e∈l,P e)(hf:∀e,P e->P (f e))(i:Nat):∀e∈List.modify l i f,P e:=by
 intro y hy;obtain⟨j,hj⟩:=List.getElem?_of_mem hy;rw[List.getElem?_modify]at hj
 cases hl:l[j]? with
 |none=>rw[hl]at hj;split at hj<;>cases hj
 |some z=>
  rw[hl]at hj;have hz:=h z (dU hl);split at hj
  ·injection hj with hj;rw[<- hj];exact hf z hz
  ·injection hj with hj;rw[<- hj];exact hz
def Q1(l:List Int)(r:List DEn×List Int×Int×Unit):Prop:=∃(x:List DEn)(k':Int),r=(x,l,k',())/\(∀e∈x,EnB e)/\x.length<=200/\DOk l k'
def PY(l:List Int)(r:((List (Int))×Int×(List DEn)×Unit)⊕((List DEn)×(List (Int))×Int×Unit)):Prop:=(∃(k':Int)(x:List DEn),r=.inl (l,k',x,())/\(∀e∈x,EnB e)/\x.length<=200/\DOk l k')\/∃(k':Int)(x:List DEn),r=.inr (x,l,k',())/\(∀e∈x,EnB e)/\x.length<=200/\DOk l k'
theorem RN{l:List Int}{o:Option (((List (Int))×Int×(List DEn)×Unit)⊕((List DEn)×(List (Int))×Int×Unit))}(h:Ok o (PY l)):Ok (match o with
 |none=>none
 |some (.inl (x24,x25,x26,_))=>some (x26,x24,x25,())
 |some (.inr (x24,x25,x26,_))=>some (x24,x25,x26,())) (Q1 l):=by
 obtain⟨_,rfl,⟨k',x,rfl,h1,h2,h3⟩|⟨k',x,rfl,h1,h2,h3⟩⟩:=h
 ·exact Ok.ret ⟨x,k',rfl,h1,h2,h3⟩
 ·exact Ok.ret ⟨x,k',rfl,h1,h2,h3⟩
theorem A3{l:List Int}{k:Int}(h:DOk l k):Ok (iX l k) (Q1 l):=by
 unfold iX
 (with_reducible refine fv (by assumption) (by omega) (by omega) (λv0 k0 a0 b0 d0=>?_);try dsimp only)
 cases v0==0 with
 |true=>
  simp only[oCT]
  (with_reducible refine fv (by assumption) (by omega) (by omega) (λv1 k1 a1 b1 d1=>?_);try dsimp only)
  refine Ok.loop (P:=λs=>∃(c k':Int)(x:List DEn),s=(c,l,k',x,())/\0<=c/\c+x.length<=5/\(∀e∈x,EnB e)/\DOk l k') (R:=λr=>∃(c k':Int)(b:Bool)(x:List DEn),r=(c,b,l,k',x,())/\x.length<=5/\(∀e∈x,EnB e)/\DOk l k') (m:=λs=>s.1.toNat)
   ⟨_,_,[],rfl,by omega,by simp only[List.length_nil];omega,λe he=>(by cases he),d1⟩ (by unfold NN;dsimp only;omega) ?_ ?_
  ·rintro _ ⟨c,k',x,rfl,hc0,hcx,hx,hd⟩;unfold oe;dsimp only
   (with_reducible refine dI (λZ9=>?_) λZ9=>?_)
   ·refine(HN hd).bind ?_;rintro _ ⟨e,k2,rfl,hb,hd2⟩;dsimp only;refine dK (dV (by decide) (by simp only[oLC,List.length_nil];omega)) ?_;rw[dR (x:=c-1) (by omega) (by omega)];exact Ok.ret ⟨⟨_,_,_,rfl,by omega,by rw[AW,List.length_append,oLC,List.length_nil];omega,ir hx (λy hy=>by rw[List.mem_singleton.1 hy];exact hb),hd2⟩,by dsimp only;omega⟩
   ·exact Ok.ret ⟨_,_,_,_,rfl,by omega,hx,hd⟩
  ·rintro _ ⟨c,k',b,x,rfl,hl,hx,hd⟩;exact Ok.ret ⟨x,k',rfl,hx,by omega,hd⟩
 |false=>
  simp only[oCF];refine(Qk d0).bind ?_;rintro _ ⟨code,ss,dt,bs,key,cs,ls,ts,ck,rn,ins,d,os,us,ow,qs,x,js,k1,rfl,_,hR,hd⟩;dsimp only;have hx:∀e∈x,EnB e:=λe he=>(hR.rent e he).b;have hl:x.length<=198:=hR.rlen;rw[Fa (λe he=>(hx e he).1) (by omega)];simp only[oBS];refine RN ?_;have Zh:∀{k':Int},DOk l k'->Ok (some (.inl (l,k',x,()))) (PY l):=λhd=>Ok.ret (.inl ⟨_,x,rfl,hx,by omega,hd⟩);have Yi:∀{k':Int}{i:Nat}{f:DEn->DEn},DOk l k'->(∀e,EnB e->EnB (f e))->Ok (some (.inl (l,k',List.modify x i f,()))) (PY l):=λhd hf=>Ok.ret (.inl ⟨_,_,rfl,KY hx hf _,by rw[oLM];omega,hd⟩);delta dQ
  try dsimp only
  (with_reducible refine dI (λZ9=>?_) λZ9=>?_)
  ·(with_reducible refine fv (by assumption) (by omega) (by omega) (λv2 k2 a2 b2 d2=>?_);try dsimp only)
   cases v2==0 with
   |true=>
    simp only[oCT]
    (with_reducible refine fv (by assumption) (by omega) (by omega) (λv3 k3 a3 b3 d3=>?_);try dsimp only)
    obtain⟨i,rfl⟩:∃i:Nat,v3=i:=⟨v3.toNat,by omega⟩
    have hi:i<x.length:=by omega
    obtain⟨y,hy⟩:∃y,x[i]?=some y:=⟨_,oGE hi⟩;have hyb:=hx y (dU hy)
    (with_reducible refine fv (by assumption) (by omega) (by omega) (λv4 k4 a4 b4 d4=>?_);try dsimp only)
    simp only[dO,oBS,show dM x i=some y from hy]
    cases v4==0 with
    |true=>
     simp only[oCT];refine(HN d4).bind ?_;rintro _ ⟨e,k5,rfl,hb,A'⟩;exact Yi A' λ_ _=>hb
    |false=>cases v4==1 with
     |true=>
      simp only[oCT,oCF];rw[dR (x:=(i:Int)+1) (by omega) (by omega),show(i:Int)+1=((i+1:Nat):Int) by omega];simp only[dO,oBS];refine dK (by simp[gF];omega) (dK (by simp[gF];omega) (dK (by simp[gF]) (dK (by simp[gF]) (dK (by simp[gF];omega) ?_))));refine Ok.ret (.inr ⟨_,_,rfl,ir (λe he=>hx e (List.mem_of_mem_drop (List.mem_of_mem_take he))) (λe he=>hx e (List.mem_of_mem_drop (List.mem_of_mem_take he))),?_,d4⟩);rw[AW,List.length_append];show((x.drop 0).take (i-0)).length+((x.drop (i+1)).take (x.length-(i+1))).length<=200;rw[oLT,oLT,List.length_drop,List.length_drop];omega
     |false=>cases v4==2 with
      |true=>
       simp only[oCT,oCF]
       (with_reducible refine fv (by assumption) (by omega) (by omega) (λv5 k5 a5 b5 d5=>?_);try dsimp only)
       exact Yi d5 λe he=>he
      |false=>cases v4==3 with
       |true=>
        simp only[oCT,oCF];exact Yi d4 λe he=>he
       |false=>cases v4==4 with
        |true=>
         simp only[oCT,oCF]
         (with_reducible refine fv (by assumption) (by omega) (by omega) (λv5 k5 a5 b5 d5=>?_);try dsimp only)
         exact Yi d5 λe he=>he
        |false=>cases v4==5 with
         |true=>
          simp only[oCT,oCF]
          (with_reducible refine fv (by assumption) (by omega) (by omega) (λv5 k5 a5 b5 d5=>?_);try dsimp only)
          exact Yi d5 λe he=>he
         |false=>exact Zh d4
   |false=>exact Zh d2
  ·exact Zh hd
theorem FG(v:Int):∀(n:Nat),n<=7->∀(m:Nat)(b:List Int),n<m->b.length+n<=100000->dZ gY m (v,(n:Int),b,())=some (v,0,false,b++be n v,()):=by
 intro n
 induction n with
 |zero=>
  intro _ m b hm _;obtain⟨m,rfl⟩:∃m',m=m'+1:=⟨m-1,by omega⟩;simp[dZ,gY,be]
 |succ n ih=>
  intro hn m b hm hb;obtain⟨m,rfl⟩:∃m',m=m'+1:=⟨m-1,by omega⟩
  have e1:w64 (((n+1:Nat):Int)-1)=n:=by rw[dR (by omega) (by omega)];omega
  have e2:w64 (8*(n:Int))=((8*n:Nat):Int):=by rw[dR (by omega) (by omega)];omega
  have e3:wk .u64 ((8*n:Nat):Int)=((8*n:Nat):Int):=by
   unfold wk;rw[Mc];omega
  have Ww:gY (v,((n+1:Nat):Int),b,())=some (.inl (v,(n:Int),b++[(v/256 ^ n)%256],())):=by
   unfold gY
   have h0:decide (((n+1:Nat):Int)>0)=true:=by simp_all
   simp only[h0,oCT,e1,e2,e3,dO,oBS,Kf v (by omega:n<=7),Bj];rw[dV (by decide) (by simp;omega)];rfl
  simp only[dZ,Ww,oBS];rw[ih (by omega) m _ (by omega) (by simp;omega)];simp[be]
theorem Dz{n:Nat}{v:Int}(hn:n<=7):gh v n=some (be n v,()):=by
 unfold gh;simp[FG v n hn NN [] (by unfold NN;omega) (by simp;omega)]
theorem Pe(v:Int):gh v 2=some (be 2 v,()):=Dz (n:=2) (by decide)
theorem Pd(v:Int):gh v 6=some (be 6 v,()):=Dz (n:=6) (by decide)
theorem m7{xs:List (Int×Int×Int×Int)}(h:∀c∈xs,fP c)(hl:xs.length<=255):gi xs=some (lb xs,()):=by
 unfold gi;simp only[dT,iK (x:=(xs.length:Int)) (by omega) (by omega)]
 obtain⟨t,e,x3,x4,x5,x6,rfl⟩:=gd (f:=nq)
  (λs=>∃i:Nat,i<=xs.length/\s=(xs,(xs.length:Int),(i:Int),(xs.length:Int)::(xs.take i).flatMap cb,()))
  (λt=>∃x3 x4 x5 x6,t=(x3,x4,x5,x6,lb xs,()))
  (λs=>(s.2.1-s.2.2.1).toNat) (by
   rintro _ ⟨i,hi,rfl⟩;unfold nq;by_cases hn:(i:Int)<xs.length
   ·left
    have ZT:i<xs.length:=by omega
    have Zx:((xs.take i).flatMap cb).length<=4*i:=by
     rw[te,oLT];omega
    have Yv:(xs.take (i+1)).flatMap cb=(xs.take i).flatMap cb++cb xs[i]:=by
     rw[List.take_succ_eq_append_getElem ZT,List.flatMap_append];simp
    have hc:=h _ (List.getElem_mem ZT);refine⟨(xs,(xs.length:Int),((i+1:Nat):Int),(xs.length:Int)::(xs.take (i+1)).flatMap cb,()),?_,⟨i+1,by omega,rfl⟩,by simp only;omega⟩;simp only[hn,decide_true,oCT,dO,oBS,Lr ZT,Pe];rw[Yv];clear Yv;generalize xs[i]=c at hc;generalize(xs.take i).flatMap cb=fl at Zx;obtain⟨t,v,r,o⟩:=c;have a1:∀(b:List Int),b.length<=3->dW 1 (List.length ((xs.length:Int)::fl)) b.length=true:=λb hb=>dV (by decide) (by simp only[oLC];omega);have a2:∀(b:List Int),b.length<=3->∀u,dW 1 (List.length (((xs.length:Int)::fl)++b)) (be 2 u).length=true:=λb hb u=>dV (by decide) (by simp only[List.length_append,oLC,gp];omega)
    have ei:w64 ((i:Int)+1)=((i+1:Nat):Int):=by rw[dR (by omega) (by omega)];omega
    unfold cb
    rcases hc with⟨h1,h2,h3,h4,h5⟩|⟨h1,h2,h3⟩
    ·simp only at h1 h2 h3 h4 h5
     have ht:(t==1)=false:=by simp;omega
     have Y5:¬t=1:=by omega
     have e:wk .i64 v=v:=Bi (by omega) (by omega);simp only[ht,oCF,a1 [t,0] (by simp),oCT,AW,a2 [t,0] (by simp),oBS,oIN Y5,e,ei];simp
    ·simp only at h1 h2 h3;subst h1;simp only[beq_self_eq_true,oCT,dR (x:=r+1) (by omega) (by omega),iK (x:=r+1) (by omega) (by omega),a1 [1,r+1] (by simp),AW,a2 [1,r+1] (by simp),oBS,if_true,ei];simp
   ·right;simp only[hn,decide_false,oCF]
    have:i=xs.length:=by omega
    subst this
    exact⟨_,rfl,_,_,_,_,by rw[List.take_length];rfl⟩) NN (xs,(xs.length:Int),0,[(xs.length:Int)],()) ⟨0,by omega,by simp⟩ (by show((xs.length:Int)-0).toNat<NN;unfold NN;omega)
 rw[e];rfl
section
variable {a0 a1 a2 a3 a4 a5:Int} {a6 a7:List (Int×Int×Int×Int)}
theorem xZ(h:Jx a0 a1 a2 a3 a4 a5 a6 a7):kz a0 a1 a2 a3 a4 a5 a6 a7=some (rb a0 a1 a2 a3 a4 a5 a6 a7,0,()):=by
 have hv:=h.v;have l6:=h.args.2;have l7:=h.data.2;unfold kz;rw[AN (by omega) (by omega)];have f2:∀{b c:List Int},b.length<=1000->c.length<=1000->dW 1 b.length c.length=true:=λhb hc=>dV (by decide) (by omega);simp only[hv,decide_true,oBS,oNT,oCF,iK h.thread.1 (by have:=h.thread;omega),iK h.stop.1 (by have:=h.stop;omega),iK h.trap.1 (by have:=h.trap;omega),iK h.pc.1 h.pc.2,iK h.call.1 (by have:=h.call;omega),Pd,m7 h.args.1 (by omega),m7 h.data.1 (by omega),AW];rw[f2 (by simp) (by simp[gp])];simp only[oCT];rw[f2 (by simp[gp]) (by simp)];simp only[oCT];rw[f2 (by simp[gp]) (by rw[tT];omega)];simp only[oCT];rw[f2 (by simp[gp,tT];omega) (by rw[tT];omega)];simp only[oCT];unfold rb;simp
end
theorem JM{a b:List DCn}(ha:a.length<=1000):∃r,eV a b=some (r,())/\(r=true↔a=b):=by
 unfold eV;simp only[dT];by_cases hl:a.length=b.length
 ·have hb:((a.length:Int) != (b.length:Int))=false:=by simp[hl]
  simp only[hb,oCF]
  obtain⟨t,e,ht⟩:=gd (f:=ij)
   (λs=>∃i:Nat,i<=a.length/\s=(a,b,(a.length:Int),(i:Int),())/\a.take i=b.take i)
   (λt=>(t=.inl (false,())/\a≠b)\/((∃x3 x4 x5 x6 x7,t=.inr (x3,x4,x5,x6,x7,()))/\a=b))
   (λs=>(s.2.2.1-s.2.2.2.1).toNat) (by
    rintro _ ⟨i,hi,rfl,Yv⟩;unfold ij;by_cases hlt:(i:Int)<a.length
    ·have ZT:i<a.length:=by omega
     have WU:i<b.length:=by omega
     simp only[hlt,decide_true,oCT,dO,oBS,dM,oGE ZT,oGE WU];by_cases he:a[i]=b[i]
     ·left;simp only[he,beq_self_eq_true,Bool.and_self,oNT,oCF];rw[dR (x:=(i:Int)+1) (by omega) (by omega)];refine⟨_,rfl,⟨i+1,by omega,rfl,?_⟩,by simp only;omega⟩;rw[List.take_succ_eq_append_getElem ZT,List.take_succ_eq_append_getElem WU,Yv,he]
     ·right
      have hf:((a[i].1==b[i].1)&&((a[i].2.1==b[i].2.1)&&((a[i].2.2.1==b[i].2.2.1)&&((a[i].2.2.2==b[i].2.2.2)&&true))))=false:=by
       cases hq:((a[i].1==b[i].1)&&((a[i].2.1==b[i].2.1)&&((a[i].2.2.1==b[i].2.2.1)&&((a[i].2.2.2==b[i].2.2.2)&&true))))with
       |false=>rfl
       |true=>
        simp only[oBA,beq_iff_eq,and_true]at hq;exact absurd (Prod.ext hq.1 (Prod.ext hq.2.1 (Prod.ext hq.2.2.1 hq.2.2.2))) he
      simp only[hf,Bool.not_false,oCT];exact⟨_,rfl,.inl ⟨rfl,λh=>he (by subst h;rfl)⟩⟩
    ·right;simp only[hlt,decide_false,oCF]
     have:i=a.length:=by omega
     subst this;refine⟨_,rfl,.inr ⟨⟨_,_,_,_,_,rfl⟩,?_⟩⟩;rw[List.take_length]at Yv
     rw[Yv,hl,List.take_length]) NN (a,b,(a.length:Int),0,()) ⟨0,by omega,rfl,by simp⟩ (by show((a.length:Int)-0).toNat<NN;unfold NN;omega)
  rcases ht with⟨rfl,hne⟩|⟨⟨x3,x4,x5,x6,x7,rfl⟩,Wh⟩
  ·exact⟨false,by simp only[e],by simp[hne]⟩
  ·exact⟨true,by simp only[e],by simp[Wh]⟩
 ·have hb:((a.length:Int) != (b.length:Int))=true:=by simp;omega
  simp only[hb,oCT];exact⟨false,rfl,by simp;intro h;exact hl (by rw[h])⟩
theorem N7{a0 a1 a2 a3 a4 a5:Int}{a6 a7:List DCn}{b0 b1 b2 b3 b4 b5:Int}{b6 b7:List DCn}(h6:a6.length<=1000)(h7:a7.length<=1000):
 ∃r,fB a0 a1 a2 a3 a4 a5 a6 a7 b0 b1 b2 b3 b4 b5 b6 b7=some (r,())/\iR a0 a1 a2 a3 a4 a5 a6 a7 b0 b1 b2 b3 b4 b5 b6 b7=some (r,())/\(r=true↔a0=b0/\a1=b1/\a2=b2/\a3=b3/\a4=b4/\a5=b5/\a6=b6/\a7=b7):=by
 obtain⟨r,e,g⟩:=Ko (a0:=a0) (a1:=a1) (a2:=a2) (a3:=a3) (a4:=a4) (a5:=a5) (b0:=b0) (b1:=b1) (b2:=b2) (b3:=b3) (b4:=b4) (b5:=b5) (b6:=b6) (b7:=b7) h6 h7;refine⟨r,?_,e,g⟩;rw[<- e];obtain⟨u,e1,g1⟩:=JM (b:=b6) h6;obtain⟨v,e2,g2⟩:=JM (b:=b7) h7;obtain⟨u',Su,g1'⟩:=l8 (b:=b6) h6;obtain⟨v',e2',g2'⟩:=l8 (b:=b7) h7
 obtain rfl:u=u':=by rw[Bool.eq_iff_iff,g1,g1']
 obtain rfl:v=v':=by rw[Bool.eq_iff_iff,g2,g2']
 unfold fB iR;rw[e1,e2,Su,e2']
theorem Nx{a b:List DEn}(ha:∀e∈a,EnS e)(hl:a.length<=1000):∃r,nU a b=some (r,())/\(r=true↔a=b):=by
 unfold nU;simp only[dT];by_cases hlen:a.length=b.length
 ·have hb:((a.length:Int) != (b.length:Int))=false:=by simp[hlen]
  simp only[hb,oCF]
  obtain⟨t,e,ht⟩:=gd (f:=ng)
   (λs=>∃i:Nat,i<=a.length/\s=(a,b,(a.length:Int),(i:Int),())/\a.take i=b.take i)
   (λt=>(t=.inl (false,())/\a≠b)\/((∃x3 x4 x5 x6 x7,t=.inr (x3,x4,x5,x6,x7,()))/\a=b))
   (λs=>(s.2.2.1-s.2.2.2.1).toNat) (by
    rintro _ ⟨i,hi,rfl,Yv⟩;unfold ng;by_cases hlt:(i:Int)<a.length
    ·have ZT:i<a.length:=by omega
     have WU:i<b.length:=by omega
     have he:=ha _ (List.getElem_mem ZT);have hne:∀{k:Prop},(a[i]=b[i]->k)->¬k->a≠b:=λf g h=>g (f (by subst h;rfl));generalize hx:a[i]=x at he hne;generalize hy:b[i]=y at hne;obtain⟨x0,x1,x2,x3,x4,x5,x6,x7,x8,x9,x10,x11,x12,x13,x14,x15,x16,x17⟩:=x;obtain⟨y0,y1,y2,y3,y4,y5,y6,y7,y8,y9,y10,y11,y12,y13,y14,y15,y16,y17⟩:=y;have hb:x9.length<=1000/\x10.length<=1000/\x15.length<=1000:=he;simp only[hlt,decide_true,oCT,dO,oBS,dM,oGE ZT,oGE WU,hx,hy];by_cases k0:x0=y0
     ·by_cases k1:x1=y1
      ·by_cases k2:x2=y2
       ·obtain⟨r,e1,g1⟩:=Ko (a0:=x3) (a1:=x4) (a2:=x5) (a3:=x6) (a4:=x7) (a5:=x8) (b0:=y3) (b1:=y4) (b2:=y5) (b3:=y6) (b4:=y7) (b5:=y8) (b6:=y9) (b7:=y10) hb.1 hb.2.1;obtain⟨s,e2,g2⟩:=Hk (t:=x11) (v:=x12) (rg:=x13) (o:=x14) (sp:=x16) (w:=x17) (t':=y11) (v':=y12) (rg':=y13) (o':=y14) (dat':=y15) (sp':=y16) (w':=y17) hb.2.2;rw[e1]
        cases r with
        |true=>
         rw[e2]
         cases s with
         |true=>
          left;obtain⟨h3,h4,h5,h6,h7,h8,h9,ZY⟩:=g1.1 rfl;obtain⟨⟨Yt,Xu,h13,h14⟩,XB,Uu,Uv⟩:=g2.1 rfl;simp only[bne_eq_false_iff_eq.2 k0,bne_eq_false_iff_eq.2 k1,bne_eq_false_iff_eq.2 k2,oNT,oCF,oBS];rw[dR (x:=(i:Int)+1) (by omega) (by omega)];refine⟨_,rfl,⟨i+1,by omega,rfl,?_⟩,by simp only;omega⟩;rw[List.take_succ_eq_append_getElem ZT,List.take_succ_eq_append_getElem WU,Yv,hx,hy,k0,k1,k2,h3,h4,h5,h6,h7,h8,h9,ZY,Yt,Xu,h13,h14,XB,Uu,Uv]
         |false=>
          right;simp only[bne_eq_false_iff_eq.2 k0,bne_eq_false_iff_eq.2 k1,bne_eq_false_iff_eq.2 k2,oNT,Bool.not_false,oCF,oCT,oBS];refine⟨_,rfl,.inl ⟨rfl,hne (k:=false=true) (λh=>g2.2 ?_) (by decide)⟩⟩;simp only[oPJ]at h;obtain⟨_,_,_,_,_,_,_,_,_,_,_,Yt,Xu,h13,h14,XB,Uu,Uv⟩:=h;exact⟨⟨Yt,Xu,h13,h14⟩,XB,Uu,Uv⟩
        |false=>
         right;simp only[bne_eq_false_iff_eq.2 k0,bne_eq_false_iff_eq.2 k1,bne_eq_false_iff_eq.2 k2,Bool.not_false,oCF,oCT,oBS];refine⟨_,rfl,.inl ⟨rfl,hne (k:=false=true) (λh=>g1.2 ?_) (by decide)⟩⟩;simp only[oPJ]at h;obtain⟨_,_,_,h3,h4,h5,h6,h7,h8,h9,ZY,_⟩:=h;exact⟨h3,h4,h5,h6,h7,h8,h9,ZY⟩
       ·right;simp only[bne_eq_false_iff_eq.2 k0,bne_eq_false_iff_eq.2 k1,bne_iff_ne.2 k2,oCF,oCT,oBS];exact⟨_,rfl,.inl ⟨rfl,hne (λh=>congrArg (λe=>e.2.2.1) h) k2⟩⟩
      ·right;simp only[bne_eq_false_iff_eq.2 k0,bne_iff_ne.2 k1,oCF,oCT,oBS];exact⟨_,rfl,.inl ⟨rfl,hne (λh=>congrArg (λe=>e.2.1) h) k1⟩⟩
     ·right;simp only[bne_iff_ne.2 k0,oCT,oBS];exact⟨_,rfl,.inl ⟨rfl,hne (λh=>congrArg (λe=>e.1) h) k0⟩⟩
    ·right;simp only[hlt,decide_false,oCF]
     have:i=a.length:=by omega
     subst this;refine⟨_,rfl,.inr ⟨⟨_,_,_,_,_,rfl⟩,?_⟩⟩;rw[List.take_length]at Yv
     rw[Yv,hlen,List.take_length]) NN (a,b,(a.length:Int),0,()) ⟨0,by omega,rfl,by simp⟩ (by show((a.length:Int)-0).toNat<NN;unfold NN;omega)
  rcases ht with⟨rfl,hne⟩|⟨⟨x3,x4,x5,x6,x7,rfl⟩,Wh⟩
  ·exact⟨false,by simp only[e],by simp[hne]⟩
  ·exact⟨true,by simp only[e],by simp[Wh]⟩
 ·have hb:((a.length:Int) != (b.length:Int))=true:=by simp;omega
  simp only[hb,oCT];exact⟨false,rfl,by simp;intro h;exact hlen (by rw[h])⟩
theorem O4{a0 a1 a2 a3 a4 a5 a6 a7 a8:Int}{a9 a10:List DCn}{a11 a12 a13 a14:Int}{a15:List DCn}{a16:Int}{a17:Bool}{b0 b1 b2 b3 b4 b5 b6 b7 b8:Int}{b9 b10:List DCn}{b11 b12 b13 b14:Int}{b15:List DCn}{b16:Int}{b17:Bool}
 (h9:a9.length<=1000)(ZY:a10.length<=1000)(XB:a15.length<=1000):∃r,kK a0 a1 a2 a3 a4 a5 a6 a7 a8 a9 a10 a11 a12 a13 a14 a15 a16 a17 b0 b1 b2 b3 b4 b5 b6 b7 b8 b9 b10 b11 b12 b13 b14 b15 b16 b17=some (r,())/\
  (r=true↔(a0,a1,a2,a3,a4,a5,a6,a7,a8,a9,a10,a11,a12,a13,a14,a15,a16,a17)=(b0,b1,b2,b3,b4,b5,b6,b7,b8,b9,b10,b11,b12,b13,b14,b15,b16,b17)):=by
 obtain⟨r,e1,_,g1⟩:=N7 (a0:=a3) (a1:=a4) (a2:=a5) (a3:=a6) (a4:=a7) (a5:=a8) (b0:=b3) (b1:=b4) (b2:=b5) (b3:=b6) (b4:=b7) (b5:=b8) (b6:=b9) (b7:=b10) h9 ZY;obtain⟨s,e2,g2⟩:=JM (b:=b15) XB;refine⟨(a0==b0)&&(a1==b1)&&(a2==b2)&&r&&((a11==b11)&&((a12==b12)&&((a13==b13)&&((a14==b14)&&true))))&&s&&(a16==b16)&&(a17==b17),?_,?_⟩
 ·unfold kK;dsimp only;rw[e1,e2];cases a0==b0<;>cases a1==b1<;>cases a2==b2<;>cases r<;>cases((a11==b11)&&((a12==b12)&&((a13==b13)&&((a14==b14)&&true))))<;>cases s<;>cases a16==b16<;>rfl
 ·simp only[oBA,beq_iff_eq,and_true,g1,g2,oPJ];constructor
  ·rintro⟨⟨⟨⟨⟨⟨⟨h0,h1⟩,h2⟩,h3,h4,h5,h6,h7,h8,h9,ZY⟩,Yt,Xu,h13,h14⟩,XB⟩,Uu⟩,Uv⟩;exact⟨h0,h1,h2,h3,h4,h5,h6,h7,h8,h9,ZY,Yt,Xu,h13,h14,XB,Uu,Uv⟩
  ·rintro⟨h0,h1,h2,h3,h4,h5,h6,h7,h8,h9,ZY,Yt,Xu,h13,h14,XB,Uu,Uv⟩;exact⟨⟨⟨⟨⟨⟨⟨h0,h1⟩,h2⟩,h3,h4,h5,h6,h7,h8,h9,ZY⟩,Yt,Xu,h13,h14⟩,XB⟩,Uu⟩,Uv⟩
theorem DB{a b:List DEn}(ha:∀e∈a,EnS e)(hl:a.length<=1000):∃r,kL a b=some (r,())/\(r=true↔a=b):=by
 unfold kL gX;simp only[dT];by_cases hlen:a.length=b.length
 ·have hb:((a.length:Int) != (b.length:Int))=false:=by simp[hlen]
  simp only[hb,oCF]
  obtain⟨t,e,ht⟩:=gd (f:=gv)
   (λs=>∃i:Nat,i<=a.length/\s=(b,a,(a.length:Int),(i:Int),())/\a.take i=b.take i)
   (λt=>(t=.inl (false,())/\a≠b)\/((∃x3 x4 x5 x6 x7,t=.inr (x3,x4,x5,x6,x7,()))/\a=b))
   (λs=>(s.2.2.1-s.2.2.2.1).toNat) (by
    rintro _ ⟨i,hi,rfl,Yv⟩;unfold gv;by_cases hlt:(i:Int)<a.length
    ·have ZT:i<a.length:=by omega
     have WU:i<b.length:=by omega
     obtain⟨g1,g2,g3⟩:=ha _ (List.getElem_mem ZT);obtain⟨r,e1,gr⟩:=O4 (a0:=a[i].1) (a1:=a[i].2.1) (a2:=a[i].2.2.1) (a3:=a[i].2.2.2.1) (a4:=a[i].2.2.2.2.1) (a5:=a[i].2.2.2.2.2.1) (a6:=a[i].2.2.2.2.2.2.1) (a7:=a[i].2.2.2.2.2.2.2.1) (a8:=a[i].2.2.2.2.2.2.2.2.1) (a11:=a[i].2.2.2.2.2.2.2.2.2.2.2.1) (a12:=a[i].2.2.2.2.2.2.2.2.2.2.2.2.1) (a13:=a[i].2.2.2.2.2.2.2.2.2.2.2.2.2.1) (a14:=a[i].2.2.2.2.2.2.2.2.2.2.2.2.2.2.1) (a16:=a[i].2.2.2.2.2.2.2.2.2.2.2.2.2.2.2.2.1) (a17:=a[i].2.2.2.2.2.2.2.2.2.2.2.2.2.2.2.2.2) (b0:=b[i].1) (b1:=b[i].2.1) (b2:=b[i].2.2.1) (b3:=b[i].2.2.2.1) (b4:=b[i].2.2.2.2.1) (b5:=b[i].2.2.2.2.2.1) (b6:=b[i].2.2.2.2.2.2.1) (b7:=b[i].2.2.2.2.2.2.2.1) (b8:=b[i].2.2.2.2.2.2.2.2.1) (b9:=b[i].2.2.2.2.2.2.2.2.2.1) (b10:=b[i].2.2.2.2.2.2.2.2.2.2.1) (b11:=b[i].2.2.2.2.2.2.2.2.2.2.2.1) (b12:=b[i].2.2.2.2.2.2.2.2.2.2.2.2.1) (b13:=b[i].2.2.2.2.2.2.2.2.2.2.2.2.2.1) (b14:=b[i].2.2.2.2.2.2.2.2.2.2.2.2.2.2.1) (b15:=b[i].2.2.2.2.2.2.2.2.2.2.2.2.2.2.2.1) (b16:=b[i].2.2.2.2.2.2.2.2.2.2.2.2.2.2.2.2.1) (b17:=b[i].2.2.2.2.2.2.2.2.2.2.2.2.2.2.2.2.2) g1 g2 g3;simp only[hlt,decide_true,oCT,dO,oBS,dM,oGE ZT,oGE WU];rw[e1]
     cases r with
     |true=>
      left;have he:a[i]=b[i]:=gr.1 rfl;simp only[oBS,oNT,oCF];rw[dR (x:=(i:Int)+1) (by omega) (by omega)];refine⟨_,rfl,⟨i+1,by omega,rfl,?_⟩,by simp only;omega⟩;rw[List.take_succ_eq_append_getElem ZT,List.take_succ_eq_append_getElem WU,Yv,he]
     |false=>
      right;refine⟨_,rfl,.inl ⟨rfl,λh=>?_⟩⟩;have:false=true:=gr.2 (show a[i]=b[i] by subst h;rfl);cases this
    ·right;simp only[hlt,decide_false,oCF]
     have:i=a.length:=by omega
     subst this;refine⟨_,rfl,.inr ⟨⟨_,_,_,_,_,rfl⟩,?_⟩⟩;rw[List.take_length]at Yv
     rw[Yv,hlen,List.take_length]) NN (b,a,(a.length:Int),0,()) ⟨0,by omega,rfl,by simp⟩ (by show((a.length:Int)-0).toNat<NN;unfold NN;omega)
  rcases ht with⟨rfl,hne⟩|⟨⟨x3,x4,x5,x6,x7,rfl⟩,Wh⟩
  ·exact⟨false,by simp only[e];rfl,by simp[hne]⟩
  ·exact⟨true,by simp only[e];rfl,by simp[Wh]⟩
 ·have hb:((a.length:Int) != (b.length:Int))=true:=by simp;omega
  simp only[hb,oCT];exact⟨false,rfl,by simp;intro h;exact hlen (by rw[h])⟩
def QG(e:DEn):Option (Bool×Unit):=jf e.1 e.2.1 e.2.2.1 e.2.2.2.1 e.2.2.2.2.1 e.2.2.2.2.2.1 e.2.2.2.2.2.2.1 e.2.2.2.2.2.2.2.1 e.2.2.2.2.2.2.2.2.1 e.2.2.2.2.2.2.2.2.2.1 e.2.2.2.2.2.2.2.2.2.2.1 e.2.2.2.2.2.2.2.2.2.2.2.1 e.2.2.2.2.2.2.2.2.2.2.2.2.1 e.2.2.2.2.2.2.2.2.2.2.2.2.2.1 e.2.2.2.2.2.2.2.2.2.2.2.2.2.2.1 e.2.2.2.2.2.2.2.2.2.2.2.2.2.2.2.1 e.2.2.2.2.2.2.2.2.2.2.2.2.2.2.2.2.1 e.2.2.2.2.2.2.2.2.2.2.2.2.2.2.2.2.2
theorem Rp{t v rg o sp:Int}{dat:List DCn}{w:Bool}(hd:dat.length<=1000):∃b,gk t v rg o dat sp w=some (b,())/\f9 t v rg o dat sp w=some (b,())/\(b=true->jG (t,v,rg,o)/\(∀c∈dat,jG c)/\dat.length<=16/\-1<=sp/\sp<4):=by
 have h1:=Dy (t,v,rg,o);have h2:=DA (t,v,rg,o);simp only at h1 h2;unfold gk f9;rw[h1,h2,u9 (by omega),vf (by omega)];refine⟨decide (jG (t,v,rg,o))&&decide ((∀c∈dat,jG c)/\(dat.length:Int)<=16)&&decide (sp>=-1)&&decide (sp<4),?_,?_,λh=>?_⟩
 ·cases decide (jG (t,v,rg,o))<;>cases decide ((∀c∈dat,jG c)/\(dat.length:Int)<=16)<;>cases decide (sp>=-1)<;>rfl
 ·cases decide (jG (t,v,rg,o))<;>cases decide ((∀c∈dat,jG c)/\(dat.length:Int)<=16)<;>cases decide (sp>=-1)<;>rfl
 ·simp only[oBA,oDE]at h;obtain⟨⟨⟨h1,h2,h3⟩,h4⟩,h5⟩:=h;exact⟨h1,h2,by omega,h4,h5⟩
theorem Qp{t v rg o sp:Int}{dat:List DCn}{w:Bool}(hd:dat.length<=1000):∃b,fW t v rg o dat sp w=some (b,())/\iO t v rg o dat sp w 0 0 0 0 [] 0 false=some (b,())/\(b=true->(t=0/\v=0/\rg=0/\o=0)/\dat=[]/\sp=0/\w=false):=by
 obtain⟨b,e,g⟩:=Hk (t:=t) (v:=v) (rg:=rg) (o:=o) (sp:=sp) (w:=w) (t':=0) (v':=0) (rg':=0) (o':=0) (dat':=[]) (sp':=0) (w':=false) hd;refine⟨b,?_,e,g.1⟩
 have key:∀c:Bool,(c=true↔(t=0/\v=0/\rg=0/\o=0)/\dat=[]/\sp=0/\w=false)->some (c,())=some (b,()):=λc hc=>by
  rw[show c=b by rw[Bool.eq_iff_iff,hc,g]]
 unfold fW;dsimp only
 cases hq:((t==0)&&((v==0)&&((rg==0)&&((o==0)&&true))))with
 |false=>
  refine key false ⟨(λh=>by cases h),λ⟨⟨h1,h2,h3,h4⟩,_⟩=>?_⟩;subst h1 h2 h3 h4;simp at hq
 |true=>
  have YR:t=0/\v=0/\rg=0/\o=0:=by simpa using hq
  cases dat with
  |nil=>
   rw[show((dQ (List.length ([]:List DCn)))==0)=true from rfl];by_cases hs:sp=0
   ·rw[beq_iff_eq.2 hs]
    cases w with
    |true=>exact key false ⟨(λh=>by cases h),(λh=>by cases h.2.2.2)⟩
    |false=>exact key true ⟨λ_=>⟨YR,rfl,hs,rfl⟩,λ_=>rfl⟩
   ·rw[oBF hs];exact key false ⟨(λh=>by cases h),λh=>absurd h.2.2.1 hs⟩
  |cons c dat=>
   have:((dQ (List.length (c::dat)))==0)=false:=by rw[dT,beq_eq_false_iff_ne,oLC];omega
   rw[this];exact key false ⟨(λh=>by cases h),(λh=>by cases h.2.1)⟩
theorem xP{e:DEn}(hB:EnB e):∃b,enV e=some (b,())/\QG e=some (b,())/\(b=true->uR e):=by
 obtain⟨a0,a1,a2,a3,a4,a5,a6,a7,a8,a9,a10,a11,a12,a13,a14,a15,a16,a17⟩:=e;obtain⟨⟨h9,ZY,XB⟩,t9,Sk,tv,Ug⟩:=hB;simp only at h9 ZY XB t9 Sk tv Ug;show ∃b,eM a0 a1 a2 a3 a4 a5 a6 a7 a8 a9 a10 a11 a12 a13 a14 a15 a16 a17=some (b,())/\jf a0 a1 a2 a3 a4 a5 a6 a7 a8 a9 a10 a11 a12 a13 a14 a15 a16 a17=some (b,())/\(b=true->uR (a0,a1,a2,a3,a4,a5,a6,a7,a8,a9,a10,a11,a12,a13,a14,a15,a16,a17));unfold eM jf kq;by_cases h1:a1<0
 ·rw[oDT h1];exact⟨false,rfl,rfl,(λh=>by cases h)⟩
 by_cases h2:a1>=4
 ·rw[oDF h1,oDT h2];exact⟨false,rfl,rfl,(λh=>by cases h)⟩
 rw[oDF h1,oDF h2,Iy (by omega) (by omega),AN (by omega) (by omega)]
 have hthr:0<=a1/\a1<=3:=by omega
 obtain⟨sm,e1,Su,gs⟩:=N7 (a0:=a3) (a1:=a4) (a2:=a5) (a3:=a6) (a4:=a7) (a5:=a8) (b0:=0) (b1:=0) (b2:=0) (b3:=0) (b4:=0) (b5:=0) (b6:=[]) (b7:=[]) h9 ZY;obtain⟨nb,e2,e2',gn⟩:=Qp (t:=a11) (v:=a12) (rg:=a13) (o:=a14) (sp:=a16) (w:=a17) XB;obtain⟨fb,e3,e3',gf⟩:=Rp (t:=a11) (v:=a12) (rg:=a13) (o:=a14) (sp:=a16) (w:=a17) XB;rw[e1,Su,e2,e2',e3,e3'];simp only[oCF,oBS];obtain⟨rq,hrq⟩:∃rq:Bool,rq=decide (L5 a3 a4 a5 a6 a7 a8 a9 a10):=⟨_,rfl⟩;have hz:rq=true->Jx a3 a4 a5 a6 a7 a8 a9 a10:=λh=>(show L5 _ _ _ _ _ _ _ _ from of_decide_eq_true (hrq▸h)).ok t9 Sk;rw[<- hrq];by_cases k1:a0=1
 ·refine⟨rq&&decide (a2>=1)&&decide (a2<=64)&&(a3==a1)&&(a4 != 3)&&nb,?_,?_,λh=>?_⟩
  ·simp only[beq_iff_eq.2 k1,oCT];cases rq<;>cases decide (a2>=1)<;>cases decide (a2<=64)<;>cases a3==a1<;>cases a4 != 3<;>rfl
  ·simp only[beq_iff_eq.2 k1,oCT];cases rq<;>cases decide (a2>=1)<;>cases decide (a2<=64)<;>cases a3==a1<;>cases a4 != 3<;>rfl
  ·simp only[oBA,oDE,beq_iff_eq,bne_iff_ne]at h;obtain⟨⟨⟨⟨⟨q1,q2⟩,q3⟩,q4⟩,q5⟩,q6⟩:=h;obtain⟨⟨rfl,rfl,rfl,rfl⟩,rfl,rfl,rfl⟩:=gn q6;have hr:=hz q1;subst k1 q4;exact .slice hr q5 ⟨q2,q3⟩
 by_cases k2:a0=2
 ·refine⟨rq&&(a2==0)&&(a3==a1)&&(a4==1)&&fb,?_,?_,λh=>?_⟩
  ·simp only[oBF k1,beq_iff_eq.2 k2,oCT,oCF];cases rq<;>cases a2==0<;>cases a3==a1<;>cases a4==1<;>rfl
  ·simp only[oBF k1,beq_iff_eq.2 k2,oCT,oCF];cases rq<;>cases a2==0<;>cases a3==a1<;>cases a4==1<;>rfl
  ·simp only[oBA,beq_iff_eq]at h;obtain⟨⟨⟨⟨q1,q2⟩,q3⟩,q4⟩,q5⟩:=h;obtain⟨g1,g2,g3,g4,g5⟩:=gf q5;have hr:=hz q1;subst k2 q2 q3 q4;exact .result hr (g1.ok tv) ⟨λc hc=>(g2 c hc).ok (Ug c hc),g3⟩ ⟨g4,by omega⟩
 by_cases k3:a0=3
 ·refine⟨(a2==0)&&sm&&nb,?_,?_,λh=>?_⟩
  ·simp only[oBF k1,oBF k2,beq_iff_eq.2 k3,oCT,oCF];cases rq<;>cases a2==0<;>cases sm<;>rfl
  ·simp only[oBF k1,oBF k2,beq_iff_eq.2 k3,oCT,oCF];cases a2==0<;>cases sm<;>rfl
  ·simp only[oBA,beq_iff_eq]at h;obtain⟨⟨q1,q2⟩,q3⟩:=h;obtain⟨rfl,rfl,rfl,rfl,rfl,rfl,rfl,rfl⟩:=gs.1 q2;obtain⟨⟨rfl,rfl,rfl,rfl⟩,rfl,rfl,rfl⟩:=gn q3;subst k3 q1;exact .signal hthr
 by_cases k4:a0=4
 ·refine⟨(a2==0)&&sm&&fb&&(a16==-1)&&(!a17)&&((dQ (List.length a15))==0),?_,?_,λh=>?_⟩
  ·simp only[oBF k1,oBF k2,oBF k3,beq_iff_eq.2 k4,oCT,oCF];cases rq<;>cases a2==0<;>cases sm<;>cases fb<;>cases a16==-1<;>cases a17<;>rfl
  ·simp only[oBF k1,oBF k2,oBF k3,beq_iff_eq.2 k4,oCT,oCF];cases a2==0<;>cases sm<;>cases fb<;>cases a16==-1<;>cases a17<;>rfl
  ·simp only[oBA,beq_iff_eq,Bool.not_eq_true',dT]at h;obtain⟨⟨⟨⟨⟨q1,q2⟩,q3⟩,q4⟩,q5⟩,q6⟩:=h;obtain⟨rfl,rfl,rfl,rfl,rfl,rfl,rfl,rfl⟩:=gs.1 q2;obtain⟨g1,_,_,_,_⟩:=gf q3;obtain rfl:a15=[]:=oEN (by omega);subst k4 q1 q4 q5;exact .wake hthr (g1.ok tv)
 ·refine⟨false,?_,?_,λh=>by cases h⟩
  ·simp only[oBF k1,oBF k2,oBF k3,oBF k4,oCF];cases rq<;>rfl
  ·simp only[oBF k1,oBF k2,oBF k3,oBF k4,oCF]
theorem LU(v:Int):be 2 v=[v/256%256,v%256]:=by simp[be]
theorem hi8(n:Int):wk .u8 (shR .shr .i64 n 8)=n/256%256:=by
 rw[Bj,show shR .shr .i64 n 8=shR .shr .i64 n (8*1)from rfl,Kf n (by decide)];rfl
theorem Da{t v rg o:Int}(h:fP (t,v,rg,o)):gi [(t,v,rg,o)]=some (1::cb (t,v,rg,o),())/\gF 1 (List.length (1::cb (t,v,rg,o))) (List.length (1::cb (t,v,rg,o)))=true/\my (1::cb (t,v,rg,o)) 1 (Nat.sub (List.length (1::cb (t,v,rg,o))) 1)=cb (t,v,rg,o):=by
 refine⟨?_,?_,?_⟩
 ·rw[m7 (λc hc=>by rw[List.mem_singleton.1 hc];exact h) (by simp)];unfold lb;simp
 ·rw[oLC,mt];rfl
 ·show((1::cb (t,v,rg,o)).drop 1).take ((1::cb (t,v,rg,o)).length-1)=_;rw[List.drop_succ_cons,List.drop_zero,oLC,Nat.add_sub_cancel,List.take_length]
theorem PB{e:DEn}(h:uR e):QG e=some (true,()):=by
 obtain⟨b,e1,e2,_⟩:=xP h.b;rw[vF h]at e1
 injection e1 with e1
 injection e1 with e1
 rw[e2,<- e1]
theorem KA{l:List DEn}{i:Nat}{b:List Int}(hi:i<l.length)(he:uR l[i])(hb:b.length<=60000)(hl:l.length<=1000):
 fN (l,l,(l.length:Int),(i:Int),b,())=some (.inl (l,l,(l.length:Int),(i:Int)+1,b++wb l[i],())):=by
 have hv:=PB he;unfold QG at hv;unfold fN;dsimp only;rw[oDT (show(i:Int)<(l.length:Int) by omega)];simp only[oCT,dO,oBS,dM,oGE hi];rw[hv];generalize l[i]=e at he
 cases he with
 | @slice j k stop trap count pc call args data hr hs hk=>
  have hj:=hr.thread;have l1:=hr.args.2;have l2:=hr.data.2
  have hq:(rb j stop trap count pc call args data).length<=100:=by rw[AP];omega
  simp only[oBS,oNT,oCF,beq_self_eq_true,oCT,xZ hr,dT,hi8,Bj ((rb j stop trap count pc call args data).length:Int),iK (x:=1) (by decide) (by decide),iK (x:=j) (by omega) (by omega),iK (x:=k) (by omega) (by omega),Int.reduceBEq,AW];rw[dV (by decide) (by simp only[oLC,List.length_nil];omega)];simp only[oCT];rw[dV (by decide) (by simp only[List.length_append,oLC,List.length_nil];omega)];simp only[oCT];rw[dR (x:=(i:Int)+1) (by omega) (by omega),wb1,LU];simp only[List.append_assoc,List.cons_append,List.nil_append]
 | @result j trap count pc call args data t v rg o sp dat w hr hc hd hs=>
  have hj:=hr.thread;have l1:=hr.args.2;have l2:=hr.data.2;have l3:=hd.2
  have hq:(rb j 1 trap count pc call args data).length<=100:=by rw[AP];omega
  simp only[oBS,oNT,oCF,beq_self_eq_true,oCT,xZ hr,dT,hi8,Bj ((rb j 1 trap count pc call args data).length:Int),iK (x:=2) (by decide) (by decide),iK (x:=j) (by omega) (by omega),iK (x:=0) (by decide) (by decide),Int.reduceBEq,AW];rw[dV (by decide) (by simp only[oLC,List.length_nil];omega)];simp only[oCT];rw[dV (by decide) (by simp only[List.length_append,oLC,List.length_nil];omega)];simp only[oCT]
  cases w with
  |true=>
   simp only[oCT,oBS];obtain⟨c1,c2,c3⟩:=Da hc;rw[c1];simp only[oBS];rw[c2];simp only[oCT];rw[c3,dV (by decide) (by simp only[List.length_append,oLC,List.length_nil,mt,gp];omega)];simp only[oCT];rw[dR (x:=sp+1) (by omega) (by omega),iK (x:=sp+1) (by omega) (by omega),dV (by decide) (by simp only[List.length_append,oLC,List.length_nil,mt,gp];omega)];simp only[oCT];rw[m7 hd.1 (by have:=hd.2;omega)];simp only[oBS];rw[dV (by decide) (by simp only[List.length_append,oLC,List.length_nil,mt,gp,tT];omega)];simp only[oCT];rw[dR (x:=(i:Int)+1) (by omega) (by omega),wb2,LU];simp only[xb,oCT,oCF,List.append_assoc,List.cons_append,List.nil_append]
  |false=>
   simp only[oCF,oBS];obtain⟨c1,c2,c3⟩:=Da hc;rw[c1];simp only[oBS];rw[c2];simp only[oCT];rw[c3,dV (by decide) (by simp only[List.length_append,oLC,List.length_nil,mt,gp];omega)];simp only[oCT];rw[dR (x:=sp+1) (by omega) (by omega),iK (x:=sp+1) (by omega) (by omega),dV (by decide) (by simp only[List.length_append,oLC,List.length_nil,mt,gp];omega)];simp only[oCT];rw[m7 hd.1 (by have:=hd.2;omega)];simp only[oBS];rw[dV (by decide) (by simp only[List.length_append,oLC,List.length_nil,mt,gp,tT];omega)];simp only[oCT];rw[dR (x:=(i:Int)+1) (by omega) (by omega),wb2,LU];simp only[xb,oCT,oCF,List.append_assoc,List.cons_append,List.nil_append]
 | @signal j hj=>
  have b0:be 2 0=[0,0]:=by decide
  have s0:wk .u8 (shR .shr .i64 0 8)=0:=by decide
  simp only[oBS,oNT,oCF,oCT,dT,List.length_nil,s0,iK (x:=3) (by decide) (by decide),iK (x:=j) (by omega) (by omega),iK (x:=0) (by decide) (by decide),Int.reduceBEq,AW,Int.natCast_zero,Int.cast_ofNat_Int];rw[dV (by decide) (by simp only[oLC,List.length_nil];omega)];simp only[oCT];rw[dV (by decide) (by simp only[List.length_append,oLC,List.length_nil];omega)];simp only[oCT];rw[dR (x:=(i:Int)+1) (by omega) (by omega),wb3,b0];simp only[List.append_assoc,List.cons_append,List.nil_append]
 | @wake j t v rg o hj hc=>
  have b0:be 2 0=[0,0]:=by decide
  have s0:wk .u8 (shR .shr .i64 0 8)=0:=by decide
  have hd:=nilc;simp only[oBS,oNT,oCF,oCT,dT,List.length_nil,s0,iK (x:=4) (by decide) (by decide),iK (x:=j) (by omega) (by omega),iK (x:=0) (by decide) (by decide),Int.reduceBEq,AW,Int.natCast_zero,Int.cast_ofNat_Int];rw[dV (by decide) (by simp only[oLC,List.length_nil];omega)];simp only[oCT];rw[dV (by decide) (by simp only[List.length_append,oLC,List.length_nil];omega)];simp only[oCT];obtain⟨c1,c2,c3⟩:=Da hc;rw[c1];simp only[oBS];rw[c2];simp only[oCT];rw[c3,dV (by decide) (by simp only[List.length_append,oLC,List.length_nil,mt,gp];omega)];simp only[oCT];rw[dR (x:=-1+1) (by omega) (by omega),iK (x:=-1+1) (by omega) (by omega),dV (by decide) (by simp only[List.length_append,oLC,List.length_nil,mt,gp];omega)];simp only[oCT];rw[m7 hd.1 (by have:=hd.2;omega)];simp only[oBS];rw[dV (by decide) (by simp only[List.length_append,oLC,List.length_nil,mt,gp,tT];omega)];simp only[oCT];rw[dR (x:=(i:Int)+1) (by omega) (by omega),wb4,b0];simp only[xb,oCT,oCF,List.append_assoc,List.cons_append,List.nil_append]
theorem Nt{l:List DEn}(hB:∀e∈l,EnB e):(∀e∈l,uR e)\/∃e∈l,enV e=some (false,()):=by
 by_cases h:∀e∈l,uR e
 ·exact .inl h
 ·right;have:∃e,¬(e∈l->uR e):=Classical.not_forall.1 h;obtain⟨e,he⟩:=this;rw[Classical.not_imp]at he;obtain⟨b,e1,_,hb⟩:=xP (hB e he.1)
  cases b with
  |true=>exact absurd (hb rfl) he.2
  |false=>exact⟨e,he.1,e1⟩
theorem QF{l:List DEn}(hB:∀e∈l,EnB e)(hl:l.length<=1000)(h:∃e∈l,enV e=some (false,())):fE l=some ([],1,()):=by
 have YT:∃v:Nat,fi l=some ((v:Int),()):=by
  unfold fi
  obtain⟨t,e,ht⟩:=gd (f:=fm)
   (λs=>∃i:Nat,i<=l.length/\s=(l,(l.length:Int),(i:Int),())/\∀e∈l.take i,enV e≠some (false,()))
   (λt=>∃v:Nat,t=.inl ((v:Int),()))
   (λs=>(s.2.1-s.2.2.1).toNat) (by
    rintro _ ⟨i,hi,rfl,YV⟩;unfold fm;by_cases hn2:(i:Int)<l.length
    ·have ZT:i<l.length:=by omega
     obtain⟨b,ev,_,_⟩:=xP (hB _ (List.getElem_mem ZT));have ev':=ev;unfold enV at ev;simp only[hn2,decide_true,oCT,dO,oBS,dM,oGE ZT,g7];rw[ev]
     cases b with
     |true=>
      left;simp only[oBS,oNT,oCF];rw[dR (x:=(i:Int)+1) (by omega) (by omega)];refine⟨_,rfl,⟨i+1,by omega,rfl,λe he=>?_⟩,by simp only;omega⟩;rw[List.take_succ_eq_append_getElem ZT]at he;rcases List.mem_append.1 he with he|he
      ·exact YV e he
      ·rw[List.mem_singleton.1 he,ev'];intro h;cases h
     |false=>exact .inr ⟨_,rfl,i,rfl⟩
    ·exfalso;obtain⟨e,he,hv⟩:=h
     have:i=l.length:=by omega
     rw[this,List.take_length]at YV
     exact YV e he hv) NN (l,(l.length:Int),0,()) ⟨0,by omega,rfl,by simp⟩ (by show((l.length:Int)-0).toNat<NN;unfold NN;omega)
  obtain⟨v,rfl⟩:=ht;exact⟨v,by simp only[dT,e]⟩
 obtain⟨v,e⟩:=YT;unfold fE fr;rw[e];simp only[oBS];rw[oDT (show(v:Int)>=0 by omega)];rfl
theorem RC{l:List DEn}(hB:∀e∈l,EnB e)(hl:l.length<=250):∃bs er,fE l=some (bs,er,())/\gO l=some (bs,er,()):=by
 rcases Nt hB with hok|hbad
 ·have hr:gO l=if l.length<=200 then some (eb l,0,())else some ([],3,()):=by
   unfold gO;delta dQ;dsimp only
   obtain⟨t,e,x3,x4,x5,x6,rfl⟩:=gd (f:=fN)
    (λs=>∃i:Nat,i<=l.length/\s=(l,l,(l.length:Int),(i:Int),eb (l.take i),()))
    (λt=>∃x3 x4 x5 x6,t=.inr (l,x3,x4,x5,x6,eb l,()))
    (λs=>(s.2.2.1-s.2.2.2.1).toNat) (by
     rintro _ ⟨i,hi,rfl⟩;by_cases hn:(i:Int)<l.length
     ·left
      have ZT:i<l.length:=by omega
      have hlen:=LD (l:=l.take i) λe he=>hok e (List.mem_of_mem_take he);rw[oLT]at hlen;rw[KA ZT (hok _ (List.getElem_mem ZT)) (by omega) (by omega)];refine⟨_,rfl,⟨i+1,by omega,?_⟩,by simp only;omega⟩;unfold eb;rw[List.take_succ_eq_append_getElem ZT,List.flatMap_append];simp
     ·right
      have:i=l.length:=by omega
      subst this;unfold fN;dsimp only;rw[oDF hn,List.take_length]
      exact⟨_,rfl,_,_,_,_,rfl⟩) NN (l,l,(l.length:Int),0,[],()) ⟨0,by omega,by simp[eb]⟩ (by show((l.length:Int)-0).toNat<NN;unfold NN;omega)
   rw[e];dsimp only;by_cases h2:l.length<=200
   ·rw[oIP h2,oDF (show ¬(l.length:Int)>200 by omega)];rfl
   ·rw[oIN h2,oDT (show(l.length:Int)>200 by omega)];rfl
  by_cases h2:l.length<=200
  ·rw[oIP h2]at hr;exact⟨_,_,LA hok h2,hr⟩
  ·rw[oIN h2]at hr;refine⟨_,_,?_,hr⟩;unfold fE;rw[QS hok (by omega)];delta dQ;simp only[oBS,oCF];rw[oDT (show(l.length:Int)>200 by omega)];rfl
 ·refine⟨[],1,QF hB (by omega) hbad,?_⟩;unfold gO;simp only[dT]
  obtain⟨t,e,rfl⟩:=gd (f:=fN)
   (λs=>∃i:Nat,i<=l.length/\s=(l,l,(l.length:Int),(i:Int),eb (l.take i),())/\∀e∈l.take i,uR e)
   (λt=>t=.inl (1,(),()))
   (λs=>(s.2.2.1-s.2.2.2.1).toNat) (by
    rintro _ ⟨i,hi,rfl,hok⟩;by_cases hn:(i:Int)<l.length
    ·have ZT:i<l.length:=by omega
     have hBi:=hB _ (List.getElem_mem ZT);obtain⟨b,e1,e2,hb⟩:=xP hBi
     cases b with
     |true=>
      left;have hlen:=LD (l:=l.take i) hok;rw[oLT]at hlen;rw[KA ZT (hb rfl) (by omega) (by omega)];refine⟨_,rfl,⟨i+1,by omega,?_,λe he=>?_⟩,by simp only;omega⟩
      ·unfold eb;rw[List.take_succ_eq_append_getElem ZT,List.flatMap_append];simp
      ·rw[List.take_succ_eq_append_getElem ZT]at he;rcases List.mem_append.1 he with he|he
       ·exact hok e he
       ·rw[List.mem_singleton.1 he];exact hb rfl
     |false=>
      right;unfold QG at e2;unfold fN;dsimp only;rw[oDT hn];simp only[oCT,dO,oBS,dM,oGE ZT];rw[e2];exact⟨_,rfl,rfl⟩
    ·exfalso;obtain⟨e,he,hv⟩:=hbad
     have:i=l.length:=by omega
     rw[this,List.take_length]at hok;rw[vF (hok e he)]at hv
     cases hv) NN (l,l,(l.length:Int),0,[],()) ⟨0,by omega,by simp[eb],by simp⟩ (by show((l.length:Int)-0).toNat<NN;unfold NN;omega)
  simp only[e]
theorem M8{l:List DEn}(hl:l.length<=maxLen):∃b,mK l=some (b,())/\(b=true->(∀e∈l,EnS e)/\l.length<=30):=by
 unfold mK;delta dQ;dsimp only
 obtain⟨t,e,ht⟩:=gd (f:=mj)
  (λs=>∃i:Nat,i<=l.length/\s=(l,l,(l.length:Int),(i:Int),())/\∀e∈l.take i,EnS e)
  (λt=>t=.inl (false,())\/((∃x3 x4 x5 x6,t=.inr (l,x3,x4,x5,x6,()))/\∀e∈l,EnS e))
  (λs=>(s.2.2.1-s.2.2.2.1).toNat) (by
   rintro _ ⟨i,hi,rfl,hs⟩;unfold mj;delta dQ;dsimp only;unfold maxLen at hl;by_cases hn:(i:Int)<l.length
   ·have ZT:i<l.length:=by omega
    rw[oDT hn];simp only[oCT,dO,oBS,dM,oGE ZT];by_cases k1:(l[i].2.2.2.2.2.2.2.2.2.1.length:Int)>30
    ·rw[oDT k1];exact .inr ⟨_,rfl,.inl rfl⟩
    by_cases k2:(l[i].2.2.2.2.2.2.2.2.2.2.1.length:Int)>30
    ·rw[oDF k1,oDT k2];exact .inr ⟨_,rfl,.inl rfl⟩
    by_cases k3:(l[i].2.2.2.2.2.2.2.2.2.2.2.2.2.2.2.1.length:Int)>30
    ·rw[oDF k1,oDF k2,oDT k3];exact .inr ⟨_,rfl,.inl rfl⟩
    ·rw[oDF k1,oDF k2,oDF k3];left;simp only[oCF,oBS];rw[dR (x:=(i:Int)+1) (by omega) (by omega)];refine⟨_,rfl,⟨i+1,by omega,rfl,λe he=>?_⟩,by simp only;omega⟩;rw[List.take_succ_eq_append_getElem ZT]at he;rcases List.mem_append.1 he with he|he
     ·exact hs e he
     ·rw[List.mem_singleton.1 he];exact⟨by omega,by omega,by omega⟩
   ·right;rw[oDF hn]
    have:i=l.length:=by omega
    rw[this,List.take_length]at hs
    exact⟨_,rfl,.inr ⟨⟨_,_,_,_,rfl⟩,hs⟩⟩) NN (l,l,(l.length:Int),0,()) ⟨0,by omega,rfl,by simp⟩ (by show((l.length:Int)-0).toNat<NN;unfold maxLen at hl;unfold NN;omega)
 rcases ht with rfl|⟨⟨x3,x4,x5,x6,rfl⟩,hs⟩
 ·exact⟨false,by simp only[e],λh=>by cases h⟩
 ·exact⟨decide ((l.length:Int)<=30),by simp only[e],λh=>⟨hs,by have:=of_decide_eq_true h;omega⟩⟩
def KV:List CT->CT
 | []=>.nat
 | [t]=>t
 |t::u::r=>.pair t (KV (u::r))
def sw:(l:List CT)->HL den l->den (KV l)
 | [],_=>(0:Nat)
 | [_],h=>h.1
 |_::u::r,h=>(h.1,sw (u::r) h.2)
def encL:(l:List CT)->HL den l->List TV
 | [],_=>[]
 |t::r,h=>enc t h.1++encL r h.2
theorem HO:∀(l:List CT)(h:HL den l),enc (KV l) (sw l h)=encL l h
 | [],_=>rfl
 | [_],h=>(List.append_nil _).symm
 |_::u::r,h=>by
  show enc _ h.1++enc (KV (u::r)) (sw (u::r) h.2)=_;rw[HO (u::r) h.2];rfl
def JA:(c:CT)->den c->Prop
 |.int k,n=>(Lit.int k n).wf=true
 |.str,s=>ByteArray.size s<=maxLen
 |.row _ t,xs=>List.length xs<=maxLen/\∀x∈xs,JA t x
 |.pair a b,x=>JA a x.1/\JA b x.2
 |_,_=>True
def GoodL:(l:List CT)->HL den l->Prop
 | [],_=>True
 |t::r,h=>JA t h.1/\GoodL r h.2
theorem EX:∀(l:List CT)(h:HL den l),GoodL l h->JA (KV l) (sw l h)
 | [],_,_=>trivial
 | [_],_,g=>g.1
 |_::u::r,h,g=>⟨g.1,EX (u::r) h.2 g.2⟩
def appL:(l m:List CT)->HL den l->HL den m->HL den (l++m)
 | [],_,_,k=>k
 |_::r,m,h,k=>(h.1,appL r m h.2 k)
theorem HP:∀(l m:List CT)(h:HL den l)(k:HL den m),encL (l++m) (appL l m h k)=encL l h++encL m k
 | [],_,_,_=>rfl
 |t::r,m,h,k=>by
  show enc t h.1++encL (r++m) (appL r m h.2 k)=(enc t h.1++encL r h.2)++_;rw[HP r m h.2 k,List.append_assoc]
theorem HD:∀(l m:List CT)(h:HL den l)(k:HL den m),GoodL l h->GoodL m k->GoodL (l++m) (appL l m h k)
 | [],_,_,_,_,g=>g
 |_::r,m,h,k,g,g'=>⟨g.1,HD r m h.2 k g.2 g'⟩
def RelL(w:World):List TV->List Value->Prop
 | [],[]=>True
 |t::ts,v::vs=>na w (λ_=>True) t v/\RelL w ts vs
 |_,_=>False
theorem RelL.app{w:World}:∀{a:List TV}{x:List Value}{b:List TV}{y:List Value},RelL w a x->RelL w b y->RelL w (a++b) (x++y)
 | [],[],_,_,_,h=>h
 |_::a,_::x,_,_,g,h=>⟨g.1,RelL.app (a:=a) (x:=x) g.2 h⟩
 | [],_::_,_,_,g,_=>g.elim
 |_::_,[],_,_,g,_=>g.elim
theorem RelL.len{w:World}:∀{a:List TV}{x:List Value},RelL w a x->a.length=x.length
 | [],[],_=>rfl
 |_::a,_::x,g=>by rw[oLC,oLC,RelL.len (a:=a) (x:=x) g.2]
 | [],_::_,g=>g.elim
 |_::_,[],g=>g.elim
theorem RelL.get{w:World}:∀{a:List TV}{x:List Value},RelL w a x->∀j (h:j<a.length)(h':j<x.length),na w (λ_=>True) a[j] x[j]
 |_::_,_::_,g,0,_,_=>g.1
 |_::a,_::x,g,j+1,h,h'=>RelL.get (a:=a) (x:=x) g.2 j (by simpa using h) (by simpa using h')
 | [],_,_,_,h,_=>by simp at h
 |_::_,[],g,_,_,_=>g.elim
def Qi(P:Program)(g:TypeId->Option (List CT)):Nat->List Field->Option (List CT)
 |_,[]=>some []
 |off,f::fs=>match g f.type with
  |some l=>if f.offset=off/\l.length=P.cellsOf f.type then(Qi P g (off+l.length) fs).map (l++·)else none
  |none=>none
def xW(P:Program):Nat->TypeId->Option (List CT)
 |0,_=>none
 |n+1,t=>match P.underlying t with
  |some .bool=>some [.bool]
  |some (.int k)=>some [.int k]
  |some .string=>some [.str]
  |some (.slice e)=>match xW P n e with
   |some l=>if l.length=P.cellsOf e then some [.row false (KV l)]else none
   |none=>none
  |some (.struct fs)=>match Qi P (xW P n) 0 fs.toList with
   |some l=>if l.length=P.cellsOf t then some l else none
   |none=>none
  |_=>none
section
variable {H:Type} {ec:TypeId×Value->H} {P:Program} {w:World} {base:Nat} {spare:Nat->Bool} {held:Bool}
theorem Li{g:TypeId->Option (List CT)}{m:Nat}{cs:List Value}
 (ih:∀t L,g t=some L->∀cs x,DataW.trod ec P w base spare held m t cs=some x->∃h:HL den L,GoodL L h/\RelL w (encL L h) cs):
 ∀(fs:List Field)(off:Nat)(L:List CT),Qi P g off fs=some L->(∀f∈fs,∃x,DataW.trod ec P w base spare held m f.type ((cs.drop f.offset).take (P.cellsOf f.type))=some x)->
  ∃h:HL den L,GoodL L h/\RelL w (encL L h) ((cs.drop off).take L.length):=by
 intro fs
 induction fs with
 |nil=>
  intro off L hL _
  injection hL with hL
  subst hL;exact⟨(),trivial,trivial⟩
 |cons f fs ihf=>
  intro off L hL hx;unfold Qi at hL;split at hL
  ·rename_i l hg;split at hL
   ·rename_i ho;obtain⟨rfl,hlen⟩:=ho
    cases hr:Qi P g (f.offset+l.length) fs with
    |none=>simp_all
    |some L2=>
     rw[hr]at hL
     injection hL with hL
     subst hL;obtain⟨x,h1⟩:=hx f List.mem_cons_self;obtain⟨h,g1,r1⟩:=ih _ _ hg _ _ h1;have ⟨k,g2,r2⟩:=ihf _ _ hr λf' B'=>hx f' (List.mem_cons_of_mem _ B');refine⟨appL l L2 h k,HD _ _ _ _ g1 g2,?_⟩;rw[HP,List.length_append,List.take_add,List.drop_drop];rw[hlen];rw[hlen]at r2;exact r1.app r2
   ·cases hL
  ·cases hL
theorem Qz:∀(n:Nat)(t:TypeId)(L:List CT),xW P n t=some L->∀(Vt:Nat)(cs:List Value)(x:DataW H×List MemPlace),DataW.trod ec P w base spare held Vt t cs=some x ->
 ∃h:HL den L,GoodL L h/\RelL w (encL L h) cs:=by
 intro n
 induction n with
 |zero=>intro t L h;cases h
 |succ n ih=>
  intro t L hL Vt cs x hx;unfold xW at hL;split at hL
  ·rename_i ht
   injection hL with hL
   subst hL;obtain⟨b,rfl,_⟩:=DataW.trod_bool ht hx;exact⟨(b,()),⟨trivial,trivial⟩,.v rfl,trivial⟩
  ·rename_i k ht
   injection hL with hL
   subst hL;obtain⟨z,rfl,_,hw⟩:=DataW.trod_int ht hx;exact⟨(z,()),⟨hw,trivial⟩,.v rfl,trivial⟩
  ·rename_i ht
   injection hL with hL
   subst hL;obtain⟨s,rfl,_,hs⟩:=DataW.trod_string ht hx;exact⟨(s,()),⟨hs,trivial⟩,.v rfl,trivial⟩
  ·rename_i e ht;split at hL
   ·rename_i l hl;split at hL
    ·rename_i hsz
     injection hL with hL
     subst hL
     rcases DataW.trod_slice ht hx with⟨rfl,_⟩|⟨a,len,cap,elems,rest,m,_,rfl,_,_,X2,hmax,YZ,Z5,_,_⟩
     ·exact⟨([],()),⟨⟨Nat.zero_le _,λx hx=>by cases hx⟩,trivial⟩,.sl (c:=[]) 1 (λ_ _=>undef) (λi h=>by simp at h) (Nat.le_refl _) (Nat.zero_le _) (λ_=>rfl) (λi j h=>by simp at h) (λi j h=>by simp at h),trivial⟩
     ·have each:∀i:Fin len,∃p:HL den l×List Value,GoodL l p.1/\RelL w (encL l p.1) p.2/\w.cells? base (a.add (i.1*P.cellsOf e)) (P.cellsOf e)=some p.2:=by
       intro i;have h1:=Z5 i.1 i.2;rw[oGE (by omega)]at h1;obtain⟨Z3,h2,h3⟩:=Option.bind_eq_some_iff.1 h1;obtain⟨h,g,r⟩:=ih _ _ hl _ _ _ h3;exact⟨(h,Z3),g,r,h2⟩
      obtain⟨f,hf⟩:=Classical.axiomOfChoice each
      have clen:∀i,(encL l (f i).1).length=l.length:=λi=>by
       rw[(hf i).2.1.len,(World.cells?_some (hf i).2.2).2.1,hsz]
      have key:na w (λ_=>True) (.sl ((List.ofFn λi:Fin len=>sw l (f i).1).map (enc (KV l)))) (.slice (some a) ((List.ofFn λi:Fin len=>sw l (f i).1).map (enc (KV l))).length cap):=by
       have el:((List.ofFn λi:Fin len=>sw l (f i).1).map (enc (KV l))).length=len:=by simp
       have eg:∀i (hi:i<((List.ofFn λi:Fin len=>sw l (f i).1).map (enc (KV l))).length),((List.ofFn λi:Fin len=>sw l (f i).1).map (enc (KV l)))[i]=encL l (f ⟨i,by omega⟩).1:=by
        intro i hi;simp[HO]
       refine .sl l.length (λi j=>if h:i<len then(f ⟨i,h⟩).2.getD j undef else undef) (λi hi=>by rw[eg i hi,clen]) (by rw[el];exact X2) hmax (λh=>by cases h) (λi j hi hj=>?_) (λi j hi hj=>?_)
       ·rw[el]at hi
        have cell:∀i' (Zu:i'<len) j',j'<l.length->w.cell? ((a.add (i'*l.length)).add j')=some ((f ⟨i',Zu⟩).2.getD j' undef):=by
         intro i' Zu j' ZU;have h1:=World.cells?_some (hf ⟨i',Zu⟩).2.2;have h2:=h1.2.2 j' (by omega);rw[hsz];rw[h2]
         have:j'<(f ⟨i',Zu⟩).2.length:=by rw[h1.2.1];omega
         simp[this]
        have h0:=World.cell?_spot (cell 0 (by omega) 0 (by omega));obtain⟨b,o,spot⟩:=a
        have Tq:spot=none:=by simpa[Addr.add]using h0
        subst Tq;refine⟨b,o,rfl,trivial,?_⟩;have h2:=cell i hi j hj;rw[Go.WideShapes.add_plain,Go.WideShapes.add_plain]at h2;rw[dif_pos hi,<- h2,Nat.add_assoc]
       ·rw[el]at hi;have hr:=(hf ⟨i,hi⟩).2.1
        have hj2:j<(encL l (f ⟨i,hi⟩).1).length:=by rw[eg i (by omega)]at hj;exact hj
        have T5:j<(f ⟨i,hi⟩).2.length:=by rw[<- hr.len];exact hj2
        have h3:=hr.get j hj2 T5
        simp_all
      rw[List.length_map,List.length_ofFn]at key;refine⟨(List.ofFn λi:Fin len=>sw l (f i).1,()),⟨⟨by rw[List.length_ofFn];omega,λx hx=>?_⟩,trivial⟩,key,trivial⟩;obtain⟨i,rfl⟩:=List.mem_ofFn.1 hx;exact EX _ _ (hf i).1
    ·cases hL
   ·cases hL
  ·rename_i fs ht;split at hL
   ·rename_i l hl;split at hL
    ·rename_i hsz
     injection hL with hL
     subst hL;obtain⟨xs,m,_,_,hlen,Sf,hf⟩:=DataW.trod_struct ht hx
     obtain⟨h,g,r⟩:=Li (cs:=cs) (m:=m) (λt L hL cs x hx=>ih t L hL m cs x hx) fs.toList 0 l hl (by
      intro f hfm;obtain⟨i,hi,rfl⟩:=List.mem_iff_getElem.1 hfm
      have ZT:i<fs.size:=by simpa using hi
      have h1:=hf i fs[i] (by simp[ZT]);rw[oGE (by omega)]at h1
      exact⟨_,by simpa using h1⟩)
     refine⟨h,g,?_⟩;rw[List.drop_zero,hsz,<- hlen,List.take_length]at r;exact r
    ·cases hL
   ·cases hL
  ·cases hL
theorem intake_arg(n:Nat){t:TypeId}{L:List CT}{v:Value}{d:DataW H}{p:List MemPlace}(hL:xW P n t=some L)(h:DataW.Trod ec P w base spare held t v d p):
 ∃h:HL den L,GoodL L h/\RelL w (encL L h) v.cells.toList:=by
 have ⟨Vt,hf⟩:=h;exact Qz n t L hL Vt _ _ hf
end
theorem plain_one{w:World}{t:TV}{v:Value}(r:RelL w [t] [v]):GR w t v:=r.1.plain
theorem QB{h:den RI}(g:JA RI h):(∀z∈(show List Int from h),PZ z)/\(show List Int from h).length<=maxLen:=⟨λz hz=>bounds_i64 (g.2 z hz),g.1⟩
theorem NE{raw z:List DEn}{n i:Int}{l:List Int}{k:Int}{L:List (List DEn)}(hz:∀e∈z,EnB e)(hl:z.length<=1000):
 dZ fL NN (raw,z,n,i,z,(z.length:Int),0,l,k,L,())=some (.inr (raw,z,n,i,z,(z.length:Int),(z.length:Int),false,l,k,L,())):=by
 refine s6 (f:=fL) (N:=NN) (st:=λq=>(raw,z,n,i,z,(z.length:Int),(q:Int),l,k,L,())) (n:=z.length) (by unfold NN;omega) ?_ ?_
 ·intro q hq;unfold fL;dsimp only;obtain⟨b,e1,e2,_⟩:=xP (hz _ (List.getElem_mem hq));unfold enV at e1;unfold QG at e2;rw[oDT (show(q:Int)<(z.length:Int) by omega)];simp only[oCT,dO,oBS,dM,oGE hq];rw[e1];simp only[oBS];rw[e2];simp only[oBS,beq_self_eq_true,oNT,oCF];rw[dR (x:=(q:Int)+1) (by omega) (by omega)];exact Ok.ret rfl
 ·unfold fL;dsimp only;rw[oDF (show ¬(z.length:Int)<(z.length:Int) by omega)];exact Ok.ret rfl
theorem ND{raw:List DEn}{l:List Int}{k:Int}{L:List (List DEn)}(hL:∀z∈L,(∀e∈z,EnB e)/\z.length<=250)(hn:L.length<=1000):
 dZ fK NN (raw,(L.length:Int),0,l,k,L,())=some (.inr (raw,(L.length:Int),(L.length:Int),false,l,k,L,())):=by
 refine s6 (f:=fK) (N:=NN) (st:=λq=>(raw,(L.length:Int),(q:Int),l,k,L,())) (n:=L.length) (by unfold NN;omega) ?_ ?_
 ·intro q hq;obtain⟨hz,WF⟩:=hL _ (List.getElem_mem hq);have hs:∀e∈L[q],EnS e:=λe he=>(hz e he).1;obtain⟨bs,er,e1,e2⟩:=RC hz WF;obtain⟨r,e3,g3⟩:=DB (a:=L[q]) (b:=L[q]) hs (by omega);obtain rfl:r=true:=g3.2 rfl;obtain⟨r1,e4,g4⟩:=DB (a:=L[q]) (b:=raw) hs (by omega);obtain⟨r2,e5,g5⟩:=Nx (a:=L[q]) (b:=raw) hs (by omega)
  obtain rfl:r1=r2:=by rw[Bool.eq_iff_iff,g4,g5]
  unfold fK;delta dQ;dsimp only;rw[oDT (show(q:Int)<(L.length:Int) by omega)];simp only[oCT,dO,oBS,dM,oGE hq];rw[NE hz (by omega)]
  have ht:P1 (Dc bs) (Dc bs)=true:=by simp[P1]
  simp only[e1,e2,oBS,ht,oNT,oCF,bne_self_eq_false,Fa hs (show L[q].length<=1000 by omega),e3,e4,e5,beq_self_eq_true];rw[dR (x:=(q:Int)+1) (by omega) (by omega)];exact Ok.ret rfl
 ·unfold fK;dsimp only;rw[oDF (show ¬(L.length:Int)<(L.length:Int) by omega)];exact Ok.ret rfl
theorem NC{x:List DEn}(hx:∀e∈x,EnB e)(hl:x.length<=1000):∃a b y,dZ gE NN ((x.length:Int),0,x,())=some (a,b,false,y,())/\(∀e∈y,EnB e)/\y.length=x.length:=by
 obtain⟨t,e,a,b,y,rfl,hy,TC⟩:=gd (f:=gE)
  (λs=>∃(i:Nat)(y:List DEn),i<=x.length/\s=((x.length:Int),(i:Int),y,())/\(∀e∈y,EnB e)/\y.length=x.length)
  (λt=>∃a b y,t=(a,b,false,y,())/\(∀e∈y,EnB e)/\y.length=x.length)
  (λs=>(s.1-s.2.1).toNat) (by
   rintro _ ⟨i,y,hi,rfl,hy,TC⟩;unfold gE;dsimp only;by_cases hn:(i:Int)<x.length
   ·left
    have ZT:i<y.length:=by omega
    rw[oDT hn];simp only[oCT,dO,oBS,dM,oGE ZT];rw[dR (x:=(i:Int)+1) (by omega) (by omega)];exact⟨_,rfl,⟨i+1,_,by omega,rfl,KY hy (λ_ _=>enB_mk hS hS hS AU AU zT AU) _,by rw[oLM];exact TC⟩,by dsimp only;omega⟩
   ·right;rw[oDF hn]
    exact⟨_,rfl,_,_,_,rfl,hy,TC⟩) NN ((x.length:Int),0,x,()) ⟨0,x,by omega,rfl,hx,rfl⟩ (by show((x.length:Int)-0).toNat<NN;unfold NN;omega)
 exact⟨a,b,y,e,hy,TC⟩
theorem PG{raw:List DEn}{l:List Int}(hr:raw.length<=maxLen)(hT:∀e∈raw,EnS e->EnB e)(h1:DOk l 0):jT raw l=some (true,()):=by
 refine ff ?_;unfold jT;obtain⟨b,eb,hb⟩:=M8 hr;rw[eb];simp only[oBS]
 cases b with
 |false=>
  simp only[Bool.not_false,oCT,LW,oBS];exact Ok.ret rfl
 |true=>
  obtain⟨hs,hl⟩:=hb rfl;simp only[oNT,oCF];refine(A3 h1).bind ?_;rintro _ ⟨x,k1,rfl,hx,Sf,d1⟩;dsimp only;refine(A3 d1).bind ?_;rintro _ ⟨y,k2,rfl,hy,TC,d2⟩
  have h2:=ND (raw:=raw) (l:=l) (k:=k2) (L:=[raw,x,y]) (λz hz=>by
   simp only[List.mem_cons,List.not_mem_nil,or_false]at hz;rcases hz with rfl|rfl|rfl
   ·exact⟨λe he=>hT e he (hs e he),by omega⟩
   ·exact⟨hx,by omega⟩
   ·exact⟨hy,by omega⟩) (by simp)
  delta dQ;dsimp only;rw[h2];dsimp only;refine fv d2 (by decide) (by decide) λv k3 v0 v1 d3=>?_;dsimp only;rw[dR (x:=200+v) (by omega) (by omega)]
  obtain⟨n,hn,hn2⟩:∃n:Nat,200+v=n/\(n=200\/n=201):=by
   by_cases h:v=0
   ·exact⟨200,by omega,.inl rfl⟩
   ·exact⟨201,by omega,.inr rfl⟩
  rw[hn];simp only[dO,oBS];refine dK (by rcases hn2 with rfl|rfl<;>rfl) ?_
  obtain⟨a,c,z,e3,hz,WF⟩:=NC (x:=List.replicate n (0,(0,(0,(0,(0,(0,(0,(0,(0,([],([],(0,(0,(0,(0,([],(0,false)))))))))))))))))) (λe he=>by
   rw[List.eq_of_mem_replicate he]
   exact enB_mk hS hS hS AU AU zT AU) (by rw[List.length_replicate];omega)
  rw[e3];rw[List.length_replicate]at WF;obtain⟨bs,er,e4,e5⟩:=RC hz (by omega);simp only[oBS,e4,e5,beq_self_eq_true,oCT,LW];exact Ok.ret rfl
theorem Q5{x:Int}(h:(Lit.int .u16 x).wf=true):0<=x/\x<=65535:=by
 simp[Lit.wf,IntKind.min,IntKind.max,IntKind.signed,IntKind.bits]at h;omega
theorem law_RecordCodes{h0:HL den [jw]}{h1:HL den [RI]}(g0:GoodL _ h0)(g1:GoodL _ h1):nO.g (appL _ _ h0 (appL _ _ h1 ()))=some (true,()):=
 PG g0.1.1 (λe he hs=>(λg=>⟨hs,λc hc=>Q5 ((g.2.2.2.2.2.2.2.2.2.1).2 c hc).2.1,λc hc=>Q5 ((g.2.2.2.2.2.2.2.2.2.2.1).2 c hc).2.1,Q5 g.2.2.2.2.2.2.2.2.2.2.2.2.1,λc hc=>Q5 ((g.2.2.2.2.2.2.2.2.2.2.2.2.2.2.2.1).2 c hc).2.1⟩) (g0.1.2 e he)) (.start (QB g1.1).1 (QB g1.1).2)
end Go.Proofs.YtoldehogdgdhmaaGreat
