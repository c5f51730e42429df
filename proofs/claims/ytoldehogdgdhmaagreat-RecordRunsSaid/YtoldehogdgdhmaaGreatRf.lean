/- Part of the proof; no condition. -/
import Derived.Test.YtoldehogdgdhmaaGreatRe
import Derived.Deep.Slices
set_option linter.unusedVariables false
set_option linter.unusedSimpArgs false
namespace Go.Proofs.YtoldehogdgdhmaaGreat
open Go.RowKit
theorem ur{ss:List Int}{t v rg o sp:Int}{dat:List DCn}{w:Bool}(hs:yM ss)(hv:Pr ss (t,v,rg,o))(hd:dat.length<=16/\∀c∈dat,Pr ss c)(ZF:-1<=sp/\sp<=3):jU t v rg o dat sp w=some (true,()):=by
 refine eZ ?_;unfold jU;rw[show gN t v rg o=some (true,())from D7 hs hv,mA hs hd.2 (by omega) (by omega)];refine dH (oDT ZF.1) ?_;exact Ok.ret (by rw[oDT (show sp<4 by omega)])
theorem QA{n m key:Int}{code:List DIn}{ss bs:List Int}{dd:List (List Int)}{cs:List DCe}{ls:List DLn}{ts:List DTh}{i:Nat}{trap count pc call:Int}{args data:List DCn}{t v rg o sp:Int}{dat:List DCn}{w:Bool}(hp:lR code ss dd)(h:MOk n ss bs cs ls ts)(hi:i<4)
 (hn:n<=1099511627776)(hm:m<=1099511627776)(hR:sH m ss (i:Int) 1 trap count pc call args data)(hv:Pr ss (t,v,rg,o))(hd:dat.length<=16/\∀c∈dat,Pr ss c)(ZF:-1<=sp/\sp<=3):
 Ok (kN code ss dd bs key cs ls ts (i:Int) 1 trap count pc call args data t v rg o dat sp w) λr=>∃Z5 Z2 ZP b,r=(bs,key,Z5,Z2,ZP,b,())/\MOk n ss bs Z5 Z2 ZP:=by
 have Yc:=h.tlen;obtain⟨Zy,Yp⟩:=hR.hkind rfl;obtain⟨th,Zv⟩:∃th,ts[i]?=some th:=⟨_,oGE (by omega)⟩;have hok:=h.thr th (dP Zv)
 have Y0:=by omega
 have hg:dJ ts i=some th:=Zv;unfold kN;delta dO;rw[re hp h hn,rd hp.sz hR hm,q7 hR.hcall,ur hp.sz hv hd ZF,Zy];simp only[oBS,oNT,oCF,bne_self_eq_false,dL,hg];by_cases h2:th.1=2
 ·simp only[bne_eq_false_iff_eq.2 h2,oCF,qz h,oBS,dL,hg];by_cases hc0:call=0
  ·subst hc0;obtain⟨a,ha⟩:∃a,args[0]?=some a:=⟨_,oGE (by rw[Zy];decide)⟩;have hva:=(hR.hargs.2 a (dP ha)).val;simp only[BEq.rfl,oCT,show dJ args 0=some a from ha,oBS];unfold kO i8;rw[dU (show 4<=1000/\0+th.2.1.length<=1000000 by have:=hok.len;omega)];simp only[oCT,oBS,dX Zv];exact Ok.ret ⟨_,_,_,_,rfl,h.set h.mem ⟨⟨show(0:Int)<=4 by decide,show(4:Int)<=4 by decide⟩,by dsimp only;rw[fq];simpa using hok.len,gU ek hok.regs,hok.pc,hok.count,hok.handler,hok.saved,⟨show(0:Int)<=0 by decide,show(0:Int)<=6 by decide⟩,hva⟩⟩
  ·simp only[oBF hc0,oCF]
   cases w with
   |true=>
    simp only[oCT,dX Zv];exact Ok.ret ⟨_,_,_,_,rfl,h.set h.mem ⟨⟨show(0:Int)<=3 by decide,show(3:Int)<=4 by decide⟩,hok.len,hok.regs,hok.pc,hok.count,hok.handler,hok.saved,hok.trap,hok.code⟩⟩
   |false=>
    refine(Lz h hi hR hv hd ZF).bind ?_;rintro _ ⟨b,Z5,Z2,ZP,rfl,hb⟩;dsimp only
    cases b with
    |true=>exact Ok.ret ⟨_,_,_,_,rfl,hb rfl⟩
    |false=>exact Ok.ret ⟨_,_,_,_,rfl,h⟩
 ·simp only[bne_iff_ne.2 h2,oCT];exact Ok.ret ⟨_,_,_,_,rfl,h⟩
def OE(st:List Int)(i:Nat)(call:Int)(w:Bool)(sp:Int):List Int:=if sp=-1 then st.set i (if call=0 then 4 else if w=true then 3 else 1)else(st.set i (if call=0 then 4 else if w=true then 3 else 1)).set sp.toNat 1
theorem Qs{n m key:Int}{code:List DIn}{ss bs:List Int}{dd:List (List Int)}{cs:List DCe}{ls:List DLn}{ts:List DTh}{i:Nat}{trap count pc call:Int}{args data:List DCn}{t v rg o sp:Int}{dat:List DCn}{w:Bool}(hp:lR code ss dd)(h:MOk n ss bs cs ls ts)(hi:i<4)
 (hn:n<=1099511627776)(hm:m<=1099511627776)(hR:sH m ss (i:Int) 1 trap count pc call args data)(hv:Pr ss (t,v,rg,o))(hd:dat.length<=16/\∀c∈dat,Pr ss c)(ZF:-1<=sp/\sp<=3){th:DTh}(Zv:ts[i]?=some th)(h2:th.1=2)(hF:KN ss call args)(hD:OY call args dat)(hS:sp=-1\/(call=10/\w=false/\∃j:Nat,sp=j/\j<4/\∃tj,ts[j]?=some tj/\tj.1=0)):
 Ok (kN code ss dd bs key cs ls ts (i:Int) 1 trap count pc call args data t v rg o dat sp w) λr=>∃Z5 Z2 ZP b,r=(bs,key,Z5,Z2,ZP,b,())/\MOk n ss bs Z5 Z2 ZP/\ZP.map (·.1)=OE (ts.map (·.1)) i call w sp:=by
 have Yc:=h.tlen;obtain⟨Zy,Yp⟩:=hR.hkind rfl;have hok:=h.thr th (dP Zv);have Y0:=(oGS Zv).1;have hg:dJ ts i=some th:=Zv;unfold kN;delta dO;rw[re hp h hn,rd hp.sz hR hm,q7 hR.hcall,ur hp.sz hv hd ZF,Zy];simp only[oBS,oNT,oCF,bne_self_eq_false,dL,hg]
 ·simp only[bne_eq_false_iff_eq.2 h2,oCF,qz h,oBS,dL,hg];by_cases hc0:call=0
  ·subst hc0;obtain⟨a,ha⟩:∃a,args[0]?=some a:=⟨_,oGE (by rw[Zy];decide)⟩;have hva:=(hR.hargs.2 a (dP ha)).val;simp only[BEq.rfl,oCT,show dJ args 0=some a from ha,oBS];unfold kO i8;rw[dU (show 4<=1000/\0+th.2.1.length<=1000000 by have:=hok.len;omega)];simp only[oCT,oBS,dX Zv]
   exact Ok.ret ⟨_,_,_,_,rfl,h.set h.mem ⟨⟨show(0:Int)<=4 by decide,show(4:Int)<=4 by decide⟩,by dsimp only;rw[fq];simpa using hok.len,gU ek hok.regs,hok.pc,hok.count,hok.handler,hok.saved,⟨show(0:Int)<=0 by decide,show(0:Int)<=6 by decide⟩,hva⟩,by
    rcases hS with rfl|⟨ZT,_⟩
    ·rw[List.map_set];rfl
    ·exact absurd ZT (by decide)⟩
  ·simp only[oBF hc0,oCF]
   cases w with
   |true=>
    simp only[oCT,dX Zv]
    exact Ok.ret ⟨_,_,_,_,rfl,h.set h.mem ⟨⟨show(0:Int)<=3 by decide,show(3:Int)<=4 by decide⟩,hok.len,hok.regs,hok.pc,hok.count,hok.handler,hok.saved,hok.trap,hok.code⟩,by
     rcases hS with rfl|⟨_,hw,_⟩
     ·rw[List.map_set];unfold OE;rw[oIP rfl,oIN hc0,oIP rfl]
     ·cases hw⟩
   |false=>
    simp only[oCF];refine(NY h hi hR hv hd hF hD (hS.imp id λ⟨a,_,b⟩=>⟨a,b⟩)).bind ?_;rintro _ ⟨Z5,Z2,ZP,rfl,hb,hst⟩;dsimp only;refine Ok.ret ⟨_,_,_,_,rfl,hb,?_⟩;rw[hst];unfold Ay OE;rw[oIN hc0,oIN (show ¬false=true by decide)];by_cases hm:sp=-1
    ·rw[oIP hm,oIP hm]
    ·rw[oIN hm,oIN hm];rcases hS with hS|⟨_,_,j,rfl,_,tj,XA,h0⟩
     ·exact absurd hS hm
     ·rw[oTN];refine List.set_comm _ _ (λe=>?_);subst e;rw[Zv]at XA
      injection XA with XA
      rw[XA]at h2;omega
theorem M3{n key:Int}{code:List DIn}{ss bs:List Int}{dd:List (List Int)}{cs:List DCe}{ls:List DLn}{ts:List DTh}{i:Nat}{t v rg o sp:Int}{dat:List DCn}{w:Bool}(hp:lR code ss dd)(h:MOk n ss bs cs ls ts)
 (hn:n<=1099511627776)(hv:Pr ss (t,v,rg,o))(hd:dat.length<=16/\∀c∈dat,Pr ss c)(ZF:-1<=sp/\sp<=3){th:DTh}(Zv:ts[i]?=some th)(h3:th.1=3):
 Ok (lp code ss dd bs key cs ls ts (i:Int) t v rg o dat sp w) λr=>∃Z5 Z2 ZP b,r=(bs,key,Z5,Z2,ZP,b,())/\MOk n ss bs Z5 Z2 ZP/\ZP.map (·.1)=(ts.map (·.1)).set i 1:=by
 have Yc:=h.tlen;obtain⟨Xm,Zh⟩:=xt (key:=key) h.lay hv;dsimp only at Xm;unfold lp;rw[re hp h hn,ur hp.sz hv hd ZF];simp only[oBS,oNT,oCF];have hil0:=(oGS Zv).1
 have h1:¬(i:Int)<0:=by omega
 have h2:¬(i:Int)>=4:=by omega
 have hok:=h.thr th (dP Zv);have Y0:=(oGS Zv).1;have hg:dJ ts i=some th:=Zv;obtain⟨c,hc0⟩:∃c,th.2.1[0]?=some c:=⟨_,oGE (by have:=hok.len;omega)⟩;simp only[oDF h1,oDF h2,oCF,dL,oBS,hg]
 ·simp only[bne_eq_false_iff_eq.2 h3,oCF,Xm,oBS,bne_self_eq_false,qz h,dL,hg,show dJ th.2.1 0=some c from hc0,dX Zv,dX hc0,f9 Y0,my Y0];exact Ok.ret ⟨_,_,_,_,rfl,h.set h.mem ⟨⟨show(0:Int)<=1 by decide,show(1:Int)<=4 by decide⟩,by dsimp only;rw[List.length_set];exact hok.len,km hok.regs Zh,hok.pc,hok.count,hok.handler,hok.saved,hok.trap,hok.code⟩,by rw[List.map_set]⟩
theorem H4{n key:Int}{ss bs:List Int}{cs:List DCe}{ls:List DLn}{ts:List DTh}(h:MOk n ss bs cs ls ts)(i:Int):Ok (jT bs key cs ls ts i) λr=>∃ZP b,r=(bs,key,cs,ls,ZP,b,())/\MOk n ss bs cs ls ZP/\∀(j:Nat) t',ZP[j]?=some t'->∃t,ts[j]?=some t/\t'.1=t.1:=by
 unfold jT;rw[qz h];simp only[oBS];refine(MW h i).bind ?_;rintro⟨b,_⟩ hb;dsimp only at hb⊢
 (with_reducible refine dF (λZ9=>?_) λZ9=>?_)
 ·exact Ok.ret ⟨ts,false,rfl,h,λj t' e=>⟨t',e,rfl⟩⟩
 ·have hb:=hb Z9;have Yc:=h.tlen;obtain⟨ZJ,ZU,Vf⟩:=hb;refine Ok.nat ZJ λj hj=>?_;subst hj;refine Ok.get (by omega) λt ht=>?_;refine Ok.get (by omega) λt1 Xz=>?_;refine Ok.get (by omega) λt2 YO=>?_;refine Ok.get (by omega) λt3 Vl=>?_;rw[ht]at Xz YO Vl
  injection Xz with Xz
  injection YO with YO
  subst Xz YO;refine Ok.get (by rw[oLM];omega) λt4 Tw=>?_;have hne:=Vf t (by rw[oTN];exact ht);have hok:=h.thr t (dP ht);rw[iT];refine Ok.ret ⟨_,_,rfl,h.thread ht ⟨hok.state,hok.len,hok.regs,⟨by have:=hok.handler;dsimp only;omega,hok.handler.2⟩,hok.count,hok.handler,⟨by have:=hok.pc;dsimp only;omega,hok.pc.2⟩,hok.trap,hok.code⟩,λu t' e=>?_⟩;rw[List.getElem?_modify]at e
  cases hu:ts[u]? with
  |none=>rw[hu]at e;split at e<;>cases e
  |some t0=>
   rw[hu]at e;refine⟨t0,rfl,?_⟩;split at e<;>(injection e with e;rw[<- e])
def OU(qs:List (List Int))(ts:List DTh)(js:List Int):Prop:=(∀x,InQ qs x->∃(i:Nat)(t:DTh),x=i/\ts[i]?=some t/\t.1=3/\js[i]?=some (-1))/\∀(i:Nat)(j:Int),js[i]?=some j->j≠-1->∃t,ts[i]?=some t/\t.1=3
structure g8 (n:Int)(q:Nat)(code:List DIn)(ss:List Int)(dt:List (List Int))(bs:List Int)(cs:List DCe)(ls:List DLn)(ts:List DTh)(ck rn:List Int)(ins:List (List Int))(d:List (List DCn))(os:List DOp)(us:List DOu)(ow:List Int)(qs:List (List Int))(rec:List DEn)(js:List Int):Prop where
 prog:lR code ss dt
 mach:MOk n ss bs cs ls ts
 outs:rI ss ck rn ins d os us
 lock:ib ow qs
 rlen:rec.length<=q
 jlen:js.length=4
 rent:∀e∈rec,As e
 jne:OW js
 xst:∃la:List DLa,la.length=4/\uq rec s0=some (ts.map (·.1),la)
 xou:CE rec=us
 xq:OU qs ts js
 xx:yK qs
def Qq(n key:Int)(q:Nat)(code:List DIn)(ss:List Int)(dt:List (List Int))(bs:List Int)(r:(List DIn)×(List (Int))×(List (List (Int)))×(List (Int))×Int×(List DCe)×(List DLn)×(List DTh)×(List (Int))×(List (Int))×(List (List (Int)))×(List (List DCn))×(List DOp)×(List DOu)×(List (Int))×(List (List (Int)))×(List DEn)×(List (Int))×Unit):Prop:=
 ∃cs ls ts ck rn ins d os us ow qs rec js,r=(code,ss,dt,bs,key,cs,ls,ts,ck,rn,ins,d,os,us,ow,qs,rec,js,())/\g8 n q code ss dt bs cs ls ts ck rn ins d os us ow qs rec js
theorem xg{st:List Int}{ZP:List DTh}{k:Nat}{x:Int}(e:ZP.map (·.1)=st)(h:st[k]?=some x):∃t',ZP[k]?=some t'/\t'.1=x:=by
 rw[<- e,List.getElem?_map]at h
 cases ht:ZP[k]? with
 |none=>rw[ht]at h;cases h
 |some t=>rw[ht]at h;injection h with h;exact⟨t,rfl,h⟩
theorem wn{ts:List DTh}{k:Nat}{t:DTh}(h:ts[k]?=some t):(ts.map (·.1))[k]?=some t.1:=by rw[List.getElem?_map,h];rfl
theorem g8.woken{n:Int}{q:Nat}{code:List DIn}{ss:List Int}{dt:List (List Int)}{bs:List Int}{cs Z5:List DCe}{ls Z2:List DLn}{ts ZP:List DTh}{ck rn:List Int}{ins:List (List Int)}{d:List (List DCn)}{os:List DOp}{us:List DOu}{ow:List Int}{qs:List (List Int)}{rec:List DEn}{js:List Int}{i:Nat}{v:Int}{th:DTh}
 (h:g8 n q code ss dt bs cs ls ts ck rn ins d os us ow qs rec js)(Zv:ts[i]?=some th)(h3:th.1=3)(SC:¬InQ qs i)(hv:W16 v)(hM:MOk n ss bs Z5 Z2 ZP)(hst:ZP.map (·.1)=(ts.map (·.1)).set i 1):
 g8 n (q+1) code ss dt bs Z5 Z2 ZP ck rn ins d os us ow qs (List.append rec [(4,(i:Int),0,0,0,0,0,0,0,[],[],0,v,0,0,[],-1,false)]) (js.set i (-1)):=by
 have Yc:=h.mach.tlen;have Y0:=(oGS Zv).1
 have hi:i<4:=by omega
 have hc:lS (0,v,0,0):=(fW hv).cell h.prog.sz;obtain⟨la,WQ,YL⟩:=h.xst;have keep:∀(k:Nat)(t:DTh),k≠i->ts[k]?=some t->∃t',ZP[k]?=some t'/\t'.1=t.1:=λk t hk ht=>xg hst (by rw[List.getElem?_set_ne (Ne.symm hk)];exact wn ht);refine⟨h.prog,hM,h.outs,h.lock,by have:=h.rlen;rw[fq];simp;omega,by rw[List.length_set];exact h.jlen,Gz h.rent (.wake (by omega) hc),h.jne.set (by omega),⟨la,WQ,?_⟩,?_,⟨λx hx=>?_,λk j hk hj=>?_⟩,h.xx⟩
 ·show uq (rec++[_]) s0=_;rw[oQ,YL,hst];show(stp _ _).bind (λs=>some s)=_;rw[KY hi (by rw[<- h3];exact wn Zv) hc];rfl
 ·show CE (rec++[_])=us;rw[s8,h.xou];simp[zX]
 ·obtain⟨k,t,rfl,hk,Vl,hj⟩:=h.xq.1 x hx;have hki:k≠i:=λe=>SC (e▸hx);obtain⟨t',ZR,e⟩:=keep k t hki hk;exact⟨k,t',rfl,ZR,by rw[e,Vl],by rw[List.getElem?_set_ne (Ne.symm hki)];exact hj⟩
 ·rcases nS hk with⟨_,e⟩|⟨hne,hk⟩
  ·exact absurd e hj
  ·obtain⟨t,ht,Vl⟩:=h.xq.2 k j hk hj;obtain⟨t',ZR,e⟩:=keep k t (Ne.symm hne) ht;exact⟨t',ZR,by rw[e,Vl]⟩
theorem Iu{n:Int}{q:Nat}{code:List DIn}{ss:List Int}{dt:List (List Int)}{bs:List Int}{key:Int}{cs:List DCe}{ls:List DLn}{ts:List DTh}{ck rn:List Int}{ins:List (List Int)}{d:List (List DCn)}{os:List DOp}{us:List DOu}{ow:List Int}{qs:List (List Int)}{rec:List DEn}{js:List Int}{i:Nat}{v:Int}{th:DTh}(h:g8 n q code ss dt bs cs ls ts ck rn ins d os us ow qs rec js)(hn:n<=1099511627776)(hq:q<=900)(hv:W16 v)(Zv:ts[i]?=some th)(h3:th.1=3)(SC:¬InQ qs i)(hjs:js[i]?=some (-1)):
 Ok (m9 (i:Int) v code ss dt bs key cs ls ts ck rn ins d os us ow qs rec js) (Qq n key (q+1) code ss dt bs):=by
 unfold m9;rw[dT (x:=v) (by have:=hv.1;omega) (by have:=hv.2;omega)];obtain⟨v2,ev,XB⟩:=fk v true;simp only[ev,oBS];refine(M3 h.prog h.mach hn (fW XB) ⟨by decide,ek⟩ (by decide) Zv h3).bind ?_;rintro _ ⟨Z5,Z2,ZP,b,rfl,hM,hst⟩;dsimp only;have hr:=h.rlen;refine dH (dU (by simp;omega)) ?_;have hW:=h.woken Zv h3 SC XB hM hst;rw[wJ hjs]at hW;exact Ok.ret ⟨_,_,_,_,_,_,_,_,_,_,_,_,_,rfl,hW⟩
theorem FJ{n:Int}{q:Nat}{code:List DIn}{ss:List Int}{dt:List (List Int)}{bs:List Int}{key:Int}{cs:List DCe}{ls:List DLn}{ts:List DTh}{ck rn:List Int}{ins:List (List Int)}{d:List (List DCn)}{os:List DOp}{us:List DOu}{ow:List Int}{qs:List (List Int)}{rec:List DEn}{js:List Int}{i:Nat}{v:Int}{th:DTh}(h:g8 n q code ss dt bs cs ls ts ck rn ins d os us ow qs rec js)(hn:n<=1099511627776)(hq:q<=900)(hv:W16 v)(Zv:ts[i]?=some th)(h3:th.1=3)(SC:¬InQ qs i):
 Ok (i6 (i:Int) v code ss dt bs key cs ls ts ck rn ins d os us ow qs rec) λr=>∃Z5 Z2 ZP Tc,r=(code,ss,dt,bs,key,Z5,Z2,ZP,ck,rn,ins,d,os,us,ow,qs,Tc,())/\g8 n (q+1) code ss dt bs Z5 Z2 ZP ck rn ins d os us ow qs Tc (js.set i (-1))/\ZP.map (·.1)=(ts.map (·.1)).set i 1:=by
 unfold i6;rw[dT (x:=v) (by have:=hv.1;omega) (by have:=hv.2;omega)];obtain⟨v2,ev,XB⟩:=fk v true;simp only[ev,oBS];refine(M3 h.prog h.mach hn (fW XB) ⟨by decide,ek⟩ (by decide) Zv h3).bind ?_;rintro _ ⟨Z5,Z2,ZP,b,rfl,hM,hst⟩;dsimp only;have hr:=h.rlen;refine dH (dU (by simp;omega)) ?_;exact Ok.ret ⟨_,_,_,_,rfl,h.woken Zv h3 SC XB hM hst,hst⟩
def SpP(ts:List DTh)(call:Int)(w:Bool)(sp:Int):Prop:=sp=-1\/(call=10/\w=false/\∃j:Nat,sp=j/\j<4/\∃tj,ts[j]?=some tj/\tj.1=0)
def QjP(ow:List Int)(qs:List (List Int))(js:List Int)(i:Nat)(call:Int)(args:List DCn)(w:Bool)(Zi:List Int)(qs':List (List Int))(W3:List Int):Prop:=
 (w=false/\W3=js/\((call≠9/\qs'=qs)\/(call=9/\∃(a:DCn)(nx:Int)(b:Bool),args[0]?=some a/\gM ow qs a.2.1 (i:Int)=some (Zi,qs',nx,b,()))))\/
 (w=true/\call≠0/\call≠9/\((W3=js/\KL qs i 1 qs')\/(qs'=qs/\∃k:Int,k≠-1/\k≠i/\W3=js.set i k)))
def Qu(n key:Int)(code:List DIn)(ss:List Int)(dt:List (List Int))(bs:List Int)(cs:List DCe)(ls:List DLn)(ts:List DTh)(us:List DOu)(ow:List Int)(qs:List (List Int))(rec:List DEn)(js:List Int)(i:Nat)(call:Int)(args data:List DCn)(r:Int×Int×Int×Int×(List DCn)×Int×Bool×(List DIn)×(List (Int))×(List (List (Int)))×(List (Int))×Int×(List DCe)×(List DLn)×(List DTh)×(List (Int))×(List (Int))×(List (List (Int)))×(List (List DCn))×(List DOp)×(List DOu)×(List (Int))×(List (List (Int)))×(List DEn)×(List (Int))×Unit):Prop:=
 ∃t v rg o dat sp w ck rn ins d os Yj Zi qs' W3,r=(t,v,rg,o,dat,sp,w,code,ss,dt,bs,key,cs,ls,ts,ck,rn,ins,d,os,Yj,Zi,qs',rec,W3,())/\rI ss ck rn ins d os Yj/\ib Zi qs'/\Pr ss (t,v,rg,o)/\(dat.length<=16/\∀c∈dat,Pr ss c)/\(-1<=sp/\sp<=3)/\KM us Yj call args data t v/\OY call args dat/\SpP ts call w sp/\QjP ow qs js i call args w Zi qs' W3
set_option maxHeartbeats 4000000 in
theorem JB{n m:Int}{q:Nat}{code:List DIn}{ss:List Int}{dt:List (List Int)}{bs:List Int}{key:Int}{cs:List DCe}{ls:List DLn}{ts:List DTh}{ck rn:List Int}{ins:List (List Int)}{d:List (List DCn)}{os:List DOp}{us:List DOu}{ow:List Int}{qs:List (List Int)}{rec:List DEn}{js:List Int}{i:Nat}{trap count pc call:Int}{args data:List DCn}(h:g8 n q code ss dt bs cs ls ts ck rn ins d os us ow qs rec js)(hi:i<4)(hm:m<=1099511627776)(hR:sH m ss (i:Int) 1 trap count pc call args data):
 Ok (jO (i:Int) 1 trap count pc call args data code ss dt bs key cs ls ts ck rn ins d os us ow qs rec js) (Qu n key code ss dt bs cs ls ts us ow qs rec js i call args data):=by
 obtain⟨Zy,_⟩:=hR.hkind rfl;have Yc:=h.mach.tlen;obtain⟨v0,Vb,Yz⟩:=fk 0 true;obtain⟨v1,ev1,Wf⟩:=fk 0 false;have ZW:([]:List DCn).length<=16/\∀c∈([]:List DCn),Pr ss c:=⟨by decide,ek⟩
 have ZV:∀{v:Int}{w:Bool}{Zi:List Int}{qs':List (List Int)}{W3:List Int},W16 v->ib Zi qs'->call≠13->QjP ow qs js i call args w Zi qs' W3->Ok (some ((0:Int),v,(0:Int),(0:Int),([]:List DCn),(-1:Int),w,code,ss,dt,bs,key,cs,ls,ts,ck,rn,ins,d,os,us,Zi,qs',rec,W3,())) (Qu n key code ss dt bs cs ls ts us ow qs rec js i call args data):=
  λhv hl h13 hj=>Ok.ret ⟨_,_,_,_,_,_,_,_,_,_,_,_,_,_,_,_,rfl,h.outs,hl,fW hv,ZW,by decide,.inl ⟨h13,rfl⟩,ij,.inl rfl,hj⟩
 have W5:call≠9->QjP ow qs js i call args false ow qs js:=λh9=>.inl ⟨rfl,rfl,.inl ⟨h9,rfl⟩⟩
 have hdo:Mx call=true->Ok ((kL ck rn ins d os us (i:Int) 1 trap count pc call args data).bind λ(x35,x36,x37,x38,x39,x40,x41,x42,x43,x44,x45,x46,x47,x48,_)=>some (x41,x42,x43,x44,x45,x46,x47,code,ss,dt,bs,key,cs,ls,ts,x35,x36,x37,x38,x39,x40,ow,qs,rec,js,())) (Qu n key code ss dt bs cs ls ts us ow qs rec js i call args data):=by
  intro ha;refine(PG h.prog.sz h.outs hR ha hm).bind ?_;rintro _ ⟨ck',rn',X8,d',Y1,Yj,t,v,rg,o,dat,rfl,hO,hv,hd,hu,hp⟩;exact Ok.ret ⟨_,_,_,_,_,_,_,_,_,_,_,_,_,_,_,_,rfl,hO,h.lock,hv,hd,by decide,hu,hp,.inl rfl,.inl ⟨rfl,rfl,.inl ⟨(λe=>by subst e;exact absurd ha (by decide)),rfl⟩⟩⟩
 have TC:0<(kB call).length->∃a,dJ args 0=some a/\W16 a.2.1/\wk .i64 a.2.1=a.2.1:=λhl=>by
  obtain⟨a,ha⟩:∃a,args[0]?=some a:=⟨_,oGE (by omega)⟩;have hva:=(hR.hargs.2 a (dP ha)).val;exact⟨a,ha,hva,dT (by have:=hva.1;omega) (by have:=hva.2;omega)⟩
 unfold jO;delta dO
 try dsimp only
 rcases qC hR.hcall with rfl|rfl|rfl|rfl|rfl|rfl|rfl|rfl|rfl|rfl|rfl|rfl|rfl|rfl|rfl|rfl
 all_goals simp only[Int.reduceBEq,oCT,oCF,oBS,Vb,ev1]
 all_goals first
  |exact hdo rfl
  |exact ZV Yz h.lock (by decide) (W5 (by decide))
  |skip
 ·obtain⟨a,ga,ha,wa⟩:=TC (by decide);simp only[ga,oBS,wa];refine(O5 h.lock (by omega)).bind ?_;rintro _ ⟨Zi,qs',U1,rfl,hl,VJ⟩;dsimp only;obtain⟨v,ev,hv⟩:=fk 0 (U1 != 2);simp only[ev,oBS];refine ZV hv hl (by decide) ?_
  rcases VJ with⟨hne,hq⟩|⟨h1,ZM⟩
  ·exact .inl ⟨oBF hne,rfl,.inl ⟨by decide,hq⟩⟩
  ·exact .inr ⟨beq_iff_eq.2 h1,by decide,by decide,.inl ⟨rfl,.inr ⟨rfl,ZM⟩⟩⟩
 ·obtain⟨a,ga,ha,wa⟩:=TC (by decide);simp only[ga,oBS,wa];obtain⟨_,e,Zi,qs',nx,b,rfl,hl,_,_,_⟩:=Gp (lock:=a.2.1) (t:=(i:Int)) h.lock;simp only[e,oBS];obtain⟨v,ev,hv⟩:=fk 0 b;simp only[ev,oBS];exact ZV hv hl (by decide) (.inl ⟨rfl,rfl,.inr ⟨rfl,a,nx,b,ga,e⟩⟩)
 ·obtain⟨y,e,hy⟩:=gy (f:=jN) (n:=NN) (s:=(ts,(ts.length:Int),0,code,ss,dt,bs,key,cs,ls,ts,ck,rn,ins,d,os,us,ow,qs,rec,js,0,0,0,0,(),0,false,()))
   (P:=λs'=>∃k:Nat,s'=(ts,(ts.length:Int),(k:Int),code,ss,dt,bs,key,cs,ls,ts,ck,rn,ins,d,os,us,ow,qs,rec,js,0,0,0,0,(),0,false,())/\k<=4)
   (R:=λy=>(∃v k,y=.inl (code,ss,dt,bs,key,cs,ls,ts,ck,rn,ins,d,os,us,ow,qs,rec,js,0,v,0,0,(),k,false,())/\W16 v/\∃j:Nat,k=j/\j<4/\∃tj,ts[j]?=some tj/\tj.1=0)\/(∃a b c f,y=.inr (a,b,c,f,code,ss,dt,bs,key,cs,ls,ts,ck,rn,ins,d,os,us,ow,qs,rec,js,0,0,0,0,(),0,false,())))
   (m:=λs'=>(s'.2.1-s'.2.2.1).toNat) ⟨0,rfl,by omega⟩ (by unfold NN;dsimp only;omega) (by
    rintro _ ⟨k,rfl,hk⟩;unfold jN;dsimp only
    (with_reducible refine dF (λZ9=>?_) λZ9=>?_)
    ·obtain⟨t,ht⟩:∃t,ts[k]?=some t:=⟨_,oGE (by omega)⟩;simp only[dL,oBS,show dJ ts k=some t from ht]
     (with_reducible refine dF (λZX=>?_) λZX=>?_)
     ·obtain⟨v,ev,hv⟩:=fk (k:Int) true;simp only[ev,oBS];exact Ok.ret (.inl ⟨_,_,rfl,hv,k,rfl,by omega,t,ht,by first|exact beq_iff_eq.1 ZX|exact ZX⟩)
     ·rw[dQ (x:=(k:Int)+1) (by omega) (by omega)];exact Ok.ret ⟨⟨k+1,rfl,by omega⟩,by dsimp only;omega⟩
    ·exact Ok.ret (.inr ⟨_,_,_,_,rfl⟩))
  simp only[e]
  rcases hy with⟨v,k,rfl,hv,j,rfl,hj4,tj,XA,Wb⟩|⟨a,b,c,f,rfl⟩
  ·exact Ok.ret ⟨_,_,_,_,_,_,_,_,_,_,_,_,_,_,_,_,rfl,h.outs,h.lock,fW hv,ZW,by omega,.inl ⟨by decide,rfl⟩,ij,.inr ⟨rfl,rfl,j,rfl,hj4,tj,XA,Wb⟩,W5 (by decide)⟩
  ·simp only[ev1,oBS];exact ZV Wf h.lock (by decide) (W5 (by decide))
 ·obtain⟨a,ga,ha,wa⟩:=TC (by decide);simp only[ga,oBS,wa];obtain⟨j,hj⟩:∃j:Nat,a.2.1=j:=⟨a.2.1.toNat,by have:=ha.1;omega⟩;simp only[hj];by_cases h1:(j:Int)=i
  ·simp only[beq_iff_eq.2 h1,oCT,oBS,ev1];exact ZV Wf h.lock (by decide) (W5 (by decide))
  by_cases h2:(j:Int)>=4
  ·simp only[oBF h1,oDT h2,oCT,oCF,oBS,ev1];exact ZV Wf h.lock (by decide) (W5 (by decide))
  obtain⟨t,ht⟩:∃t,ts[j]?=some t:=⟨_,oGE (by omega)⟩;simp only[oBF h1,oDF h2,oCF,oBS,dL,show dJ ts j=some t from ht]
  cases t.1==0 with
  |true=>
   simp only[oCT,ev1,oBS];exact ZV Wf h.lock (by decide) (W5 (by decide))
  |false=>
   simp only[oCF,dL,oBS,show dJ ts j=some t from ht]
   cases t.1==4 with
   |true=>
    obtain⟨v,ev,hv⟩:=fk (wk .i64 t.2.2.2.2.2.2.2) true;simp only[oCT,ev,oBS];exact ZV hv h.lock (by decide) (W5 (by decide))
   |false=>
    obtain⟨z,hz⟩:∃z,js[i]?=some z:=⟨_,oGE (by have:=h.jlen;omega)⟩;simp only[oCF,show dJ js i=some z from hz,oBS,Vb,dX hz];exact ZV Yz h.lock (by decide) (.inr ⟨rfl,by decide,by decide,.inr ⟨rfl,j,by omega,h1,rfl⟩⟩)
theorem Mt{st:List Int}{i k:Nat}{call sp:Int}{w:Bool}{ts:List DTh}{t:DTh}(hs:SpP ts call w sp)(hk:ts[k]?=some t)(h3:t.1=3)(hi:k≠i)(hst:st=ts.map (·.1)):(OE st i call w sp)[k]?=some 3:=by
 have h0:st[k]?=some 3:=by rw[hst,wn hk,h3]
 unfold OE;by_cases hm:sp=-1
 ·rw[oIP hm,List.getElem?_set_ne (Ne.symm hi),h0]
 ·rw[oIN hm];rcases hs with hs|⟨_,_,j,rfl,_,tj,XA,Wb⟩
  ·exact absurd hs hm
  ·rw[oTN,List.getElem?_set_ne (λe=>?_),List.getElem?_set_ne (Ne.symm hi),h0];subst e;rw[XA]at hk
   injection hk with hk
   rw[hk]at Wb;omega
theorem Ms{st:List Int}{i:Nat}{call sp:Int}{ts:List DTh}(hs:SpP ts call true sp)(h0:call≠0)(hi:i<st.length):(OE st i call true sp)[i]?=some 3:=by
 unfold OE;rcases hs with rfl|⟨_,hw,_⟩
 ·rw[oIP rfl,oIN h0,oIP rfl,List.getElem?_set_self hi]
 ·cases hw
theorem B8{n m:Int}{q:Nat}{code:List DIn}{ss:List Int}{dt:List (List Int)}{bs:List Int}{key:Int}{cs:List DCe}{ls:List DLn}{ts:List DTh}{ck rn:List Int}{ins:List (List Int)}{d:List (List DCn)}{os:List DOp}{us:List DOu}{ow:List Int}{qs:List (List Int)}{rec:List DEn}{js:List Int}{i:Nat}{trap count pc call:Int}{args data:List DCn}(h:g8 n q code ss dt bs cs ls ts ck rn ins d os us ow qs rec js)(hi:i<4)(hn:n<=1099511627776)(hm:m<=1099511627776)(hq:q<=800)(hR:sH m ss (i:Int) 1 trap count pc call args data)(hF:KN ss call args){th:DTh}(Zv:ts[i]?=some th)(Rl:th.1=2){la:List DLa}(WQ:la.length=4)(YL:uq rec s0=some (ts.map (·.1),la))(WR:la[i]?=some ((i:Int),1,trap,count,pc,call,args,data)):
 Ok (i7 (i:Int) 1 trap count pc call args data code ss dt bs key cs ls ts ck rn ins d os us ow qs rec js) (Qq n key (q+2) code ss dt bs):=by
 obtain⟨Zy,_⟩:=hR.hkind rfl;unfold i7;refine Ok.bind (P:=λr=>∃nx,r=(nx,code,ss,dt,bs,key,cs,ls,ts,ck,rn,ins,d,os,us,ow,qs,rec,js,(i:Int),1,trap,count,pc,call,args,data,())/\(nx≠-1->call=9/\∃(a:DCn)(ow1:List Int)(qs1:List (List Int))(b:Bool),args[0]?=some a/\gM ow qs a.2.1 (i:Int)=some (ow1,qs1,nx,b,())/\MB qs nx qs1)/\-1<=nx/\nx<=3) ?_ ?_
 ·by_cases h9:call=9
  ·subst h9;obtain⟨a,ha⟩:∃a,args[0]?=some a:=⟨_,oGE (by rw[Zy];decide)⟩;have hva:=(hR.hargs.2 a (dP ha)).val;obtain⟨_,e,Zi,qs',nx,b,rfl,hl,Xy,XH,_⟩:=Gp (lock:=a.2.1) (t:=(i:Int)) h.lock;simp only[BEq.rfl,oCT,show dJ args 0=some a from ha,oBS,dT (x:=a.2.1) (by have:=hva.1;omega) (by have:=hva.2;omega),e];exact Ok.ret ⟨nx,rfl,λ_=>⟨by first|rfl|trivial,a,Zi,qs',b,ha,e,XH⟩,Xy.1,Xy.2⟩
  ·simp only[oBF h9,oCF];exact Ok.ret ⟨_,rfl,λhn=>absurd rfl hn,by decide,by decide⟩
 rintro _ ⟨nx,rfl,Xy,hnx0,hnx3⟩;dsimp only;refine(JB h hi hm hR).bind ?_;rintro _ ⟨t,v,rg,o,dat,sp,w,ck',rn',X8,d',Y1,Yj,Zi,qs',W3,rfl,hO,hL,hv,hd,hs,hu,hdp,ZF,hqj⟩;dsimp only;refine(Qs h.prog h.mach hi hn hm hR hv hd hs Zv Rl hF hdp ZF).bind ?_;rintro _ ⟨Z5,Z2,ZP,b,rfl,hM,hst⟩;dsimp only;have hr:=h.rlen;have Yc:=h.mach.tlen;have hjl:=h.jlen
 have Z1:sp≠-1->sp.toNat<4:=λ_=>by omega
 refine dH (dU (by simp;omega)) ?_;have hE:As (2,(i:Int),0,(i:Int),1,trap,count,pc,call,args,data,t,v,rg,o,dat,sp,w):=.result (hR.z h.prog.sz hm) (hv.cell h.prog.sz) ⟨λc hc=>(hd.2 c hc).cell h.prog.sz,hd.1⟩ hs
 have Wu:¬InQ qs i:=λhq=>by
  obtain⟨k,tk,e,hk,Xw,_⟩:=h.xq.1 i hq
  obtain rfl:k=i:=by omega
  rw[Zv]at hk
  injection hk with hk
  rw[hk]at Rl;omega
 have Q7:js[i]?=some (-1):=by
  obtain⟨j,hj⟩:∃j,js[i]?=some j:=⟨_,oGE (by omega)⟩;by_cases e:j=-1
  ·rw[hj,e]
  ·obtain⟨tk,hk,Xw⟩:=h.xq.2 i j hj e;rw[Zv]at hk
   injection hk with hk
   rw[hk]at Rl;omega
 have keep:∀(k:Nat)(tk:DTh),k≠i->ts[k]?=some tk->tk.1=3->∃t',ZP[k]?=some t'/\t'.1=3:=λk tk hk ht h3=>xg hst (Mt ZF ht h3 hk rfl)
 have hq:W3.length=4/\OW W3/\OU qs' ZP W3/\yK qs':=by
  rcases hqj with⟨hw,rfl,T6⟩|⟨hw,hc0,hc9,T6⟩
  ·have Z':yK qs'/\∀x,InQ qs' x->InQ qs x:=by
    rcases T6 with⟨_,rfl⟩|⟨h9,a,Ra,b2,X1,e2⟩
    ·exact⟨h.xx,λx hx=>hx⟩
    ·obtain⟨_,e3,_,_,nx3,_,rfl,_,_,XH,_⟩:=Gp (lock:=a.2.1) (t:=(i:Int)) h.lock;rw[e2]at e3
     injection e3 with e3
     simp only[oPJ]at e3;obtain⟨_,rfl,rfl,_⟩:=e3;by_cases hn:Ra=-1
     ·rcases XH with⟨_,rfl⟩|⟨j,q,hj,_⟩
      ·exact⟨h.xx,λx hx=>hx⟩
      ·have:=((h.lock.queue _ (dP hj)).2 Ra (List.mem_cons_self ..)).1;omega
     ·obtain⟨_,g2,g3⟩:=N2 h.lock h.xx XH hn;exact⟨g2,λx hx=>(g3 x hx).1⟩
   refine⟨hjl,h.jne,⟨λx hx=>?_,λk j hk hj=>?_⟩,Z'.1⟩
   ·obtain⟨k,tk,rfl,hk,Xw,Vj⟩:=h.xq.1 x (Z'.2 x hx);obtain⟨t',ZR,e⟩:=keep k tk (λe=>Wu (e▸Z'.2 _ hx)) hk Xw;exact⟨k,t',rfl,ZR,e,Vj⟩
   ·obtain⟨tk,ht,Xw⟩:=h.xq.2 k j hk hj
    have hki:k≠i:=λe=>by
     subst e;rw[Q7]at hk
     injection hk with hk
     exact hj hk.symm
    exact keep k tk hki ht Xw
  ·subst hw;obtain⟨ti,VR,U7⟩:=xg hst (Ms ZF hc0 (by rw[List.length_map];omega))
   rcases T6 with⟨rfl,VJ⟩|⟨rfl,k0,hk0,hk0i,rfl⟩
   ·obtain⟨g1,g2⟩:=Pi h.xx VJ;refine⟨hjl,h.jne,⟨λx hx=>?_,λk j hk hj=>?_⟩,g1⟩
    ·rcases g2 x hx with hx|⟨rfl,_⟩
     ·obtain⟨k,tk,rfl,hk,Xw,Vj⟩:=h.xq.1 x hx;obtain⟨t',ZR,e⟩:=keep k tk (λe=>Wu (e▸hx)) hk Xw;exact⟨k,t',rfl,ZR,e,Vj⟩
     ·exact⟨i,ti,rfl,VR,U7,Q7⟩
    ·obtain⟨tk,ht,Xw⟩:=h.xq.2 k j hk hj
     have hki:k≠i:=λe=>by
      subst e;rw[Q7]at hk
      injection hk with hk
      exact hj hk.symm
     exact keep k tk hki ht Xw
   ·refine⟨by rw[List.length_set];exact hjl,h.jne.set hk0i,⟨λx hx=>?_,λk j hk hj=>?_⟩,h.xx⟩
    ·obtain⟨k,tk,rfl,hk,Xw,Vj⟩:=h.xq.1 x hx;have hki:k≠i:=λe=>Wu (e▸hx);obtain⟨t',ZR,e⟩:=keep k tk hki hk Xw;exact⟨k,t',rfl,ZR,e,by rw[List.getElem?_set_ne (Ne.symm hki)];exact Vj⟩
    ·rcases nS hk with⟨e,_⟩|⟨hne,hk⟩
     ·subst e;exact⟨ti,VR,U7⟩
     ·obtain⟨tk,ht,Xw⟩:=h.xq.2 k j hk hj;exact keep k tk (Ne.symm hne) ht Xw
 obtain⟨hq1,Y5,hq3,hq4⟩:=hq
 have UG:uq (rec++[(2,(i:Int),0,(i:Int),1,trap,count,pc,call,args,data,t,v,rg,o,dat,sp,w)]) s0=some (ZP.map (·.1),la):=by
  obtain⟨s1,hs1,TO⟩:=GW (st:=ts.map (·.1)) (la:=la) (by rw[List.length_map];omega) hi (by rw[<- Rl];exact wn Zv) WR hE (ZF.imp id λ⟨ZT,_,j,hj,_,tj,XA,Wb⟩=>⟨j,hj,by rw[<- Wb];exact wn XA,ZT⟩);rw[oQ,YL,hst];show(stp _ _).bind (λs=>some s)=_;rw[TO,hs1];rfl
 have hxo:CE (rec++[(2,(i:Int),0,(i:Int),1,trap,count,pc,call,args,data,t,v,rg,o,dat,sp,w)])=Yj:=by
  rw[s8,h.xou];exact EE hu hR.hdata.1
 have h3:g8 n (q+1) code ss dt bs Z5 Z2 ZP ck' rn' X8 d' Y1 Yj Zi qs' (List.append rec [(2,(i:Int),0,(i:Int),1,trap,count,pc,call,args,data,t,v,rg,o,dat,sp,w)]) W3:=⟨h.prog,hM,hO,hL,by rw[fq];simp;omega,hq1,Gz h.rent hE,Y5,⟨la,WQ,UG⟩,hxo,hq3,hq4⟩;by_cases hn0:nx>=0
 ·simp only[oDT hn0,oCT];obtain⟨h9,a,ow1,qs1,b1,Yh,eg,XH⟩:=Xy (by omega);obtain⟨g1,g2,g3⟩:=N2 h.lock h.xx XH (by omega);obtain⟨k,tk,rfl,hk,Xw,Vj⟩:=h.xq.1 nx g1;have hki:k≠i:=λe=>Wu (e▸g1);obtain⟨t',ZR,e3⟩:=keep k tk hki hk Xw
  have T6:qs'=qs1/\W3=js:=by
   rcases hqj with⟨_,hjj,T6⟩|⟨_,_,h9',_⟩
   ·refine⟨?_,hjj⟩
    rcases T6 with⟨hn9,_⟩|⟨_,a2,Ra,b2,X1,e2⟩
    ·exact absurd h9 hn9
    ·rw[Yh]at X1
     injection X1 with X1
     subst X1;rw[eg]at e2
     injection e2 with e2
     simp only[oPJ]at e2;exact e2.2.1.symm
   ·exact absurd h9 h9'
  obtain⟨rfl,rfl⟩:=T6;refine(Iu h3 hn (by omega) ⟨by decide,by decide⟩ ZR e3 (λhq=>(g3 _ hq).2 rfl) Vj).bind ?_;rintro _ ⟨UK,U',TA,ck3,rn3,ins3,d3,os3,us3,ow3,qs3,Uh,js3,rfl,h4⟩;exact Ok.ret ⟨_,_,_,_,_,_,_,_,_,_,_,_,_,rfl,h4⟩
 ·simp only[oDF hn0,oCF];have h4:=h3;exact Ok.ret ⟨_,_,_,_,_,_,_,_,_,_,_,_,_,rfl,h4.prog,h4.mach,h4.outs,h4.lock,by have:=h4.rlen;omega,h4.jlen,h4.rent,h4.jne,h4.xst,h4.xou,h4.xq,h4.xx⟩
theorem Fo{n:Int}{q:Nat}{code:List DIn}{ss:List Int}{dt:List (List Int)}{bs:List Int}{key:Int}{cs:List DCe}{ls:List DLn}{ts:List DTh}{ck rn:List Int}{ins:List (List Int)}{d:List (List DCn)}{os:List DOp}{us:List DOu}{ow:List Int}{qs:List (List Int)}{rec:List DEn}{js:List Int}{i:Nat}(h:g8 n q code ss dt bs cs ls ts ck rn ins d os us ow qs rec js)(hi:i<4)(hn:n<=1099511627776)(hq:q<=800){th:DTh}(Zv:ts[i]?=some th)(h4t:th.1=4):
 Ok (jP (i:Int) code ss dt bs key cs ls ts ck rn ins d os us ow qs rec js) (Qq n key (q+7) code ss dt bs):=by
 unfold jP;delta dO
 try dsimp only
 have Wu:¬InQ qs i:=λhq=>by
  obtain⟨k,tk,e,hk,Xw,_⟩:=h.xq.1 i hq
  obtain rfl:k=i:=by omega
  rw[Zv]at hk
  injection hk with hk
  rw[hk]at h4t;omega
 refine(PF h.lock Wu h.xx).bind ?_;rintro _ ⟨Zi,qs',nx,rfl,hl,hn4,Xy,Xl⟩;dsimp only;have QZ:∀x∈nx,∃(u:Nat)(t:DTh),x=u/\ts[u]?=some t/\t.1=3/\js[u]?=some (-1):=λx hx=>h.xq.1 x (Xl.was x hx)
 refine Ok.loop (P:=λs'=>∃k:Nat,∃cs ls ts rec,s'=((i:Int),(nx.length:Int),(k:Int),code,ss,dt,bs,key,cs,ls,ts,ck,rn,ins,d,os,us,Zi,qs',rec,js,nx,())/\k<=nx.length/\g8 n (q+k) code ss dt bs cs ls ts ck rn ins d os us Zi qs' rec js/\(∀(m:Nat) x,k<=m->nx[m]?=some x->∃(u:Nat)(t:DTh),x=u/\ts[u]?=some t/\t.1=3/\js[u]?=some (-1))/\∃t,ts[i]?=some t/\t.1=4)
  (R:=λr=>∃a b f cs ls ts rec,r=((i:Int),a,b,f,code,ss,dt,bs,key,cs,ls,ts,ck,rn,ins,d,os,us,Zi,qs',rec,js,nx,())/\g8 n (q+4) code ss dt bs cs ls ts ck rn ins d os us Zi qs' rec js/\∃t,ts[i]?=some t/\t.1=4) (m:=λs'=>(s'.2.1-s'.2.2.1).toNat)
  ⟨0,cs,ls,ts,rec,rfl,by omega,⟨h.prog,h.mach,h.outs,hl,by have:=h.rlen;omega,h.jlen,h.rent,h.jne,h.xst,h.xou,⟨λx hx=>h.xq.1 x (Xl.now x hx).1,h.xq.2⟩,Xl.cross⟩,λm x _ hx=>QZ x (dP hx),th,Zv,h4t⟩ (by unfold NN;dsimp only;omega) ?_ ?_
 ·rintro _ ⟨k,Va,Vn,ts2,V7,rfl,hk,h2,S0,ti,VR,T'⟩;unfold pB;dsimp only
  (with_reducible refine dF (λZ9=>?_) λZ9=>?_)
  ·obtain⟨x,hx⟩:∃x,nx[k]?=some x:=⟨_,oGE (by omega)⟩;simp only[dL,oBS,show dJ nx k=some x from hx];obtain⟨u,tu,rfl,hu,hu3,huj⟩:=S0 k x (Nat.le_refl _) hx;have M':¬InQ qs' u:=λhq=>(Xl.now _ hq).2 (dP hx);refine(FJ h2 hn (by omega) ⟨by decide,by decide⟩ hu hu3 M').bind ?_;rintro _ ⟨UK,U',TA,Uh,rfl,h3,T8⟩;rw[wJ huj]at h3;have keep:∀(m:Nat)(t:DTh),m≠u->ts2[m]?=some t->∃t',TA[m]?=some t'/\t'.1=t.1:=λm t hm ht=>xg T8 (by rw[List.getElem?_set_ne (Ne.symm hm)];exact wn ht)
   have hiu:i≠u:=λe=>by
    subst e;rw[VR]at hu
    injection hu with hu
    rw[hu]at T';omega
   have hw3:∀(m:Nat) x,k+1<=m->nx[m]?=some x->∃(v:Nat)(t:DTh),x=v/\TA[v]?=some t/\t.1=3/\js[v]?=some (-1):=λm x hm Tz=>by
    obtain⟨v,tv,rfl,hv,VV,WH⟩:=S0 m x (by omega) Tz
    have hvu:v≠u:=λe=>by
     subst e;have XF:=(oGS hx).1;have:=(List.getElem?_inj XF Xl.nd).1 (hx.trans Tz.symm);omega
    obtain⟨t',ZR,e⟩:=keep v tv hvu hv;exact⟨v,t',rfl,ZR,by rw[e,VV],WH⟩
   obtain⟨Rg,T9,VT⟩:=keep i ti hiu VR;dsimp only;rw[dQ (x:=(k:Int)+1) (by omega) (by omega)];exact Ok.ret ⟨⟨k+1,_,_,_,_,rfl,by omega,h3,hw3,Rg,T9,by rw[VT,T']⟩,by dsimp only;omega⟩
  ·exact Ok.ret ⟨_,_,_,_,_,_,_,rfl,⟨h2.prog,h2.mach,h2.outs,h2.lock,by have:=h2.rlen;omega,h2.jlen,h2.rent,h2.jne,h2.xst,h2.xou,h2.xq,h2.xx⟩,ti,VR,T'⟩
 rintro _ ⟨a,b,f,Va,Vn,ts2,V7,rfl,h2,A'⟩;dsimp only
 refine Ok.loop (P:=λs'=>∃k c:Nat,∃cs ls ts rec js,s'=((i:Int),4,(k:Int),code,ss,dt,bs,key,cs,ls,ts,ck,rn,ins,d,os,us,Zi,qs',rec,js,())/\(k<=4/\c<=k/\(i<k->c+1<=k))/\g8 n (q+4+c) code ss dt bs cs ls ts ck rn ins d os us Zi qs' rec js/\∃t,ts[i]?=some t/\t.1=4)
  (R:=λr=>∃a b c f cs ls ts rec js,r=(a,b,c,f,code,ss,dt,bs,key,cs,ls,ts,ck,rn,ins,d,os,us,Zi,qs',rec,js,())/\g8 n (q+7) code ss dt bs cs ls ts ck rn ins d os us Zi qs' rec js) (m:=λs'=>(s'.2.1-s'.2.2.1).toNat)
  ⟨0,0,Va,Vn,ts2,V7,js,by rw[h.jlen];rfl,by omega,h2,A'⟩ (by unfold NN;dsimp only;have:=h.jlen;omega) ?_ ?_
 ·rintro _ ⟨k,c,Va,Vn,ts2,V7,S3,rfl,hk,h2,t,ht,Tw⟩;unfold pA;dsimp only
  (with_reducible refine dF (λZ9=>?_) λZ9=>?_)
  ·obtain⟨x,hx⟩:∃x,S3[k]?=some x:=⟨_,oGE (by have:=h2.jlen;omega)⟩;have htc:=(h2.mach.thr t (dP ht)).code;simp only[dL,oBS,show dJ S3 k=some x from hx,show dJ ts2 i=some t from ht];refine Ok.bind (P:=λr=>∃cs ls ts rec js,r=((i:Int),4,(k:Int),code,ss,dt,bs,key,cs,ls,ts,ck,rn,ins,d,os,us,Zi,qs',rec,js,())/\∃c':Nat,(c'<=k+1/\(i<k+1->c'<=k))/\g8 n (q+4+c') code ss dt bs cs ls ts ck rn ins d os us Zi qs' rec js/\∃t,ts[i]?=some t/\t.1=4) ?_ ?_
   ·(with_reducible refine dF (λZX=>?_) λZX=>?_)
    ·have hki:x≠(k:Int):=h2.jne k x hx
     have hxi:x=(i:Int):=by first|exact ZX|exact beq_iff_eq.1 ZX
     obtain⟨tk,VU,B'⟩:=h2.xq.2 k x hx (by omega)
     have hknq:¬InQ qs' k:=λhq=>by
      obtain⟨k2,_,e,_,_,hj⟩:=h2.xq.1 k hq
      obtain rfl:k2=k:=by omega
      rw[hx]at hj
      injection hj with hj
      omega
     refine(FJ h2 hn (by omega) htc VU B' hknq).bind ?_;rintro _ ⟨UK,U',TA,Uh,rfl,h3,T8⟩;obtain⟨Rg,T9,VT⟩:∃t',TA[i]?=some t'/\t'.1=4:=xg T8 (by rw[List.getElem?_set_ne (by omega),wn ht,Tw]);simp only[dL,oBS,show dJ S3 k=some x from hx,dX hx];exact Ok.ret ⟨_,_,_,_,_,rfl,c+1,by omega,h3,Rg,T9,VT⟩
    ·exact Ok.ret ⟨_,_,_,_,_,rfl,c,by omega,h2,t,ht,Tw⟩
   ·rintro _ ⟨UK,U',TA,Uh,js3,rfl,c',Xd,h3,U7⟩;dsimp only;rw[dQ (x:=(k:Int)+1) (by omega) (by omega)];exact Ok.ret ⟨⟨k+1,c',_,_,_,_,_,rfl,by omega,h3,U7⟩,by dsimp only;omega⟩
  ·exact Ok.ret ⟨_,_,_,_,_,_,_,_,_,rfl,h2.prog,h2.mach,h2.outs,h2.lock,by have:=h2.rlen;omega,h2.jlen,h2.rent,h2.jne,h2.xst,h2.xou,h2.xq,h2.xx⟩
 ·rintro _ ⟨a,b,c,f,Va,Vn,ts2,V7,S3,rfl,h2⟩;exact Ok.ret ⟨_,_,_,_,_,_,_,_,_,_,_,_,_,rfl,h2⟩
def Qv(n key:Int)(q:Nat)(code:List DIn)(ss:List Int)(dt:List (List Int))(bs:List Int)(r:(List DIn)×(List (Int))×(List (List (Int)))×(List (Int))×Int×(List DCe)×(List DLn)×(List DTh)×(List (Int))×(List (Int))×(List (List (Int)))×(List (List DCn))×(List DOp)×(List DOu)×(List (Int))×(List (List (Int)))×(List DEn)×(List (Int))×Int×Unit):Prop:=
 (∃e,r=([],[],[],[],0,[],[],[],[],[],[],[],[],[],[],[],[],[],e,())/\e≠0)\/(∃cs ls ts ck rn ins d os us ow qs rec js,r=(code,ss,dt,bs,key,cs,ls,ts,ck,rn,ins,d,os,us,ow,qs,rec,js,0,())/\g8 n q code ss dt bs cs ls ts ck rn ins d os us ow qs rec js)
theorem Fq{code:List DIn}{ss:List Int}{dt:List (List Int)}{bs:List Int}{key:Int}{cs:List DCe}{ls:List DLn}{ts:List DTh}{ck rn:List Int}{ins:List (List Int)}{d:List (List DCn)}{os:List DOp}{us:List DOu}{ow:List Int}{qs:List (List Int)}{rec:List DEn}{js:List Int}(h1:rec.length<=1000)(h2:js.length<=1000):kV code ss dt bs key cs ls ts ck rn ins d os us ow qs rec js=some (code,ss,dt,bs,key,cs,ls,ts,ck,rn,ins,d,os,us,ow,qs,rec,js,()):=by
 unfold kV;rw[dU (show 8<=1000/\0+js.length<=1000000 by omega),dU (show 184<=1000/\0+rec.length<=1000000 by omega)];rfl
theorem LR{ts ZP:List DTh}(hl:ZP.length=ts.length)(h:∀(j:Nat) t',ZP[j]?=some t'->∃t,ts[j]?=some t/\t'.1=t.1):ZP.map (·.1)=ts.map (·.1):=by
 apply List.ext_getElem?;intro j;rw[List.getElem?_map,List.getElem?_map]
 cases hj:ZP[j]? with
 |none=>
  have:ts[j]?=none:=by rw[List.getElem?_eq_none_iff]at hj⊢;omega
  rw[this]
 |some t'=>
  obtain⟨t,ht,e⟩:=h j t' hj;rw[ht];show some t'.1=some t.1;rw[e]
theorem OU.keep{qs:List (List Int)}{ts ZP:List DTh}{js:List Int}(h:OU qs ts js)(hk:∀(k:Nat) t,ts[k]?=some t->t.1=3->∃t',ZP[k]?=some t'/\t'.1=3):OU qs ZP js:=by
 refine⟨λx hx=>?_,λi j hi hj=>?_⟩
 ·obtain⟨k,t,rfl,ht,h3,hj⟩:=h.1 x hx;obtain⟨t',ZR,e⟩:=hk k t ht h3;exact⟨k,t',rfl,ZR,e,hj⟩
 ·obtain⟨t,ht,h3⟩:=h.2 i j hi hj;exact hk i t ht h3
theorem g8.signaled{n:Int}{q:Nat}{code:List DIn}{ss:List Int}{dt:List (List Int)}{bs:List Int}{cs:List DCe}{ls:List DLn}{ts ZP:List DTh}{ck rn:List Int}{ins:List (List Int)}{d:List (List DCn)}{os:List DOp}{us:List DOu}{ow:List Int}{qs:List (List Int)}{rec:List DEn}{js:List Int}{i:Nat}{t0:DTh}
 (h:g8 n q code ss dt bs cs ls ts ck rn ins d os us ow qs rec js)(hi:i<4)(VR:ts[i]?=some t0)(h1:t0.1=1)(hM:MOk n ss bs cs ls ZP)(hst:ZP.map (·.1)=ts.map (·.1)):
 g8 n (q+1) code ss dt bs cs ls ZP ck rn ins d os us ow qs (List.append rec [(3,(i:Int),0,0,0,0,0,0,0,[],[],0,0,0,0,[],0,false)]) js:=by
 obtain⟨la,WQ,YL⟩:=h.xst;refine⟨h.prog,hM,h.outs,h.lock,by have:=h.rlen;rw[fq];simp;omega,h.jlen,Gz h.rent (.signal (by omega)),h.jne,⟨la,WQ,?_⟩,?_,h.xq.keep λk t ht h3=>xg hst (by rw[<- h3];exact wn ht),h.xx⟩
 ·show uq (rec++[_]) s0=_;rw[oQ,YL,hst];show(stp _ _).bind (λs=>some s)=_;rw[GV hi (by rw[<- h1];exact wn VR)];rfl
 ·show CE (rec++[_])=us;rw[s8,h.xou];simp[zX]
theorem g8.sliced{n:Int}{q:Nat}{code:List DIn}{ss:List Int}{dt:List (List Int)}{bs:List Int}{cs UK:List DCe}{ls U':List DLn}{ts:List DTh}{ck rn:List Int}{ins:List (List Int)}{d:List (List DCn)}{os:List DOp}{us:List DOu}{ow:List Int}{qs:List (List Int)}{rec:List DEn}{js:List Int}{i:Nat}{t0 t3:DTh}{k stop trap count pc call:Int}{args data:List DCn}
 (h:g8 n q code ss dt bs cs ls ts ck rn ins d os us ow qs rec js)(hi:i<4)(VR:ts[i]?=some t0)(h1:t0.1=1)(hM:MOk (n+64) ss bs UK U' (ts.set i t3))(hE:As (1,(i:Int),k,(i:Int),stop,trap,count,pc,call,args,data,0,0,0,0,[],0,false))(Yu:Qw stop trap t3)(hns:stop≠3):
 g8 (n+64) (q+1) code ss dt bs UK U' (ts.set i t3) ck rn ins d os us ow qs (List.append rec [(1,(i:Int),k,(i:Int),stop,trap,count,pc,call,args,data,0,0,0,0,[],0,false)]) js /\
  ∃la,la.length=4/\uq (List.append rec [(1,(i:Int),k,(i:Int),stop,trap,count,pc,call,args,data,0,0,0,0,[],0,false)]) s0=some ((ts.set i t3).map (·.1),la)/\la[i]?=some ((i:Int),stop,trap,count,pc,call,args,data):=by
 obtain⟨la,WQ,YL⟩:=h.xst
 have hx:(ts.map (·.1))[i]?=some 1:=by rw[<- h1];exact wn VR
 have hst:(if stop=2 then(ts.map (·.1)).set i 4 else if stop=1 then(ts.map (·.1)).set i 2 else ts.map (·.1))=(ts.set i t3).map (·.1):=by
  rw[List.map_set]
  rcases Yu with⟨rfl,e⟩|⟨rfl,e⟩|⟨rfl,e,_⟩|⟨e,_⟩
  ·rw[e,oIN (by decide),oIN (by decide),wJ hx]
  ·rw[e,oIN (by decide),oIP rfl]
  ·rw[e,oIP rfl]
  ·exact absurd e hns
 have UG:uq (List.append rec [(1,(i:Int),k,(i:Int),stop,trap,count,pc,call,args,data,0,0,0,0,[],0,false)]) s0=some ((ts.set i t3).map (·.1),la.set i ((i:Int),stop,trap,count,pc,call,args,data)):=by
  show uq (rec++[_]) s0=_;rw[oQ,YL];show(stp _ _).bind (λs=>some s)=_;rw[Iz WQ hi hx hE,hst];rfl
 refine⟨⟨h.prog,hM,h.outs,h.lock,by have:=h.rlen;rw[fq];simp;omega,h.jlen,Gz h.rent hE,h.jne,⟨_,by rw[List.length_set];exact WQ,UG⟩,?_,h.xq.keep λm t ht h3=>?_,h.xx⟩,_,by rw[List.length_set];exact WQ,UG,?_⟩
 ·show CE (rec++[_])=us;rw[s8,h.xou];simp[zX]
 ·have hmi:i≠m:=λe=>by
   subst e;rw[VR]at ht
   injection ht with ht
   rw[ht]at h1;omega
  exact⟨t,by rw[List.getElem?_set_ne hmi];exact ht,h3⟩
 ·exact List.getElem?_set_self (by omega)
theorem ne3{stop trap:Int}{t:DTh}(h:Qw stop trap t)(hr:stop=3->t.1=1):stop≠3:=by
 intro e
 rcases h with⟨h,_⟩|⟨h,_⟩|⟨h,_⟩|⟨_,h⟩
 ·omega
 ·omega
 ·omega
 ·exact h (hr e)
set_option maxHeartbeats 4000000 in
theorem JJ{n:Int}{q:Nat}{code:List DIn}{ss:List Int}{dt:List (List Int)}{bs:List Int}{key:Int}{cs:List DCe}{ls:List DLn}{ts:List DTh}{ck rn:List Int}{ins:List (List Int)}{d:List (List DCn)}{os:List DOp}{us:List DOu}{ow:List Int}{qs:List (List Int)}{rec:List DEn}{js:List Int}{c1 c2:Int}{c3:Bool}(h:g8 n q code ss dt bs cs ls ts ck rn ins d os us ow qs rec js)(hn0:0<=n)(hn:n+64<=1099511627776)(hq:q<=700)(ZK:KV c1)(ZB:KV c2):
 Ok (na code ss dt bs key cs ls ts ck rn ins d os us ow qs rec js c1 c2 c3) (Qv (n+64) key (q+11) code ss dt bs):=by
 have Yc:=h.mach.tlen;have hr:=h.rlen;unfold na;delta dO;rw[F6 (by omega)];simp only[oBS];have VL:=uH ts 0
 (with_reducible refine dF (λZ9=>?_) λZ9=>?_)
 ·exact Ok.ret (.inl ⟨15,rfl,by decide⟩)
 (with_reducible refine dF (λZX=>?_) λZX=>?_)
 ·exact Ok.ret (.inl ⟨3,rfl,by decide⟩)
 refine N5 ZK (by omega) (by omega) λv v0 v1=>?_;dsimp only;obtain⟨k,rfl⟩:∃k:Nat,v=k:=⟨v.toNat,by omega⟩;obtain⟨x,hx⟩:∃x,(gZ ts 0)[k]?=some x:=⟨_,oGE (by omega)⟩;obtain⟨x0,x1,Q1⟩:=Hl (dP hx);obtain⟨i,rfl⟩:∃i:Nat,x=i:=⟨x.toNat,by omega⟩
 have hi:i<4:=by omega
 have Y':∀t,ts[i]?=some t->t.1=1:=λt e=>by
  obtain⟨t0,e0,e1⟩:=Q1;rw[show((i:Int)-0).toNat=i by omega,e]at e0
  injection e0 with e0
  rw[e0];exact e1
 simp only[dL,oBS,show dJ (gZ ts 0) k=some (i:Int)from hx];refine N5 ZB (by decide) (by decide) λu u0 u1=>?_;dsimp only;rw[dQ (x:=1+u) (by omega) (by omega),Fq (by omega) (by have:=h.jlen;omega)]
 have hk:1<=1+u/\1+u<=64:=by omega
 generalize 1+u=kk at hk;simp only[oBS]
 cases c3 with
 |false=>
  simp only[oCF];have h2:g8 n (q+1) code ss dt bs cs ls ts ck rn ins d os us ow qs rec js:=⟨h.prog,h.mach,h.outs,h.lock,by omega,h.jlen,h.rent,h.jne,h.xst,h.xou,h.xq,h.xx⟩;have SV:=h2.mach.tlen;refine(xd h2.prog h2.mach hn0 hn hi hk).bind ?_;rintro _ ⟨UK,U',t3,stop,trap,call,args,data,rfl,UZ,VQ,Xn,Yu,Xg,Z0⟩;have hns:stop≠3:=ne3 Yu λe=>Y' _ (Xg e);have Sc:As (1,(i:Int),kk,(i:Int),stop,trap,t3.2.2.2.1,t3.2.2.1,call,args,data,0,0,0,0,[],0,false):=.slice (Xn.z h.prog.sz hn) hns hk;dsimp only;have Yb:=h2.rlen;have RS:=(h2.mach.mono (show n<=n+64 by omega)).set UZ (i:=i) VQ;obtain⟨t0,WZ⟩:∃t0,ts[i]?=some t0:=⟨_,oGE (by omega)⟩;obtain⟨Zl,la,WQ,YL,WR⟩:=h2.sliced hi WZ (Y' t0 WZ) RS Sc Yu hns;refine dH (dU (by simp;omega)) ?_;refine Ok.bind (P:=λr=>∃cs ls ts ck rn ins d os us ow qs rec js,r=((i:Int),(),(),(),(),0,(),(),(),(),(),(),(),(),(),(),(),(),(),code,ss,dt,bs,key,cs,ls,ts,ck,rn,ins,d,os,us,ow,qs,rec,js,())/\g8 (n+64) (q+4) code ss dt bs cs ls ts ck rn ins d os us ow qs rec js) ?_ ?_
  ·by_cases hs1:stop=1
   ·subst hs1;simp only[BEq.rfl,oCT];refine(B8 (q:=q+2) Zl hi (by omega) hn (by omega) Xn (Z0 rfl) (f9 (by omega) t3) (by rcases Yu with⟨e,_⟩|⟨_,e⟩|⟨e,_⟩|⟨e,_⟩<;>first|exact e|exact absurd e (by decide)) WQ YL WR).bind ?_;rintro _ ⟨RN,S6,Te,RL,Td,V6,d4,S9,Tf,Ta,Tb,V8,S4,rfl,h4⟩;exact Ok.ret ⟨_,_,_,_,_,_,_,_,_,_,_,_,_,rfl,h4⟩
   ·simp only[oBF hs1,oCF];exact Ok.ret ⟨_,_,_,_,_,_,_,_,_,_,_,_,_,rfl,Zl.prog,Zl.mach,Zl.outs,Zl.lock,by have:=Zl.rlen;omega,Zl.jlen,Zl.rent,Zl.jne,Zl.xst,Zl.xou,Zl.xq,Zl.xx⟩
  rintro _ ⟨cs,ls,ts,ck,rn,ins,d,os,us,ow,qs,rec,js,rfl,h5⟩;dsimp only;obtain⟨t5,UE⟩:∃t5,ts[i]?=some t5:=⟨_,oGE (by have:=h5.mach.tlen;omega)⟩;simp only[dL,oBS,show dJ ts i=some t5 from UE];refine Ok.bind (P:=λr=>∃cs ls ts ck rn ins d os us ow qs rec js,r=((),(),(),(),0,(),(),(),(),(),(),(),(),(),(),(),(),(),code,ss,dt,bs,key,cs,ls,ts,ck,rn,ins,d,os,us,ow,qs,rec,js,())/\g8 (n+64) (q+11) code ss dt bs cs ls ts ck rn ins d os us ow qs rec js) ?_ ?_
  ·(with_reducible refine dF (λYm=>?_) λYm=>?_)
   ·refine(Fo h5 hi (by omega) (by omega) UE (by first|exact Ym|exact beq_iff_eq.1 Ym)).bind ?_;rintro _ ⟨RN,S6,Te,RL,Td,V6,d4,S9,Tf,Ta,Tb,V8,S4,rfl,h4⟩;exact Ok.ret ⟨_,_,_,_,_,_,_,_,_,_,_,_,_,rfl,h4⟩
   ·exact Ok.ret ⟨_,_,_,_,_,_,_,_,_,_,_,_,_,rfl,h5.prog,h5.mach,h5.outs,h5.lock,by have:=h5.rlen;omega,h5.jlen,h5.rent,h5.jne,h5.xst,h5.xou,h5.xq,h5.xx⟩
  rintro _ ⟨cs,ls,ts,ck,rn,ins,d,os,us,ow,qs,rec,js,rfl,h6⟩;exact Ok.ret (.inr ⟨_,_,_,_,_,_,_,_,_,_,_,_,_,rfl,h6⟩)
 |true=>
  simp only[oCT];obtain⟨⟨b,_⟩,eC,_⟩:=MW (key:=key) h.mach (i:Int);simp only[eC,oBS]
  cases b with
  |false=>
   simp only[oCF];have h2:g8 n (q+1) code ss dt bs cs ls ts ck rn ins d os us ow qs rec js:=⟨h.prog,h.mach,h.outs,h.lock,by omega,h.jlen,h.rent,h.jne,h.xst,h.xou,h.xq,h.xx⟩;have SV:=h2.mach.tlen;refine(xd h2.prog h2.mach hn0 hn hi hk).bind ?_;rintro _ ⟨UK,U',t3,stop,trap,call,args,data,rfl,UZ,VQ,Xn,Yu,Xg,Z0⟩;have hns:stop≠3:=ne3 Yu λe=>Y' _ (Xg e);have Sc:As (1,(i:Int),kk,(i:Int),stop,trap,t3.2.2.2.1,t3.2.2.1,call,args,data,0,0,0,0,[],0,false):=.slice (Xn.z h.prog.sz hn) hns hk;dsimp only;have Yb:=h2.rlen;have RS:=(h2.mach.mono (show n<=n+64 by omega)).set UZ (i:=i) VQ;obtain⟨t0,WZ⟩:∃t0,ts[i]?=some t0:=⟨_,oGE (by omega)⟩;obtain⟨Zl,la,WQ,YL,WR⟩:=h2.sliced hi WZ (Y' t0 WZ) RS Sc Yu hns;refine dH (dU (by simp;omega)) ?_;refine Ok.bind (P:=λr=>∃cs ls ts ck rn ins d os us ow qs rec js,r=((i:Int),(),(),(),(),0,(),(),(),(),(),(),(),(),(),(),(),(),(),code,ss,dt,bs,key,cs,ls,ts,ck,rn,ins,d,os,us,ow,qs,rec,js,())/\g8 (n+64) (q+4) code ss dt bs cs ls ts ck rn ins d os us ow qs rec js) ?_ ?_
   ·by_cases hs1:stop=1
    ·subst hs1;simp only[BEq.rfl,oCT];refine(B8 (q:=q+2) Zl hi (by omega) hn (by omega) Xn (Z0 rfl) (f9 (by omega) t3) (by rcases Yu with⟨e,_⟩|⟨_,e⟩|⟨e,_⟩|⟨e,_⟩<;>first|exact e|exact absurd e (by decide)) WQ YL WR).bind ?_;rintro _ ⟨RN,S6,Te,RL,Td,V6,d4,S9,Tf,Ta,Tb,V8,S4,rfl,h4⟩;exact Ok.ret ⟨_,_,_,_,_,_,_,_,_,_,_,_,_,rfl,h4⟩
    ·simp only[oBF hs1,oCF];exact Ok.ret ⟨_,_,_,_,_,_,_,_,_,_,_,_,_,rfl,Zl.prog,Zl.mach,Zl.outs,Zl.lock,by have:=Zl.rlen;omega,Zl.jlen,Zl.rent,Zl.jne,Zl.xst,Zl.xou,Zl.xq,Zl.xx⟩
   rintro _ ⟨cs,ls,ts,ck,rn,ins,d,os,us,ow,qs,rec,js,rfl,h5⟩;dsimp only;obtain⟨t5,UE⟩:∃t5,ts[i]?=some t5:=⟨_,oGE (by have:=h5.mach.tlen;omega)⟩;simp only[dL,oBS,show dJ ts i=some t5 from UE];refine Ok.bind (P:=λr=>∃cs ls ts ck rn ins d os us ow qs rec js,r=((),(),(),(),0,(),(),(),(),(),(),(),(),(),(),(),(),(),code,ss,dt,bs,key,cs,ls,ts,ck,rn,ins,d,os,us,ow,qs,rec,js,())/\g8 (n+64) (q+11) code ss dt bs cs ls ts ck rn ins d os us ow qs rec js) ?_ ?_
   ·(with_reducible refine dF (λYm=>?_) λYm=>?_)
    ·refine(Fo h5 hi (by omega) (by omega) UE (by first|exact Ym|exact beq_iff_eq.1 Ym)).bind ?_;rintro _ ⟨RN,S6,Te,RL,Td,V6,d4,S9,Tf,Ta,Tb,V8,S4,rfl,h4⟩;exact Ok.ret ⟨_,_,_,_,_,_,_,_,_,_,_,_,_,rfl,h4⟩
    ·exact Ok.ret ⟨_,_,_,_,_,_,_,_,_,_,_,_,_,rfl,h5.prog,h5.mach,h5.outs,h5.lock,by have:=h5.rlen;omega,h5.jlen,h5.rent,h5.jne,h5.xst,h5.xou,h5.xq,h5.xx⟩
   rintro _ ⟨cs,ls,ts,ck,rn,ins,d,os,us,ow,qs,rec,js,rfl,h6⟩;exact Ok.ret (.inr ⟨_,_,_,_,_,_,_,_,_,_,_,_,_,rfl,h6⟩)
  |true=>
   obtain⟨_,eD,ZP,b',rfl,hD,hDs⟩:=H4 (key:=key) h.mach (i:Int)
   replace Y':∀t,ZP[i]?=some t->t.1=1:=λt e=>by
    obtain⟨t0,e0,e1⟩:=hDs i t e;rw[e1];exact Y' t0 e0
   simp only[oCT,eD,oBS];rw[dU (show 184<=1000/\rec.length + _<=1000000 by simp;omega)];simp only[oCT];obtain⟨t00,SS⟩:∃t0,ts[i]?=some t0:=⟨_,oGE (by omega)⟩;have hDm:ZP.map (·.1)=ts.map (·.1):=LR (by rw[hD.tlen,h.mach.tlen]) hDs
   have h2:=h.signaled hi SS (by
    obtain⟨t',ZR,e⟩:=xg hDm (wn SS)
    rw[<- e];exact Y' t' ZR) hD hDm
   have SV:=h2.mach.tlen;refine(xd h2.prog h2.mach hn0 hn hi hk).bind ?_;rintro _ ⟨UK,U',t3,stop,trap,call,args,data,rfl,UZ,VQ,Xn,Yu,Xg,Z0⟩;have hns:stop≠3:=ne3 Yu λe=>Y' _ (Xg e);have Sc:As (1,(i:Int),kk,(i:Int),stop,trap,t3.2.2.2.1,t3.2.2.1,call,args,data,0,0,0,0,[],0,false):=.slice (Xn.z h.prog.sz hn) hns hk;dsimp only;have Yb:=h2.rlen;have RS:=(h2.mach.mono (show n<=n+64 by omega)).set UZ (i:=i) VQ;obtain⟨t0,WZ⟩:∃t0,ZP[i]?=some t0:=⟨_,oGE (by omega)⟩;obtain⟨Zl,la,WQ,YL,WR⟩:=h2.sliced hi WZ (Y' t0 WZ) RS Sc Yu hns;refine dH (dU (by simp;omega)) ?_;refine Ok.bind (P:=λr=>∃cs ls ts ck rn ins d os us ow qs rec js,r=((i:Int),(),(),(),(),0,(),(),(),(),(),(),(),(),(),(),(),(),(),code,ss,dt,bs,key,cs,ls,ts,ck,rn,ins,d,os,us,ow,qs,rec,js,())/\g8 (n+64) (q+4) code ss dt bs cs ls ts ck rn ins d os us ow qs rec js) ?_ ?_
   ·by_cases hs1:stop=1
    ·subst hs1;simp only[BEq.rfl,oCT];refine(B8 (q:=q+2) Zl hi (by omega) hn (by omega) Xn (Z0 rfl) (f9 (by omega) t3) (by rcases Yu with⟨e,_⟩|⟨_,e⟩|⟨e,_⟩|⟨e,_⟩<;>first|exact e|exact absurd e (by decide)) WQ YL WR).bind ?_;rintro _ ⟨RN,S6,Te,RL,Td,V6,d4,S9,Tf,Ta,Tb,V8,S4,rfl,h4⟩;exact Ok.ret ⟨_,_,_,_,_,_,_,_,_,_,_,_,_,rfl,h4⟩
    ·simp only[oBF hs1,oCF];exact Ok.ret ⟨_,_,_,_,_,_,_,_,_,_,_,_,_,rfl,Zl.prog,Zl.mach,Zl.outs,Zl.lock,by have:=Zl.rlen;omega,Zl.jlen,Zl.rent,Zl.jne,Zl.xst,Zl.xou,Zl.xq,Zl.xx⟩
   rintro _ ⟨cs,ls,ts,ck,rn,ins,d,os,us,ow,qs,rec,js,rfl,h5⟩;dsimp only;obtain⟨t5,UE⟩:∃t5,ts[i]?=some t5:=⟨_,oGE (by have:=h5.mach.tlen;omega)⟩;simp only[dL,oBS,show dJ ts i=some t5 from UE];refine Ok.bind (P:=λr=>∃cs ls ts ck rn ins d os us ow qs rec js,r=((),(),(),(),0,(),(),(),(),(),(),(),(),(),(),(),(),(),code,ss,dt,bs,key,cs,ls,ts,ck,rn,ins,d,os,us,ow,qs,rec,js,())/\g8 (n+64) (q+11) code ss dt bs cs ls ts ck rn ins d os us ow qs rec js) ?_ ?_
   ·(with_reducible refine dF (λYm=>?_) λYm=>?_)
    ·refine(Fo h5 hi (by omega) (by omega) UE (by first|exact Ym|exact beq_iff_eq.1 Ym)).bind ?_;rintro _ ⟨RN,S6,Te,RL,Td,V6,d4,S9,Tf,Ta,Tb,V8,S4,rfl,h4⟩;exact Ok.ret ⟨_,_,_,_,_,_,_,_,_,_,_,_,_,rfl,h4⟩
    ·exact Ok.ret ⟨_,_,_,_,_,_,_,_,_,_,_,_,_,rfl,h5.prog,h5.mach,h5.outs,h5.lock,by have:=h5.rlen;omega,h5.jlen,h5.rent,h5.jne,h5.xst,h5.xou,h5.xq,h5.xx⟩
   rintro _ ⟨cs,ls,ts,ck,rn,ins,d,os,us,ow,qs,rec,js,rfl,h6⟩;exact Ok.ret (.inr ⟨_,_,_,_,_,_,_,_,_,_,_,_,_,rfl,h6⟩)
theorem Ni{code:List DIn}{ss bs:List Int}{d:List (List Int)}{key:Int}(hp:lR code ss d)(hl:LV bs ss):Ok (mb code ss d bs key) λr=>∃cs ts,r=(bs,key,cs,gI,ts,0,())/\MOk 0 ss bs cs gI ts/\ts.map (·.1)=[1,0,0,0]:=by
 unfold mb;rw[GC hp,ut hl];simp only[oBS,oNT,oCF,bne_self_eq_false];refine(N9 hp hl).bind ?_;rintro _ ⟨cs,rfl,ZK,ZB⟩;dsimp only;have Up:=hl.2.1;have Wd:=hp.sz.2.1;refine dH (dU (by omega)) ?_;rw[show List.append [] bs=bs from rfl]
 refine Ok.loop (P:=λs'=>∃k:Nat,∃ts,s'=((k:Int),(),0,(),(),(),bs,key,cs,gI,ts,())/\k<=4/\ts.length=k/\(∀t∈ts,yH (RK bs ss) 0 t)/\ts.map (·.1)=([1,0,0,0]:List Int).take k)
  (R:=λr=>∃a b ts,r=(a,b,(),0,(),(),(),bs,key,cs,gI,ts,())/\ts.length=4/\(∀t∈ts,yH (RK bs ss) 0 t)/\ts.map (·.1)=[1,0,0,0]) (m:=λs'=>(4-s'.1).toNat) ⟨0,[],rfl,by omega,rfl,ek,rfl⟩ (by unfold NN;dsimp only;omega) ?_ ?_
 ·rintro _ ⟨k,ts,rfl,hk,Xz,YO,Vl⟩;unfold pF;dsimp only
  (with_reducible refine dF (λZ9=>?_) λZ9=>?_)
  ·refine dH (by decide) ?_;refine Ok.bind (P:=λr=>∃s:Int,((0<=s/\s<=4)/\([1,0,0,0]:List Int)[k]?=some s)/\r=((k:Int),(),0,(),(),(),bs,key,cs,gI,ts,s,List.replicate 8 (0,0),0,0,-1,-1,0,0,())) ?_ ?_
   ·(with_reducible refine dF (λZX=>?_) λZX=>?_)
    ·exact Ok.ret ⟨1,⟨by decide,by rw[show k=0 by omega];rfl⟩,rfl⟩
    ·exact Ok.ret ⟨0,⟨by decide,by rcases(show k=1\/k=2\/k=3 by omega)with rfl|rfl|rfl<;>rfl⟩,rfl⟩
   ·rintro _ ⟨s,⟨hs,hsk⟩,rfl⟩;dsimp only;refine dH (dU (by simp;omega)) ?_
    (simp (disch:=omega) only [dQ,dZ,dT,dR])
    exact Ok.ret ⟨⟨k+1,_,rfl,by omega,by rw[fq,Xz];rfl,gU YO (all_cons (Nc hs) ek),by rw[List.take_add_one,hsk,<- Vl];simp⟩,by dsimp only;omega⟩
  ·exact Ok.ret ⟨_,_,_,rfl,by omega,YO,by rw[Vl,show k=4 by omega];rfl⟩
 ·rintro _ ⟨a,b,ts,rfl,Xz,YO,Vl⟩;exact Ok.ret ⟨cs,ts,rfl,⟨hl,Kn ZK λc hc=>(ZB c hc).mono λ_ h=>h.elim,Xz,YO⟩,Vl⟩
theorem Ow{code:List DIn}{ss bs:List Int}{dt:List (List Int)}{key:Int}{ck rn:List Int}{ins:List (List Int)}{d:List (List DCn)}{os:List DOp}{us:List DOu}(hp:lR code ss dt)(hl:LV bs ss)(ho:rI ss ck rn ins d os us):
 Ok (lW code ss dt bs key ck rn ins d os us) λr=>∃cs ts,r=(code,ss,dt,bs,key,cs,gI,ts,ck,rn,ins,d,os,us,[-1,-1,-1,-1],[[],[],[],[]],(),[-1,-1,-1,-1],0,())/\MOk 0 ss bs cs gI ts/\ts.map (·.1)=[1,0,0,0]:=by
 unfold lW;refine(Ni hp hl).bind ?_;rintro _ ⟨cs,ts,rfl,hm,hst⟩;dsimp only;rw[ra hp.sz ho,ED ho.files,yn ho,JQ];simp only[oBS,oNT,oCF,bne_self_eq_false]
 have e:dY pC NN (0,(),(),(),(),0,(),(),(),(),(),(),(),(),(),(),(),(),(),code,ss,dt,bs,key,cs,gI,ts,ck,rn,ins,d,os,us,[-1,-1,-1,-1],[[],[],[],[]],(),[],())
  = some (4,false,(),(),(),(),0,(),(),(),(),(),(),(),(),(),(),(),(),(),code,ss,dt,bs,key,cs,gI,ts,ck,rn,ins,d,os,us,[-1,-1,-1,-1],[[],[],[],[]],(),[-1,-1,-1,-1],()):=rfl
 rw[e];exact Ok.ret ⟨cs,ts,rfl,hm,hst⟩
theorem wt0(ts:List DTh):OU [[],[],[],[]] ts [-1,-1,-1,-1]:=by
 refine⟨λx ⟨j,q,hj,hx⟩=>?_,λi j hi hj=>?_⟩
 ·have:q∈[([]:List Int),[],[],[]]:=dP hj;simp at this;rw[this]at hx;cases hx
 ·have:j∈[(-1:Int),-1,-1,-1]:=dP hi;simp at this;exact absurd this hj
theorem PJ:yK [[],[],[],[]]:=by
 intro i j q r x hi hj hq hr;have:q∈[([]:List Int),[],[],[]]:=dP hi;simp at this;rw[this]at hq;cases hq
theorem JW{l ss:List Int}{k:Int}(hs:yM ss)(h:DOk l k):Ok (mf ss l k) λr=>∃bs key k',r=(bs,key,l,k',())/\LV bs ss/\W16 key/\DOk l k':=by
 unfold mf
 (with_reducible refine gj (by omega) (by omega) (by omega) (λv0 k0 a0 b0 d0=>?_);try dsimp only)
 refine(N8 hs a0 (by omega)).bind ?_;rintro _ ⟨key,rfl,hk⟩;exact Ok.ret ⟨_,_,_,rfl,PU hs a0,hk,d0⟩
theorem jn0:OW [-1,-1,-1,-1]:=by
 intro u j hj;have:j∈[(-1:Int),-1,-1,-1]:=dP hj;simp at this;omega
theorem Pg{l:List Int}{k:Int}(h:DOk l k):Ok (rl l k) λr=>∃code ss dt bs key cs ls ts ck rn ins d os us ow qs rec js k',r=(code,ss,dt,bs,key,cs,ls,ts,ck,rn,ins,d,os,us,ow,qs,rec,js,l,k',())/\W16 key/\g8 1152 198 code ss dt bs cs ls ts ck rn ins d os us ow qs rec js/\DOk l k':=by
 unfold rl;refine(Hq h).bind ?_;rintro _ ⟨code,ss,dt,k1,rfl,hp,h1⟩;dsimp only;refine(JW hp.sz h1).bind ?_;rintro _ ⟨bs,key,k2,rfl,hL,VD,h2⟩;dsimp only;refine(Hu hp.sz h2).bind ?_;rintro _ ⟨ck,rn,ins,d,os,k3,rfl,hO,h3⟩;dsimp only;refine(Ow hp hL hO).bind ?_;rintro _ ⟨cs,ts,rfl,hM,I'⟩;dsimp only
 (with_reducible refine gj (by assumption) (by omega) (by omega) (λv4 k4 a4 b4 d4=>?_);try dsimp only)
 rw[dQ (x:=3+v4) (by omega) (by omega)]
 obtain⟨y,e,hy⟩:=gy (f:=oP) (n:=NN) (s:=(3+v4,l,k4,(),(),(),(),0,(),(),(),(),(),(),(),(),(),(),(),(),(),code,ss,dt,bs,key,cs,gI,ts,ck,rn,ins,d,os,[],[-1,-1,-1,-1],[[],[],[],[]],[],[-1,-1,-1,-1],()))
  (P:=λs'=>∃(c k':Int)(q:Nat),∃cs ls ts ck rn ins d os us ow qs rec js,s'=(c,l,k',(),(),(),(),0,(),(),(),(),(),(),(),(),(),(),(),(),(),code,ss,dt,bs,key,cs,ls,ts,ck,rn,ins,d,os,us,ow,qs,rec,js,())/\0<=c/\c+q<=18/\DOk l k'/\g8 (64*q) (11*q) code ss dt bs cs ls ts ck rn ins d os us ow qs rec js)
  (R:=λy=>(∃(c k':Int)(f:Bool)(q:Nat),∃cs ls ts ck rn ins d os us ow qs rec js z1 z2 z3 z4 z5 z6 z7 z8 z9 z10 z11 z12 z13 z14 z15 z16 z17 z18,y=.inl (c,f,l,k',(),(),(),(),0,(),(),(),(),(),(),(),(),(),(),(),(),(),code,ss,dt,bs,key,cs,ls,ts,ck,rn,ins,d,os,us,ow,qs,rec,js,z1,z2,z3,z4,z5,z6,z7,z8,z9,z10,z11,z12,z13,z14,z15,z16,z17,z18,())/\q<=18/\DOk l k'/\g8 (64*q) (11*q) code ss dt bs cs ls ts ck rn ins d os us ow qs rec js)\/
   (∃(c k':Int)(f:Bool)(q:Nat),∃cs ls ts ck rn ins d os us ow qs rec js,y=.inr (c,f,l,k',(),(),(),(),0,(),(),(),(),(),(),(),(),(),(),(),(),(),code,ss,dt,bs,key,cs,ls,ts,ck,rn,ins,d,os,us,ow,qs,rec,js,())/\q<=18/\DOk l k'/\g8 (64*q) (11*q) code ss dt bs cs ls ts ck rn ins d os us ow qs rec js)) (m:=λs'=>s'.1.toNat)
  ⟨3+v4,k4,0,_,_,_,_,_,_,_,_,_,_,_,_,_,rfl,by omega,by omega,d4,hp,by simpa using hM,hO,Pp,by simp,rfl,(λe he=>by cases he),jn0,⟨s0.2,rfl,by rw[I'];rfl⟩,rfl,wt0 _,PJ⟩ (by unfold NN;dsimp only;omega) (by
   rintro _ ⟨c,k',q,cs,ls,ts,ck,rn,ins,d,os,us,ow,qs,rec,js,rfl,hc0,hcq,hd,hR⟩;unfold oP;dsimp only
   (with_reducible refine dF (λZ9=>?_) λZ9=>?_)
   ·refine(Kv hd).bind ?_;rintro _ ⟨t,b,s,k5,rfl,t0,t1,b0,b1,hd5⟩;dsimp only;refine(JJ hR (by omega) (by omega) (by omega) ⟨by omega,by omega⟩ ⟨by omega,by omega⟩).bind ?_;rintro _ (⟨e,rfl,he⟩|⟨Va,Vn,ts2,ck2,rn2,ins2,d2,os2,us2,ow2,Ug,V7,S3,rfl,hR2⟩)
    ·dsimp only;rw[bne_iff_ne.2 he];exact Ok.ret (.inl ⟨_,_,_,q,_,_,_,_,_,_,_,_,_,_,_,_,_,_,_,_,_,_,_,_,_,_,_,_,_,_,_,_,_,_,_,rfl,by omega,hd5,hR⟩)
    ·dsimp only;rw[dQ (x:=c-1) (by omega) (by omega)];refine Ok.ret ⟨⟨_,_,q+1,_,_,_,_,_,_,_,_,_,_,_,_,_,rfl,by omega,by omega,hd5,?_⟩,by dsimp only;omega⟩;rw[show 64*((q+1:Nat):Int)=64*(q:Int)+64 by omega,show 11*(q+1)=11*q+11 by omega];exact hR2
   ·exact Ok.ret (.inr ⟨_,_,_,q,_,_,_,_,_,_,_,_,_,_,_,_,_,rfl,by omega,hd,hR⟩))
 rw[e];have ZV:∀{q:Nat}{cs ls ts ck rn ins d os us ow qs rec js},q<=18->g8 (64*q) (11*q) code ss dt bs cs ls ts ck rn ins d os us ow qs rec js->g8 1152 198 code ss dt bs cs ls ts ck rn ins d os us ow qs rec js:=λhq hR=>⟨hR.prog,hR.mach.mono (by omega),hR.outs,hR.lock,by have:=hR.rlen;omega,hR.jlen,hR.rent,hR.jne,hR.xst,hR.xou,hR.xq,hR.xx⟩
 rcases hy with⟨c,k',f,q,cs,ls,ts,ck,rn,ins,d,os,us,ow,qs,rec,js,z1,z2,z3,z4,z5,z6,z7,z8,z9,z10,z11,z12,z13,z14,z15,z16,z17,z18,rfl,hq,hd,hR⟩|⟨c,k',f,q,cs,ls,ts,ck,rn,ins,d,os,us,ow,qs,rec,js,rfl,hq,hd,hR⟩
 ·exact Ok.ret ⟨_,_,_,_,_,_,_,_,_,_,_,_,_,_,_,_,_,_,_,rfl,VD,ZV hq hR,hd⟩
 ·exact Ok.ret ⟨_,_,_,_,_,_,_,_,_,_,_,_,_,_,_,_,_,_,_,rfl,VD,ZV hq hR,hd⟩
theorem OA:oN=some (true,()):=by kernel_rfl
theorem Qf{x n:Int}{f:Int×Unit->Option (Bool×Unit)}(hx:KV x)(hn:0<n)(Uu:n<=1000){Q:Bool×Unit->Prop}(K:∀v,0<=v->v<n->Ok (f (v,())) Q):Ok ((rk x n).bind f) Q:=by
 unfold rk;refine Ok.bind (P:=λr=>∃v,r=(v,())/\0<=v/\v<n) ?_ ?_
 ·exact N5 hx hn (by omega) λv v0 v1=>Ok.ret ⟨v,rfl,v0,v1⟩
 ·rintro _ ⟨v,rfl,v0,v1⟩;exact K v v0 v1
theorem O7{e:DEn}{s s':List Int×List DLa}(he:EnS e)(hs:Sm s)(h:stp s e=some s'):Sm s':=by
 obtain⟨st,la⟩:=s;obtain⟨b,ev,hv⟩:=D0 he;unfold stp at h;rw[ev]at h
 cases b with
 |false=>cases h
 |true=>
  obtain⟨h1,h2⟩:=hv rfl;obtain⟨_,ef,b,WI,U9,rfl,hs'⟩:=DT hs he h1 h2;simp only[ef]at h
  cases b with
  |false=>cases h
  |true=>
   injection h with h
   rw[<- h];exact hs'
theorem Nh:∀{l:List DEn}{s s':List Int×List DLa},(∀e∈l,EnS e)->Sm s->uq l s=some s'->Sm s':=by
 intro l
 induction l with
 |nil=>
  intro s s' _ hs h;have h:some s=some s':=h
  injection h with h
  rw[<- h];exact hs
 |cons e l ih=>
  intro s s' he hs h;have h:(stp s e).bind (λs=>uq l s)=some s':=h
  cases hq:stp s e with
  |none=>rw[hq]at h;cases h
  |some s1=>
   rw[hq]at h;exact ih (λx hx=>he x (List.mem_cons_of_mem _ hx)) (O7 (he e (List.mem_cons_self ..)) hs hq) h
theorem As.s{e:DEn}(h:As e):EnS e:=by
 cases h with
 |slice hr _ _=>exact⟨by have:=hr.args.2;show _<=1000;dsimp only;omega,by have:=hr.data.2;show _<=1000;dsimp only;omega,by show([]:List DCn).length<=1000;decide⟩
 |result hr _ hd _=>exact⟨by have:=hr.args.2;show _<=1000;dsimp only;omega,by have:=hr.data.2;show _<=1000;dsimp only;omega,by have:=hd.2;show _<=1000;dsimp only;omega⟩
 |signal _=>exact⟨by show([]:List DCn).length<=1000;decide,by show([]:List DCn).length<=1000;decide,by show([]:List DCn).length<=1000;decide⟩
 |wake _ _=>exact⟨by show([]:List DCn).length<=1000;decide,by show([]:List DCn).length<=1000;decide,by show([]:List DCn).length<=1000;decide⟩
def OuB(us:List DOu):Prop:=us.length<=200/\∀x∈us,x.2.2.length<=16
theorem Pk{us:List DOu}(h:OuB us)(e:DEn):OuB (zX us e):=by
 obtain⟨k,_,_,_,_,_,_,_,call,args,data,t,v,_,_,_,_,_⟩:=e;unfold zX;dsimp only;split
 ·cases args with
  |nil=>exact h
  |cons a args=>
   dsimp only;split
   ·rename_i hc;refine⟨by rw[List.length_append,oLC,List.length_nil];omega,λx hx=>?_⟩;rcases List.mem_append.1 hx with hx|hx
    ·exact h.2 x hx
    ·rw[List.mem_singleton.1 hx];exact hc.2.2.2
   ·exact h
 ·exact h
theorem MP:∀(l:List DEn)(us:List DOu),OuB us->OuB (l.foldl zX us):=by
 intro l
 induction l with
 |nil=>intro us h;exact h
 |cons e l ih=>intro us h;exact ih _ (Pk h e)
theorem Ks{l:List DCn}(h:l.length<=1000):fP l=some (l,()):=by
 unfold fP;rw[sG (by decide) (by omega)];rfl
theorem Ls{us:List DOu}(h:OuB us):lV us=some (us,()):=by
 unfold lV;simp only[dR]
 obtain⟨t,e,x3,x4,x5,x6,rfl⟩:=k9 (f:=lF)
  (λs=>∃i:Nat,i<=us.length/\s=(us,(us.length:Int),(i:Int),us.take i,()))
  (λt=>∃x3 x4 x5 x6,t=(x3,x4,x5,x6,us,()))
  (λs=>(s.2.1-s.2.2.1).toNat) (by
   rintro _ ⟨i,hi,rfl⟩;unfold lF;have hl:=h.1;by_cases hn:(i:Int)<us.length
   ·left
    have Zn:i<us.length:=by omega
    have hx:=h.2 _ (List.getElem_mem Zn);simp only[hn,decide_true,oCT,dL,oBS,dJ,oGE Zn];rw[Ks (by omega)];simp only[oBS];rw[sG (by decide) (by rw[oLT,oLC,List.length_nil];omega),dQ (x:=(i:Int)+1) (by omega) (by omega)];refine⟨_,rfl,⟨i+1,by omega,?_⟩,by simp only;omega⟩;rw[List.take_succ_eq_append_getElem Zn];rfl
   ·right;simp only[hn,decide_false,oCF]
    have:i=us.length:=by omega
    subst this
    exact⟨_,rfl,_,_,_,_,by rw[List.take_length]⟩) NN (us,(us.length:Int),0,[],()) ⟨0,by omega,by simp⟩ (by have:=h.1;show((us.length:Int)-0).toNat<NN;unfold NN;omega)
 rw[e];rfl
theorem K0{us:List DOu}{sk:Int}{data:List DCn}(h:OuB us)(hd:data.length<=1000):∃n b,lU us sk data=some (if 0<=sk/\sk<2/\us.length<200/\data.length<=16 then us++[((us.length:Int),sk,data)]else us,n,b,()):=by
 have hl:=h.1;unfold lU;rw[Ls h];simp only[oBS,dR];by_cases h1:sk<0
 ·rw[oDT h1,oIN (by omega)];exact⟨_,_,rfl⟩
 by_cases h2:sk>=2
 ·rw[oDF h1,oDT h2,oIN (by omega)];exact⟨_,_,rfl⟩
 rw[oDF h1,oDF h2];delta dO;simp only[oCF];by_cases h3:(us.length:Int)>=200
 ·rw[oDT h3,oIN (by omega)];exact⟨_,_,rfl⟩
 by_cases h4:(data.length:Int)>16
 ·rw[oDF h3,oDT h4,oIN (by omega)];exact⟨_,_,rfl⟩
 ·rw[oDF h3,oDF h4,oIP (by omega)];simp only[oCF,oBS];rw[Ks hd];simp only[oBS];rw[sG (by decide) (by rw[oLC,List.length_nil];omega)];exact⟨_,_,rfl⟩
theorem Hv{l:List DEn}(h:∀e∈l,EnS e)(hT:∀e∈l,As e)(hl:l.length<=1000):jn l=some (CE l,()):=by
 unfold jn;simp only[dR]
 obtain⟨t,e,x3,x4,x5,x6,rfl⟩:=k9 (f:=jt)
  (λs=>∃i:Nat,i<=l.length/\s=(l,(l.length:Int),(i:Int),CE (l.take i),()))
  (λt=>∃x3 x4 x5 x6,t=(x3,x4,x5,x6,CE l,()))
  (λs=>(s.2.1-s.2.2.1).toNat) (by
   rintro _ ⟨i,hi,rfl⟩;unfold jt;by_cases hn:(i:Int)<l.length
   ·left
    have Zn:i<l.length:=by omega
    have he:=hT _ (List.getElem_mem Zn);have hw:=dQ (x:=(i:Int)+1) (by omega) (by omega);have hb:OuB (CE (l.take i)):=MP _ _ ⟨by decide,λx hx=>by cases hx⟩
    have XY:CE (l.take (i+1))=zX (CE (l.take i)) l[i]:=by rw[List.take_succ_eq_append_getElem Zn,s8]
    simp only[hn,decide_true,oCT,dL,oBS,dJ,oGE Zn];refine⟨(l,(l.length:Int),(i:Int)+1,CE (l.take (i+1)),()),?_,⟨i+1,by omega,rfl⟩,by simp only;omega⟩;rw[XY];generalize CE (l.take i)=us at hb;generalize l[i]=e at he
    cases he with
    |slice _ _ _=>
     simp only[Int.reduceBEq,oCF,oBS,dQ (x:=(i:Int)+1) (by omega) (by omega)];simp[zX]
    |signal _=>
     simp only[Int.reduceBEq,oCF,oBS,dQ (x:=(i:Int)+1) (by omega) (by omega)];simp[zX]
    |wake _ _=>
     simp only[Int.reduceBEq,oCF,oBS,dQ (x:=(i:Int)+1) (by omega) (by omega)];simp[zX]
    | @result j trap count pc call args data t v rg o sp dat w hr hc hd hs=>
     have h16:=hr.data.2;simp only[Int.reduceBEq,oCT,dQ (x:=(i:Int)+1) (by omega) (by omega)];by_cases h13:call=13
     ·simp only[beq_iff_eq.2 h13,oCT]
      cases args with
      |nil=>
       delta dO;simp[zX,hw]
      |cons a args=>
       have hp:decide ((dO (List.length (a::args)))>0)=true:=by rw[dR];exact oDT (by rw[oLC];omega)
       have hva:0<=a.2.1/\a.2.1<=65535:=by
        rcases hr.args.1 a (List.mem_cons_self ..)with⟨_,_,_,g1,g2⟩|⟨_,g1,_⟩<;>omega
       simp only[hp,oCT];by_cases ht:t=0
       ·simp only[beq_iff_eq.2 ht,oCT,oBS];by_cases hv:v=65535
        ·simp[hv,zX,hw]
        ·rw[show(v != 65535)=true from bne_iff_ne.2 hv];obtain⟨n,b,es⟩:=K0 (us:=us) (sk:=a.2.1) (data:=data) hb (by omega);simp only[oCT,List.getElem?_cons_zero,oBS,dT (x:=a.2.1) (by omega) (by omega),es,hw]
         have ho:zX us (2,j,0,j,1,trap,count,pc,call,a::args,data,t,v,rg,o,dat,sp,w)=if 0<=a.2.1/\a.2.1<2/\us.length<200/\data.length<=16 then us++[((us.length:Int),a.2.1,data)]else us:=by
          show(if(2:Int)=2/\call=13/\t=0/\v≠65535 then _ else _)=_;rw[oIP ⟨rfl,h13,ht,hv⟩]
         rw[ho]
       ·simp only[oBF ht,oCF,oBS];simp[zX,ht,hw]
     ·simp only[oBF h13,oCF,oBS];simp[zX,h13,hw]
   ·right;simp only[hn,decide_false,oCF]
    have:i=l.length:=by omega
    subst this
    exact⟨_,rfl,_,_,_,_,by rw[List.take_length]⟩) NN (l,(l.length:Int),0,[],()) ⟨0,by omega,by simp[CE]⟩ (by show((l.length:Int)-0).toNat<NN;unfold NN;omega)
 rw[e];rfl
theorem Eu{us:List DOu}(h:OuB us):ne us us=some (true,()):=by
 unfold ne;simp only[dR,bne_self_eq_false,oCF]
 obtain⟨t,e,x1,x2,x3,x4,x5,rfl⟩:=k9 (f:=mG)
  (λs=>∃i:Nat,i<=us.length/\s=(us,us,(us.length:Int),(i:Int),()))
  (λt=>∃x1 x2 x3 x4 x5,t=.inr (x1,x2,x3,x4,x5,()))
  (λs=>(s.2.2.1-s.2.2.2.1).toNat) (by
   rintro _ ⟨i,hi,rfl⟩;unfold mG;have hl:=h.1;by_cases hn:(i:Int)<us.length
   ·left
    have Zn:i<us.length:=by omega
    have hx:=h.2 _ (List.getElem_mem Zn);obtain⟨r,er,gr⟩:=lw (a:=us[i].2.2) (b:=us[i].2.2) (by omega);obtain rfl:r=true:=gr.2 rfl;simp only[hn,decide_true,oCT,dL,oBS,dJ,oGE Zn,bne_self_eq_false,oCF,er,oNT];rw[dQ (x:=(i:Int)+1) (by omega) (by omega)];exact⟨_,rfl,⟨i+1,by omega,rfl⟩,by simp only;omega⟩
   ·right;simp only[hn,decide_false,oCF]
    exact⟨_,rfl,_,_,_,_,_,rfl⟩) NN (us,us,(us.length:Int),0,()) ⟨0,by omega,rfl⟩ (by have:=h.1;show((us.length:Int)-0).toNat<NN;unfold NN;omega)
 simp only[e]
theorem runs20{l:List Int}{k:Int}(h1:DOk l 0)(hk:KV k):j8 l k=some (true,()):=by
 refine eZ ?_;unfold j8;refine(Pg h1).bind ?_;rintro _ ⟨code,ss,dt,bs,key,cs,ls,ts,ck,rn,ins,d,os,us,ow,qs,x,js,k1,rfl,_,hR,_⟩;dsimp only;have hx:=hR.rlen;have hS:∀e∈x,EnS e:=λe he=>(hR.rent e he).s;have Yc:=hR.mach.tlen;obtain⟨la,_,YL⟩:=hR.xst
 have est:fv x=some (ts.map (·.1),true,()):=by
  rcases FP hS (by omega)with⟨st,U9,e1,e2⟩|⟨e1,_⟩
  ·rw[YL]at e1
   injection e1 with e1
   injection e1 with e1
   rw[e2,<- e1]
  ·rw[YL]at e1;cases e1
 have hbu:OuB us:=by rw[<- hR.xou];exact MP _ _ ⟨by decide,λx hx=>by cases hx⟩
 delta dO;rw[est];simp only[oBS,oNT,oCF,List.length_map,Yc];rw[show(((4:Nat):Int) != 4)=false from rfl];simp only[oCF]
 have eL:dY gg NN (k,ts,((4:Nat):Int),0,code,ss,dt,bs,key,cs,ls,ts,ck,rn,ins,d,os,us,ow,qs,x,js,ts.map (·.1),())=some (.inr (k,ts,((4:Nat):Int),((4:Nat):Int),false,code,ss,dt,bs,key,cs,ls,ts,ck,rn,ins,d,os,us,ow,qs,x,js,ts.map (·.1),())):=by
  refine sJ (f:=gg) (N:=NN) (st:=λq=>(k,ts,((4:Nat):Int),(q:Int),code,ss,dt,bs,key,cs,ls,ts,ck,rn,ins,d,os,us,ow,qs,x,js,ts.map (·.1),())) (n:=4) (by unfold NN;omega) ?_ ?_
  ·intro q hq;unfold gg;dsimp only;obtain⟨t,ht⟩:∃t,ts[q]?=some t:=⟨_,oGE (by omega)⟩;rw[oDT (show(q:Int)<((4:Nat):Int) by omega)];simp only[oCT,dL,oBS,show dJ ts q=some t from ht,show dJ (ts.map (·.1)) q=some t.1 from wn ht,bne_self_eq_false,oCF];rw[dQ (x:=(q:Int)+1) (by omega) (by omega)];exact Ok.ret rfl
  ·exact Ok.ret rfl
 have eL':=eL;rw[show((4:Nat):Int)=4 from rfl]at eL'
 first|rw[eL]|rw[eL']
 dsimp only;rw[dQ (x:=(x.length:Int)+1) (by omega) (by omega)];refine Qf hk (by omega) (by omega) λv v0 v1=>?_;obtain⟨i,rfl⟩:∃i:Nat,v=i:=⟨v.toNat,by omega⟩;dsimp only;rw[dL];simp only[oBS];refine dH (by simp[gY];omega) ?_
 have w1:lT x 0 (Nat.sub i 0)=x.take i:=by
  show(x.drop 0).take (i-0)=x.take i;rw[List.drop_zero,Nat.sub_zero]
 have hSt:∀e∈x.take i,EnS e:=λe he=>hS e (List.mem_of_mem_take he)
 obtain⟨st,et,hst4⟩:∃st,fv (x.take i)=some (st,true,())/\st.length=4:=by
  rcases FP hSt (by rw[oLT];omega)with⟨st,U9,e1,e2⟩|⟨e1,_⟩
  ·exact⟨st,e2,(Nh hSt sm0 e1).1⟩
  ·have e3:uq x s0=(uq (x.take i) s0).bind (uq (x.drop i)):=by rw[<- oQ,List.take_append_drop]
   rw[e1,YL]at e3;cases e3
 rw[w1,et];simp only[oBS,oCT,hst4];rw[show(((4:Nat):Int)==4)=true from rfl];simp only[oCT];rw[Hv hS hR.rent (by omega),hR.xou];simp only[oBS];rw[Eu hbu];simp only[oBS,oCT];rw[F6 (by omega)];have VL:=uH ts 0;simp only[oBS];rw[oDT (show((gZ ts 0).length:Int)<=4 by omega)];simp only[oCT,OA,oBS];exact Ok.ret rfl
def JK:List CT->CT
 | []=>.nat
 | [t]=>t
 |t::u::r=>.pair t (JK (u::r))
def rK:(l:List CT)->HL den l->den (JK l)
 | [],_=>(0:Nat)
 | [_],h=>h.1
 |_::u::r,h=>(h.1,rK (u::r) h.2)
def encL:(l:List CT)->HL den l->List TV
 | [],_=>[]
 |t::r,h=>enc t h.1++encL r h.2
theorem Gx:∀(l:List CT)(h:HL den l),enc (JK l) (rK l h)=encL l h
 | [],_=>rfl
 | [_],h=>(List.append_nil _).symm
 |_::u::r,h=>by
  show enc _ h.1++enc (JK (u::r)) (rK (u::r) h.2)=_;rw[Gx (u::r) h.2];rfl
def FI:(c:CT)->den c->Prop
 |.int k,n=>(Lit.int k n).wf=true
 |.str,s=>ByteArray.size s<=maxLen
 |.row _ t,xs=>List.length xs<=maxLen/\∀x∈xs,FI t x
 |.pair a b,x=>FI a x.1/\FI b x.2
 |_,_=>True
def GoodL:(l:List CT)->HL den l->Prop
 | [],_=>True
 |t::r,h=>FI t h.1/\GoodL r h.2
theorem DQ:∀(l:List CT)(h:HL den l),GoodL l h->FI (JK l) (rK l h)
 | [],_,_=>trivial
 | [_],_,g=>g.1
 |_::u::r,h,g=>⟨g.1,DQ (u::r) h.2 g.2⟩
def appL:(l m:List CT)->HL den l->HL den m->HL den (l++m)
 | [],_,_,k=>k
 |_::r,m,h,k=>(h.1,appL r m h.2 k)
theorem Gy:∀(l m:List CT)(h:HL den l)(k:HL den m),encL (l++m) (appL l m h k)=encL l h++encL m k
 | [],_,_,_=>rfl
 |t::r,m,h,k=>by
  show enc t h.1++encL (r++m) (appL r m h.2 k)=(enc t h.1++encL r h.2)++_;rw[Gy r m h.2 k,List.append_assoc]
theorem Gn:∀(l m:List CT)(h:HL den l)(k:HL den m),GoodL l h->GoodL m k->GoodL (l++m) (appL l m h k)
 | [],_,_,_,_,g=>g
 |_::r,m,h,k,g,g'=>⟨g.1,Gn r m h.2 k g.2 g'⟩
def RelL(w:World):List TV->List Value->Prop
 | [],[]=>True
 |t::ts,v::vs=>mB w (λ_=>True) t v/\RelL w ts vs
 |_,_=>False
theorem RelL.app{w:World}:∀{a:List TV}{x:List Value}{b:List TV}{y:List Value},RelL w a x->RelL w b y->RelL w (a++b) (x++y)
 | [],[],_,_,_,h=>h
 |_::a,_::x,_,_,g,h=>⟨g.1,RelL.app (a:=a) (x:=x) g.2 h⟩
 | [],_::_,_,_,g,_=>g.elim
 |_::_,[],_,_,g,_=>g.elim
theorem RelL.len{w:World}:∀{a:List TV}{x:List Value},RelL w a x->a.length=x.length
 | [],[],_=>rfl
 |_::a,_::x,g=>by rw[oLC,oLC,RelL.len (a:=a) (x:=x) g.2]
 | [],_::_,g=>g.elim
 |_::_,[],g=>g.elim
theorem RelL.get{w:World}:∀{a:List TV}{x:List Value},RelL w a x->∀j (h:j<a.length)(h':j<x.length),mB w (λ_=>True) a[j] x[j]
 |_::_,_::_,g,0,_,_=>g.1
 |_::a,_::x,g,j+1,h,h'=>RelL.get (a:=a) (x:=x) g.2 j (by simpa using h) (by simpa using h')
 | [],_,_,_,h,_=>by simp at h
 |_::_,[],g,_,_,_=>g.elim
def Pc(P:Program)(g:TypeId->Option (List CT)):Nat->List Field->Option (List CT)
 |_,[]=>some []
 |off,f::fs=>match g f.type with
  |some l=>if f.offset=off/\l.length=P.cellsOf f.type then(Pc P g (off+l.length) fs).map (l++·)else none
  |none=>none
def xo(P:Program):Nat->TypeId->Option (List CT)
 |0,_=>none
 |n+1,t=>match P.underlying t with
  |some .bool=>some [.bool]
  |some (.int k)=>some [.int k]
  |some .string=>some [.str]
  |some (.slice e)=>match xo P n e with
   |some l=>if l.length=P.cellsOf e then some [.row false (JK l)]else none
   |none=>none
  |some (.struct fs)=>match Pc P (xo P n) 0 fs.toList with
   |some l=>if l.length=P.cellsOf t then some l else none
   |none=>none
  |_=>none
section
variable {H:Type} {ec:TypeId×Value->H} {P:Program} {w:World} {base:Nat} {spare:Nat->Bool} {held:Bool}
theorem J6{g:TypeId->Option (List CT)}{m:Nat}{cs:List Value}
 (ih:∀t L,g t=some L->∀cs x,DataW.trod ec P w base spare held m t cs=some x->∃h:HL den L,GoodL L h/\RelL w (encL L h) cs):
 ∀(fs:List Field)(off:Nat)(L:List CT),Pc P g off fs=some L->(∀f∈fs,∃x,DataW.trod ec P w base spare held m f.type ((cs.drop f.offset).take (P.cellsOf f.type))=some x)->
  ∃h:HL den L,GoodL L h/\RelL w (encL L h) ((cs.drop off).take L.length):=by
 intro fs
 induction fs with
 |nil=>
  intro off L hL _
  injection hL with hL
  subst hL;exact⟨(),trivial,trivial⟩
 |cons f fs Q5=>
  intro off L hL hx;unfold Pc at hL;split at hL
  ·rename_i l hg;split at hL
   ·rename_i ho;obtain⟨rfl,hlen⟩:=ho
    cases hr:Pc P g (f.offset+l.length) fs with
    |none=>simp_all
    |some L2=>
     rw[hr]at hL
     injection hL with hL
     subst hL;obtain⟨x,h1⟩:=hx f List.mem_cons_self;obtain⟨h,g1,r1⟩:=ih _ _ hg _ _ h1;have ⟨k,g2,r2⟩:=Q5 _ _ hr λf' Rr=>hx f' (List.mem_cons_of_mem _ Rr);refine⟨appL l L2 h k,Gn _ _ _ _ g1 g2,?_⟩;rw[Gy,List.length_append,List.take_add,List.drop_drop];rw[hlen];rw[hlen]at r2;exact r1.app r2
   ·cases hL
  ·cases hL
theorem Pv:∀(n:Nat)(t:TypeId)(L:List CT),xo P n t=some L->∀(UM:Nat)(cs:List Value)(x:DataW H×List MemPlace),DataW.trod ec P w base spare held UM t cs=some x ->
 ∃h:HL den L,GoodL L h/\RelL w (encL L h) cs:=by
 intro n
 induction n with
 |zero=>intro t L h;cases h
 |succ n ih=>
  intro t L hL UM cs x hx;unfold xo at hL;split at hL
  ·rename_i ht
   injection hL with hL
   subst hL;obtain⟨b,rfl,_⟩:=DataW.trod_bool ht hx;exact⟨(b,()),⟨trivial,trivial⟩,.v rfl,trivial⟩
  ·rename_i k ht
   injection hL with hL
   subst hL;obtain⟨z,rfl,_,hw⟩:=DataW.trod_int ht hx;exact⟨(z,()),⟨hw,trivial⟩,.v rfl,trivial⟩
  ·rename_i ht
   injection hL with hL
   subst hL;obtain⟨s,rfl,_,hs⟩:=DataW.trod_string ht hx;exact⟨(s,()),⟨hs,trivial⟩,.v rfl,trivial⟩
  ·rename_i e ht;split at hL
   ·rename_i l hl;split at hL
    ·rename_i hsz
     injection hL with hL
     subst hL
     rcases DataW.trod_slice ht hx with⟨rfl,_⟩|⟨a,len,cap,elems,rest,m,_,rfl,_,_,Yi,hmax,YV,Z4,_,_⟩
     ·exact⟨([],()),⟨⟨Nat.zero_le _,λx hx=>by cases hx⟩,trivial⟩,.sl (c:=[]) 1 (λ_ _=>undef) (λi h=>by simp at h) (Nat.le_refl _) (Nat.zero_le _) (λ_=>rfl) (λi j h=>by simp at h) (λi j h=>by simp at h),trivial⟩
     ·have each:∀i:Fin len,∃p:HL den l×List Value,GoodL l p.1/\RelL w (encL l p.1) p.2/\w.cells? base (a.add (i.1*P.cellsOf e)) (P.cellsOf e)=some p.2:=by
       intro i;have h1:=Z4 i.1 i.2;rw[oGE (by omega)]at h1;obtain⟨Z5,h2,h3⟩:=Option.bind_eq_some_iff.1 h1;obtain⟨h,g,r⟩:=ih _ _ hl _ _ _ h3;exact⟨(h,Z5),g,r,h2⟩
      obtain⟨f,hf⟩:=Classical.axiomOfChoice each
      have clen:∀i,(encL l (f i).1).length=l.length:=λi=>by
       rw[(hf i).2.1.len,(World.cells?_some (hf i).2.2).2.1,hsz]
      have key:mB w (λ_=>True) (.sl ((List.ofFn λi:Fin len=>rK l (f i).1).map (enc (JK l)))) (.slice (some a) ((List.ofFn λi:Fin len=>rK l (f i).1).map (enc (JK l))).length cap):=by
       have el:((List.ofFn λi:Fin len=>rK l (f i).1).map (enc (JK l))).length=len:=by simp
       have eg:∀i (hi:i<((List.ofFn λi:Fin len=>rK l (f i).1).map (enc (JK l))).length),((List.ofFn λi:Fin len=>rK l (f i).1).map (enc (JK l)))[i]=encL l (f ⟨i,by omega⟩).1:=by
        intro i hi;simp[Gx]
       refine .sl l.length (λi j=>if h:i<len then(f ⟨i,h⟩).2.getD j undef else undef) (λi hi=>by rw[eg i hi,clen]) (by rw[el];exact Yi) hmax (λh=>by cases h) (λi j hi hj=>?_) (λi j hi hj=>?_)
       ·rw[el]at hi
        have cell:∀i' (Zt:i'<len) j',j'<l.length->w.cell? ((a.add (i'*l.length)).add j')=some ((f ⟨i',Zt⟩).2.getD j' undef):=by
         intro i' Zt j' ZQ;have h1:=World.cells?_some (hf ⟨i',Zt⟩).2.2;have h2:=h1.2.2 j' (by omega);rw[hsz];rw[h2]
         have:j'<(f ⟨i',Zt⟩).2.length:=by rw[h1.2.1];omega
         simp[this]
        have h0:=World.cell?_spot (cell 0 (by omega) 0 (by omega));obtain⟨b,o,spot⟩:=a
        have SO:spot=none:=by simpa[Addr.add]using h0
        subst SO;refine⟨b,o,rfl,trivial,?_⟩;have h2:=cell i hi j hj;rw[Go.WideShapes.add_plain,Go.WideShapes.add_plain]at h2;rw[dif_pos hi,<- h2,Nat.add_assoc]
       ·rw[el]at hi;have hr:=(hf ⟨i,hi⟩).2.1
        have hj2:j<(encL l (f ⟨i,hi⟩).1).length:=by rw[eg i (by omega)]at hj;exact hj
        have Tr:j<(f ⟨i,hi⟩).2.length:=by rw[<- hr.len];exact hj2
        have h3:=hr.get j hj2 Tr
        simp_all
      rw[List.length_map,List.length_ofFn]at key;refine⟨(List.ofFn λi:Fin len=>rK l (f i).1,()),⟨⟨by rw[List.length_ofFn];omega,λx hx=>?_⟩,trivial⟩,key,trivial⟩;obtain⟨i,rfl⟩:=List.mem_ofFn.1 hx;exact DQ _ _ (hf i).1
    ·cases hL
   ·cases hL
  ·rename_i fs ht;split at hL
   ·rename_i l hl;split at hL
    ·rename_i hsz
     injection hL with hL
     subst hL;obtain⟨xs,m,_,_,hlen,hxl,hf⟩:=DataW.trod_struct ht hx
     obtain⟨h,g,r⟩:=J6 (cs:=cs) (m:=m) (λt L hL cs x hx=>ih t L hL m cs x hx) fs.toList 0 l hl (by
      intro f hfm;obtain⟨i,hi,rfl⟩:=List.mem_iff_getElem.1 hfm
      have Zn:i<fs.size:=by simpa using hi
      have h1:=hf i fs[i] (by simp[Zn]);rw[oGE (by omega)]at h1
      exact⟨_,by simpa using h1⟩)
     refine⟨h,g,?_⟩;rw[List.drop_zero,hsz,<- hlen,List.take_length]at r;exact r
    ·cases hL
   ·cases hL
  ·cases hL
theorem intake_arg(n:Nat){t:TypeId}{L:List CT}{v:Value}{d:DataW H}{p:List MemPlace}(hL:xo P n t=some L)(h:DataW.Trod ec P w base spare held t v d p):
 ∃h:HL den L,GoodL L h/\RelL w (encL L h) v.cells.toList:=by
 have ⟨UM,hf⟩:=h;exact Pv n t L hL UM _ _ hf
end
theorem plain_one{w:World}{t:TV}{v:Value}(r:RelL w [t] [v]):FG w t v:=r.1.plain
theorem g64{h:den I64}(g:FI I64 h):KV h:=bounds_i64 g
theorem Px{h:den RI}(g:FI RI h):(∀z∈(show List Int from h),KV z)/\(show List Int from h).length<=maxLen:=⟨λz hz=>bounds_i64 (g.2 z hz),g.1⟩
theorem law_RecordRuns{h0:HL den [RI]}{h1:HL den [I64]}(g0:GoodL _ h0)(g1:GoodL _ h1):nN.g (appL _ _ h0 (appL _ _ h1 ()))=some (true,()):=
 runs20 (.start (Px g0.1).1 (Px g0.1).2) (g64 g1.1)
end Go.Proofs.YtoldehogdgdhmaaGreat
