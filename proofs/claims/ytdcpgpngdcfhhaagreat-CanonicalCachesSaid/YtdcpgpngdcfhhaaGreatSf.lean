/- Part of the proof; no condition. -/
import Derived.Test.YtdcpgpngdcfhhaaGreatSe
import Derived.Deep.Slices
set_option linter.unusedVariables false
set_option linter.unusedSimpArgs false
namespace Go.Proofs.YtdcpgpngdcfhhaaGreat
open Go.RowKit
theorem AH{ss:List Int}{t v rg o sp:Int}{dat:List DCn}{w:Bool}(hs:zA ss) (hv:Pr ss (t,v,rg,o)) (hd:dat.length≤16∧∀c∈dat,Pr ss c) (hsp:-1≤sp∧sp≤3):jT t v rg o dat sp w=some (true,()):=by
 refine eL ?_;unfold jT;rw[show jy t v rg o=some (true,()) from Fk hs hv,jE (n:=16) hs hd.2 (by omega) (by omega)];refine dF (oDT hsp.1) ?_;exact Ok.ret (by rw[oDT (show sp < 4 by omega)])
theorem PK{n m key:Int}{code:List DIn}{ss bs:List Int}{dd:List (List Int)}{cs:List DCe}{ls:List DLn}{ts:List DTh}{i:Nat}{trap count pc call:Int}{args data:List DCn}{t v rg o sp:Int}{dat:List DCn}{w:Bool}(hp:kI code ss dd) (h:MOk n ss bs cs ls ts) (hi:i < 4)
 (hn:n≤1099511627776) (hm:m≤1099511627776) (hR:AD m ss (i:Int) 1 trap count pc call args data) (hv:Pr ss (t,v,rg,o)) (hd:dat.length≤16∧∀c∈dat,Pr ss c) (hsp:-1≤sp∧sp≤3) :
 Ok (oV code ss dd bs key cs ls ts (i:Int) 1 trap count pc call args data t v rg o dat sp w) fun r=>∃cs' ls' ts' b,r=(bs,key,cs',ls',ts',b,())∧MOk n ss bs cs' ls' ts':=by
 have htl:=h.tlen;obtain⟨hk1,hk2⟩:=hR.hkind rfl;obtain⟨th,hth⟩:∃th,ts[i]?=some th:=⟨_,oGE (by omega)⟩;have hok:=h.thr th (dN hth);have hil:=(oGS hth).1;have hg:dH ts i=some th:=hth;unfold oV;delta dK;rw[uG hp h hn,AI hp.sz hR hm,wR hR.hcall,AH hp.sz hv hd hsp,hk1];simp only[oBS,oNT,oCF,bne_self_eq_false,dL,hg];by_cases h2:th.1=2
 ·simp only[bne_eq_false_iff_eq.2 h2,oCF,qT h,oBS,dL,hg];by_cases hc0:call=0
  ·subst hc0;obtain⟨a,ha⟩:∃a,args[0]?=some a:=⟨_,oGE (by rw[hk1];decide)⟩;have hva:=(hR.hargs.2 a (dN ha)).val;simp only[BEq.rfl,oCT,show dH args 0=some a from ha,oBS];unfold mU k8;rw[dS (show 4≤1000∧0+th.2.1.length≤1000000 by have:=hok.len;omega)];simp only[oCT,oBS,eq hth];exact Ok.ret ⟨_,_,_,_,rfl,h.set h.mem ⟨⟨show (0:Int)≤4 by decide,show (4:Int)≤4 by decide⟩,by dsimp only;rw[eW];simpa using hok.len,iS ef hok.regs,hok.pc,hok.count,hok.handler,hok.saved,⟨show (0:Int)≤0 by decide,show (0:Int)≤6 by decide⟩,hva⟩⟩
  ·simp only[oBF hc0,oCF]
   cases w with
   | true=>
    simp only[oCT,eq hth];exact Ok.ret ⟨_,_,_,_,rfl,h.set h.mem ⟨⟨show (0:Int)≤3 by decide,show (3:Int)≤4 by decide⟩,hok.len,hok.regs,hok.pc,hok.count,hok.handler,hok.saved,hok.trap,hok.code⟩⟩
   | false=>
    simp only[oCF];refine (Me h hi hR hv hd hsp).bind ?_;rintro _ ⟨b,cs',ls',ts',rfl,hb⟩;dsimp only
    cases b with
    | true=>exact Ok.ret ⟨_,_,_,_,rfl,hb rfl⟩
    | false=>exact Ok.ret ⟨_,_,_,_,rfl,h⟩
 ·simp only[bne_iff_ne.2 h2,oCT];exact Ok.ret ⟨_,_,_,_,rfl,h⟩
theorem Lp{n key:Int}{code:List DIn}{ss bs:List Int}{dd:List (List Int)}{cs:List DCe}{ls:List DLn}{ts:List DTh}{i t v rg o sp:Int}{dat:List DCn}{w:Bool}(hp:kI code ss dd) (h:MOk n ss bs cs ls ts)
 (hn:n≤1099511627776) (hv:Pr ss (t,v,rg,o)) (hd:dat.length≤16∧∀c∈dat,Pr ss c) (hsp:-1≤sp∧sp≤3) :
 Ok (lw code ss dd bs key cs ls ts i t v rg o dat sp w) fun r=>∃cs' ls' ts' b,r=(bs,key,cs',ls',ts',b,())∧MOk n ss bs cs' ls' ts':=by
 have htl:=h.tlen;obtain⟨hraw,hrawc⟩:=xZ (key:=key) h.lay hv;dsimp only at hraw;unfold lw;rw[uG hp h hn,AH hp.sz hv hd hsp];simp only[oBS,oNT,oCF];by_cases h1:i < 0
 ·simp only[oDT h1,oCT,oBS];exact Ok.ret ⟨_,_,_,_,rfl,h⟩
 by_cases h2:i≥4
 ·simp only[oDF h1,oDT h2,oCT,oCF,oBS];exact Ok.ret ⟨_,_,_,_,rfl,h⟩
 obtain⟨i,rfl⟩:∃k:Nat,i=k:=⟨i.toNat,by omega⟩;obtain⟨th,hth⟩:∃th,ts[i]?=some th:=⟨_,oGE (by omega)⟩;have hok:=h.thr th (dN hth);have hil:=(oGS hth).1;have hg:dH ts i=some th:=hth;obtain⟨c,hc0⟩:∃c,th.2.1[0]?=some c:=⟨_,oGE (by have:=hok.len;omega)⟩;simp only[oDF h1,oDF h2,oCF,dL,oBS,hg];by_cases h3:th.1=3
 ·simp only[bne_eq_false_iff_eq.2 h3,oCF,hraw,oBS,bne_self_eq_false,qT h,dL,hg,show dH th.2.1 0=some c from hc0,eq hth,eq hc0,gz hil,om hil];exact Ok.ret ⟨_,_,_,_,rfl,h.set h.mem ⟨⟨show (0:Int)≤1 by decide,show (1:Int)≤4 by decide⟩,by dsimp only;rw[List.length_set];exact hok.len,iw hok.regs hrawc,hok.pc,hok.count,hok.handler,hok.saved,hok.trap,hok.code⟩⟩
 ·simp only[bne_iff_ne.2 h3,oCT];exact Ok.ret ⟨_,_,_,_,rfl,h⟩
structure jq (n:Int) (q:Nat) (code:List DIn) (ss:List Int) (dt:List (List Int)) (bs:List Int) (cs:List DCe) (ls:List DLn) (ts:List DTh) (ck rn:List Int) (ins:List (List Int)) (d:List (List DCn)) (os:List DOp) (us:List DOu) (ow:List Int) (qs:List (List Int)) (rec:List DEn) (js:List Int):Prop where
 prog:kI code ss dt
 mach:MOk n ss bs cs ls ts
 outs:zB ss ck rn ins d os us
 lock:iA ow qs
 rlen:rec.length≤q
 jlen:js.length=4
def Qe(n key:Int) (q:Nat) (code:List DIn) (ss:List Int) (dt:List (List Int)) (bs:List Int) (r:(List DIn)×(List (Int))×(List (List (Int)))×(List (Int))×Int×(List DCe)×(List DLn)×(List DTh)×(List (Int))×(List (Int))×(List (List (Int)))×(List (List DCn))×(List DOp)×(List DOu)×(List (Int))×(List (List (Int)))×(List DEn)×(List (Int))×Unit):Prop:=
 ∃cs ls ts ck rn ins d os us ow qs rec js,r=(code,ss,dt,bs,key,cs,ls,ts,ck,rn,ins,d,os,us,ow,qs,rec,js,())∧jq n q code ss dt bs cs ls ts ck rn ins d os us ow qs rec js
theorem Jt{n:Int}{q:Nat}{code:List DIn}{ss:List Int}{dt:List (List Int)}{bs:List Int}{key:Int}{cs:List DCe}{ls:List DLn}{ts:List DTh}{ck rn:List Int}{ins:List (List Int)}{d:List (List DCn)}{os:List DOp}{us:List DOu}{ow:List Int}{qs:List (List Int)}{rec:List DEn}{js:List Int}{i v:Int}(h:jq n q code ss dt bs cs ls ts ck rn ins d os us ow qs rec js) (hn:n≤1099511627776) (hq:q≤900) (hv:W16 v) :
 Ok (nC i v code ss dt bs key cs ls ts ck rn ins d os us ow qs rec js) (Qe n key (q+1) code ss dt bs):=by
 unfold nC;rw[dT (x:=v) (by have:=hv.1;omega) (by have:=hv.2;omega)];obtain⟨v2,ev,hv2⟩:=fY v true;simp only[ev,oBS];refine (Lp h.prog h.mach hn (kg hv2) ⟨by decide,ef⟩ (by decide)).bind ?_;rintro _ ⟨cs',ls',ts',b,rfl,hM⟩;dsimp only;have hr:=h.rlen;refine dF (dS (by simp;omega)) ?_;exact Ok.ret ⟨_,_,_,_,_,_,_,_,_,_,_,_,_,rfl,h.prog,hM,h.outs,h.lock,by rw[eW];simp;omega,h.jlen⟩
theorem GT{n:Int}{q:Nat}{code:List DIn}{ss:List Int}{dt:List (List Int)}{bs:List Int}{key:Int}{cs:List DCe}{ls:List DLn}{ts:List DTh}{ck rn:List Int}{ins:List (List Int)}{d:List (List DCn)}{os:List DOp}{us:List DOu}{ow:List Int}{qs:List (List Int)}{rec:List DEn}{js:List Int}{i v:Int}(h:jq n q code ss dt bs cs ls ts ck rn ins d os us ow qs rec js) (hn:n≤1099511627776) (hq:q≤900) (hv:W16 v) :
 Ok (iV i v code ss dt bs key cs ls ts ck rn ins d os us ow qs rec) fun r=>∃cs' ls' ts' rec',r=(code,ss,dt,bs,key,cs',ls',ts',ck,rn,ins,d,os,us,ow,qs,rec',())∧jq n (q+1) code ss dt bs cs' ls' ts' ck rn ins d os us ow qs rec' js:=by
 unfold iV;rw[dT (x:=v) (by have:=hv.1;omega) (by have:=hv.2;omega)];obtain⟨v2,ev,hv2⟩:=fY v true;simp only[ev,oBS];refine (Lp h.prog h.mach hn (kg hv2) ⟨by decide,ef⟩ (by decide)).bind ?_;rintro _ ⟨cs',ls',ts',b,rfl,hM⟩;dsimp only;have hr:=h.rlen;refine dF (dS (by simp;omega)) ?_;exact Ok.ret ⟨_,_,_,_,rfl,h.prog,hM,h.outs,h.lock,by rw[eW];simp;omega,h.jlen⟩
def Qh(n key:Int) (q:Nat) (code:List DIn) (ss:List Int) (dt:List (List Int)) (bs:List Int) (cs:List DCe) (ls:List DLn) (ts:List DTh) (rec:List DEn) (r:Int×Int×Int×Int×(List DCn)×Int×Bool×(List DIn)×(List (Int))×(List (List (Int)))×(List (Int))×Int×(List DCe)×(List DLn)×(List DTh)×(List (Int))×(List (Int))×(List (List (Int)))×(List (List DCn))×(List DOp)×(List DOu)×(List (Int))×(List (List (Int)))×(List DEn)×(List (Int))×Unit):Prop:=
 ∃t v rg o dat sp w ck rn ins d os us ow qs js,r=(t,v,rg,o,dat,sp,w,code,ss,dt,bs,key,cs,ls,ts,ck,rn,ins,d,os,us,ow,qs,rec,js,())∧jq n q code ss dt bs cs ls ts ck rn ins d os us ow qs rec js∧Pr ss (t,v,rg,o)∧(dat.length≤16∧∀c∈dat,Pr ss c)∧-1≤sp∧sp≤3
set_option maxHeartbeats 4000000 in
theorem Iv{n m:Int}{q:Nat}{code:List DIn}{ss:List Int}{dt:List (List Int)}{bs:List Int}{key:Int}{cs:List DCe}{ls:List DLn}{ts:List DTh}{ck rn:List Int}{ins:List (List Int)}{d:List (List DCn)}{os:List DOp}{us:List DOu}{ow:List Int}{qs:List (List Int)}{rec:List DEn}{js:List Int}{i:Nat}{trap count pc call:Int}{args data:List DCn}(h:jq n q code ss dt bs cs ls ts ck rn ins d os us ow qs rec js) (hi:i < 4) (hm:m≤1099511627776) (hR:AD m ss (i:Int) 1 trap count pc call args data) :
 Ok (jN (i:Int) 1 trap count pc call args data code ss dt bs key cs ls ts ck rn ins d os us ow qs rec js) (Qh n key q code ss dt bs cs ls ts rec):=by
 obtain⟨hk1,_⟩:=hR.hkind rfl;have htl:=h.mach.tlen;obtain⟨v0,ev0,hv0⟩:=fY 0 true;obtain⟨v1,ev1,hv1⟩:=fY 0 false;have nil16:([]:List DCn).length≤16∧∀c∈([]:List DCn),Pr ss c:=⟨by decide,ef⟩
 have fin:∀{v:Int} {w:Bool} {ow':List Int} {qs':List (List Int)} {js':List Int},W16 v→iA ow' qs'→js'.length=4→Ok (some ((0:Int),v,(0:Int),(0:Int),([]:List DCn),(-1:Int),w,code,ss,dt,bs,key,cs,ls,ts,ck,rn,ins,d,os,us,ow',qs',rec,js',())) (Qh n key q code ss dt bs cs ls ts rec):=
  fun hv hl hj=>Ok.ret ⟨_,_,_,_,_,_,_,_,_,_,_,_,_,_,_,_,rfl,⟨h.prog,h.mach,h.outs,hl,h.rlen,hj⟩,kg hv,nil16,by decide,by decide⟩
 have hdo:OU call=true→Ok ((oe ck rn ins d os us (i:Int) 1 trap count pc call args data).bind fun(x35,x36,x37,x38,x39,x40,x41,x42,x43,x44,x45,x46,x47,x48,_)=>some (x41,x42,x43,x44,x45,x46,x47,code,ss,dt,bs,key,cs,ls,ts,x35,x36,x37,x38,x39,x40,ow,qs,rec,js,())) (Qh n key q code ss dt bs cs ls ts rec):=by
  intro ha;refine (OH h.prog.sz h.outs hR ha hm).bind ?_;rintro _ ⟨ck',rn',ins',d',os',us',t,v,rg,o,dat,rfl,hO,hv,hd1,hd2⟩;exact Ok.ret ⟨_,_,_,_,_,_,_,_,_,_,_,_,_,_,_,_,rfl,⟨h.prog,h.mach,hO,h.lock,h.rlen,h.jlen⟩,hv,⟨hd1,hd2⟩,by decide,by decide⟩
 have arg0:0 < (kB call).length→∃a,dH args 0=some a∧W16 a.2.1∧wk .i64 a.2.1=a.2.1:=fun hl=>by
  obtain⟨a,ha⟩:∃a,args[0]?=some a:=⟨_,oGE (by omega)⟩;have hva:=(hR.hargs.2 a (dN ha)).val;exact⟨a,ha,hva,dT (by have:=hva.1;omega) (by have:=hva.2;omega)⟩
 unfold jN;delta dK
 try dsimp only
 rcases vt hR.hcall with rfl | rfl | rfl | rfl | rfl | rfl | rfl | rfl | rfl | rfl | rfl | rfl | rfl | rfl | rfl | rfl
 all_goals simp only[Int.reduceBEq,oCT,oCF,oBS,ev0,ev1]
 all_goals first
  | exact hdo rfl
  | exact fin hv0 h.lock h.jlen
  | skip
 ·obtain⟨a,ga,ha,wa⟩:=arg0 (by decide);simp only[ga,oBS,wa];refine (NC h.lock (by omega)).bind ?_;rintro _ ⟨ow',qs',how,rfl,hl⟩;dsimp only;obtain⟨v,ev,hv⟩:=fY 0 (how != 2);simp only[ev,oBS];exact fin hv hl h.jlen
 ·obtain⟨a,ga,ha,wa⟩:=arg0 (by decide);simp only[ga,oBS,wa];refine (Gq h.lock).bind ?_;rintro _ ⟨ow',qs',nx,b,rfl,hl,_⟩;dsimp only;obtain⟨v,ev,hv⟩:=fY 0 b;simp only[ev,oBS];exact fin hv hl h.jlen
 ·obtain⟨y,e,hy⟩:=fN (f:=jM) (n:=NN) (s:=(ts,(ts.length:Int),0,code,ss,dt,bs,key,cs,ls,ts,ck,rn,ins,d,os,us,ow,qs,rec,js,0,0,0,0,(),0,false,()))
   (P:=fun s'=>∃k:Nat,s'=(ts,(ts.length:Int),(k:Int),code,ss,dt,bs,key,cs,ls,ts,ck,rn,ins,d,os,us,ow,qs,rec,js,0,0,0,0,(),0,false,())∧k≤4)
   (R:=fun y=>(∃v k,y=.inl (code,ss,dt,bs,key,cs,ls,ts,ck,rn,ins,d,os,us,ow,qs,rec,js,0,v,0,0,(),k,false,())∧W16 v∧0≤k∧k≤3)∨(∃a b c f,y=.inr (a,b,c,f,code,ss,dt,bs,key,cs,ls,ts,ck,rn,ins,d,os,us,ow,qs,rec,js,0,0,0,0,(),0,false,())))
   (m:=fun s'=>(s'.2.1 - s'.2.2.1).toNat) ⟨0,rfl,by omega⟩ (by unfold NN;dsimp only;omega) (by
    rintro _ ⟨k,rfl,hk⟩;unfold jM;dsimp only
    (with_reducible refine dE (fun hca=>?_) fun hca=>?_)
    ·obtain⟨t,ht⟩:∃t,ts[k]?=some t:=⟨_,oGE (by omega)⟩;simp only[dL,oBS,show dH ts k=some t from ht]
     (with_reducible refine dE (fun hcb=>?_) fun hcb=>?_)
     ·obtain⟨v,ev,hv⟩:=fY (k:Int) true;simp only[ev,oBS];exact Ok.ret (.inl ⟨_,_,rfl,hv,by omega,by omega⟩)
     ·rw[dO (x:=(k:Int)+1) (by omega) (by omega)];exact Ok.ret ⟨⟨k+1,rfl,by omega⟩,by dsimp only;omega⟩
    ·exact Ok.ret (.inr ⟨_,_,_,_,rfl⟩))
  simp only[e];rcases hy with ⟨v,k,rfl,hv,k0,k3⟩ | ⟨a,b,c,f,rfl⟩
  ·exact Ok.ret ⟨_,_,_,_,_,_,_,_,_,_,_,_,_,_,_,_,rfl,⟨h.prog,h.mach,h.outs,h.lock,h.rlen,h.jlen⟩,kg hv,nil16,by omega,by omega⟩
  ·simp only[ev1,oBS];exact fin hv1 h.lock h.jlen
 ·obtain⟨a,ga,ha,wa⟩:=arg0 (by decide);simp only[ga,oBS,wa];obtain⟨j,hj⟩:∃j:Nat,a.2.1=j:=⟨a.2.1.toNat,by have:=ha.1;omega⟩;simp only[hj];by_cases h1:(j:Int)=i
  ·simp only[beq_iff_eq.2 h1,oCT,oBS,ev1];exact fin hv1 h.lock h.jlen
  by_cases h2:(j:Int)≥4
  ·simp only[oBF h1,oDT h2,oCT,oCF,oBS,ev1];exact fin hv1 h.lock h.jlen
  obtain⟨t,ht⟩:∃t,ts[j]?=some t:=⟨_,oGE (by omega)⟩;simp only[oBF h1,oDF h2,oCF,oBS,dL,show dH ts j=some t from ht]
  cases t.1==0 with
  | true=>
   simp only[oCT,ev1,oBS];exact fin hv1 h.lock h.jlen
  | false=>
   simp only[oCF,dL,oBS,show dH ts j=some t from ht]
   cases t.1==4 with
   | true=>
    obtain⟨v,ev,hv⟩:=fY (wk .i64 t.2.2.2.2.2.2.2) true;simp only[oCT,ev,oBS];exact fin hv h.lock h.jlen
   | false=>
    obtain⟨z,hz⟩:∃z,js[i]?=some z:=⟨_,oGE (by have:=h.jlen;omega)⟩;simp only[oCF,show dH js i=some z from hz,oBS,ev0,eq hz];exact fin hv0 h.lock (by rw[List.length_set];exact h.jlen)
theorem zk{n m:Int}{q:Nat}{code:List DIn}{ss:List Int}{dt:List (List Int)}{bs:List Int}{key:Int}{cs:List DCe}{ls:List DLn}{ts:List DTh}{ck rn:List Int}{ins:List (List Int)}{d:List (List DCn)}{os:List DOp}{us:List DOu}{ow:List Int}{qs:List (List Int)}{rec:List DEn}{js:List Int}{i:Nat}{trap count pc call:Int}{args data:List DCn}(h:jq n q code ss dt bs cs ls ts ck rn ins d os us ow qs rec js) (hi:i < 4) (hn:n≤1099511627776) (hm:m≤1099511627776) (hq:q≤800) (hR:AD m ss (i:Int) 1 trap count pc call args data) :
 Ok (iW (i:Int) 1 trap count pc call args data code ss dt bs key cs ls ts ck rn ins d os us ow qs rec js) (Qe n key (q+2) code ss dt bs):=by
 obtain⟨hk1,_⟩:=hR.hkind rfl;unfold iW;refine Ok.bind (P:=fun r=>∃nx,r=(nx,code,ss,dt,bs,key,cs,ls,ts,ck,rn,ins,d,os,us,ow,qs,rec,js,(i:Int),1,trap,count,pc,call,args,data,())) ?_ ?_
 ·by_cases h9:call=9
  ·subst h9;obtain⟨a,ha⟩:∃a,args[0]?=some a:=⟨_,oGE (by rw[hk1];decide)⟩;simp only[BEq.rfl,oCT,show dH args 0=some a from ha,oBS];refine (Gq h.lock).bind ?_;rintro _ ⟨ow',qs',nx,b,rfl,hl,_⟩;exact Ok.ret ⟨nx,rfl⟩
  ·simp only[oBF h9,oCF];exact Ok.ret ⟨_,rfl⟩
 rintro _ ⟨nx,rfl⟩;dsimp only;refine (Iv h hi hm hR).bind ?_;rintro _ ⟨t,v,rg,o,dat,sp,w,ck',rn',ins',d',os',us',ow',qs',js',rfl,h2,hv,hd,hs1,hs2⟩;dsimp only;refine (PK h.prog h.mach hi hn hm hR hv hd ⟨hs1,hs2⟩).bind ?_;rintro _ ⟨cs',ls',ts',b,rfl,hM⟩;dsimp only;have hr:=h.rlen;refine dF (dS (by simp;omega)) ?_;have h3:∀e:DEn,jq n (q+1) code ss dt bs cs' ls' ts' ck' rn' ins' d' os' us' ow' qs' (List.append rec [e]) js':=fun e=>⟨h2.prog,hM,h2.outs,h2.lock,by rw[eW];simp;omega,h2.jlen⟩
 (with_reducible refine dE (fun hca=>?_) fun hca=>?_)
 ·refine (Jt (h3 _) hn (by omega) ⟨by decide,by decide⟩).bind ?_;rintro _ ⟨cs3,ls3,ts3,ck3,rn3,ins3,d3,os3,us3,ow3,qs3,rec3,js3,rfl,h4⟩;exact Ok.ret ⟨_,_,_,_,_,_,_,_,_,_,_,_,_,rfl,h4⟩
 ·have h4:=h3 (2,(i:Int),0,(i:Int),1,trap,count,pc,call,args,data,t,v,rg,o,dat,sp,w);exact Ok.ret ⟨_,_,_,_,_,_,_,_,_,_,_,_,_,rfl,h4.prog,h4.mach,h4.outs,h4.lock,by have:=h4.rlen;omega,h4.jlen⟩
theorem C3{n:Int}{q:Nat}{code:List DIn}{ss:List Int}{dt:List (List Int)}{bs:List Int}{key:Int}{cs:List DCe}{ls:List DLn}{ts:List DTh}{ck rn:List Int}{ins:List (List Int)}{d:List (List DCn)}{os:List DOp}{us:List DOu}{ow:List Int}{qs:List (List Int)}{rec:List DEn}{js:List Int}{i:Nat}(h:jq n q code ss dt bs cs ls ts ck rn ins d os us ow qs rec js) (hi:i < 4) (hn:n≤1099511627776) (hq:q≤800) :
 Ok (jO (i:Int) code ss dt bs key cs ls ts ck rn ins d os us ow qs rec js) (Qe n key (q+8) code ss dt bs):=by
 unfold jO;delta dK
 try dsimp only
 refine (OF h.lock).bind ?_;rintro _ ⟨ow',qs',nx,rfl,hl,hn4,hnx⟩;dsimp only
 refine Ok.loop (P:=fun s'=>∃k:Nat,∃cs ls ts rec,s'=((i:Int),(nx.length:Int),(k:Int),code,ss,dt,bs,key,cs,ls,ts,ck,rn,ins,d,os,us,ow',qs',rec,js,nx,())∧k≤nx.length∧jq n (q+k) code ss dt bs cs ls ts ck rn ins d os us ow' qs' rec js)
  (R:=fun r=>∃a b f cs ls ts rec,r=((i:Int),a,b,f,code,ss,dt,bs,key,cs,ls,ts,ck,rn,ins,d,os,us,ow',qs',rec,js,nx,())∧jq n (q+4) code ss dt bs cs ls ts ck rn ins d os us ow' qs' rec js) (m:=fun s'=>(s'.2.1 - s'.2.2.1).toNat)
  ⟨0,cs,ls,ts,rec,rfl,by omega,h.prog,h.mach,h.outs,hl,by have:=h.rlen;omega,h.jlen⟩ (by unfold NN;dsimp only;omega) ?_ ?_
 ·rintro _ ⟨k,cs2,ls2,ts2,rec2,rfl,hk,h2⟩;unfold pR;dsimp only
  (with_reducible refine dE (fun hca=>?_) fun hca=>?_)
  ·obtain⟨x,hx⟩:∃x,nx[k]?=some x:=⟨_,oGE (by omega)⟩;simp only[dL,oBS,show dH nx k=some x from hx];refine (GT h2 hn (by omega) ⟨by decide,by decide⟩).bind ?_;rintro _ ⟨cs3,ls3,ts3,rec3,rfl,h3⟩;dsimp only;rw[dO (x:=(k:Int)+1) (by omega) (by omega)];exact Ok.ret ⟨⟨k+1,_,_,_,_,rfl,by omega,h3⟩,by dsimp only;omega⟩
  ·exact Ok.ret ⟨_,_,_,_,_,_,_,rfl,h2.prog,h2.mach,h2.outs,h2.lock,by have:=h2.rlen;omega,h2.jlen⟩
 rintro _ ⟨a,b,f,cs2,ls2,ts2,rec2,rfl,h2⟩;dsimp only
 refine Ok.loop (P:=fun s'=>∃k:Nat,∃cs ls ts rec js,s'=((i:Int),4,(k:Int),code,ss,dt,bs,key,cs,ls,ts,ck,rn,ins,d,os,us,ow',qs',rec,js,())∧k≤4∧jq n (q+4+k) code ss dt bs cs ls ts ck rn ins d os us ow' qs' rec js)
  (R:=fun r=>∃a b c f cs ls ts rec js,r=(a,b,c,f,code,ss,dt,bs,key,cs,ls,ts,ck,rn,ins,d,os,us,ow',qs',rec,js,())∧jq n (q+8) code ss dt bs cs ls ts ck rn ins d os us ow' qs' rec js) (m:=fun s'=>(s'.2.1 - s'.2.2.1).toNat)
  ⟨0,cs2,ls2,ts2,rec2,js,by rw[h.jlen];rfl,by omega,h2⟩ (by unfold NN;dsimp only;have:=h.jlen;omega) ?_ ?_
 ·rintro _ ⟨k,cs2,ls2,ts2,rec2,js2,rfl,hk,h2⟩;unfold pQ;dsimp only
  (with_reducible refine dE (fun hca=>?_) fun hca=>?_)
  ·obtain⟨x,hx⟩:∃x,js2[k]?=some x:=⟨_,oGE (by have:=h2.jlen;omega)⟩;obtain⟨t,ht⟩:∃t,ts2[i]?=some t:=⟨_,oGE (by have:=h2.mach.tlen;omega)⟩;have htc:=(h2.mach.thr t (dN ht)).code;simp only[dL,oBS,show dH js2 k=some x from hx,show dH ts2 i=some t from ht];refine Ok.bind (P:=fun r=>∃cs ls ts rec js,r=((i:Int),4,(k:Int),code,ss,dt,bs,key,cs,ls,ts,ck,rn,ins,d,os,us,ow',qs',rec,js,())∧jq n (q+4+(k+1)) code ss dt bs cs ls ts ck rn ins d os us ow' qs' rec js) ?_ ?_
   ·(with_reducible refine dE (fun hcb=>?_) fun hcb=>?_)
    ·refine (GT h2 hn (by omega) htc).bind ?_;rintro _ ⟨cs3,ls3,ts3,rec3,rfl,h3⟩;simp only[dL,oBS,show dH js2 k=some x from hx,eq hx];exact Ok.ret ⟨_,_,_,_,_,rfl,h3.prog,h3.mach,h3.outs,h3.lock,by have:=h3.rlen;omega,by rw[List.length_set];exact h3.jlen⟩
    ·exact Ok.ret ⟨_,_,_,_,_,rfl,h2.prog,h2.mach,h2.outs,h2.lock,by have:=h2.rlen;omega,h2.jlen⟩
   ·rintro _ ⟨cs3,ls3,ts3,rec3,js3,rfl,h3⟩;dsimp only;rw[dO (x:=(k:Int)+1) (by omega) (by omega)];exact Ok.ret ⟨⟨k+1,_,_,_,_,_,rfl,by omega,h3⟩,by dsimp only;omega⟩
  ·exact Ok.ret ⟨_,_,_,_,_,_,_,_,_,rfl,h2.prog,h2.mach,h2.outs,h2.lock,by have:=h2.rlen;omega,h2.jlen⟩
 ·rintro _ ⟨a,b,c,f,cs2,ls2,ts2,rec2,js2,rfl,h2⟩;exact Ok.ret ⟨_,_,_,_,_,_,_,_,_,_,_,_,_,rfl,h2⟩
def Qi(n key:Int) (q:Nat) (code:List DIn) (ss:List Int) (dt:List (List Int)) (bs:List Int) (r:(List DIn)×(List (Int))×(List (List (Int)))×(List (Int))×Int×(List DCe)×(List DLn)×(List DTh)×(List (Int))×(List (Int))×(List (List (Int)))×(List (List DCn))×(List DOp)×(List DOu)×(List (Int))×(List (List (Int)))×(List DEn)×(List (Int))×Int×Unit):Prop:=
 (∃e,r=([],[],[],[],0,[],[],[],[],[],[],[],[],[],[],[],[],[],e,())∧e≠0)∨(∃cs ls ts ck rn ins d os us ow qs rec js,r=(code,ss,dt,bs,key,cs,ls,ts,ck,rn,ins,d,os,us,ow,qs,rec,js,0,())∧jq n q code ss dt bs cs ls ts ck rn ins d os us ow qs rec js)
theorem GB{code:List DIn}{ss:List Int}{dt:List (List Int)}{bs:List Int}{key:Int}{cs:List DCe}{ls:List DLn}{ts:List DTh}{ck rn:List Int}{ins:List (List Int)}{d:List (List DCn)}{os:List DOp}{us:List DOu}{ow:List Int}{qs:List (List Int)}{rec:List DEn}{js:List Int}(h1:rec.length≤1000) (h2:js.length≤1000):kX code ss dt bs key cs ls ts ck rn ins d os us ow qs rec js=some (code,ss,dt,bs,key,cs,ls,ts,ck,rn,ins,d,os,us,ow,qs,rec,js,()):=by
 unfold kX;rw[dS (show 8≤1000∧0+js.length≤1000000 by omega),dS (show 184≤1000∧0+rec.length≤1000000 by omega)];rfl
set_option maxHeartbeats 4000000 in
theorem KB{n:Int}{q:Nat}{code:List DIn}{ss:List Int}{dt:List (List Int)}{bs:List Int}{key:Int}{cs:List DCe}{ls:List DLn}{ts:List DTh}{ck rn:List Int}{ins:List (List Int)}{d:List (List DCn)}{os:List DOp}{us:List DOu}{ow:List Int}{qs:List (List Int)}{rec:List DEn}{js:List Int}{c1 c2:Int}{c3:Bool}(h:jq n q code ss dt bs cs ls ts ck rn ins d os us ow qs rec js) (hn0:0≤n) (hn:n+64≤1099511627776) (hq:q≤700) (hc1:Nt c1) (hc2:Nt c2) :
 Ok (nD code ss dt bs key cs ls ts ck rn ins d os us ow qs rec js c1 c2 c3) (Qi (n+64) key (q+12) code ss dt bs):=by
 have htl:=h.mach.tlen;have hr:=h.rlen;unfold nD;delta dK;rw[Mc (by omega)];simp only[oBS];have hrl:=AU ts 0
 (with_reducible refine dE (fun hca=>?_) fun hca=>?_)
 ·exact Ok.ret (.inl ⟨15,rfl,by decide⟩)
 (with_reducible refine dE (fun hcb=>?_) fun hcb=>?_)
 ·exact Ok.ret (.inl ⟨3,rfl,by decide⟩)
 refine Pm hc1 (by omega) (by omega) fun v v0 v1=>?_;dsimp only;obtain⟨k,rfl⟩:∃k:Nat,v=k:=⟨v.toNat,by omega⟩;obtain⟨x,hx⟩:∃x,(ia ts 0)[k]?=some x:=⟨_,oGE (by omega)⟩;obtain⟨x0,x1,_⟩:=Ip (dN hx);obtain⟨i,rfl⟩:∃i:Nat,x=i:=⟨x.toNat,by omega⟩
 have hi:i < 4:=by omega
 simp only[dL,oBS,show dH (ia ts 0) k=some (i:Int) from hx];refine Pm hc2 (by decide) (by decide) fun u u0 u1=>?_;dsimp only;rw[dO (x:=1+u) (by omega) (by omega),GB (by omega) (by have:=h.jlen;omega)]
 have hk:1≤1+u∧1+u≤64:=by omega
 generalize 1+u=kk at hk;simp only[oBS]
 cases c3 with
 | false=>
  simp only[oCF];have h2:jq n (q+1) code ss dt bs cs ls ts ck rn ins d os us ow qs rec js:=⟨h.prog,h.mach,h.outs,h.lock,by omega,h.jlen⟩;have htl2:=h2.mach.tlen;refine (xN h2.prog h2.mach hn0 hn hi hk).bind ?_;rintro _ ⟨cs3,ls3,t3,stop,trap,call,args,data,rfl,hm3,hth3,hreq,hask,_⟩;dsimp only;have hr2:=h2.rlen;have hM3:=(h2.mach.mono (show n≤n+64 by omega)).set hm3 (i:=i) hth3;refine dF (dS (by simp;omega)) ?_;refine Ok.bind (P:=fun r=>∃cs ls ts ck rn ins d os us ow qs rec js,r=((i:Int),(),(),(),(),0,(),(),(),(),(),(),(),(),(),(),(),(),(),code,ss,dt,bs,key,cs,ls,ts,ck,rn,ins,d,os,us,ow,qs,rec,js,())∧jq (n+64) (q+4) code ss dt bs cs ls ts ck rn ins d os us ow qs rec js) ?_ ?_
  ·by_cases hs1:stop=1
   ·subst hs1;simp only[BEq.rfl,oCT];refine (zk (q:=q+2) ⟨h2.prog,hM3,h2.outs,h2.lock,by rw[eW];simp;omega,h2.jlen⟩ hi (by omega) hn (by omega) hreq).bind ?_;rintro _ ⟨cs4,ls4,ts4,ck4,rn4,ins4,d4,os4,us4,ow4,qs4,rec4,js4,rfl,h4⟩;exact Ok.ret ⟨_,_,_,_,_,_,_,_,_,_,_,_,_,rfl,h4⟩
   ·simp only[oBF hs1,oCF];exact Ok.ret ⟨_,_,_,_,_,_,_,_,_,_,_,_,_,rfl,h2.prog,hM3,h2.outs,h2.lock,by rw[eW];simp;omega,h2.jlen⟩
  rintro _ ⟨cs,ls,ts,ck,rn,ins,d,os,us,ow,qs,rec,js,rfl,h5⟩;dsimp only;obtain⟨t5,ht5⟩:∃t5,ts[i]?=some t5:=⟨_,oGE (by have:=h5.mach.tlen;omega)⟩;simp only[dL,oBS,show dH ts i=some t5 from ht5];refine Ok.bind (P:=fun r=>∃cs ls ts ck rn ins d os us ow qs rec js,r=((),(),(),(),0,(),(),(),(),(),(),(),(),(),(),(),(),(),code,ss,dt,bs,key,cs,ls,ts,ck,rn,ins,d,os,us,ow,qs,rec,js,())∧jq (n+64) (q+12) code ss dt bs cs ls ts ck rn ins d os us ow qs rec js) ?_ ?_
  ·(with_reducible refine dE (fun hce=>?_) fun hce=>?_)
   ·refine (C3 h5 hi (by omega) (by omega)).bind ?_;rintro _ ⟨cs4,ls4,ts4,ck4,rn4,ins4,d4,os4,us4,ow4,qs4,rec4,js4,rfl,h4⟩;exact Ok.ret ⟨_,_,_,_,_,_,_,_,_,_,_,_,_,rfl,h4⟩
   ·exact Ok.ret ⟨_,_,_,_,_,_,_,_,_,_,_,_,_,rfl,h5.prog,h5.mach,h5.outs,h5.lock,by have:=h5.rlen;omega,h5.jlen⟩
  rintro _ ⟨cs,ls,ts,ck,rn,ins,d,os,us,ow,qs,rec,js,rfl,h6⟩;exact Ok.ret (.inr ⟨_,_,_,_,_,_,_,_,_,_,_,_,_,rfl,h6⟩)
 | true=>
  simp only[oCT];obtain⟨⟨b,_⟩,eC,_⟩:=Nm (key:=key) h.mach (i:Int);simp only[eC,oBS]
  cases b with
  | false=>
   simp only[oCF];have h2:jq n (q+1) code ss dt bs cs ls ts ck rn ins d os us ow qs rec js:=⟨h.prog,h.mach,h.outs,h.lock,by omega,h.jlen⟩;have htl2:=h2.mach.tlen;refine (xN h2.prog h2.mach hn0 hn hi hk).bind ?_;rintro _ ⟨cs3,ls3,t3,stop,trap,call,args,data,rfl,hm3,hth3,hreq,hask,_⟩;dsimp only;have hr2:=h2.rlen;have hM3:=(h2.mach.mono (show n≤n+64 by omega)).set hm3 (i:=i) hth3;refine dF (dS (by simp;omega)) ?_;refine Ok.bind (P:=fun r=>∃cs ls ts ck rn ins d os us ow qs rec js,r=((i:Int),(),(),(),(),0,(),(),(),(),(),(),(),(),(),(),(),(),(),code,ss,dt,bs,key,cs,ls,ts,ck,rn,ins,d,os,us,ow,qs,rec,js,())∧jq (n+64) (q+4) code ss dt bs cs ls ts ck rn ins d os us ow qs rec js) ?_ ?_
   ·by_cases hs1:stop=1
    ·subst hs1;simp only[BEq.rfl,oCT];refine (zk (q:=q+2) ⟨h2.prog,hM3,h2.outs,h2.lock,by rw[eW];simp;omega,h2.jlen⟩ hi (by omega) hn (by omega) hreq).bind ?_;rintro _ ⟨cs4,ls4,ts4,ck4,rn4,ins4,d4,os4,us4,ow4,qs4,rec4,js4,rfl,h4⟩;exact Ok.ret ⟨_,_,_,_,_,_,_,_,_,_,_,_,_,rfl,h4⟩
    ·simp only[oBF hs1,oCF];exact Ok.ret ⟨_,_,_,_,_,_,_,_,_,_,_,_,_,rfl,h2.prog,hM3,h2.outs,h2.lock,by rw[eW];simp;omega,h2.jlen⟩
   rintro _ ⟨cs,ls,ts,ck,rn,ins,d,os,us,ow,qs,rec,js,rfl,h5⟩;dsimp only;obtain⟨t5,ht5⟩:∃t5,ts[i]?=some t5:=⟨_,oGE (by have:=h5.mach.tlen;omega)⟩;simp only[dL,oBS,show dH ts i=some t5 from ht5];refine Ok.bind (P:=fun r=>∃cs ls ts ck rn ins d os us ow qs rec js,r=((),(),(),(),0,(),(),(),(),(),(),(),(),(),(),(),(),(),code,ss,dt,bs,key,cs,ls,ts,ck,rn,ins,d,os,us,ow,qs,rec,js,())∧jq (n+64) (q+12) code ss dt bs cs ls ts ck rn ins d os us ow qs rec js) ?_ ?_
   ·(with_reducible refine dE (fun hce=>?_) fun hce=>?_)
    ·refine (C3 h5 hi (by omega) (by omega)).bind ?_;rintro _ ⟨cs4,ls4,ts4,ck4,rn4,ins4,d4,os4,us4,ow4,qs4,rec4,js4,rfl,h4⟩;exact Ok.ret ⟨_,_,_,_,_,_,_,_,_,_,_,_,_,rfl,h4⟩
    ·exact Ok.ret ⟨_,_,_,_,_,_,_,_,_,_,_,_,_,rfl,h5.prog,h5.mach,h5.outs,h5.lock,by have:=h5.rlen;omega,h5.jlen⟩
   rintro _ ⟨cs,ls,ts,ck,rn,ins,d,os,us,ow,qs,rec,js,rfl,h6⟩;exact Ok.ret (.inr ⟨_,_,_,_,_,_,_,_,_,_,_,_,_,rfl,h6⟩)
  | true=>
   obtain⟨_,eD,ts',b',rfl,hD⟩:=I4 (key:=key) h.mach (i:Int);simp only[oCT,eD,oBS];rw[dS (show 184≤1000∧rec.length + _≤1000000 by simp;omega)];simp only[oCT];have h2:jq n (q+1) code ss dt bs cs ls ts' ck rn ins d os us ow qs (List.append rec [(3,(i:Int),0,0,0,0,0,0,0,[],[],0,0,0,0,[],0,false)]) js:=⟨h.prog,hD,h.outs,h.lock,by rw[eW];simp;omega,h.jlen⟩;have htl2:=h2.mach.tlen;refine (xN h2.prog h2.mach hn0 hn hi hk).bind ?_;rintro _ ⟨cs3,ls3,t3,stop,trap,call,args,data,rfl,hm3,hth3,hreq,hask,_⟩;dsimp only;have hr2:=h2.rlen;have hM3:=(h2.mach.mono (show n≤n+64 by omega)).set hm3 (i:=i) hth3;refine dF (dS (by simp;omega)) ?_;refine Ok.bind (P:=fun r=>∃cs ls ts ck rn ins d os us ow qs rec js,r=((i:Int),(),(),(),(),0,(),(),(),(),(),(),(),(),(),(),(),(),(),code,ss,dt,bs,key,cs,ls,ts,ck,rn,ins,d,os,us,ow,qs,rec,js,())∧jq (n+64) (q+4) code ss dt bs cs ls ts ck rn ins d os us ow qs rec js) ?_ ?_
   ·by_cases hs1:stop=1
    ·subst hs1;simp only[BEq.rfl,oCT];refine (zk (q:=q+2) ⟨h2.prog,hM3,h2.outs,h2.lock,by rw[eW];simp;omega,h2.jlen⟩ hi (by omega) hn (by omega) hreq).bind ?_;rintro _ ⟨cs4,ls4,ts4,ck4,rn4,ins4,d4,os4,us4,ow4,qs4,rec4,js4,rfl,h4⟩;exact Ok.ret ⟨_,_,_,_,_,_,_,_,_,_,_,_,_,rfl,h4⟩
    ·simp only[oBF hs1,oCF];exact Ok.ret ⟨_,_,_,_,_,_,_,_,_,_,_,_,_,rfl,h2.prog,hM3,h2.outs,h2.lock,by rw[eW];simp;omega,h2.jlen⟩
   rintro _ ⟨cs,ls,ts,ck,rn,ins,d,os,us,ow,qs,rec,js,rfl,h5⟩;dsimp only;obtain⟨t5,ht5⟩:∃t5,ts[i]?=some t5:=⟨_,oGE (by have:=h5.mach.tlen;omega)⟩;simp only[dL,oBS,show dH ts i=some t5 from ht5];refine Ok.bind (P:=fun r=>∃cs ls ts ck rn ins d os us ow qs rec js,r=((),(),(),(),0,(),(),(),(),(),(),(),(),(),(),(),(),(),code,ss,dt,bs,key,cs,ls,ts,ck,rn,ins,d,os,us,ow,qs,rec,js,())∧jq (n+64) (q+12) code ss dt bs cs ls ts ck rn ins d os us ow qs rec js) ?_ ?_
   ·(with_reducible refine dE (fun hce=>?_) fun hce=>?_)
    ·refine (C3 h5 hi (by omega) (by omega)).bind ?_;rintro _ ⟨cs4,ls4,ts4,ck4,rn4,ins4,d4,os4,us4,ow4,qs4,rec4,js4,rfl,h4⟩;exact Ok.ret ⟨_,_,_,_,_,_,_,_,_,_,_,_,_,rfl,h4⟩
    ·exact Ok.ret ⟨_,_,_,_,_,_,_,_,_,_,_,_,_,rfl,h5.prog,h5.mach,h5.outs,h5.lock,by have:=h5.rlen;omega,h5.jlen⟩
   rintro _ ⟨cs,ls,ts,ck,rn,ins,d,os,us,ow,qs,rec,js,rfl,h6⟩;exact Ok.ret (.inr ⟨_,_,_,_,_,_,_,_,_,_,_,_,_,rfl,h6⟩)
theorem KK{l ss:List Int}{k:Int}(hs:zA ss) (h:DOk l k):Ok (mi ss l k) fun r=>∃bs key k',r=(bs,key,l,k',())∧LV bs ss∧W16 key∧DOk l k':=by
 unfold mi
 (with_reducible refine fi (by assumption) (by omega) (by omega) (fun v0 k0 a0 b0 d0=>?_);try dsimp only)
 refine (Ot hs a0 (by omega)).bind ?_;rintro _ ⟨key,rfl,hk⟩;exact Ok.ret ⟨_,_,_,rfl,PN hs a0,hk,d0⟩
theorem Pg{l:List Int}{k:Int}(h:DOk l k):Ok (rF l k) fun r=>∃code ss dt bs key cs ls ts ck rn ins d os us ow qs rec js k',r=(code,ss,dt,bs,key,cs,ls,ts,ck,rn,ins,d,os,us,ow,qs,rec,js,l,k',())∧W16 key∧jq 1152 216 code ss dt bs cs ls ts ck rn ins d os us ow qs rec js∧DOk l k':=by
 unfold rF;refine (Iu h).bind ?_;rintro _ ⟨code,ss,dt,k1,rfl,hp,h1⟩;dsimp only;refine (KK hp.sz h1).bind ?_;rintro _ ⟨bs,key,k2,rfl,hL,hkey,h2⟩;dsimp only;refine (Iz hp.sz h2).bind ?_;rintro _ ⟨ck,rn,ins,d,os,k3,rfl,hO,h3⟩;dsimp only;refine (MW hp hL hO).bind ?_;rintro _ ⟨cs,ts,rfl,hM⟩;dsimp only
 (with_reducible refine fi (by assumption) (by omega) (by omega) (fun v4 k4 a4 b4 d4=>?_);try dsimp only)
 rw[dO (x:=3+v4) (by omega) (by omega)]
 obtain⟨y,e,hy⟩:=fN (f:=pa) (n:=NN) (s:=(3+v4,l,k4,(),(),(),(),0,(),(),(),(),(),(),(),(),(),(),(),(),(),code,ss,dt,bs,key,cs,eK,ts,ck,rn,ins,d,os,[],[-1,-1,-1,-1],[[],[],[],[]],[],[-1,-1,-1,-1],()))
  (P:=fun s'=>∃(c k':Int) (q:Nat),∃cs ls ts ck rn ins d os us ow qs rec js,s'=(c,l,k',(),(),(),(),0,(),(),(),(),(),(),(),(),(),(),(),(),(),code,ss,dt,bs,key,cs,ls,ts,ck,rn,ins,d,os,us,ow,qs,rec,js,())∧0≤c∧c+q≤18∧DOk l k'∧jq (64*q) (12*q) code ss dt bs cs ls ts ck rn ins d os us ow qs rec js)
  (R:=fun y=>(∃(c k':Int) (f:Bool) (q:Nat),∃cs ls ts ck rn ins d os us ow qs rec js z1 z2 z3 z4 z5 z6 z7 z8 z9 z10 z11 z12 z13 z14 z15 z16 z17 z18,y=.inl (c,f,l,k',(),(),(),(),0,(),(),(),(),(),(),(),(),(),(),(),(),(),code,ss,dt,bs,key,cs,ls,ts,ck,rn,ins,d,os,us,ow,qs,rec,js,z1,z2,z3,z4,z5,z6,z7,z8,z9,z10,z11,z12,z13,z14,z15,z16,z17,z18,())∧q≤18∧DOk l k'∧jq (64*q) (12*q) code ss dt bs cs ls ts ck rn ins d os us ow qs rec js) ∨
   (∃(c k':Int) (f:Bool) (q:Nat),∃cs ls ts ck rn ins d os us ow qs rec js,y=.inr (c,f,l,k',(),(),(),(),0,(),(),(),(),(),(),(),(),(),(),(),(),(),code,ss,dt,bs,key,cs,ls,ts,ck,rn,ins,d,os,us,ow,qs,rec,js,())∧q≤18∧DOk l k'∧jq (64*q) (12*q) code ss dt bs cs ls ts ck rn ins d os us ow qs rec js)) (m:=fun s'=>s'.1.toNat)
  ⟨3+v4,k4,0,_,_,_,_,_,_,_,_,_,_,_,_,_,rfl,by omega,by omega,d4,hp,by simpa using hM,hO,Pn,by simp,rfl⟩ (by unfold NN;dsimp only;omega) (by
   rintro _ ⟨c,k',q,cs,ls,ts,ck,rn,ins,d,os,us,ow,qs,rec,js,rfl,hc0,hcq,hd,hR⟩;unfold pa;dsimp only
   (with_reducible refine dE (fun hca=>?_) fun hca=>?_)
   ·refine (Le hd).bind ?_;rintro _ ⟨t,b,s,k5,rfl,t0,t1,b0,b1,hd5⟩;dsimp only;refine (KB hR (by omega) (by omega) (by omega) ⟨by omega,by omega⟩ ⟨by omega,by omega⟩).bind ?_;rintro _ (⟨e,rfl,he⟩ | ⟨cs2,ls2,ts2,ck2,rn2,ins2,d2,os2,us2,ow2,qs2,rec2,js2,rfl,hR2⟩)
    ·dsimp only;rw[bne_iff_ne.2 he];exact Ok.ret (.inl ⟨_,_,_,q,_,_,_,_,_,_,_,_,_,_,_,_,_,_,_,_,_,_,_,_,_,_,_,_,_,_,_,_,_,_,_,rfl,by omega,hd5,hR⟩)
    ·dsimp only;rw[dO (x:=c - 1) (by omega) (by omega)];refine Ok.ret ⟨⟨_,_,q+1,_,_,_,_,_,_,_,_,_,_,_,_,_,rfl,by omega,by omega,hd5,?_⟩,by dsimp only;omega⟩;rw[show 64*((q+1:Nat):Int)=64*(q:Int)+64 by omega,show 12*(q+1)=12*q+12 by omega];exact hR2
   ·exact Ok.ret (.inr ⟨_,_,_,q,_,_,_,_,_,_,_,_,_,_,_,_,_,rfl,by omega,hd,hR⟩))
 rw[e];have fin:∀{q:Nat} {cs ls ts ck rn ins d os us ow qs rec js},q≤18→jq (64*q) (12*q) code ss dt bs cs ls ts ck rn ins d os us ow qs rec js→jq 1152 216 code ss dt bs cs ls ts ck rn ins d os us ow qs rec js:=fun hq hR=>⟨hR.prog,hR.mach.mono (by omega),hR.outs,hR.lock,by have:=hR.rlen;omega,hR.jlen⟩;rcases hy with ⟨c,k',f,q,cs,ls,ts,ck,rn,ins,d,os,us,ow,qs,rec,js,z1,z2,z3,z4,z5,z6,z7,z8,z9,z10,z11,z12,z13,z14,z15,z16,z17,z18,rfl,hq,hd,hR⟩ | ⟨c,k',f,q,cs,ls,ts,ck,rn,ins,d,os,us,ow,qs,rec,js,rfl,hq,hd,hR⟩
 ·exact Ok.ret ⟨_,_,_,_,_,_,_,_,_,_,_,_,_,_,_,_,_,_,_,rfl,hkey,fin hq hR,hd⟩
 ·exact Ok.ret ⟨_,_,_,_,_,_,_,_,_,_,_,_,_,_,_,_,_,_,_,rfl,hkey,fin hq hR,hd⟩
def Ma(bs ss:List Int) (key:Int) (cs:List DCe) (ls:List DLn) (r o:Nat):DCn:=oF bs ss key (sR cs ls (bs.getD r 0+o))
def Io(bs ss:List Int) (key:Int) (cs:List DCe) (ls:List DLn) (r:Nat):List DCn:=(List.range (ss.getD r 0).toNat).map (Ma bs ss key cs ls r)
def rH(bs ss:List Int) (key:Int) (cs:List DCe) (ls:List DLn):List (List DCn):=(List.range ss.length).map (Io bs ss key cs ls)
def lJ(bs ss:List Int) (key:Int) (t:DTh):DTs:=(t.1,t.2.2.1,t.2.2.2.1,t.2.2.2.2.1,t.2.2.2.2.2.1,t.2.2.2.2.2.2.1,t.2.2.2.2.2.2.2,t.2.1.map (oF bs ss key))
theorem LV.at_{bs ss:List Int}(h:LV bs ss) {r:Nat}(hr:r < ss.length):∃b z,bs[r]?=some b∧ss[r]?=some z∧1≤z∧z≤32∧0≤b∧b+z≤512:=by
 obtain⟨hs,hl,hg⟩:=h;obtain⟨b,hb⟩:∃b,bs[r]?=some b:=⟨_,oGE (by omega)⟩;obtain⟨z,hz⟩:∃z,ss[r]?=some z:=⟨_,oGE (by omega)⟩;have h1:=hg r (by omega);unfold vz at h1;rw[d9 hb,d9 hz] at h1;have h2:=hs.2.2 z (dN hz);exact⟨b,z,hb,hz,h2.1,h2.2,h1.1,h1.2.1⟩
theorem In{K:Int→Prop}{bs ss:List Int}{key:Int}{cs:List DCe}{ls:List DLn}(h:LV bs ss) (hm:iL K cs ls):j4 cs ls bs key ss=some (rH bs ss key cs ls,()):=by
 have hs4:=h.1.2.1
 have e0:∀(r:Nat) (b z:Int),bs[r]?=some b→ss[r]?=some z→1≤z→z≤32→0≤b→b+z≤512→∀(a1 a2 a3:_) (out:List (List DCn)),dQ f9 NN (ss,(r:Int),a1,a2,a3,z,0,cs,ls,bs,key,out,[],())=some (ss,(r:Int),a1,a2,a3,z,z,false,cs,ls,bs,key,out,Io bs ss key cs ls r,()):=by
  intro r b z hb hz z1 z32 b0 bz a1 a2 a3 out;obtain⟨n,rfl⟩:∃n:Nat,z=n:=⟨z.toNat,by omega⟩
  have e:Io bs ss key cs ls r=(List.range n).map (Ma bs ss key cs ls r):=by unfold Io;rw[d9 hz,oTN]
  rw[e];refine mH (f:=f9) (N:=NN) (st:=fun o=>(ss,(r:Int),a1,a2,a3,(n:Int),(o:Int),cs,ls,bs,key,out,(List.range o).map (Ma bs ss key cs ls r),())) (n:=n) (by unfold NN;omega) ?_ ?_
  ·intro o ho;unfold f9;dsimp only;rw[oDT (show (o:Int) < n by omega),dL];simp only[oCT,oBS,show dH bs r=some b from hb];rw[dO (x:=b+o) (by omega) (by omega)];obtain⟨hlk,hlv⟩:=yf (a:=b+o) hm ⟨by omega,by omega⟩;rw[hlk];simp only[oBS];rw[rR h hlv];simp only[oBS];refine dF (dS (by simp;omega)) ?_;rw[dO (x:=(o:Int)+1) (by omega) (by omega)];refine Ok.ret ?_;rw[← iY];unfold Ma;rw[d9 hb];rfl
  ·unfold f9;dsimp only;rw[oDF (show ¬ (n:Int) < n by omega)];exact Ok.ret rfl
 have e1:dQ f8 NN (ss,ss,(ss.length:Int),0,cs,ls,bs,key,[],())=some (ss,ss,(ss.length:Int),(ss.length:Int),false,cs,ls,bs,key,rH bs ss key cs ls,()):=by
  refine mH (f:=f8) (N:=NN) (st:=fun r=>(ss,ss,(ss.length:Int),(r:Int),cs,ls,bs,key,(List.range r).map (Io bs ss key cs ls),())) (n:=ss.length) (by unfold NN;omega) ?_ ?_
  ·intro r hr;obtain⟨b,z,hb,hz,z1,z32,b0,bz⟩:=h.at_ hr;unfold f8;dsimp only;rw[oDT (show (r:Int) < ss.length by omega),dL];simp only[oCT,oBS,show dH ss r=some z from hz];rw[e0 r b z hb hz z1 z32 b0 bz];simp only[oBS];refine dF (dS (by simp;omega)) ?_;rw[dO (x:=(r:Int)+1) (by omega) (by omega)];refine Ok.ret ?_;rw[← iY];rfl
  ·unfold f8;dsimp only;rw[oDF (show ¬ (ss.length:Int) < ss.length by omega)];exact Ok.ret rfl
 unfold j4;delta dK
 try dsimp only
 rw[e1];rfl
theorem GY{n key:Int}{code:List DIn}{dt:List (List Int)}{bs ss:List Int}{cs:List DCe}{ls:List DLn}{ts:List DTh}(h:MOk n ss bs cs ls ts):jV code ss dt bs key cs ls ts=some (rH bs ss key cs ls,ts.map (lJ bs ss key),()):=by
 have h4:=h.tlen
 have e1:dQ gU NN (ts,(ts.length:Int),0,code,ss,dt,bs,key,cs,ls,ts,(),(),rH bs ss key cs ls,[],())=some (ts,(ts.length:Int),(ts.length:Int),false,code,ss,dt,bs,key,cs,ls,ts,(),(),rH bs ss key cs ls,ts.map (lJ bs ss key),()):=by
  have:=mH (f:=gU) (N:=NN) (st:=fun r=>(ts,(ts.length:Int),(r:Int),code,ss,dt,bs,key,cs,ls,ts,(),(),rH bs ss key cs ls,(ts.take r).map (lJ bs ss key),())) (n:=ts.length) (t:=(ts,(ts.length:Int),(ts.length:Int),false,code,ss,dt,bs,key,cs,ls,ts,(),(),rH bs ss key cs ls,ts.map (lJ bs ss key),())) (by unfold NN;omega) ?_ ?_
  ·exact this
  ·intro r hr;obtain⟨t,ht⟩:∃t,ts[r]?=some t:=⟨_,oGE (by omega)⟩;have hok:=h.thr t (dN ht);have h8:=hok.len;unfold gU;delta dK;dsimp only;rw[oDT (show (r:Int) < ts.length by omega),dL];simp only[oCT,oBS,show dH ts r=some t from ht]
   have e0:∀(a1 a2 a3 a4 a5 a6 a7 a8 a9 a10 a11 a12 a13 a14:_),dQ gV NN (ts,(ts.length:Int),(r:Int),t.2.1,(t.2.1.length:Int),0,code,ss,dt,bs,key,cs,ls,ts,(),(),rH bs ss key cs ls,(ts.take r).map (lJ bs ss key),a1,t.2.1,a2,a3,a4,a5,a6,a7,a8,a9,a10,a11,a12,a13,a14,[],()) =
    some (ts,(ts.length:Int),(r:Int),t.2.1,(t.2.1.length:Int),(t.2.1.length:Int),false,code,ss,dt,bs,key,cs,ls,ts,(),(),rH bs ss key cs ls,(ts.take r).map (lJ bs ss key),a1,t.2.1,a2,a3,a4,a5,a6,a7,a8,a9,a10,a11,a12,a13,a14,t.2.1.map (oF bs ss key),()):=by
    intro a1 a2 a3 a4 a5 a6 a7 a8 a9 a10 a11 a12 a13 a14
    have:=mH (f:=gV) (N:=NN) (st:=fun o=>(ts,(ts.length:Int),(r:Int),t.2.1,(t.2.1.length:Int),(o:Int),code,ss,dt,bs,key,cs,ls,ts,(),(),rH bs ss key cs ls,(ts.take r).map (lJ bs ss key),a1,t.2.1,a2,a3,a4,a5,a6,a7,a8,a9,a10,a11,a12,a13,a14,(t.2.1.take o).map (oF bs ss key),())) (n:=t.2.1.length)
     (t:=(ts,(ts.length:Int),(r:Int),t.2.1,(t.2.1.length:Int),(t.2.1.length:Int),false,code,ss,dt,bs,key,cs,ls,ts,(),(),rH bs ss key cs ls,(ts.take r).map (lJ bs ss key),a1,t.2.1,a2,a3,a4,a5,a6,a7,a8,a9,a10,a11,a12,a13,a14,t.2.1.map (oF bs ss key),())) (by unfold NN;omega) ?_ ?_
    ·exact this
    ·intro o ho;obtain⟨c,hc⟩:∃c,t.2.1[o]?=some c:=⟨_,oGE ho⟩;unfold gV;dsimp only;rw[oDT (show (o:Int) < t.2.1.length by omega),dL];simp only[oCT,oBS,show dH t.2.1 o=some c from hc];rw[rR h.lay (hok.regs c (dN hc))];simp only[oBS];refine dF (dS (by simp;omega)) ?_;rw[dO (x:=(o:Int)+1) (by omega) (by omega)];refine Ok.ret ?_;rw[← fJ (oF bs ss key) hc];rfl
    ·unfold gV;dsimp only;rw[oDF (show ¬ (t.2.1.length:Int) < t.2.1.length by omega),List.take_length];exact Ok.ret rfl
   rw[e0];simp only[oBS];refine dF (dS (by simp;omega)) ?_;rw[dO (x:=(r:Int)+1) (by omega) (by omega)];refine Ok.ret ?_;rw[← fJ (lJ bs ss key) ht];rfl
  ·unfold gU;dsimp only;rw[oDF (show ¬ (ts.length:Int) < ts.length by omega),List.take_length];exact Ok.ret rfl
 unfold jV;delta dK;simp only[In h.lay h.mem,oBS];rw[e1];rfl
structure Qd (n:Int) (ss:List Int) (v:DTs):Prop where
 state:0≤v.1∧v.1≤4
 pc:0≤v.2.1∧v.2.1≤255
 count:0≤v.2.2.1∧v.2.2.1≤n
 handler:-1≤v.2.2.2.1∧v.2.2.2.1≤255
 saved:-1≤v.2.2.2.2.1∧v.2.2.2.2.1≤255
 trap:0≤v.2.2.2.2.2.1∧v.2.2.2.2.2.1≤6
 code:W16 v.2.2.2.2.2.2.1
 len:v.2.2.2.2.2.2.2.length=8
 regs:∀c∈v.2.2.2.2.2.2.2,Pr ss c
structure Dj (n:Int) (ss:List Int) (rg:List (List DCn)) (vs:List DTs):Prop where
 rlen:rg.length=ss.length
 fit:∀(j:Nat) x z,rg[j]?=some x→ss[j]?=some z→(x.length:Int)=z
 cells:∀x∈rg,∀c∈x,Pr ss c
 vlen:vs.length=4
 views:∀v∈vs,Qd n ss v
theorem LE{n key:Int}{bs ss:List Int}{cs:List DCe}{ls:List DLn}{ts:List DTh}(h:MOk n ss bs cs ls ts):Dj n ss (rH bs ss key cs ls) (ts.map (lJ bs ss key)):=by
 refine⟨by unfold rH;simp,fun j x z hx hz=>?_,fun x hx c hc=>?_,by rw[List.length_map];exact h.tlen,fun v hv=>?_⟩
 ·unfold rH at hx;rw[List.getElem?_map,List.getElem?_range (oGS hz).1] at hx
  injection hx with hx
  subst hx;have:=(h.lay.1.2.2 z (dN hz)).1;unfold Io;rw[List.length_map,List.length_range,d9 hz];omega
 ·unfold rH at hx;obtain⟨r,hr,rfl⟩:=List.mem_map.1 hx;have hr:=List.mem_range.1 hr;obtain⟨b,z,hb,hz,z1,z32,b0,bz⟩:=h.lay.at_ hr;unfold Io at hc;obtain⟨o,ho,rfl⟩:=List.mem_map.1 hc;have ho:=List.mem_range.1 ho;rw[d9 hz] at ho;unfold Ma;rw[d9 hb];exact De h.lay (yf (a:=b+o) h.mem ⟨by omega,by omega⟩).2
 ·obtain⟨t,ht,rfl⟩:=List.mem_map.1 hv;have hok:=h.thr t ht;refine⟨hok.state,hok.pc,hok.count,hok.handler,hok.saved,hok.trap,hok.code,by unfold lJ;dsimp only;rw[List.length_map];exact hok.len,fun c hc=>?_⟩;unfold lJ at hc;dsimp only at hc;obtain⟨c',hc',rfl⟩:=List.mem_map.1 hc;exact De h.lay (hok.regs c' hc')
theorem Jy{l:List Int}(h:∀x∈l,1≤x∧x≤32):(l.length:Int)≤l.sum∧l.sum≤32*l.length:=by
 induction l with
 | nil=>simp
 | cons a l ih=>
  have h1:=h a (by simp);have h2:=ih fun x hx=>h x (by simp[hx]);rw[List.sum_cons,oLC];omega
theorem OG{l:List Int}{k:Nat}{x:Int}(h:l[k]?=some x):l.drop k=x :: l.drop (k+1):=by
 obtain⟨hk,rfl⟩:=oGS h;exact List.drop_eq_getElem_cons hk
theorem LB{ss:List Int}(h:zA ss):me ss=some (ss.sum,()):=by
 have e:dQ gY NN (0,ss,(ss.length:Int),0,())=some (ss.sum,ss,(ss.length:Int),(ss.length:Int),false,()):=by
  have:=mH (f:=gY) (N:=NN) (st:=fun k=>((ss.take k).sum,ss,(ss.length:Int),(k:Int),())) (n:=ss.length) (t:=(ss.sum,ss,(ss.length:Int),(ss.length:Int),false,())) (by unfold NN;have:=h.2.1;omega) ?_ ?_
  ·exact this
  ·intro k hk;obtain⟨x,hx⟩:∃x,ss[k]?=some x:=⟨_,oGE hk⟩;have hx2:=h.2.2 x (dN hx);have hb:=Jy (l:=ss.take k) fun y hy=>h.2.2 y (List.mem_of_mem_take hy);have hl:=h.2.1;rw[oLT] at hb;unfold gY;dsimp only;rw[oDT (show (k:Int) < ss.length by omega),dL];simp only[oCT,oBS,show dH ss k=some x from hx];rw[dO (x:=(ss.take k).sum+x) (by omega) (by omega),dO (x:=(k:Int)+1) (by omega) (by omega)];refine Ok.ret ?_;rw[show ss.take (k+1)=ss.take k++[x] by rw[List.take_add_one,hx];rfl];simp
  ·unfold gY;dsimp only;rw[oDF (show ¬ (ss.length:Int) < ss.length by omega),List.take_length];exact Ok.ret rfl
 unfold me;delta dK
 try dsimp only
 rw[e];rfl
theorem Qc{ss:List Int}{i:Int}(h:zA ss) (h0:0≤i) (h1:i < ss.sum):Ok (rE ss i) fun r=>∃rg o,r=(rg,o,0,())∧0≤rg∧∃n,ss[rg.toNat]?=some n∧0≤o∧o < n:=by
 have hl:=h.2.1;unfold rE;delta dK
 try dsimp only
 obtain⟨y,e,rg,o,rfl,hy⟩:=fN (f:=oZ) (n:=NN) (s:=(i,ss,(ss.length:Int),0,0,0,())) (P:=fun s'=>∃(k:Nat) (i':Int),s'=(i',ss,(ss.length:Int),(k:Int),0,0,())∧k≤ss.length∧0≤i'∧i' < (ss.drop k).sum∧i'≤1000)
  (R:=fun y=>∃rg o,y=.inl (0,rg,o,())∧0≤rg∧∃n,ss[rg.toNat]?=some n∧0≤o∧o < n) (m:=fun s'=>(s'.2.2.1 - s'.2.2.2.1).toNat) ⟨0,i,rfl,by omega,h0,h1,by have:=(Jy h.2.2).2;omega⟩ (by unfold NN;dsimp only;omega) (by
   rintro _ ⟨k,i',rfl,hk,i0,i1,i2⟩;unfold oZ;dsimp only;by_cases hkl:k=ss.length
   ·subst hkl;rw[List.drop_length] at i1;simp at i1;omega
   obtain⟨x,hx⟩:∃x,ss[k]?=some x:=⟨_,oGE (by omega)⟩;have hx2:=h.2.2 x (dN hx);rw[OG hx,List.sum_cons] at i1;rw[oDT (show (k:Int) < ss.length by omega),dL];simp only[oCT,oBS,show dH ss k=some x from hx];rw[oDT (show i'≥0 from i0)];by_cases hlt:i' < x
   ·rw[oDT hlt];exact Ok.ret ⟨_,_,rfl,by omega,x,by rw[oTN];exact hx,i0,hlt⟩
   ·rw[oDF hlt];simp only[oCT,oCF];rw[dO (x:=i' - x) (by omega) (by omega),dO (x:=(k:Int)+1) (by omega) (by omega)]
    exact Ok.ret ⟨⟨k+1,_,rfl,by omega,by omega,by omega,by omega⟩,by dsimp only;omega⟩)
 rw[e];exact Ok.ret ⟨rg,o,rfl,hy⟩
theorem HM{ss l:List Int}{k:Int}(hs:zA ss) (h:DOk l k):Ok (lC ss l k) fun r=>∃t v rg o k',r=(t,v,rg,o,l,k',())∧Pr ss (t,v,rg,o)∧DOk l k':=by
 unfold lC
 (with_reducible refine fi (by assumption) (by omega) (by omega) (fun v0 k0 a0 b0 d0=>?_);try dsimp only)
 rw[LB hs];simp only[oBS];have hb:=Jy hs.2.2;have h1:=hs.1;have h4:=hs.2.1
 (with_reducible refine dE (fun hca=>?_) fun hca=>?_)
 ·(with_reducible refine fi (by assumption) (by omega) (by omega) (fun v1 k1 a1 b1 d1=>?_);try dsimp only)
  refine (Qc hs a1 b1).bind ?_;rintro _ ⟨rg,o,rfl,g1,n,g2,g3,g4⟩;exact Ok.ret ⟨_,_,_,_,_,rfl,.inr ⟨rfl,rfl,g1,n,g2,g3,g4⟩,d1⟩
 (with_reducible refine dE (fun hcb=>?_) fun hcb=>?_)
 ·(with_reducible refine fi (by assumption) (by omega) (by omega) (fun v2 k2 a2 b2 d2=>?_);try dsimp only)
  exact Ok.ret ⟨_,_,_,_,_,rfl,Ng (mM _),d2⟩
 ·(with_reducible refine GS (by assumption) (fun v3 k3 a3 b3 d3=>?_);try dsimp only)
  exact Ok.ret ⟨_,_,_,_,_,rfl,kg ⟨by omega,by omega⟩,d3⟩
def zJ(v:DTs):List DCn:=v.2.2.2.2.2.2.2
def thF(bs:List Int) (key:Int) (v:DTs):DTh:=(v.1,(zJ v).map (AV bs key),v.2.1,v.2.2.1,v.2.2.2.1,v.2.2.2.2.1,v.2.2.2.2.2.1,v.2.2.2.2.2.2.1)
theorem Dq{n:Int}{ss:List Int}{vs:List DTs}(hs:zA ss) (hl:vs.length=4) (h:∀v∈vs,Qd n ss v) (hn:n≤1099511627776):jU vs=some (true,()):=by
 have e:dQ f7 NN (vs,vs,(vs.length:Int),0,())=some (.inr (vs,vs,(vs.length:Int),(vs.length:Int),false,())):=by
  refine mH (f:=f7) (N:=NN) (st:=fun k=>(vs,vs,(vs.length:Int),(k:Int),())) (n:=vs.length) (by unfold NN;omega) ?_ ?_
  ·intro k hk;obtain⟨v,hv⟩:∃v,vs[k]?=some v:=⟨_,oGE hk⟩;obtain⟨⟨a1,a2⟩,⟨b1,b2⟩,⟨c1,c2⟩,⟨d1,d2⟩,⟨e1,e2⟩,⟨f1,f2⟩,_,hl8,hr⟩:=h v (dN hv);unfold f7;delta dK;dsimp only;rw[oDT (show (k:Int) < vs.length by omega),dL];simp only[oCT,oBS,show dH vs k=some v from hv];rw[oDT (show v.1≥0 from a1),oDT a2,oDT (show v.2.1≥0 from b1),oDT b2,oDT (show v.2.2.1≥0 from c1),oDT (show v.2.2.1≤1099511627776 by omega),oDT (show v.2.2.2.1≥-1 from d1),oDT d2,oDT (show v.2.2.2.2.1≥-1 from e1),oDT e2,oDT (show v.2.2.2.2.2.1≥0 from f1),oDT f2];simp only[oCT,oCF,oBS,oNT];rw[hl8,jE (n:=8) hs hr (by omega) (by omega)];simp only[show (((8:Nat):Int) != 8)=false from rfl,oCF,oBS,oNT];rw[dO (x:=(k:Int)+1) (by omega) (by omega)];exact Ok.ret rfl
  ·unfold f7;dsimp only;rw[oDF (show ¬ (vs.length:Int) < vs.length by omega)];exact Ok.ret rfl
 unfold jU;delta dK;dsimp only;rw[e];dsimp only;rw[hl];rfl
theorem H5{n:Int}{code:List DIn}{ss:List Int}{dt:List (List Int)}{rg:List (List DCn)}{vs:List DTs}(hp:kI code ss dt) (h:Dj n ss rg vs) (hn:n≤1099511627776):lY code ss dt rg vs=some (true,()):=by
 have h4:=hp.sz.2.1;have hl:=h.rlen
 have e:dQ gT NN (rg,(rg.length:Int),0,code,ss,dt,rg,vs,())=some (.inr (rg,(rg.length:Int),(rg.length:Int),false,code,ss,dt,rg,vs,())):=by
  refine mH (f:=gT) (N:=NN) (st:=fun k=>(rg,(rg.length:Int),(k:Int),code,ss,dt,rg,vs,())) (n:=rg.length) (by unfold NN;omega) ?_ ?_
  ·intro k hk;obtain⟨x,hx⟩:∃x,rg[k]?=some x:=⟨_,oGE hk⟩;obtain⟨z,hz⟩:∃z,ss[k]?=some z:=⟨_,oGE (by omega)⟩;have hf:=h.fit k x z hx hz;have hz2:=hp.sz.2.2 z (dN hz);unfold gT;delta dK;dsimp only;rw[oDT (show (k:Int) < rg.length by omega),dL];simp only[oCT,oBS,show dH rg k=some x from hx,show dH ss k=some z from hz,hf,bne_self_eq_false,oCF];rw[jE (n:=32) hp.sz (h.cells x (dN hx)) (by omega) (by omega)];simp only[oBS,oNT,oCF];rw[dO (x:=(k:Int)+1) (by omega) (by omega)];exact Ok.ret rfl
  ·unfold gT;dsimp only;rw[oDF (show ¬ (rg.length:Int) < rg.length by omega)];exact Ok.ret rfl
 unfold lY;delta dK;rw[Dd hp,Dq hp.sz h.vlen h.views hn];simp only[oBS,bne_self_eq_false,oCF,oNT];rw[show ((rg.length:Int) != (ss.length:Int))=false by rw[hl];simp];simp only[oCF,oBS];rw[e]
theorem IJ{rg:List (List DCn)}{vs:List DTs}(h1:rg.length≤1000) (h2:vs.length≤1000):lX rg vs=some (rg++vs.map zJ,()):=by
 have e:dQ gS NN (vs,(vs.length:Int),0,rg,vs,rg,())=some (vs,(vs.length:Int),(vs.length:Int),false,rg,vs,rg++vs.map zJ,()):=by
  have:=mH (f:=gS) (N:=NN) (st:=fun k=>(vs,(vs.length:Int),(k:Int),rg,vs,rg++(vs.take k).map zJ,())) (n:=vs.length) (t:=(vs,(vs.length:Int),(vs.length:Int),false,rg,vs,rg++vs.map zJ,())) (by unfold NN;omega) ?_ ?_
  ·simpa using this
  ·intro k hk;obtain⟨v,hv⟩:∃v,vs[k]?=some v:=⟨_,oGE hk⟩;unfold gS;dsimp only;rw[oDT (show (k:Int) < vs.length by omega),dL];simp only[oCT,oBS,show dH vs k=some v from hv];refine dF (dS (by simp;omega)) ?_;rw[dO (x:=(k:Int)+1) (by omega) (by omega)];refine Ok.ret ?_;rw[← fJ zJ hv,← List.append_assoc];rfl
  ·unfold gS;dsimp only;rw[oDF (show ¬ (vs.length:Int) < vs.length by omega),List.take_length];exact Ok.ret rfl
 unfold lX;rw[dS (show 24≤1000∧0+rg.length≤1000000 by omega)];delta dK;simp only[oCT];rw[show List.append [] rg=rg from rfl,e];rfl
theorem LV.apart{bs ss:List Int}(h:LV bs ss) {r r':Nat}{b z b' z' o o':Int}(hne:r≠r') (hb:bs[r]?=some b) (hz:ss[r]?=some z) (hb':bs[r']?=some b') (hz':ss[r']?=some z') (h0:0≤o) (h1:o < z) (h0':0≤o') (h1':o' < z'):b+o≠b'+o':=by
 obtain⟨_,hl,hg⟩:=h;have l1:=(oGS hb).1;have l2:=(oGS hb').1;have g1:=hg r l1;have g2:=hg r' l2;unfold vz at g1 g2;rw[d9 hb,d9 hz] at g1;rw[d9 hb',d9 hz'] at g2;by_cases hlt:r' < r
 ·have:=g1.2.2 r' hlt;rw[d9 hb',d9 hz'] at this;omega
 ·have:=g2.2.2 r (by omega);rw[d9 hb,d9 hz] at this;omega
def PO(bs:List Int) (key:Int) (rg:List (List DCn)) (cs:List DCe) (r o:Nat):Prop:=∀(r' o':Nat) (x:List DCn) (c:DCn) (b:Int),rg[r']?=some x→x[o']?=some c→bs[r']?=some b→(r' < r∨(r'=r∧o' < o))→cs[(b+o').toNat]?=some (AV bs key c)
set_option maxHeartbeats 4000000 in
theorem KV{n key:Int}{code:List DIn}{ss bs:List Int}{dt:List (List Int)}{rg:List (List DCn)}{vs:List DTs}(hp:kI code ss dt) (hL:LV bs ss) (h:Dj n ss rg vs) (hn:n≤1099511627776) :
 Ok (kZ code ss dt bs key rg vs) fun r=>∃cs,r=(bs,key,cs,eK,vs.map (thF bs key),true,())∧MOk n ss bs cs eK (vs.map (thF bs key))∧PO bs key rg cs ss.length 0:=by
 have h4:=hp.sz.2.1;have hbl:=hL.2.1;have hrl:=h.rlen;have hvl:=h.vlen;unfold kZ;delta dK;rw[H5 hp h hn,rA hL,IJ (by omega) (by omega),C5];simp only[oBS,oNT,oCF]
 have hall:∀x∈rg++vs.map zJ,x.length≤100∧∀c∈x,Pr ss c:=by
  intro x hx;rcases List.mem_append.1 hx with hx | hx
  ·obtain⟨j,hj⟩:=List.getElem?_of_mem hx;have:=(oGS hj).1;obtain⟨z,hz⟩:∃z,ss[j]?=some z:=⟨_,oGE (by omega)⟩;have:=h.fit j x z hj hz;have:=hp.sz.2.2 z (dN hz);exact⟨by omega,h.cells x hx⟩
  ·obtain⟨v,hv,rfl⟩:=List.mem_map.1 hx;have:=h.views v hv;exact⟨by unfold zJ;rw[this.len];omega,this.regs⟩
 have hll:(rg++vs.map zJ).length≤100:=by rw[List.length_append,List.length_map];omega
 generalize rg++vs.map zJ=lst at hall hll
 have e1:dQ gu NN ((lst.length:Int),0,code,ss,dt,bs,key,rg,vs,(),0,(),(),(),lst,())=some (.inr ((lst.length:Int),(lst.length:Int),false,code,ss,dt,bs,key,rg,vs,(),0,(),(),(),lst,())):=by
  refine mH (f:=gu) (N:=NN) (st:=fun k=>((lst.length:Int),(k:Int),code,ss,dt,bs,key,rg,vs,(),0,(),(),(),lst,())) (n:=lst.length) (by unfold NN;omega) ?_ ?_
  ·intro k hk;obtain⟨x,hx⟩:∃x,lst[k]?=some x:=⟨_,oGE hk⟩;obtain⟨hxl,hxc⟩:=hall x (dN hx)
   have e0:dQ gv NN ((lst.length:Int),(k:Int),x,(x.length:Int),0,code,ss,dt,bs,key,rg,vs,(),0,(),(),(),lst,())=some (.inr ((lst.length:Int),(k:Int),x,(x.length:Int),(x.length:Int),false,code,ss,dt,bs,key,rg,vs,(),0,(),(),(),lst,())):=by
    refine mH (f:=gv) (N:=NN) (st:=fun o=>((lst.length:Int),(k:Int),x,(x.length:Int),(o:Int),code,ss,dt,bs,key,rg,vs,(),0,(),(),(),lst,())) (n:=x.length) (by unfold NN;omega) ?_ ?_
    ·intro o ho;obtain⟨c,hc⟩:∃c,x[o]?=some c:=⟨_,oGE ho⟩;unfold gv;dsimp only;rw[oDT (show (o:Int) < x.length by omega),dL];simp only[oCT,oBS,show dH x o=some c from hc,m7 (hxc c (dN hc)),oNT,oCF];rw[dO (x:=(o:Int)+1) (by omega) (by omega)];exact Ok.ret rfl
    ·unfold gv;dsimp only;rw[oDF (show ¬ (x.length:Int) < x.length by omega)];exact Ok.ret rfl
   unfold gu;delta dK;dsimp only;rw[oDT (show (k:Int) < lst.length by omega),dL];simp only[oCT,oBS,show dH lst k=some x from hx,e0];rw[dO (x:=(k:Int)+1) (by omega) (by omega)];exact Ok.ret rfl
  ·unfold gu;dsimp only;rw[oDF (show ¬ (lst.length:Int) < lst.length by omega)];exact Ok.ret rfl
 rw[e1];dsimp only;refine dF (dS (by omega)) (dF (by decide) ?_);rw[show List.append [] bs=bs from rfl]
 refine Ok.loop (P:=fun s'=>∃(r:Nat),∃cs,s'=(rg,(rg.length:Int),(r:Int),code,ss,dt,bs,key,rg,vs,(),0,(),(),(),bs,key,cs,eK,(),())∧r≤rg.length∧cs.length=512∧(∀c∈cs,lT (RK bs ss) c)∧PO bs key rg cs r 0)
  (R:=fun y=>∃a b c f cs,y=(a,b,c,f,code,ss,dt,bs,key,rg,vs,(),0,(),(),(),bs,key,cs,eK,(),())∧cs.length=512∧(∀c∈cs,lT (RK bs ss) c)∧PO bs key rg cs ss.length 0) (m:=fun s'=>(s'.2.1 - s'.2.2.1).toNat)
  ⟨0,_,rfl,by omega,List.length_replicate,fun c hc=>by rw[List.eq_of_mem_replicate hc];exact lF (by decide),fun r' o' x c b _ _ _ hlt=>by omega⟩ (by unfold NN;dsimp only;omega) ?_ ?_
 ·rintro _ ⟨r,cs,rfl,hr,hc1,hc2,hI⟩;unfold of;delta dK;dsimp only
  (with_reducible refine dE (fun hca=>?_) fun hca=>?_)
  ·obtain⟨x,hx⟩:∃x,rg[r]?=some x:=⟨_,oGE (by omega)⟩;obtain⟨b,z,hb,hz,z1,z32,b0,bz⟩:=hL.at_ (r:=r) (by omega);have hf:=h.fit r x z hx hz;have hxc:=h.cells x (dN hx);rw[dL];simp only[oBS,show dH rg r=some x from hx]
   refine Ok.loop (P:=fun s'=>∃(o:Nat),∃cs,s'=((r:Int),rg,(rg.length:Int),(r:Int),x,(x.length:Int),(o:Int),code,ss,dt,bs,key,rg,vs,(),0,(),(),(),bs,key,cs,eK,(),())∧o≤x.length∧cs.length=512∧(∀c∈cs,lT (RK bs ss) c)∧PO bs key rg cs r o)
    (R:=fun y=>∃a2 a3 a4 f cs,y=((r:Int),rg,(rg.length:Int),(r:Int),a2,a3,a4,f,code,ss,dt,bs,key,rg,vs,(),0,(),(),(),bs,key,cs,eK,(),())∧cs.length=512∧(∀c∈cs,lT (RK bs ss) c)∧PO bs key rg cs (r+1) 0) (m:=fun s'=>(s'.2.2.2.2.2.1 - s'.2.2.2.2.2.2.1).toNat) ⟨0,cs,rfl,by omega,hc1,hc2,hI⟩ (by unfold NN;dsimp only;omega) ?_ ?_
   ·rintro _ ⟨o,cs,rfl,ho,hc1,hc2,hI⟩;unfold og;dsimp only
    (with_reducible refine dE (fun hcb=>?_) fun hcb=>?_)
    ·obtain⟨c,hc⟩:∃c,x[o]?=some c:=⟨_,oGE (by omega)⟩;obtain⟨hr1,hr2⟩:=xZ (key:=key) hL (hxc c (dN hc));simp only[dL,oBS,show dH x o=some c from hc,show dH bs r=some b from hb,hr1];rw[dO (x:=b+o) (by omega) (by omega),dO (x:=(o:Int)+1) (by omega) (by omega)];obtain⟨a,ha⟩:∃a:Nat,b+o=a:=⟨(b+o).toNat,by omega⟩;obtain⟨y,hy⟩:∃y,cs[a]?=some y:=⟨_,oGE (by omega)⟩;rw[ha,dL];simp only[oBS,show dH cs a=some y from hy,eq hy];refine Ok.ret ⟨⟨o+1,_,rfl,by omega,by rw[List.length_set];exact hc1,iw hc2 hr2,fun r' o' x' c' b' h1 h2 h3 hlt=>?_⟩,by dsimp only;omega⟩;by_cases e:r'=r∧o'=o
     ·obtain⟨rfl,rfl⟩:=e;rw[hx] at h1;cases h1;rw[hc] at h2;cases h2;rw[hb] at h3;cases h3;rw[ha,oTN];exact gz (by omega) _
     ·have hr'l:=(oGS h1).1;obtain⟨b2,z2,hb2,hz2,_,_,b20,b2z⟩:=hL.at_ (r:=r') (by omega)
      have h3':b2=b':=by rw[hb2] at h3;injection h3
      subst h3';have hf2:=h.fit r' x' z2 h1 hz2;have ho'l:=(oGS h2).1
      have hne:(b2+o').toNat≠a:=by
       by_cases er:r'=r
       ·subst er;rw[hb] at hb2;cases hb2;omega
       ·have:=hL.apart er hb2 hz2 hb hz (o:=o') (o':=o) (by omega) (by omega) (by omega) (by omega);omega
      rw[kO (fun e=>hne e.symm)];exact hI r' o' x' c' b2 h1 h2 hb2 (by omega)
    ·refine Ok.ret ⟨_,_,_,_,cs,rfl,hc1,hc2,fun r' o' x' c' b' h1 h2 h3 hlt=>hI r' o' x' c' b' h1 h2 h3 ?_⟩;by_cases er:r'=r
     ·subst er;rw[hx] at h1;cases h1;have:=(oGS h2).1;omega
     ·omega
   ·rintro _ ⟨a2,a3,a4,f,cs,rfl,hc1,hc2,hI⟩;dsimp only;rw[dO (x:=(r:Int)+1) (by omega) (by omega)];exact Ok.ret ⟨⟨r+1,cs,rfl,by omega,hc1,hc2,hI⟩,by dsimp only;omega⟩
  ·obtain rfl:r=ss.length:=by omega
   exact Ok.ret ⟨_,_,_,_,cs,rfl,hc1,hc2,hI⟩
 rintro _ ⟨a,b,c,f,cs,rfl,hc1,hc2,hI⟩;dsimp only
 have e5:dQ gr NN (vs,(vs.length:Int),0,code,ss,dt,bs,key,rg,vs,(),0,(),(),(),bs,key,cs,eK,[],())=some (vs,(vs.length:Int),(vs.length:Int),false,code,ss,dt,bs,key,rg,vs,(),0,(),(),(),bs,key,cs,eK,vs.map (thF bs key),()):=by
  have:=mH (f:=gr) (N:=NN) (st:=fun k=>(vs,(vs.length:Int),(k:Int),code,ss,dt,bs,key,rg,vs,(),0,(),(),(),bs,key,cs,eK,(vs.take k).map (thF bs key),())) (n:=vs.length) (t:=(vs,(vs.length:Int),(vs.length:Int),false,code,ss,dt,bs,key,rg,vs,(),0,(),(),(),bs,key,cs,eK,vs.map (thF bs key),())) (by unfold NN;omega) ?_ ?_
  ·exact this
  ·intro k hk;obtain⟨v,hv⟩:∃v,vs[k]?=some v:=⟨_,oGE hk⟩;have hvo:=h.views v (dN hv);have h8:=hvo.len;unfold gr;delta dK;dsimp only;rw[oDT (show (k:Int) < vs.length by omega),dL];simp only[oCT,oBS,show dH vs k=some v from hv]
   have e4:∀(a1 a2 a3 a4 a5 a6 a7 a8 b1 b2 b3 b4 b5 b6 b7:_),dQ gt NN (vs,(vs.length:Int),(k:Int),v.2.2.2.2.2.2.2,(v.2.2.2.2.2.2.2.length:Int),0,code,ss,dt,bs,key,rg,vs,(),0,(),(),(),bs,key,cs,eK,(vs.take k).map (thF bs key),a1,a2,a3,a4,a5,a6,a7,a8,b1,[],b2,b3,b4,b5,b6,b7,()) =
    some (vs,(vs.length:Int),(k:Int),v.2.2.2.2.2.2.2,(v.2.2.2.2.2.2.2.length:Int),(v.2.2.2.2.2.2.2.length:Int),false,code,ss,dt,bs,key,rg,vs,(),0,(),(),(),bs,key,cs,eK,(vs.take k).map (thF bs key),a1,a2,a3,a4,a5,a6,a7,a8,b1,v.2.2.2.2.2.2.2.map (AV bs key),b2,b3,b4,b5,b6,b7,()):=by
    intro a1 a2 a3 a4 a5 a6 a7 a8 b1 b2 b3 b4 b5 b6 b7
    have:=mH (f:=gt) (N:=NN) (st:=fun o=>(vs,(vs.length:Int),(k:Int),v.2.2.2.2.2.2.2,(v.2.2.2.2.2.2.2.length:Int),(o:Int),code,ss,dt,bs,key,rg,vs,(),0,(),(),(),bs,key,cs,eK,(vs.take k).map (thF bs key),a1,a2,a3,a4,a5,a6,a7,a8,b1,(v.2.2.2.2.2.2.2.take o).map (AV bs key),b2,b3,b4,b5,b6,b7,())) (n:=v.2.2.2.2.2.2.2.length)
     (t:=(vs,(vs.length:Int),(k:Int),v.2.2.2.2.2.2.2,(v.2.2.2.2.2.2.2.length:Int),(v.2.2.2.2.2.2.2.length:Int),false,code,ss,dt,bs,key,rg,vs,(),0,(),(),(),bs,key,cs,eK,(vs.take k).map (thF bs key),a1,a2,a3,a4,a5,a6,a7,a8,b1,v.2.2.2.2.2.2.2.map (AV bs key),b2,b3,b4,b5,b6,b7,())) (by unfold NN;omega) ?_ ?_
    ·exact this
    ·intro o ho;obtain⟨c,hc⟩:∃c,v.2.2.2.2.2.2.2[o]?=some c:=⟨_,oGE ho⟩;unfold gt;dsimp only;rw[oDT (show (o:Int) < v.2.2.2.2.2.2.2.length by omega),dL];simp only[oCT,oBS,show dH v.2.2.2.2.2.2.2 o=some c from hc];rw[(xZ (key:=key) hL (hvo.regs c (dN hc))).1];simp only[oBS];refine dF (dS (by simp;omega)) ?_;rw[dO (x:=(o:Int)+1) (by omega) (by omega)];refine Ok.ret ?_;rw[← fJ (AV bs key) hc];rfl
    ·unfold gt;dsimp only;rw[oDF (show ¬ (v.2.2.2.2.2.2.2.length:Int) < v.2.2.2.2.2.2.2.length by omega),List.take_length];exact Ok.ret rfl
   rw[e4];simp only[oBS];refine dF (dS (by simp;omega)) ?_;rw[dO (x:=(k:Int)+1) (by omega) (by omega)];refine Ok.ret ?_;rw[← fJ (thF bs key) hv];rfl
  ·unfold gr;dsimp only;rw[oDF (show ¬ (vs.length:Int) < vs.length by omega),List.take_length];exact Ok.ret rfl
 rw[e5];refine Ok.ret ⟨cs,rfl,⟨hL,yZ hc1 hc2,by rw[List.length_map];exact hvl,fun t ht=>?_⟩,hI⟩;obtain⟨v,hv,rfl⟩:=List.mem_map.1 ht;have hvo:=h.views v hv;refine⟨hvo.state,by unfold thF;dsimp only;rw[List.length_map];exact hvo.len,fun c hc=>?_,hvo.pc,hvo.count,hvo.handler,hvo.saved,hvo.trap,hvo.code⟩;unfold thF at hc;dsimp only at hc;obtain⟨c',hc',rfl⟩:=List.mem_map.1 hc;exact (xZ hL (hvo.regs c' hc')).2
theorem Ol{l:List Int}{k n:Int}(h:DOk l k) (hn:0 < n) (hn2:n≤9223372036854775807):Ok (dJ n l k) fun r=>∃v k',r=(v,l,k',())∧0≤v∧v < n∧DOk l k':=by
 have:Ok ((dJ n l k).bind some) fun r=>∃v k',r=(v,l,k',())∧0≤v∧v < n∧DOk l k':=fi h hn hn2 fun v k' h0 h1 h2=>Ok.ret ⟨_,_,rfl,h0,h1,h2⟩;simpa using this
theorem Dj.setReg{n:Int}{ss:List Int}{rg:List (List DCn)}{vs:List DTs}{r o:Nat}{x:List DCn}{c:DCn}(h:Dj n ss rg vs) (hx:rg[r]?=some x) (hc:Pr ss c):Dj n ss (rg.set r (x.set o c)) vs:=by
 refine⟨by rw[List.length_set];exact h.rlen,fun j y z hy hz=>?_,iw h.cells (iw (h.cells x (dN hx)) hc),h.vlen,h.views⟩;by_cases e:r=j
 ·subst e;rw[show (rg.set r (x.set o c))[r]?=some (x.set o c) from gz (oGS hx).1 _] at hy;cases hy;rw[List.length_set];exact h.fit r x z hx hz
 ·rw[kO e] at hy;exact h.fit j y z hy hz
theorem Dj.setView{n:Int}{ss:List Int}{rg:List (List DCn)}{vs:List DTs}{k:Nat}{v:DTs}(h:Dj n ss rg vs) (hv:Qd n ss v):Dj n ss rg (vs.set k v):=
 ⟨h.rlen,h.fit,h.cells,by rw[List.length_set];exact h.vlen,iw h.views hv⟩
set_option maxHeartbeats 4000000 in
theorem IH{l:List Int}{k:Int}(h:DOk l k):Ok (hJ l k) fun r=>∃code ss dt bs key cs ls ts k',r=(code,ss,dt,bs,key,cs,ls,ts,l,k',())∧kI code ss dt∧W16 key∧MOk 1152 ss bs cs ls ts∧DOk l k':=by
 unfold hJ;refine (Pg h).bind ?_;rintro _ ⟨code,ss,dt,bs,key,cs,ls,ts,ck,rn,ins,d,os,us,ow,qs,rec,js,k1,rfl,hkey,hR,h1⟩;dsimp only;have hp:=hR.prog;have hM:=hR.mach;have hL:=hM.lay;have hs1:=hp.sz.1;obtain⟨_,en,v,k2,rfl,v0,v1,h2⟩:=Ol (n:=3) h1 (by decide) (by decide);rw[en];simp only[oBS];by_cases hv:v=0
 ·simp only[beq_iff_eq.2 hv,oCT,GY (code:=code) (dt:=dt) hM,oBS];have hS:=LE (key:=key) hM;generalize rH bs ss key cs ls=rg at hS;generalize ts.map (lJ bs ss key)=vs at hS;obtain⟨x,hx⟩:∃x,rg[0]?=some x:=⟨_,oGE (by have:=hS.rlen;omega)⟩
  have hxl:x.length≤32:=by
   obtain⟨z,hz⟩:∃z,ss[0]?=some z:=⟨_,oGE (by omega)⟩;have:=hS.fit 0 x z hx hz;have:=hp.sz.2.2 z (dN hz);omega
  delta dK;simp only[show dH rg 0=some x from hx,oBS]
  obtain⟨y,e,rg',k3,a,b,rfl,hS3,h3⟩:=fN (f:=kN) (n:=NN) (s:=((x.length:Int),0,l,k2,(),(),(),(),0,(),(),(),code,ss,dt,bs,key,cs,ls,ts,ck,rn,ins,d,os,us,ow,qs,rec,js,bs,key,cs,ls,ts,rg,vs,()))
   (P:=fun s'=>∃(q:Nat) (k':Int) (rg':List (List DCn)) (x':List DCn),s'=((x.length:Int),(q:Int),l,k',(),(),(),(),0,(),(),(),code,ss,dt,bs,key,cs,ls,ts,ck,rn,ins,d,os,us,ow,qs,rec,js,bs,key,cs,ls,ts,rg',vs,())∧DOk l k'∧Dj 1152 ss rg' vs∧rg'[0]?=some x'∧x'.length=x.length)
   (R:=fun y=>∃rg' k' a b,y=(a,b,false,l,k',(),(),(),(),0,(),(),(),code,ss,dt,bs,key,cs,ls,ts,ck,rn,ins,d,os,us,ow,qs,rec,js,bs,key,cs,ls,ts,rg',vs,())∧Dj 1152 ss rg' vs∧DOk l k') (m:=fun s'=>(s'.1 - s'.2.1).toNat) ⟨0,k2,rg,x,rfl,h2,hS,hx,rfl⟩ (by unfold NN;dsimp only;omega) (by
    rintro _ ⟨q,k',rg',x',rfl,hd,hS',hx',hxl'⟩;unfold kN;dsimp only
    (with_reducible refine dE (fun hca=>?_) fun hca=>?_)
    ·refine Ok.bind (P:=fun r=>∃(k':Int) (rg':List (List DCn)) (x':List DCn),r=((x.length:Int),(q:Int),l,k',(),(),(),(),0,(),(),(),code,ss,dt,bs,key,cs,ls,ts,ck,rn,ins,d,os,us,ow,qs,rec,js,bs,key,cs,ls,ts,rg',vs,())∧DOk l k'∧Dj 1152 ss rg' vs∧rg'[0]?=some x'∧x'.length=x.length) ?_ ?_
     ·refine fi (n:=3) hd (by decide) (by decide) fun u k4 u0 u1 h4=>?_;dsimp only
      (with_reducible refine dE (fun hcb=>?_) fun hcb=>?_)
      ·obtain⟨c,hc⟩:∃c,x'[q]?=some c:=⟨_,oGE (by omega)⟩;simp only[show dH rg' 0=some x' from hx',oBS];refine (HM hp.sz h4).bind ?_;rintro _ ⟨t,v,rr,o,k5,rfl,hc5,h5⟩;dsimp only;simp only[dL,oBS,show dH x' q=some c from hc,eq hx',eq hc];exact Ok.ret ⟨_,_,_,rfl,h5,hS'.setReg hx' hc5,gz (oGS hx').1 _,by rw[List.length_set];exact hxl'⟩
      ·exact Ok.ret ⟨_,_,_,rfl,h4,hS',hx',hxl'⟩
     ·rintro _ ⟨k',rg',x',rfl,hd,hS',hx',hxl'⟩;dsimp only;rw[dO (x:=(q:Int)+1) (by omega) (by omega)];exact Ok.ret ⟨⟨q+1,k',rg',x',rfl,hd,hS',hx',hxl'⟩,by dsimp only;omega⟩
    ·exact Ok.ret ⟨_,_,_,_,rfl,hS',hd⟩)
  simp only[e,oBS]
  obtain⟨y,e,vs',k4,a,b,rfl,hS4,h4⟩:=fN (f:=kM) (n:=NN) (s:=((vs.length:Int),0,l,k3,(),(),(),(),0,(),(),(),code,ss,dt,bs,key,cs,ls,ts,ck,rn,ins,d,os,us,ow,qs,rec,js,bs,key,cs,ls,ts,rg',vs,()))
   (P:=fun s'=>∃(q:Nat) (k':Int) (vs':List DTs),s'=((vs.length:Int),(q:Int),l,k',(),(),(),(),0,(),(),(),code,ss,dt,bs,key,cs,ls,ts,ck,rn,ins,d,os,us,ow,qs,rec,js,bs,key,cs,ls,ts,rg',vs',())∧DOk l k'∧Dj 1152 ss rg' vs')
   (R:=fun y=>∃vs' k' a b,y=(a,b,false,l,k',(),(),(),(),0,(),(),(),code,ss,dt,bs,key,cs,ls,ts,ck,rn,ins,d,os,us,ow,qs,rec,js,bs,key,cs,ls,ts,rg',vs',())∧Dj 1152 ss rg' vs'∧DOk l k') (m:=fun s'=>(s'.1 - s'.2.1).toNat) ⟨0,k3,vs,rfl,h3,hS3⟩ (by unfold NN;dsimp only;have:=hS3.vlen;omega) (by
    rintro _ ⟨q,k',vs',rfl,hd,hS'⟩;have hvl:=hS3.vlen;have hvl':=hS'.vlen;unfold kM;delta dK;dsimp only
    (with_reducible refine dE (fun hca=>?_) fun hca=>?_)
    ·obtain⟨w,hw⟩:∃w,vs'[q]?=some w:=⟨_,oGE (by omega)⟩;have hw8:=(hS'.views w (dN hw)).len;rw[dL];simp only[oBS,show dH vs' q=some w from hw];refine Ok.bind (P:=fun r=>∃(k':Int) (vs':List DTs),r=((vs.length:Int),(q:Int),l,k',(),(),(),(),0,(),(),(),code,ss,dt,bs,key,cs,ls,ts,ck,rn,ins,d,os,us,ow,qs,rec,js,bs,key,cs,ls,ts,rg',vs',())∧DOk l k'∧Dj 1152 ss rg' vs') ?_ ?_
     ·refine Ok.loop (P:=fun s'=>∃(o:Nat) (k':Int) (vs':List DTs),s'=((q:Int),(vs.length:Int),(q:Int),(w.2.2.2.2.2.2.2.length:Int),(o:Int),l,k',(),(),(),(),0,(),(),(),code,ss,dt,bs,key,cs,ls,ts,ck,rn,ins,d,os,us,ow,qs,rec,js,bs,key,cs,ls,ts,rg',vs',())∧DOk l k'∧Dj 1152 ss rg' vs')
       (R:=fun y=>∃vs' k' a b c,y=((q:Int),(vs.length:Int),(q:Int),a,b,c,l,k',(),(),(),(),0,(),(),(),code,ss,dt,bs,key,cs,ls,ts,ck,rn,ins,d,os,us,ow,qs,rec,js,bs,key,cs,ls,ts,rg',vs',())∧Dj 1152 ss rg' vs'∧DOk l k') (m:=fun s'=>(s'.2.2.2.1 - s'.2.2.2.2.1).toNat) ⟨0,k',vs',rfl,hd,hS'⟩ (by unfold NN;dsimp only;omega) ?_ ?_
      ·rintro _ ⟨o,k',vs',rfl,hd,hS'⟩;have hvl':=hS'.vlen;unfold oj;dsimp only
       (with_reducible refine dE (fun hcb=>?_) fun hcb=>?_)
       ·refine Ok.bind (P:=fun r=>∃(k':Int) (vs':List DTs),r=((q:Int),(vs.length:Int),(q:Int),(w.2.2.2.2.2.2.2.length:Int),(o:Int),l,k',(),(),(),(),0,(),(),(),code,ss,dt,bs,key,cs,ls,ts,ck,rn,ins,d,os,us,ow,qs,rec,js,bs,key,cs,ls,ts,rg',vs',())∧DOk l k'∧Dj 1152 ss rg' vs') ?_ ?_
        ·refine fi (n:=3) hd (by decide) (by decide) fun u k4 u0 u1 h4=>?_;dsimp only
         (with_reducible refine dE (fun hcc=>?_) fun hcc=>?_)
         ·obtain⟨w',hw'⟩:∃w',vs'[q]?=some w':=⟨_,oGE (by omega)⟩;have hvo:=hS'.views w' (dN hw');have hw8':=hvo.len;obtain⟨cc,hcc⟩:∃cc,w'.2.2.2.2.2.2.2[o]?=some cc:=⟨_,oGE (by omega)⟩;simp only[dL,oBS,show dH vs' q=some w' from hw'];refine (HM hp.sz h4).bind ?_;rintro _ ⟨t,v,rr,o',k5,rfl,hc5,h5⟩;dsimp only;simp only[show dH w'.2.2.2.2.2.2.2 o=some cc from hcc,oBS,eq hw',eq hcc];exact Ok.ret ⟨_,_,rfl,h5,hS'.setView ⟨hvo.state,hvo.pc,hvo.count,hvo.handler,hvo.saved,hvo.trap,hvo.code,by dsimp only;rw[List.length_set];exact hw8',iw hvo.regs hc5⟩⟩
         ·exact Ok.ret ⟨_,_,rfl,h4,hS'⟩
        ·rintro _ ⟨k',vs',rfl,hd,hS'⟩;dsimp only;rw[dO (x:=(o:Int)+1) (by omega) (by omega)];exact Ok.ret ⟨⟨o+1,k',vs',rfl,hd,hS'⟩,by dsimp only;omega⟩
       ·exact Ok.ret ⟨_,_,_,_,_,rfl,hS',hd⟩
      ·rintro _ ⟨vs',k',a,b,c,rfl,hS',hd⟩;dsimp only;refine fi (n:=4) hd (by decide) (by decide) fun u k4 u0 u1 h4=>?_;dsimp only
       (with_reducible refine dE (fun hcc=>?_) fun hcc=>?_)
       ·refine fi (n:=5) h4 (by decide) (by decide) fun u2 k5 u20 u21 h5=>?_;dsimp only;obtain⟨w',hw'⟩:∃w',vs'[q]?=some w':=⟨_,oGE (by have:=hS'.vlen;omega)⟩;have hvo:=hS'.views w' (dN hw');simp only[dL,oBS,show dH vs' q=some w' from hw',eq hw'];exact Ok.ret ⟨_,_,rfl,h5,hS'.setView ⟨⟨u20,by dsimp only;omega⟩,hvo.pc,hvo.count,hvo.handler,hvo.saved,hvo.trap,hvo.code,hvo.len,hvo.regs⟩⟩
       ·exact Ok.ret ⟨_,_,rfl,h4,hS'⟩
     ·rintro _ ⟨k',vs',rfl,hd,hS'⟩;dsimp only;rw[dO (x:=(q:Int)+1) (by omega) (by omega)];exact Ok.ret ⟨⟨q+1,k',vs',rfl,hd,hS'⟩,by dsimp only;omega⟩
    ·exact Ok.ret ⟨_,_,_,_,rfl,hS',hd⟩)
  simp only[e,oBS];obtain⟨_,ei,cs',rfl,hM',_⟩:=KV (key:=key) hp hL hS4 (by decide);simp only[ei,oBS,oCT];exact Ok.ret ⟨_,_,_,_,_,_,_,_,_,rfl,hp,hkey,hM',h4⟩
 ·simp only[oBF hv,oCF];exact Ok.ret ⟨_,_,_,_,_,_,_,_,_,rfl,hp,hkey,hM,h2⟩
def Jq:List CT→CT
 | []=>.nat
 | [t]=>t
 | t :: u :: r=>.pair t (Jq (u :: r))
def qk:(l:List CT)→HL den l→den (Jq l)
 | [],_=>(0:Nat)
 | [_],h=>h.1
 | _ :: u :: r,h=>(h.1,qk (u :: r) h.2)
def encL:(l:List CT)→HL den l→List TV
 | [],_=>[]
 | t :: r,h=>enc t h.1++encL r h.2
theorem HE:∀(l:List CT) (h:HL den l),enc (Jq l) (qk l h)=encL l h
 | [],_=>rfl
 | [_],h=>(List.append_nil _).symm
 | _ :: u :: r,h=>by
  show enc _ h.1++enc (Jq (u :: r)) (qk (u :: r) h.2)=_;rw[HE (u :: r) h.2];rfl
def Jo:(c:CT)→den c→Prop
 | .int k,n=>(Lit.int k n).wf=true
 | .str,s=>ByteArray.size s≤maxLen
 | .row _ t,xs=>List.length xs≤maxLen∧∀x∈xs,Jo t x
 | .pair a b,x=>Jo a x.1∧Jo b x.2
 | _,_=>True
def GoodL:(l:List CT)→HL den l→Prop
 | [],_=>True
 | t :: r,h=>Jo t h.1∧GoodL r h.2
theorem E1:∀(l:List CT) (h:HL den l),GoodL l h→Jo (Jq l) (qk l h)
 | [],_,_=>trivial
 | [_],_,g=>g.1
 | _ :: u :: r,h,g=>⟨g.1,E1 (u :: r) h.2 g.2⟩
def appL:(l m:List CT)→HL den l→HL den m→HL den (l++m)
 | [],_,_,k=>k
 | _ :: r,m,h,k=>(h.1,appL r m h.2 k)
theorem HF:∀(l m:List CT) (h:HL den l) (k:HL den m),encL (l++m) (appL l m h k)=encL l h++encL m k
 | [],_,_,_=>rfl
 | t :: r,m,h,k=>by
  show enc t h.1++encL (r++m) (appL r m h.2 k)=(enc t h.1++encL r h.2)++_;rw[HF r m h.2 k,List.append_assoc]
theorem Hw:∀(l m:List CT) (h:HL den l) (k:HL den m),GoodL l h→GoodL m k→GoodL (l++m) (appL l m h k)
 | [],_,_,_,_,g=>g
 | _ :: r,m,h,k,g,g'=>⟨g.1,Hw r m h.2 k g.2 g'⟩
def RelL(w:World):List TV→List Value→Prop
 | [],[]=>True
 | t :: ts,v :: vs=>oc w (fun _=>True) t v∧RelL w ts vs
 | _,_=>False
theorem RelL.app{w:World}:∀{a:List TV}{x:List Value}{b:List TV}{y:List Value},RelL w a x→RelL w b y→RelL w (a++b) (x++y)
 | [],[],_,_,_,h=>h
 | _ :: a,_ :: x,_,_,g,h=>⟨g.1,RelL.app (a:=a) (x:=x) g.2 h⟩
 | [],_ :: _,_,_,g,_=>g.elim
 | _ :: _,[],_,_,g,_=>g.elim
theorem RelL.len{w:World}:∀{a:List TV}{x:List Value},RelL w a x→a.length=x.length
 | [],[],_=>rfl
 | _ :: a,_ :: x,g=>by rw[oLC,oLC,RelL.len (a:=a) (x:=x) g.2]
 | [],_ :: _,g=>g.elim
 | _ :: _,[],g=>g.elim
theorem RelL.get{w:World}:∀{a:List TV}{x:List Value},RelL w a x→∀j (h:j < a.length) (h':j < x.length),oc w (fun _=>True) a[j] x[j]
 | _ :: _,_ :: _,g,0,_,_=>g.1
 | _ :: a,_ :: x,g,j+1,h,h'=>RelL.get (a:=a) (x:=x) g.2 j (by simpa using h) (by simpa using h')
 | [],_,_,_,h,_=>by simp at h
 | _ :: _,[],g,_,_,_=>g.elim
def Pd(P:Program) (g:TypeId→Option (List CT)):Nat→List Field→Option (List CT)
 | _,[]=>some []
 | off,f :: fs=>match g f.type with
  | some l=>if f.offset=off∧l.length=P.cellsOf f.type then (Pd P g (off+l.length) fs).map (l++·) else none
  | none=>none
def xW(P:Program):Nat→TypeId→Option (List CT)
 | 0,_=>none
 | n+1,t=>match P.underlying t with
  | some .bool=>some [.bool]
  | some (.int k)=>some [.int k]
  | some .string=>some [.str]
  | some (.slice e)=>match xW P n e with
   | some l=>if l.length=P.cellsOf e then some [.row false (Jq l)] else none
   | none=>none
  | some (.struct fs)=>match Pd P (xW P n) 0 fs.toList with
   | some l=>if l.length=P.cellsOf t then some l else none
   | none=>none
  | _=>none
section
variable {H:Type} {ec:TypeId×Value→H} {P:Program} {w:World} {base:Nat} {spare:Nat→Bool} {held:Bool}
theorem KT{g:TypeId→Option (List CT)}{m:Nat}{cs:List Value}
 (ih:∀t L,g t=some L→∀cs x,DataW.trod ec P w base spare held m t cs=some x→∃h:HL den L,GoodL L h∧RelL w (encL L h) cs) :
 ∀(fs:List Field) (off:Nat) (L:List CT),Pd P g off fs=some L→(∀f∈fs,∃x,DataW.trod ec P w base spare held m f.type ((cs.drop f.offset).take (P.cellsOf f.type))=some x) →
  ∃h:HL den L,GoodL L h∧RelL w (encL L h) ((cs.drop off).take L.length):=by
 intro fs
 induction fs with
 | nil=>
  intro off L hL _
  injection hL with hL
  subst hL;exact⟨(),trivial,trivial⟩
 | cons f fs ihf=>
  intro off L hL hx;unfold Pd at hL;split at hL
  ·rename_i l hg;split at hL
   ·rename_i ho;obtain⟨rfl,hlen⟩:=ho
    cases hr:Pd P g (f.offset+l.length) fs with
    | none=>rw[hr] at hL;cases hL
    | some L2=>
     rw[hr] at hL
     injection hL with hL
     subst hL;obtain⟨x,h1⟩:=hx f List.mem_cons_self;obtain⟨h,g1,r1⟩:=ih _ _ hg _ _ h1;obtain⟨k,g2,r2⟩:=ihf _ _ hr fun f' hf'=>hx f' (List.mem_cons_of_mem _ hf');refine⟨appL l L2 h k,Hw _ _ _ _ g1 g2,?_⟩;rw[HF,List.length_append,List.take_add,List.drop_drop];rw[hlen];rw[hlen] at r2;exact r1.app r2
   ·cases hL
  ·cases hL
theorem Ps:∀(n:Nat) (t:TypeId) (L:List CT),xW P n t=some L→∀(fuel:Nat) (cs:List Value) (x:DataW H×List MemPlace),DataW.trod ec P w base spare held fuel t cs=some x →
 ∃h:HL den L,GoodL L h∧RelL w (encL L h) cs:=by
 intro n
 induction n with
 | zero=>intro t L h;cases h
 | succ n ih=>
  intro t L hL fuel cs x hx;unfold xW at hL;split at hL
  ·rename_i ht
   injection hL with hL
   subst hL;obtain⟨b,rfl,_⟩:=DataW.trod_bool ht hx;exact⟨(b,()),⟨trivial,trivial⟩,.v rfl,trivial⟩
  ·rename_i k ht
   injection hL with hL
   subst hL;obtain⟨z,rfl,_,hw⟩:=DataW.trod_int ht hx;exact⟨(z,()),⟨hw,trivial⟩,.v rfl,trivial⟩
  ·rename_i ht
   injection hL with hL
   subst hL;obtain⟨s,rfl,_,hs⟩:=DataW.trod_string ht hx;exact⟨(s,()),⟨hs,trivial⟩,.v rfl,trivial⟩
  ·rename_i e ht;split at hL
   ·rename_i l hl;split at hL
    ·rename_i hsz
     injection hL with hL
     subst hL;rcases DataW.trod_slice ht hx with ⟨rfl,_⟩ | ⟨a,len,cap,elems,rest,m,_,rfl,_,_,hle,hmax,hel,hget,_,_⟩
     ·exact⟨([],()),⟨⟨Nat.zero_le _,fun x hx=>by cases hx⟩,trivial⟩,.sl (c:=[]) 1 (fun _ _=>undef) (fun i h=>by simp at h) (Nat.le_refl _) (Nat.zero_le _) (fun _=>rfl) (fun i j h=>by simp at h) (fun i j h=>by simp at h),trivial⟩
     ·have each:∀i:Fin len,∃p:HL den l×List Value,GoodL l p.1∧RelL w (encL l p.1) p.2∧w.cells? base (a.add (i.1*P.cellsOf e)) (P.cellsOf e)=some p.2:=by
       intro i;have h1:=hget i.1 i.2;rw[oGE (by omega)] at h1;obtain⟨cs',h2,h3⟩:=Option.bind_eq_some_iff.1 h1;obtain⟨h,g,r⟩:=ih _ _ hl _ _ _ h3;exact⟨(h,cs'),g,r,h2⟩
      obtain⟨f,hf⟩:=Classical.axiomOfChoice each
      have clen:∀i,(encL l (f i).1).length=l.length:=fun i=>by
       rw[(hf i).2.1.len,(World.cells?_some (hf i).2.2).2.1,hsz]
      have key:oc w (fun _=>True) (.sl ((List.ofFn fun i:Fin len=>qk l (f i).1).map (enc (Jq l)))) (.slice (some a) ((List.ofFn fun i:Fin len=>qk l (f i).1).map (enc (Jq l))).length cap):=by
       have el:((List.ofFn fun i:Fin len=>qk l (f i).1).map (enc (Jq l))).length=len:=by simp
       have eg:∀i (hi:i < ((List.ofFn fun i:Fin len=>qk l (f i).1).map (enc (Jq l))).length),((List.ofFn fun i:Fin len=>qk l (f i).1).map (enc (Jq l)))[i]=encL l (f ⟨i,by omega⟩).1:=by
        intro i hi;simp[HE]
       refine .sl l.length (fun i j=>if h:i < len then (f ⟨i,h⟩).2.getD j undef else undef) (fun i hi=>by rw[eg i hi,clen]) (by rw[el];exact hle) hmax (fun h=>by cases h) (fun i j hi hj=>?_) (fun i j hi hj=>?_)
       ·rw[el] at hi
        have cell:∀i' (hi':i' < len) j',j' < l.length→w.cell? ((a.add (i'*l.length)).add j')=some ((f ⟨i',hi'⟩).2.getD j' undef):=by
         intro i' hi' j' hj';have h1:=World.cells?_some (hf ⟨i',hi'⟩).2.2;have h2:=h1.2.2 j' (by omega);rw[hsz];rw[h2]
         have:j' < (f ⟨i',hi'⟩).2.length:=by rw[h1.2.1];omega
         simp[this]
        have h0:=World.cell?_spot (cell 0 (by omega) 0 (by omega));obtain⟨b,o,spot⟩:=a
        have hspot:spot=none:=by simpa [Addr.add] using h0
        subst hspot;refine⟨b,o,rfl,trivial,?_⟩;have h2:=cell i hi j hj;rw[Go.WideShapes.add_plain,Go.WideShapes.add_plain] at h2;rw[dif_pos hi,← h2,Nat.add_assoc]
       ·rw[el] at hi;have hr:=(hf ⟨i,hi⟩).2.1
        have hj2:j < (encL l (f ⟨i,hi⟩).1).length:=by rw[eg i (by omega)] at hj;exact hj
        have hj3:j < (f ⟨i,hi⟩).2.length:=by rw[← hr.len];exact hj2
        have h3:=hr.get j hj2 hj3
        have e1:(if h:i < len then (f ⟨i,h⟩).2.getD j undef else undef)=(f ⟨i,hi⟩).2[j]:=by
         rw[dif_pos hi];simp[hj3]
        simp only[e1];have e2:((List.ofFn fun i:Fin len=>qk l (f i).1).map (enc (Jq l)))[i]'(by omega)=encL l (f ⟨i,hi⟩).1:=eg i (by omega);simp only[e2];exact h3
      rw[List.length_map,List.length_ofFn] at key;refine⟨(List.ofFn fun i:Fin len=>qk l (f i).1,()),⟨⟨by rw[List.length_ofFn];omega,fun x hx=>?_⟩,trivial⟩,key,trivial⟩;obtain⟨i,rfl⟩:=List.mem_ofFn.1 hx;exact E1 _ _ (hf i).1
    ·cases hL
   ·cases hL
  ·rename_i fs ht;split at hL
   ·rename_i l hl;split at hL
    ·rename_i hsz
     injection hL with hL
     subst hL;obtain⟨xs,m,_,_,hlen,hxl,hf⟩:=DataW.trod_struct ht hx
     obtain⟨h,g,r⟩:=KT (cs:=cs) (m:=m) (fun t L hL cs x hx=>ih t L hL m cs x hx) fs.toList 0 l hl (by
      intro f hfm;obtain⟨i,hi,rfl⟩:=List.mem_iff_getElem.1 hfm
      have hi2:i < fs.size:=by simpa using hi
      have h1:=hf i fs[i] (by simp[hi2]);rw[oGE (by omega)] at h1
      exact⟨_,by simpa using h1⟩)
     refine⟨h,g,?_⟩;rw[List.drop_zero,hsz,← hlen,List.take_length] at r;exact r
    ·cases hL
   ·cases hL
  ·cases hL
theorem intake_arg(n:Nat) {t:TypeId}{L:List CT}{v:Value}{d:DataW H}{p:List MemPlace}(hL:xW P n t=some L) (h:DataW.Trod ec P w base spare held t v d p) :
 ∃h:HL den L,GoodL L h∧RelL w (encL L h) v.cells.toList:=by
 obtain⟨fuel,hf⟩:=h;exact Ps n t L hL fuel _ _ hf
end
theorem plain_one{w:World}{t:TV}{v:Value}(r:RelL w [t] [v]):GO w t v:=r.1.plain
section
variable {K:Int→Prop} {cs:List DCe} {ls:List DLn} {a t v:Int}
end
theorem Pu{h:den RI}(g:Jo RI h):(∀z∈(show List Int from h),Nt z)∧(show List Int from h).length≤maxLen:=⟨fun z hz=>bounds_i64 (g.2 z hz),g.1⟩
theorem Ou{bs ss:List Int}{key a:Int}(h:LV bs ss) (ha:W16 a):jl bs key ss a=some (match Jp bs ss a with | some (r,o)=>(r,o,true,()) | none=>(0,0,false,())):=by
 obtain⟨hs,hl,hr⟩:=h;obtain⟨a0,a1⟩:=ha;have hs4:=hs.2.1
 have key1:∀(n k N:Nat),k+n=bs.length→n < N→dQ eQ N (ss,a,bs,(bs.length:Int),(k:Int),bs,key,0,0,())=some (match Ft bs ss a n k with | some (r,o)=>.inl (true,r,o,()) | none=>.inr (ss,a,bs,(bs.length:Int),(bs.length:Int),false,bs,key,0,0,())):=by
  intro n
  induction n with
  | zero=>
   intro k N hk hN;obtain⟨N,rfl⟩:∃M,N=M+1:=⟨N - 1,by omega⟩
   obtain rfl:k=bs.length:=by omega
   have e:eQ (ss,a,bs,(bs.length:Int),(bs.length:Int),bs,key,0,0,())=some (.inr (.inr (ss,a,bs,(bs.length:Int),(bs.length:Int),false,bs,key,0,0,()))):=by
    refine eL ?_;unfold eQ;dsimp only
    (with_reducible refine dE (fun hca=>?_) fun hca=>?_)
    ·omega
    ·exact Ok.ret rfl
   simp only[dQ,e,oBS,Ft]
  | succ n ih=>
   intro k N hk hN;obtain⟨N,rfl⟩:∃M,N=M+1:=⟨N - 1,by omega⟩;obtain⟨b,hb⟩:∃b,bs[k]?=some b:=⟨_,oGE (by omega)⟩;obtain⟨z,hz⟩:∃z,ss[k]?=some z:=⟨_,oGE (by omega)⟩;have hz2:=hs.2.2 z (dN hz);have hrk:=hr k (by omega);unfold vz at hrk;rw[d9 hb,d9 hz] at hrk;by_cases hh:b≤a∧a < b+z
   ·have e:eQ (ss,a,bs,(bs.length:Int),(k:Int),bs,key,0,0,())=some (.inr (.inl (true,(k:Int),a - b,()))):=by
     refine eL ?_;unfold eQ;delta dK;dsimp only;rw[oDT (show (k:Int) < bs.length by omega),oDT (show (k:Int) < ss.length by omega),dL];simp only[oCT,oBS,show dH bs k=some b from hb,show dH ss k=some z from hz];rw[oDT (show a≥b by omega),dO (x:=a - b) (by omega) (by omega),oDT (show a - b < z by omega)];simp only[oCT,oBS];rw[dO (x:=a - b) (by omega) (by omega)];exact Ok.ret rfl
    simp only[dQ,e,oBS,Ft,d9 hb,d9 hz,oIP hh]
   ·have e:eQ (ss,a,bs,(bs.length:Int),(k:Int),bs,key,0,0,())=some (.inl (ss,a,bs,(bs.length:Int),((k+1:Nat):Int),bs,key,0,0,())):=by
     refine eL ?_;unfold eQ;delta dK;dsimp only;rw[oDT (show (k:Int) < bs.length by omega),oDT (show (k:Int) < ss.length by omega),dL];simp only[oCT,oBS,show dH bs k=some b from hb,show dH ss k=some z from hz];by_cases h1:a≥b
     ·rw[oDT h1,dO (x:=a - b) (by omega) (by omega),oDF (show ¬ a - b < z by omega)];simp only[oCT,oCF,oBS];rw[dO (x:=(k:Int)+1) (by omega) (by omega)];exact Ok.ret rfl
     ·rw[oDF h1];simp only[oCF,oBS];rw[dO (x:=(k:Int)+1) (by omega) (by omega)];exact Ok.ret rfl
    simp only[dQ,e,oBS,Ft,d9 hb,d9 hz,oIN hh];exact ih (k+1) N (by omega) (by omega)
 unfold jl Jp;delta dK
 try dsimp only
 rw[show dQ eQ NN (ss,a,bs,(bs.length:Int),0,bs,key,0,0,())=_ from key1 bs.length 0 NN (by omega) (by unfold NN;omega)]
 cases Ft bs ss a bs.length 0 with
 | some x=>rfl
 | none=>rfl
theorem DR{K:Int→Prop}{bs ss:List Int}{key:Int}{c:DCe}(h:LV bs ss) (hc:lT K c):iX bs key ss c.1 c.2=some ((oF bs ss key c).1,(oF bs ss key c).2.1,(oF bs ss key c).2.2.1,(oF bs ss key c).2.2.2,()):=by
 obtain⟨c0,c1,c2,c3,_⟩:=hc;unfold iX oF;rw[dT (x:=c.2) (by omega) (by omega)];dsimp only;rw[Ou h ⟨c2,c3⟩]
 rcases (show c.1=0∨c.1=1∨c.1=2 by omega) with e | e | e<;>rw[e]
 ·rfl
 ·simp only[Int.reduceBEq,Int.reduceEq,oCF,oCT,if_false,oBS]
  cases Jp bs ss c.2 with
  | some x=>rfl
  | none=>rfl
 ·rfl
theorem Pe{K:Int→Prop}{cs:List DCe}{ls:List DLn}{a:Int}(h:iL K cs ls) (ha:0≤a∧a < 512):o5 cs ls a=some ((sR cs ls a).1,(sR cs ls a).2,true,()):=by
 obtain⟨a0,a1⟩:=ha;obtain⟨h1,h2,h3,h4,_⟩:=id h;unfold o5 sR;delta dK;dsimp only;rw[oDF (show ¬ a < 0 by omega),oDF (show ¬ a≥512 by omega),oDF (show ¬ a≥(cs.length:Int) by omega)];simp only[oCF,oBS];rw[Int.tdiv_eq_ediv_of_nonneg a0,dO (x:=a / 4) (by omega) (by omega)];rw[Int.tmod_eq_emod_of_nonneg (show 0≤a / 4 by omega),Int.tmod_eq_emod_of_nonneg a0];obtain⟨i,hi⟩:∃i:Nat,a / 4 % 4=i:=⟨(a / 4 % 4).toNat,by omega⟩;rw[hi,dL,oTN];obtain⟨x,hx⟩:∃x,ls[i]?=some x:=⟨_,oGE (by omega)⟩;rw[oDT (show (i:Int) < ls.length by omega)];simp only[oCT,oBS,show dH ls i=some x from hx,hx];by_cases hq:x.1=a / 4
 ·rcases h4 i x hx with ⟨g,_,_⟩ | ⟨_,_,_,g4,g5⟩
  ·omega
  ·obtain⟨j,hj⟩:∃j:Nat,a % 4=j:=⟨(a % 4).toNat,by omega⟩;obtain⟨y,hy⟩:∃y,x.2.2[j]?=some y:=⟨_,oGE (by omega)⟩;rw[hj,oTN,oIP hq,getD_some hy,beq_iff_eq.2 hq,oDT (show (j:Int) < x.2.2.length by omega)];simp only[oCT,oBS,show dH ls i=some x from hx,dL];rw[Int.tmod_eq_emod_of_nonneg a0,hj,dL];simp only[oBS,show dH x.2.2 j=some y from hy]
 ·obtain⟨j,rfl⟩:∃j:Nat,a=j:=⟨a.toNat,by omega⟩;obtain⟨y,hy⟩:∃y,cs[j]?=some y:=⟨_,oGE (by omega)⟩;rw[oIN hq,oBF hq,oTN,getD_some hy];simp only[oCF,oBS,show dH cs j=some y from hy,dL]
theorem OS{bs ss:List Int}{key:Int}{r:Nat}{o b z:Int}(h:LV bs ss) (hb:bs[r]?=some b) (hz:ss[r]?=some z) (o0:0≤o) (o1:o < z) (bz:b+z≤512) (b0:0≤b):jm bs key ss (r:Int) o=some (b+o,0,()):=by
 have hr:=(oGS hz).1;have hr2:=(oGS hb).1;unfold jm mQ;delta dK;dsimp only;rw[oDT (show (r:Int)≥0 by omega),oDT (show (r:Int) < ss.length by omega),oDT (show o≥0 by omega),oDF (show ¬ (r:Int)≥bs.length by omega),dL];simp only[oCT,oCF,oBS,show dH ss r=some z from hz,show dH bs r=some b from hb];rw[oDT o1,dO (x:=b+o) (by omega) (by omega)];rfl
theorem GA{K:Int→Prop}{bs ss:List Int}{key:Int}{cs:List DCe}{ls:List DLn}(h:LV bs ss) (hm:iL K cs ls):j8 cs ls bs key ss=some (rH bs ss key cs ls,()):=by
 have hs4:=h.1.2.1
 have e0:∀(r:Nat) (b z:Int),bs[r]?=some b→ss[r]?=some z→1≤z→z≤32→0≤b→b+z≤512→∀(a1 a2 a3:_) (out:List (List DCn)),dQ gd NN (ss,(r:Int),a1,a2,a3,z,0,cs,ls,bs,key,out,[],())=some (ss,(r:Int),a1,a2,a3,z,z,false,cs,ls,bs,key,out,Io bs ss key cs ls r,()):=by
  intro r b z hb hz z1 z32 b0 bz a1 a2 a3 out;obtain⟨n,rfl⟩:∃n:Nat,z=n:=⟨z.toNat,by omega⟩
  have e:Io bs ss key cs ls r=(List.range n).map (Ma bs ss key cs ls r):=by unfold Io;rw[d9 hz,oTN]
  rw[e];refine mH (f:=gd) (N:=NN) (st:=fun o=>(ss,(r:Int),a1,a2,a3,(n:Int),(o:Int),cs,ls,bs,key,out,(List.range o).map (Ma bs ss key cs ls r),())) (n:=n) (by unfold NN;omega) ?_ ?_
  ·intro o ho;unfold gd;dsimp only;rw[oDT (show (o:Int) < n by omega),OS h hb hz (by omega) (by omega) bz b0];simp only[oCT,oBS];have hlv:=(yf (a:=b+o) hm ⟨by omega,by omega⟩).2;rw[Pe hm ⟨by omega,by omega⟩];simp only[oBS];rw[DR h hlv];simp only[oBS];refine dF (dS (by simp;omega)) ?_;rw[dO (x:=(o:Int)+1) (by omega) (by omega)];refine Ok.ret ?_;rw[← iY];unfold Ma;rw[d9 hb];rfl
  ·unfold gd;dsimp only;rw[oDF (show ¬ (n:Int) < n by omega)];exact Ok.ret rfl
 have e1:dQ gc NN (ss,ss,(ss.length:Int),0,cs,ls,bs,key,[],())=some (ss,ss,(ss.length:Int),(ss.length:Int),false,cs,ls,bs,key,rH bs ss key cs ls,()):=by
  refine mH (f:=gc) (N:=NN) (st:=fun r=>(ss,ss,(ss.length:Int),(r:Int),cs,ls,bs,key,(List.range r).map (Io bs ss key cs ls),())) (n:=ss.length) (by unfold NN;omega) ?_ ?_
  ·intro r hr;obtain⟨b,z,hb,hz,z1,z32,b0,bz⟩:=h.at_ hr;unfold gc;dsimp only;rw[oDT (show (r:Int) < ss.length by omega),dL];simp only[oCT,oBS,show dH ss r=some z from hz];rw[e0 r b z hb hz z1 z32 b0 bz];simp only[oBS];refine dF (dS (by simp;omega)) ?_;rw[dO (x:=(r:Int)+1) (by omega) (by omega)];refine Ok.ret ?_;rw[← iY];rfl
  ·unfold gc;dsimp only;rw[oDF (show ¬ (ss.length:Int) < ss.length by omega)];exact Ok.ret rfl
 unfold j8;delta dK
 try dsimp only
 rw[e1];rfl
theorem Fc{n key:Int}{code:List DIn}{dt:List (List Int)}{bs ss:List Int}{cs:List DCe}{ls:List DLn}{ts:List DTh}(h:MOk n ss bs cs ls ts):fO code ss dt bs key cs ls ts=some (rH bs ss key cs ls,ts.map (lJ bs ss key),()):=by
 have h4:=h.tlen
 have e1:dQ fE NN (ts,(ts.length:Int),0,code,ss,dt,bs,key,cs,ls,ts,(),(),rH bs ss key cs ls,[],())=some (ts,(ts.length:Int),(ts.length:Int),false,code,ss,dt,bs,key,cs,ls,ts,(),(),rH bs ss key cs ls,ts.map (lJ bs ss key),()):=by
  have:=mH (f:=fE) (N:=NN) (st:=fun r=>(ts,(ts.length:Int),(r:Int),code,ss,dt,bs,key,cs,ls,ts,(),(),rH bs ss key cs ls,(ts.take r).map (lJ bs ss key),())) (n:=ts.length) (t:=(ts,(ts.length:Int),(ts.length:Int),false,code,ss,dt,bs,key,cs,ls,ts,(),(),rH bs ss key cs ls,ts.map (lJ bs ss key),())) (by unfold NN;omega) ?_ ?_
  ·exact this
  ·intro r hr;obtain⟨t,ht⟩:∃t,ts[r]?=some t:=⟨_,oGE (by omega)⟩;have hok:=h.thr t (dN ht);have h8:=hok.len;unfold fE;delta dK;dsimp only;rw[oDT (show (r:Int) < ts.length by omega),dL];simp only[oCT,oBS,show dH ts r=some t from ht]
   have e0:∀(a1 a2 a3 a4 a5 a6 a7 a8 a9 a10 a11 a12 a13 a14:_),dQ fF NN (ts,(ts.length:Int),(r:Int),t.2.1,(t.2.1.length:Int),0,code,ss,dt,bs,key,cs,ls,ts,(),(),rH bs ss key cs ls,(ts.take r).map (lJ bs ss key),a1,t.2.1,a2,a3,a4,a5,a6,a7,a8,a9,a10,a11,a12,a13,a14,[],()) =
    some (ts,(ts.length:Int),(r:Int),t.2.1,(t.2.1.length:Int),(t.2.1.length:Int),false,code,ss,dt,bs,key,cs,ls,ts,(),(),rH bs ss key cs ls,(ts.take r).map (lJ bs ss key),a1,t.2.1,a2,a3,a4,a5,a6,a7,a8,a9,a10,a11,a12,a13,a14,t.2.1.map (oF bs ss key),()):=by
    intro a1 a2 a3 a4 a5 a6 a7 a8 a9 a10 a11 a12 a13 a14
    have:=mH (f:=fF) (N:=NN) (st:=fun o=>(ts,(ts.length:Int),(r:Int),t.2.1,(t.2.1.length:Int),(o:Int),code,ss,dt,bs,key,cs,ls,ts,(),(),rH bs ss key cs ls,(ts.take r).map (lJ bs ss key),a1,t.2.1,a2,a3,a4,a5,a6,a7,a8,a9,a10,a11,a12,a13,a14,(t.2.1.take o).map (oF bs ss key),())) (n:=t.2.1.length)
     (t:=(ts,(ts.length:Int),(r:Int),t.2.1,(t.2.1.length:Int),(t.2.1.length:Int),false,code,ss,dt,bs,key,cs,ls,ts,(),(),rH bs ss key cs ls,(ts.take r).map (lJ bs ss key),a1,t.2.1,a2,a3,a4,a5,a6,a7,a8,a9,a10,a11,a12,a13,a14,t.2.1.map (oF bs ss key),())) (by unfold NN;omega) ?_ ?_
    ·exact this
    ·intro o ho;obtain⟨c,hc⟩:∃c,t.2.1[o]?=some c:=⟨_,oGE ho⟩;unfold fF;dsimp only;rw[oDT (show (o:Int) < t.2.1.length by omega),dL];simp only[oCT,oBS,show dH t.2.1 o=some c from hc];rw[DR h.lay (hok.regs c (dN hc))];simp only[oBS];refine dF (dS (by simp;omega)) ?_;rw[dO (x:=(o:Int)+1) (by omega) (by omega)];refine Ok.ret ?_;rw[← fJ (oF bs ss key) hc];rfl
    ·unfold fF;dsimp only;rw[oDF (show ¬ (t.2.1.length:Int) < t.2.1.length by omega),List.take_length];exact Ok.ret rfl
   rw[e0];simp only[oBS];refine dF (dS (by simp;omega)) ?_;rw[dO (x:=(r:Int)+1) (by omega) (by omega)];refine Ok.ret ?_;rw[← fJ (lJ bs ss key) ht];rfl
  ·unfold fE;dsimp only;rw[oDF (show ¬ (ts.length:Int) < ts.length by omega),List.take_length];exact Ok.ret rfl
 unfold fO;delta dK;simp only[GA h.lay h.mem,oBS];rw[e1];rfl
def flG(cs:List DCe) (ls:List DLn) (k a:Nat):Option DCe:=
 match ls[a / 4 % 4]? with
 | some x=>if a / 4 % 4 < k∧x.1=((a / 4:Nat):Int)∧x.2.1=true then x.2.2[a % 4]? else cs[a]?
 | none=>cs[a]?
theorem HA{cs:List DCe}{ls:List DLn}{k a:Nat}{x:DLn}(hx:ls[k]?=some x) (h:a / 4 % 4=k→¬ (x.1=((a / 4:Nat):Int)∧x.2.1=true)):flG cs ls (k+1) a=flG cs ls k a:=by
 unfold flG;by_cases hk:a / 4 % 4=k
 ·rw[hk,hx];dsimp only;rw[oIN (fun g=>h hk g.2),oIN (fun g=>absurd g.1 (Nat.lt_irrefl k))]
 ·cases ls[a / 4 % 4]? with
  | none=>rfl
  | some y=>
   dsimp only;by_cases h1:a / 4 % 4 < k
   ·by_cases h2:y.1=((a / 4:Nat):Int)∧y.2.1=true
    ·rw[oIP ⟨by omega,h2⟩,oIP ⟨h1,h2⟩]
    ·rw[oIN (fun g=>h2 g.2),oIN (fun g=>h2 g.2)]
   ·rw[oIN (fun g=>by have:=g.1;omega),oIN (fun g=>h1 g.1)]
theorem MI{K:Int→Prop}{cs:List DCe}{ls:List DLn}(h:iL K cs ls):Ok (mc cs ls) fun r=>∃cs',r=(cs',eK,())∧iL K cs' eK∧∀a:Nat,a < 512→cs'[a]?=flG cs ls 4 a:=by
 obtain⟨h1,h2,h3,h4,h5⟩:=id h;unfold mc;rw[Ff h];delta dK;simp only[oBS];rw[h3,show ((4:Nat):Int)=4 from rfl]
 refine Ok.loop (P:=fun s'=>∃(k:Nat) (cs':List DCe),s'=(ls,4,(k:Int),(),(),cs',ls,())∧k≤4∧cs'.length=512∧(∀c∈cs',lT K c)∧∀a:Nat,a < 512→cs'[a]?=flG cs ls k a)
  (R:=fun y=>∃cs',y=(ls,4,4,false,(),(),cs',ls,())∧cs'.length=512∧(∀c∈cs',lT K c)∧∀a:Nat,a < 512→cs'[a]?=flG cs ls 4 a) (m:=fun s'=>(4 - s'.2.2.1).toNat) ⟨0,cs,rfl,by omega,h1,h2,fun a ha=>?_⟩ (by unfold NN;dsimp only;omega) ?_ ?_
 ·unfold flG
  cases ls[a / 4 % 4]? with
  | none=>rfl
  | some x=>
   dsimp only;rw[oIN (fun g=>absurd g.1 (Nat.not_lt_zero _))]
 ·rintro _ ⟨k,cs',rfl,hk,c1,c2,c3⟩;unfold pW;dsimp only
  (with_reducible refine dE (fun hca=>?_) fun hca=>?_)
  ·obtain⟨x,hx⟩:∃x,ls[k]?=some x:=⟨_,oGE (by omega)⟩;rw[dL];simp only[oBS,show dH ls k=some x from hx];refine Ok.bind (P:=fun r=>∃cs'',r=(ls,4,(k:Int),(),(),cs'',ls,())∧cs''.length=512∧(∀c∈cs'',lT K c)∧∀a:Nat,a < 512→cs''[a]?=flG cs ls (k+1) a) ?_ ?_
   ·refine Ok.cond (fun hd=>?_) fun hd=>?_
    ·rcases h4 k x hx with ⟨_,g,_⟩ | ⟨g1,g2,g3,g4,g5⟩
     ·rw[g] at hd;cases hd
     ·rw[dO (x:=x.1*4) (by omega) (by omega)];refine Ok.nat (by omega) fun q hq=>?_;refine dF (by unfold hY;simp;omega) ?_;rw[g4,c1]
      have hmin:Nat.min 4 (Nat.sub 512 q)=4:=by
       show min 4 (512 - q)=4;omega
      rw[hmin];refine dF (by unfold hY;simp;omega) ?_;refine dF rfl ?_;obtain⟨s1,s2⟩:=Dt (lo:=q) (n:=4) c1 (by omega) (by omega) c2 g5;refine Ok.ret ⟨_,rfl,s1,s2,fun a ha=>?_⟩;by_cases hr:q≤a∧a < q+4
      ·obtain⟨o,rfl⟩:∃o,a=q+o:=⟨a - q,by omega⟩;rw[JA (by omega) g4 (by omega)];unfold flG;rw[show (q+o) / 4 % 4=k by omega,hx];dsimp only;rw[oIP ⟨by omega,by omega,hd⟩,show (q+o) % 4=o by omega]
      ·rw[AO (by omega) (by omega) (by omega),c3 a ha];exact (HA hx fun g hg=>by have:=hg.1;omega).symm
    ·exact Ok.ret ⟨_,rfl,c1,c2,fun a ha=>by rw[c3 a ha];exact (HA hx fun g hg=>by rw[hd] at hg;cases hg.2).symm⟩
   ·rintro _ ⟨cs'',rfl,d1,d2,d3⟩;dsimp only;rw[dO (x:=(k:Int)+1) (by omega) (by omega)];exact Ok.ret ⟨⟨k+1,cs'',rfl,by omega,d1,d2,d3⟩,by dsimp only;omega⟩
  ·obtain rfl:k=4:=by omega
   exact Ok.ret ⟨cs',rfl,c1,c2,c3⟩
 ·rintro _ ⟨cs',rfl,c1,c2,c3⟩;dsimp only;rw[C5];exact Ok.ret ⟨cs',rfl,yZ c1 c2,c3⟩
theorem II{K:Int→Prop}{cs cs':List DCe}{ls:List DLn}{a:Int}(h:iL K cs ls) (hf:∀a:Nat,a < 512→cs'[a]?=flG cs ls 4 a) (ha:0≤a∧a < 512):sR cs' eK a=sR cs ls a:=by
 obtain⟨n,rfl⟩:∃n:Nat,a=n:=⟨a.toNat,by omega⟩;obtain⟨h1,h2,h3,h4,h5⟩:=id h
 have hi:((n:Int) / 4 % 4).toNat=n / 4 % 4:=by omega
 have ho:((n:Int) % 4).toNat=n % 4:=by omega
 have hq:(n:Int) / 4=((n / 4:Nat):Int):=by omega
 have e1:sR cs' eK (n:Int)=cs'.getD n (0,0):=by
  unfold sR;rw[hi];obtain⟨i,hi'⟩:∃i,n / 4 % 4=i:=⟨_,rfl⟩
  have h4':i < 4:=by omega
  have hx:eK[i]?=some (-1,false,[]):=by
   match i,h4' with
   | 0,_=>rfl
   | 1,_=>rfl
   | 2,_=>rfl
   | 3,_=>rfl
  rw[hi',hx];dsimp only;rw[oIN (by omega),oTN]
 rw[e1,oGD,hf n (by omega)];unfold sR flG;rw[hi,ho,hq,oTN];obtain⟨x,hx⟩:∃x,ls[n / 4 % 4]?=some x:=⟨_,oGE (by omega)⟩;rw[hx];dsimp only;by_cases hx1:x.1=((n / 4:Nat):Int)
 ·rw[oIP hx1];by_cases hd:x.2.1=true
  ·rw[oIP ⟨by omega,hx1,hd⟩,oGD]
  ·rw[oIN (fun g=>hd g.2.2),oGD];rcases h5 _ x hx with g | g | g
   ·omega
   ·exact absurd g hd
   ·rw[← g (n % 4) (by omega),show (x.1*4).toNat+n % 4=n by omega]
 ·rw[oIN (fun g=>hx1 g.2.1),oIN hx1,oGD]
theorem Ki{K:Int→Prop}{bs ss:List Int}{key:Int}{cs cs':List DCe}{ls:List DLn}(hl:LV bs ss) (h:iL K cs ls) (hf:∀a:Nat,a < 512→cs'[a]?=flG cs ls 4 a):rH bs ss key cs' eK=rH bs ss key cs ls:=by
 unfold rH;refine List.map_congr_left fun r hr=>?_;have hr:=List.mem_range.1 hr;obtain⟨b,z,hb,hz,z1,z32,b0,bz⟩:=hl.at_ hr;unfold Io;refine List.map_congr_left fun o ho=>?_;have ho:=List.mem_range.1 ho;rw[d9 hz] at ho;unfold Ma;rw[d9 hb,II h hf ⟨by omega,by omega⟩]
theorem Ba{a:List DCn}(h:a.length≤1000):fm a a=some (true,()):=by
 have e:dQ gl NN (a,a,(a.length:Int),0,())=some (.inr (a,a,(a.length:Int),(a.length:Int),false,())):=by
  refine mH (st:=fun k=>(a,a,(a.length:Int),(k:Int),())) (n:=a.length) (by unfold NN;omega) ?_ ?_
  ·intro k hk;unfold gl;dsimp only;rw[oDT (show (k:Int) < a.length by omega),dL];simp only[oCT,oBS,show dH a k=some a[k] from oGE hk,BEq.rfl,Bool.and_self,oNT,oCF];rw[dO (x:=(k:Int)+1) (by omega) (by omega)];exact Ok.ret rfl
  ·unfold gl;dsimp only;rw[oDF (show ¬ (a.length:Int) < a.length by omega)];exact Ok.ret rfl
 unfold fm;delta dK;dsimp only;rw[e];simp only[bne_self_eq_false,oCF]
theorem Ik{rg:List (List DCn)}{vs:List DTs}(h1:rg.length≤1000) (h2:∀x∈rg,x.length≤1000) (h3:vs.length≤1000) (h4:∀v∈vs,v.2.2.2.2.2.2.2.length≤1000):jx rg vs rg vs=some (true,()):=by
 have e1:dQ jX NN ((rg.length:Int),0,rg,vs,rg,vs,())=some (.inr ((rg.length:Int),(rg.length:Int),false,rg,vs,rg,vs,())):=by
  refine mH (st:=fun k=>((rg.length:Int),(k:Int),rg,vs,rg,vs,())) (n:=rg.length) (by unfold NN;omega) ?_ ?_
  ·intro k hk;unfold jX;dsimp only;have hx:rg[k]?=some rg[k]:=oGE hk;rw[oDT (show (k:Int) < rg.length by omega),dL];simp only[oCT,oBS,show dH rg k=some rg[k] from hx];rw[Ba (h2 _ (dN hx))];simp only[oBS,oNT,oCF];rw[dO (x:=(k:Int)+1) (by omega) (by omega)];exact Ok.ret rfl
  ·unfold jX;dsimp only;rw[oDF (show ¬ (rg.length:Int) < rg.length by omega)];exact Ok.ret rfl
 have e2:dQ jW NN (vs,(vs.length:Int),0,rg,vs,rg,vs,())=some (.inr (vs,(vs.length:Int),(vs.length:Int),false,rg,vs,rg,vs,())):=by
  refine mH (st:=fun k=>(vs,(vs.length:Int),(k:Int),rg,vs,rg,vs,())) (n:=vs.length) (by unfold NN;omega) ?_ ?_
  ·intro k hk;unfold jW;dsimp only;have hx:vs[k]?=some vs[k]:=oGE hk;rw[oDT (show (k:Int) < vs.length by omega),dL];simp only[oCT,oBS,show dH vs k=some vs[k] from hx,bne_self_eq_false,oCF];rw[Ba (h4 _ (dN hx))];simp only[oBS,oNT,oCF];rw[dO (x:=(k:Int)+1) (by omega) (by omega)];exact Ok.ret rfl
  ·unfold jW;dsimp only;rw[oDF (show ¬ (vs.length:Int) < vs.length by omega)];exact Ok.ret rfl
 unfold jx;delta dK;dsimp only;rw[e1];dsimp only;rw[e2];simp only[bne_self_eq_false,oCF]
theorem Jg:o6=some (true,()):=by kernel_rfl
theorem caches_law{l:List Int}(hl:∀x∈l,Nt x) (hm:l.length≤maxLen):gP l=some (true,()):=by
 refine eL ?_;unfold gP;refine (IH (Dn hl hm)).bind ?_;rintro _ ⟨code,ss,dt,bs,key,cs,ls,ts,k',rfl,hp,hkey,hM,hd⟩;dsimp only;refine (MI hM.mem).bind ?_;rintro _ ⟨cs',rfl,hf,hg⟩;dsimp only;have hM':MOk 1152 ss bs cs' eK ts:=⟨hM.lay,hf,hM.tlen,hM.thr⟩;have hR:=Ki (key:=key) hM.lay hM.mem hg;have h4:=hM.tlen;have hs4:=hM.lay.1.2.1
 have hS:jx (rH bs ss key cs ls) (ts.map (lJ bs ss key)) (rH bs ss key cs ls) (ts.map (lJ bs ss key))=some (true,()):=by
  refine Ik (by unfold rH;rw[List.length_map,List.length_range];omega) (fun x hx=>?_) (by rw[List.length_map];omega) fun v hv=>?_
  ·unfold rH at hx;obtain⟨r,hr,rfl⟩:=List.mem_map.1 hx;obtain⟨b,z,hb,hz,z1,z32,b0,bz⟩:=hM.lay.at_ (List.mem_range.1 hr);unfold Io;rw[List.length_map,List.length_range,d9 hz];omega
  ·obtain⟨t,ht,rfl⟩:=List.mem_map.1 hv;have:=(hM.thr t ht).len;unfold lJ;dsimp only;rw[List.length_map];omega
 rw[Fc hM,Fc hM',hR,GY hM];simp only[oBS];rw[hS];simp only[oBS,oCT,Jg];exact Ok.ret rfl
theorem law_CanonicalCaches{h0:HL den [RI]}(g0:GoodL _ h0):kx.g (appL _ _ h0 ())=some (true,()):=
 caches_law (Pu g0.1).1 (Pu g0.1).2
end Go.Proofs.YtdcpgpngdcfhhaaGreat
