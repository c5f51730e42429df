/- Part of the proof; no condition. -/
import Derived.Test.YtbapcamohngjbaaGreatSe
import Derived.Deep.Slices
set_option linter.unusedVariables false
set_option linter.unusedSimpArgs false
namespace Go.Proofs.YtbapcamohngjbaaGreat
open Go.RowKit
def xU(v:DTs):List DCn:=v.2.2.2.2.2.2.2
def thF(bs:List Int) (key:Int) (v:DTs):DTh:=(v.1,(xU v).map (zl bs key),v.2.1,v.2.2.1,v.2.2.2.1,v.2.2.2.2.1,v.2.2.2.2.2.1,v.2.2.2.2.2.2.1)
theorem BS{n:Int}{ss:List Int}{vs:List DTs}(hs:vN ss) (hl:vs.length=4) (h:∀v∈vs,OY n ss v) (hn:n<=1099511627776):jZ vs=some (true,()):=by
 have e:dR gk NN (vs,vs,(vs.length:Int),0,())=some (.inr (vs,vs,(vs.length:Int),(vs.length:Int),false,())):=by
  refine my (f:=gk) (N:=NN) (st:=λk=>(vs,vs,(vs.length:Int),(k:Int),())) (n:=vs.length) (by unfold NN;omega) ?_ ?_
  ·intro k hk;obtain⟨v,hv⟩:∃v,vs[k]?=some v:=⟨_,oGE hk⟩;obtain⟨⟨a1,a2⟩,⟨b1,b2⟩,⟨c1,c2⟩,⟨d1,d2⟩,⟨e1,e2⟩,⟨f1,f2⟩,_,hl8,hr⟩:=h v (dN hv);unfold gk;delta dM;dsimp only;rw[oDT (show (k:Int) < vs.length by omega),dK];simp only[oCT,oBS,show dI vs k=some v from hv];rw[oDT (show v.1>=0 from a1),oDT a2,oDT (show v.2.1>=0 from b1),oDT b2,oDT (show v.2.2.1>=0 from c1),oDT (show v.2.2.1<=1099511627776 by omega),oDT (show v.2.2.2.1>=-1 from d1),oDT d2,oDT (show v.2.2.2.2.1>=-1 from e1),oDT e2,oDT (show v.2.2.2.2.2.1>=0 from f1),oDT f2];simp only[oCT,oCF,oBS,oNT];rw[hl8,jK (n:=8) hs hr (by omega) (by omega)];simp only[show (((8:Nat):Int) != 8)=false from rfl,oCF,oBS,oNT];rw[dP (x:=(k:Int)+1) (by omega) (by omega)];exact Ok.ret rfl
  ·unfold gk;dsimp only;rw[oDF (show ¬ (vs.length:Int) < vs.length by omega)];exact Ok.ret rfl
 unfold jZ;delta dM;dsimp only;rw[e];dsimp only;rw[hl];rfl
theorem Gj{n:Int}{code:List DIn}{ss:List Int}{dt:List (List Int)}{rg:List (List DCn)}{vs:List DTs}(hp:kG code ss dt) (h:BK n ss rg vs) (hn:n<=1099511627776):lT code ss dt rg vs=some (true,()):=by
 have h4:=hp.sz.2.1;have hl:=h.rlen
 have e:dR hY NN (rg,(rg.length:Int),0,code,ss,dt,rg,vs,())=some (.inr (rg,(rg.length:Int),(rg.length:Int),false,code,ss,dt,rg,vs,())):=by
  refine my (f:=hY) (N:=NN) (st:=λk=>(rg,(rg.length:Int),(k:Int),code,ss,dt,rg,vs,())) (n:=rg.length) (by unfold NN;omega) ?_ ?_
  ·intro k hk;obtain⟨x,hx⟩:∃x,rg[k]?=some x:=⟨_,oGE hk⟩;obtain⟨z,hz⟩:∃z,ss[k]?=some z:=⟨_,oGE (by omega)⟩;have hf:=h.fit k x z hx hz;have hz2:=hp.sz.2.2 z (dN hz);unfold hY;delta dM;dsimp only;rw[oDT (show (k:Int) < rg.length by omega),dK];simp only[oCT,oBS,show dI rg k=some x from hx,show dI ss k=some z from hz,hf,bne_self_eq_false,oCF];rw[jK (n:=32) hp.sz (h.cells x (dN hx)) (by omega) (by omega)];simp only[oBS,oNT,oCF];rw[dP (x:=(k:Int)+1) (by omega) (by omega)];exact Ok.ret rfl
  ·unfold hY;dsimp only;rw[oDF (show ¬ (rg.length:Int) < rg.length by omega)];exact Ok.ret rfl
 unfold lT;delta dM;rw[BE hp,BS hp.sz h.vlen h.views hn];simp only[oBS,bne_self_eq_false,oCF,oNT];rw[show ((rg.length:Int) != (ss.length:Int))=false by rw[hl];simp];simp only[oCF,oBS];rw[e]
theorem Ha{rg:List (List DCn)}{vs:List DTs}(h1:rg.length<=1000) (h2:vs.length<=1000):lS rg vs=some (rg++vs.map xU,()):=by
 have e:dR hU NN (vs,(vs.length:Int),0,rg,vs,rg,())=some (vs,(vs.length:Int),(vs.length:Int),false,rg,vs,rg++vs.map xU,()):=by
  have:=my (f:=hU) (N:=NN) (st:=λk=>(vs,(vs.length:Int),(k:Int),rg,vs,rg++(vs.take k).map xU,())) (n:=vs.length) (t:=(vs,(vs.length:Int),(vs.length:Int),false,rg,vs,rg++vs.map xU,())) (by unfold NN;omega) ?_ ?_
  ·simpa using this
  ·intro k hk;obtain⟨v,hv⟩:∃v,vs[k]?=some v:=⟨_,oGE hk⟩;unfold hU;dsimp only;rw[oDT (show (k:Int) < vs.length by omega),dK];simp only[oCT,oBS,show dI vs k=some v from hv];refine dG (dS (by simp;omega)) ?_;rw[dP (x:=(k:Int)+1) (by omega) (by omega)];refine Ok.ret ?_;rw[<- fM xU hv,<- List.append_assoc];rfl
  ·unfold hU;dsimp only;rw[oDF (show ¬ (vs.length:Int) < vs.length by omega),List.take_length];exact Ok.ret rfl
 unfold lS;rw[dS (show 24<=1000/\0+rg.length<=1000000 by omega)];delta dM;simp only[oCT];rw[show List.append [] rg=rg from rfl,e];rfl
theorem LV.apart{bs ss:List Int}(h:LV bs ss) {r r':Nat}{b z b' z' o o':Int}(hne:r≠r') (hb:bs[r]?=some b) (hz:ss[r]?=some z) (hb':bs[r']?=some b') (hz':ss[r']?=some z') (h0:0<=o) (h1:o < z) (h0':0<=o') (h1':o' < z'):b+o≠b'+o':=by
 obtain⟨_,hl,hg⟩:=h;have l1:=(oGS hb).1;have l2:=(oGS hb').1;have g1:=hg r l1;have g2:=hg r' l2;unfold nQ at g1 g2;rw[dW hb,dW hz] at g1;rw[dW hb',dW hz'] at g2;by_cases hlt:r' < r
 ·have:=g1.2.2 r' hlt;rw[dW hb',dW hz'] at this;omega
 ·have:=g2.2.2 r (by omega);rw[dW hb,dW hz] at this;omega
def Ow(bs:List Int) (key:Int) (rg:List (List DCn)) (cs:List DCe) (r o:Nat):Prop:=∀(r' o':Nat) (x:List DCn) (c:DCn) (b:Int),rg[r']?=some x->x[o']?=some c->bs[r']?=some b->(r' < r\/(r'=r/\o' < o))->cs[(b+o').toNat]?=some (zl bs key c)
set_option maxHeartbeats 4000000 in
theorem JB{n key:Int}{code:List DIn}{ss bs:List Int}{dt:List (List Int)}{rg:List (List DCn)}{vs:List DTs}(hp:kG code ss dt) (hL:LV bs ss) (h:BK n ss rg vs) (hn:n<=1099511627776) :
 Ok (kU code ss dt bs key rg vs) λr=>∃cs,r=(bs,key,cs,eK,vs.map (thF bs key),true,())/\MOk n ss bs cs eK (vs.map (thF bs key))/\Ow bs key rg cs ss.length 0:=by
 have h4:=hp.sz.2.1;have hbl:=hL.2.1;have hrl:=h.rlen;have hvl:=h.vlen;unfold kU;delta dM;rw[Gj hp h hn,qy hL,Ha (by omega) (by omega),Bw];simp only[oBS,oNT,oCF]
 have hall:∀x∈rg++vs.map xU,x.length<=100/\∀c∈x,Pr ss c:=by
  intro x hx;rcases List.mem_append.1 hx with hx | hx
  ·obtain⟨j,hj⟩:=List.getElem?_of_mem hx;have:=(oGS hj).1;obtain⟨z,hz⟩:∃z,ss[j]?=some z:=⟨_,oGE (by omega)⟩;have:=h.fit j x z hj hz;have:=hp.sz.2.2 z (dN hz);exact⟨by omega,h.cells x hx⟩
  ·obtain⟨v,hv,rfl⟩:=List.mem_map.1 hx;have:=h.views v hv;exact⟨by unfold xU;rw[this.len];omega,this.regs⟩
 have hll:(rg++vs.map xU).length<=100:=by rw[List.length_append,List.length_map];omega
 generalize rg++vs.map xU=lst at hall hll
 have e1:dR gI NN ((lst.length:Int),0,code,ss,dt,bs,key,rg,vs,(),0,(),(),(),lst,())=some (.inr ((lst.length:Int),(lst.length:Int),false,code,ss,dt,bs,key,rg,vs,(),0,(),(),(),lst,())):=by
  refine my (f:=gI) (N:=NN) (st:=λk=>((lst.length:Int),(k:Int),code,ss,dt,bs,key,rg,vs,(),0,(),(),(),lst,())) (n:=lst.length) (by unfold NN;omega) ?_ ?_
  ·intro k hk;obtain⟨x,hx⟩:∃x,lst[k]?=some x:=⟨_,oGE hk⟩;obtain⟨hxl,hxc⟩:=hall x (dN hx)
   have e0:dR gJ NN ((lst.length:Int),(k:Int),x,(x.length:Int),0,code,ss,dt,bs,key,rg,vs,(),0,(),(),(),lst,())=some (.inr ((lst.length:Int),(k:Int),x,(x.length:Int),(x.length:Int),false,code,ss,dt,bs,key,rg,vs,(),0,(),(),(),lst,())):=by
    refine my (f:=gJ) (N:=NN) (st:=λo=>((lst.length:Int),(k:Int),x,(x.length:Int),(o:Int),code,ss,dt,bs,key,rg,vs,(),0,(),(),(),lst,())) (n:=x.length) (by unfold NN;omega) ?_ ?_
    ·intro o ho;obtain⟨c,hc⟩:∃c,x[o]?=some c:=⟨_,oGE ho⟩;unfold gJ;dsimp only;rw[oDT (show (o:Int) < x.length by omega),dK];simp only[oCT,oBS,show dI x o=some c from hc,mO (hxc c (dN hc)),oNT,oCF];rw[dP (x:=(o:Int)+1) (by omega) (by omega)];exact Ok.ret rfl
    ·unfold gJ;dsimp only;rw[oDF (show ¬ (x.length:Int) < x.length by omega)];exact Ok.ret rfl
   unfold gI;delta dM;dsimp only;rw[oDT (show (k:Int) < lst.length by omega),dK];simp only[oCT,oBS,show dI lst k=some x from hx,e0];rw[dP (x:=(k:Int)+1) (by omega) (by omega)];exact Ok.ret rfl
  ·unfold gI;dsimp only;rw[oDF (show ¬ (lst.length:Int) < lst.length by omega)];exact Ok.ret rfl
 rw[e1];dsimp only;refine dG (dS (by omega)) (dG (by decide) ?_);rw[show List.append [] bs=bs from rfl]
 refine Ok.loop (P:=λs'=>∃(r:Nat),∃cs,s'=(rg,(rg.length:Int),(r:Int),code,ss,dt,bs,key,rg,vs,(),0,(),(),(),bs,key,cs,eK,(),())/\r<=rg.length/\cs.length=512/\(∀c∈cs,m9 (RK bs ss) c)/\Ow bs key rg cs r 0)
  (R:=λy=>∃a b c f cs,y=(a,b,c,f,code,ss,dt,bs,key,rg,vs,(),0,(),(),(),bs,key,cs,eK,(),())/\cs.length=512/\(∀c∈cs,m9 (RK bs ss) c)/\Ow bs key rg cs ss.length 0) (m:=λs'=>(s'.2.1 - s'.2.2.1).toNat)
  ⟨0,_,rfl,by omega,List.length_replicate,λc hc=>by rw[List.eq_of_mem_replicate hc];exact lD (by decide),λr' o' x c b _ _ _ hlt=>by omega⟩ (by unfold NN;dsimp only;omega) ?_ ?_
 ·rintro _ ⟨r,cs,rfl,hr,hc1,hc2,hI⟩;unfold nT;delta dM;dsimp only
  (with_reducible refine dF (λhca=>?_) λhca=>?_)
  ·obtain⟨x,hx⟩:∃x,rg[r]?=some x:=⟨_,oGE (by omega)⟩;obtain⟨b,z,hb,hz,z1,z32,b0,bz⟩:=hL.at_ (r:=r) (by omega);have hf:=h.fit r x z hx hz;have hxc:=h.cells x (dN hx);rw[dK];simp only[oBS,show dI rg r=some x from hx]
   refine Ok.loop (P:=λs'=>∃(o:Nat),∃cs,s'=((r:Int),rg,(rg.length:Int),(r:Int),x,(x.length:Int),(o:Int),code,ss,dt,bs,key,rg,vs,(),0,(),(),(),bs,key,cs,eK,(),())/\o<=x.length/\cs.length=512/\(∀c∈cs,m9 (RK bs ss) c)/\Ow bs key rg cs r o)
    (R:=λy=>∃a2 a3 a4 f cs,y=((r:Int),rg,(rg.length:Int),(r:Int),a2,a3,a4,f,code,ss,dt,bs,key,rg,vs,(),0,(),(),(),bs,key,cs,eK,(),())/\cs.length=512/\(∀c∈cs,m9 (RK bs ss) c)/\Ow bs key rg cs (r+1) 0) (m:=λs'=>(s'.2.2.2.2.2.1 - s'.2.2.2.2.2.2.1).toNat) ⟨0,cs,rfl,by omega,hc1,hc2,hI⟩ (by unfold NN;dsimp only;omega) ?_ ?_
   ·rintro _ ⟨o,cs,rfl,ho,hc1,hc2,hI⟩;unfold nU;dsimp only
    (with_reducible refine dF (λhcb=>?_) λhcb=>?_)
    ·obtain⟨c,hc⟩:∃c,x[o]?=some c:=⟨_,oGE (by omega)⟩;obtain⟨hr1,hr2⟩:=wm (key:=key) hL (hxc c (dN hc));simp only[dK,oBS,show dI x o=some c from hc,show dI bs r=some b from hb,hr1];rw[dP (x:=b+o) (by omega) (by omega),dP (x:=(o:Int)+1) (by omega) (by omega)];obtain⟨a,ha⟩:∃a:Nat,b+o=a:=⟨(b+o).toNat,by omega⟩;obtain⟨y,hy⟩:∃y,cs[a]?=some y:=⟨_,oGE (by omega)⟩;rw[ha,dK];simp only[oBS,show dI cs a=some y from hy,eq hy];refine Ok.ret ⟨⟨o+1,_,rfl,by omega,by rw[List.length_set];exact hc1,iK hc2 hr2,λr' o' x' c' b' h1 h2 h3 hlt=>?_⟩,by dsimp only;omega⟩;by_cases e:r'=r/\o'=o
     ·obtain⟨rfl,rfl⟩:=e;rw[hx] at h1;cases h1;rw[hc] at h2;cases h2;rw[hb] at h3;cases h3;rw[ha,oTN];exact gN (by omega) _
     ·have hr'l:=(oGS h1).1;obtain⟨b2,z2,hb2,hz2,_,_,b20,b2z⟩:=hL.at_ (r:=r') (by omega)
      have h3':b2=b':=by rw[hb2] at h3;injection h3
      subst h3';have hf2:=h.fit r' x' z2 h1 hz2;have ho'l:=(oGS h2).1
      have hne:(b2+o').toNat≠a:=by
       by_cases er:r'=r
       ·subst er;rw[hb] at hb2;cases hb2;omega
       ·have:=hL.apart er hb2 hz2 hb hz (o:=o') (o':=o) (by omega) (by omega) (by omega) (by omega);omega
      rw[kL (λe=>hne e.symm)];exact hI r' o' x' c' b2 h1 h2 hb2 (by omega)
    ·refine Ok.ret ⟨_,_,_,_,cs,rfl,hc1,hc2,λr' o' x' c' b' h1 h2 h3 hlt=>hI r' o' x' c' b' h1 h2 h3 ?_⟩;by_cases er:r'=r
     ·subst er;rw[hx] at h1;cases h1;have:=(oGS h2).1;omega
     ·omega
   ·rintro _ ⟨a2,a3,a4,f,cs,rfl,hc1,hc2,hI⟩;dsimp only;rw[dP (x:=(r:Int)+1) (by omega) (by omega)];exact Ok.ret ⟨⟨r+1,cs,rfl,by omega,hc1,hc2,hI⟩,by dsimp only;omega⟩
  ·obtain rfl:r=ss.length:=by omega
   exact Ok.ret ⟨_,_,_,_,cs,rfl,hc1,hc2,hI⟩
 rintro _ ⟨a,b,c,f,cs,rfl,hc1,hc2,hI⟩;dsimp only
 have e5:dR gG NN (vs,(vs.length:Int),0,code,ss,dt,bs,key,rg,vs,(),0,(),(),(),bs,key,cs,eK,[],())=some (vs,(vs.length:Int),(vs.length:Int),false,code,ss,dt,bs,key,rg,vs,(),0,(),(),(),bs,key,cs,eK,vs.map (thF bs key),()):=by
  have:=my (f:=gG) (N:=NN) (st:=λk=>(vs,(vs.length:Int),(k:Int),code,ss,dt,bs,key,rg,vs,(),0,(),(),(),bs,key,cs,eK,(vs.take k).map (thF bs key),())) (n:=vs.length) (t:=(vs,(vs.length:Int),(vs.length:Int),false,code,ss,dt,bs,key,rg,vs,(),0,(),(),(),bs,key,cs,eK,vs.map (thF bs key),())) (by unfold NN;omega) ?_ ?_
  ·exact this
  ·intro k hk;obtain⟨v,hv⟩:∃v,vs[k]?=some v:=⟨_,oGE hk⟩;have hvo:=h.views v (dN hv);have h8:=hvo.len;unfold gG;delta dM;dsimp only;rw[oDT (show (k:Int) < vs.length by omega),dK];simp only[oCT,oBS,show dI vs k=some v from hv]
   have e4:∀(a1 a2 a3 a4 a5 a6 a7 a8 b1 b2 b3 b4 b5 b6 b7:_),dR gH NN (vs,(vs.length:Int),(k:Int),v.2.2.2.2.2.2.2,(v.2.2.2.2.2.2.2.length:Int),0,code,ss,dt,bs,key,rg,vs,(),0,(),(),(),bs,key,cs,eK,(vs.take k).map (thF bs key),a1,a2,a3,a4,a5,a6,a7,a8,b1,[],b2,b3,b4,b5,b6,b7,()) =
    some (vs,(vs.length:Int),(k:Int),v.2.2.2.2.2.2.2,(v.2.2.2.2.2.2.2.length:Int),(v.2.2.2.2.2.2.2.length:Int),false,code,ss,dt,bs,key,rg,vs,(),0,(),(),(),bs,key,cs,eK,(vs.take k).map (thF bs key),a1,a2,a3,a4,a5,a6,a7,a8,b1,v.2.2.2.2.2.2.2.map (zl bs key),b2,b3,b4,b5,b6,b7,()):=by
    intro a1 a2 a3 a4 a5 a6 a7 a8 b1 b2 b3 b4 b5 b6 b7
    have:=my (f:=gH) (N:=NN) (st:=λo=>(vs,(vs.length:Int),(k:Int),v.2.2.2.2.2.2.2,(v.2.2.2.2.2.2.2.length:Int),(o:Int),code,ss,dt,bs,key,rg,vs,(),0,(),(),(),bs,key,cs,eK,(vs.take k).map (thF bs key),a1,a2,a3,a4,a5,a6,a7,a8,b1,(v.2.2.2.2.2.2.2.take o).map (zl bs key),b2,b3,b4,b5,b6,b7,())) (n:=v.2.2.2.2.2.2.2.length)
     (t:=(vs,(vs.length:Int),(k:Int),v.2.2.2.2.2.2.2,(v.2.2.2.2.2.2.2.length:Int),(v.2.2.2.2.2.2.2.length:Int),false,code,ss,dt,bs,key,rg,vs,(),0,(),(),(),bs,key,cs,eK,(vs.take k).map (thF bs key),a1,a2,a3,a4,a5,a6,a7,a8,b1,v.2.2.2.2.2.2.2.map (zl bs key),b2,b3,b4,b5,b6,b7,())) (by unfold NN;omega) ?_ ?_
    ·exact this
    ·intro o ho;obtain⟨c,hc⟩:∃c,v.2.2.2.2.2.2.2[o]?=some c:=⟨_,oGE ho⟩;unfold gH;dsimp only;rw[oDT (show (o:Int) < v.2.2.2.2.2.2.2.length by omega),dK];simp only[oCT,oBS,show dI v.2.2.2.2.2.2.2 o=some c from hc];rw[(wm (key:=key) hL (hvo.regs c (dN hc))).1];simp only[oBS];refine dG (dS (by simp;omega)) ?_;rw[dP (x:=(o:Int)+1) (by omega) (by omega)];refine Ok.ret ?_;rw[<- fM (zl bs key) hc];rfl
    ·unfold gH;dsimp only;rw[oDF (show ¬ (v.2.2.2.2.2.2.2.length:Int) < v.2.2.2.2.2.2.2.length by omega),List.take_length];exact Ok.ret rfl
   rw[e4];simp only[oBS];refine dG (dS (by simp;omega)) ?_;rw[dP (x:=(k:Int)+1) (by omega) (by omega)];refine Ok.ret ?_;rw[<- fM (thF bs key) hv];rfl
  ·unfold gG;dsimp only;rw[oDF (show ¬ (vs.length:Int) < vs.length by omega),List.take_length];exact Ok.ret rfl
 rw[e5];refine Ok.ret ⟨cs,rfl,⟨hL,Dx hc1 hc2,by rw[List.length_map];exact hvl,λt ht=>?_⟩,hI⟩;obtain⟨v,hv,rfl⟩:=List.mem_map.1 ht;have hvo:=h.views v hv;refine⟨hvo.state,by unfold thF;dsimp only;rw[List.length_map];exact hvo.len,λc hc=>?_,hvo.pc,hvo.count,hvo.handler,hvo.saved,hvo.trap,hvo.code⟩;unfold thF at hc;dsimp only at hc;obtain⟨c',hc',rfl⟩:=List.mem_map.1 hc;exact (wm hL (hvo.regs c' hc')).2
theorem MZ{l:List Int}{k n:Int}(h:DOk l k) (hn:0 < n) (hn2:n<=9223372036854775807):Ok (dL n l k) λr=>∃v k',r=(v,l,k',())/\0<=v/\v < n/\DOk l k':=by
 have:Ok ((dL n l k).bind some) λr=>∃v k',r=(v,l,k',())/\0<=v/\v < n/\DOk l k':=fu h hn hn2 λv k' h0 h1 h2=>Ok.ret ⟨_,_,rfl,h0,h1,h2⟩;simpa using this
theorem BK.setReg{n:Int}{ss:List Int}{rg:List (List DCn)}{vs:List DTs}{r o:Nat}{x:List DCn}{c:DCn}(h:BK n ss rg vs) (hx:rg[r]?=some x) (hc:Pr ss c):BK n ss (rg.set r (x.set o c)) vs:=by
 refine⟨by rw[List.length_set];exact h.rlen,λj y z hy hz=>?_,iK h.cells (iK (h.cells x (dN hx)) hc),h.vlen,h.views⟩;by_cases e:r=j
 ·subst e;rw[show (rg.set r (x.set o c))[r]?=some (x.set o c) from gN (oGS hx).1 _] at hy;cases hy;rw[List.length_set];exact h.fit r x z hx hz
 ·rw[kL e] at hy;exact h.fit j y z hy hz
theorem BK.setView{n:Int}{ss:List Int}{rg:List (List DCn)}{vs:List DTs}{k:Nat}{v:DTs}(h:BK n ss rg vs) (hv:OY n ss v):BK n ss rg (vs.set k v):=
 ⟨h.rlen,h.fit,h.cells,by rw[List.length_set];exact h.vlen,iK h.views hv⟩
set_option maxHeartbeats 4000000 in
theorem G9{l:List Int}{k:Int}(h:DOk l k):Ok (la l k) λr=>∃code ss dt bs key cs ls ts k',r=(code,ss,dt,bs,key,cs,ls,ts,l,k',())/\kG code ss dt/\W16 key/\MOk 1152 ss bs cs ls ts/\DOk l k':=by
 unfold la;refine (NT h).bind ?_;rintro _ ⟨code,ss,dt,bs,key,cs,ls,ts,ck,rn,ins,d,os,us,ow,qs,rec,js,k1,rfl,hkey,hR,h1⟩;dsimp only;have hp:=hR.prog;have hM:=hR.mach;have hL:=hM.lay;have hs1:=hp.sz.1;obtain⟨_,en,v,k2,rfl,v0,v1,h2⟩:=MZ (n:=3) h1 (by decide) (by decide);rw[en];simp only[oBS];by_cases hv:v=0
 ·simp only[beq_iff_eq.2 hv,oCT,Km (code:=code) (dt:=dt) hM,oBS];have hS:=Kl (key:=key) hM;generalize DQ bs ss key cs ls=rg at hS;generalize ts.map (tH bs ss key)=vs at hS;obtain⟨x,hx⟩:∃x,rg[0]?=some x:=⟨_,oGE (by have:=hS.rlen;omega)⟩
  have hxl:x.length<=32:=by
   obtain⟨z,hz⟩:∃z,ss[0]?=some z:=⟨_,oGE (by omega)⟩;have:=hS.fit 0 x z hx hz;have:=hp.sz.2.2 z (dN hz);omega
  delta dM;simp only[show dI rg 0=some x from hx,oBS]
  obtain⟨y,e,rg',k3,a,b,rfl,hS3,h3⟩:=fS (f:=kK) (n:=NN) (s:=((x.length:Int),0,l,k2,(),(),(),(),0,(),(),(),code,ss,dt,bs,key,cs,ls,ts,ck,rn,ins,d,os,us,ow,qs,rec,js,bs,key,cs,ls,ts,rg,vs,()))
   (P:=λs'=>∃(q:Nat) (k':Int) (rg':List (List DCn)) (x':List DCn),s'=((x.length:Int),(q:Int),l,k',(),(),(),(),0,(),(),(),code,ss,dt,bs,key,cs,ls,ts,ck,rn,ins,d,os,us,ow,qs,rec,js,bs,key,cs,ls,ts,rg',vs,())/\DOk l k'/\BK 1152 ss rg' vs/\rg'[0]?=some x'/\x'.length=x.length)
   (R:=λy=>∃rg' k' a b,y=(a,b,false,l,k',(),(),(),(),0,(),(),(),code,ss,dt,bs,key,cs,ls,ts,ck,rn,ins,d,os,us,ow,qs,rec,js,bs,key,cs,ls,ts,rg',vs,())/\BK 1152 ss rg' vs/\DOk l k') (m:=λs'=>(s'.1 - s'.2.1).toNat) ⟨0,k2,rg,x,rfl,h2,hS,hx,rfl⟩ (by unfold NN;dsimp only;omega) (by
    rintro _ ⟨q,k',rg',x',rfl,hd,hS',hx',hxl'⟩;unfold kK;dsimp only
    (with_reducible refine dF (λhca=>?_) λhca=>?_)
    ·refine Ok.bind (P:=λr=>∃(k':Int) (rg':List (List DCn)) (x':List DCn),r=((x.length:Int),(q:Int),l,k',(),(),(),(),0,(),(),(),code,ss,dt,bs,key,cs,ls,ts,ck,rn,ins,d,os,us,ow,qs,rec,js,bs,key,cs,ls,ts,rg',vs,())/\DOk l k'/\BK 1152 ss rg' vs/\rg'[0]?=some x'/\x'.length=x.length) ?_ ?_
     ·refine fu (n:=3) hd (by decide) (by decide) λu k4 u0 u1 h4=>?_;dsimp only
      (with_reducible refine dF (λhcb=>?_) λhcb=>?_)
      ·obtain⟨c,hc⟩:∃c,x'[q]?=some c:=⟨_,oGE (by omega)⟩;simp only[show dI rg' 0=some x' from hx',oBS];refine (F1 hp.sz h4).bind ?_;rintro _ ⟨t,v,rr,o,k5,rfl,hc5,h5⟩;dsimp only;simp only[dK,oBS,show dI x' q=some c from hc,eq hx',eq hc];exact Ok.ret ⟨_,_,_,rfl,h5,hS'.setReg hx' hc5,gN (oGS hx').1 _,by rw[List.length_set];exact hxl'⟩
      ·exact Ok.ret ⟨_,_,_,rfl,h4,hS',hx',hxl'⟩
     ·rintro _ ⟨k',rg',x',rfl,hd,hS',hx',hxl'⟩;dsimp only;rw[dP (x:=(q:Int)+1) (by omega) (by omega)];exact Ok.ret ⟨⟨q+1,k',rg',x',rfl,hd,hS',hx',hxl'⟩,by dsimp only;omega⟩
    ·exact Ok.ret ⟨_,_,_,_,rfl,hS',hd⟩)
  simp only[e,oBS]
  obtain⟨y,e,vs',k4,a,b,rfl,hS4,h4⟩:=fS (f:=kJ) (n:=NN) (s:=((vs.length:Int),0,l,k3,(),(),(),(),0,(),(),(),code,ss,dt,bs,key,cs,ls,ts,ck,rn,ins,d,os,us,ow,qs,rec,js,bs,key,cs,ls,ts,rg',vs,()))
   (P:=λs'=>∃(q:Nat) (k':Int) (vs':List DTs),s'=((vs.length:Int),(q:Int),l,k',(),(),(),(),0,(),(),(),code,ss,dt,bs,key,cs,ls,ts,ck,rn,ins,d,os,us,ow,qs,rec,js,bs,key,cs,ls,ts,rg',vs',())/\DOk l k'/\BK 1152 ss rg' vs')
   (R:=λy=>∃vs' k' a b,y=(a,b,false,l,k',(),(),(),(),0,(),(),(),code,ss,dt,bs,key,cs,ls,ts,ck,rn,ins,d,os,us,ow,qs,rec,js,bs,key,cs,ls,ts,rg',vs',())/\BK 1152 ss rg' vs'/\DOk l k') (m:=λs'=>(s'.1 - s'.2.1).toNat) ⟨0,k3,vs,rfl,h3,hS3⟩ (by unfold NN;dsimp only;have:=hS3.vlen;omega) (by
    rintro _ ⟨q,k',vs',rfl,hd,hS'⟩;have hvl:=hS3.vlen;have hvl':=hS'.vlen;unfold kJ;delta dM;dsimp only
    (with_reducible refine dF (λhca=>?_) λhca=>?_)
    ·obtain⟨w,hw⟩:∃w,vs'[q]?=some w:=⟨_,oGE (by omega)⟩;have hw8:=(hS'.views w (dN hw)).len;rw[dK];simp only[oBS,show dI vs' q=some w from hw];refine Ok.bind (P:=λr=>∃(k':Int) (vs':List DTs),r=((vs.length:Int),(q:Int),l,k',(),(),(),(),0,(),(),(),code,ss,dt,bs,key,cs,ls,ts,ck,rn,ins,d,os,us,ow,qs,rec,js,bs,key,cs,ls,ts,rg',vs',())/\DOk l k'/\BK 1152 ss rg' vs') ?_ ?_
     ·refine Ok.loop (P:=λs'=>∃(o:Nat) (k':Int) (vs':List DTs),s'=((q:Int),(vs.length:Int),(q:Int),(w.2.2.2.2.2.2.2.length:Int),(o:Int),l,k',(),(),(),(),0,(),(),(),code,ss,dt,bs,key,cs,ls,ts,ck,rn,ins,d,os,us,ow,qs,rec,js,bs,key,cs,ls,ts,rg',vs',())/\DOk l k'/\BK 1152 ss rg' vs')
       (R:=λy=>∃vs' k' a b c,y=((q:Int),(vs.length:Int),(q:Int),a,b,c,l,k',(),(),(),(),0,(),(),(),code,ss,dt,bs,key,cs,ls,ts,ck,rn,ins,d,os,us,ow,qs,rec,js,bs,key,cs,ls,ts,rg',vs',())/\BK 1152 ss rg' vs'/\DOk l k') (m:=λs'=>(s'.2.2.2.1 - s'.2.2.2.2.1).toNat) ⟨0,k',vs',rfl,hd,hS'⟩ (by unfold NN;dsimp only;omega) ?_ ?_
      ·rintro _ ⟨o,k',vs',rfl,hd,hS'⟩;have hvl':=hS'.vlen;unfold nX;dsimp only
       (with_reducible refine dF (λhcb=>?_) λhcb=>?_)
       ·refine Ok.bind (P:=λr=>∃(k':Int) (vs':List DTs),r=((q:Int),(vs.length:Int),(q:Int),(w.2.2.2.2.2.2.2.length:Int),(o:Int),l,k',(),(),(),(),0,(),(),(),code,ss,dt,bs,key,cs,ls,ts,ck,rn,ins,d,os,us,ow,qs,rec,js,bs,key,cs,ls,ts,rg',vs',())/\DOk l k'/\BK 1152 ss rg' vs') ?_ ?_
        ·refine fu (n:=3) hd (by decide) (by decide) λu k4 u0 u1 h4=>?_;dsimp only
         (with_reducible refine dF (λhcc=>?_) λhcc=>?_)
         ·obtain⟨w',hw'⟩:∃w',vs'[q]?=some w':=⟨_,oGE (by omega)⟩;have hvo:=hS'.views w' (dN hw');have hw8':=hvo.len;obtain⟨cc,hcc⟩:∃cc,w'.2.2.2.2.2.2.2[o]?=some cc:=⟨_,oGE (by omega)⟩;simp only[dK,oBS,show dI vs' q=some w' from hw'];refine (F1 hp.sz h4).bind ?_;rintro _ ⟨t,v,rr,o',k5,rfl,hc5,h5⟩;dsimp only;simp only[show dI w'.2.2.2.2.2.2.2 o=some cc from hcc,oBS,eq hw',eq hcc];exact Ok.ret ⟨_,_,rfl,h5,hS'.setView ⟨hvo.state,hvo.pc,hvo.count,hvo.handler,hvo.saved,hvo.trap,hvo.code,by dsimp only;rw[List.length_set];exact hw8',iK hvo.regs hc5⟩⟩
         ·exact Ok.ret ⟨_,_,rfl,h4,hS'⟩
        ·rintro _ ⟨k',vs',rfl,hd,hS'⟩;dsimp only;rw[dP (x:=(o:Int)+1) (by omega) (by omega)];exact Ok.ret ⟨⟨o+1,k',vs',rfl,hd,hS'⟩,by dsimp only;omega⟩
       ·exact Ok.ret ⟨_,_,_,_,_,rfl,hS',hd⟩
      ·rintro _ ⟨vs',k',a,b,c,rfl,hS',hd⟩;dsimp only;refine fu (n:=4) hd (by decide) (by decide) λu k4 u0 u1 h4=>?_;dsimp only
       (with_reducible refine dF (λhcc=>?_) λhcc=>?_)
       ·refine fu (n:=5) h4 (by decide) (by decide) λu2 k5 u20 u21 h5=>?_;dsimp only;obtain⟨w',hw'⟩:∃w',vs'[q]?=some w':=⟨_,oGE (by have:=hS'.vlen;omega)⟩;have hvo:=hS'.views w' (dN hw');simp only[dK,oBS,show dI vs' q=some w' from hw',eq hw'];exact Ok.ret ⟨_,_,rfl,h5,hS'.setView ⟨⟨u20,by dsimp only;omega⟩,hvo.pc,hvo.count,hvo.handler,hvo.saved,hvo.trap,hvo.code,hvo.len,hvo.regs⟩⟩
       ·exact Ok.ret ⟨_,_,rfl,h4,hS'⟩
     ·rintro _ ⟨k',vs',rfl,hd,hS'⟩;dsimp only;rw[dP (x:=(q:Int)+1) (by omega) (by omega)];exact Ok.ret ⟨⟨q+1,k',vs',rfl,hd,hS'⟩,by dsimp only;omega⟩
    ·exact Ok.ret ⟨_,_,_,_,rfl,hS',hd⟩)
  simp only[e,oBS];obtain⟨_,ei,cs',rfl,hM',_⟩:=JB (key:=key) hp hL hS4 (by decide);simp only[ei,oBS,oCT];exact Ok.ret ⟨_,_,_,_,_,_,_,_,_,rfl,hp,hkey,hM',h4⟩
 ·simp only[oBF hv,oCF];exact Ok.ret ⟨_,_,_,_,_,_,_,_,_,rfl,hp,hkey,hM,h2⟩
def HR:List CT->CT
 | []=>.nat
 | [t]=>t
 | t :: u :: r=>.pair t (HR (u :: r))
def px:(l:List CT)->HL den l->den (HR l)
 | [],_=>(0:Nat)
 | [_],h=>h.1
 | _ :: u :: r,h=>(h.1,px (u :: r) h.2)
def encL:(l:List CT)->HL den l->List TV
 | [],_=>[]
 | t :: r,h=>enc t h.1++encL r h.2
theorem FV:∀(l:List CT) (h:HL den l),enc (HR l) (px l h)=encL l h
 | [],_=>rfl
 | [_],h=>(List.append_nil _).symm
 | _ :: u :: r,h=>by
  show enc _ h.1++enc (HR (u :: r)) (px (u :: r) h.2)=_;rw[FV (u :: r) h.2];rfl
def Fa:(c:CT)->den c->Prop
 | .int k,n=>(Lit.int k n).wf=true
 | .str,s=>ByteArray.size s<=maxLen
 | .row _ t,xs=>List.length xs<=maxLen/\∀x∈xs,Fa t x
 | .pair a b,x=>Fa a x.1/\Fa b x.2
 | _,_=>True
def GoodL:(l:List CT)->HL den l->Prop
 | [],_=>True
 | t :: r,h=>Fa t h.1/\GoodL r h.2
theorem Dm:∀(l:List CT) (h:HL den l),GoodL l h->Fa (HR l) (px l h)
 | [],_,_=>trivial
 | [_],_,g=>g.1
 | _ :: u :: r,h,g=>⟨g.1,Dm (u :: r) h.2 g.2⟩
def appL:(l m:List CT)->HL den l->HL den m->HL den (l++m)
 | [],_,_,k=>k
 | _ :: r,m,h,k=>(h.1,appL r m h.2 k)
theorem FW:∀(l m:List CT) (h:HL den l) (k:HL den m),encL (l++m) (appL l m h k)=encL l h++encL m k
 | [],_,_,_=>rfl
 | t :: r,m,h,k=>by
  show enc t h.1++encL (r++m) (appL r m h.2 k)=(enc t h.1++encL r h.2)++_;rw[FW r m h.2 k,List.append_assoc]
theorem FN:∀(l m:List CT) (h:HL den l) (k:HL den m),GoodL l h->GoodL m k->GoodL (l++m) (appL l m h k)
 | [],_,_,_,_,g=>g
 | _ :: r,m,h,k,g,g'=>⟨g.1,FN r m h.2 k g.2 g'⟩
def RelL(w:World):List TV->List Value->Prop
 | [],[]=>True
 | t :: ts,v :: vs=>nR w (λ_=>True) t v/\RelL w ts vs
 | _,_=>False
theorem RelL.app{w:World}:∀{a:List TV}{x:List Value}{b:List TV}{y:List Value},RelL w a x->RelL w b y->RelL w (a++b) (x++y)
 | [],[],_,_,_,h=>h
 | _ :: a,_ :: x,_,_,g,h=>⟨g.1,RelL.app (a:=a) (x:=x) g.2 h⟩
 | [],_ :: _,_,_,g,_=>g.elim
 | _ :: _,[],_,_,g,_=>g.elim
theorem RelL.len{w:World}:∀{a:List TV}{x:List Value},RelL w a x->a.length=x.length
 | [],[],_=>rfl
 | _ :: a,_ :: x,g=>by rw[oLC,oLC,RelL.len (a:=a) (x:=x) g.2]
 | [],_ :: _,g=>g.elim
 | _ :: _,[],g=>g.elim
theorem RelL.get{w:World}:∀{a:List TV}{x:List Value},RelL w a x->∀j (h:j < a.length) (h':j < x.length),nR w (λ_=>True) a[j] x[j]
 | _ :: _,_ :: _,g,0,_,_=>g.1
 | _ :: a,_ :: x,g,j+1,h,h'=>RelL.get (a:=a) (x:=x) g.2 j (by simpa using h) (by simpa using h')
 | [],_,_,_,h,_=>by simp at h
 | _ :: _,[],g,_,_,_=>g.elim
def NR(P:Program) (g:TypeId->Option (List CT)):Nat->List Field->Option (List CT)
 | _,[]=>some []
 | off,f :: fs=>match g f.type with
  | some l=>if f.offset=off/\l.length=P.cellsOf f.type then (NR P g (off+l.length) fs).map (l++·) else none
  | none=>none
def wh(P:Program):Nat->TypeId->Option (List CT)
 | 0,_=>none
 | n+1,t=>match P.underlying t with
  | some .bool=>some [.bool]
  | some (.int k)=>some [.int k]
  | some .string=>some [.str]
  | some (.slice e)=>match wh P n e with
   | some l=>if l.length=P.cellsOf e then some [.row false (HR l)] else none
   | none=>none
  | some (.struct fs)=>match NR P (wh P n) 0 fs.toList with
   | some l=>if l.length=P.cellsOf t then some l else none
   | none=>none
  | _=>none
section
variable {H:Type} {ec:TypeId×Value->H} {P:Program} {w:World} {base:Nat} {spare:Nat->Bool} {held:Bool}
theorem Jz{g:TypeId->Option (List CT)}{m:Nat}{cs:List Value}
 (ih:∀t L,g t=some L->∀cs x,DataW.trod ec P w base spare held m t cs=some x->∃h:HL den L,GoodL L h/\RelL w (encL L h) cs) :
 ∀(fs:List Field) (off:Nat) (L:List CT),NR P g off fs=some L->(∀f∈fs,∃x,DataW.trod ec P w base spare held m f.type ((cs.drop f.offset).take (P.cellsOf f.type))=some x) ->
  ∃h:HL den L,GoodL L h/\RelL w (encL L h) ((cs.drop off).take L.length):=by
 intro fs
 induction fs with
 | nil=>
  intro off L hL _
  injection hL with hL
  subst hL;exact⟨(),trivial,trivial⟩
 | cons f fs ihf=>
  intro off L hL hx;unfold NR at hL;split at hL
  ·rename_i l hg;split at hL
   ·rename_i ho;obtain⟨rfl,hlen⟩:=ho
    cases hr:NR P g (f.offset+l.length) fs with
    | none=>rw[hr] at hL;cases hL
    | some L2=>
     rw[hr] at hL
     injection hL with hL
     subst hL;obtain⟨x,h1⟩:=hx f List.mem_cons_self;obtain⟨h,g1,r1⟩:=ih _ _ hg _ _ h1;obtain⟨k,g2,r2⟩:=ihf _ _ hr λf' hf'=>hx f' (List.mem_cons_of_mem _ hf');refine⟨appL l L2 h k,FN _ _ _ _ g1 g2,?_⟩;rw[FW,List.length_append,List.take_add,List.drop_drop];rw[hlen];rw[hlen] at r2;exact r1.app r2
   ·cases hL
  ·cases hL
theorem N8:∀(n:Nat) (t:TypeId) (L:List CT),wh P n t=some L->∀(fuel:Nat) (cs:List Value) (x:DataW H×List MemPlace),DataW.trod ec P w base spare held fuel t cs=some x ->
 ∃h:HL den L,GoodL L h/\RelL w (encL L h) cs:=by
 intro n
 induction n with
 | zero=>intro t L h;cases h
 | succ n ih=>
  intro t L hL fuel cs x hx;unfold wh at hL;split at hL
  ·rename_i ht
   injection hL with hL
   subst hL;obtain⟨b,rfl,_⟩:=DataW.trod_bool ht hx;exact⟨(b,()),⟨trivial,trivial⟩,.v rfl,trivial⟩
  ·rename_i k ht
   injection hL with hL
   subst hL;obtain⟨z,rfl,_,hw⟩:=DataW.trod_int ht hx;exact⟨(z,()),⟨hw,trivial⟩,.v rfl,trivial⟩
  ·rename_i ht
   injection hL with hL
   subst hL;obtain⟨s,rfl,_,hs⟩:=DataW.trod_string ht hx;exact⟨(s,()),⟨hs,trivial⟩,.v rfl,trivial⟩
  ·rename_i e ht;split at hL
   ·rename_i l hl;split at hL
    ·rename_i hsz
     injection hL with hL
     subst hL;rcases DataW.trod_slice ht hx with ⟨rfl,_⟩ | ⟨a,len,cap,elems,rest,m,_,rfl,_,_,hle,hmax,hel,hget,_,_⟩
     ·exact⟨([],()),⟨⟨Nat.zero_le _,λx hx=>by cases hx⟩,trivial⟩,.sl (c:=[]) 1 (λ_ _=>undef) (λi h=>by simp at h) (Nat.le_refl _) (Nat.zero_le _) (λ_=>rfl) (λi j h=>by simp at h) (λi j h=>by simp at h),trivial⟩
     ·have each:∀i:Fin len,∃p:HL den l×List Value,GoodL l p.1/\RelL w (encL l p.1) p.2/\w.cells? base (a.add (i.1*P.cellsOf e)) (P.cellsOf e)=some p.2:=by
       intro i;have h1:=hget i.1 i.2;rw[oGE (by omega)] at h1;obtain⟨cs',h2,h3⟩:=Option.bind_eq_some_iff.1 h1;obtain⟨h,g,r⟩:=ih _ _ hl _ _ _ h3;exact⟨(h,cs'),g,r,h2⟩
      obtain⟨f,hf⟩:=Classical.axiomOfChoice each
      have clen:∀i,(encL l (f i).1).length=l.length:=λi=>by
       rw[(hf i).2.1.len,(World.cells?_some (hf i).2.2).2.1,hsz]
      have key:nR w (λ_=>True) (.sl ((List.ofFn λi:Fin len=>px l (f i).1).map (enc (HR l)))) (.slice (some a) ((List.ofFn λi:Fin len=>px l (f i).1).map (enc (HR l))).length cap):=by
       have el:((List.ofFn λi:Fin len=>px l (f i).1).map (enc (HR l))).length=len:=by simp
       have eg:∀i (hi:i < ((List.ofFn λi:Fin len=>px l (f i).1).map (enc (HR l))).length),((List.ofFn λi:Fin len=>px l (f i).1).map (enc (HR l)))[i]=encL l (f ⟨i,by omega⟩).1:=by
        intro i hi;simp[FV]
       refine .sl l.length (λi j=>if h:i < len then (f ⟨i,h⟩).2.getD j undef else undef) (λi hi=>by rw[eg i hi,clen]) (by rw[el];exact hle) hmax (λh=>by cases h) (λi j hi hj=>?_) (λi j hi hj=>?_)
       ·rw[el] at hi
        have cell:∀i' (hi':i' < len) j',j' < l.length->w.cell? ((a.add (i'*l.length)).add j')=some ((f ⟨i',hi'⟩).2.getD j' undef):=by
         intro i' hi' j' hj';have h1:=World.cells?_some (hf ⟨i',hi'⟩).2.2;have h2:=h1.2.2 j' (by omega);rw[hsz];rw[h2]
         have:j' < (f ⟨i',hi'⟩).2.length:=by rw[h1.2.1];omega
         simp[this]
        have h0:=World.cell?_spot (cell 0 (by omega) 0 (by omega));obtain⟨b,o,spot⟩:=a
        have hspot:spot=none:=by simpa [Addr.add] using h0
        subst hspot;refine⟨b,o,rfl,trivial,?_⟩;have h2:=cell i hi j hj;rw[Go.WideShapes.add_plain,Go.WideShapes.add_plain] at h2;rw[dif_pos hi,<- h2,Nat.add_assoc]
       ·rw[el] at hi;have hr:=(hf ⟨i,hi⟩).2.1
        have hj2:j < (encL l (f ⟨i,hi⟩).1).length:=by rw[eg i (by omega)] at hj;exact hj
        have hj3:j < (f ⟨i,hi⟩).2.length:=by rw[<- hr.len];exact hj2
        have h3:=hr.get j hj2 hj3
        have e1:(if h:i < len then (f ⟨i,h⟩).2.getD j undef else undef)=(f ⟨i,hi⟩).2[j]:=by
         rw[dif_pos hi];simp[hj3]
        simp only[e1];have e2:((List.ofFn λi:Fin len=>px l (f i).1).map (enc (HR l)))[i]'(by omega)=encL l (f ⟨i,hi⟩).1:=eg i (by omega);simp only[e2];exact h3
      rw[List.length_map,List.length_ofFn] at key;refine⟨(List.ofFn λi:Fin len=>px l (f i).1,()),⟨⟨by rw[List.length_ofFn];omega,λx hx=>?_⟩,trivial⟩,key,trivial⟩;obtain⟨i,rfl⟩:=List.mem_ofFn.1 hx;exact Dm _ _ (hf i).1
    ·cases hL
   ·cases hL
  ·rename_i fs ht;split at hL
   ·rename_i l hl;split at hL
    ·rename_i hsz
     injection hL with hL
     subst hL;obtain⟨xs,m,_,_,hlen,hxl,hf⟩:=DataW.trod_struct ht hx
     obtain⟨h,g,r⟩:=Jz (cs:=cs) (m:=m) (λt L hL cs x hx=>ih t L hL m cs x hx) fs.toList 0 l hl (by
      intro f hfm;obtain⟨i,hi,rfl⟩:=List.mem_iff_getElem.1 hfm
      have hi2:i < fs.size:=by simpa using hi
      have h1:=hf i fs[i] (by simp[hi2]);rw[oGE (by omega)] at h1
      exact⟨_,by simpa using h1⟩)
     refine⟨h,g,?_⟩;rw[List.drop_zero,hsz,<- hlen,List.take_length] at r;exact r
    ·cases hL
   ·cases hL
  ·cases hL
theorem intake_arg(n:Nat) {t:TypeId}{L:List CT}{v:Value}{d:DataW H}{p:List MemPlace}(hL:wh P n t=some L) (h:DataW.Trod ec P w base spare held t v d p) :
 ∃h:HL den L,GoodL L h/\RelL w (encL L h) v.cells.toList:=by
 obtain⟨fuel,hf⟩:=h;exact N8 n t L hL fuel _ _ hf
end
theorem plain_one{w:World}{t:TV}{v:Value}(r:RelL w [t] [v]):DO w t v:=r.1.plain
theorem plain_agg{w:World}{l:List TV}{cs:Array Value}(r:RelL w l cs.toList):DO w (.agg l) (.agg cs):=by
 intro F V C G hF
 have hl:cs.size=l.length:=by rw[r.len];simp
 refine .agg hl λj hj=>?_
 have hj2:j < cs.toList.length:=by rw[<- r.len];exact hj
 have h1:=(r.get j hj hj2).plain F V C G hF
 have e:cs.getD j undef=cs.toList[j]:=by
  have:j < cs.size:=by omega
  simp[Array.getD,this]
 rw[e];exact h1
theorem M1{a b:Int}(ha:vg a) (hb:0 < b) (hb2:b<=9223372036854775807):g8 a b=some (a % b,()):=by
 have hne:(b != 0)=true:=by simp;omega
 have hm:Int.tmod a b < b:=Int.tmod_lt_of_pos a hb
 have hm2:-b < Int.tmod a b:=by
  have:=Int.tmod_lt_of_pos (-a) hb;rw[Int.neg_tmod] at this;omega
 have hq:a % b=Int.tmod a b % b:=by
  have e:=Int.mul_tdiv_add_tmod a b;rw[Int.add_comm] at e
  conv=>lhs;rw[<- e]
  exact Int.add_mul_emod_self_left ..
 unfold g8;simp only[hne,oCT];by_cases h:Int.tmod a b < 0
 ·simp only[h,decide_true,oCT,oBS];rw[dP (by omega) (by omega),hq,<- Int.emod_eq_of_lt (a:=Int.tmod a b+b) (b:=b) (by omega) (by omega),Int.add_emod_right]
 ·simp only[h,decide_false,oCF,oBS];rw[hq,Int.emod_eq_of_lt (by omega) hm]
theorem up{a b:Int}(ha:vg a) (hb:0 < b) (hb2:b<=9223372036854775807):is a b=some (a % b,()):=by
 unfold is;rw[M1 ha hb hb2];rfl
theorem DG{a:List DCe}(h:a.length<=1000):gV a a=some (true,()):=by
 have e:dR fr NN (a,a,(a.length:Int),0,())=some (.inr (a,a,(a.length:Int),(a.length:Int),false,())):=by
  refine my (st:=λk=>(a,a,(a.length:Int),(k:Int),())) (n:=a.length) (by unfold NN;omega) ?_ ?_
  ·intro k hk;unfold fr;dsimp only;rw[oDT (show (k:Int) < a.length by omega),dK];simp only[oCT,oBS,show dI a k=some a[k] from oGE hk,BEq.rfl,Bool.and_self,oNT,oCF];rw[dP (x:=(k:Int)+1) (by omega) (by omega)];exact Ok.ret rfl
  ·unfold fr;dsimp only;rw[oDF (show ¬ (a.length:Int) < a.length by omega)];exact Ok.ret rfl
 unfold gV;delta dM;dsimp only;rw[e];simp only[bne_self_eq_false,oCF]
def Sh4(ls:List DLn):Prop:=ls.length<=4/\∀x∈ls,x.2.2.length<=4
theorem Jh{cs:List DCe}{ls:List DLn}(h:cs.length<=1000) (hs:Sh4 ls):fP cs ls cs ls=some (true,()):=by
 have e:dR fq NN ((ls.length:Int),0,cs,ls,cs,ls,())=some (.inr ((ls.length:Int),(ls.length:Int),false,cs,ls,cs,ls,())):=by
  have h4:=hs.1;refine my (st:=λk=>((ls.length:Int),(k:Int),cs,ls,cs,ls,())) (n:=ls.length) (by unfold NN;omega) ?_ ?_
  ·intro k hk;unfold fq;dsimp only;have hx:ls[k]?=some ls[k]:=oGE hk;have hl:=hs.2 _ (dN hx);rw[oDT (show (k:Int) < ls.length by omega),dK];simp only[oCT,oBS,show dI ls k=some ls[k] from hx,BEq.rfl,bne_self_eq_false,oNT,oCF];rw[DG (by omega)];simp only[oBS,oNT,oCF];rw[dP (x:=(k:Int)+1) (by omega) (by omega)];exact Ok.ret rfl
  ·unfold fq;dsimp only;rw[oDF (show ¬ (ls.length:Int) < ls.length by omega)];exact Ok.ret rfl
 unfold fP;rw[DG h];delta dM;simp only[oBS,oNT,oCF,bne_self_eq_false];rw[e]
theorem xr{rs:List DCe}(h:rs.length<=1000):fX rs=some (rs,()):=by
 unfold fX;rw[dS (by omega)];rfl
theorem E1{rs:List DLn}(h:rs.length<=1000):gZ rs=some (rs,()):=by
 unfold gZ;rw[dS (by omega)];rfl
theorem Jf{α:Type}{l:List α}{i:Nat}{f:α->α}(h:∀x,l[i]?=some x->f x=x):List.modify l i f=l:=by
 apply List.ext_getElem?;intro j;rw[List.getElem?_modify];by_cases hij:i=j
 ·subst hij
  cases hl:l[i]? with
  | none=>simp
  | some x=>simp[h x hl]
 ·simp[hij]
theorem Lb{cs:List DCe}{ls:List DLn}(h:cs.length<=1000) (hs:Sh4 ls):kf cs ls=some (cs,ls,()):=by
 have h4:=hs.1
 have e:dR jw NN ((ls.length:Int),0,(),(),cs,ls,())=some ((ls.length:Int),(ls.length:Int),false,(),(),cs,ls,()):=by
  refine my (st:=λk=>((ls.length:Int),(k:Int),(),(),cs,ls,())) (n:=ls.length) (by unfold NN;omega) ?_ ?_
  ·intro k hk;unfold jw;dsimp only;have hx:ls[k]?=some ls[k]:=oGE hk;have hl:=hs.2 _ (dN hx);rw[oDT (show (k:Int) < ls.length by omega),dK];simp only[oCT,oBS,show dI ls k=some ls[k] from hx];rw[xr (by omega)];simp only[oBS];rw[Jf λx hx'=>by rw[hx] at hx';injection hx' with hx';subst hx';rfl];rw[dP (x:=(k:Int)+1) (by omega) (by omega)];exact Ok.ret rfl
  ·unfold jw;dsimp only;rw[oDF (show ¬ (ls.length:Int) < ls.length by omega)];exact Ok.ret rfl
 unfold kf;rw[xr h,E1 (by omega)];delta dM;simp only[oBS];rw[e];rfl
theorem i9.sh4{K:Int->Prop}{cs:List DCe}{ls:List DLn}(h:i9 K cs ls):Sh4 ls:=⟨by rw[h.llen];omega,λx hx=>by
 obtain⟨i,hi⟩:=List.getElem?_of_mem hx
 exact (h.lines i x hi).len⟩
theorem g64{h:den I64}(g:Fa I64 h):vg h:=bounds_i64 g
theorem Ng{h:den RI}(g:Fa RI h):(∀z∈(show List Int from h),vg z)/\(show List Int from h).length<=maxLen:=⟨λz hz=>bounds_i64 (g.2 z hz),g.1⟩
theorem OP{S T:Type}{f g:S->Option (S⊕T)}(P:S->Prop) (R:T->Prop) (m:S->Nat) {n:Nat}{s:S}(hs:P s) (hm:m s < n)
 (h:∀s,P s->(∃s',f s=some (.inl s')/\g s=some (.inl s')/\P s'/\m s' < m s)\/(∃t,f s=some (.inr t)/\g s=some (.inr t)/\R t)):∃t,dR f n s=some t/\dR g n s=some t/\R t:=by
 induction n generalizing s with
 | zero=>omega
 | succ n ih=>
  rcases h s hs with ⟨s',e1,e2,hp,hl⟩ | ⟨t,e1,e2,hr⟩
  ·simp only[dR,e1,e2,oBS];exact ih hp (by omega)
  ·exact⟨t,by simp only[dR,e1,oBS],by simp only[dR,e2,oBS],hr⟩
def DR(x:Int):DCe:=(0,x)
theorem GV{d:List Int}(h:d.length<=1000):kQ d=some (d.map DR,()):=by
 have e:dR gF NN (d,(d.length:Int),0,[],())=some (d,(d.length:Int),(d.length:Int),false,d.map DR,()):=by
  have:=my (f:=gF) (N:=NN) (st:=λk=>(d,(d.length:Int),(k:Int),(d.take k).map DR,())) (n:=d.length) (t:=(d,(d.length:Int),(d.length:Int),false,d.map DR,())) (by unfold NN;omega) ?_ ?_
  ·exact this
  ·intro k hk;unfold gF;dsimp only;have hx:d[k]?=some d[k]:=oGE hk;rw[oDT (show (k:Int) < d.length by omega),dK];simp only[oCT,oBS,show dI d k=some d[k] from hx];refine dG (dS (by rw[List.length_map,oLT];simp only[List.length_singleton];omega)) ?_;rw[dP (x:=(k:Int)+1) (by omega) (by omega)];refine Ok.ret ?_;rw[<- fM DR hx];rfl
  ·unfold gF;dsimp only;rw[oDF (show ¬ (d.length:Int) < d.length by omega),List.take_length];exact Ok.ret rfl
 unfold kQ;delta dM;dsimp only;rw[e];rfl
theorem G6{α:Type}{f:α->α}{c:α}{R:List α}:∀{A:List α},List.modify (A++c :: R) A.length f=A++f c :: R:=by
 intro A
 induction A with
 | nil=>rfl
 | cons a A ih=>simp only[List.cons_append,oLC,List.modify_succ_cons,ih]
def zo(cs:List DCe) (b:Nat) (d:List Int):List DCe:=cs.take b++d.map DR++cs.drop (b+d.length)
theorem KU{cs:List DCe}{b:Nat}{d:List Int}(h:b+d.length<=cs.length):(zo cs b d).length=cs.length:=by
 unfold zo;simp only[List.length_append,oLT,List.length_map,List.length_drop];omega
theorem FB{cs:List DCe}{b:Nat}:zo cs b []=cs:=by
 unfold zo;simp
theorem KT{P:DCe->Prop}{cs:List DCe}{b:Nat}{d:List Int}(hc:∀c∈cs,P c) (hd:∀x∈d,P (DR x)):∀c∈zo cs b d,P c:=by
 intro c h;unfold zo at h;rcases List.mem_append.1 h with h | h
 ·rcases List.mem_append.1 h with h | h
  ·exact hc c (List.mem_of_mem_take h)
  ·obtain⟨x,hx,rfl⟩:=List.mem_map.1 h;exact hd x hx
 ·exact hc c (List.mem_of_mem_drop h)
theorem Nh{cs:List DCe}{b:Nat}{d:List Int}{code:List DIn}{ss bs:List Int}{dt:List (List Int)}{key:Int}{ls:List DLn}{r:Nat}{n:Int}(hcs:cs.length=512) (h0:∀c∈cs,c.1=0) (hb:bs[r]?=some (b:Int)) (hd:b+d.length<=512) :
 dR gL NN ((r:Int),dt,n,(r:Int),d,(d.length:Int),0,code,ss,dt,bs,key,(),(),cs,ls,())=some ((r:Int),dt,n,(r:Int),d,(d.length:Int),(d.length:Int),false,code,ss,dt,bs,key,(),(),zo cs b d,ls,()):=by
 have:=my (f:=gL) (N:=NN) (st:=λk=>((r:Int),dt,n,(r:Int),d,(d.length:Int),(k:Int),code,ss,dt,bs,key,(),(),zo cs b (d.take k),ls,())) (n:=d.length) (t:=((r:Int),dt,n,(r:Int),d,(d.length:Int),(d.length:Int),false,code,ss,dt,bs,key,(),(),zo cs b d,ls,())) (by unfold NN;omega) ?_ ?_
 ·have e0:zo cs b (d.take 0)=cs:=by rw[List.take_zero];exact FB
  rw[e0] at this;exact this
 ·intro k hk;obtain⟨x,hx⟩:∃x,d[k]?=some x:=⟨_,oGE hk⟩;obtain⟨c,hc⟩:∃c,cs[b+k]?=some c:=⟨_,oGE (by omega)⟩;have hc0:=h0 c (dN hc)
  have hl:(cs.take b++(d.take k).map DR).length=b+k:=by
   simp only[List.length_append,oLT,List.length_map];omega
  have hdr:cs.drop (b+k)=c :: cs.drop (b+k+1):=by
   obtain⟨h1,h2⟩:=oGS hc;rw[<- h2];exact List.drop_eq_getElem_cons h1
  have hk1:(d.take k).length=k:=by rw[oLT];omega
  have e1:zo cs b (d.take k)=(cs.take b++(d.take k).map DR)++c :: cs.drop (b+k+1):=by
   unfold zo;rw[hk1,hdr]
  have e2:zo cs b (d.take (k+1))=(cs.take b++(d.take k).map DR)++DR x :: cs.drop (b+k+1):=by
   unfold zo;rw[show (d.take (k+1)).length=k+1 by rw[oLT];omega,<- fM DR hx];simp[Nat.add_assoc]
  have hg:dI (zo cs b (d.take k)) (b+k)=some c:=by
   unfold dI;rw[e1,<- hl,List.getElem?_append_right (by omega)];simp
  unfold gL;dsimp only;rw[oDT (show (k:Int) < d.length by omega),dK,dK];simp only[oCT,oBS,show dI d k=some x from hx,show dI bs r=some (b:Int) from hb];rw[dP (x:=(b:Int)+k) (by omega) (by omega),show (b:Int)+k=((b+k:Nat):Int) by omega,dK];simp only[oBS,hg];rw[dP (x:=(k:Int)+1) (by omega) (by omega)];refine Ok.ret ?_
  have e3:List.modify (zo cs b (d.take k)) (b+k) (λe=>(e.1,x))=zo cs b (d.take (k+1)):=by
   rw[e1,e2,<- hl,G6,hc0];rfl
  rw[e3];rfl
 ·unfold gL;dsimp only;rw[oDF (show ¬ (d.length:Int) < d.length by omega),List.take_length];exact Ok.ret rfl
theorem Jg:nK=some (eK,()):=by kernel_rfl
theorem Jm{code:List DIn}{ss bs:List Int}{dt:List (List Int)}{key:Int}(hb:bs.length<=1000) (hs:ss.length<=1000) (hi:∀b∈bs,vg b) (hdl:dt.length<=1000) (hd:∀d∈dt,d.length<=1000) :
 ∃cs ls e,ke code ss dt bs key=some (cs,ls,e,())/\iG code ss dt bs key=some (cs,ls,e,())/\cs.length<=1000/\Sh4 ls:=by
 have hnil:([]:List DCe).length<=1000/\Sh4 []:=⟨by simp,by simp,ee⟩;unfold ke iG;rw[(Pf (key:=key) hb hs hi).same (N6 hb hs hi)];rcases N6 (key:=key) hb hs hi with ⟨hL,e⟩ | ⟨hL,e⟩
 rotate_left
 ·rw[e];exact⟨_,_,_,rfl,rfl,hnil⟩
 rw[e,Jg,Bw];delta dM;simp only[oBS,oNT,oCF];by_cases hl:(dt.length:Int)=ss.length
 rotate_left
 ·rw[bne_iff_ne.2 hl];exact⟨_,_,_,rfl,rfl,hnil⟩
 rw[bne_eq_false_iff_eq.2 hl,show nL 512 512 2=true by kernel_rfl];simp only[oCF,oCT];obtain⟨z0,hz0⟩:∃z0:List DCe,z0=List.replicate 512 (0,0):=⟨_,rfl⟩;rw[<- hz0]
 have hzl:z0.length=512:=by rw[hz0,List.length_replicate]
 have hz1:∀c∈z0,c.1=0:=by
  intro c hc;rw[hz0] at hc;rw[List.eq_of_mem_replicate hc]
 have hE:Sh4 eK:=⟨by decide,by decide⟩
 obtain⟨t,e1,e2,ht⟩:=OP (f:=lM) (g:=iF) (n:=NN) (s:=(dt,(dt.length:Int),0,code,ss,dt,bs,key,(),(),z0,eK,()))
  (P:=λs=>∃(k:Nat) (cs:List DCe),s=(dt,(dt.length:Int),(k:Int),code,ss,dt,bs,key,(),(),cs,eK,())/\k<=dt.length/\cs.length=512/\∀c∈cs,c.1=0)
  (R:=λt=>(∃u,t=.inl u)\/∃a1 a2 a3 a4 a5 a6 a7 a8 a9 a10 a11 cs,t=.inr (a1,a2,a3,a4,a5,a6,a7,a8,a9,a10,a11,cs,eK,())/\cs.length=512) (m:=λs=>(s.2.1 - s.2.2.1).toNat) ⟨0,z0,rfl,by omega,hzl,hz1⟩ (by unfold NN;dsimp only;omega) (by
   rintro _ ⟨k,cs,rfl,hk,hcl,hc0⟩;unfold lM iF;delta dM;dsimp only;by_cases hkl:k < dt.length
   rotate_left
   ·rw[oDF (show ¬ (k:Int) < dt.length by omega)];exact .inr ⟨_,rfl,rfl,.inr ⟨_,_,_,_,_,_,_,_,_,_,_,_,rfl,hcl⟩⟩
   obtain⟨d,hgd⟩:∃d,dt[k]?=some d:=⟨_,oGE hkl⟩;obtain⟨z,hgz⟩:∃z,ss[k]?=some z:=⟨_,oGE (by omega)⟩;obtain⟨b,z',hgb,hgz',z1,z32,b0,bz⟩:=hL.at_ (r:=k) (by omega);rw[hgz] at hgz'
   injection hgz' with hgz'
   subst hgz';have hd32:=hd d (dN hgd);obtain⟨q,rfl⟩:∃q:Nat,b=q:=⟨b.toNat,by omega⟩;rw[oDT (show (k:Int) < dt.length by omega),dK];simp only[oCT,oBS,show dI dt k=some d from hgd,show dI ss k=some z from hgz,show dI bs k=some (q:Int) from hgb,dK];by_cases hdz:(d.length:Int) > z
   ·rw[oDT hdz];exact .inr ⟨_,rfl,rfl,.inl ⟨_,rfl⟩⟩
   rw[oDF hdz,Nh hcl hc0 hgb (by omega),GV hd32]
   have hm:Nat.min (d.map DR).length (Nat.sub cs.length q)=d.length:=by
    rw[List.length_map,hcl];show min d.length (512 - q)=d.length;omega
   simp only[oCF,oBS,hm];rw[show gS q cs.length cs.length=true by unfold gS;simp;omega,show gS q (Nat.add q d.length) cs.length=true by unfold gS;simp;omega];simp only[oCT];have hw:w64 ((k:Int)+1)=(k:Int)+1:=dP (by omega) (by omega)
   have hsp:mJ cs q d.length (d.map DR)=zo cs q d:=by
    unfold mJ zo;rw[show (d.map DR).take d.length=d.map DR from List.take_of_length_le (by rw[List.length_map];omega)]
   have hP:∃(j:Nat) (cs':List DCe),(dt,(dt.length:Int),w64 ((k:Int)+1),code,ss,dt,bs,key,(),(),zo cs q d,eK,())=(dt,(dt.length:Int),(j:Int),code,ss,dt,bs,key,(),(),cs',eK,())/\j<=dt.length/\cs'.length=512/\∀c∈cs',c.1=0:=
    ⟨k+1,_,by rw[hw];rfl,by omega,by rw[KU (by omega)];exact hcl,KT hc0 λ_ _=>rfl⟩
   by_cases hdn:d=[]
   ·subst hdn;rw[show Nat.blt 0 ([]:List Int).length=false from rfl];rw[FB] at hP ⊢;exact .inl ⟨_,rfl,rfl,hP,by dsimp only;rw[hw];omega⟩
   ·have:0 < d.length:=List.length_pos_iff.2 hdn;rw[show Nat.blt 0 d.length=true by rw[Nat.blt_eq];exact this,hsp]
    exact .inl ⟨_,rfl,rfl,hP,by dsimp only;rw[hw];omega⟩)
 rw[e1,e2];rcases ht with ⟨⟨u1,u2,u3,u4⟩,rfl⟩ | ⟨a1,a2,a3,a4,a5,a6,a7,a8,a9,a10,a11,cs,rfl,hcl⟩
 ·exact⟨_,_,_,rfl,rfl,hnil⟩
 ·exact⟨_,_,_,rfl,rfl,by omega,hE⟩
theorem OM{S T:Type}{f:S->Option (S⊕T)}(st:Nat->S) {n N:Nat}{bad:Nat->T}{good:T}(p:Nat->Prop) (hn:n < N)
 (h:∀i,i < n->(p i/\f (st i)=some (.inl (st (i+1))))\/(¬ p i/\f (st i)=some (.inr (bad i)))) (he:f (st n)=some (.inr good)) :
 ((∀i,i < n->p i)/\dR f N (st 0)=some good)\/((¬ ∀i,i < n->p i)/\∃i,dR f N (st 0)=some (bad i)):=by
 have key:∀k i,i+k=n->(∀j,j < i->p j)->∀N,k < N->((∀i,i < n->p i)/\dR f N (st i)=some good)\/((¬ ∀i,i < n->p i)/\∃j,dR f N (st i)=some (bad j)):=by
  intro k
  induction k with
  | zero=>
   intro i hi hp N hN
   obtain rfl:i=n:=by omega
   obtain⟨N',rfl⟩:∃N',N=N'+1:=⟨N - 1,by omega⟩;exact .inl ⟨hp,by simp only[dR,he,oBS]⟩
  | succ k ih=>
   intro i hi hp N hN;obtain⟨N',rfl⟩:∃N',N=N'+1:=⟨N - 1,by omega⟩;rcases h i (by omega) with ⟨hpi,e⟩ | ⟨hpi,e⟩
   ·simp only[dR,e,oBS];refine ih (i+1) (by omega) (λj hj=>?_) N' (by omega);by_cases hji:j=i
    ·rw[hji];exact hpi
    ·exact hp j (by omega)
   ·exact .inr ⟨λg=>hpi (g i (by omega)),i,by simp only[dR,e,oBS]⟩
 exact key n 0 (by omega) (λj hj=>by omega) N hn
def VC(l:List DCe):Prop:=∀c∈l,c.1<=2
theorem Fe{l:List DCe}:(∀i,i < l.length->∀c,l[i]?=some c->c.1<=2)↔VC l:=
 ⟨λh c hc=>by
  obtain⟨i,hi⟩:=List.getElem?_of_mem hc
  exact h i (oGS hi).1 c hi,λh i _ c hc=>h c (dN hc)⟩
theorem zH{l:List DCe}(h:l.length<=1000):DN (jy l) (VC l):=by
 unfold jy;delta dM;dsimp only
 rcases IG (f:=fw) (N:=NN) (bad:=.inl (false,())) (good:=.inr (l,(l.length:Int),(l.length:Int),false,())) (λi=>(l,(l.length:Int),(i:Int),())) (n:=l.length) (λi=>∀c,l[i]?=some c->c.1<=2) (by unfold NN;omega) (λi hi _=>by
  have hx:l[i]?=some l[i]:=oGE hi;unfold fw iV;dsimp only;rw[oDT (show (i:Int) < l.length by omega),dK];simp only[oCT,oBS,show dI l i=some l[i] from hx];by_cases g:l[i].1<=2
  ·rw[oDT g,dP (x:=(i:Int)+1) (by omega) (by omega)];exact .inl ⟨λc hc=>by rw[hx] at hc;injection hc with hc;rw[<- hc];exact g,rfl⟩
  ·rw[oDF g]
   exact .inr ⟨λhh=>g (hh _ hx),rfl⟩) (by
  unfold fw;dsimp only;rw[oDF (show ¬ (l.length:Int) < l.length by omega)]
  rfl) with ⟨hp,e⟩ | ⟨hp,e⟩
 ·rw[show dR fw NN (l,(l.length:Int),0,())=_ from e];exact .inl ⟨Fe.1 hp,rfl⟩
 ·rw[show dR fw NN (l,(l.length:Int),0,())=_ from e];exact .inr ⟨λg=>hp (Fe.2 g),rfl⟩
theorem ww{l:List DCe}{n:Int}(h:l.length<=1000):DN (jd l n) ((l.length:Int)=n/\VC l):=by
 unfold jd gf gX;delta dM;dsimp only;by_cases hn:(l.length:Int)=n
 rotate_left
 ·rw[show ((l.length:Int)==n)=false from oBF hn];exact .inr ⟨λg=>hn g.1,rfl⟩
 rw[show ((l.length:Int)==n)=true from beq_iff_eq.2 hn]
 rcases OM (f:=eQ) (N:=NN) (bad:=λi=>.inl ((i:Int),())) (good:=.inr (l,(l.length:Int),(l.length:Int),false,())) (λi=>(l,(l.length:Int),(i:Int),())) (n:=l.length) (λi=>∀c,l[i]?=some c->c.1<=2) (by unfold NN;omega) (λi hi=>by
  have hx:l[i]?=some l[i]:=oGE hi;unfold eQ lL pA;dsimp only;rw[oDT (show (i:Int) < l.length by omega),dK];simp only[oCT,oBS,show dI l i=some l[i] from hx];by_cases g:l[i].1<=2
  ·rw[oDT g,dP (x:=(i:Int)+1) (by omega) (by omega)];exact .inl ⟨λc hc=>by rw[hx] at hc;injection hc with hc;rw[<- hc];exact g,rfl⟩
  ·rw[oDF g]
   exact .inr ⟨λhh=>g (hh _ hx),rfl⟩) (by
  unfold eQ;dsimp only;rw[oDF (show ¬ (l.length:Int) < l.length by omega)]
  rfl) with ⟨hp,e⟩ | ⟨hp,i,e⟩
 ·rw[show dR eQ NN (l,(l.length:Int),0,())=_ from e];exact .inl ⟨⟨hn,Fe.1 hp⟩,rfl⟩
 ·rw[show dR eQ NN (l,(l.length:Int),0,())=_ from e];simp only[oCT,oBS];rw[oDT (show (i:Int)>=0 by omega)];exact .inr ⟨λg=>hp (Fe.2 g.2),rfl⟩
def vt(i:Nat) (x:DLn):Prop:=(x.1=-1/\x.2.1=false/\x.2.2.length=0)\/(0<=x.1/\x.1 < 128/\Int.tmod x.1 4=i/\x.2.2.length=4/\VC x.2.2)
theorem G7{i:Nat}{x:DLn}(h:x.2.2.length<=1000):DN (mb (i:Int) x.1 x.2.1 x.2.2) (vt i x):=by
 obtain⟨t,d,l⟩:=x;dsimp only at h;unfold mb vt;delta dM;dsimp only;by_cases h1:t=-1
 ·subst h1;rw[show ((-1:Int)==-1)=true from rfl]
  cases d with
  | true=>exact .inr ⟨λg=>by rcases g with ⟨_,g,_⟩ | ⟨g,_⟩<;>first | cases g | omega,rfl⟩
  | false=>
   by_cases hl:l.length=0
   ·rw[show ((l.length:Int)==0)=true from beq_iff_eq.2 (by omega)];exact .inl ⟨.inl ⟨rfl,rfl,hl⟩,rfl⟩
   ·rw[show ((l.length:Int)==0)=false from oBF (by omega)];exact .inr ⟨λg=>by rcases g with ⟨_,_,g⟩ | ⟨g,_⟩<;>omega,rfl⟩
 rw[show (t==(-1:Int))=false from oBF h1]
 have no:¬ (0<=t/\t < 128/\Int.tmod t 4=i/\l.length=4/\VC l)->¬ ((t=-1/\d=false/\l.length=0)\/(0<=t/\t < 128/\Int.tmod t 4=i/\l.length=4/\VC l)):=λg g'=>by
  rcases g' with ⟨g',_⟩ | g'
  ·exact h1 g'
  ·exact g g'
 by_cases h2:t>=0
 rotate_left
 ·rw[oDF h2];exact .inr ⟨no λg=>h2 g.1,rfl⟩
 rw[oDT h2];by_cases h3:t < 128
 rotate_left
 ·rw[oDF h3];exact .inr ⟨no λg=>h3 g.2.1,rfl⟩
 rw[oDT h3];simp only[oCT,oCF];by_cases h4:Int.tmod t 4=i
 rotate_left
 ·rw[show (Int.tmod t 4==(i:Int))=false from oBF h4];exact .inr ⟨no λg=>h4 g.2.2.1,rfl⟩
 rw[show (Int.tmod t 4==(i:Int))=true from beq_iff_eq.2 h4];rcases ww (n:=4) h with ⟨g,e⟩ | ⟨g,e⟩
 ·rw[e];exact .inl ⟨.inr ⟨h2,h3,h4,by have:=g.1;omega,g.2⟩,rfl⟩
 ·rw[e];exact .inr ⟨no λg'=>g ⟨by rw[g'.2.2.2.1];rfl,g'.2.2.2.2⟩,rfl⟩
structure Mid (cs:List DCe) (ls:List DLn):Prop where
 cl:cs.length<=1000
 ll:ls.length<=1000
 xl:∀x∈ls,x.2.2.length<=1000
def O7(cs:List DCe) (ls:List DLn):Prop:=(cs.length=512/\VC cs)/\ls.length=4/\∀i,i < ls.length->∀x,ls[i]?=some x->vt i x
theorem wu{cs:List DCe}{ls:List DLn}(h:Mid cs ls):DN (fQ cs ls) (O7 cs ls):=by
 unfold fQ;have hll:=h.ll;rcases ww (l:=cs) (n:=512) h.cl with ⟨g,e⟩ | ⟨g,e⟩
 rotate_left
 ·rw[e];exact .inr ⟨λg'=>g ⟨by rw[g'.1.1];rfl,g'.1.2⟩,rfl⟩
 rw[e];delta dM;simp only[oBS,oNT,oCF];by_cases hl:(ls.length:Int)=4
 rotate_left
 ·rw[show ((ls.length:Int) != 4)=true from bne_iff_ne.2 hl];exact .inr ⟨λg'=>hl (by rw[g'.2.1];rfl),rfl⟩
 rw[show ((ls.length:Int) != 4)=false from bne_eq_false_iff_eq.2 hl];simp only[oCF]
 rcases IG (f:=fT) (N:=NN) (bad:=.inl (false,())) (good:=.inr (ls,(ls.length:Int),(ls.length:Int),false,cs,ls,())) (λi=>(ls,(ls.length:Int),(i:Int),cs,ls,())) (n:=ls.length) (λi=>∀x,ls[i]?=some x->vt i x) (by unfold NN;omega) (λi hi _=>by
  have hx:ls[i]?=some ls[i]:=oGE hi;unfold fT;dsimp only;rw[oDT (show (i:Int) < ls.length by omega),dK];simp only[oCT,oBS,show dI ls i=some ls[i] from hx];rcases G7 (i:=i) (h.xl _ (dN hx)) with ⟨g,e⟩ | ⟨g,e⟩
  ·rw[e,dP (x:=(i:Int)+1) (by omega) (by omega)];exact .inl ⟨λc hc=>by rw[hx] at hc;injection hc with hc;rw[<- hc];exact g,rfl⟩
  ·rw[e]
   exact .inr ⟨λhh=>g (hh _ hx),rfl⟩) (by
  unfold fT;dsimp only;rw[oDF (show ¬ (ls.length:Int) < ls.length by omega)]
  rfl) with ⟨hp,e⟩ | ⟨hp,e⟩
 ·rw[show dR fT NN (ls,(ls.length:Int),0,cs,ls,())=_ from e];exact .inl ⟨⟨⟨by have:=g.1;omega,g.2⟩,by omega,hp⟩,rfl⟩
 ·rw[show dR fT NN (ls,(ls.length:Int),0,cs,ls,())=_ from e];exact .inr ⟨λg'=>hp g'.2.2,rfl⟩
theorem rK{cs:List DCe}{ls:List DLn}(h:Mid cs ls):DN (gp cs ls) (O7 cs ls):=by
 unfold gp;have hll:=h.ll;delta dM;dsimp only;by_cases hc:(cs.length:Int)=512
 rotate_left
 ·rw[show ((cs.length:Int) != 512)=true from bne_iff_ne.2 hc];exact .inr ⟨λg'=>hc (by rw[g'.1.1];rfl),rfl⟩
 rw[show ((cs.length:Int) != 512)=false from bne_eq_false_iff_eq.2 hc];by_cases hl:(ls.length:Int)=4
 rotate_left
 ·rw[show ((ls.length:Int) != 4)=true from bne_iff_ne.2 hl];exact .inr ⟨λg'=>hl (by rw[g'.2.1];rfl),rfl⟩
 rw[show ((ls.length:Int) != 4)=false from bne_eq_false_iff_eq.2 hl];rcases zH h.cl with ⟨g,e⟩ | ⟨g,e⟩
 rotate_left
 ·rw[e];exact .inr ⟨λg'=>g g'.1.2,rfl⟩
 rw[e];simp only[oBS,oNT,oCF]
 rcases IG (f:=fe) (N:=NN) (bad:=.inl (false,())) (good:=.inr (ls,(ls.length:Int),(ls.length:Int),false,cs,ls,())) (λi=>(ls,(ls.length:Int),(i:Int),cs,ls,())) (n:=ls.length) (λi=>∀x,ls[i]?=some x->vt i x) (by unfold NN;omega) (λi hi _=>by
  have hx:ls[i]?=some ls[i]:=oGE hi;have hxl:=h.xl _ (dN hx);unfold fe;delta dM;dsimp only;rw[oDT (show (i:Int) < ls.length by omega),dK];simp only[oCT,oBS,show dI ls i=some ls[i] from hx];have hpi:∀{b:Bool},(vt i ls[i]↔b=true)->((∀x,ls[i]?=some x->vt i x)↔b=true):=λ{b} hb=>⟨λg=>hb.1 (g _ hx),λg c hc=>by rw[hx] at hc;injection hc with hc;rw[<- hc];exact hb.2 g⟩;generalize ls[i]=x at hxl hpi;obtain⟨t,d,l⟩:=x;dsimp only at hxl ⊢;have hw:w64 ((i:Int)+1)=((i+1:Nat):Int):=dP (by omega) (by omega);have yes:vt i (t,d,l)->∀x,ls[i]?=some x->vt i x:=λg=>(hpi (b:=true) ⟨λ_=>rfl,λ_=>g⟩).2 rfl
  have no:¬ vt i (t,d,l)->¬ ∀x,ls[i]?=some x->vt i x:=λg g'=>by
   have:=(hpi (b:=false) ⟨λh=>absurd h g,λh=>by cases h⟩).1 g';cases this
  unfold vt at yes no;dsimp only at yes no;by_cases h1:t=-1
  ·subst h1;rw[show ((-1:Int)==-1)=true from rfl]
   cases d with
   | true=>exact .inr ⟨no λg=>by rcases g with ⟨_,g,_⟩ | ⟨g,_⟩<;>first | cases g | omega,rfl⟩
   | false=>
    by_cases hl0:l.length=0
    ·rw[oDF (show ¬ (l.length:Int) > 0 by omega)];exact .inl ⟨yes (.inl ⟨rfl,rfl,hl0⟩),by show some (Sum.inl (ls,(ls.length:Int),w64 ((i:Int)+1),cs,ls,()))=_;rw[hw]⟩
    ·rw[oDT (show (l.length:Int) > 0 by omega)];exact .inr ⟨no λg=>by rcases g with ⟨_,_,g⟩ | ⟨g,_⟩<;>omega,rfl⟩
  rw[show (t==(-1:Int))=false from oBF h1];by_cases h2:t < 0
  ·rw[oDT h2];exact .inr ⟨no λg=>by rcases g with ⟨g,_⟩ | ⟨g,_⟩<;>omega,rfl⟩
  rw[oDF h2];by_cases h3:t>=128
  ·rw[oDT h3];exact .inr ⟨no λg=>by rcases g with ⟨g,_⟩ | ⟨_,g,_⟩<;>omega,rfl⟩
  rw[oDF h3];simp only[oCF];by_cases h4:Int.tmod t 4=i
  rotate_left
  ·rw[show (Int.tmod t 4 != (i:Int))=true from bne_iff_ne.2 h4];exact .inr ⟨no λg=>g.elim (λg=>h1 g.1) λg=>h4 g.2.2.1,rfl⟩
  rw[show (Int.tmod t 4 != (i:Int))=false from bne_eq_false_iff_eq.2 h4];by_cases h5:(l.length:Int)=4
  rotate_left
  ·rw[show ((l.length:Int) != 4)=true from bne_iff_ne.2 h5];exact .inr ⟨no λg=>by rcases g with ⟨g,_⟩ | ⟨_,_,_,g,_⟩<;>omega,rfl⟩
  rw[show ((l.length:Int) != 4)=false from bne_eq_false_iff_eq.2 h5];rcases zH hxl with ⟨g,e⟩ | ⟨g,e⟩
  ·rw[e];exact .inl ⟨yes (.inr ⟨by omega,by omega,h4,by omega,g⟩),by show some (Sum.inl (ls,(ls.length:Int),w64 ((i:Int)+1),cs,ls,()))=_;rw[hw]⟩
  ·rw[e]
   exact .inr ⟨no λg'=>g'.elim (λg'=>h1 g'.1) λg'=>g g'.2.2.2.2,rfl⟩) (by
  unfold fe;dsimp only;rw[oDF (show ¬ (ls.length:Int) < ls.length by omega)]
  rfl) with ⟨hp,e⟩ | ⟨hp,e⟩
 ·rw[show dR fe NN (ls,(ls.length:Int),0,cs,ls,())=_ from e];exact .inl ⟨⟨⟨by omega,g⟩,by omega,hp⟩,rfl⟩
 ·rw[show dR fe NN (ls,(ls.length:Int),0,cs,ls,())=_ from e];exact .inr ⟨λg'=>hp g'.2.2,rfl⟩
theorem qQ{a b:List DCe}(h:a.length<=1000):DN (gV a b) (a=b):=by
 unfold gV;delta dM;dsimp only;by_cases hl:(a.length:Int)=b.length
 rotate_left
 ·rw[show ((a.length:Int) != b.length)=true from bne_iff_ne.2 hl];exact .inr ⟨λg=>hl (by rw[g]),rfl⟩
 rw[show ((a.length:Int) != b.length)=false from bne_eq_false_iff_eq.2 hl];simp only[oCF]
 have hiff:(∀i,i < a.length->a[i]?=b[i]?)↔a=b:=⟨λg=>List.ext_getElem? λi=>by
  by_cases hi:i < a.length
  ·exact g i hi
  ·rw[oGN (by omega),oGN (by omega)],λg i _=>by rw[g]⟩
 rcases IG (f:=fr) (N:=NN) (bad:=.inl (false,())) (good:=.inr (a,b,(a.length:Int),(a.length:Int),false,())) (λi=>(a,b,(a.length:Int),(i:Int),())) (n:=a.length) (λi=>a[i]?=b[i]?) (by unfold NN;omega) (λi hi _=>by
  obtain⟨x,hx⟩:∃x,a[i]?=some x:=⟨_,oGE hi⟩;obtain⟨y,hy⟩:∃y,b[i]?=some y:=⟨_,oGE (by omega)⟩;rw[hx,hy];unfold fr;dsimp only;rw[oDT (show (i:Int) < a.length by omega),dK];simp only[oCT,oBS,show dI a i=some x from hx,show dI b i=some y from hy];rw[dP (x:=(i:Int)+1) (by omega) (by omega)];obtain⟨x1,x2⟩:=x;obtain⟨y1,y2⟩:=y;dsimp only;by_cases g1:x1=y1
  ·by_cases g2:x2=y2
   ·subst g1;subst g2;rw[show (!((x1==x1) && ((x2==x2) && true)))=false by simp];exact .inl ⟨rfl,rfl⟩
   ·rw[show (!((x1==y1) && ((x2==y2) && true)))=true by simp[g2]];exact .inr ⟨λg=>g2 (by injection g with g;injection g),rfl⟩
  ·rw[show (!((x1==y1) && ((x2==y2) && true)))=true by simp[g1]]
   exact .inr ⟨λg=>g1 (by injection g with g;injection g),rfl⟩) (by
  unfold fr;dsimp only;rw[oDF (show ¬ (a.length:Int) < a.length by omega)]
  rfl) with ⟨hp,e⟩ | ⟨hp,e⟩
 ·rw[show dR fr NN (a,b,(a.length:Int),0,())=_ from e];exact .inl ⟨hiff.1 hp,rfl⟩
 ·rw[show dR fr NN (a,b,(a.length:Int),0,())=_ from e];exact .inr ⟨λg=>hp (hiff.2 g),rfl⟩
theorem Dv:jx=gV:=rfl
theorem sA{a b:List DLn}(hl:(a.length:Int)=b.length):(∀i,i < a.length->a[i]?=b[i]?)↔a=b:=⟨λg=>List.ext_getElem? λi=>by
 by_cases hi:i < a.length
 ·exact g i hi
 ·rw[oGN (by omega),oGN (by omega)],λg i _=>by rw[g]⟩
theorem GZ{cs cs':List DCe}{ls ls':List DLn}(h:Mid cs ls):DN (j9 cs ls cs' ls') (cs=cs'/\ls=ls'):=by
 have hll:=h.ll;unfold j9 mD gY;rw[Dv];rcases qQ (b:=cs') h.cl with ⟨g,e⟩ | ⟨g,e⟩
 rotate_left
 ·rw[e];exact .inr ⟨λg'=>g g'.1,rfl⟩
 rw[e];delta dM;simp only[oBS,oCT];by_cases hl:(ls.length:Int)=ls'.length
 rotate_left
 ·rw[show ((ls.length:Int) != ls'.length)=true from bne_iff_ne.2 hl];exact .inr ⟨λg'=>hl (by rw[g'.2]),rfl⟩
 rw[show ((ls.length:Int) != ls'.length)=false from bne_eq_false_iff_eq.2 hl];simp only[oCF]
 rcases IG (f:=eS) (N:=NN) (bad:=.inl (false,())) (good:=.inr (ls',ls,(ls.length:Int),(ls.length:Int),false,())) (λi=>(ls',ls,(ls.length:Int),(i:Int),())) (n:=ls.length) (λi=>ls[i]?=ls'[i]?) (by unfold NN;omega) (λi hi _=>by
  obtain⟨x,hx⟩:∃x,ls[i]?=some x:=⟨_,oGE hi⟩;obtain⟨y,hy⟩:∃y,ls'[i]?=some y:=⟨_,oGE (by omega)⟩;have hxl:=h.xl _ (dN hx);rw[hx,hy];unfold eS mI mD;rw[Dv];dsimp only;rw[oDT (show (i:Int) < ls.length by omega),dK];simp only[oCT,oBS,show dI ls i=some x from hx,show dI ls' i=some y from hy];rw[dP (x:=(i:Int)+1) (by omega) (by omega)];obtain⟨x1,x2,x3⟩:=x;obtain⟨y1,y2,y3⟩:=y;dsimp only at hxl ⊢;by_cases g1:x1=y1
  rotate_left
  ·rw[show (x1==y1)=false from oBF g1];exact .inr ⟨λg=>g1 (by injection g with g;injection g),rfl⟩
  by_cases g2:x2=y2
  rotate_left
  ·rw[show (x1==y1)=true from beq_iff_eq.2 g1,show (x2==y2)=false from oBF g2];exact .inr ⟨λg=>g2 (by injection g with g;injection g with g3 g;injection g),rfl⟩
  rw[show (x1==y1)=true from beq_iff_eq.2 g1,show (x2==y2)=true from beq_iff_eq.2 g2];rcases qQ (b:=y3) hxl with ⟨g3,e⟩ | ⟨g3,e⟩
  ·rw[e];subst g1;subst g2;subst g3;exact .inl ⟨rfl,rfl⟩
  ·rw[e]
   exact .inr ⟨λg=>g3 (by injection g with g;injection g with g4 g;injection g),rfl⟩) (by
  unfold eS;dsimp only;rw[oDF (show ¬ (ls.length:Int) < ls.length by omega)]
  rfl) with ⟨hp,e⟩ | ⟨hp,e⟩
 ·rw[show dR eS NN (ls',ls,(ls.length:Int),0,())=_ from e];exact .inl ⟨⟨g,(sA hl).1 hp⟩,rfl⟩
 ·rw[show dR eS NN (ls',ls,(ls.length:Int),0,())=_ from e];exact .inr ⟨λg'=>hp ((sA hl).2 g'.2),rfl⟩
theorem zg{cs cs':List DCe}{ls ls':List DLn}(h:Mid cs ls):DN (fP cs ls cs' ls') (cs=cs'/\ls=ls'):=by
 have hll:=h.ll;unfold fP;rcases qQ (b:=cs') h.cl with ⟨g,e⟩ | ⟨g,e⟩
 rotate_left
 ·rw[e];exact .inr ⟨λg'=>g g'.1,rfl⟩
 rw[e];delta dM;simp only[oBS,oNT,oCF];by_cases hl:(ls.length:Int)=ls'.length
 rotate_left
 ·rw[show ((ls.length:Int) != ls'.length)=true from bne_iff_ne.2 hl];exact .inr ⟨λg'=>hl (by rw[g'.2]),rfl⟩
 rw[show ((ls.length:Int) != ls'.length)=false from bne_eq_false_iff_eq.2 hl];simp only[oCF]
 rcases IG (f:=fq) (N:=NN) (bad:=.inl (false,())) (good:=.inr ((ls.length:Int),(ls.length:Int),false,cs,ls,cs',ls',())) (λi=>((ls.length:Int),(i:Int),cs,ls,cs',ls',())) (n:=ls.length) (λi=>ls[i]?=ls'[i]?) (by unfold NN;omega) (λi hi _=>by
  obtain⟨x,hx⟩:∃x,ls[i]?=some x:=⟨_,oGE hi⟩;obtain⟨y,hy⟩:∃y,ls'[i]?=some y:=⟨_,oGE (by omega)⟩;have hxl:=h.xl _ (dN hx);rw[hx,hy];unfold fq;dsimp only;rw[oDT (show (i:Int) < ls.length by omega),dK];simp only[oCT,oBS,show dI ls i=some x from hx,show dI ls' i=some y from hy];have hw:w64 ((i:Int)+1)=((i+1:Nat):Int):=dP (by omega) (by omega);obtain⟨x1,x2,x3⟩:=x;obtain⟨y1,y2,y3⟩:=y;dsimp only at hxl ⊢;by_cases g1:x1=y1
  rotate_left
  ·rw[show (x1 != y1)=true from bne_iff_ne.2 g1];exact .inr ⟨λg=>g1 (by injection g with g;injection g),rfl⟩
  by_cases g2:x2=y2
  rotate_left
  ·rw[show (x1 != y1)=false from bne_eq_false_iff_eq.2 g1,show (x2==y2)=false from oBF g2];exact .inr ⟨λg=>g2 (by injection g with g;injection g with g3 g;injection g),rfl⟩
  rw[show (x1 != y1)=false from bne_eq_false_iff_eq.2 g1,show (x2==y2)=true from beq_iff_eq.2 g2];rcases qQ (b:=y3) hxl with ⟨g3,e⟩ | ⟨g3,e⟩
  ·rw[e];subst g1;subst g2;subst g3;refine .inl ⟨rfl,?_⟩;show some (Sum.inl ((ls.length:Int),w64 ((i:Int)+1),cs,ls,cs',ls',()))=_;rw[hw]
  ·rw[e]
   exact .inr ⟨λg=>g3 (by injection g with g;injection g with g4 g;injection g),rfl⟩) (by
  unfold fq;dsimp only;rw[oDF (show ¬ (ls.length:Int) < ls.length by omega)]
  rfl) with ⟨hp,e⟩ | ⟨hp,e⟩
 ·rw[show dR fq NN ((ls.length:Int),0,cs,ls,cs',ls',())=_ from e];exact .inl ⟨⟨g,(sA hl).1 hp⟩,rfl⟩
 ·rw[show dR fq NN ((ls.length:Int),0,cs,ls,cs',ls',())=_ from e];exact .inr ⟨λg'=>hp ((sA hl).2 g'.2),rfl⟩
theorem Gx{a0:List DIn}{a1:List Int}{a2:List (List Int)}(h:a2.length<=maxLen):DN (qD a0 a1 a2) ((∀d∈a2,d.length<=100)/\a0.length<=80/\a1.length<=20/\a2.length<=20):=by
 have h:a2.length<=9223372036854775807:=h;unfold qD;delta dM;dsimp only
 have hiff:(∀i,i < a2.length->∀d,a2[i]?=some d->d.length<=100)↔∀d∈a2,d.length<=100:=
  ⟨λh c hc=>by
   obtain⟨i,hi⟩:=List.getElem?_of_mem hc
   exact h i (oGS hi).1 c hi,λh i _ c hc=>h c (dN hc)⟩
 rcases IG (f:=iW) (N:=NN) (bad:=.inl (false,())) (good:=.inr (a2,(a2.length:Int),(a2.length:Int),false,a0,a1,a2,())) (λi=>(a2,(a2.length:Int),(i:Int),a0,a1,a2,())) (n:=a2.length) (λi=>∀d,a2[i]?=some d->d.length<=100) (by unfold NN;omega) (λi hi _=>by
  have hx:a2[i]?=some a2[i]:=oGE hi;unfold iW;delta dM;dsimp only;rw[oDT (show (i:Int) < a2.length by omega),dK];simp only[oCT,oBS,show dI a2 i=some a2[i] from hx];by_cases g:(a2[i].length:Int) > 100
  ·rw[oDT g];exact .inr ⟨λhh=>by have:=hh _ hx;omega,rfl⟩
  ·rw[oDF g,dP (x:=(i:Int)+1) (by omega) (by omega)]
   exact .inl ⟨λc hc=>by rw[hx] at hc;injection hc with hc;rw[<- hc];omega,rfl⟩) (by
  unfold iW;dsimp only;rw[oDF (show ¬ (a2.length:Int) < a2.length by omega)]
  rfl) with ⟨hp,e⟩ | ⟨hp,e⟩
 ·rw[show dR iW NN (a2,(a2.length:Int),0,a0,a1,a2,())=_ from e];dsimp only;by_cases g1:(a0.length:Int)<=80
  rotate_left
  ·rw[oDF g1];exact .inr ⟨λg=>by omega,rfl⟩
  rw[oDT g1];by_cases g2:(a1.length:Int)<=20
  rotate_left
  ·rw[oDF g2];exact .inr ⟨λg=>by omega,rfl⟩
  rw[oDT g2];by_cases g3:(a2.length:Int)<=20
  rotate_left
  ·rw[oDF g3];exact .inr ⟨λg=>by omega,rfl⟩
  rw[oDT g3];exact .inl ⟨⟨hiff.1 hp,by omega,by omega,by omega⟩,rfl⟩
 ·rw[show dR iW NN (a2,(a2.length:Int),0,a0,a1,a2,())=_ from e];exact .inr ⟨λg=>hp (hiff.2 g.1),rfl⟩
theorem xJ:iX=some (true,()):=by kernel_rfl
theorem i9.mid{K:Int->Prop}{cs:List DCe}{ls:List DLn}(h:i9 K cs ls):Mid cs ls:=⟨by rw[h.clen];omega,by rw[h.llen];omega,λx hx=>Nat.le_trans (h.sh4.2 x hx) (by omega)⟩
theorem Mid.mod{cs:List DCe}{ls:List DLn}(h:Mid cs ls) {k:Nat}{f:DLn->DLn}(hf:∀x,x.2.2.length<=1000->(f x).2.2.length<=1000):Mid cs (List.modify ls k f):=⟨h.cl,by rw[oLM];exact h.ll,io (P:=λx:DLn=>x.2.2.length<=1000) h.xl hf⟩
theorem GY{K:Int->Prop}{cs:List DCe}{ls:List DLn}{a b c:Int}(h:i9 K cs ls) (ha:vg a) (hb:vg b) (hc:vg c) :
 Ok (kZ cs ls a b c) λy=>∃cs' ls',(y=.inl (cs',ls',())\/y=.inr (cs',ls',()))/\Mid cs' ls':=by
 have h5:=h.clen;have h4:=h.llen;have hm:=h.mid;unfold kZ;rw[DB h];delta dM;simp only[oBS];rw[h4,h5,show ((4:Nat):Int)=4 from rfl,show ((512:Nat):Int)=512 from rfl,up (b:=4) hb (by decide) (by decide),up (b:=9) ha (by decide) (by decide),up (b:=5) hc (by decide) (by decide),up (b:=9) hc (by decide) (by decide),up (b:=140) hc (by decide) (by decide),up (b:=4) hc (by decide) (by decide),up (b:=512) hb (by decide) (by decide)];obtain⟨k,hk⟩:∃k:Nat,b % 4=k:=⟨(b % 4).toNat,by omega⟩;obtain⟨q,hq⟩:∃q:Nat,b % 512=q:=⟨(b % 512).toNat,by omega⟩;obtain⟨x,hx⟩:∃x,ls[k]?=some x:=⟨_,oGE (by omega)⟩;obtain⟨x0,hx0⟩:∃x,ls[0]?=some x:=⟨_,oGE (by omega)⟩;obtain⟨y,hy⟩:∃y,cs[q]?=some y:=⟨_,oGE (by omega)⟩;have hxl:=hm.xl x (dN hx);have hxl4:=h.sh4.2 x (dN hx);rw[hk,hq];simp only[oBS,dK,show dI ls k=some x from hx,show dI ls 0=some x0 from hx0,show dI cs q=some y from hy]
 obtain g | g | g | g | g | g | g | g | g:a % 9=0\/a % 9=1\/a % 9=2\/a % 9=3\/a % 9=4\/a % 9=5\/a % 9=6\/a % 9=7\/a % 9=8:=by omega
 all_goals rw[g]
 ·exact⟨_,rfl,_,_,.inl rfl,⟨by unfold jN;rw[oLT,List.length_drop];omega,hm.ll,hm.xl⟩⟩
 ·exact⟨_,rfl,_,_,.inl rfl,⟨by rw[oLM];exact hm.cl,hm.ll,hm.xl⟩⟩
 ·rw[show dY 40 4 ([(x0.1,x0.2.1,x0.2.2)]:List DLn).length=true from rfl];refine⟨_,rfl,_,_,.inr rfl,⟨hm.cl,?_,?_⟩⟩
  ·show (ls++[_]).length<=1000;rw[List.length_append,h4,List.length_singleton];decide
  ·intro z hz;rcases List.mem_append.1 (show z∈ls++[_] from hz) with hz | hz
   ·exact hm.xl z hz
   ·rw[List.mem_singleton.1 hz];exact hm.xl x0 (dN hx0)
 ·exact⟨_,rfl,_,_,.inl rfl,hm.mod λ_ h=>h⟩
 ·exact⟨_,rfl,_,_,.inl rfl,hm.mod λ_ h=>h⟩
 ·rw[show Nat.beq k k=true by simp,dS (b:=4) (n:=x.2.2.length) (m:=([((0:Int),(0:Int))]:List DCe).length) ⟨by omega,by simp only[List.length_singleton];omega⟩];refine⟨_,rfl,_,_,.inl rfl,hm.mod λ_ _=>?_⟩;show (x.2.2++[_]).length<=1000;rw[List.length_append];simp only[List.length_singleton];omega
 ·rw[show nL 4 4 2=true from rfl];exact⟨_,rfl,_,_,.inl rfl,hm.mod λ_ _=>by dsimp only;rw[List.length_replicate];omega⟩
 ·by_cases hpos:(x.2.2.length:Int) > 0
  ·obtain⟨z,hz⟩:∃z,x.2.2[0]?=some z:=⟨_,oGE (by omega)⟩;rw[oDT hpos];simp only[show dI x.2.2 0=some z from hz,oBS];exact⟨_,rfl,_,_,.inl rfl,hm.mod λ_ h=>by dsimp only;rw[oLM];exact h⟩
  ·rw[oDF hpos];exact⟨_,rfl,_,_,.inl rfl,hm⟩
 ·exact⟨_,rfl,_,_,.inl rfl,hm⟩
def SmP(q:List DIn×List Int×List (List Int)):Prop:=q.2.1.length<=1000/\q.2.2.length<=1000/\∀d∈q.2.2,d.length<=1000
def SmL(z:List Int×Int):Prop:=z.1.length<=1000/\∀b∈z.1,vg b
theorem Pe{α:Type}{P:α->Prop}{a b:α}(ha:P a) (hb:P b):∀x∈[a,b],P x:=by
 intro x hx;simp only[List.mem_cons,List.not_mem_nil,or_false] at hx
 rcases hx with rfl | rfl<;>assumption
theorem Pd{α:Type}{P:α->Prop}{a b c:α}(ha:P a) (hb:P b) (hc:P c):∀x∈[a,b,c],P x:=by
 intro x hx;simp only[List.mem_cons,List.not_mem_nil,or_false] at hx
 rcases hx with rfl | rfl | rfl<;>assumption
theorem Jl{a0:List DIn}{a1:List Int}{a2:List (List Int)}{a3:List Int}{a4:Int}{l:List Int}{a6 a7 a8:Int}(h2:a2.length<=maxLen) (h3:∀b∈a3,vg b) (hl:∀x∈l,vg x) (hm:l.length<=maxLen) (h6:vg a6) (h7:vg a7) (h8:vg a8) :
 jz a0 a1 a2 a3 a4 l a6 a7 a8=some (true,()):=by
 refine eV ?_;unfold jz;rcases Gx (a0:=a0) (a1:=a1) h2 with ⟨⟨hd1,hd2,hd3,hd4⟩,e⟩ | ⟨_,e⟩
 rotate_left
 ·rw[e,xJ];exact Ok.ret rfl
 rw[e];delta dM;simp only[oBS,oNT,oCF]
 (with_reducible refine dF (λhcu=>?_) λhcu=>?_)
 ·rw[xJ];exact Ok.ret rfl
 refine (G9 (BO hl hm)).bind ?_;rintro _ ⟨code,ss,dt,bs,key,cs,ls,ts,k',rfl,hp,hkey,hM,hd⟩;dsimp only;have hmm:=hM.mem;have hm0:=hmm.mid;obtain⟨y,e,cs',ls',hy,hmid⟩:=GY hmm h6 h7 h8;rw[e];obtain⟨v,ev,_⟩:=(rK hmid).val;obtain⟨w,ew,_⟩:=(zg (cs':=cs') (ls':=ls') hm0).val;have hdl:=hp.len;have hs1:=hp.sz.1;have hs4:=hp.sz.2.1;obtain⟨i,hi⟩:∃i:Nat,a8 % 36=i:=⟨(a8 % 36).toNat,by omega⟩
 have hdt:∀d∈dt,d.length<=1000:=λd hdm=>by
  obtain⟨j,hj⟩:=List.getElem?_of_mem hdm;obtain⟨z,hz⟩:∃z,ss[j]?=some z:=⟨_,oGE (by have:=(oGS hj).1;omega)⟩;have:=hp.fit j d z hj hz;have:=(hp.sz.2.2 z (dN hz)).2;omega
 have hbs:∀b∈bs,vg b:=λb hb=>by
  obtain⟨r,hr⟩:=List.getElem?_of_mem hb;obtain⟨b',z,hgb,hgz,z1,z32,b0,bz⟩:=hM.lay.at_ (r:=r) (by have:=(oGS hr).1;have:=hM.lay.2.1;omega);rw[hr] at hgb
  injection hgb with hgb
  subst hgb;unfold vg;omega
 rcases hy with rfl | rfl
 all_goals
  dsimp only;rw[(wu hm0).same (rK hm0),yW hmm,(wu hmid).same (rK hmid),ev,(GZ (cs':=cs') (ls':=ls') hm0).same (zg hm0),ew,Lb hm0.cl hmm.sh4];simp only[oBS,BEq.rfl,oNT,oCF];rw[Jh hm0.cl hmm.sh4];simp only[oBS,oNT,oCF];refine dG (by unfold gS;simp;omega) ?_
  have hwl:(jN dt 1 (Nat.sub dt.length 1)).length<=4:=by unfold jN;rw[oLT,List.length_drop];omega
  refine dG (dS (by omega)) ?_;rw[up (b:=36) h8 (by decide) (by decide),hi];simp only[oBS,dK];refine dG (by unfold nL;simp;omega) ?_;refine dG (dS ⟨by omega,by show (jN dt 1 (Nat.sub dt.length 1)).length+1<=1000000;omega⟩) ?_;obtain⟨X,hX⟩:∃X,X=List.append (List.append [] (jN dt 1 (Nat.sub dt.length 1))) [List.replicate i 0]:=⟨_,rfl⟩;rw[<- hX]
  have hXs:X.length<=1000/\∀d∈X,d.length<=1000:=by
   have hX:X=jN dt 1 (Nat.sub dt.length 1)++[List.replicate i 0]:=hX;rw[hX];refine⟨by rw[List.length_append];simp only[List.length_singleton];omega,λd hdm=>?_⟩;rcases List.mem_append.1 hdm with g | g
   ·unfold jN at g;exact hdt d (List.mem_of_mem_drop (List.mem_of_mem_take g))
   ·rw[List.mem_singleton.1 g,List.length_replicate];omega
  obtain⟨Q,hQ⟩:∃Q:List (List DIn×List Int×List (List Int)),Q=[(code,ss,dt),(a0,a1,a2),(code,ss,X)]:=⟨_,rfl⟩
  have hQ3:Q.length=3:=by rw[hQ];rfl
  have hQs:∀q∈Q,SmP q:=by
   rw[hQ];exact Pd ⟨by dsimp only;omega,by dsimp only;omega,hdt⟩ ⟨by dsimp only;omega,by dsimp only;omega,λd hdm=>Nat.le_trans (hd1 d hdm) (by omega)⟩ ⟨by dsimp only;omega,hXs⟩
  rw[<- hQ,hQ3,show ((3:Nat):Int)=3 from rfl]
  have e1:dR ge NN (3,0,a3,a4,bs,key,cs,ls,ts,Q,())=some (.inr (3,3,false,a3,a4,bs,key,cs,ls,ts,Q,())):=by
   refine my (st:=λj=>(3,(j:Int),a3,a4,bs,key,cs,ls,ts,Q,())) (n:=3) (by unfold NN;omega) ?_ ?_
   ·intro j hj;unfold ge;delta dM;dsimp only;obtain⟨⟨qc,qs,qd⟩,hqj⟩:∃q,Q[j]?=some q:=⟨_,oGE (by omega)⟩;obtain⟨q1,q2,q3⟩:=hQs _ (dN hqj);rw[oDT (show (j:Int) < 3 by omega),dK];simp only[oCT,oBS,show dI Q j=some (qc,qs,qd) from hqj];obtain⟨W,hW⟩:∃W:List (List Int×Int),W=[(bs,key),(a3,a4)]:=⟨_,rfl⟩
    have hW2:W.length=2:=by rw[hW];rfl
    have hWs:∀z∈W,SmL z:=by
     rw[hW];exact Pe ⟨by have:=hM.lay.2.1;dsimp only;omega,hbs⟩ ⟨by dsimp only;omega,h3⟩
    rw[<- hW,hW2,show ((2:Nat):Int)=2 from rfl]
    have e2:dR iq NN (3,(j:Int),2,0,a3,a4,bs,key,cs,ls,ts,qc,qs,qd,Q,W,())=some (.inr (3,(j:Int),2,2,false,a3,a4,bs,key,cs,ls,ts,qc,qs,qd,Q,W,())):=by
     refine my (st:=λi=>(3,(j:Int),2,(i:Int),a3,a4,bs,key,cs,ls,ts,qc,qs,qd,Q,W,())) (n:=2) (by unfold NN;omega) ?_ ?_
     ·intro i hi;unfold iq;dsimp only;obtain⟨⟨zb,zk⟩,hzi⟩:∃z,W[i]?=some z:=⟨_,oGE (by omega)⟩;obtain⟨z1,z2⟩:=hWs _ (dN hzi);dsimp only at q1 q2 q3 z1 z2;rw[oDT (show (i:Int) < 2 by omega),dK];simp only[oCT,oBS,show dI W i=some (zb,zk) from hzi];obtain⟨rc,rl,re,e3,e4,r1,r2⟩:=Jm (code:=qc) (key:=zk) z1 q1 z2 q2 q3;rw[e3,e4];simp only[oBS,bne_self_eq_false,oCF];rw[Jh r1 r2];simp only[oBS,oNT,oCF];rw[dP (x:=(i:Int)+1) (by omega) (by omega)];exact Ok.ret rfl
     ·exact Ok.ret rfl
    rw[e2];dsimp only;rw[dP (x:=(j:Int)+1) (by omega) (by omega)];exact Ok.ret rfl
   ·exact Ok.ret rfl
  rw[e1];dsimp only;rw[xJ];exact Ok.ret rfl
theorem law_MemoryLoads{h0:HL den [eZ,RI,.row false RW]}{h1:HL den [RI,.int .u16]}{h2:HL den [RI]}{h3:HL den [I64]}{h4:HL den [I64]}{h5:HL den [I64]}(g0:GoodL _ h0) (g1:GoodL _ h1) (g2:GoodL _ h2) (g3:GoodL _ h3) (g4:GoodL _ h4) (g5:GoodL _ h5) :
 mZ.g (appL _ _ h0 (appL _ _ h1 (appL _ _ h2 (appL _ _ h3 (appL _ _ h4 (appL _ _ h5 ()))))))=some (true,()):=
 Jl g0.2.2.1.1 (Ng g1.1).1 (Ng g2.1).1 (Ng g2.1).2 (g64 g3.1) (g64 g4.1) (g64 g5.1)
end Go.Proofs.YtbapcamohngjbaaGreat
