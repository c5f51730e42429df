/- Part of the proof; no condition. -/
import Derived.Test.YtbapcamohngjbaaGreatMe
import Derived.Deep.Slices
set_option linter.unusedVariables false
set_option linter.unusedSimpArgs false
namespace Go.Proofs.YtbapcamohngjbaaGreat
open Go.RowKit
def NA(bs ss:List Int) (key:Int) (cs:List DCe) (ls:List DLn) (r o:Nat):DCn:=qQ bs ss key (D2 cs ls (bs.getD r 0+o))
def MB(bs ss:List Int) (key:Int) (cs:List DCe) (ls:List DLn) (r:Nat):List DCn:=(List.range (ss.getD r 0).toNat).map (NA bs ss key cs ls r)
def DF(bs ss:List Int) (key:Int) (cs:List DCe) (ls:List DLn):List (List DCn):=(List.range ss.length).map (MB bs ss key cs ls)
def td(bs ss:List Int) (key:Int) (t:DTh):DTs:=(t.1,t.2.2.1,t.2.2.2.1,t.2.2.2.2.1,t.2.2.2.2.2.1,t.2.2.2.2.2.2.1,t.2.2.2.2.2.2.2,t.2.1.map (qQ bs ss key))
theorem LV.at_{bs ss:List Int}(h:LV bs ss) {r:Nat}(hr:r < ss.length):∃b z,bs[r]?=some b/\ss[r]?=some z/\1<=z/\z<=32/\0<=b/\b+z<=512:=by
 obtain⟨hs,hl,hg⟩:=h;obtain⟨b,hb⟩:∃b,bs[r]?=some b:=⟨_,oGE (by omega)⟩;obtain⟨z,hz⟩:∃z,ss[r]?=some z:=⟨_,oGE (by omega)⟩;have h1:=hg r (by omega);unfold vi at h1;rw[eG hb,eG hz] at h1;have h2:=hs.2.2 z (dP hz);exact⟨b,z,hb,hz,h2.1,h2.2,h1.1,h1.2.1⟩
theorem Gs{K:Int->Prop}{bs ss:List Int}{key:Int}{cs:List DCe}{ls:List DLn}(h:LV bs ss) (hm:jp K cs ls):jJ cs ls bs key ss=some (DF bs ss key cs ls,()):=by
 have hs4:=h.1.2.1
 have e0:∀(r:Nat) (b z:Int),bs[r]?=some b->ss[r]?=some z->1<=z->z<=32->0<=b->b+z<=512->∀(a1 a2 a3:_) (out:List (List DCn)),dU fW NN (ss,(r:Int),a1,a2,a3,z,0,cs,ls,bs,key,out,[],())=some (ss,(r:Int),a1,a2,a3,z,z,false,cs,ls,bs,key,out,MB bs ss key cs ls r,()):=by
  intro r b z hb hz z1 z32 b0 bz a1 a2 a3 out;obtain⟨n,rfl⟩:∃n:Nat,z=n:=⟨z.toNat,by omega⟩
  have e:MB bs ss key cs ls r=(List.range n).map (NA bs ss key cs ls r):=by unfold MB;rw[eG hz,oTN]
  rw[e];refine l8 (f:=fW) (N:=NN) (st:=λo=>(ss,(r:Int),a1,a2,a3,(n:Int),(o:Int),cs,ls,bs,key,out,(List.range o).map (NA bs ss key cs ls r),())) (n:=n) (by unfold NN;omega) ?_ ?_
  ·intro o ho;unfold fW;dsimp only;rw[oDT (show (o:Int) < n by omega),dN];simp only[oCT,oBS,show dK bs r=some b from hb];rw[dQ (x:=b+o) (by omega) (by omega)];obtain⟨hlk,hlv⟩:=zQ (a:=b+o) hm ⟨by omega,by omega⟩;rw[hlk];simp only[oBS];rw[qr h hlv];simp only[oBS];refine dH (dT (by simp;omega)) ?_;rw[dQ (x:=(o:Int)+1) (by omega) (by omega)];refine Ok.ret ?_;rw[<- ni];unfold NA;rw[eG hb];rfl
  ·unfold fW;dsimp only;rw[oDF (show ¬ (n:Int) < n by omega)];exact Ok.ret rfl
 have e1:dU fV NN (ss,ss,(ss.length:Int),0,cs,ls,bs,key,[],())=some (ss,ss,(ss.length:Int),(ss.length:Int),false,cs,ls,bs,key,DF bs ss key cs ls,()):=by
  refine l8 (f:=fV) (N:=NN) (st:=λr=>(ss,ss,(ss.length:Int),(r:Int),cs,ls,bs,key,(List.range r).map (MB bs ss key cs ls),())) (n:=ss.length) (by unfold NN;omega) ?_ ?_
  ·intro r hr;obtain⟨b,z,hb,hz,z1,z32,b0,bz⟩:=h.at_ hr;unfold fV;dsimp only;rw[oDT (show (r:Int) < ss.length by omega),dN];simp only[oCT,oBS,show dK ss r=some z from hz];rw[e0 r b z hb hz z1 z32 b0 bz];simp only[oBS];refine dH (dT (by simp;omega)) ?_;rw[dQ (x:=(r:Int)+1) (by omega) (by omega)];refine Ok.ret ?_;rw[<- ni];rfl
  ·unfold fV;dsimp only;rw[oDF (show ¬ (ss.length:Int) < ss.length by omega)];exact Ok.ret rfl
 unfold jJ;delta dM
 try dsimp only
 rw[e1];rfl
theorem J3{n key:Int}{code:List DIn}{dt:List (List Int)}{bs ss:List Int}{cs:List DCe}{ls:List DLn}{ts:List DTh}(h:MOk n ss bs cs ls ts):lw code ss dt bs key cs ls ts=some (DF bs ss key cs ls,ts.map (td bs ss key),()):=by
 have h4:=h.tlen
 have e1:dU gN NN (ts,(ts.length:Int),0,code,ss,dt,bs,key,cs,ls,ts,(),(),DF bs ss key cs ls,[],())=some (ts,(ts.length:Int),(ts.length:Int),false,code,ss,dt,bs,key,cs,ls,ts,(),(),DF bs ss key cs ls,ts.map (td bs ss key),()):=by
  have:=l8 (f:=gN) (N:=NN) (st:=λr=>(ts,(ts.length:Int),(r:Int),code,ss,dt,bs,key,cs,ls,ts,(),(),DF bs ss key cs ls,(ts.take r).map (td bs ss key),())) (n:=ts.length) (t:=(ts,(ts.length:Int),(ts.length:Int),false,code,ss,dt,bs,key,cs,ls,ts,(),(),DF bs ss key cs ls,ts.map (td bs ss key),())) (by unfold NN;omega) ?_ ?_
  ·exact this
  ·intro r hr;obtain⟨t,ht⟩:∃t,ts[r]?=some t:=⟨_,oGE (by omega)⟩;have hok:=h.thr t (dP ht);have h8:=hok.len;unfold gN;delta dM;dsimp only;rw[oDT (show (r:Int) < ts.length by omega),dN];simp only[oCT,oBS,show dK ts r=some t from ht]
   have e0:∀(a1 a2 a3 a4 a5 a6 a7 a8 a9 a10 a11 a12 a13 a14:_),dU gO NN (ts,(ts.length:Int),(r:Int),t.2.1,(t.2.1.length:Int),0,code,ss,dt,bs,key,cs,ls,ts,(),(),DF bs ss key cs ls,(ts.take r).map (td bs ss key),a1,t.2.1,a2,a3,a4,a5,a6,a7,a8,a9,a10,a11,a12,a13,a14,[],()) =
    some (ts,(ts.length:Int),(r:Int),t.2.1,(t.2.1.length:Int),(t.2.1.length:Int),false,code,ss,dt,bs,key,cs,ls,ts,(),(),DF bs ss key cs ls,(ts.take r).map (td bs ss key),a1,t.2.1,a2,a3,a4,a5,a6,a7,a8,a9,a10,a11,a12,a13,a14,t.2.1.map (qQ bs ss key),()):=by
    intro a1 a2 a3 a4 a5 a6 a7 a8 a9 a10 a11 a12 a13 a14
    have:=l8 (f:=gO) (N:=NN) (st:=λo=>(ts,(ts.length:Int),(r:Int),t.2.1,(t.2.1.length:Int),(o:Int),code,ss,dt,bs,key,cs,ls,ts,(),(),DF bs ss key cs ls,(ts.take r).map (td bs ss key),a1,t.2.1,a2,a3,a4,a5,a6,a7,a8,a9,a10,a11,a12,a13,a14,(t.2.1.take o).map (qQ bs ss key),())) (n:=t.2.1.length)
     (t:=(ts,(ts.length:Int),(r:Int),t.2.1,(t.2.1.length:Int),(t.2.1.length:Int),false,code,ss,dt,bs,key,cs,ls,ts,(),(),DF bs ss key cs ls,(ts.take r).map (td bs ss key),a1,t.2.1,a2,a3,a4,a5,a6,a7,a8,a9,a10,a11,a12,a13,a14,t.2.1.map (qQ bs ss key),())) (by unfold NN;omega) ?_ ?_
    ·exact this
    ·intro o ho;obtain⟨c,hc⟩:∃c,t.2.1[o]?=some c:=⟨_,oGE ho⟩;unfold gO;dsimp only;rw[oDT (show (o:Int) < t.2.1.length by omega),dN];simp only[oCT,oBS,show dK t.2.1 o=some c from hc];rw[qr h.lay (hok.regs c (dP hc))];simp only[oBS];refine dH (dT (by simp;omega)) ?_;rw[dQ (x:=(o:Int)+1) (by omega) (by omega)];refine Ok.ret ?_;rw[<- gJ (qQ bs ss key) hc];rfl
    ·unfold gO;dsimp only;rw[oDF (show ¬ (t.2.1.length:Int) < t.2.1.length by omega),List.take_length];exact Ok.ret rfl
   rw[e0];simp only[oBS];refine dH (dT (by simp;omega)) ?_;rw[dQ (x:=(r:Int)+1) (by omega) (by omega)];refine Ok.ret ?_;rw[<- gJ (td bs ss key) ht];rfl
  ·unfold gN;dsimp only;rw[oDF (show ¬ (ts.length:Int) < ts.length by omega),List.take_length];exact Ok.ret rfl
 unfold lw;delta dM;simp only[Gs h.lay h.mem,oBS];rw[e1];rfl
structure OE (n:Int) (ss:List Int) (v:DTs):Prop where
 state:0<=v.1/\v.1<=4
 pc:0<=v.2.1/\v.2.1<=255
 count:0<=v.2.2.1/\v.2.2.1<=n
 handler:-1<=v.2.2.2.1/\v.2.2.2.1<=255
 saved:-1<=v.2.2.2.2.1/\v.2.2.2.2.1<=255
 trap:0<=v.2.2.2.2.2.1/\v.2.2.2.2.2.1<=6
 code:W16 v.2.2.2.2.2.2.1
 len:v.2.2.2.2.2.2.2.length=8
 regs:∀c∈v.2.2.2.2.2.2.2,Pr ss c
structure Bv (n:Int) (ss:List Int) (rg:List (List DCn)) (vs:List DTs):Prop where
 rlen:rg.length=ss.length
 fit:∀(j:Nat) x z,rg[j]?=some x->ss[j]?=some z->(x.length:Int)=z
 cells:∀x∈rg,∀c∈x,Pr ss c
 vlen:vs.length=4
 views:∀v∈vs,OE n ss v
theorem J2{n key:Int}{bs ss:List Int}{cs:List DCe}{ls:List DLn}{ts:List DTh}(h:MOk n ss bs cs ls ts):Bv n ss (DF bs ss key cs ls) (ts.map (td bs ss key)):=by
 refine⟨by unfold DF;simp,λj x z hx hz=>?_,λx hx c hc=>?_,by rw[List.length_map];exact h.tlen,λv hv=>?_⟩
 ·unfold DF at hx;rw[List.getElem?_map,List.getElem?_range (oGS hz).1] at hx
  injection hx with hx
  subst hx;have:=(h.lay.1.2.2 z (dP hz)).1;unfold MB;rw[List.length_map,List.length_range,eG hz];omega
 ·unfold DF at hx;obtain⟨r,hr,rfl⟩:=List.mem_map.1 hx;have hr:=List.mem_range.1 hr;obtain⟨b,z,hb,hz,z1,z32,b0,bz⟩:=h.lay.at_ hr;unfold MB at hc;obtain⟨o,ho,rfl⟩:=List.mem_map.1 hc;have ho:=List.mem_range.1 ho;rw[eG hz] at ho;unfold NA;rw[eG hb];exact Bp h.lay (zQ (a:=b+o) h.mem ⟨by omega,by omega⟩).2
 ·obtain⟨t,ht,rfl⟩:=List.mem_map.1 hv;have hok:=h.thr t ht;refine⟨hok.state,hok.pc,hok.count,hok.handler,hok.saved,hok.trap,hok.code,by unfold td;dsimp only;rw[List.length_map];exact hok.len,λc hc=>?_⟩;unfold td at hc;dsimp only at hc;obtain⟨c',hc',rfl⟩:=List.mem_map.1 hc;exact Bp h.lay (hok.regs c' hc')
theorem HI{l:List Int}(h:∀x∈l,1<=x/\x<=32):(l.length:Int)<=l.sum/\l.sum<=32*l.length:=by
 induction l with
 | nil=>simp
 | cons a l ih=>
  have h1:=h a (by simp);have h2:=ih λx hx=>h x (by simp[hx]);rw[List.sum_cons,oLC];omega
theorem MZ{l:List Int}{k:Nat}{x:Int}(h:l[k]?=some x):l.drop k=x :: l.drop (k+1):=by
 obtain⟨hk,rfl⟩:=oGS h;exact List.drop_eq_getElem_cons hk
theorem JZ{ss:List Int}(h:xC ss):lH ss=some (ss.sum,()):=by
 have e:dU gR NN (0,ss,(ss.length:Int),0,())=some (ss.sum,ss,(ss.length:Int),(ss.length:Int),false,()):=by
  have:=l8 (f:=gR) (N:=NN) (st:=λk=>((ss.take k).sum,ss,(ss.length:Int),(k:Int),())) (n:=ss.length) (t:=(ss.sum,ss,(ss.length:Int),(ss.length:Int),false,())) (by unfold NN;have:=h.2.1;omega) ?_ ?_
  ·exact this
  ·intro k hk;obtain⟨x,hx⟩:∃x,ss[k]?=some x:=⟨_,oGE hk⟩;have hx2:=h.2.2 x (dP hx);have hb:=HI (l:=ss.take k) λy hy=>h.2.2 y (List.mem_of_mem_take hy);have hl:=h.2.1;rw[oLT] at hb;unfold gR;dsimp only;rw[oDT (show (k:Int) < ss.length by omega),dN];simp only[oCT,oBS,show dK ss k=some x from hx];rw[dQ (x:=(ss.take k).sum+x) (by omega) (by omega),dQ (x:=(k:Int)+1) (by omega) (by omega)];refine Ok.ret ?_;rw[show ss.take (k+1)=ss.take k++[x] by rw[List.take_add_one,hx];rfl];simp
  ·unfold gR;dsimp only;rw[oDF (show ¬ (ss.length:Int) < ss.length by omega),List.take_length];exact Ok.ret rfl
 unfold lH;delta dM
 try dsimp only
 rw[e];rfl
theorem OD{ss:List Int}{i:Int}(h:xC ss) (h0:0<=i) (h1:i < ss.sum):Ok (qe ss i) λr=>∃rg o,r=(rg,o,0,())/\0<=rg/\∃n,ss[rg.toNat]?=some n/\0<=o/\o < n:=by
 have hl:=h.2.1;unfold qe;delta dM
 try dsimp only
 obtain⟨y,e,rg,o,rfl,hy⟩:=fH (f:=n7) (n:=NN) (s:=(i,ss,(ss.length:Int),0,0,0,())) (P:=λs'=>∃(k:Nat) (i':Int),s'=(i',ss,(ss.length:Int),(k:Int),0,0,())/\k<=ss.length/\0<=i'/\i' < (ss.drop k).sum/\i'<=1000)
  (R:=λy=>∃rg o,y=.inl (0,rg,o,())/\0<=rg/\∃n,ss[rg.toNat]?=some n/\0<=o/\o < n) (m:=λs'=>(s'.2.2.1 - s'.2.2.2.1).toNat) ⟨0,i,rfl,by omega,h0,h1,by have:=(HI h.2.2).2;omega⟩ (by unfold NN;dsimp only;omega) (by
   rintro _ ⟨k,i',rfl,hk,i0,i1,i2⟩;unfold n7;dsimp only;by_cases hkl:k=ss.length
   ·subst hkl;rw[List.drop_length] at i1;simp at i1;omega
   obtain⟨x,hx⟩:∃x,ss[k]?=some x:=⟨_,oGE (by omega)⟩;have hx2:=h.2.2 x (dP hx);rw[MZ hx,List.sum_cons] at i1;rw[oDT (show (k:Int) < ss.length by omega),dN];simp only[oCT,oBS,show dK ss k=some x from hx];rw[oDT (show i'>=0 from i0)];by_cases hlt:i' < x
   ·rw[oDT hlt];exact Ok.ret ⟨_,_,rfl,by omega,x,by rw[oTN];exact hx,i0,hlt⟩
   ·rw[oDF hlt];simp only[oCT,oCF];rw[dQ (x:=i' - x) (by omega) (by omega),dQ (x:=(k:Int)+1) (by omega) (by omega)]
    exact Ok.ret ⟨⟨k+1,_,rfl,by omega,by omega,by omega,by omega⟩,by dsimp only;omega⟩)
 rw[e];exact Ok.ret ⟨rg,o,rfl,hy⟩
theorem FP{ss l:List Int}{k:Int}(hs:xC ss) (h:DOk l k):Ok (kY ss l k) λr=>∃t v rg o k',r=(t,v,rg,o,l,k',())/\Pr ss (t,v,rg,o)/\DOk l k':=by
 unfold kY
 (with_reducible refine fi (by assumption) (by omega) (by omega) (λv0 k0 a0 b0 d0=>?_);try dsimp only)
 rw[JZ hs];simp only[oBS];have hb:=HI hs.2.2;have h1:=hs.1;have h4:=hs.2.1
 (with_reducible refine dG (λhca=>?_) λhca=>?_)
 ·(with_reducible refine fi (by assumption) (by omega) (by omega) (λv1 k1 a1 b1 d1=>?_);try dsimp only)
  refine (OD hs a1 b1).bind ?_;rintro _ ⟨rg,o,rfl,g1,n,g2,g3,g4⟩;exact Ok.ret ⟨_,_,_,_,_,rfl,.inr ⟨rfl,rfl,g1,n,g2,g3,g4⟩,d1⟩
 (with_reducible refine dG (λhcb=>?_) λhcb=>?_)
 ·(with_reducible refine fi (by assumption) (by omega) (by omega) (λv2 k2 a2 b2 d2=>?_);try dsimp only)
  exact Ok.ret ⟨_,_,_,_,_,rfl,LC (mc _),d2⟩
 ·(with_reducible refine EX (by assumption) (λv3 k3 a3 b3 d3=>?_);try dsimp only)
  exact Ok.ret ⟨_,_,_,_,_,rfl,jU ⟨by omega,by omega⟩,d3⟩
def xK(v:DTs):List DCn:=v.2.2.2.2.2.2.2
def thF(bs:List Int) (key:Int) (v:DTs):DTh:=(v.1,(xK v).map (y9 bs key),v.2.1,v.2.2.1,v.2.2.2.1,v.2.2.2.2.1,v.2.2.2.2.2.1,v.2.2.2.2.2.2.1)
theorem BC{n:Int}{ss:List Int}{vs:List DTs}(hs:xC ss) (hl:vs.length=4) (h:∀v∈vs,OE n ss v) (hn:n<=1099511627776):jD vs=some (true,()):=by
 have e:dU fU NN (vs,vs,(vs.length:Int),0,())=some (.inr (vs,vs,(vs.length:Int),(vs.length:Int),false,())):=by
  refine l8 (f:=fU) (N:=NN) (st:=λk=>(vs,vs,(vs.length:Int),(k:Int),())) (n:=vs.length) (by unfold NN;omega) ?_ ?_
  ·intro k hk;obtain⟨v,hv⟩:∃v,vs[k]?=some v:=⟨_,oGE hk⟩;obtain⟨⟨a1,a2⟩,⟨b1,b2⟩,⟨c1,c2⟩,⟨d1,d2⟩,⟨e1,e2⟩,⟨f1,f2⟩,_,hl8,hr⟩:=h v (dP hv);unfold fU;delta dM;dsimp only;rw[oDT (show (k:Int) < vs.length by omega),dN];simp only[oCT,oBS,show dK vs k=some v from hv];rw[oDT (show v.1>=0 from a1),oDT a2,oDT (show v.2.1>=0 from b1),oDT b2,oDT (show v.2.2.1>=0 from c1),oDT (show v.2.2.1<=1099511627776 by omega),oDT (show v.2.2.2.1>=-1 from d1),oDT d2,oDT (show v.2.2.2.2.1>=-1 from e1),oDT e2,oDT (show v.2.2.2.2.2.1>=0 from f1),oDT f2];simp only[oCT,oCF,oBS,oNT];rw[hl8,jk (n:=8) hs hr (by omega) (by omega)];simp only[show (((8:Nat):Int) != 8)=false from rfl,oCF,oBS,oNT];rw[dQ (x:=(k:Int)+1) (by omega) (by omega)];exact Ok.ret rfl
  ·unfold fU;dsimp only;rw[oDF (show ¬ (vs.length:Int) < vs.length by omega)];exact Ok.ret rfl
 unfold jD;delta dM;dsimp only;rw[e];dsimp only;rw[hl];rfl
theorem F5{n:Int}{code:List DIn}{ss:List Int}{dt:List (List Int)}{rg:List (List DCn)}{vs:List DTs}(hp:j9 code ss dt) (h:Bv n ss rg vs) (hn:n<=1099511627776):lu code ss dt rg vs=some (true,()):=by
 have h4:=hp.sz.2.1;have hl:=h.rlen
 have e:dU gM NN (rg,(rg.length:Int),0,code,ss,dt,rg,vs,())=some (.inr (rg,(rg.length:Int),(rg.length:Int),false,code,ss,dt,rg,vs,())):=by
  refine l8 (f:=gM) (N:=NN) (st:=λk=>(rg,(rg.length:Int),(k:Int),code,ss,dt,rg,vs,())) (n:=rg.length) (by unfold NN;omega) ?_ ?_
  ·intro k hk;obtain⟨x,hx⟩:∃x,rg[k]?=some x:=⟨_,oGE hk⟩;obtain⟨z,hz⟩:∃z,ss[k]?=some z:=⟨_,oGE (by omega)⟩;have hf:=h.fit k x z hx hz;have hz2:=hp.sz.2.2 z (dP hz);unfold gM;delta dM;dsimp only;rw[oDT (show (k:Int) < rg.length by omega),dN];simp only[oCT,oBS,show dK rg k=some x from hx,show dK ss k=some z from hz,hf,bne_self_eq_false,oCF];rw[jk (n:=32) hp.sz (h.cells x (dP hx)) (by omega) (by omega)];simp only[oBS,oNT,oCF];rw[dQ (x:=(k:Int)+1) (by omega) (by omega)];exact Ok.ret rfl
  ·unfold gM;dsimp only;rw[oDF (show ¬ (rg.length:Int) < rg.length by omega)];exact Ok.ret rfl
 unfold lu;delta dM;rw[Bo hp,BC hp.sz h.vlen h.views hn];simp only[oBS,bne_self_eq_false,oCF,oNT];rw[show ((rg.length:Int) != (ss.length:Int))=false by rw[hl];simp];simp only[oCF,oBS];rw[e]
theorem GM{rg:List (List DCn)}{vs:List DTs}(h1:rg.length<=1000) (h2:vs.length<=1000):lr rg vs=some (rg++vs.map xK,()):=by
 have e:dU gL NN (vs,(vs.length:Int),0,rg,vs,rg,())=some (vs,(vs.length:Int),(vs.length:Int),false,rg,vs,rg++vs.map xK,()):=by
  have:=l8 (f:=gL) (N:=NN) (st:=λk=>(vs,(vs.length:Int),(k:Int),rg,vs,rg++(vs.take k).map xK,())) (n:=vs.length) (t:=(vs,(vs.length:Int),(vs.length:Int),false,rg,vs,rg++vs.map xK,())) (by unfold NN;omega) ?_ ?_
  ·simpa using this
  ·intro k hk;obtain⟨v,hv⟩:∃v,vs[k]?=some v:=⟨_,oGE hk⟩;unfold gL;dsimp only;rw[oDT (show (k:Int) < vs.length by omega),dN];simp only[oCT,oBS,show dK vs k=some v from hv];refine dH (dT (by simp;omega)) ?_;rw[dQ (x:=(k:Int)+1) (by omega) (by omega)];refine Ok.ret ?_;rw[<- gJ xK hv,<- List.append_assoc];rfl
  ·unfold gL;dsimp only;rw[oDF (show ¬ (vs.length:Int) < vs.length by omega),List.take_length];exact Ok.ret rfl
 unfold lr;rw[dT (show 24<=1000/\0+rg.length<=1000000 by omega)];delta dM;simp only[oCT];rw[show List.append [] rg=rg from rfl,e];rfl
theorem LV.apart{bs ss:List Int}(h:LV bs ss) {r r':Nat}{b z b' z' o o':Int}(hne:r≠r') (hb:bs[r]?=some b) (hz:ss[r]?=some z) (hb':bs[r']?=some b') (hz':ss[r']?=some z') (h0:0<=o) (h1:o < z) (h0':0<=o') (h1':o' < z'):b+o≠b'+o':=by
 obtain⟨_,hl,hg⟩:=h;have l1:=(oGS hb).1;have l2:=(oGS hb').1;have g1:=hg r l1;have g2:=hg r' l2;unfold vi at g1 g2;rw[eG hb,eG hz] at g1;rw[eG hb',eG hz'] at g2;by_cases hlt:r' < r
 ·have:=g1.2.2 r' hlt;rw[eG hb',eG hz'] at this;omega
 ·have:=g2.2.2 r (by omega);rw[eG hb,eG hz] at this;omega
def Oa(bs:List Int) (key:Int) (rg:List (List DCn)) (cs:List DCe) (r o:Nat):Prop:=∀(r' o':Nat) (x:List DCn) (c:DCn) (b:Int),rg[r']?=some x->x[o']?=some c->bs[r']?=some b->(r' < r\/(r'=r/\o' < o))->cs[(b+o').toNat]?=some (y9 bs key c)
set_option maxHeartbeats 4000000 in
theorem Jg{n key:Int}{code:List DIn}{ss bs:List Int}{dt:List (List Int)}{rg:List (List DCn)}{vs:List DTs}(hp:j9 code ss dt) (hL:LV bs ss) (h:Bv n ss rg vs) (hn:n<=1099511627776) :
 Ok (kx code ss dt bs key rg vs) λr=>∃cs,r=(bs,key,cs,eX,vs.map (thF bs key),true,())/\MOk n ss bs cs eX (vs.map (thF bs key))/\Oa bs key rg cs ss.length 0:=by
 have h4:=hp.sz.2.1;have hbl:=hL.2.1;have hrl:=h.rlen;have hvl:=h.vlen;unfold kx;delta dM;rw[F5 hp h hn,qa hL,GM (by omega) (by omega),FJ];simp only[oBS,oNT,oCF]
 have hall:∀x∈rg++vs.map xK,x.length<=100/\∀c∈x,Pr ss c:=by
  intro x hx;rcases List.mem_append.1 hx with hx | hx
  ·obtain⟨j,hj⟩:=List.getElem?_of_mem hx;have:=(oGS hj).1;obtain⟨z,hz⟩:∃z,ss[j]?=some z:=⟨_,oGE (by omega)⟩;have:=h.fit j x z hj hz;have:=hp.sz.2.2 z (dP hz);exact⟨by omega,h.cells x hx⟩
  ·obtain⟨v,hv,rfl⟩:=List.mem_map.1 hx;have:=h.views v hv;exact⟨by unfold xK;rw[this.len];omega,this.regs⟩
 have hll:(rg++vs.map xK).length<=100:=by rw[List.length_append,List.length_map];omega
 generalize rg++vs.map xK=lst at hall hll
 have e1:dU gg NN ((lst.length:Int),0,code,ss,dt,bs,key,rg,vs,(),0,(),(),(),lst,())=some (.inr ((lst.length:Int),(lst.length:Int),false,code,ss,dt,bs,key,rg,vs,(),0,(),(),(),lst,())):=by
  refine l8 (f:=gg) (N:=NN) (st:=λk=>((lst.length:Int),(k:Int),code,ss,dt,bs,key,rg,vs,(),0,(),(),(),lst,())) (n:=lst.length) (by unfold NN;omega) ?_ ?_
  ·intro k hk;obtain⟨x,hx⟩:∃x,lst[k]?=some x:=⟨_,oGE hk⟩;obtain⟨hxl,hxc⟩:=hall x (dP hx)
   have e0:dU gh NN ((lst.length:Int),(k:Int),x,(x.length:Int),0,code,ss,dt,bs,key,rg,vs,(),0,(),(),(),lst,())=some (.inr ((lst.length:Int),(k:Int),x,(x.length:Int),(x.length:Int),false,code,ss,dt,bs,key,rg,vs,(),0,(),(),(),lst,())):=by
    refine l8 (f:=gh) (N:=NN) (st:=λo=>((lst.length:Int),(k:Int),x,(x.length:Int),(o:Int),code,ss,dt,bs,key,rg,vs,(),0,(),(),(),lst,())) (n:=x.length) (by unfold NN;omega) ?_ ?_
    ·intro o ho;obtain⟨c,hc⟩:∃c,x[o]?=some c:=⟨_,oGE ho⟩;unfold gh;dsimp only;rw[oDT (show (o:Int) < x.length by omega),dN];simp only[oCT,oBS,show dK x o=some c from hc,mq (hxc c (dP hc)),oNT,oCF];rw[dQ (x:=(o:Int)+1) (by omega) (by omega)];exact Ok.ret rfl
    ·unfold gh;dsimp only;rw[oDF (show ¬ (x.length:Int) < x.length by omega)];exact Ok.ret rfl
   unfold gg;delta dM;dsimp only;rw[oDT (show (k:Int) < lst.length by omega),dN];simp only[oCT,oBS,show dK lst k=some x from hx,e0];rw[dQ (x:=(k:Int)+1) (by omega) (by omega)];exact Ok.ret rfl
  ·unfold gg;dsimp only;rw[oDF (show ¬ (lst.length:Int) < lst.length by omega)];exact Ok.ret rfl
 rw[e1];dsimp only;refine dH (dT (by omega)) (dH (by decide) ?_);rw[show List.append [] bs=bs from rfl]
 refine Ok.loop (P:=λs'=>∃(r:Nat),∃cs,s'=(rg,(rg.length:Int),(r:Int),code,ss,dt,bs,key,rg,vs,(),0,(),(),(),bs,key,cs,eX,(),())/\r<=rg.length/\cs.length=512/\(∀c∈cs,mH (RK bs ss) c)/\Oa bs key rg cs r 0)
  (R:=λy=>∃a b c f cs,y=(a,b,c,f,code,ss,dt,bs,key,rg,vs,(),0,(),(),(),bs,key,cs,eX,(),())/\cs.length=512/\(∀c∈cs,mH (RK bs ss) c)/\Oa bs key rg cs ss.length 0) (m:=λs'=>(s'.2.1 - s'.2.2.1).toNat)
  ⟨0,_,rfl,by omega,List.length_replicate,λc hc=>by rw[List.eq_of_mem_replicate hc];exact la (by decide),λr' o' x c b _ _ _ hlt=>by omega⟩ (by unfold NN;dsimp only;omega) ?_ ?_
 ·rintro _ ⟨r,cs,rfl,hr,hc1,hc2,hI⟩;unfold nw;delta dM;dsimp only
  (with_reducible refine dG (λhca=>?_) λhca=>?_)
  ·obtain⟨x,hx⟩:∃x,rg[r]?=some x:=⟨_,oGE (by omega)⟩;obtain⟨b,z,hb,hz,z1,z32,b0,bz⟩:=hL.at_ (r:=r) (by omega);have hf:=h.fit r x z hx hz;have hxc:=h.cells x (dP hx);rw[dN];simp only[oBS,show dK rg r=some x from hx]
   refine Ok.loop (P:=λs'=>∃(o:Nat),∃cs,s'=((r:Int),rg,(rg.length:Int),(r:Int),x,(x.length:Int),(o:Int),code,ss,dt,bs,key,rg,vs,(),0,(),(),(),bs,key,cs,eX,(),())/\o<=x.length/\cs.length=512/\(∀c∈cs,mH (RK bs ss) c)/\Oa bs key rg cs r o)
    (R:=λy=>∃a2 a3 a4 f cs,y=((r:Int),rg,(rg.length:Int),(r:Int),a2,a3,a4,f,code,ss,dt,bs,key,rg,vs,(),0,(),(),(),bs,key,cs,eX,(),())/\cs.length=512/\(∀c∈cs,mH (RK bs ss) c)/\Oa bs key rg cs (r+1) 0) (m:=λs'=>(s'.2.2.2.2.2.1 - s'.2.2.2.2.2.2.1).toNat) ⟨0,cs,rfl,by omega,hc1,hc2,hI⟩ (by unfold NN;dsimp only;omega) ?_ ?_
   ·rintro _ ⟨o,cs,rfl,ho,hc1,hc2,hI⟩;unfold ny;dsimp only
    (with_reducible refine dG (λhcb=>?_) λhcb=>?_)
    ·obtain⟨c,hc⟩:∃c,x[o]?=some c:=⟨_,oGE (by omega)⟩;obtain⟨hr1,hr2⟩:=vV (key:=key) hL (hxc c (dP hc));simp only[dN,oBS,show dK x o=some c from hc,show dK bs r=some b from hb,hr1];rw[dQ (x:=b+o) (by omega) (by omega),dQ (x:=(o:Int)+1) (by omega) (by omega)];obtain⟨a,ha⟩:∃a:Nat,b+o=a:=⟨(b+o).toNat,by omega⟩;obtain⟨y,hy⟩:∃y,cs[a]?=some y:=⟨_,oGE (by omega)⟩;rw[ha,dN];simp only[oBS,show dK cs a=some y from hy,eq hy];refine Ok.ret ⟨⟨o+1,_,rfl,by omega,by rw[List.length_set];exact hc1,im hc2 hr2,λr' o' x' c' b' h1 h2 h3 hlt=>?_⟩,by dsimp only;omega⟩;by_cases e:r'=r/\o'=o
     ·obtain⟨rfl,rfl⟩:=e;rw[hx] at h1;cases h1;rw[hc] at h2;cases h2;rw[hb] at h3;cases h3;rw[ha,oTN];exact gl (by omega) _
     ·have hr'l:=(oGS h1).1;obtain⟨b2,z2,hb2,hz2,_,_,b20,b2z⟩:=hL.at_ (r:=r') (by omega)
      have h3':b2=b':=by rw[hb2] at h3;injection h3
      subst h3';have hf2:=h.fit r' x' z2 h1 hz2;have ho'l:=(oGS h2).1
      have hne:(b2+o').toNat≠a:=by
       by_cases er:r'=r
       ·subst er;rw[hb] at hb2;cases hb2;omega
       ·have:=hL.apart er hb2 hz2 hb hz (o:=o') (o':=o) (by omega) (by omega) (by omega) (by omega);omega
      rw[kj (λe=>hne e.symm)];exact hI r' o' x' c' b2 h1 h2 hb2 (by omega)
    ·refine Ok.ret ⟨_,_,_,_,cs,rfl,hc1,hc2,λr' o' x' c' b' h1 h2 h3 hlt=>hI r' o' x' c' b' h1 h2 h3 ?_⟩;by_cases er:r'=r
     ·subst er;rw[hx] at h1;cases h1;have:=(oGS h2).1;omega
     ·omega
   ·rintro _ ⟨a2,a3,a4,f,cs,rfl,hc1,hc2,hI⟩;dsimp only;rw[dQ (x:=(r:Int)+1) (by omega) (by omega)];exact Ok.ret ⟨⟨r+1,cs,rfl,by omega,hc1,hc2,hI⟩,by dsimp only;omega⟩
  ·obtain rfl:r=ss.length:=by omega
   exact Ok.ret ⟨_,_,_,_,cs,rfl,hc1,hc2,hI⟩
 rintro _ ⟨a,b,c,f,cs,rfl,hc1,hc2,hI⟩;dsimp only
 have e5:dU ge NN (vs,(vs.length:Int),0,code,ss,dt,bs,key,rg,vs,(),0,(),(),(),bs,key,cs,eX,[],())=some (vs,(vs.length:Int),(vs.length:Int),false,code,ss,dt,bs,key,rg,vs,(),0,(),(),(),bs,key,cs,eX,vs.map (thF bs key),()):=by
  have:=l8 (f:=ge) (N:=NN) (st:=λk=>(vs,(vs.length:Int),(k:Int),code,ss,dt,bs,key,rg,vs,(),0,(),(),(),bs,key,cs,eX,(vs.take k).map (thF bs key),())) (n:=vs.length) (t:=(vs,(vs.length:Int),(vs.length:Int),false,code,ss,dt,bs,key,rg,vs,(),0,(),(),(),bs,key,cs,eX,vs.map (thF bs key),())) (by unfold NN;omega) ?_ ?_
  ·exact this
  ·intro k hk;obtain⟨v,hv⟩:∃v,vs[k]?=some v:=⟨_,oGE hk⟩;have hvo:=h.views v (dP hv);have h8:=hvo.len;unfold ge;delta dM;dsimp only;rw[oDT (show (k:Int) < vs.length by omega),dN];simp only[oCT,oBS,show dK vs k=some v from hv]
   have e4:∀(a1 a2 a3 a4 a5 a6 a7 a8 b1 b2 b3 b4 b5 b6 b7:_),dU gf NN (vs,(vs.length:Int),(k:Int),v.2.2.2.2.2.2.2,(v.2.2.2.2.2.2.2.length:Int),0,code,ss,dt,bs,key,rg,vs,(),0,(),(),(),bs,key,cs,eX,(vs.take k).map (thF bs key),a1,a2,a3,a4,a5,a6,a7,a8,b1,[],b2,b3,b4,b5,b6,b7,()) =
    some (vs,(vs.length:Int),(k:Int),v.2.2.2.2.2.2.2,(v.2.2.2.2.2.2.2.length:Int),(v.2.2.2.2.2.2.2.length:Int),false,code,ss,dt,bs,key,rg,vs,(),0,(),(),(),bs,key,cs,eX,(vs.take k).map (thF bs key),a1,a2,a3,a4,a5,a6,a7,a8,b1,v.2.2.2.2.2.2.2.map (y9 bs key),b2,b3,b4,b5,b6,b7,()):=by
    intro a1 a2 a3 a4 a5 a6 a7 a8 b1 b2 b3 b4 b5 b6 b7
    have:=l8 (f:=gf) (N:=NN) (st:=λo=>(vs,(vs.length:Int),(k:Int),v.2.2.2.2.2.2.2,(v.2.2.2.2.2.2.2.length:Int),(o:Int),code,ss,dt,bs,key,rg,vs,(),0,(),(),(),bs,key,cs,eX,(vs.take k).map (thF bs key),a1,a2,a3,a4,a5,a6,a7,a8,b1,(v.2.2.2.2.2.2.2.take o).map (y9 bs key),b2,b3,b4,b5,b6,b7,())) (n:=v.2.2.2.2.2.2.2.length)
     (t:=(vs,(vs.length:Int),(k:Int),v.2.2.2.2.2.2.2,(v.2.2.2.2.2.2.2.length:Int),(v.2.2.2.2.2.2.2.length:Int),false,code,ss,dt,bs,key,rg,vs,(),0,(),(),(),bs,key,cs,eX,(vs.take k).map (thF bs key),a1,a2,a3,a4,a5,a6,a7,a8,b1,v.2.2.2.2.2.2.2.map (y9 bs key),b2,b3,b4,b5,b6,b7,())) (by unfold NN;omega) ?_ ?_
    ·exact this
    ·intro o ho;obtain⟨c,hc⟩:∃c,v.2.2.2.2.2.2.2[o]?=some c:=⟨_,oGE ho⟩;unfold gf;dsimp only;rw[oDT (show (o:Int) < v.2.2.2.2.2.2.2.length by omega),dN];simp only[oCT,oBS,show dK v.2.2.2.2.2.2.2 o=some c from hc];rw[(vV (key:=key) hL (hvo.regs c (dP hc))).1];simp only[oBS];refine dH (dT (by simp;omega)) ?_;rw[dQ (x:=(o:Int)+1) (by omega) (by omega)];refine Ok.ret ?_;rw[<- gJ (y9 bs key) hc];rfl
    ·unfold gf;dsimp only;rw[oDF (show ¬ (v.2.2.2.2.2.2.2.length:Int) < v.2.2.2.2.2.2.2.length by omega),List.take_length];exact Ok.ret rfl
   rw[e4];simp only[oBS];refine dH (dT (by simp;omega)) ?_;rw[dQ (x:=(k:Int)+1) (by omega) (by omega)];refine Ok.ret ?_;rw[<- gJ (thF bs key) hv];rfl
  ·unfold ge;dsimp only;rw[oDF (show ¬ (vs.length:Int) < vs.length by omega),List.take_length];exact Ok.ret rfl
 rw[e5];refine Ok.ret ⟨cs,rfl,⟨hL,Dq hc1 hc2,by rw[List.length_map];exact hvl,λt ht=>?_⟩,hI⟩;obtain⟨v,hv,rfl⟩:=List.mem_map.1 ht;have hvo:=h.views v hv;refine⟨hvo.state,by unfold thF;dsimp only;rw[List.length_map];exact hvo.len,λc hc=>?_,hvo.pc,hvo.count,hvo.handler,hvo.saved,hvo.trap,hvo.code⟩;unfold thF at hc;dsimp only at hc;obtain⟨c',hc',rfl⟩:=List.mem_map.1 hc;exact (vV hL (hvo.regs c' hc')).2
theorem MF{l:List Int}{k n:Int}(h:DOk l k) (hn:0 < n) (hn2:n<=9223372036854775807):Ok (dL n l k) λr=>∃v k',r=(v,l,k',())/\0<=v/\v < n/\DOk l k':=by
 have:Ok ((dL n l k).bind some) λr=>∃v k',r=(v,l,k',())/\0<=v/\v < n/\DOk l k':=fi h hn hn2 λv k' h0 h1 h2=>Ok.ret ⟨_,_,rfl,h0,h1,h2⟩;simpa using this
theorem Bv.setReg{n:Int}{ss:List Int}{rg:List (List DCn)}{vs:List DTs}{r o:Nat}{x:List DCn}{c:DCn}(h:Bv n ss rg vs) (hx:rg[r]?=some x) (hc:Pr ss c):Bv n ss (rg.set r (x.set o c)) vs:=by
 refine⟨by rw[List.length_set];exact h.rlen,λj y z hy hz=>?_,im h.cells (im (h.cells x (dP hx)) hc),h.vlen,h.views⟩;by_cases e:r=j
 ·subst e;rw[show (rg.set r (x.set o c))[r]?=some (x.set o c) from gl (oGS hx).1 _] at hy;cases hy;rw[List.length_set];exact h.fit r x z hx hz
 ·rw[kj e] at hy;exact h.fit j y z hy hz
theorem Bv.setView{n:Int}{ss:List Int}{rg:List (List DCn)}{vs:List DTs}{k:Nat}{v:DTs}(h:Bv n ss rg vs) (hv:OE n ss v):Bv n ss rg (vs.set k v):=
 ⟨h.rlen,h.fit,h.cells,by rw[List.length_set];exact h.vlen,im h.views hv⟩
set_option maxHeartbeats 4000000 in
theorem GL{l:List Int}{k:Int}(h:DOk l k):Ok (kG l k) λr=>∃code ss dt bs key cs ls ts k',r=(code,ss,dt,bs,key,cs,ls,ts,l,k',())/\j9 code ss dt/\W16 key/\MOk 1152 ss bs cs ls ts/\DOk l k':=by
 unfold kG;refine (Nz h).bind ?_;rintro _ ⟨code,ss,dt,bs,key,cs,ls,ts,ck,rn,ins,d,os,us,ow,qs,rec,js,k1,rfl,hkey,hR,h1⟩;dsimp only;have hp:=hR.prog;have hM:=hR.mach;have hL:=hM.lay;have hs1:=hp.sz.1;obtain⟨_,en,v,k2,rfl,v0,v1,h2⟩:=MF (n:=3) h1 (by decide) (by decide);rw[en];simp only[oBS];by_cases hv:v=0
 ·simp only[beq_iff_eq.2 hv,oCT,J3 (code:=code) (dt:=dt) hM,oBS];have hS:=J2 (key:=key) hM;generalize DF bs ss key cs ls=rg at hS;generalize ts.map (td bs ss key)=vs at hS;obtain⟨x,hx⟩:∃x,rg[0]?=some x:=⟨_,oGE (by have:=hS.rlen;omega)⟩
  have hxl:x.length<=32:=by
   obtain⟨z,hz⟩:∃z,ss[0]?=some z:=⟨_,oGE (by omega)⟩;have:=hS.fit 0 x z hx hz;have:=hp.sz.2.2 z (dP hz);omega
  delta dM;simp only[show dK rg 0=some x from hx,oBS]
  obtain⟨y,e,rg',k3,a,b,rfl,hS3,h3⟩:=fH (f:=ki) (n:=NN) (s:=((x.length:Int),0,l,k2,(),(),(),(),0,(),(),(),code,ss,dt,bs,key,cs,ls,ts,ck,rn,ins,d,os,us,ow,qs,rec,js,bs,key,cs,ls,ts,rg,vs,()))
   (P:=λs'=>∃(q:Nat) (k':Int) (rg':List (List DCn)) (x':List DCn),s'=((x.length:Int),(q:Int),l,k',(),(),(),(),0,(),(),(),code,ss,dt,bs,key,cs,ls,ts,ck,rn,ins,d,os,us,ow,qs,rec,js,bs,key,cs,ls,ts,rg',vs,())/\DOk l k'/\Bv 1152 ss rg' vs/\rg'[0]?=some x'/\x'.length=x.length)
   (R:=λy=>∃rg' k' a b,y=(a,b,false,l,k',(),(),(),(),0,(),(),(),code,ss,dt,bs,key,cs,ls,ts,ck,rn,ins,d,os,us,ow,qs,rec,js,bs,key,cs,ls,ts,rg',vs,())/\Bv 1152 ss rg' vs/\DOk l k') (m:=λs'=>(s'.1 - s'.2.1).toNat) ⟨0,k2,rg,x,rfl,h2,hS,hx,rfl⟩ (by unfold NN;dsimp only;omega) (by
    rintro _ ⟨q,k',rg',x',rfl,hd,hS',hx',hxl'⟩;unfold ki;dsimp only
    (with_reducible refine dG (λhca=>?_) λhca=>?_)
    ·refine Ok.bind (P:=λr=>∃(k':Int) (rg':List (List DCn)) (x':List DCn),r=((x.length:Int),(q:Int),l,k',(),(),(),(),0,(),(),(),code,ss,dt,bs,key,cs,ls,ts,ck,rn,ins,d,os,us,ow,qs,rec,js,bs,key,cs,ls,ts,rg',vs,())/\DOk l k'/\Bv 1152 ss rg' vs/\rg'[0]?=some x'/\x'.length=x.length) ?_ ?_
     ·refine fi (n:=3) hd (by decide) (by decide) λu k4 u0 u1 h4=>?_;dsimp only
      (with_reducible refine dG (λhcb=>?_) λhcb=>?_)
      ·obtain⟨c,hc⟩:∃c,x'[q]?=some c:=⟨_,oGE (by omega)⟩;simp only[show dK rg' 0=some x' from hx',oBS];refine (FP hp.sz h4).bind ?_;rintro _ ⟨t,v,rr,o,k5,rfl,hc5,h5⟩;dsimp only;simp only[dN,oBS,show dK x' q=some c from hc,eq hx',eq hc];exact Ok.ret ⟨_,_,_,rfl,h5,hS'.setReg hx' hc5,gl (oGS hx').1 _,by rw[List.length_set];exact hxl'⟩
      ·exact Ok.ret ⟨_,_,_,rfl,h4,hS',hx',hxl'⟩
     ·rintro _ ⟨k',rg',x',rfl,hd,hS',hx',hxl'⟩;dsimp only;rw[dQ (x:=(q:Int)+1) (by omega) (by omega)];exact Ok.ret ⟨⟨q+1,k',rg',x',rfl,hd,hS',hx',hxl'⟩,by dsimp only;omega⟩
    ·exact Ok.ret ⟨_,_,_,_,rfl,hS',hd⟩)
  simp only[e,oBS]
  obtain⟨y,e,vs',k4,a,b,rfl,hS4,h4⟩:=fH (f:=kg) (n:=NN) (s:=((vs.length:Int),0,l,k3,(),(),(),(),0,(),(),(),code,ss,dt,bs,key,cs,ls,ts,ck,rn,ins,d,os,us,ow,qs,rec,js,bs,key,cs,ls,ts,rg',vs,()))
   (P:=λs'=>∃(q:Nat) (k':Int) (vs':List DTs),s'=((vs.length:Int),(q:Int),l,k',(),(),(),(),0,(),(),(),code,ss,dt,bs,key,cs,ls,ts,ck,rn,ins,d,os,us,ow,qs,rec,js,bs,key,cs,ls,ts,rg',vs',())/\DOk l k'/\Bv 1152 ss rg' vs')
   (R:=λy=>∃vs' k' a b,y=(a,b,false,l,k',(),(),(),(),0,(),(),(),code,ss,dt,bs,key,cs,ls,ts,ck,rn,ins,d,os,us,ow,qs,rec,js,bs,key,cs,ls,ts,rg',vs',())/\Bv 1152 ss rg' vs'/\DOk l k') (m:=λs'=>(s'.1 - s'.2.1).toNat) ⟨0,k3,vs,rfl,h3,hS3⟩ (by unfold NN;dsimp only;have:=hS3.vlen;omega) (by
    rintro _ ⟨q,k',vs',rfl,hd,hS'⟩;have hvl:=hS3.vlen;have hvl':=hS'.vlen;unfold kg;delta dM;dsimp only
    (with_reducible refine dG (λhca=>?_) λhca=>?_)
    ·obtain⟨w,hw⟩:∃w,vs'[q]?=some w:=⟨_,oGE (by omega)⟩;have hw8:=(hS'.views w (dP hw)).len;rw[dN];simp only[oBS,show dK vs' q=some w from hw];refine Ok.bind (P:=λr=>∃(k':Int) (vs':List DTs),r=((vs.length:Int),(q:Int),l,k',(),(),(),(),0,(),(),(),code,ss,dt,bs,key,cs,ls,ts,ck,rn,ins,d,os,us,ow,qs,rec,js,bs,key,cs,ls,ts,rg',vs',())/\DOk l k'/\Bv 1152 ss rg' vs') ?_ ?_
     ·refine Ok.loop (P:=λs'=>∃(o:Nat) (k':Int) (vs':List DTs),s'=((q:Int),(vs.length:Int),(q:Int),(w.2.2.2.2.2.2.2.length:Int),(o:Int),l,k',(),(),(),(),0,(),(),(),code,ss,dt,bs,key,cs,ls,ts,ck,rn,ins,d,os,us,ow,qs,rec,js,bs,key,cs,ls,ts,rg',vs',())/\DOk l k'/\Bv 1152 ss rg' vs')
       (R:=λy=>∃vs' k' a b c,y=((q:Int),(vs.length:Int),(q:Int),a,b,c,l,k',(),(),(),(),0,(),(),(),code,ss,dt,bs,key,cs,ls,ts,ck,rn,ins,d,os,us,ow,qs,rec,js,bs,key,cs,ls,ts,rg',vs',())/\Bv 1152 ss rg' vs'/\DOk l k') (m:=λs'=>(s'.2.2.2.1 - s'.2.2.2.2.1).toNat) ⟨0,k',vs',rfl,hd,hS'⟩ (by unfold NN;dsimp only;omega) ?_ ?_
      ·rintro _ ⟨o,k',vs',rfl,hd,hS'⟩;have hvl':=hS'.vlen;unfold nB;dsimp only
       (with_reducible refine dG (λhcb=>?_) λhcb=>?_)
       ·refine Ok.bind (P:=λr=>∃(k':Int) (vs':List DTs),r=((q:Int),(vs.length:Int),(q:Int),(w.2.2.2.2.2.2.2.length:Int),(o:Int),l,k',(),(),(),(),0,(),(),(),code,ss,dt,bs,key,cs,ls,ts,ck,rn,ins,d,os,us,ow,qs,rec,js,bs,key,cs,ls,ts,rg',vs',())/\DOk l k'/\Bv 1152 ss rg' vs') ?_ ?_
        ·refine fi (n:=3) hd (by decide) (by decide) λu k4 u0 u1 h4=>?_;dsimp only
         (with_reducible refine dG (λhcc=>?_) λhcc=>?_)
         ·obtain⟨w',hw'⟩:∃w',vs'[q]?=some w':=⟨_,oGE (by omega)⟩;have hvo:=hS'.views w' (dP hw');have hw8':=hvo.len;obtain⟨cc,hcc⟩:∃cc,w'.2.2.2.2.2.2.2[o]?=some cc:=⟨_,oGE (by omega)⟩;simp only[dN,oBS,show dK vs' q=some w' from hw'];refine (FP hp.sz h4).bind ?_;rintro _ ⟨t,v,rr,o',k5,rfl,hc5,h5⟩;dsimp only;simp only[show dK w'.2.2.2.2.2.2.2 o=some cc from hcc,oBS,eq hw',eq hcc];exact Ok.ret ⟨_,_,rfl,h5,hS'.setView ⟨hvo.state,hvo.pc,hvo.count,hvo.handler,hvo.saved,hvo.trap,hvo.code,by dsimp only;rw[List.length_set];exact hw8',im hvo.regs hc5⟩⟩
         ·exact Ok.ret ⟨_,_,rfl,h4,hS'⟩
        ·rintro _ ⟨k',vs',rfl,hd,hS'⟩;dsimp only;rw[dQ (x:=(o:Int)+1) (by omega) (by omega)];exact Ok.ret ⟨⟨o+1,k',vs',rfl,hd,hS'⟩,by dsimp only;omega⟩
       ·exact Ok.ret ⟨_,_,_,_,_,rfl,hS',hd⟩
      ·rintro _ ⟨vs',k',a,b,c,rfl,hS',hd⟩;dsimp only;refine fi (n:=4) hd (by decide) (by decide) λu k4 u0 u1 h4=>?_;dsimp only
       (with_reducible refine dG (λhcc=>?_) λhcc=>?_)
       ·refine fi (n:=5) h4 (by decide) (by decide) λu2 k5 u20 u21 h5=>?_;dsimp only;obtain⟨w',hw'⟩:∃w',vs'[q]?=some w':=⟨_,oGE (by have:=hS'.vlen;omega)⟩;have hvo:=hS'.views w' (dP hw');simp only[dN,oBS,show dK vs' q=some w' from hw',eq hw'];exact Ok.ret ⟨_,_,rfl,h5,hS'.setView ⟨⟨u20,by dsimp only;omega⟩,hvo.pc,hvo.count,hvo.handler,hvo.saved,hvo.trap,hvo.code,hvo.len,hvo.regs⟩⟩
       ·exact Ok.ret ⟨_,_,rfl,h4,hS'⟩
     ·rintro _ ⟨k',vs',rfl,hd,hS'⟩;dsimp only;rw[dQ (x:=(q:Int)+1) (by omega) (by omega)];exact Ok.ret ⟨⟨q+1,k',vs',rfl,hd,hS'⟩,by dsimp only;omega⟩
    ·exact Ok.ret ⟨_,_,_,_,rfl,hS',hd⟩)
  simp only[e,oBS];obtain⟨_,ei,cs',rfl,hM',_⟩:=Jg (key:=key) hp hL hS4 (by decide);simp only[ei,oBS,oCT];exact Ok.ret ⟨_,_,_,_,_,_,_,_,_,rfl,hp,hkey,hM',h4⟩
 ·simp only[oBF hv,oCF];exact Ok.ret ⟨_,_,_,_,_,_,_,_,_,rfl,hp,hkey,hM,h2⟩
def Hy:List CT->CT
 | []=>.nat
 | [t]=>t
 | t :: u :: r=>.pair t (Hy (u :: r))
def oY:(l:List CT)->HL den l->den (Hy l)
 | [],_=>(0:Nat)
 | [_],h=>h.1
 | _ :: u :: r,h=>(h.1,oY (u :: r) h.2)
def encL:(l:List CT)->HL den l->List TV
 | [],_=>[]
 | t :: r,h=>enc t h.1++encL r h.2
theorem FH:∀(l:List CT) (h:HL den l),enc (Hy l) (oY l h)=encL l h
 | [],_=>rfl
 | [_],h=>(List.append_nil _).symm
 | _ :: u :: r,h=>by
  show enc _ h.1++enc (Hy (u :: r)) (oY (u :: r) h.2)=_;rw[FH (u :: r) h.2];rfl
def EW:(c:CT)->den c->Prop
 | .int k,n=>(Lit.int k n).wf=true
 | .str,s=>ByteArray.size s<=maxLen
 | .row _ t,xs=>List.length xs<=maxLen/\∀x∈xs,EW t x
 | .pair a b,x=>EW a x.1/\EW b x.2
 | _,_=>True
def GoodL:(l:List CT)->HL den l->Prop
 | [],_=>True
 | t :: r,h=>EW t h.1/\GoodL r h.2
theorem Dg:∀(l:List CT) (h:HL den l),GoodL l h->EW (Hy l) (oY l h)
 | [],_,_=>trivial
 | [_],_,g=>g.1
 | _ :: u :: r,h,g=>⟨g.1,Dg (u :: r) h.2 g.2⟩
def appL:(l m:List CT)->HL den l->HL den m->HL den (l++m)
 | [],_,_,k=>k
 | _ :: r,m,h,k=>(h.1,appL r m h.2 k)
theorem FI:∀(l m:List CT) (h:HL den l) (k:HL den m),encL (l++m) (appL l m h k)=encL l h++encL m k
 | [],_,_,_=>rfl
 | t :: r,m,h,k=>by
  show enc t h.1++encL (r++m) (appL r m h.2 k)=(enc t h.1++encL r h.2)++_;rw[FI r m h.2 k,List.append_assoc]
theorem Fz:∀(l m:List CT) (h:HL den l) (k:HL den m),GoodL l h->GoodL m k->GoodL (l++m) (appL l m h k)
 | [],_,_,_,_,g=>g
 | _ :: r,m,h,k,g,g'=>⟨g.1,Fz r m h.2 k g.2 g'⟩
def RelL(w:World):List TV->List Value->Prop
 | [],[]=>True
 | t :: ts,v :: vs=>nq w (λ_=>True) t v/\RelL w ts vs
 | _,_=>False
theorem RelL.app{w:World}:∀{a:List TV}{x:List Value}{b:List TV}{y:List Value},RelL w a x->RelL w b y->RelL w (a++b) (x++y)
 | [],[],_,_,_,h=>h
 | _ :: a,_ :: x,_,_,g,h=>⟨g.1,RelL.app (a:=a) (x:=x) g.2 h⟩
 | [],_ :: _,_,_,g,_=>g.elim
 | _ :: _,[],_,_,g,_=>g.elim
theorem RelL.len{w:World}:∀{a:List TV}{x:List Value},RelL w a x->a.length=x.length
 | [],[],_=>rfl
 | _ :: a,_ :: x,g=>by rw[oLC,oLC,RelL.len (a:=a) (x:=x) g.2]
 | [],_ :: _,g=>g.elim
 | _ :: _,[],g=>g.elim
theorem RelL.get{w:World}:∀{a:List TV}{x:List Value},RelL w a x->∀j (h:j < a.length) (h':j < x.length),nq w (λ_=>True) a[j] x[j]
 | _ :: _,_ :: _,g,0,_,_=>g.1
 | _ :: a,_ :: x,g,j+1,h,h'=>RelL.get (a:=a) (x:=x) g.2 j (by simpa using h) (by simpa using h')
 | [],_,_,_,h,_=>by simp at h
 | _ :: _,[],g,_,_,_=>g.elim
def Nx(P:Program) (g:TypeId->Option (List CT)):Nat->List Field->Option (List CT)
 | _,[]=>some []
 | off,f :: fs=>match g f.type with
  | some l=>if f.offset=off/\l.length=P.cellsOf f.type then (Nx P g (off+l.length) fs).map (l++·) else none
  | none=>none
def vR(P:Program):Nat->TypeId->Option (List CT)
 | 0,_=>none
 | n+1,t=>match P.underlying t with
  | some .bool=>some [.bool]
  | some (.int k)=>some [.int k]
  | some .string=>some [.str]
  | some (.slice e)=>match vR P n e with
   | some l=>if l.length=P.cellsOf e then some [.row false (Hy l)] else none
   | none=>none
  | some (.struct fs)=>match Nx P (vR P n) 0 fs.toList with
   | some l=>if l.length=P.cellsOf t then some l else none
   | none=>none
  | _=>none
section
variable {H:Type} {ec:TypeId×Value->H} {P:Program} {w:World} {base:Nat} {spare:Nat->Bool} {held:Bool}
theorem Je{g:TypeId->Option (List CT)}{m:Nat}{cs:List Value}
 (ih:∀t L,g t=some L->∀cs x,DataW.trod ec P w base spare held m t cs=some x->∃h:HL den L,GoodL L h/\RelL w (encL L h) cs) :
 ∀(fs:List Field) (off:Nat) (L:List CT),Nx P g off fs=some L->(∀f∈fs,∃x,DataW.trod ec P w base spare held m f.type ((cs.drop f.offset).take (P.cellsOf f.type))=some x) ->
  ∃h:HL den L,GoodL L h/\RelL w (encL L h) ((cs.drop off).take L.length):=by
 intro fs
 induction fs with
 | nil=>
  intro off L hL _
  injection hL with hL
  subst hL;exact⟨(),trivial,trivial⟩
 | cons f fs ihf=>
  intro off L hL hx;unfold Nx at hL;split at hL
  ·rename_i l hg;split at hL
   ·rename_i ho;obtain⟨rfl,hlen⟩:=ho
    cases hr:Nx P g (f.offset+l.length) fs with
    | none=>rw[hr] at hL;cases hL
    | some L2=>
     rw[hr] at hL
     injection hL with hL
     subst hL;obtain⟨x,h1⟩:=hx f List.mem_cons_self;obtain⟨h,g1,r1⟩:=ih _ _ hg _ _ h1;obtain⟨k,g2,r2⟩:=ihf _ _ hr λf' hf'=>hx f' (List.mem_cons_of_mem _ hf');refine⟨appL l L2 h k,Fz _ _ _ _ g1 g2,?_⟩;rw[FI,List.length_append,List.take_add,List.drop_drop];rw[hlen];rw[hlen] at r2;exact r1.app r2
   ·cases hL
  ·cases hL
theorem NM:∀(n:Nat) (t:TypeId) (L:List CT),vR P n t=some L->∀(fuel:Nat) (cs:List Value) (x:DataW H×List MemPlace),DataW.trod ec P w base spare held fuel t cs=some x ->
 ∃h:HL den L,GoodL L h/\RelL w (encL L h) cs:=by
 intro n
 induction n with
 | zero=>intro t L h;cases h
 | succ n ih=>
  intro t L hL fuel cs x hx;unfold vR at hL;split at hL
  ·rename_i ht
   injection hL with hL
   subst hL;obtain⟨b,rfl,_⟩:=DataW.trod_bool ht hx;exact⟨(b,()),⟨trivial,trivial⟩,.v rfl,trivial⟩
  ·rename_i k ht
   injection hL with hL
   subst hL;obtain⟨z,rfl,_,hw⟩:=DataW.trod_int ht hx;exact⟨(z,()),⟨hw,trivial⟩,.v rfl,trivial⟩
  ·rename_i ht
   injection hL with hL
   subst hL;obtain⟨s,rfl,_,hs⟩:=DataW.trod_string ht hx;exact⟨(s,()),⟨hs,trivial⟩,.v rfl,trivial⟩
  ·rename_i e ht;split at hL
   ·rename_i l hl;split at hL
    ·rename_i hsz
     injection hL with hL
     subst hL;rcases DataW.trod_slice ht hx with ⟨rfl,_⟩ | ⟨a,len,cap,elems,rest,m,_,rfl,_,_,hle,hmax,hel,hget,_,_⟩
     ·exact⟨([],()),⟨⟨Nat.zero_le _,λx hx=>by cases hx⟩,trivial⟩,.sl (c:=[]) 1 (λ_ _=>undef) (λi h=>by simp at h) (Nat.le_refl _) (Nat.zero_le _) (λ_=>rfl) (λi j h=>by simp at h) (λi j h=>by simp at h),trivial⟩
     ·have each:∀i:Fin len,∃p:HL den l×List Value,GoodL l p.1/\RelL w (encL l p.1) p.2/\w.cells? base (a.add (i.1*P.cellsOf e)) (P.cellsOf e)=some p.2:=by
       intro i;have h1:=hget i.1 i.2;rw[oGE (by omega)] at h1;obtain⟨cs',h2,h3⟩:=Option.bind_eq_some_iff.1 h1;obtain⟨h,g,r⟩:=ih _ _ hl _ _ _ h3;exact⟨(h,cs'),g,r,h2⟩
      obtain⟨f,hf⟩:=Classical.axiomOfChoice each
      have clen:∀i,(encL l (f i).1).length=l.length:=λi=>by
       rw[(hf i).2.1.len,(World.cells?_some (hf i).2.2).2.1,hsz]
      have key:nq w (λ_=>True) (.sl ((List.ofFn λi:Fin len=>oY l (f i).1).map (enc (Hy l)))) (.slice (some a) ((List.ofFn λi:Fin len=>oY l (f i).1).map (enc (Hy l))).length cap):=by
       have el:((List.ofFn λi:Fin len=>oY l (f i).1).map (enc (Hy l))).length=len:=by simp
       have eg:∀i (hi:i < ((List.ofFn λi:Fin len=>oY l (f i).1).map (enc (Hy l))).length),((List.ofFn λi:Fin len=>oY l (f i).1).map (enc (Hy l)))[i]=encL l (f ⟨i,by omega⟩).1:=by
        intro i hi;simp[FH]
       refine .sl l.length (λi j=>if h:i < len then (f ⟨i,h⟩).2.getD j undef else undef) (λi hi=>by rw[eg i hi,clen]) (by rw[el];exact hle) hmax (λh=>by cases h) (λi j hi hj=>?_) (λi j hi hj=>?_)
       ·rw[el] at hi
        have cell:∀i' (hi':i' < len) j',j' < l.length->w.cell? ((a.add (i'*l.length)).add j')=some ((f ⟨i',hi'⟩).2.getD j' undef):=by
         intro i' hi' j' hj';have h1:=World.cells?_some (hf ⟨i',hi'⟩).2.2;have h2:=h1.2.2 j' (by omega);rw[hsz];rw[h2]
         have:j' < (f ⟨i',hi'⟩).2.length:=by rw[h1.2.1];omega
         simp[this]
        have h0:=World.cell?_spot (cell 0 (by omega) 0 (by omega));obtain⟨b,o,spot⟩:=a
        have hspot:spot=none:=by simpa [Addr.add] using h0
        subst hspot;refine⟨b,o,rfl,trivial,?_⟩;have h2:=cell i hi j hj;rw[Go.WideShapes.add_plain,Go.WideShapes.add_plain] at h2;rw[dif_pos hi,<- h2,Nat.add_assoc]
       ·rw[el] at hi;have hr:=(hf ⟨i,hi⟩).2.1
        have hj2:j < (encL l (f ⟨i,hi⟩).1).length:=by rw[eg i (by omega)] at hj;exact hj
        have hj3:j < (f ⟨i,hi⟩).2.length:=by rw[<- hr.len];exact hj2
        have h3:=hr.get j hj2 hj3
        have e1:(if h:i < len then (f ⟨i,h⟩).2.getD j undef else undef)=(f ⟨i,hi⟩).2[j]:=by
         rw[dif_pos hi];simp[hj3]
        simp only[e1];have e2:((List.ofFn λi:Fin len=>oY l (f i).1).map (enc (Hy l)))[i]'(by omega)=encL l (f ⟨i,hi⟩).1:=eg i (by omega);simp only[e2];exact h3
      rw[List.length_map,List.length_ofFn] at key;refine⟨(List.ofFn λi:Fin len=>oY l (f i).1,()),⟨⟨by rw[List.length_ofFn];omega,λx hx=>?_⟩,trivial⟩,key,trivial⟩;obtain⟨i,rfl⟩:=List.mem_ofFn.1 hx;exact Dg _ _ (hf i).1
    ·cases hL
   ·cases hL
  ·rename_i fs ht;split at hL
   ·rename_i l hl;split at hL
    ·rename_i hsz
     injection hL with hL
     subst hL;obtain⟨xs,m,_,_,hlen,hxl,hf⟩:=DataW.trod_struct ht hx
     obtain⟨h,g,r⟩:=Je (cs:=cs) (m:=m) (λt L hL cs x hx=>ih t L hL m cs x hx) fs.toList 0 l hl (by
      intro f hfm;obtain⟨i,hi,rfl⟩:=List.mem_iff_getElem.1 hfm
      have hi2:i < fs.size:=by simpa using hi
      have h1:=hf i fs[i] (by simp[hi2]);rw[oGE (by omega)] at h1
      exact⟨_,by simpa using h1⟩)
     refine⟨h,g,?_⟩;rw[List.drop_zero,hsz,<- hlen,List.take_length] at r;exact r
    ·cases hL
   ·cases hL
  ·cases hL
theorem intake_arg(n:Nat) {t:TypeId}{L:List CT}{v:Value}{d:DataW H}{p:List MemPlace}(hL:vR P n t=some L) (h:DataW.Trod ec P w base spare held t v d p) :
 ∃h:HL den L,GoodL L h/\RelL w (encL L h) v.cells.toList:=by
 obtain⟨fuel,hf⟩:=h;exact NM n t L hL fuel _ _ hf
end
theorem plain_one{w:World}{t:TV}{v:Value}(r:RelL w [t] [v]):ET w t v:=r.1.plain
theorem MH{a b:Int}(ha:Hz a) (hb:0 < b) (hb2:b<=9223372036854775807):gH a b=some (a % b,()):=by
 have hne:(b != 0)=true:=by simp;omega
 have hm:Int.tmod a b < b:=Int.tmod_lt_of_pos a hb
 have hm2:-b < Int.tmod a b:=by
  have:=Int.tmod_lt_of_pos (-a) hb;rw[Int.neg_tmod] at this;omega
 have hq:a % b=Int.tmod a b % b:=by
  have e:=Int.mul_tdiv_add_tmod a b;rw[Int.add_comm] at e
  conv=>lhs;rw[<- e]
  exact Int.add_mul_emod_self_left ..
 unfold gH;simp only[hne,oCT];by_cases h:Int.tmod a b < 0
 ·simp only[h,decide_true,oCT,oBS];rw[dQ (by omega) (by omega),hq,<- Int.emod_eq_of_lt (a:=Int.tmod a b+b) (b:=b) (by omega) (by omega),Int.add_emod_right]
 ·simp only[h,decide_false,oCF,oBS];rw[hq,Int.emod_eq_of_lt (by omega) hm]
theorem NH{a b:Int}(ha:Hz a) (hb:0 < b) (hb2:b<=9223372036854775807):qf a b=some (a % b,()):=by
 unfold qf;rw[MH ha hb hb2];rfl
theorem xj{a:List DCe}(h:a.length<=1000):jh a a=some (true,()):=by
 have e:dU jP NN (a,a,(a.length:Int),0,())=some (.inr (a,a,(a.length:Int),(a.length:Int),false,())):=by
  refine l8 (st:=λk=>(a,a,(a.length:Int),(k:Int),())) (n:=a.length) (by unfold NN;omega) ?_ ?_
  ·intro k hk;unfold jP;dsimp only;rw[oDT (show (k:Int) < a.length by omega),dN];simp only[oCT,oBS,show dK a k=some a[k] from oGE hk,BEq.rfl,Bool.and_self,oNT,oCF];rw[dQ (x:=(k:Int)+1) (by omega) (by omega)];exact Ok.ret rfl
  ·unfold jP;dsimp only;rw[oDF (show ¬ (a.length:Int) < a.length by omega)];exact Ok.ret rfl
 unfold jh;delta dM;dsimp only;rw[e];simp only[bne_self_eq_false,oCF]
def Sh4(ls:List DLn):Prop:=ls.length<=4/\∀x∈ls,x.2.2.length<=4
theorem MK{cs:List DCe}{ls:List DLn}(h:cs.length<=1000) (hs:Sh4 ls):mT cs ls cs ls=some (true,()):=by
 have e:dU jL NN ((ls.length:Int),0,cs,ls,cs,ls,())=some (.inr ((ls.length:Int),(ls.length:Int),false,cs,ls,cs,ls,())):=by
  have h4:=hs.1;refine l8 (st:=λk=>((ls.length:Int),(k:Int),cs,ls,cs,ls,())) (n:=ls.length) (by unfold NN;omega) ?_ ?_
  ·intro k hk;unfold jL;dsimp only;have hx:ls[k]?=some ls[k]:=oGE hk;have hl:=hs.2 _ (dP hx);rw[oDT (show (k:Int) < ls.length by omega),dN];simp only[oCT,oBS,show dK ls k=some ls[k] from hx,BEq.rfl,bne_self_eq_false,oNT,oCF];rw[xj (by omega)];simp only[oBS,oNT,oCF];rw[dQ (x:=(k:Int)+1) (by omega) (by omega)];exact Ok.ret rfl
  ·unfold jL;dsimp only;rw[oDF (show ¬ (ls.length:Int) < ls.length by omega)];exact Ok.ret rfl
 unfold mT;rw[xj h];delta dM;simp only[oBS,oNT,oCF,bne_self_eq_false];rw[e]
theorem rE{rs:List DCe}(h:rs.length<=1000):fk rs=some (rs,()):=by
 unfold fk;rw[dT (by omega)];rfl
theorem EM{rs:List DLn}(h:rs.length<=1000):gz rs=some (rs,()):=by
 unfold gz;rw[dT (by omega)];rfl
theorem IW{α:Type}{l:List α}{i:Nat}{f:α->α}(h:∀x,l[i]?=some x->f x=x):List.modify l i f=l:=by
 apply List.ext_getElem?;intro j;rw[List.getElem?_modify];by_cases hij:i=j
 ·subst hij
  cases hl:l[i]? with
  | none=>simp
  | some x=>simp[h x hl]
 ·simp[hij]
theorem KR{cs:List DCe}{ls:List DLn}(h:cs.length<=1000) (hs:Sh4 ls):lJ cs ls=some (cs,ls,()):=by
 have h4:=hs.1
 have e:dU i7 NN ((ls.length:Int),0,(),(),cs,ls,())=some ((ls.length:Int),(ls.length:Int),false,(),(),cs,ls,()):=by
  refine l8 (st:=λk=>((ls.length:Int),(k:Int),(),(),cs,ls,())) (n:=ls.length) (by unfold NN;omega) ?_ ?_
  ·intro k hk;unfold i7;dsimp only;have hx:ls[k]?=some ls[k]:=oGE hk;have hl:=hs.2 _ (dP hx);rw[oDT (show (k:Int) < ls.length by omega),dN];simp only[oCT,oBS,show dK ls k=some ls[k] from hx];rw[rE (by omega)];simp only[oBS];rw[IW λx hx'=>by rw[hx] at hx';injection hx' with hx';subst hx';rfl];rw[dQ (x:=(k:Int)+1) (by omega) (by omega)];exact Ok.ret rfl
  ·unfold i7;dsimp only;rw[oDF (show ¬ (ls.length:Int) < ls.length by omega)];exact Ok.ret rfl
 unfold lJ;rw[rE h,EM (by omega)];delta dM;simp only[oBS];rw[e];rfl
theorem jp.sh4{K:Int->Prop}{cs:List DCe}{ls:List DLn}(h:jp K cs ls):Sh4 ls:=⟨by rw[h.llen];omega,λx hx=>by
 obtain⟨i,hi⟩:=List.getElem?_of_mem hx
 exact (h.lines i x hi).len⟩
theorem g64{h:den I64}(g:EW I64 h):Hz h:=bounds_i64 g
theorem NP{h:den RI}(g:EW RI h):(∀z∈(show List Int from h),Hz z)/\(show List Int from h).length<=maxLen:=⟨λz hz=>bounds_i64 (g.2 z hz),g.1⟩
theorem Nt{x:DTh}(h:x.2.1.length<=1000):mS x.1 x.2.1 x.2.2.1 x.2.2.2.1 x.2.2.2.2.1 x.2.2.2.2.2.1 x.2.2.2.2.2.2.1 x.2.2.2.2.2.2.2 x.1 x.2.1 x.2.2.1 x.2.2.2.1 x.2.2.2.2.1 x.2.2.2.2.2.1 x.2.2.2.2.2.2.1 x.2.2.2.2.2.2.2=some (true,()):=by
 unfold mS;rw[xj h];simp only[oBS,BEq.rfl,oCT]
theorem MO{l:List Int}{key:Int}(h:l.length<=1000):mW l key l key=some (true,()):=by
 have e:dU jM NN ((l.length:Int),0,l,key,l,key,())=some (.inr ((l.length:Int),(l.length:Int),false,l,key,l,key,())):=by
  refine l8 (st:=λk=>((l.length:Int),(k:Int),l,key,l,key,())) (n:=l.length) (by unfold NN;omega) ?_ ?_
  ·intro k hk;unfold jM;dsimp only;rw[oDT (show (k:Int) < l.length by omega),dN];simp only[oCT,oBS,show dK l k=some l[k] from oGE hk,bne_self_eq_false,oCF];rw[dQ (x:=(k:Int)+1) (by omega) (by omega)];exact Ok.ret rfl
  ·unfold jM;dsimp only;rw[oDF (show ¬ (l.length:Int) < l.length by omega)];exact Ok.ret rfl
 unfold mW;delta dM;dsimp only;rw[e];simp only[bne_self_eq_false,oCF]
structure JN (bs:List Int) (cs:List DCe) (ls:List DLn) (ts:List DTh):Prop where
 bl:bs.length<=1000
 cl:cs.length<=1000
 ll:Sh4 ls
 tl:ts.length<=1000
 rl:∀t∈ts,t.2.1.length<=1000
theorem JN.nil:JN [] [] [] []:=⟨by simp,by simp,⟨by simp,ee⟩,by simp,ee⟩
theorem MOk.small{n:Int}{ss bs:List Int}{cs:List DCe}{ls:List DLn}{ts:List DTh}(h:MOk n ss bs cs ls ts):JN bs cs ls ts:=⟨by have:=h.lay.2.1;have:=h.lay.1.2.1;omega,by rw[h.mem.clen];omega,h.mem.sh4,by rw[h.tlen];omega,λt ht=>by rw[(h.thr t ht).len];omega⟩
theorem Fq{bs:List Int}{key:Int}{cs:List DCe}{ls:List DLn}{ts:List DTh}(h:JN bs cs ls ts):kV bs key cs ls ts bs key cs ls ts=some (true,()):=by
 have h4:=h.tl
 have e:dU jG NN ((ts.length:Int),0,bs,key,cs,ls,ts,bs,key,cs,ls,ts,())=some (.inr ((ts.length:Int),(ts.length:Int),false,bs,key,cs,ls,ts,bs,key,cs,ls,ts,())):=by
  refine l8 (st:=λk=>((ts.length:Int),(k:Int),bs,key,cs,ls,ts,bs,key,cs,ls,ts,())) (n:=ts.length) (by unfold NN;omega) ?_ ?_
  ·intro k hk;unfold jG;dsimp only;have hx:ts[k]?=some ts[k]:=oGE hk;rw[oDT (show (k:Int) < ts.length by omega),dN];simp only[oCT,oBS,show dK ts k=some ts[k] from hx];rw[Nt (h.rl _ (dP hx))];simp only[oBS,oNT,oCF];rw[dQ (x:=(k:Int)+1) (by omega) (by omega)];exact Ok.ret rfl
  ·unfold jG;dsimp only;rw[oDF (show ¬ (ts.length:Int) < ts.length by omega)];exact Ok.ret rfl
 unfold kV;rw[MO h.bl,MK h.cl h.ll];delta dM;simp only[oBS,oNT,oCF,bne_self_eq_false];rw[e]
theorem Hj{l:List Int}(h:l.length<=1000):gW l=some (l,()):=by
 unfold gW;rw[dT (by omega)];rfl
theorem KS{l:List Int}{key:Int}(h:l.length<=1000):jQ l key=some (l,key,()):=by
 unfold jQ;rw[Hj h];rfl
theorem KE{bs:List Int}{key:Int}{cs:List DCe}{ls:List DLn}{ts:List DTh}(h:JN bs cs ls ts):kD bs key cs ls ts=some (bs,key,cs,ls,ts,()):=by
 have h4:=h.tl
 have e:dU gj NN (ts,(ts.length:Int),0,bs,key,cs,ls,ts,(),0,(),(),(),bs,key,cs,ls,[],())=some (ts,(ts.length:Int),(ts.length:Int),false,bs,key,cs,ls,ts,(),0,(),(),(),bs,key,cs,ls,ts,()):=by
  have:=l8 (f:=gj) (N:=NN) (st:=λk=>(ts,(ts.length:Int),(k:Int),bs,key,cs,ls,ts,(),0,(),(),(),bs,key,cs,ls,ts.take k,())) (n:=ts.length) (t:=(ts,(ts.length:Int),(ts.length:Int),false,bs,key,cs,ls,ts,(),0,(),(),(),bs,key,cs,ls,ts,())) (by unfold NN;omega) ?_ ?_
  ·exact this
  ·intro k hk;unfold gj;dsimp only;have hx:ts[k]?=some ts[k]:=oGE hk;rw[oDT (show (k:Int) < ts.length by omega),dN];simp only[oCT,oBS,show dK ts k=some ts[k] from hx];rw[rE (h.rl _ (dP hx))];simp only[oBS];refine dH (dT (by rw[oLT];simp only[List.length_singleton];omega)) ?_;rw[dQ (x:=(k:Int)+1) (by omega) (by omega)];refine Ok.ret ?_;rw[show ts.take (k+1)=List.append (ts.take k) [ts[k]] by rw[List.take_add_one,hx];rfl];rfl
  ·unfold gj;dsimp only;rw[oDF (show ¬ (ts.length:Int) < ts.length by omega),List.take_length];exact Ok.ret rfl
 unfold kD;rw[KS h.bl,KR h.cl h.ll];delta dM;simp only[oBS];rw[e];rfl
theorem HM{l:List Int}(h:l.length<=1000):i6 l l=some (true,()):=by
 have e:dU gG NN (l,l,(l.length:Int),0,())=some (.inr (l,l,(l.length:Int),(l.length:Int),false,())):=by
  refine l8 (st:=λk=>(l,l,(l.length:Int),(k:Int),())) (n:=l.length) (by unfold NN;omega) ?_ ?_
  ·intro k hk;unfold gG;dsimp only;rw[oDT (show (k:Int) < l.length by omega),dN];simp only[oCT,oBS,show dK l k=some l[k] from oGE hk,bne_self_eq_false,oCF];rw[dQ (x:=(k:Int)+1) (by omega) (by omega)];exact Ok.ret rfl
  ·unfold gG;dsimp only;rw[oDF (show ¬ (l.length:Int) < l.length by omega)];exact Ok.ret rfl
 unfold i6;delta dM;dsimp only;rw[e];simp only[bne_self_eq_false,oCF]
theorem Hq:n8=some (true,()):=by kernel_rfl
theorem copies_law{l:List Int}{at_:Int}(hl:∀x∈l,Hz x) (hm:l.length<=maxLen) (ha:Hz at_):ig l at_=some (true,()):=by
 refine eO ?_;unfold ig;refine (GL (Bz hl hm)).bind ?_;rintro _ ⟨code,ss,dt,bs,key,cs,ls,ts,k',rfl,hp,hkey,hM,hd⟩;dsimp only;have hS:=hM.small;have h5:=hM.mem.clen;have h4:=hM.tlen;have hb1:=hM.lay.1.1;have hbl:=hM.lay.2.1;obtain⟨t,ht⟩:∃t,ts[0]?=some t:=⟨_,oGE (by omega)⟩;have hT:=(hM.thr t (dP ht)).len;obtain⟨r,hr⟩:∃r,t.2.1[0]?=some r:=⟨_,oGE (by omega)⟩;obtain⟨b,hb⟩:∃b,bs[0]?=some b:=⟨_,oGE (by omega)⟩;rw[nK hM];simp only[oBS];rw[KE hS];simp only[oBS];rw[Fq hS];delta dM;simp only[oBS,oNT,oCF,h4,h5,hT,show dK ts 0=some t from ht];rw[show (((4:Nat):Int)==0)=false from rfl,show (((8:Nat):Int)==0)=false from rfl,show (((512:Nat):Int)==0)=false from rfl];simp only[oCF,oBS,h5,show dK ts 0=some t from ht,show dK t.2.1 0=some r from hr,show dK bs 0=some b from hb];rw[show ((512:Nat):Int)=512 from rfl,NH ha (by decide) (by decide)];obtain⟨i,hi⟩:∃i:Nat,at_ % 512=i:=⟨(at_ % 512).toNat,by omega⟩;obtain⟨c,hc⟩:∃c,cs[i]?=some c:=⟨_,oGE (by omega)⟩;rw[hi];simp only[oBS,oCF,dN,show dK cs i=some c from hc];rw[Fq hS,HM hS.bl,Hq];exact Ok.ret rfl
theorem law_ProgramCopies{h0:HL den [RI]}{h1:HL den [I64]}(g0:GoodL _ h0) (g1:GoodL _ h1):lc.g (appL _ _ h0 (appL _ _ h1 ()))=some (true,()):=
 copies_law (NP g0.1).1 (NP g0.1).2 (g64 g1.1)
end Go.Proofs.YtbapcamohngjbaaGreat
