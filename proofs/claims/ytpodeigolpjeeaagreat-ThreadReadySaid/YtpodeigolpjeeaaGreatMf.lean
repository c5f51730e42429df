/- Part of the proof; no condition. -/
import Derived.Test.YtpodeigolpjeeaaGreatMe
import Derived.Deep.Slices
set_option linter.unusedVariables false
set_option linter.unusedSimpArgs false
namespace Go.Proofs.YtpodeigolpjeeaaGreat
open Go.RowKit
theorem LK.len{K:Int→Prop}{i:Nat}{x:DLn}(h:LK K i x):x.2.2.length≤4:=by
 rcases h with ⟨_,_,h⟩ | ⟨_,_,_,h,_⟩
 ·rw[h];simp
 ·omega
theorem GU{K:Int→Prop}{cs:List DCe}{ls:List DLn}(h:jJ K cs ls):mj cs ls=some (cs,ls,()):=by
 obtain⟨h1,h2,h3,h4⟩:=h
 have e:dQ gW NN (ls,(ls.length:Int),0,cs,ls,(),(),cs,[],())=some (ls,(ls.length:Int),(ls.length:Int),false,cs,ls,(),(),cs,ls,()):=by
  have:=mH (f:=gW) (N:=NN) (st:=fun k=>(ls,(ls.length:Int),(k:Int),cs,ls,(),(),cs,ls.take k,())) (n:=ls.length) (t:=(ls,(ls.length:Int),(ls.length:Int),false,cs,ls,(),(),cs,ls,())) (by unfold NN;omega) ?_ ?_
  ·exact this
  ·intro k hk;unfold gW;dsimp only
   (with_reducible refine Ok.cb (fun hca=>?_) (fun hca=>?_))
   ·rw[dH];simp only[Option.bind_some];refine Ok.get (by omega) fun x hx=>?_;have:=(h4 k x hx).len;refine Ok.need (dN (by omega)) (Ok.need (dN (by simp;omega)) ?_)
    (simp (disch:=omega) only [dL,dS,dO,dP])
    refine Ok.ret ?_;rw[List.take_add_one,hx];rfl
   ·omega
  ·unfold gW;dsimp only
   (with_reducible refine Ok.cb (fun hca=>?_) (fun hca=>?_))
   ·omega
   ·rw[List.take_length];exact Ok.ret rfl
 refine Ok.eq ?_;unfold mj;refine Ok.need (dN (by omega)) ?_;rw[show List.append [] cs=cs from rfl];delta dJ
 try dsimp only
 rw[e];exact Ok.ret rfl
theorem oF{n key:Int}{ss bs:List Int}{cs:List DCe}{ls:List DLn}{ts:List DTh}(h:MOk n ss bs cs ls ts):gV bs key cs ls ts=some (bs,key,cs,ls,ts,()):=by
 obtain⟨h1,h2,h3,h4⟩:=h;have hb:=h1.2.1;have hs4:=h1.1.2.1
 have e:dQ gU NN (ts,(ts.length:Int),0,bs,key,cs,ls,ts,(),0,(),(),(),bs,key,cs,ls,[],())=some (ts,(ts.length:Int),(ts.length:Int),false,bs,key,cs,ls,ts,(),0,(),(),(),bs,key,cs,ls,ts,()):=by
  have:=mH (f:=gU) (N:=NN) (st:=fun k=>(ts,(ts.length:Int),(k:Int),bs,key,cs,ls,ts,(),0,(),(),(),bs,key,cs,ls,ts.take k,())) (n:=ts.length) (t:=(ts,(ts.length:Int),(ts.length:Int),false,bs,key,cs,ls,ts,(),0,(),(),(),bs,key,cs,ls,ts,())) (by unfold NN;omega) ?_ ?_
  ·exact this
  ·intro k hk;unfold gU;dsimp only
   (with_reducible refine Ok.cb (fun hca=>?_) (fun hca=>?_))
   ·rw[dH];simp only[Option.bind_some];refine Ok.get (by omega) fun x hx=>?_;have:=(h4 x (dK hx)).len;refine Ok.need (dN (by omega)) (Ok.need (dN (by simp;omega)) ?_)
    (simp (disch:=omega) only [dL,dS,dO,dP])
    refine Ok.ret ?_;rw[List.take_add_one,hx];rfl
   ·omega
  ·unfold gU;dsimp only
   (with_reducible refine Ok.cb (fun hca=>?_) (fun hca=>?_))
   ·omega
   ·rw[List.take_length];exact Ok.ret rfl
 refine Ok.eq ?_;unfold gV;refine Ok.need (dN (by omega)) ?_;rw[GU h2,show List.append [] bs=bs from rfl];delta dJ;simp only[Option.bind_some];rw[e];exact Ok.ret rfl
theorem po{α:Type}{l:List α}{i:Nat}{f:α→α}{a:α}(h:l[i]?=some a):(List.modify l i f)[i]?=some (f a):=by rw[List.getElem?_modify,h];simp
theorem ie{α:Type}(l:List α) (i:Nat) (f g:α→α):List.modify (List.modify l i f) i g=List.modify l i fun a=>g (f a):=by
 apply List.ext_getElem?;intro j;simp only[List.getElem?_modify];by_cases h:i=j
 ·simp only[h,if_true];cases l[j]?<;>rfl
 ·simp[h]
theorem MOk.thread{n:Int}{ss bs:List Int}{cs:List DCe}{ls:List DLn}{ts:List DTh}(h:MOk n ss bs cs ls ts) {i:Nat}{t:DTh}{f:DTh→DTh}(ht:ts[i]?=some t) (hf:vl (RK bs ss) n (f t)):MOk n ss bs cs ls (List.modify ts i f):=by
 refine⟨h.lay,h.mem,by rw[List.length_modify];exact h.tlen,fun x hx=>?_⟩;obtain⟨j,hj⟩:=List.getElem?_of_mem hx;rw[List.getElem?_modify] at hj;by_cases hij:i=j
 ·subst hij;rw[ht] at hj
  have hj:f t=x:=by simpa using hj
  rw[← hj];exact hf
 ·simp only[hij,if_false] at hj
  have:ts[j]?=some x:=by simpa using hj
  exact h.thr x (dK this)
theorem Jj{n key:Int}{ss bs:List Int}{cs:List DCe}{ls:List DLn}{ts:List DTh}(h:MOk n ss bs cs ls ts) (i:Int):Ok (lC bs key cs ls ts i) fun r=>r.1=true→0≤i∧i < 4∧∀t,ts[i.toNat]?=some t→t.2.2.2.2.1≠-1:=by
 unfold lC;delta dJ
 try dsimp only
 have:=h.tlen
 (with_reducible refine Ok.cb (fun hca=>?_) (fun hca=>?_))
 ·exact Ok.ret (fun h=>by cases h)
 ·(with_reducible refine Ok.cb (fun hcb=>?_) (fun hcb=>?_))
  ·exact Ok.ret (fun h=>by cases h)
  ·refine Ok.nat (by omega) fun j hj=>?_;refine Ok.get (by omega) fun t ht=>?_;subst hj
   (with_reducible refine Ok.cb (fun hcc=>?_) (fun hcc=>?_))
   ·(with_reducible refine Ok.cb (fun hcd=>?_) (fun hcd=>?_))
    ·exact Ok.ret (fun _=>⟨by omega,by omega,fun t' ht'=>by
      rw[Int.toNat_natCast,ht] at ht'
      injection ht' with ht'
      rw[← ht']
      exact hcd⟩)
    ·exact Ok.ret (fun h=>by cases h)
   ·exact Ok.ret (fun h=>by cases h)
theorem EG{n key:Int}{ss bs:List Int}{cs:List DCe}{ls:List DLn}{ts:List DTh}(h:MOk n ss bs cs ls ts) (i:Int):Ok (jf bs key cs ls ts i) fun r=>∃ts' b,r=(bs,key,cs,ls,ts',b,())∧MOk n ss bs cs ls ts':=by
 unfold jf;rw[oF h];simp only[Option.bind_some];refine (Jj h i).bind ?_;rintro⟨b,_⟩ hb;dsimp only at hb ⊢
 (with_reducible refine Ok.cb (fun hca=>?_) (fun hca=>?_))
 ·exact Ok.ret ⟨ts,false,rfl,h⟩
 ·have hb:=hb hca;have htl:=h.tlen;obtain⟨hb1,hb2,hb3⟩:=hb;refine Ok.nat hb1 fun j hj=>?_;subst hj;refine Ok.get (by omega) fun t ht=>?_;refine Ok.get (by omega) fun t1 ht1=>?_;refine Ok.get (by omega) fun t2 ht2=>?_;refine Ok.get (by omega) fun t3 ht3=>?_;rw[ht] at ht1 ht2 ht3
  injection ht1 with ht1
  injection ht2 with ht2
  subst ht1 ht2;refine Ok.get (by rw[List.length_modify];omega) fun t4 ht4=>?_;have hne:=hb3 t (by rw[Int.toNat_natCast];exact ht);have hok:=h.thr t (dK ht);rw[ie];exact Ok.ret ⟨_,_,rfl,h.thread ht ⟨hok.state,hok.len,hok.regs,⟨by have:=hok.handler;dsimp only;omega,hok.handler.2⟩,hok.count,hok.handler,⟨by have:=hok.pc;dsimp only;omega,hok.pc.2⟩,hok.trap,hok.code⟩⟩
theorem Ju{n why:Int}{ts:List DTh}{i:Nat}{t:DTh}(ht:ts[i]?=some t):eQ i why ts=some (2,List.modify ts i fun t=>(4,t.2.1,t.2.2.1,t.2.2.2.1,t.2.2.2.2.1,t.2.2.2.2.2.1,why,0),()):=by
 refine Ok.eq ?_;have hl:=(List.getElem?_eq_some_iff.1 ht).1;unfold eQ;refine Ok.get hl fun _ _=>?_;refine Ok.get (by rw[List.length_modify];exact hl) fun _ _=>?_;refine Ok.get (by rw[List.length_modify,List.length_modify];exact hl) fun _ _=>?_;rw[ie,ie];exact Ok.ret rfl
theorem vl.ended{K:Int→Prop}{n why:Int}{t:DTh}(h:vl K n t) (hw:0≤why∧why≤6):vl K n (4,t.2.1,t.2.2.1,t.2.2.2.1,t.2.2.2.2.1,t.2.2.2.2.2.1,why,0):=
 ⟨⟨by dsimp only;omega,by dsimp only;omega⟩,h.len,h.regs,h.pc,h.count,h.handler,h.saved,hw,⟨by dsimp only;omega,by dsimp only;omega⟩⟩
theorem rL{ss bs:List Int}{key a:Int}(h:LV bs ss) (ha:0≤a∧a≤65535):Ok (eO bs key ss a) fun r=>(r.2.2.1=true→∃b n,0≤r.1∧bs[r.1.toNat]?=some b∧ss[r.1.toNat]?=some n∧0≤r.2.1∧r.2.1 < n∧a=b+r.2.1):=by
 obtain⟨hs,hl,hr⟩:=h;have hs4:=hs.2.1;unfold eO;delta dJ
 try dsimp only
 obtain⟨t,e,ht⟩:=Ok.iter (f:=eu) (n:=NN) (s:=(ss,a,bs,(bs.length:Int),0,bs,key,0,0,())) (P:=fun s'=>∃k:Nat,s'=(ss,a,bs,(bs.length:Int),(k:Int),bs,key,0,0,())∧k≤bs.length)
  (R:=fun r=>(∃x y,r=.inl (true,x,y,())∧∃b n,0≤x∧bs[x.toNat]?=some b∧ss[x.toNat]?=some n∧0≤y∧y < n∧a=b+y)∨∃z,r=.inr z) (m:=fun s'=>(s'.2.2.2.1 - s'.2.2.2.2.1).toNat) ⟨0,rfl,by omega⟩ (by unfold NN;dsimp only;omega) (by
   rintro _ ⟨k,rfl,hk⟩;unfold eu;dsimp only
   (with_reducible refine Ok.cb (fun hca=>?_) (fun hca=>?_))
   ·rw[dH];simp only[Option.bind_some];obtain⟨b,hb⟩:∃b,bs[k]?=some b:=⟨_,List.getElem?_eq_getElem (by omega)⟩;obtain⟨y,hy⟩:∃y,ss[k]?=some y:=⟨_,List.getElem?_eq_getElem (by omega)⟩;have hy2:=hs.2.2 y (dK hy);have hrk:=hr k (by omega);unfold tA at hrk;rw[ej hb,ej hy] at hrk;rw[show dF bs k=some b from hb];simp only[Option.bind_some];rw[show dF ss k=some y from hy];simp only[Option.bind_some];rw[dL (x:=b+y) (by omega) (by omega)];by_cases h1:a≥b
    ·by_cases h2:a < b+y
     ·simp only[h1,h2,decide_true,cond_true];rw[dL (x:=a - b) (by omega) (by omega)];exact Ok.ret (.inl ⟨_,_,rfl,b,y,by omega,by rw[Int.toNat_natCast];exact hb,by rw[Int.toNat_natCast];exact hy,by omega,by omega,by omega⟩)
     ·simp only[h1,h2,decide_true,decide_false,cond_true,cond_false]
      (simp (disch:=omega) only [dL,dS,dO,dP])
      exact Ok.ret ⟨⟨k+1,rfl,by omega⟩,by dsimp only;omega⟩
    ·simp only[h1,decide_false,cond_false]
     (simp (disch:=omega) only [dL,dS,dO,dP])
     exact Ok.ret ⟨⟨k+1,rfl,by omega⟩,by dsimp only;omega⟩
   ·exact Ok.ret (.inr ⟨_,rfl⟩))
 rw[e];rcases ht with ⟨x,y,rfl,hxy⟩ | ⟨z,rfl⟩
 ·exact Ok.ret fun _=>hxy
 ·exact Ok.ret fun h=>by cases h
theorem wU{ss:List Int}{r o:Int}:Ok (eZ ss r o) fun x=>x.1=true→0≤r∧0≤o∧∃n,ss[r.toNat]?=some n∧o < n:=by
 unfold eZ;delta dJ
 try dsimp only
 (with_reducible refine Ok.cb (fun hca=>?_) (fun hca=>?_))
 ·(with_reducible refine Ok.cb (fun hcb=>?_) (fun hcb=>?_))
  ·(with_reducible refine Ok.cb (fun hcc=>?_) (fun hcc=>?_))
   ·refine Ok.nat (by omega) fun j hj=>?_;refine Ok.get (by omega) fun n hn=>?_;subst hj;exact Ok.ret fun h=>⟨by omega,by omega,n,by rw[Int.toNat_natCast];exact hn,of_decide_eq_true h⟩
   ·exact Ok.ret fun h=>by cases h
  ·exact Ok.ret fun h=>by cases h
 ·exact Ok.ret fun h=>by cases h
theorem uf{ss bs:List Int}{key tag v n:Int}{back:Bool}(h:LV bs ss) (hv:W16 v) (hn:W16 n):Ok (fb bs key ss tag v n back) fun r=>∃t x e,r=(t,x,e,())∧lZ (RK bs ss) (t,x)∧0≤e∧e≤6∧(e=0→x < 512):=by
 have hz:∀e:Int,0 < e→e≤6→∃t x e',((0:Int),(0:Int),e,())=(t,x,e',())∧lZ (RK bs ss) (t,x)∧0≤e'∧e'≤6∧(e'=0→x < 512):=fun e h1 h2=>⟨0,0,e,rfl,kD (by decide),by omega,h2,by omega⟩;obtain⟨v0,v1⟩:=hv;obtain⟨n0,n1⟩:=hn;unfold fb
 (with_reducible refine Ok.cb (fun hca=>?_) (fun hca=>?_))
 ·exact Ok.ret (hz 3 (by decide) (by decide))
 ·rw[dO (x:=v) (by omega) (by omega),dO (x:=n) (by omega) (by omega)];refine (rL h ⟨v0,v1⟩).bind ?_;rintro⟨r,o,ok,_⟩ hres;dsimp only at hres ⊢
  (with_reducible refine Ok.cb (fun hcb=>?_) (fun hcb=>?_))
  ·exact Ok.ret (hz 4 (by decide) (by decide))
  ·obtain⟨b,z,hr0,hb,hzz,ho0,ho1,_⟩:=hres hcb;have hz2:=h.1.2.2 z (dK hzz);refine Ok.bind (P:=fun x=>∃o',x=(ss,bs,key,0,0,r,o',())∧-70000≤o'∧o'≤70000) ?_ ?_
   ·refine Ok.cond (fun _=>?_) fun _=>?_
    ·(simp (disch:=omega) only [dL,dS,dO,dP])
     exact Ok.ret ⟨_,rfl,by omega,by omega⟩
    ·(simp (disch:=omega) only [dL,dS,dO,dP])
     exact Ok.ret ⟨_,rfl,by omega,by omega⟩
   rintro _ ⟨o',rfl,ho2,ho3⟩;dsimp only;refine wU.bind ?_;rintro⟨q,_⟩ hin;dsimp only at hin ⊢
   (with_reducible refine Ok.cb (fun hcc=>?_) (fun hcc=>?_))
   ·exact Ok.ret (hz 4 (by decide) (by decide))
   ·obtain⟨_,g1,m,g2,g3⟩:=hin hcc;have hm2:=h.1.2.2 m (dK g2);refine Ok.nat hr0 fun j hj=>?_;subst hj;rw[Int.toNat_natCast] at hb g2;have hjl:=(List.getElem?_eq_some_iff.1 hb).1;have hrj:=h.2.2 j hjl;unfold tA at hrj;rw[ej hb,ej g2] at hrj;rw[show dF bs j=some b from hb];simp only[Option.bind_some];rw[dL (x:=b+o') (by omega) (by omega),dS (x:=b+o') (by omega) (by omega)];exact Ok.ret ⟨_,_,_,rfl,⟨by dsimp only;omega,by dsimp only;omega,by dsimp only;omega,by dsimp only;omega,fun _=>⟨j,b,m,hb,g2,by dsimp only;omega,by dsimp only;omega⟩⟩,by decide,by decide,fun _=>by omega⟩
theorem jJ.line{K:Int→Prop}{cs:List DCe}{ls:List DLn}(h:jJ K cs ls) {i:Nat}{x:DLn}{f:DLn→DLn}(hx:ls[i]?=some x) (hf:LK K i (f x)):jJ K cs (List.modify ls i f):=by
 refine⟨h.clen,h.cells,by rw[List.length_modify];exact h.llen,fun j y hy=>?_⟩;rw[List.getElem?_modify] at hy;by_cases hij:i=j
 ·subst hij;rw[hx] at hy
  have hy:f x=y:=by simpa using hy
  rw[← hy];exact hf
 ·simp only[hij,if_false] at hy;exact h.lines j y (by simpa using hy)
theorem Fc{K:Int→Prop}{cs xs:List DCe}{lo n:Nat}(h1:cs.length=512) (h2:lo+n≤512) (h3:n≤xs.length) (hc:∀c∈cs,lZ K c) (hx:∀c∈xs,lZ K c):(rE cs lo n xs).length=512∧∀c∈rE cs lo n xs,lZ K c:=by
 unfold rE;refine⟨?_,fun c hh=>?_⟩
 ·simp only[List.length_append,List.length_take,List.length_drop];omega
 ·simp only[List.mem_append] at hh;rcases hh with (hh | hh) | hh
  ·exact hc c (List.mem_of_mem_take hh)
  ·exact hx c (List.mem_of_mem_take hh)
  ·exact hc c (List.mem_of_mem_drop hh)
theorem Dn{K:Int→Prop}{cs:List DCe}{ls:List DLn}{a:Int}(h:jJ K cs ls) (ha:0≤a∧a < 512):Ok (jn a cs ls) fun r=>∃i cs' ls' x,r=(i,cs',ls',())∧jJ K cs' ls'∧ls'[i]?=some x∧x.1=a / 4∧x.2.2.length=4:=by
 obtain⟨a0,a1⟩:=ha;obtain⟨h1,h2,h3,h4⟩:=id h;unfold jn;rw[Int.tdiv_eq_ediv_of_nonneg a0,dL (x:=a / 4) (by omega) (by omega)];dsimp only;rw[Int.tmod_eq_emod_of_nonneg (show 0≤a / 4 by omega)];refine Ok.nat (by omega) fun i hi=>?_
 have hil:i < ls.length:=by omega
 obtain⟨x,hx⟩:∃x,ls[i]?=some x:=⟨_,List.getElem?_eq_getElem hil⟩;have hg:dF ls i=some x:=hx;have hL:=h4 i x hx;simp only[hg,Option.bind_some]
 (with_reducible refine Ok.cb (fun hca=>?_) (fun hca=>?_))
 ·refine Ok.ret ⟨i,cs,ls,x,rfl,h,hx,hca,?_⟩;rcases hL with ⟨g1,_,_⟩ | ⟨_,_,_,g,_⟩
  ·omega
  ·exact g
 ·refine Ok.bind (P:=fun r=>∃cs',r=(a / 4,i,cs',ls,())∧cs'.length=512∧∀c∈cs',lZ K c) ?_ ?_
  ·refine Ok.cond (fun hd=>?_) fun _=>Ok.ret ⟨cs,rfl,h1,h2⟩;rcases hL with ⟨_,g,_⟩ | ⟨g1,g2,g3,g4,g5⟩
   ·rw[g] at hd;cases hd
   ·rw[dL (x:=x.1*4) (by omega) (by omega)];refine Ok.nat (by omega) fun q hq=>?_;refine Ok.need (by unfold jG;simp;omega) ?_
    try simp only[hg,Option.bind_some]
    rw[g4,h1]
    have hmin:Nat.min 4 (Nat.sub 512 q)=4:=by
     show min 4 (512 - q)=4;omega
    rw[hmin];refine Ok.need (by unfold jG;simp;omega) ?_;refine Ok.need rfl ?_;obtain⟨s1,s2⟩:=Fc (lo:=q) (n:=4) h1 (by omega) (by omega) h2 g5;exact Ok.ret ⟨_,rfl,s1,s2⟩
  rintro _ ⟨cs',rfl,c1,c2⟩;dsimp only;rw[dL (x:=a / 4*4) (by omega) (by omega),dL (x:=a / 4+1) (by omega) (by omega),dL (x:=(a / 4+1)*4) (by omega) (by omega)];simp only[hg,Option.bind_some];refine Ok.get (by rw[List.length_modify];exact hil) fun _ _=>?_;refine Ok.nat (by omega) fun q hq=>?_;refine Ok.nat (by omega) fun q2 hq2=>?_;refine Ok.need (by unfold jG;simp;omega) ?_
  have hw:(mI cs' q (Nat.sub q2 q)).length=4:=by
   unfold mI;rw[List.length_take,List.length_drop];show min (q2 - q) _=4;omega
  refine Ok.need (dN (by omega)) ?_;refine Ok.get (by rw[List.length_modify,List.length_modify];exact hil) fun _ _=>?_;rw[ie,ie,show List.append [] (mI cs' q (Nat.sub q2 q))=mI cs' q (Nat.sub q2 q) from rfl];have hmem:jJ K cs' ls:=⟨c1,c2,h3,h4⟩;refine Ok.ret ⟨i,cs',_,_,rfl,hmem.line hx (.inr ⟨by dsimp only;omega,by dsimp only;omega,by dsimp only;omega,hw,fun c hc=>c2 c ?_⟩),po hx,rfl,hw⟩;dsimp only at hc;unfold mI at hc;exact List.mem_of_mem_drop (List.mem_of_mem_take hc)
theorem Gr{K:Int→Prop}{cs:List DCe}{ls:List DLn}{a:Int}(h:jJ K cs ls) (ha:0≤a∧a < 512):Ok (ky a cs ls) fun r=>∃t v cs' ls',r=(t,v,cs',ls',())∧lZ K (t,v)∧jJ K cs' ls':=by
 unfold ky;refine (Dn h ha).bind ?_;rintro _ ⟨i,cs',ls',x,rfl,hm,hx,hx1,hx2⟩;dsimp only;have hg:dF ls' i=some x:=hx;simp only[hg,Option.bind_some];rw[Int.tmod_eq_emod_of_nonneg ha.1];refine Ok.nat (by omega) fun j hj=>?_;refine Ok.get (by omega) fun _ _=>?_;refine Ok.get (by omega) fun c hc=>?_
 have hc2:lZ K c:=by
  rcases hm.lines i x hx with ⟨_,_,g⟩ | ⟨_,_,_,_,g⟩
  ·rw[g] at hx2;cases hx2
  ·exact g c (dK hc)
 exact Ok.ret ⟨_,_,_,_,rfl,hc2,hm⟩
theorem wG{K:Int→Prop}{cs:List DCe}{ls:List DLn}{a t v:Int}(h:jJ K cs ls) (ha:0≤a∧a < 512) (hc:lZ K (t,v)):Ok (ic a t v cs ls) fun r=>∃cs' ls',r=(cs',ls',())∧jJ K cs' ls':=by
 unfold ic;refine (Dn h ha).bind ?_;rintro _ ⟨i,cs',ls',x,rfl,hm,hx,hx1,hx2⟩;dsimp only;have hg:dF ls' i=some x:=hx;have hil:=(List.getElem?_eq_some_iff.1 hx).1;simp only[hg,Option.bind_some];rw[Int.tmod_eq_emod_of_nonneg ha.1];refine Ok.nat (by omega) fun j hj=>?_;refine Ok.get (by omega) fun _ _=>?_;refine Ok.get (by omega) fun _ _=>?_;refine Ok.get (by rw[List.length_modify];exact hil) fun _ _=>?_;rw[ie];refine Ok.ret ⟨_,_,rfl,hm.line hx ?_⟩;rcases hm.lines i x hx with ⟨_,_,g⟩ | ⟨g1,g2,g3,g4,g5⟩
 ·rw[g] at hx2;cases hx2
 ·exact .inr ⟨g1,g2,g3,by dsimp only;rw[List.length_modify];exact g4,ig g5 fun _ _=>hc⟩
theorem m0(x:Int):W16 (wk .u16 x):=by
 unfold wk;rw[xj];exact⟨by omega,by omega⟩
theorem IV{ss bs:List Int}{key t v t' v':Int}(h:LV bs ss) (hv:W16 v) (hv':W16 v'):Ok (jl bs key ss t v t' v') fun _=>True:=by
 obtain⟨v0,v1⟩:=hv;obtain⟨u0,u1⟩:=hv';unfold jl;rw[dO (x:=v) (by omega) (by omega),dO (x:=v') (by omega) (by omega)];refine (rL h ⟨v0,v1⟩).bind ?_;rintro⟨r,o,ok,_⟩ _;dsimp only;refine (rL h ⟨u0,u1⟩).bind ?_;rintro⟨r',o',ok',_⟩ _;dsimp only;cases ok<;>cases ok'<;>exact Ok.ret trivial
theorem Cj(b:Bool):iW b=some (0,(bif b then 1 else 0),()):=by cases b<;>rfl
theorem K6{op b c:Int}(hb:W16 b) (hc:W16 c):Ok (jk op b c) fun r=>∃v e,r=(0,v,e,())∧W16 v∧0≤e∧e≤6:=by
 obtain⟨b0,b1⟩:=hb;obtain⟨c0,c1⟩:=hc;have fin:∀x:Int,W16 x→Ok (some ((0:Int),x,(0:Int),())) fun r=>∃v e,r=(0,v,e,())∧W16 v∧0≤e∧e≤6:=fun x h=>Ok.ret ⟨x,0,rfl,h,by decide,by decide⟩;have z5:Ok (some ((0:Int),(0:Int),(5:Int),())) fun r=>∃v e,r=(0,v,e,())∧W16 v∧0≤e∧e≤6:=Ok.ret ⟨0,5,rfl,⟨by decide,by decide⟩,by decide,by decide⟩;have hw:∀x:Int,W16 (IntKind.wrap .u16 x):=m0;unfold jk
 (with_reducible refine Ok.cb (fun hca=>?_) (fun hca=>?_))
 ·exact fin _ (m0 _)
 (with_reducible refine Ok.cb (fun hcb=>?_) (fun hcb=>?_))
 ·exact fin _ (m0 _)
 (with_reducible refine Ok.cb (fun hcc=>?_) (fun hcc=>?_))
 ·exact fin _ (m0 _)
 have hq:∀X:Option (Int×Int×Int×Unit),c≠0→(X=(bif (op==6) then (bif (c != 0) then some ((0:Int),wk .u16 (Int.tdiv b c),(0:Int),()) else none) else bif (c != 0) then some ((0:Int),Int.tmod b c,(0:Int),()) else none))→Ok X fun r=>∃v e,r=(0,v,e,())∧W16 v∧0≤e∧e≤6:=by
  rintro _ hne rfl;refine Ok.cond (fun _=>Ok.need (by rw[bne_iff_ne];exact hne) (fin _ (m0 _))) fun _=>Ok.need (by rw[bne_iff_ne];exact hne) (fin _ ?_);rw[Int.tmod_eq_emod_of_nonneg b0];have h1:=Int.emod_nonneg b hne;have h2:=Int.emod_lt_of_pos b (show 0 < c by omega);exact⟨h1,by omega⟩
 (with_reducible refine Ok.cb (fun hcd=>?_) (fun hcd=>?_))
 ·(with_reducible refine Ok.cb (fun hce=>?_) (fun hce=>?_))
  ·exact z5
  ·exact hq _ hce rfl
 (with_reducible refine Ok.cb (fun hcd=>?_) (fun hcd=>?_))
 ·(with_reducible refine Ok.cb (fun hce=>?_) (fun hce=>?_))
  ·exact z5
  ·exact hq _ hce rfl
 (with_reducible refine Ok.cb (fun hcf=>?_) (fun hcf=>?_))
 ·exact fin _ (hw _)
 (with_reducible refine Ok.cb (fun hcf=>?_) (fun hcf=>?_))
 ·exact fin _ (hw _)
 (with_reducible refine Ok.cb (fun hcf=>?_) (fun hcf=>?_))
 ·exact fin _ (hw _)
 (with_reducible refine Ok.cb (fun hcf=>?_) (fun hcf=>?_))
 ·rw[Int.tmod_eq_emod_of_nonneg c0];refine Ok.nat (by omega) fun j hj=>?_;exact fin _ (hw _)
 (with_reducible refine Ok.cb (fun hcf=>?_) (fun hcf=>?_))
 ·rw[Int.tmod_eq_emod_of_nonneg c0];refine Ok.nat (by omega) fun j hj=>fin _ ?_;show W16 (Int.fdiv b (2 ^ (min j 16)));have hp:(0:Int) < 2 ^ (min j 16):=Int.pow_pos (by decide);rw[Int.fdiv_eq_ediv_of_nonneg _ (by omega)];exact⟨Int.ediv_nonneg b0 (by omega),by have:=Int.ediv_le_self (2 ^ (min j 16)) b0;omega⟩
 rw[Cj];refine fin _ ?_;cases decide (b < c)
 ·exact⟨by decide,by decide⟩
 ·exact⟨by decide,by decide⟩
def Jq(K:Int→Prop) (r:Int×Int×Int×Unit):Prop:=∃t v e,r=(t,v,e,())∧lZ K (t,v)∧0≤e∧e≤6
theorem oE{K:Int→Prop}{t v e:Int}(h:lZ K (t,v)) (h0:0≤e) (h1:e≤6):Ok (some (t,v,e,())) (Jq K):=Ok.ret ⟨t,v,e,rfl,h,h0,h1⟩
theorem tH{K:Int→Prop}{v:Int}(h:W16 v):lZ K (0,v):=kD h
theorem A4{K:Int→Prop}(b:Bool):lZ K (0,bif b then 1 else 0):=tH (by cases b<;>exact⟨by decide,by decide⟩)
theorem qp{K:Int→Prop}:lZ K (0,0):=tH ⟨by decide,by decide⟩
theorem LX{ss bs:List Int}{key op t v t' v':Int}(h:LV bs ss) (hb:lZ (RK bs ss) (t,v)) (hc:lZ (RK bs ss) (t',v')):Ok (pb bs key ss op t v t' v') (Jq (RK bs ss)):=by
 obtain⟨t0,t2,v0,v1,_⟩:=hb;obtain⟨u0,u2,w0,w1,_⟩:=hc;dsimp only at t0 t2 v0 v1 u0 u2 w0 w1;obtain⟨_,eN,n1,n2,rfl,hn1,hn2,hn3⟩:=K6 (op:=op) (b:=v) (c:=v') ⟨v0,v1⟩ ⟨w0,w1⟩;obtain⟨_,eA,a1,a2,a3,rfl,ha1,ha2,ha3,_⟩:=uf (key:=key) (tag:=t) (back:=false) h (v:=v) (n:=v') ⟨v0,v1⟩ ⟨w0,w1⟩;obtain⟨_,eB,b1,b2,b3,rfl,hb1,hb2,hb3,_⟩:=uf (key:=key) (tag:=t') (back:=false) h (v:=v') (n:=v) ⟨w0,w1⟩ ⟨v0,v1⟩;obtain⟨_,eC,c1,c2,c3,rfl,hc1,hc2,hc3,_⟩:=uf (key:=key) (tag:=t) (back:=true) h (v:=v) (n:=v') ⟨v0,v1⟩ ⟨w0,w1⟩;obtain⟨⟨p1,p2,p3,p4,ok,_⟩,eP,_⟩:=IV (key:=key) (t:=t) (t':=t') h (v:=v) (v':=v') ⟨v0,v1⟩ ⟨w0,w1⟩;unfold pb
 (with_reducible refine Ok.cb (fun hca=>?_) (fun hca=>?_))
 ·exact oE qp (by decide) (by decide)
 (with_reducible refine Ok.cb (fun hcb=>?_) (fun hcb=>?_))
 ·exact oE qp (by decide) (by decide)
 cases h14:(op==14) with
 | true=>
  simp only[cond_true,Cj,Option.bind_some];exact oE (A4 _) (by decide) (by decide)
 | false=>
  simp only[cond_false,eN,eA,eB,eC,eP,Option.bind_some]
  rcases (show t=0∨t=1∨t=2 by omega) with rfl | rfl | rfl<;>rcases (show t'=0∨t'=1∨t'=2 by omega) with rfl | rfl | rfl
  all_goals
   cases h3:(op==3)<;>cases h4:(op==4)<;>cases h13:(op==13)<;>simp only[Int.reduceBEq,cond_true,cond_false,Option.bind_some,h3,h4,h13,Cj,eN,eA,eB,eC,eP,BEq.rfl]
  all_goals first
   | exact oE (tH hn1) hn2 hn3
   | exact oE ha1 ha2 ha3
   | exact oE hb1 hb2 hb3
   | exact oE hc1 hc2 hc3
   | exact oE qp (by decide) (by decide)
   | (cases ok<;>first
    | exact oE qp (by decide) (by decide)
    | exact oE (A4 _) (by decide) (by decide)
    | exact oE (tH (m0 _)) (by decide) (by decide))
theorem GZ{l:List Int}{k:Int}(h:DOk l k):Ok (ld l k) fun r=>∃t b s k',r=(t,b,s,l,k',())∧0≤t∧t < 4∧0≤b∧b≤63∧DOk l k':=by
 unfold ld
 (with_reducible refine eY (by assumption) (by omega) (by omega) (fun v0 k0 a0 b0 d0=>?_);try dsimp only)
 (with_reducible refine eY (by assumption) (by omega) (by omega) (fun v1 k1 a1 b1 d1=>?_);try dsimp only)
 (with_reducible refine Ok.nat (by omega) (fun j1 hj1=>?_);try dsimp only)
 have hm:∀x∈[(0:Int),1,2,3,7,63],0≤x∧x≤63:=all_cons (by omega) (all_cons (by omega) (all_cons (by omega) (all_cons (by omega) (all_cons (by omega) (all_cons (by omega) dX)))));refine Ok.get (by simp only[List.length_cons,List.length_nil];omega) fun x hx=>?_;refine Ok.get (by simp only[List.length_cons,List.length_nil];omega) fun y hy=>?_;have hy2:=hm y (dK hy)
 (with_reducible refine eY (by assumption) (by omega) (by omega) (fun v2 k2 a2 b2 d2=>?_);try dsimp only)
 exact Ok.ret ⟨_,_,_,_,rfl,a0,b0,hy2.1,hy2.2,d2⟩
def eE:List DTh→Int→List Int
 | [],_=>[]
 | t :: ts,i=>if t.1=1 then i :: eE ts (i+1) else eE ts (i+1)
theorem lf(a b:List DTh) (i:Int):eE (a++b) i=eE a i++eE b (i+a.length):=by
 induction a generalizing i with
 | nil=>simp[eE]
 | cons t a ih=>
  simp only[List.cons_append,eE,ih,List.length_cons];rw[show i+1+(a.length:Int)=i+((a.length+1:Nat):Int) by omega];split<;>rfl
theorem ph(a:List DTh) (i:Int):(eE a i).length≤a.length:=by
 induction a generalizing i with
 | nil=>simp[eE]
 | cons t a ih=>
  simp only[eE];have:=ih (i+1);split<;>simp only[List.length_cons]<;>omega
theorem D4{a:List DTh}{i x:Int}(h:x∈eE a i):i≤x∧x < i+a.length∧∃t,a[(x - i).toNat]?=some t∧t.1=1:=by
 induction a generalizing i with
 | nil=>simp[eE] at h
 | cons t a ih=>
  simp only[eE] at h
  have key:x∈eE a (i+1)→i≤x∧x < i+((t :: a).length:Int)∧∃t',(t :: a)[(x - i).toNat]?=some t'∧t'.1=1:=by
   intro h;obtain⟨h1,h2,t',h3,h4⟩:=ih h;refine⟨by omega,by simp only[List.length_cons];omega,t',?_,h4⟩;rw[show (x - i).toNat=(x - (i+1)).toNat+1 by omega,List.getElem?_cons_succ];exact h3
  split at h
  ·rename_i ht;rcases List.mem_cons.1 h with rfl | h
   ·exact⟨by omega,by simp only[List.length_cons];omega,t,by simp,ht⟩
   ·exact key h
  ·exact key h
theorem H8{ts:List DTh}(h:ts.length≤1000):kX ts=some (eE ts 0,()):=by
 have e:dQ gD NN (ts,(ts.length:Int),0,[],())=some (ts,(ts.length:Int),(ts.length:Int),false,eE ts 0,()):=by
  have:=mH (f:=gD) (N:=NN) (st:=fun k=>(ts,(ts.length:Int),(k:Int),eE (ts.take k) 0,())) (n:=ts.length) (t:=(ts,(ts.length:Int),(ts.length:Int),false,eE ts 0,())) (by unfold NN;omega) ?_ ?_
  ·exact this
  ·intro k hk;unfold gD;dsimp only
   (with_reducible refine Ok.cb (fun hca=>?_) (fun hca=>?_))
   ·rw[dH];simp only[Option.bind_some];obtain⟨x,hx⟩:∃x,ts[k]?=some x:=⟨_,List.getElem?_eq_getElem hk⟩;rw[show dF ts k=some x from hx];simp only[Option.bind_some];have hlen:=ph (ts.take k) 0;rw[List.length_take] at hlen
    have hnext:eE (ts.take (k+1)) 0=eE (ts.take k) 0++(if x.1=1 then [(k:Int)] else []):=by
     rw[List.take_add_one,hx,lf];congr 1;rw[List.length_take,show 0+((min k ts.length:Nat):Int)=(k:Int) by omega];simp only[Option.toList,eE]
    refine Ok.bind (P:=(·=(ts,(ts.length:Int),(k:Int),eE (ts.take (k+1)) 0,()))) ?_ ?_
    ·(with_reducible refine Ok.cb (fun hcb=>?_) (fun hcb=>?_))
     ·refine Ok.need (dN (by simp;omega)) ?_;rw[hnext,if_pos hcb];exact Ok.ret rfl
     ·rw[hnext,if_neg hcb,List.append_nil];exact Ok.ret rfl
    ·rintro _ rfl;dsimp only
     (simp (disch:=omega) only [dL,dS,dO,dP])
     exact Ok.ret rfl
   ·omega
  ·unfold gD;dsimp only
   (with_reducible refine Ok.cb (fun hca=>?_) (fun hca=>?_))
   ·omega
   ·rw[List.take_length];exact Ok.ret rfl
 refine Ok.eq ?_;unfold kX;delta dJ
 try dsimp only
 rw[e];exact Ok.ret rfl
theorem uS{ow:List Int}{qs:List (List Int)}(h:g9 ow qs):iU ow qs=some (ow,qs,()):=by
 have hq4:∀q∈qs,q.length≤4:=fun q hq=>h.qlen4 hq;obtain⟨h1,h2,h3,h4⟩:=h
 have e:dQ gR NN (qs,(qs.length:Int),0,ow,qs,(),(),ow,[],())=some (qs,(qs.length:Int),(qs.length:Int),false,ow,qs,(),(),ow,qs,()):=by
  have:=mH (f:=gR) (N:=NN) (st:=fun k=>(qs,(qs.length:Int),(k:Int),ow,qs,(),(),ow,qs.take k,())) (n:=qs.length) (t:=(qs,(qs.length:Int),(qs.length:Int),false,ow,qs,(),(),ow,qs,())) (by unfold NN;omega) ?_ ?_
  ·exact this
  ·intro k hk;unfold gR;dsimp only
   (with_reducible refine Ok.cb (fun hca=>?_) (fun hca=>?_))
   ·rw[dH];simp only[Option.bind_some];refine Ok.get (by omega) fun x hx=>?_;have:=hq4 x (dK hx);refine Ok.need (dN (by omega)) (Ok.need (dN (by simp;omega)) ?_)
    (simp (disch:=omega) only [dL,dS,dO,dP])
    refine Ok.ret ?_;rw[List.take_add_one,hx];rfl
   ·omega
  ·unfold gR;dsimp only
   (with_reducible refine Ok.cb (fun hca=>?_) (fun hca=>?_))
   ·omega
   ·rw[List.take_length];exact Ok.ret rfl
 refine Ok.eq ?_;unfold iU;refine Ok.need (dN (by omega)) ?_;rw[show List.append [] ow=ow from rfl];delta dJ
 try dsimp only
 rw[e];exact Ok.ret rfl
theorem Cf{ow:List Int}{qs:List (List Int)}{lock t:Int}(h:g9 ow qs):Ok (iT ow qs lock t) fun r=>∃ow' qs' n b,r=(ow',qs',n,b,())∧g9 ow' qs'∧-1≤n∧n≤3:=by
 unfold iT;rw[uS h];simp only[Option.bind_some];obtain⟨h1,h2,h3,h4⟩:=id h;refine Ok.bind (P:=fun r=>∃b,r=(lock,b,(),(),ow,qs,())∧(b=false→0≤lock∧lock < 4)) ?_ ?_
 ·(with_reducible refine Ok.cb (fun hca=>?_) (fun hca=>?_))
  ·exact Ok.ret ⟨true,rfl,fun h=>by cases h⟩
  ·(with_reducible refine Ok.cb (fun hcb=>?_) (fun hcb=>?_))
   ·exact Ok.ret ⟨true,rfl,fun h=>by cases h⟩
   ·refine Ok.nat (by omega) fun j hj=>?_;refine Ok.get (by omega) fun x hx=>?_;exact Ok.ret ⟨_,rfl,fun _=>⟨by omega,by omega⟩⟩
 rintro _ ⟨b,rfl,hb⟩;dsimp only;refine Ok.cond (fun _=>Ok.ret ⟨_,_,_,_,rfl,h,by omega,by omega⟩) fun hbf=>?_;obtain⟨l0,l1⟩:=hb hbf;obtain⟨j,rfl⟩:∃j:Nat,lock=j:=⟨lock.toNat,by omega⟩;obtain⟨o,ho⟩:∃o,ow[j]?=some o:=⟨_,List.getElem?_eq_getElem (by omega)⟩;obtain⟨q,hq⟩:∃q,qs[j]?=some q:=⟨_,List.getElem?_eq_getElem (by omega)⟩;have go:dF ow j=some o:=ho;have gq:dF qs j=some q:=hq;have gm:∀f:Int→Int,dF (List.modify ow j f) j=some (f o):=fun f=>po ho;have gm2:∀f g:Int→Int,dF (List.modify (List.modify ow j f) j g) j=some (g (f o)):=fun f g=>po (po ho);delta dJ;simp only[dH,Option.bind_some,go,gq,gm,gm2];have hl1:g9 (List.modify ow j fun _=>-1) qs:=⟨by rw[List.length_modify];exact h1,h2,ig h3 fun _ _=>⟨by omega,by omega⟩,h4⟩
 (with_reducible refine Ok.cb (fun hcc=>?_) (fun hcc=>?_))
 ·obtain⟨x,hx⟩:∃x,q[0]?=some x:=⟨_,List.getElem?_eq_getElem (by omega)⟩;have gx:dF q 0=some x:=hx;have hx2:=(h4 q (dK hq)).2 x (dK hx);simp only[gx,Option.bind_some];refine Ok.need (by unfold jG;simp;omega) ?_;refine Ok.ret ⟨_,_,_,_,rfl,⟨by rw[List.length_modify,List.length_modify];exact h1,by rw[List.length_modify];exact h2,ig (ig h3 fun _ _=>⟨by omega,by omega⟩) fun _ _=>⟨by omega,by omega⟩,ig h4 fun _ _=>?_⟩,by omega,by omega⟩;obtain⟨q1,q2⟩:=h4 q (dK hq);unfold mI;have hs:(List.take (Nat.sub q.length 1) (List.drop 1 q)).Sublist q:=(List.take_sublist _ _).trans (List.drop_sublist _ _);exact⟨q1.sublist hs,fun t ht=>q2 t (hs.subset ht)⟩
 ·exact Ok.ret ⟨_,_,_,_,rfl,hl1,by omega,by omega⟩
theorem Ej{q:List Int}{x:Int}(h:q.Nodup) (hx:x ∉ q):(q++[x]).Nodup:=by
 rw[List.nodup_append];refine⟨h,by simp,fun a ha b hb=>?_⟩;simp only[List.mem_singleton] at hb;subst hb;intro e;subst e;exact hx ha
theorem Ks{ow:List Int}{qs:List (List Int)}{t:Int}(h:g9 ow qs):Ok (mh ow qs t) fun r=>∃ow' qs' nx,r=(ow',qs',nx,())∧g9 ow' qs'∧nx.length≤4∧∀x∈nx,0≤x∧x≤3:=by
 unfold mh;rw[uS h];delta dJ;simp only[Option.bind_some];have h2:=h.qlen;refine Ok.loop (P:=fun s'=>∃k:Nat,∃qs',s'=(t,(qs.length:Int),(k:Int),(),(),ow,qs',())∧k≤qs.length∧g9 ow qs') (R:=fun r=>∃a b c qs',r=(t,a,b,c,(),(),ow,qs',())∧g9 ow qs') (m:=fun s'=>(s'.2.1 - s'.2.2.1).toNat) ⟨0,qs,rfl,by omega,h⟩ (by unfold NN;dsimp only;omega) ?_ ?_
 ·rintro _ ⟨k,qs',rfl,hk,hl⟩;obtain⟨g1,g2,g3,g4⟩:=id hl;unfold og;dsimp only
  (with_reducible refine Ok.cb (fun hca=>?_) (fun hca=>?_))
  ·obtain⟨q,hq⟩:∃q,qs'[k]?=some q:=⟨_,List.getElem?_eq_getElem (by omega)⟩;have gq:dF qs' k=some q:=hq;obtain⟨q1,q2⟩:=g4 q (dK hq);have q3:=hl.qlen4 (dK hq);delta dJ;simp only[dH,Option.bind_some,gq]
   refine Ok.loop (P:=fun s'=>∃j:Nat,∃l,s'=(t,(k:Int),(qs.length:Int),(k:Int),k,(q.length:Int),(j:Int),(),(),ow,qs',l,())∧j≤q.length∧l.Sublist (q.take j))
    (R:=fun r=>∃a b c d l,r=(t,(k:Int),(qs.length:Int),(k:Int),a,b,c,d,(),(),ow,qs',l,())∧l.Sublist q) (m:=fun s'=>(s'.2.2.2.2.2.1 - s'.2.2.2.2.2.2.1).toNat) ⟨0,[],rfl,by omega,by simp⟩ (by unfold NN;dsimp only;omega) ?_ ?_
   ·rintro _ ⟨j,l,rfl,hj,hsub⟩;unfold oh;dsimp only
    (with_reducible refine Ok.cb (fun hcb=>?_) (fun hcb=>?_))
    ·obtain⟨x,hx⟩:∃x,q[j]?=some x:=⟨_,List.getElem?_eq_getElem (by omega)⟩;have gx:dF q j=some x:=hx;simp only[dH,Option.bind_some,gq,gx];have hll:=hsub.length_le;rw[List.length_take] at hll
     have htk:q.take (j+1)=q.take j++[x]:=by rw[List.take_add_one,hx];rfl
     refine Ok.bind (P:=fun r=>∃l',r=(t,(k:Int),(qs.length:Int),(k:Int),k,(q.length:Int),(j:Int),(),(),ow,qs',l',())∧l'.Sublist (q.take (j+1))) ?_ ?_
     ·refine Ok.cond (fun _=>Ok.need (dN (by simp;omega)) (Ok.ret ⟨_,rfl,?_⟩)) fun _=>Ok.ret ⟨l,rfl,?_⟩
      ·rw[htk];exact hsub.append (List.Sublist.refl _)
      ·rw[htk];exact hsub.trans (List.sublist_append_left _ _)
     ·rintro _ ⟨l',rfl,hs⟩;dsimp only
      (simp (disch:=omega) only [dL,dS,dO,dP])
      exact Ok.ret ⟨⟨j+1,l',rfl,by omega,hs⟩,by dsimp only;omega⟩
    ·exact Ok.ret ⟨_,_,_,_,l,rfl,hsub.trans (List.take_sublist _ _)⟩
   ·rintro _ ⟨a,b,c,d,l,rfl,hs⟩;dsimp only;simp only[dH,Option.bind_some,gq]
    (simp (disch:=omega) only [dL,dS,dO,dP])
    exact Ok.ret ⟨⟨k+1,_,rfl,by omega,⟨g1,by rw[List.length_modify];exact g2,g3,ig g4 fun _ _=>⟨q1.sublist hs,fun t ht=>q2 t (hs.subset ht)⟩⟩⟩,by dsimp only;omega⟩
  ·exact Ok.ret ⟨_,_,_,qs',rfl,hl⟩
 ·rintro _ ⟨a,b,c,qs',rfl,hl⟩;dsimp only
  refine Ok.loop (P:=fun s'=>∃k:Nat,∃ow' qs' nx,s'=(t,4,(k:Int),(),(),ow',qs',nx,())∧k≤4∧nx.length≤k∧g9 ow' qs'∧∀x∈nx,0≤x∧x≤3) (R:=fun r=>∃a b c ow' qs' nx,r=(t,a,b,c,(),(),ow',qs',nx,())∧g9 ow' qs'∧nx.length≤4∧∀x∈nx,0≤x∧x≤3) (m:=fun s'=>(4 - s'.2.2.1).toNat)
   ⟨0,ow,qs',[],by rw[hl.olen];rfl,by omega,by simp,hl,dX⟩ (by unfold NN;dsimp only;omega) ?_ ?_
  ·rintro _ ⟨k,ow',qs',nx,rfl,hk,hnl,hl',hnx⟩;unfold of;dsimp only
   (with_reducible refine Ok.cb (fun hca=>?_) (fun hca=>?_))
   ·refine (Cf hl').bind ?_;rintro _ ⟨ow2,qs2,n,bb,rfl,hl2,n0,n1⟩;dsimp only;refine Ok.bind (P:=fun r=>∃nx',r=(t,4,(k:Int),(),(),ow',qs',nx',ow2,qs2,())∧nx'.length≤k+1∧∀x∈nx',0≤x∧x≤3) ?_ ?_
    ·refine Ok.cond (fun _=>?_) fun _=>Ok.ret ⟨nx,rfl,by omega,hnx⟩
     (with_reducible refine Ok.cb (fun hcb=>?_) (fun hcb=>?_))
     ·refine Ok.need (dN (by simp;omega)) (Ok.ret ⟨_,rfl,by rw[eJ];simp;omega,ir hnx (all_cons ⟨by omega,n1⟩ dX)⟩)
     ·exact Ok.ret ⟨nx,rfl,by omega,hnx⟩
    ·rintro _ ⟨nx',rfl,hn1,hn2⟩;dsimp only
     (simp (disch:=omega) only [dL,dS,dO,dP])
     exact Ok.ret ⟨⟨k+1,_,_,_,rfl,by omega,hn1,hl2,hn2⟩,by dsimp only;omega⟩
   ·exact Ok.ret ⟨_,_,_,_,_,_,rfl,hl',by omega,hnx⟩
  ·rintro _ ⟨a,b,c,ow',qs',nx,rfl,hl',hn4,hnx⟩;exact Ok.ret ⟨_,_,_,rfl,hl',hn4,hnx⟩
theorem Jx{ow:List Int}{qs:List (List Int)}{lock t:Int}(h:g9 ow qs) (ht:0≤t∧t≤3):Ok (mg ow qs lock t) fun r=>∃ow' qs' n,r=(ow',qs',n,())∧g9 ow' qs':=by
 unfold mg;rw[uS h];simp only[Option.bind_some];obtain⟨h1,h2,h3,h4⟩:=id h;refine Ok.bind (P:=fun r=>∃b,r=(lock,t,b,ow,qs,(),(),ow,qs,())∧(b=false→0≤lock∧lock < 4)) ?_ ?_
 ·(with_reducible refine Ok.cb (fun hca=>?_) (fun hca=>?_))
  ·exact Ok.ret ⟨true,rfl,fun h=>by cases h⟩
  ·(with_reducible refine Ok.cb (fun hcb=>?_) (fun hcb=>?_))
   ·exact Ok.ret ⟨true,rfl,fun h=>by cases h⟩
   ·refine Ok.nat (by omega) fun j hj=>?_;refine Ok.get (by omega) fun x hx=>?_;exact Ok.ret ⟨_,rfl,fun _=>⟨by omega,by omega⟩⟩
 rintro _ ⟨b,rfl,hb⟩;dsimp only;refine Ok.cond (fun _=>Ok.ret ⟨_,_,_,rfl,h⟩) fun hbf=>?_;obtain⟨l0,l1⟩:=hb hbf;delta dJ
 try dsimp only
 obtain⟨r,e,hr⟩:=Ok.iter (f:=lD) (n:=NN) (s:=(lock,t,qs,(qs.length:Int),0,ow,qs,(),(),ow,qs,())) (P:=fun s'=>∃k:Nat,s'=(lock,t,qs,(qs.length:Int),(k:Int),ow,qs,(),(),ow,qs,())∧k≤qs.length∧∀(i:Nat) q,i < k→qs[i]?=some q→t ∉ q)
  (R:=fun r=>r=.inl (2,ow,qs,())∨((∃a b c,r=.inr (lock,t,a,b,c,false,ow,qs,(),(),ow,qs,()))∧∀q∈qs,t ∉ q)) (m:=fun s'=>(s'.2.2.2.1 - s'.2.2.2.2.1).toNat) ⟨0,rfl,by omega,fun i q hi=>by omega⟩ (by unfold NN;dsimp only;omega) (by
   rintro _ ⟨k,rfl,hk,hall⟩;unfold lD;dsimp only
   (with_reducible refine Ok.cb (fun hca=>?_) (fun hca=>?_))
   ·obtain⟨q,hq⟩:∃q,qs[k]?=some q:=⟨_,List.getElem?_eq_getElem (by omega)⟩;have gq:dF qs k=some q:=hq;have q3:=h.qlen4 (dK hq);delta dJ;simp only[dH,Option.bind_some,gq]
    obtain⟨r,e,hr⟩:=Ok.iter (f:=lE) (n:=NN) (s:=(lock,t,qs,(qs.length:Int),(k:Int),q,(q.length:Int),0,ow,qs,(),(),ow,qs,())) (P:=fun s'=>∃j:Nat,s'=(lock,t,qs,(qs.length:Int),(k:Int),q,(q.length:Int),(j:Int),ow,qs,(),(),ow,qs,())∧j≤q.length∧∀(i:Nat) x,i < j→q[i]?=some x→x≠t)
     (R:=fun r=>r=.inl (2,ow,qs,())∨((∃a b c,r=.inr (lock,t,qs,(qs.length:Int),(k:Int),a,b,c,false,ow,qs,(),(),ow,qs,()))∧t ∉ q)) (m:=fun s'=>(s'.2.2.2.2.2.2.1 - s'.2.2.2.2.2.2.2.1).toNat) ⟨0,rfl,by omega,fun i x hi=>by omega⟩ (by unfold NN;dsimp only;omega) (by
      rintro _ ⟨j,rfl,hj,hne⟩;unfold lE;dsimp only
      (with_reducible refine Ok.cb (fun hcb=>?_) (fun hcb=>?_))
      ·obtain⟨x,hx⟩:∃x,q[j]?=some x:=⟨_,List.getElem?_eq_getElem (by omega)⟩;have gx:dF q j=some x:=hx;simp only[dH,Option.bind_some,gx]
       (with_reducible refine Ok.cb (fun hcc=>?_) (fun hcc=>?_))
       ·exact Ok.ret (.inl rfl)
       ·(simp (disch:=omega) only [dL,dS,dO,dP])
        exact Ok.ret ⟨⟨j+1,rfl,by omega,DD hne hx hcc⟩,by dsimp only;omega⟩
      ·refine Ok.ret (.inr ⟨⟨_,_,_,rfl⟩,fun hm=>?_⟩);obtain⟨i,hi⟩:=List.getElem?_of_mem hm
       exact hne i t (by have:=(List.getElem?_eq_some_iff.1 hi).1;omega) hi rfl)
    rw[e];rcases hr with rfl | ⟨⟨a,b,c,rfl⟩,hnot⟩
    ·exact Ok.ret (.inl rfl)
    ·dsimp only
     (simp (disch:=omega) only [dL,dS,dO,dP])
     refine Ok.ret ⟨⟨k+1,rfl,by omega,fun i q' hi hq'=>?_⟩,by dsimp only;omega⟩;by_cases hik:i=k
     ·subst hik;rw[hq] at hq'
      injection hq' with hq'
      rw[← hq'];exact hnot
     ·exact hall i q' (by omega) hq'
   ·refine Ok.ret (.inr ⟨⟨_,_,_,rfl⟩,fun q hq=>?_⟩);obtain⟨i,hi⟩:=List.getElem?_of_mem hq
    exact hall i q (by have:=(List.getElem?_eq_some_iff.1 hi).1;omega) hi)
 rw[e];rcases hr with rfl | ⟨⟨a,b,c,rfl⟩,hnot⟩
 ·exact Ok.ret ⟨_,_,_,rfl,h⟩
 ·dsimp only;obtain⟨j,rfl⟩:∃j:Nat,lock=j:=⟨lock.toNat,by omega⟩;obtain⟨o,ho⟩:∃o,ow[j]?=some o:=⟨_,List.getElem?_eq_getElem (by omega)⟩;obtain⟨q,hq⟩:∃q,qs[j]?=some q:=⟨_,List.getElem?_eq_getElem (by omega)⟩;have go:dF ow j=some o:=ho;have gq:dF qs j=some q:=hq;simp only[dH,Option.bind_some,go,gq]
  (with_reducible refine Ok.cb (fun hcd=>?_) (fun hcd=>?_))
  ·exact Ok.ret ⟨_,_,_,rfl,⟨by rw[List.length_modify];exact h1,h2,ig h3 fun _ _=>⟨by omega,ht.2⟩,h4⟩⟩
  ·have q3:=h.qlen4 (dK hq);refine Ok.need (dN (by simp;omega)) (Ok.need (by simp) (Ok.ret ⟨_,_,_,rfl,⟨h1,by rw[List.length_modify];exact h2,h3,ig h4 fun _ _=>⟨?_,?_⟩⟩⟩))
   ·exact Ej (h4 q (dK hq)).1 (hnot q (dK hq))
   ·exact ir (h4 q (dK hq)).2 (all_cons ht dX)
theorem d8{α:Type}{l:List α}{i:Nat}{a:α}(h:l[i]?=some a) (f:α→α):List.modify l i f=l.set i (f a):=by
 rw[← wS];apply List.ext_getElem?;intro j;simp only[List.getElem?_modify];by_cases hij:i=j
 ·subst hij;rw[h];rfl
 ·simp[hij]
theorem f9{α:Type}{l:List α}{i:Nat}(h:i < l.length) (a:α):dF (l.set i a) i=some a:=by
 show (l.set i a)[i]?=some a;rw[List.getElem?_set];simp[h]
theorem mQ{α:Type}{l:List α}{i:Nat}(h:i < l.length) (a:α) (f:α→α):List.modify (l.set i a) i f=l.set i (f a):=by
 rw[d8 (a:=a) (f9 h a),List.set_set]
theorem gZ{α:Type}{P:α→Prop}{l:List α}{i:Nat}{a:α}(h:∀x∈l,P x) (ha:P a):∀x∈l.set i a,P x:=by
 intro x hx;rcases List.mem_or_eq_of_mem_set hx with hx | rfl
 ·exact h x hx
 ·exact ha
theorem MOk.set{n:Int}{ss bs:List Int}{cs cs':List DCe}{ls ls':List DLn}{ts:List DTh}(h:MOk n ss bs cs ls ts) (hm:jJ (RK bs ss) cs' ls') {i:Nat}{t:DTh}(ht:vl (RK bs ss) n t):MOk n ss bs cs' ls' (ts.set i t):=
 ⟨h.lay,hm,by rw[List.length_set];exact h.tlen,gZ h.thr ht⟩
def Mr(code:List DIn) (t:DTh) (s:Int) (t':DTh):Prop:=
 (s=-1∧t'.1=1∧((t'.2.2.2.1=t.2.2.2.1∧t'.2.2.1=t.2.2.1+1)∨t'.2.2.2.1=t.2.2.2.1+1))∨(s=2∧t'.1=4∧t'.2.2.2.1=t.2.2.2.1) ∨
  (s=1∧t'.1=2∧t'.2.2.2.1=t.2.2.2.1∧∃i:DIn,1≤t'.2.2.1∧code[(t'.2.2.1 - 1).toNat]?=some i∧i.1=23)
def CF(n key:Int) (code:List DIn) (ss bs:List Int) (ts:List DTh) (i:Nat) (t:DTh) (r:Int×List Int×Int×List DCe×List DLn×List DTh×Unit):Prop:=
 ∃s cs' ls' t',r=(s,bs,key,cs',ls',ts.set i t',())∧jJ (RK bs ss) cs' ls'∧vl (RK bs ss) n t'∧Mr code t s t'
theorem lN{n key:Int}{code:List DIn}{ss bs:List Int}{ts:List DTh}{i:Nat}{t t':DTh}{cs':List DCe}{ls':List DLn}(hm:jJ (RK bs ss) cs' ls') (ht:vl (RK bs ss) n t') (h1:t'.1=1)
 (h:(t'.2.2.2.1=t.2.2.2.1∧t'.2.2.1=t.2.2.1+1)∨t'.2.2.2.1=t.2.2.2.1+1):Ok (some (-1,bs,key,cs',ls',ts.set i t',())) (CF n key code ss bs ts i t):=Ok.ret ⟨_,_,_,_,rfl,hm,ht,.inl ⟨rfl,h1,h⟩⟩
theorem lh{n key why:Int}{code:List DIn}{ss bs:List Int}{ts:List DTh}{i:Nat}{t:DTh}{cs':List DCe}{ls':List DLn}(hm:jJ (RK bs ss) cs' ls') (ht:vl (RK bs ss) n t) (hw:0≤why∧why≤6) :
 Ok (some (2,bs,key,cs',ls',ts.set i (4,t.2.1,t.2.2.1,t.2.2.2.1,t.2.2.2.2.1,t.2.2.2.2.2.1,why,0),())) (CF n key code ss bs ts i t):=Ok.ret ⟨_,_,_,_,rfl,hm,ht.ended hw,.inr (.inl ⟨rfl,rfl,rfl⟩)⟩
theorem gG(op:Int):j4 op=some (lk op || op==22 || op==24,()):=by
 unfold j4;rw[uv];simp only[Option.bind_some];cases lk op<;>cases op==22<;>rfl
set_option maxHeartbeats 4000000 in
theorem K5{n key:Int}{code:List DIn}{ss bs:List Int}{d:List (List Int)}{cs:List DCe}{ls:List DLn}{ts:List DTh}{i:Nat}{t:DTh}(hp:jL code ss d) (h:MOk n ss bs cs ls ts) (ht:ts[i]?=some t) (hs:t.1=1)
 (hc:t.2.2.2.1+1≤n) (hn:n≤1099511627776):Ok (ng code ss d (i:Int) bs key cs ls ts) (CF n key code ss bs ts i t):=by
 have hok:=h.thr t (dK ht);have hm:=h.mem;obtain⟨_,hl,hr,⟨p0,p1⟩,⟨c0,c1⟩,ha,⟨s0,s1⟩,⟨r0,r1⟩,hco⟩:=id hok;obtain⟨st,rs,pc,ct,hd,sa,tr,co⟩:=t;dsimp only at *;subst hs;have hil:=(List.getElem?_eq_some_iff.1 ht).1;have hg:dF ts i=some (1,rs,pc,ct,hd,sa,tr,co):=ht;have e1:∀f:DTh→DTh,List.modify ts i f=ts.set i (f (1,rs,pc,ct,hd,sa,tr,co)):=fun f=>d8 ht f;have e2:∀x,dF (ts.set i x) i=some x:=fun x=>f9 hil x;have e3:∀(x:DTh) (f:DTh→DTh),List.modify (ts.set i x) i f=ts.set i (f x):=fun x f=>mQ hil x f
 have eT:∀why,eQ (i:Nat) why ts=some (2,ts.set i (4,rs,pc,ct,hd,sa,why,0),()):=fun why=>by rw[Ju (n:=n) ht,e1]
 have mk:∀{rs':List DCe} {pc' ct' sa':Int},rs'.length=8→(∀c∈rs',lZ (RK bs ss) c)→0≤pc'∧pc'≤255→0≤ct'∧ct'≤n→-1≤sa'∧sa'≤255→vl (RK bs ss) n (1,rs',pc',ct',hd,sa',tr,co):=
  fun h1 h2 h3 h4 h5=>⟨⟨show (0:Int)≤1 by decide,show (1:Int)≤4 by decide⟩,h1,h2,h3,h4,ha,h5,⟨r0,r1⟩,hco⟩
 unfold ng;rw[dH];delta dJ;simp only[hg,Option.bind_some]
 (with_reducible refine Ok.cb (fun hca=>?_) (fun hca=>?_))
 ·rw[eT 2];exact lh hm hok (by decide)
 refine Ok.nat p0 fun j hj=>?_;subst hj;have hcl:=hp.clen;refine Ok.get (by omega) fun x hx=>?_;obtain⟨op,A,B,C,I⟩:=x;obtain⟨⟨o0,o1⟩,⟨A0,A1,_⟩,⟨B0,B1,_⟩,⟨C0,C1,_⟩,⟨I0,I1,_⟩,hlea,hsys,hjmp⟩:=hp.ins _ (dK hx);dsimp only at *;obtain⟨A,rfl⟩:∃k:Nat,A=k:=⟨A.toNat,by omega⟩;obtain⟨B,rfl⟩:∃k:Nat,B=k:=⟨B.toNat,by omega⟩;obtain⟨C,rfl⟩:∃k:Nat,C=k:=⟨C.toNat,by omega⟩;obtain⟨I,rfl⟩:∃k:Nat,I=k:=⟨I.toNat,by omega⟩;obtain⟨⟨ta,va⟩,gA⟩:∃c,dF rs A=some c:=⟨_,List.getElem?_eq_getElem (by omega)⟩;obtain⟨⟨tb,vb⟩,gB⟩:∃c,dF rs B=some c:=⟨_,List.getElem?_eq_getElem (by omega)⟩;obtain⟨⟨tc,vc⟩,gC⟩:∃c,dF rs C=some c:=⟨_,List.getElem?_eq_getElem (by omega)⟩;have cA:=hr _ (dK gA);have cB:=hr _ (dK gB);have cC:=hr _ (dK gC);have eR:∀f:DCe→DCe,List.modify rs A f=rs.set A (f (ta,va)):=fun f=>d8 gA f;have w1:w64 ((j:Int)+1)=(j:Int)+1:=dL (by omega) (by omega);have wI:wk .u16 (I:Int)=I:=dS (by omega) (by omega);have setOk:∀{c:DCe},lZ (RK bs ss) c→(rs.set A c).length=8∧∀x∈rs.set A c,lZ (RK bs ss) x:=fun hc=>⟨by rw[List.length_set];exact hl,gZ hr hc⟩;have wc:w64 (ct+1)=ct+1:=dL (by omega) (by omega);simp only[dH,hg,gA,gB,Option.bind_some,w1,wI];rcases (show op=0∨op=1∨op=2∨op=15∨op=16∨op=17∨op=18∨op=19∨op=20∨op=21∨op=22∨op=23∨op=24∨(3≤op∧op≤14) by omega) with rfl | rfl | rfl | rfl | rfl | rfl | rfl | rfl | rfl | rfl | rfl | rfl | rfl | ⟨q0,q1⟩
 all_goals try simp only[Int.reduceBEq,cond_true,cond_false,dH,hg,gA,gB,gC,e1,e2,e3,eR,eT,Option.bind_some,w1,wI,wc,gG,lk,Bool.or_false,Bool.or_true,Bool.or_self,bne_self_eq_false]
 ·exact lN hm (mk hl hr (by omega) (by omega) (by omega)) rfl (.inl ⟨rfl,rfl⟩)
 ·exact lN hm (mk (setOk (kD (by omega))).1 (setOk (kD (by omega))).2 (by omega) (by omega) (by omega)) rfl (.inl ⟨rfl,rfl⟩)
 ·exact lN hm (mk (setOk cB).1 (setOk cB).2 (by omega) (by omega) (by omega)) rfl (.inl ⟨rfl,rfl⟩)
 ·have hI:=hlea rfl;have hbl:=h.lay.2.1;obtain⟨b,hb⟩:∃b,bs[I]?=some b:=⟨_,List.getElem?_eq_getElem (by omega)⟩;obtain⟨z,hz⟩:∃z,ss[I]?=some z:=⟨_,List.getElem?_eq_getElem (by omega)⟩;have hr2:=h.lay.2.2 I (by omega);unfold tA at hr2;rw[ej hb,ej hz] at hr2;have hz2:=h.lay.1.2.2 z (dK hz);have wb:wk .u16 b=b:=dS (by omega) (by omega);have gb:dF bs I=some b:=hb;simp only[gb,wb,Int.reduceBEq,cond_true,cond_false,dH,hg,gA,gB,gC,e1,e2,e3,eR,eT,Option.bind_some,w1,wI,wc,gG,lk,Bool.or_false,Bool.or_true,Bool.or_self,bne_self_eq_false];have hcb:lZ (RK bs ss) (1,b):=⟨by dsimp only;omega,by dsimp only;omega,by dsimp only;omega,by dsimp only;omega,fun _=>⟨I,b,z,hb,hz,by dsimp only;omega,by dsimp only;omega⟩⟩;exact lN hm (mk (setOk hcb).1 (setOk hcb).2 (by omega) (by omega) (by omega)) rfl (.inl ⟨rfl,rfl⟩)
 ·obtain⟨_,em,t1,x1,e,rfl,hc1,he0,he6,hx512⟩:=uf (key:=key) (tag:=tb) (v:=vb) (n:=(I:Int)) (back:=false) h.lay ⟨cB.2.2.1,cB.2.2.2.1⟩ ⟨by omega,by omega⟩;simp only[em,Option.bind_some];by_cases hne:e=0
  ·subst hne;have wx:wk .i64 x1=x1:=dO (by have:=hc1.2.2.1;dsimp only at this;omega) (by have:=hc1.2.2.2.1;dsimp only at this;omega);obtain⟨_,el,t2,x2,cs2,ls2,rfl,hc2,hm2⟩:=Gr (a:=x1) hm ⟨hc1.2.2.1,hx512 rfl⟩;simp only[wx,el,Int.reduceBEq,cond_true,cond_false,dH,hg,gA,gB,gC,e1,e2,e3,eR,eT,Option.bind_some,w1,wI,wc,gG,lk,Bool.or_false,Bool.or_true,Bool.or_self,bne_self_eq_false];exact lN hm2 (mk (setOk hc2).1 (setOk hc2).2 (by omega) (by omega) (by omega)) rfl (.inl ⟨rfl,rfl⟩)
  ·simp only[bne_iff_ne.2 hne,cond_true];exact lh hm hok ⟨he0,he6⟩
 ·obtain⟨_,em,t1,x1,e,rfl,hc1,he0,he6,hx512⟩:=uf (key:=key) (tag:=ta) (v:=va) (n:=(I:Int)) (back:=false) h.lay ⟨cA.2.2.1,cA.2.2.2.1⟩ ⟨by omega,by omega⟩;simp only[em,Option.bind_some];by_cases hne:e=0
  ·subst hne;have wx:wk .i64 x1=x1:=dO (by have:=hc1.2.2.1;dsimp only at this;omega) (by have:=hc1.2.2.2.1;dsimp only at this;omega);obtain⟨_,el,cs2,ls2,rfl,hm2⟩:=wG (a:=x1) (t:=tb) (v:=vb) hm ⟨hc1.2.2.1,hx512 rfl⟩ cB;simp only[wx,el,Int.reduceBEq,cond_true,cond_false,dH,hg,gA,gB,gC,e1,e2,e3,eR,eT,Option.bind_some,w1,wI,wc,gG,lk,Bool.or_false,Bool.or_true,Bool.or_self,bne_self_eq_false];exact lN hm2 (mk hl hr (by omega) (by omega) (by omega)) rfl (.inl ⟨rfl,rfl⟩)
  ·simp only[bne_iff_ne.2 hne,cond_true];exact lh hm hok ⟨he0,he6⟩
 ·have:=hjmp (by decide);exact lN hm (mk hl hr (by omega) (by omega) (by omega)) rfl (.inr rfl)
 ·have:=hjmp (by decide);by_cases hta:ta=0
  ·subst hta
   cases va==0 with
   | true=>
    simp only[BEq.rfl,Int.reduceBEq,cond_true,cond_false,dH,hg,gA,gB,gC,e1,e2,e3,eR,eT,Option.bind_some,w1,wI,wc,gG,lk,Bool.or_false,Bool.or_true,Bool.or_self,bne_self_eq_false];exact lN hm (mk hl hr (by omega) (by omega) (by omega)) rfl (.inr rfl)
   | false=>
    simp only[show (false==true)=false from rfl,Int.reduceBEq,cond_true,cond_false,dH,hg,gA,gB,gC,e1,e2,e3,eR,eT,Option.bind_some,w1,wI,wc,gG,lk,Bool.or_false,Bool.or_true,Bool.or_self,bne_self_eq_false];exact lN hm (mk hl hr (by omega) (by omega) (by omega)) rfl (.inr rfl)
  ·simp only[bne_iff_ne.2 hta,cond_true];exact lh hm hok (by decide)
 ·have:=hjmp (by decide);by_cases hta:ta=0
  ·subst hta
   cases va==0 with
   | true=>
    simp only[show (true==false)=false from rfl,Int.reduceBEq,cond_true,cond_false,dH,hg,gA,gB,gC,e1,e2,e3,eR,eT,Option.bind_some,w1,wI,wc,gG,lk,Bool.or_false,Bool.or_true,Bool.or_self,bne_self_eq_false];exact lN hm (mk hl hr (by omega) (by omega) (by omega)) rfl (.inr rfl)
   | false=>
    simp only[BEq.rfl,Int.reduceBEq,cond_true,cond_false,dH,hg,gA,gB,gC,e1,e2,e3,eR,eT,Option.bind_some,w1,wI,wc,gG,lk,Bool.or_false,Bool.or_true,Bool.or_self,bne_self_eq_false];exact lN hm (mk hl hr (by omega) (by omega) (by omega)) rfl (.inr rfl)
  ·simp only[bne_iff_ne.2 hta,cond_true];exact lh hm hok (by decide)
 ·have:=hjmp (by decide);have wj:wk .u16 ((j:Int)+1)=(j:Int)+1:=dS (by omega) (by omega);rw[wj];exact lN hm (mk (setOk (kD (by omega))).1 (setOk (kD (by omega))).2 (by omega) (by omega) (by omega)) rfl (.inr rfl)
 ·by_cases hta:ta=0
  ·subst hta;have wa:wk .i64 va=va:=dO (by have:=cA.2.2.1;dsimp only at this;omega) (by have:=cA.2.2.2.1;dsimp only at this;omega);have a0:=cA.2.2.1;dsimp only at a0;by_cases hva:va > 255
   ·simp only[decide_eq_true hva,bne_self_eq_false,cond_true,cond_false];exact lh hm hok (by decide)
   ·simp only[decide_eq_false hva,wa,Int.reduceBEq,cond_true,cond_false,dH,hg,gA,gB,gC,e1,e2,e3,eR,eT,Option.bind_some,w1,wI,wc,gG,lk,Bool.or_false,Bool.or_true,Bool.or_self,bne_self_eq_false];exact lN hm (mk hl hr (by omega) (by omega) (by omega)) rfl (.inr rfl)
  ·simp only[bne_iff_ne.2 hta,cond_true];exact lh hm hok (by decide)
 ·refine Ok.ret ⟨_,_,_,_,rfl,hm,⟨⟨show (0:Int)≤2 by decide,show (2:Int)≤4 by decide⟩,hl,hr,⟨by dsimp only;omega,by dsimp only;omega⟩,⟨c0,by dsimp only;omega⟩,ha,⟨s0,s1⟩,⟨r0,r1⟩,hco⟩,.inr (.inr ⟨rfl,rfl,rfl,(23,(A:Int),(B:Int),(C:Int),(I:Int)),by dsimp only;omega,?_,rfl⟩)⟩;dsimp only;rw[show (j:Int)+1 - 1=(j:Int) by omega,Int.toNat_natCast];exact hx
 ·by_cases hsa:sa=-1
  ·simp only[beq_iff_eq.2 hsa,cond_true];exact lh hm hok (by decide)
  ·simp only[beq_eq_false_iff_ne.2 hsa,Int.reduceBEq,cond_true,cond_false,dH,hg,gA,gB,gC,e1,e2,e3,eR,eT,Option.bind_some,w1,wI,wc,gG,lk,Bool.or_false,Bool.or_true,Bool.or_self,bne_self_eq_false];exact lN hm (mk hl hr (by omega) (by omega) (by omega)) rfl (.inr rfl)
 ·obtain⟨_,ed,t1,x1,e,rfl,hc1,he0,he6⟩:=LX (key:=key) (op:=op) h.lay cB cC;have n0:(op==0)=false:=beq_eq_false_iff_ne.2 (by omega);have n1:(op==1)=false:=beq_eq_false_iff_ne.2 (by omega);have n2:(op==2)=false:=beq_eq_false_iff_ne.2 (by omega);have n15:(op==15)=false:=beq_eq_false_iff_ne.2 (by omega);have n16:(op==16)=false:=beq_eq_false_iff_ne.2 (by omega);have n17:(op==17)=false:=beq_eq_false_iff_ne.2 (by omega);have n18:(op==18)=false:=beq_eq_false_iff_ne.2 (by omega);have n19:(op==19)=false:=beq_eq_false_iff_ne.2 (by omega);have n20:(op==20)=false:=beq_eq_false_iff_ne.2 (by omega);have n21:(op==21)=false:=beq_eq_false_iff_ne.2 (by omega);have n22:(op==22)=false:=beq_eq_false_iff_ne.2 (by omega);have n23:(op==23)=false:=beq_eq_false_iff_ne.2 (by omega);have n24:(op==24)=false:=beq_eq_false_iff_ne.2 (by omega);simp only[n0,n1,n2,n15,n16,n17,n18,n19,n20,n21,n22,n23,n24,ed,Int.reduceBEq,cond_true,cond_false,dH,hg,gA,gB,gC,e1,e2,e3,eR,eT,Option.bind_some,w1,wI,wc,gG,lk,Bool.or_false,Bool.or_true,Bool.or_self,bne_self_eq_false];by_cases hne:e=0
  ·subst hne;simp only[n18,n19,n20,n21,n22,n24,Int.reduceBEq,cond_true,cond_false,dH,hg,gA,gB,gC,e1,e2,e3,eR,eT,Option.bind_some,w1,wI,wc,gG,lk,Bool.or_false,Bool.or_true,Bool.or_self,bne_self_eq_false];exact lN hm (mk (setOk hc1).1 (setOk hc1).2 (by omega) (by omega) (by omega)) rfl (.inl ⟨rfl,rfl⟩)
  ·simp only[bne_iff_ne.2 hne,cond_true];exact lh hm hok ⟨he0,he6⟩
theorem vl.mono{K:Int→Prop}{n m:Int}{t:DTh}(h:vl K n t) (hm:n≤m):vl K m t:=⟨h.state,h.len,h.regs,h.pc,⟨h.count.1,by have:=h.count.2;omega⟩,h.handler,h.saved,h.trap,h.code⟩
theorem MOk.mono{n m:Int}{ss bs:List Int}{cs:List DCe}{ls:List DLn}{ts:List DTh}(h:MOk n ss bs cs ls ts) (hm:n≤m):MOk m ss bs cs ls ts:=⟨h.lay,h.mem,h.tlen,fun t ht=>(h.thr t ht).mono hm⟩
theorem xq{α:Type}{l:List α}{i:Nat}{a:α}(h:l[i]?=some a):l.set i a=l:=by
 apply List.ext_getElem?;intro j;rw[List.getElem?_set];split
 ·rename_i hij;subst hij;have:=(List.getElem?_eq_some_iff.1 h).1;rw[if_pos this,h]
 ·rfl
def Ma(code:List DIn) (s:Int) (t':DTh):Prop:=
 (s=0∧t'.1=1)∨(s=2∧t'.1=4)∨(s=1∧t'.1=2∧∃i:DIn,1≤t'.2.2.1∧code[(t'.2.2.1 - 1).toNat]?=some i∧i.1=23)
def KH(n key:Int) (code:List DIn) (ss bs:List Int) (ts:List DTh) (i:Nat) (r:List Int×Int×List DCe×List DLn×List DTh×Int×Int×Unit):Prop:=
 ∃s cs' ls' t',r=(bs,key,cs',ls',ts.set i t',s,0,())∧jJ (RK bs ss) cs' ls'∧vl (RK bs ss) n t'∧((s=3∧ts[i]?=some t'∧t'.1≠1)∨Ma code s t')
def LP(i:Nat) (s:Int×Int×(List DIn)×(List (Int))×(List (List (Int)))×Unit×Int×Unit×Unit×Unit×(List (Int))×Int×(List DCe)×(List DLn)×(List DTh)×Unit):Nat:=
 match s.2.2.2.2.2.2.2.2.2.2.2.2.2.2.1[i]? with
 | some t=>((s.2.1 - t.2.2.2.1)*256+(255 - t.2.2.1)).toNat
 | none=>0
theorem Bq{i:Nat}{a b k:Int}{code:List DIn}{ss bs:List Int}{d:List (List Int)}{cs:List DCe}{ls:List DLn}{ts:List DTh}{t:DTh}(h:ts[i]?=some t):LP i (a,b,code,ss,d,(),0,(),(),(),bs,k,cs,ls,ts,())=((b - t.2.2.2.1)*256+(255 - t.2.2.1)).toNat:=by
 unfold LP;dsimp only;rw[h]
theorem HA{n key k:Int}{code:List DIn}{ss bs:List Int}{d:List (List Int)}{cs:List DCe}{ls:List DLn}{ts:List DTh}{i:Nat}(hp:jL code ss d) (h:MOk n ss bs cs ls ts) (hn0:0≤n) (hn:n+64≤1099511627776) (hi:i < 4) (hk:1≤k∧k≤64) :
 Ok (kV code ss d bs key cs ls ts (i:Int) k) (KH (n+64) key code ss bs ts i):=by
 have htl:=h.tlen;obtain⟨t,ht⟩:∃t,ts[i]?=some t:=⟨_,List.getElem?_eq_getElem (by omega)⟩;have hg:dF ts i=some t:=ht
 have hil:i < ts.length:=by omega
 have hok:=h.thr t (dK ht);unfold kV;rw[rB hp h (by omega)];simp only[Option.bind_some,Bool.not_true,cond_false,oF h,dH,hg];rw[decide_eq_false (show ¬ (i:Int) < 0 by omega),decide_eq_false (show ¬ (i:Int)≥4 by omega),decide_eq_false (show ¬ k < 1 by omega),decide_eq_false (show ¬ k > 64 by omega)];simp only[Option.bind_some,cond_false,oF h,dH,hg]
 (with_reducible refine Ok.cb (fun hca=>?_) (fun hca=>?_))
 ·refine Ok.ret ⟨3,cs,ls,t,?_,h.mem,hok.mono (by omega),.inl ⟨rfl,ht,hca⟩⟩;rw[xq ht]
 have hct:=hok.count;have hpc:=hok.pc;rw[dL (x:=t.2.2.2.1+k) (by omega) (by omega)]
 refine Ok.loop (P:=fun s'=>∃cs' ls' t',s'=((i:Int),t.2.2.2.1+k,code,ss,d,(),0,(),(),(),bs,key,cs',ls',ts.set i t',())∧jJ (RK bs ss) cs' ls'∧vl (RK bs ss) (n+64) t'∧t'.1=1∧t'.2.2.2.1 < t.2.2.2.1+k)
  (R:=fun r=>∃s cs' ls' t',r=(s,0,bs,key,cs',ls',ts.set i t',())∧jJ (RK bs ss) cs' ls'∧vl (RK bs ss) (n+64) t'∧Ma code s t') (m:=LP i) ⟨cs,ls,t,by rw[xq ht],h.mem,hok.mono (by omega),hca,by omega⟩ ?_ ?_ ?_
 ·rw[Bq ht];unfold NN;omega
 ·rintro _ ⟨cs',ls',t',rfl,hm,hth,hr,hlt⟩;have ht':(ts.set i t')[i]?=some t':=f9 hil t';unfold nW;dsimp only;refine (K5 hp (((h.mono (show n≤n+64 by omega)).set hm hth):MOk (n+64) ss bs cs' ls' (ts.set i t')) ht' hr (by omega) (by omega)).bind ?_;rintro _ ⟨s,cs2,ls2,t2,rfl,hm2,hth2,hs2⟩;dsimp only;rw[List.set_set]
  (with_reducible refine Ok.cb (fun hcb=>?_) (fun hcb=>?_))
  ·refine Ok.ret ⟨_,_,_,_,rfl,hm2,hth2,?_⟩;rcases hs2 with ⟨q,_⟩ | ⟨q1,q2,_⟩ | ⟨q1,q2,_,q3⟩
   ·exact absurd q hcb
   ·exact .inr (.inl ⟨q1,q2⟩)
   ·exact .inr (.inr ⟨q1,q2,q3⟩)
  ·rw[dH];simp only[Option.bind_some,f9 hil];have h0:=hth2.count;have h1:=hth2.pc;have h2:=hth.pc;rcases hs2 with ⟨_,q1,q2⟩ | ⟨q1,_⟩ | ⟨q1,_⟩
   ·(with_reducible refine Ok.cb (fun hcc=>?_) (fun hcc=>?_))
    ·exact Ok.ret ⟨_,_,_,_,rfl,hm2,hth2,.inl ⟨rfl,q1⟩⟩
    ·refine Ok.ret ⟨⟨_,_,_,rfl,hm2,hth2,q1,by omega⟩,?_⟩;rw[Bq ht',Bq (f9 hil t2)];omega
   ·omega
   ·omega
 ·rintro _ ⟨s,cs',ls',t',rfl,hm,hth,hs⟩;exact Ok.ret ⟨_,_,_,_,rfl,hm,hth,.inr hs⟩
def FW(bs ss:List Int) (a:Int):Nat→Nat→Option (Int×Int)
 | 0,_=>none
 | n+1,k=>if bs.getD k 0≤a∧a < bs.getD k 0+ss.getD k 0 then some ((k:Int),a - bs.getD k 0) else FW bs ss a n (k+1)
def H4(bs ss:List Int) (a:Int):Option (Int×Int):=FW bs ss a bs.length 0
theorem FU{bs ss:List Int}{a r o:Int}:∀{n k:Nat},k+n=bs.length→bs.length=ss.length→FW bs ss a n k=some (r,o)→∃(j:Nat) (b z:Int),r=j∧o=a - b∧bs[j]?=some b∧ss[j]?=some z∧b≤a∧a < b+z:=by
 intro n
 induction n with
 | zero=>intro k _ _ h;cases h
 | succ n ih=>
  intro k hk hl h;simp only[FW] at h;split at h
  ·rename_i hh
   injection h with h
   injection h with h1 h2
   refine⟨k,_,_,h1.symm,h2.symm,?_,?_,hh.1,hh.2⟩
   ·rw[Ci (by omega)];exact List.getElem?_eq_getElem (by omega)
   ·rw[Ci (by omega)];exact List.getElem?_eq_getElem (by omega)
  ·exact ih (by omega) hl h
theorem FV{bs ss:List Int}{a:Int}:∀{n k:Nat},k+n=bs.length→FW bs ss a n k=none→∀(j:Nat) (b z:Int),k≤j→bs[j]?=some b→ss[j]?=some z→¬ (b≤a∧a < b+z):=by
 intro n
 induction n with
 | zero=>
  intro k hk _ j b z hj hb;have:=(List.getElem?_eq_some_iff.1 hb).1;omega
 | succ n ih=>
  intro k hk h j b z hj hb hz;simp only[FW] at h;split at h
  ·cases h
  ·rename_i hh;by_cases hjk:j=k
   ·subst hjk;rw[ej hb,ej hz] at hh;exact hh
   ·exact ih (by omega) h j b z (by omega) hb hz
theorem zA{bs ss:List Int}{a r o:Int}(hl:bs.length=ss.length) (h:H4 bs ss a=some (r,o)):∃(j:Nat) (b z:Int),r=j∧o=a - b∧bs[j]?=some b∧ss[j]?=some z∧b≤a∧a < b+z:=FU (by omega) hl h
theorem J7{bs ss:List Int}{a:Int}(h:RK bs ss a):∃r o,H4 bs ss a=some (r,o):=by
 cases e:H4 bs ss a with
 | some x=>exact⟨x.1,x.2,rfl⟩
 | none=>
  obtain⟨j,b,z,h1,h2,h3,h4⟩:=h;exact absurd ⟨h3,h4⟩ (FV (by omega) e j b z (by omega) h1 h2)
theorem wN{bs ss:List Int}{key a:Int}(h:LV bs ss) (ha:W16 a):eO bs key ss a=some (match H4 bs ss a with | some (r,o)=>(r,o,true,()) | none=>(0,0,false,())):=by
 obtain⟨hs,hl,hr⟩:=h;obtain⟨a0,a1⟩:=ha;have hs4:=hs.2.1
 have key1:∀(n k N:Nat),k+n=bs.length→n < N→dQ eu N (ss,a,bs,(bs.length:Int),(k:Int),bs,key,0,0,())=some (match FW bs ss a n k with | some (r,o)=>.inl (true,r,o,()) | none=>.inr (ss,a,bs,(bs.length:Int),(bs.length:Int),false,bs,key,0,0,())):=by
  intro n
  induction n with
  | zero=>
   intro k N hk hN;obtain⟨N,rfl⟩:∃M,N=M+1:=⟨N - 1,by omega⟩
   obtain rfl:k=bs.length:=by omega
   have e:eu (ss,a,bs,(bs.length:Int),(bs.length:Int),bs,key,0,0,())=some (.inr (.inr (ss,a,bs,(bs.length:Int),(bs.length:Int),false,bs,key,0,0,()))):=by
    refine Ok.eq ?_;unfold eu;dsimp only
    (with_reducible refine Ok.cb (fun hca=>?_) (fun hca=>?_))
    ·omega
    ·exact Ok.ret rfl
   simp only[dQ,e,Option.bind_some,FW]
  | succ n ih=>
   intro k N hk hN;obtain⟨N,rfl⟩:∃M,N=M+1:=⟨N - 1,by omega⟩;obtain⟨b,hb⟩:∃b,bs[k]?=some b:=⟨_,List.getElem?_eq_getElem (by omega)⟩;obtain⟨z,hz⟩:∃z,ss[k]?=some z:=⟨_,List.getElem?_eq_getElem (by omega)⟩;have hz2:=hs.2.2 z (dK hz);have hrk:=hr k (by omega);unfold tA at hrk;rw[ej hb,ej hz] at hrk;by_cases hh:b≤a∧a < b+z
   ·have e:eu (ss,a,bs,(bs.length:Int),(k:Int),bs,key,0,0,())=some (.inr (.inl (true,(k:Int),a - b,()))):=by
     refine Ok.eq ?_;unfold eu;dsimp only;rw[decide_eq_true (show (k:Int) < bs.length by omega),dH];simp only[cond_true,Option.bind_some,show dF bs k=some b from hb,show dF ss k=some z from hz];rw[decide_eq_true (show a≥b by omega),dL (x:=b+z) (by omega) (by omega),decide_eq_true hh.2,dL (x:=a - b) (by omega) (by omega)];exact Ok.ret rfl
    simp only[dQ,e,Option.bind_some,FW,ej hb,ej hz,if_pos hh]
   ·have e:eu (ss,a,bs,(bs.length:Int),(k:Int),bs,key,0,0,())=some (.inl (ss,a,bs,(bs.length:Int),((k+1:Nat):Int),bs,key,0,0,())):=by
     refine Ok.eq ?_;unfold eu;dsimp only;rw[decide_eq_true (show (k:Int) < bs.length by omega),dH];simp only[cond_true,Option.bind_some,show dF bs k=some b from hb,show dF ss k=some z from hz];rw[dL (x:=b+z) (by omega) (by omega)];by_cases h1:a≥b
     ·rw[decide_eq_true h1,decide_eq_false (show ¬ a < b+z by omega)];simp only[cond_true,cond_false];rw[dL (x:=(k:Int)+1) (by omega) (by omega)];exact Ok.ret rfl
     ·rw[decide_eq_false h1];simp only[cond_false];rw[dL (x:=(k:Int)+1) (by omega) (by omega)];exact Ok.ret rfl
    simp only[dQ,e,Option.bind_some,FW,ej hb,ej hz,if_neg hh];exact ih (k+1) N (by omega) (by omega)
 unfold eO H4;delta dJ
 try dsimp only
 rw[show dQ eu NN (ss,a,bs,(bs.length:Int),0,bs,key,0,0,())=_ from key1 bs.length 0 NN (by omega) (by unfold NN;omega)]
 cases FW bs ss a bs.length 0 with
 | some x=>rfl
 | none=>rfl
def pO(bs ss:List Int) (key:Int) (c:DCe):DCn:=
 if c.1=0 then (0,c.2,0,0) else if c.1=2 then (2,wk .u16 (c.2 - key),0,0) else match H4 bs ss c.2 with | some (r,o)=>(1,0,r,o) | none=>(1,0,-1,c.2)
theorem py{K:Int→Prop}{bs ss:List Int}{key:Int}{c:DCe}(h:LV bs ss) (hc:lZ K c):gk bs key ss c.1 c.2=some ((pO bs ss key c).1,(pO bs ss key c).2.1,(pO bs ss key c).2.2.1,(pO bs ss key c).2.2.2,()):=by
 obtain⟨c0,c1,c2,c3,_⟩:=hc;unfold gk pO;rw[dO (x:=c.2) (by omega) (by omega)];dsimp only;rw[wN h ⟨c2,c3⟩]
 rcases (show c.1=0∨c.1=1∨c.1=2 by omega) with e | e | e<;>rw[e]
 ·rfl
 ·simp only[Int.reduceBEq,Int.reduceEq,cond_false,if_false,Option.bind_some]
  cases H4 bs ss c.2 with
  | some x=>rfl
  | none=>rfl
 ·rfl
theorem lB(x:Int):W16 (wk .u16 x):=m0 x
theorem ze{bs ss:List Int}{key:Int}{c:DCe}(h:LV bs ss) (hc:lZ (RK bs ss) c):Pr ss (pO bs ss key c):=by
 obtain⟨c0,c1,c2,c3,c4⟩:=hc;unfold pO;rcases (show c.1=0∨c.1=1∨c.1=2 by omega) with e | e | e
 ·rw[if_pos e];exact .inl ⟨.inl rfl,rfl,rfl,c2,c3⟩
 ·rw[if_neg (by omega),if_neg (by omega)];obtain⟨r,o,hro⟩:=J7 (c4 e);rw[hro];obtain⟨j,b,z,rfl,rfl,h1,h2,h3,h4⟩:=zA h.2.1 hro;exact .inr ⟨rfl,rfl,by dsimp only;omega,z,by rw[Int.toNat_natCast];exact h2,by dsimp only;omega,by dsimp only;omega⟩
 ·rw[if_neg (by omega),if_pos e];exact .inl ⟨.inr rfl,rfl,rfl,lB _⟩
theorem Dx{K:Int→Prop}{bs ss:List Int}{key:Int}{c:DCe}(hc:lZ K c):(pO bs ss key c).1=c.1∧(c.1=0→(pO bs ss key c).2.1=c.2):=by
 obtain⟨c0,c1,_⟩:=hc;unfold pO;rcases (show c.1=0∨c.1=1∨c.1=2 by omega) with e | e | e
 ·rw[if_pos e];exact⟨e.symm,fun _=>rfl⟩
 ·rw[if_neg (by omega),if_neg (by omega)]
  cases H4 bs ss c.2 with
  | some x=>exact⟨e.symm,fun h=>by omega⟩
  | none=>exact⟨e.symm,fun h=>by omega⟩
 ·rw[if_neg (by omega),if_pos e];exact⟨e.symm,fun h=>by omega⟩
def BI(cs:List DCe) (ls:List DLn) (a:Int):DCe:=
 match ls[(a / 4 % 4).toNat]? with
 | some x=>if x.1=a / 4 then x.2.2.getD (a % 4).toNat (0,0) else cs.getD a.toNat (0,0)
 | none=>(0,0)
theorem getD_some{α:Type}{l:List α}{k:Nat}{d x:α}(h:l[k]?=some x):l.getD k d=x:=by rw[List.getD_eq_getElem?_getD,h];rfl
theorem xE{K:Int→Prop}{cs:List DCe}{ls:List DLn}{a:Int}(h:jJ K cs ls) (ha:0≤a∧a < 512):kx cs ls a=some ((BI cs ls a).1,(BI cs ls a).2,())∧lZ K (BI cs ls a):=by
 obtain⟨a0,a1⟩:=ha;obtain⟨h1,h2,h3,h4⟩:=id h;unfold kx BI;rw[Int.tdiv_eq_ediv_of_nonneg a0,dL (x:=a / 4) (by omega) (by omega)];dsimp only;rw[Int.tmod_eq_emod_of_nonneg (show 0≤a / 4 by omega),Int.tmod_eq_emod_of_nonneg a0];obtain⟨i,hi⟩:∃i:Nat,a / 4 % 4=i:=⟨(a / 4 % 4).toNat,by omega⟩;rw[hi,dH,Int.toNat_natCast];obtain⟨x,hx⟩:∃x,ls[i]?=some x:=⟨_,List.getElem?_eq_getElem (by omega)⟩;simp only[Option.bind_some,show dF ls i=some x from hx,hx];by_cases hq:x.1=a / 4
 ·rcases h4 i x hx with ⟨g,_,_⟩ | ⟨_,_,_,g4,g5⟩
  ·omega
  ·obtain⟨j,hj⟩:∃j:Nat,a % 4=j:=⟨(a % 4).toNat,by omega⟩;obtain⟨y,hy⟩:∃y,x.2.2[j]?=some y:=⟨_,List.getElem?_eq_getElem (by omega)⟩;rw[hj,dH,Int.toNat_natCast,if_pos hq,getD_some hy,beq_iff_eq.2 hq];simp only[cond_true,Option.bind_some,show dF x.2.2 j=some y from hy];exact⟨trivial,g5 y (dK hy)⟩
 ·obtain⟨j,rfl⟩:∃j:Nat,a=j:=⟨a.toNat,by omega⟩;obtain⟨y,hy⟩:∃y,cs[j]?=some y:=⟨_,List.getElem?_eq_getElem (by omega)⟩;rw[if_neg hq,beq_eq_false_iff_ne.2 hq,dH,Int.toNat_natCast,getD_some hy];simp only[cond_false,Option.bind_some,show dF cs j=some y from hy];exact⟨trivial,h2 y (dK hy)⟩
def kB(call:Int):List Int:=
 if call=0∨call=8∨call=9∨call=11∨call=12 then [78] else if call=1∨call=2 then [72,80,78] else if call=3 then [78,78] else if call=4 then [72] else if call=5 then [72,78]
 else if call=10 then [78,88] else if call=13∨call=14 then [78,80,78] else []
theorem Gv(call:Int):(kB call).length≤3:=by
 unfold kB
 repeat' split
 all_goals simp
def BOk(b:ByteArray) (l:List Int):Prop:=xn b=(l.length:Int)∧∀j:Nat,wF b j=l[j]?
theorem Mn:BOk (bytes []) []:=⟨rfl,fun j=>rfl⟩
theorem Mm{a:Nat}(h:a < 256):BOk (bytes [a]) [(a:Int)]:=⟨rfl,fun j=>by
 match j with
 | 0=>show some (((UInt8.ofNat a).toNat:Nat):Int)=some (a:Int);simp;omega
 | n+1=>rfl⟩
theorem Ml{a b:Nat}(h:a < 256) (hb:b < 256):BOk (bytes [a,b]) [(a:Int),(b:Int)]:=⟨rfl,fun j=>by
 match j with
 | 0=>show some (((UInt8.ofNat a).toNat:Nat):Int)=some (a:Int);simp;omega
 | 1=>show some (((UInt8.ofNat b).toNat:Nat):Int)=some (b:Int);simp;omega
 | n+2=>rfl⟩
theorem Mk{a b c:Nat}(h:a < 256) (hb:b < 256) (hc:c < 256):BOk (bytes [a,b,c]) [(a:Int),(b:Int),(c:Int)]:=⟨rfl,fun j=>by
 match j with
 | 0=>show some (((UInt8.ofNat a).toNat:Nat):Int)=some (a:Int);simp;omega
 | 1=>show some (((UInt8.ofNat b).toNat:Nat):Int)=some (b:Int);simp;omega
 | 2=>show some (((UInt8.ofNat c).toNat:Nat):Int)=some (c:Int);simp;omega
 | n+3=>rfl⟩
theorem rY{call:Int}(h:0≤call∧call≤15):call=0∨call=1∨call=2∨call=3∨call=4∨call=5∨call=6∨call=7∨call=8∨call=9∨call=10∨call=11∨call=12∨call=13∨call=14∨call=15:=by omega
theorem xG{call:Int}(h:0≤call∧call≤15):∃b,ji call=some (b,())∧BOk b (kB call):=by
 rcases rY h with rfl | rfl | rfl | rfl | rfl | rfl | rfl | rfl | rfl | rfl | rfl | rfl | rfl | rfl | rfl | rfl
 all_goals first
  | exact⟨_,rfl,Mn⟩
  | exact⟨_,rfl,Mm (by decide)⟩
  | exact⟨_,rfl,Ml (by decide) (by decide)⟩
  | exact⟨_,rfl,Mk (by decide) (by decide) (by decide)⟩
def II(k t:Int):Bool:=if k=78 then t==0 else if k=72 then t==2 else if k=80 then t==1 else true
theorem GQ(k t:Int):kt k t=some (II k t,()):=by
 unfold kt II;by_cases h1:k=78
 ·simp[h1]
 ·by_cases h2:k=72
  ·simp[h2]
  ·by_cases h3:k=80
   ·simp[h3]
   ·simp[h1,h2,h3,beq_eq_false_iff_ne.2 h1,beq_eq_false_iff_ne.2 h2,beq_eq_false_iff_ne.2 h3]
def pz(call:Int):Int:=if call=1∨call=13 then 1 else if call=2∨call=14 then 2 else 0
theorem rv{call:Int}(h:0≤call∧call≤15):gI call=some (pz call,()):=by
 rcases rY h with rfl | rfl | rfl | rfl | rfl | rfl | rfl | rfl | rfl | rfl | rfl | rfl | rfl | rfl | rfl | rfl<;>rfl
theorem s9{call:Int}(h:0≤call∧call≤15):f7 call=some (((kB call).length:Int),()):=by
 obtain⟨b,e,hb⟩:=xG h;unfold f7;rw[decide_eq_false (show ¬ call < 0 by omega),decide_eq_false (show ¬ call > 15 by omega),e];simp only[cond_false,Option.bind_some,hb.1]
theorem E3{bs ss:List Int}{key t v n:Int}(h:LV bs ss) (hv:W16 v) (hn:0≤n∧n≤65535):Ok (j3 bs key ss t v n) fun r=>∃a e,r=(a,e,())∧(e=0→t=1∧a=v∧∃(j:Nat) (b z:Int),bs[j]?=some b∧ss[j]?=some z∧b≤v∧v+n≤b+z∧v < b+z):=by
 obtain⟨v0,v1⟩:=hv;unfold j3
 (with_reducible refine Ok.cb (fun hca=>?_) (fun hca=>?_))
 ·exact Ok.ret ⟨_,_,rfl,fun h=>by omega⟩
 rw[dO (x:=v) (by omega) (by omega)];dsimp only;rw[wN h ⟨v0,v1⟩];simp only[Option.bind_some]
 cases e:H4 bs ss v with
 | none=>exact Ok.ret ⟨_,_,rfl,fun h=>by omega⟩
 | some x=>
  obtain⟨r,o⟩:=x;obtain⟨j,b,z,rfl,rfl,h1,h2,h3,h4⟩:=zA h.2.1 e;have hj:=(List.getElem?_eq_some_iff.1 h1).1;have hr:=h.2.2 j hj;unfold tA at hr;rw[ej h1,ej h2] at hr;have hz:=h.1.2.2 z (dK h2);dsimp only;rw[decide_eq_false (show ¬ n < 0 by omega),dH];simp only[Bool.not_true,cond_false,Option.bind_some,show dF ss j=some z from h2];rw[dL (x:=z - (v - b)) (by omega) (by omega)]
  (with_reducible refine Ok.cb (fun hcb=>?_) (fun hcb=>?_))
  ·exact Ok.ret ⟨_,_,rfl,fun h=>by omega⟩
  ·exact Ok.ret ⟨_,_,rfl,fun _=>⟨hca,dO (by omega) (by omega),j,b,z,h1,h2,h3,by omega,h4⟩⟩
structure Ho (call:Int) (m:Int) (bs ss:List Int) (rs:List DCe):Prop where
 fit:∀(j:Nat) k c,(kB call)[j]?=some k→rs[j]?=some c→II k c.1=true
 buf:0 < pz call→∃p q,rs[1]?=some p∧rs[2]?=some q∧q.2≤16∧p.1=1∧∃(j:Nat) (b z:Int),bs[j]?=some b∧ss[j]?=some z∧b≤p.2∧p.2+q.2≤b+z
 code:call=10∨call=12→∃c,rs[0]?=some c∧c.2 < m
theorem Cy{call m:Int}{bs ss:List Int}{rs:List DCe}(h:Ho call m bs ss rs):Ok (some ((0:Int),())) fun r=>∃e,r=(e,())∧0≤e∧e≤6∧(e=0→Ho call m bs ss rs):=Ok.ret ⟨0,rfl,by decide,by decide,fun _=>h⟩
theorem uX{call m:Int}{bs ss:List Int}{rs:List DCe}:Ok (some ((6:Int),())) fun r=>∃e,r=(e,())∧0≤e∧e≤6∧(e=0→Ho call m bs ss rs):=Ok.ret ⟨6,rfl,by decide,by decide,fun h=>absurd h (by decide)⟩
theorem EQ{n key:Int}{code:List DIn}{ss bs:List Int}{d:List (List Int)}{cs:List DCe}{ls:List DLn}{ts:List DTh}{i:Nat}{t:DTh}{x:DIn}(h:MOk n ss bs cs ls ts) (ht:ts[i]?=some t) (hp1:1≤t.2.2.1)
 (hx:code[(t.2.2.1 - 1).toNat]?=some x) (hc:0≤x.2.2.2.2∧x.2.2.2.2≤15):Ok (kU code ss d bs key cs ls ts (i:Int)) fun r=>∃e,r=(e,())∧0≤e∧e≤6∧(e=0→Ho x.2.2.2.2 code.length bs ss t.2.1):=by
 have hok:=h.thr t (dK ht);obtain⟨_,hl,hr,⟨p0,p1⟩,_⟩:=id hok;obtain⟨o,A,B,C,call⟩:=x;dsimp only at hc ⊢;obtain⟨b,eb,hb1,hb2⟩:=xG hc;have hk3:=Gv call;obtain⟨st,rs,pc,rest⟩:=t;dsimp only at *;obtain⟨j,hj⟩:∃j:Nat,pc - 1=j:=⟨(pc - 1).toNat,by omega⟩;rw[hj,Int.toNat_natCast] at hx;unfold kU;rw[dH];simp only[Option.bind_some,show dF ts i=some (st,rs,pc,rest) from ht];rw[dL (x:=pc - 1) (by omega) (by omega),hj,dH];simp only[Option.bind_some,show dF code j=some (o,A,B,C,call) from hx,eb,hb1];obtain⟨c0,hc0⟩:∃c,rs[0]?=some c:=⟨_,List.getElem?_eq_getElem (by omega)⟩;obtain⟨c1,hc1⟩:∃c,rs[1]?=some c:=⟨_,List.getElem?_eq_getElem (by omega)⟩;obtain⟨c2,hc2⟩:∃c,rs[2]?=some c:=⟨_,List.getElem?_eq_getElem (by omega)⟩;have v0:=hr c0 (dK hc0);have v1:=hr c1 (dK hc1);have v2:=hr c2 (dK hc2);have g0:dF rs 0=some c0:=hc0;have g1:dF rs 1=some c1:=hc1;have g2:dF rs 2=some c2:=hc2
 obtain⟨y,e,hy⟩:=Ok.iter (f:=kI) (n:=NN) (s:=(call,b,((kB call).length:Int),0,code,ss,d,bs,key,cs,ls,ts,st,rs,pc,rest.1,rest.2.1,rest.2.2.1,rest.2.2.2.1,rest.2.2.2.2,()))
  (P:=fun s'=>∃q:Nat,s'=(call,b,((kB call).length:Int),(q:Int),code,ss,d,bs,key,cs,ls,ts,st,rs,pc,rest.1,rest.2.1,rest.2.2.1,rest.2.2.2.1,rest.2.2.2.2,())∧q≤(kB call).length∧∀(j:Nat) k c,j < q→(kB call)[j]?=some k→rs[j]?=some c→II k c.1=true)
  (R:=fun r=>r=.inl (6,())∨(∃q,r=.inr (call,b,((kB call).length:Int),q,false,code,ss,d,bs,key,cs,ls,ts,st,rs,pc,rest.1,rest.2.1,rest.2.2.1,rest.2.2.2.1,rest.2.2.2.2,())∧∀(j:Nat) k c,(kB call)[j]?=some k→rs[j]?=some c→II k c.1=true))
  (m:=fun s'=>(s'.2.2.1 - s'.2.2.2.1).toNat) ⟨0,rfl,by omega,fun j k c hj=>by omega⟩ (by unfold NN;dsimp only;omega) (by
   rintro _ ⟨q,rfl,hq,hfit⟩;unfold kI;dsimp only
   (with_reducible refine Ok.cb (fun hca=>?_) (fun hca=>?_))
   ·rw[dH];obtain⟨k,hk⟩:∃k,(kB call)[q]?=some k:=⟨_,List.getElem?_eq_getElem (by omega)⟩;obtain⟨c,hcq⟩:∃c,rs[q]?=some c:=⟨_,List.getElem?_eq_getElem (by omega)⟩;simp only[Option.bind_some,hb2 q,hk,show dF rs q=some c from hcq,GQ]
    (with_reducible refine Ok.cb (fun hcb=>?_) (fun hcb=>?_))
    ·exact Ok.ret (.inl rfl)
    ·rw[dL (x:=(q:Int)+1) (by omega) (by omega)];refine Ok.ret ⟨⟨q+1,rfl,by omega,fun j' k' c' hj' h1 h2=>?_⟩,by dsimp only;omega⟩;by_cases hjq:j'=q
     ·subst hjq;rw[hk] at h1;rw[hcq] at h2;cases h1;cases h2;exact hcb
     ·exact hfit j' k' c' (by omega) h1 h2
   ·refine Ok.ret (.inr ⟨_,rfl,fun j k c h1 h2=>hfit j k c ?_ h1 h2⟩);have:=(List.getElem?_eq_some_iff.1 h1).1
    omega)
 rw[e];rcases hy with rfl | ⟨q,rfl,hfit⟩
 ·exact uX
 dsimp only;rw[rv hc];delta dJ;simp only[Option.bind_some,g0,g1,g2];rw[dO (x:=c2.2) (by have:=v2.2.2.1;omega) (by have:=v2.2.2.2.1;omega),dO (x:=c0.2) (by have:=v0.2.2.1;omega) (by have:=v0.2.2.2.1;omega)]
 have fin:(0 < pz call→∃p q,rs[1]?=some p∧rs[2]?=some q∧q.2≤16∧p.1=1∧∃(j:Nat) (b z:Int),bs[j]?=some b∧ss[j]?=some z∧b≤p.2∧p.2+q.2≤b+z)→Ok ((bif (call==10) then (some ((decide (c0.2≥(code.length:Int))),())) else
  bif (call==12) then (some ((decide (c0.2≥(code.length:Int))),())) else some (false,()):Option (Bool×Unit)).bind fun(x35,_)=>bif x35 then (some ((6:Int),())) else some (0,()))
  fun r=>∃e,r=(e,())∧0≤e∧e≤6∧(e=0→Ho call code.length bs ss rs):=by
  intro hbuf;by_cases q10:call=10
  ·simp only[beq_iff_eq.2 q10,cond_true,Option.bind_some]
   (with_reducible refine Ok.cb (fun hcb=>?_) (fun hcb=>?_))
   ·exact uX
   ·exact Cy ⟨hfit,hbuf,fun _=>⟨c0,hc0,by omega⟩⟩
  ·by_cases q12:call=12
   ·simp only[beq_eq_false_iff_ne.2 q10,beq_iff_eq.2 q12,cond_true,cond_false,Option.bind_some]
    (with_reducible refine Ok.cb (fun hcb=>?_) (fun hcb=>?_))
    ·exact uX
    ·exact Cy ⟨hfit,hbuf,fun _=>⟨c0,hc0,by omega⟩⟩
   ·simp only[beq_eq_false_iff_ne.2 q10,beq_eq_false_iff_ne.2 q12,cond_false,Option.bind_some];exact Cy ⟨hfit,hbuf,fun h=>by omega⟩
 (with_reducible refine Ok.cb (fun hca=>?_) (fun hca=>?_))
 ·refine (E3 (t:=c1.1) (v:=c1.2) (n:=c2.2) h.lay ⟨v1.2.2.1,v1.2.2.2.1⟩ ⟨v2.2.2.1,v2.2.2.2.1⟩).bind ?_;rintro _ ⟨a,e,rfl,he⟩;dsimp only
  (with_reducible refine Ok.cb (fun hcb=>?_) (fun hcb=>?_))
  ·exact uX
  obtain⟨w1,_,j,b',z,w2,w3,w4,w5,w6⟩:=he hcb
  (with_reducible refine Ok.cb (fun hcc=>?_) (fun hcc=>?_))
  ·exact uX
  exact fin fun _=>⟨c1,c2,hc1,hc2,by omega,w1,j,b',z,w2,w3,w4,w5⟩
 ·exact fin fun h=>by omega
structure wy (n:Int) (ss:List Int) (i stop trap count pc call:Int) (args data:List DCn):Prop where
 hthr:0≤i∧i < 4
 hstop:0≤stop∧stop≤3
 htrap:0≤trap∧trap≤6
 hcnt:0≤count∧count≤n
 hpc:0≤pc∧pc≤255
 hcall:0≤call∧call≤15
 hargs:args.length≤3∧∀c∈args,Pr ss c
 hdata:data.length≤16∧∀c∈data,Pr ss c
 hkind:stop=1→args.length=(kB call).length∧∀(j:Nat) k a,(kB call)[j]?=some k→args[j]?=some a→II k a.1=true
 hbuf:stop=1→pz call=2→∃a,args[2]?=some a∧a.2.1≤16
def Mu(stop trap:Int) (t':DTh):Prop:=(stop=0∧t'.1=1)∨(stop=1∧t'.1=2)∨(stop=2∧t'.1=4∧t'.2.2.2.2.2.2.1=trap)∨(stop=3∧t'.1≠1)
def DF(n key:Int) (ss bs:List Int) (ts:List DTh) (i:Nat) (r:(List (Int))×Int×(List DCe)×(List DLn)×(List DTh)×Int×Int×Int×Int×Int×Int×(List DCn)×(List DCn)×Int×Unit):Prop:=
 ∃cs' ls' t' stop trap call args data,r=(bs,key,cs',ls',ts.set i t',(i:Int),stop,trap,t'.2.2.2.1,t'.2.2.1,call,args,data,0,())∧jJ (RK bs ss) cs' ls'∧vl (RK bs ss) n t' ∧
  wy n ss i stop trap t'.2.2.2.1 t'.2.2.1 call args data∧Mu stop trap t'∧(stop=3→ts[i]?=some t')
theorem tD{n:Int}{ss bs:List Int}{i:Nat}{t':DTh}{stop trap:Int}(hi:i < 4) (ht:vl (RK bs ss) n t') (hs:0≤stop∧stop≤3) (hs1:stop≠1) (htr:0≤trap∧trap≤6):wy n ss i stop trap t'.2.2.2.1 t'.2.2.1 0 [] []:=
 ⟨⟨by omega,by omega⟩,hs,htr,ht.count,ht.pc,by decide,⟨by decide,dX⟩,⟨by decide,dX⟩,fun h=>absurd h hs1,fun h=>absurd h hs1⟩
theorem gp{α β:Type}(f:α→β) {l:List α}{k:Nat}{x:α}(h:l[k]?=some x):(l.take k).map f++[f x]=(l.take (k+1)).map f:=by
 rw[List.take_add_one,h];simp
theorem mD{β:Type}(f:Nat→β) (k:Nat):(List.range k).map f++[f k]=(List.range (k+1)).map f:=by
 rw[List.range_succ];simp
set_option maxHeartbeats 4000000 in
theorem tU{n key k:Int}{code:List DIn}{ss bs:List Int}{d:List (List Int)}{cs:List DCe}{ls:List DLn}{ts:List DTh}{i:Nat}(hp:jL code ss d) (h:MOk n ss bs cs ls ts) (hn0:0≤n) (hn:n+64≤1099511627776) (hi:i < 4) (hk:1≤k∧k≤64) :
 Ok (kv code ss d bs key cs ls ts (i:Int) k) (DF (n+64) key ss bs ts i):=by
 have htl:=h.tlen
 have hil:i < ts.length:=by omega
 unfold kv;refine (HA hp h hn0 hn hi hk).bind ?_;rintro _ ⟨s,cs',ls',t',rfl,hm,ht',hs⟩;have hM:MOk (n+64) ss bs cs' ls' (ts.set i t'):=(h.mono (show n≤n+64 by omega)).set hm ht';have hgt:(ts.set i t')[i]?=some t':=f9 hil t';dsimp only;simp only[bne_self_eq_false,cond_false,dH,Option.bind_some,f9 hil];rcases hs with ⟨rfl,hs1,hs2⟩ | ⟨rfl,hs1⟩ | ⟨rfl,hs1⟩ | ⟨rfl,hs1,x,hs2,hs3,hs4⟩
 ·exact Ok.ret ⟨_,_,_,_,_,_,_,_,rfl,hm,ht',tD hi ht' (by decide) (by decide) (by decide),.inr (.inr (.inr ⟨rfl,hs2⟩)),fun _=>hs1⟩
 ·exact Ok.ret ⟨_,_,_,_,_,_,_,_,rfl,hm,ht',tD hi ht' (by decide) (by decide) (by decide),.inl ⟨rfl,hs1⟩,fun h=>absurd h (by decide)⟩
 ·exact Ok.ret ⟨_,_,_,_,_,_,_,_,rfl,hm,ht',tD hi ht' (by decide) (by decide) ht'.trap,.inr (.inr (.inl ⟨rfl,hs1,rfl⟩)),fun h=>absurd h (by decide)⟩
 ·have hins:=hp.ins x (dK hs3);have hcall:0≤x.2.2.2.2∧x.2.2.2.2≤15:=⟨hins.imm.1,hins.sys hs4⟩;obtain⟨_,ec,e,rfl,he0,he6,hcok⟩:=EQ (key:=key) (d:=d) hM hgt hs2 hs3 hcall;obtain⟨o,A,B,C,call⟩:=x;dsimp only at hcall hcok;have hk3:=Gv call;have hl8:=ht'.len;obtain⟨j,hj⟩:∃j:Nat,t'.2.2.1 - 1=j:=⟨(t'.2.2.1 - 1).toNat,by omega⟩;have hpc:=ht'.pc;rw[hj,Int.toNat_natCast] at hs3;rw[dL (x:=t'.2.2.1 - 1) (by omega) (by omega),hj];simp only[Int.reduceBEq,cond_true,cond_false,ec,Option.bind_some,dH,show dF code j=some (o,A,B,C,call) from hs3,s9 hcall];by_cases hne:e=0
  ·subst hne;obtain⟨hfit,hbuf,_⟩:=hcok rfl
   have e1:dQ gT NN (((kB call).length:Int),0,code,ss,d,(),0,(),(),(),0,0,0,0,0,0,(),(),bs,key,cs',ls',ts.set i t',t'.1,t'.2.1,t'.2.2.1,t'.2.2.2.1,t'.2.2.2.2.1,t'.2.2.2.2.2.1,t'.2.2.2.2.2.2.1,t'.2.2.2.2.2.2.2,(i:Int),1,0,t'.2.2.2.1,t'.2.2.1,call,[],(),()) =
    some (((kB call).length:Int),((kB call).length:Int),false,code,ss,d,(),0,(),(),(),0,0,0,0,0,0,(),(),bs,key,cs',ls',ts.set i t',t'.1,t'.2.1,t'.2.2.1,t'.2.2.2.1,t'.2.2.2.2.1,t'.2.2.2.2.2.1,t'.2.2.2.2.2.2.1,t'.2.2.2.2.2.2.2,(i:Int),1,0,t'.2.2.2.1,t'.2.2.1,call,(t'.2.1.take (kB call).length).map (pO bs ss key),(),()):=by
    refine mH (f:=gT) (N:=NN) (st:=fun q=>(((kB call).length:Int),(q:Int),code,ss,d,(),0,(),(),(),0,0,0,0,0,0,(),(),bs,key,cs',ls',ts.set i t',t'.1,t'.2.1,t'.2.2.1,t'.2.2.2.1,t'.2.2.2.2.1,t'.2.2.2.2.2.1,t'.2.2.2.2.2.2.1,t'.2.2.2.2.2.2.2,(i:Int),1,0,t'.2.2.2.1,t'.2.2.1,call,(t'.2.1.take q).map (pO bs ss key),(),())) (n:=(kB call).length) (by unfold NN;omega) ?_ ?_
    ·intro q hq;unfold gT;dsimp only;rw[decide_eq_true (show (q:Int) < (kB call).length by omega),dH];simp only[cond_true,Option.bind_some];refine Ok.get (by omega) fun c hc=>?_;rw[py h.lay (ht'.regs c (dK hc))];simp only[Option.bind_some];refine Ok.need (dN (by simp;omega)) ?_;rw[dL (x:=(q:Int)+1) (by omega) (by omega)];refine Ok.ret ?_;rw[← gp (pO bs ss key) hc];rfl
    ·unfold gT;dsimp only;rw[decide_eq_false (show ¬ ((kB call).length:Int) < (kB call).length by omega)];exact Ok.ret rfl
   have hargs:((t'.2.1.take (kB call).length).map (pO bs ss key)).length=(kB call).length:=by rw[List.length_map,List.length_take];omega
   have hgetA:∀(j:Nat) a,((t'.2.1.take (kB call).length).map (pO bs ss key))[j]?=some a→∃c,t'.2.1[j]?=some c∧a=pO bs ss key c:=by
    intro j a ha;rw[List.getElem?_map] at ha
    cases hc:(t'.2.1.take (kB call).length)[j]? with
    | none=>rw[hc] at ha;cases ha
    | some c=>
     rw[hc] at ha
     injection ha with ha
     refine⟨c,?_,ha.symm⟩;rw[List.getElem?_take] at hc;split at hc
     ·exact hc
     ·cases hc
   have hargsPr:∀c∈(t'.2.1.take (kB call).length).map (pO bs ss key),Pr ss c:=by
    intro c hc;obtain⟨c',hc',rfl⟩:=List.mem_map.1 hc;exact ze h.lay (ht'.regs c' (List.mem_of_mem_take hc'))
   have hkinds:∀(j:Nat) k a,(kB call)[j]?=some k→((t'.2.1.take (kB call).length).map (pO bs ss key))[j]?=some a→II k a.1=true:=by
    intro j k a hk ha;obtain⟨c,hc,rfl⟩:=hgetA j a ha;rw[(Dx (ht'.regs c (dK hc))).1];exact hfit j k c hk hc
   have hbuf2:pz call=2→∃a,((t'.2.1.take (kB call).length).map (pO bs ss key))[2]?=some a∧a.2.1≤16:=by
    intro hb;obtain⟨p,q,hp1,hq2,hq16,_⟩:=hbuf (by omega)
    have hkk:(kB call)[2]?=some 78:=by
     have:call=2∨call=14:=by unfold pz at hb;split at hb<;>first | omega | (split at hb<;>omega)
     rcases this with rfl | rfl<;>rfl
    have hf:=hfit 2 78 q hkk hq2;have hl3:=(List.getElem?_eq_some_iff.1 hkk).1;refine⟨pO bs ss key q,?_,?_⟩
    ·rw[List.getElem?_map,List.getElem?_take,if_pos hl3,hq2];rfl
    ·have hq:=(Dx (bs:=bs) (ss:=ss) (key:=key) (ht'.regs q (dK hq2))).2 (by unfold II at hf;simpa using hf);rw[hq];exact hq16
   simp only[e1,bne_self_eq_false,cond_false,Option.bind_some,rv hcall]
   have fin:∀data:List DCn,data.length≤16→(∀c∈data,Pr ss c)→Ok (some (bs,key,cs',ls',ts.set i t',(i:Int),(1:Int),(0:Int),t'.2.2.2.1,t'.2.2.1,call,(t'.2.1.take (kB call).length).map (pO bs ss key),data,(0:Int),())) (DF (n+64) key ss bs ts i):=
    fun data h1 h2=>Ok.ret ⟨_,_,_,_,_,_,_,_,rfl,hm,ht',⟨⟨by omega,by omega⟩,by decide,by decide,ht'.count,ht'.pc,hcall,⟨by omega,hargsPr⟩,⟨h1,h2⟩,fun _=>⟨hargs,hkinds⟩,fun _=>hbuf2⟩,.inr (.inl ⟨rfl,hs1⟩),fun h=>absurd h (by decide)⟩
   by_cases hb1:pz call=1
   ·obtain⟨p,q,hp1,hq2,hq16,_,jr,b,z,hbz1,hbz2,hbz3,hbz4⟩:=hbuf (by omega);have hp':=ht'.regs p (dK hp1);have hq':=ht'.regs q (dK hq2);have hjr:=(List.getElem?_eq_some_iff.1 hbz1).1;have hreg:=h.lay.2.2 jr hjr;unfold tA at hreg;rw[ej hbz1,ej hbz2] at hreg;obtain⟨m,hqm⟩:∃m:Nat,q.2=m:=⟨q.2.toNat,by have:=hq'.2.2.1;omega⟩
    have e2:dQ gS NN ((m:Int),0,code,ss,d,(),0,(),(),(),0,0,0,0,0,0,(),(),bs,key,cs',ls',ts.set i t',t'.1,t'.2.1,t'.2.2.1,t'.2.2.2.1,t'.2.2.2.2.1,t'.2.2.2.2.2.1,t'.2.2.2.2.2.2.1,t'.2.2.2.2.2.2.2,(i:Int),1,0,t'.2.2.2.1,t'.2.2.1,call,(t'.2.1.take (kB call).length).map (pO bs ss key),[],()) =
     some ((m:Int),(m:Int),false,code,ss,d,(),0,(),(),(),0,0,0,0,0,0,(),(),bs,key,cs',ls',ts.set i t',t'.1,t'.2.1,t'.2.2.1,t'.2.2.2.1,t'.2.2.2.2.1,t'.2.2.2.2.2.1,t'.2.2.2.2.2.2.1,t'.2.2.2.2.2.2.2,(i:Int),1,0,t'.2.2.2.1,t'.2.2.1,call,(t'.2.1.take (kB call).length).map (pO bs ss key),(List.range m).map (fun j:Nat=>pO bs ss key (BI cs' ls' (p.2+(j:Int)))),()):=by
     refine mH (f:=gS) (N:=NN) (st:=fun q=>((m:Int),(q:Int),code,ss,d,(),0,(),(),(),0,0,0,0,0,0,(),(),bs,key,cs',ls',ts.set i t',t'.1,t'.2.1,t'.2.2.1,t'.2.2.2.1,t'.2.2.2.2.1,t'.2.2.2.2.2.1,t'.2.2.2.2.2.2.1,t'.2.2.2.2.2.2.2,(i:Int),1,0,t'.2.2.2.1,t'.2.2.1,call,(t'.2.1.take (kB call).length).map (pO bs ss key),(List.range q).map (fun j:Nat=>pO bs ss key (BI cs' ls' (p.2+(j:Int)))),())) (n:=m) (by unfold NN;omega) ?_ ?_
     ·intro v hv;unfold gS;dsimp only;have hp0:=hp'.2.2.1;have hp01:=hp'.2.2.2.1;rw[decide_eq_true (show (v:Int) < m by omega)];simp only[cond_true,Option.bind_some,show dF t'.2.1 1=some p from hp1];rw[dO (x:=p.2) (by omega) (by omega),dL (x:=p.2+v) (by omega) (by omega)];obtain⟨hlk,hlv⟩:=xE (a:=p.2+v) hm ⟨by omega,by omega⟩;rw[hlk];simp only[Option.bind_some];rw[py h.lay hlv];simp only[Option.bind_some];refine Ok.need (dN (by simp;omega)) ?_;rw[dL (x:=(v:Int)+1) (by omega) (by omega)];refine Ok.ret ?_;rw[← mD];rfl
     ·unfold gS;dsimp only;rw[decide_eq_false (show ¬ (m:Int) < m by omega)];exact Ok.ret rfl
    simp only[hb1,BEq.rfl,cond_true,show dF t'.2.1 2=some q from hq2,Option.bind_some];rw[dO (x:=q.2) (by omega) (by omega),hqm,e2];simp only[Option.bind_some];refine fin _ (by rw[List.length_map,List.length_range];omega) ?_;intro c hc;obtain⟨v,hv,rfl⟩:=List.mem_map.1 hc;have hv:=List.mem_range.1 hv;have hp0:=hp'.2.2.1;exact ze h.lay (xE (a:=p.2+v) hm ⟨by omega,by omega⟩).2
   ·simp only[beq_eq_false_iff_ne.2 hb1,cond_false];exact fin [] (by decide) dX
  ·unfold lF j0;simp only[bne_iff_ne.2 hne,cond_true];rw[dN (show 4≤1000∧0+t'.2.1.length≤1000000 by omega)];simp only[cond_true,Option.bind_some,dH,f9 hil,mQ hil];exact Ok.ret ⟨_,_,_,_,_,_,_,_,rfl,hm,ht'.ended ⟨he0,he6⟩,tD hi (ht'.ended ⟨he0,he6⟩) (by decide) (by decide) ⟨he0,he6⟩,.inr (.inr (.inl ⟨rfl,rfl,rfl⟩)),fun h=>absurd h (by decide)⟩
theorem BH{a b:Int}:mmR false a b≤a∧mmR false a b≤b∧(mmR false a b=a∨mmR false a b=b):=by
 unfold mmR;simp only[Bool.false_eq_true,if_false];split<;>omega
theorem jQ{α:Type}{l:List α}{i j:Nat}(h:i≠j) (a:α):(l.set i a)[j]?=l[j]?:=by
 rw[List.getElem?_set];simp[h]
theorem KJ.setFile{d:List (List DCn)}{o:DOp}{f:Nat}{x y:List DCn}(h:KJ d o) (hf:d[f]?=some x) (hxy:x.length≤y.length):KJ (d.set f y) o:=by
 rcases h with h | ⟨h1,z,h2,h3,h4⟩
 ·exact .inl h
 ·refine .inr ⟨h1,?_⟩;by_cases e:f=o.1.toNat
  ·subst e;rw[hf] at h2;cases h2;exact⟨y,f9 (List.getElem?_eq_some_iff.1 hf).1 y,h3,by omega⟩
  ·exact⟨z,by rw[jQ e];exact h2,h3,h4⟩
theorem fc.setFile{ss:List Int}{d:List (List DCn)}{os:List DOp}{f:Nat}{x y:List DCn}(h:fc ss d os) (hf:d[f]?=some x) (h64:y.length≤64) (hc:∀c∈y,Pr ss c) (hxy:x.length≤y.length):fc ss (d.set f y) os:=
 ⟨by rw[List.length_set];exact h.dlen,gZ h.flen h64,gZ h.cells hc,h.olen,fun o ho=>(h.opens o ho).setFile hf hxy⟩
theorem fc.setOpen{ss:List Int}{d:List (List DCn)}{os:List DOp}{i:Nat}{o:DOp}(h:fc ss d os) (ho:KJ d o):fc ss d (os.set i o):=
 ⟨h.dlen,h.flen,h.cells,by rw[List.length_set];exact h.olen,gZ h.opens ho⟩
theorem xA{ss:List Int}{d:List (List DCn)}{os:List DOp}{h:Int}(hF:fc ss d os):∃b,gg d os h=some (b,())∧(b=true→∃(j f:Nat) (o:DOp) (x:List DCn),h=j∧j < 8∧os[j]?=some o∧o.1=f∧d[f]?=some x∧0≤o.2.1∧o.2.1≤x.length):=by
 have:Ok (gg d os h) fun r=>∃b,r=(b,())∧(b=true→∃(j f:Nat) (o:DOp) (x:List DCn),h=j∧j < 8∧os[j]?=some o∧o.1=f∧d[f]?=some x∧0≤o.2.1∧o.2.1≤x.length):=by
  unfold gg;delta dJ;simp only[hF.olen]
  (with_reducible refine Ok.cb (fun hca=>?_) (fun hca=>?_))
  ·(with_reducible refine Ok.cb (fun hcb=>?_) (fun hcb=>?_))
   ·refine Ok.nat (by omega) fun j hj=>?_;have h8:=hF.olen;refine Ok.get (by omega) fun o ho=>?_;refine Ok.ret ⟨_,rfl,fun hb=>?_⟩;rcases hF.opens o (dK ho) with ⟨h1,_⟩ | ⟨h1,x,h2,h3,h4⟩
    ·rw[h1] at hb;simp at hb
    ·exact⟨j,o.1.toNat,o,x,hj,by omega,ho,by omega,h2,h3,h4⟩
   ·exact Ok.ret ⟨_,rfl,fun h=>by cases h⟩
  ·exact Ok.ret ⟨_,rfl,fun h=>by cases h⟩
 obtain⟨_,e,b,rfl,hb⟩:=this;exact⟨b,e,hb⟩
theorem qV{ss:List Int}{d:List (List DCn)}{os:List DOp}(h:fc ss d os):ft d os=some (d,os,()):=
 copy17_ok (by have:=h.dlen;omega) (fun x hx=>by have:=h.flen x hx;omega) (by have:=h.olen;omega)
theorem DL{ss:List Int}{d:List (List DCn)}{os:List DOp}{h:Int}{l:List DCn}(hs:vm ss) (hF:fc ss d os) (hl:l.length≤16) (hlc:∀c∈l,Pr ss c) :
 Ok (kO d os h l) fun r=>∃d' os' n b,r=(d',os',n,b,())∧fc ss d' os'∧0≤n∧n≤16:=by
 obtain⟨b,eo,hb⟩:=xA (h:=h) hF;unfold kO;rw[qV hF];simp only[Option.bind_some,eo]
 cases b with
 | false=>
  simp only[Bool.not_false,cond_true,Option.bind_some];exact Ok.ret ⟨_,_,_,_,rfl,hF,by decide,by decide⟩
 | true=>
  obtain⟨j,f,o,x,rfl,hj,ho,hof,hx,o0,o1⟩:=hb rfl;have hg:dF os j=some o:=ho;have hgx:dF d f=some x:=hx;have hjl:=(List.getElem?_eq_some_iff.1 ho).1;have hfl:=(List.getElem?_eq_some_iff.1 hx).1;have hx64:=hF.flen x (dK hx);simp only[Bool.not_true,cond_false,dH,Option.bind_some,hg]
  cases hw:o.2.2 with
  | false=>
   simp only[Bool.not_false,cond_true,Option.bind_some];exact Ok.ret ⟨_,_,_,_,rfl,hF,by decide,by decide⟩
  | true=>
   delta dJ;simp only[Bool.not_true,cond_false,Option.bind_some,i3 (n:=(l.length:Int)) hs hlc (by omega) (by omega),dH,hg,hof,hgx];rw[dL (x:=64 - o.2.1) (by omega) (by omega)];obtain⟨m1,m2,m3⟩:=BH (a:=(l.length:Int)) (b:=64 - o.2.1);generalize mmR false (l.length:Int) (64 - o.2.1)=k at m1 m2 m3
   refine Ok.loop (P:=fun s'=>∃(i:Nat) (y:List DCn),s'=(l,j,k,k,(i:Int),(),(),d,f,os,y,())∧(i:Int)≤k∧(∀c∈y,Pr ss c)∧x.length≤y.length∧o.2.1+i≤y.length∧y.length≤64)
    (R:=fun r=>∃y:List DCn,r=(l,j,k,k,k,false,(),(),d,f,os,y,())∧(∀c∈y,Pr ss c)∧x.length≤y.length∧o.2.1+k≤y.length∧y.length≤64) (m:=fun s'=>(k - s'.2.2.2.2.1).toNat) ⟨0,x,rfl,by omega,hF.cells x (dK hx),by omega,by omega,hx64⟩ (by unfold NN;dsimp only;omega) ?_ ?_
   ·rintro _ ⟨i,y,rfl,hi,hy,hxy,hoy,hy64⟩;unfold nV;dsimp only
    (with_reducible refine Ok.cb (fun hca=>?_) (fun hca=>?_))
    ·delta dJ;simp only[hg,Option.bind_some,dH];rw[dL (x:=o.2.1+i) (by omega) (by omega)];obtain⟨c,hc⟩:∃c,l[i]?=some c:=⟨_,List.getElem?_eq_getElem (by omega)⟩;have hgc:dF l i=some c:=hc;have hcp:=hlc c (dK hc);simp only[hgc,Option.bind_some];refine Ok.bind (P:=fun r=>∃y':List DCn,r=(l,j,k,k,(i:Int),(),(),d,f,os,y',())∧(∀c∈y',Pr ss c)∧x.length≤y'.length∧o.2.1+i+1≤y'.length∧y'.length≤64) ?_ ?_
     ·(with_reducible refine Ok.cb (fun hcb=>?_) (fun hcb=>?_))
      ·refine Ok.nat (by omega) fun q hq=>?_;refine Ok.get (by omega) fun _ hz=>?_;refine Ok.get (by omega) fun _ _=>?_;rw[d8 hz];exact Ok.ret ⟨_,rfl,gZ hy hcp,by rw[List.length_set];omega,by rw[List.length_set];omega,by rw[List.length_set];omega⟩
      ·refine Ok.need (dN (by simp;omega)) ?_;exact Ok.ret ⟨_,rfl,ir hy (all_cons hcp dX),by rw[eJ];omega,by rw[eJ,List.length_singleton];omega,by rw[eJ,List.length_singleton];omega⟩
     ·rintro _ ⟨y',rfl,g1,g2,g3,g4⟩;dsimp only;rw[dL (x:=(i:Int)+1) (by omega) (by omega)];exact Ok.ret ⟨⟨i+1,y',rfl,by omega,g1,g2,by omega,g4⟩,by dsimp only;omega⟩
    ·obtain rfl:(i:Int)=k:=by omega
     exact Ok.ret ⟨y,rfl,hy,hxy,hoy,hy64⟩
   ·rintro _ ⟨y,rfl,hy,hxy,hoy,hy64⟩;dsimp only;simp only[hg,Option.bind_some,hof,dH,hgx];refine Ok.need (by simp) ?_;rw[dL (x:=o.2.1+k) (by omega) (by omega),d8 hx,d8 ho];refine Ok.ret ⟨_,_,_,_,rfl,(hF.setFile hx hy64 hy hxy).setOpen (.inr ⟨by dsimp only;omega,y,?_,by dsimp only;omega,by dsimp only;omega⟩),by omega,by omega⟩;dsimp only;rw[hof,Int.toNat_natCast];exact f9 hfl y
theorem FZ{ss:List Int}{d:List (List DCn)}{os:List DOp}{h n:Int}(hF:fc ss d os) (hn:0≤n∧n≤65535) :
 Ok (me d os h n) fun r=>(∃d' os',r=.inl (d',os',(),false,())∧fc ss d' os')∨(∃d' os' l,r=.inr (d',os',l,true,())∧fc ss d' os'∧(l.length:Int)≤n∧l.length≤64∧∀c∈l,Pr ss c):=by
 obtain⟨b,eo,hb⟩:=xA (h:=h) hF;unfold me;rw[qV hF];simp only[Option.bind_some,eo]
 cases b with
 | false=>
  simp only[Bool.not_false,cond_true,Option.bind_some];exact Ok.ret (.inl ⟨_,_,rfl,hF⟩)
 | true=>
  obtain⟨j,f,o,x,rfl,hj,ho,hof,hx,o0,o1⟩:=hb rfl;have hg:dF os j=some o:=ho;have hgx:dF d f=some x:=hx;have hx64:=hF.flen x (dK hx);rw[decide_eq_false (show ¬ n < 0 by omega)];simp only[Bool.not_true,cond_false,dH,Option.bind_some,hg]
  cases hw:o.2.2 with
  | true=>exact Ok.ret (.inl ⟨_,_,rfl,hF⟩)
  | false=>
   delta dJ;simp only[cond_false,dH,Option.bind_some,hg,hof,hgx];rw[dL (x:=(x.length:Int) - o.2.1) (by omega) (by omega)];obtain⟨m1,m2,m3⟩:=BH (a:=n) (b:=(x.length:Int) - o.2.1);generalize mmR false n ((x.length:Int) - o.2.1)=k at m1 m2 m3;rw[dL (x:=o.2.1+k) (by omega) (by omega)];refine Ok.nat o0 fun p hp=>?_;refine Ok.nat (by omega) fun q hq=>?_;refine Ok.need (by unfold jG;simp;omega) ?_
   have hw2:(mI x p (Nat.sub q p)).length=q - p:=by
    unfold mI;rw[List.length_take,List.length_drop];show min (q - p) _=q - p;omega
   refine Ok.need (dN (by omega)) ?_;rw[d8 ho];refine Ok.ret (.inr ⟨_,_,_,rfl,hF.setOpen (.inr ⟨by dsimp only;omega,x,by dsimp only;rw[hof,Int.toNat_natCast];exact hx,by dsimp only;omega,by dsimp only;omega⟩),?_,?_,?_⟩)
   ·rw[eJ,hw2];simp;omega
   ·rw[eJ,hw2];simp;omega
   ·refine ir dX fun c hc=>hF.cells x (dK hx) c ?_;unfold mI at hc;exact List.mem_of_mem_drop (List.mem_of_mem_take hc)
theorem EM{ss:List Int}{d:List (List DCn)}{os:List DOp}{h:Int}(hF:fc ss d os):Ok (kP d os h) fun r=>∃d' os' b,r=(d',os',b,())∧fc ss d' os':=by
 obtain⟨b,eo,hb⟩:=xA (h:=h) hF;unfold kP;rw[qV hF];simp only[Option.bind_some,eo]
 cases b with
 | false=>exact Ok.ret ⟨_,_,_,rfl,hF⟩
 | true=>
  obtain⟨j,f,o,x,rfl,hj,ho,hof,hx,o0,o1⟩:=hb rfl;have hg:dF os j=some o:=ho;simp only[Bool.not_true,cond_false,dH,Option.bind_some,hg];rw[d8 ho];exact Ok.ret ⟨_,_,_,rfl,hF.setOpen (.inl ⟨rfl,rfl,rfl⟩)⟩
theorem FN{ss:List Int}{d:List (List DCn)}{os:List DOp}{h n:Int}(hF:fc ss d os):Ok (md d os h n) fun r=>∃d' os' b,r=(d',os',b,())∧fc ss d' os':=by
 obtain⟨b,eo,hb⟩:=xA (h:=h) hF;unfold md;rw[qV hF];simp only[Option.bind_some,eo]
 cases b with
 | false=>
  simp only[Bool.not_false,cond_true,Option.bind_some];exact Ok.ret ⟨_,_,_,rfl,hF⟩
 | true=>
  obtain⟨j,f,o,x,rfl,hj,ho,hof,hx,o0,o1⟩:=hb rfl;have hg:dF os j=some o:=ho;have hgx:dF d f=some x:=hx;delta dJ;simp only[Bool.not_true,cond_false,dH,Option.bind_some,hg,hof,hgx];by_cases hn:n < 0
  ·simp only[decide_eq_true hn,cond_true,Option.bind_some];exact Ok.ret ⟨_,_,_,rfl,hF⟩
  ·simp only[decide_eq_false hn,cond_false,Option.bind_some]
   (with_reducible refine Ok.cb (fun hca=>?_) (fun hca=>?_))
   ·exact Ok.ret ⟨_,_,_,rfl,hF⟩
   ·simp only[dH,Option.bind_some,hg];rw[d8 ho];exact Ok.ret ⟨_,_,_,rfl,hF.setOpen (.inr ⟨by dsimp only;omega,x,by dsimp only;rw[hof,Int.toNat_natCast];exact hx,by dsimp only;omega,by dsimp only;omega⟩)⟩
theorem Ig{ss:List Int}{d:List (List DCn)}{os:List DOp}{file mode:Int}(hF:fc ss d os):Ok (mf d os file mode) fun r=>∃d' os' h,r=(d',os',h,())∧fc ss d' os'∧-1≤h∧h≤7:=by
 have h8:=hF.olen;have hd4:=hF.dlen;unfold mf;rw[qV hF];simp only[Option.bind_some];refine Ok.loop (P:=fun s'=>∃i:Nat,s'=(file,mode,(i:Int),d,os,(),(),d,os,())∧i≤8) (R:=fun r=>∃i:Nat,r=(file,mode,(i:Int),false,d,os,(),(),d,os,())∧i≤8) (m:=fun s'=>(8 - s'.2.2.1).toNat) ⟨0,rfl,by omega⟩ (by unfold NN;dsimp only;omega) ?_ ?_
 ·rintro _ ⟨i,rfl,hi⟩;unfold oe;delta dJ;simp only[h8,dH,Option.bind_some]
  (with_reducible refine Ok.cb (fun hca=>?_) (fun hca=>?_))
  ·refine Ok.get (by omega) fun o ho=>?_
   (with_reducible refine Ok.cb (fun hcb=>?_) (fun hcb=>?_))
   ·rw[dL (x:=(i:Int)+1) (by omega) (by omega)];exact Ok.ret ⟨⟨i+1,rfl,by omega⟩,by dsimp only;omega⟩
   ·exact Ok.ret ⟨i,rfl,hi⟩
  ·exact Ok.ret ⟨i,rfl,hi⟩
 rintro _ ⟨i,rfl,hi⟩;delta dJ;simp only[h8];have bad:fc ss d os∧(-1:Int)≤-1∧(-1:Int)≤7:=⟨hF,by decide,by decide⟩;refine Ok.bind (P:=fun r=>(∃b:Bool,r=(file,mode,(i:Int),b,(),(),d,os,())∧(b=false→0≤file∧file < d.length∧i < 8))) ?_ ?_
 ·(with_reducible refine Ok.cb (fun hca=>?_) (fun hca=>?_))
  ·exact Ok.ret ⟨true,rfl,fun h=>by cases h⟩
  (with_reducible refine Ok.cb (fun hcb=>?_) (fun hcb=>?_))
  ·exact Ok.ret ⟨true,rfl,fun h=>by cases h⟩
  (with_reducible refine Ok.cb (fun hcc=>?_) (fun hcc=>?_))
  ·exact Ok.ret ⟨true,rfl,fun h=>by cases h⟩
  (with_reducible refine Ok.cb (fun hcd=>?_) (fun hcd=>?_))
  ·exact Ok.ret ⟨true,rfl,fun h=>by cases h⟩
  exact Ok.ret ⟨_,rfl,fun h=>⟨by omega,by omega,by rw[beq_eq_false_iff_ne] at h;omega⟩⟩
 rintro _ ⟨b,rfl,hb⟩;dsimp only
 cases b with
 | true=>exact Ok.ret ⟨_,_,_,rfl,bad⟩
 | false=>
  obtain⟨f0,f1,hi8⟩:=hb rfl;obtain⟨f,rfl⟩:∃f:Nat,file=f:=⟨file.toNat,by omega⟩;obtain⟨x,hx⟩:∃x,d[f]?=some x:=⟨_,List.getElem?_eq_getElem (by omega)⟩;obtain⟨o,ho⟩:∃o,os[i]?=some o:=⟨_,List.getElem?_eq_getElem (by omega)⟩;have hgx:dF d f=some x:=hx;have hg:dF os i=some o:=ho;have hfl:=(List.getElem?_eq_some_iff.1 hx).1;have hil:=(List.getElem?_eq_some_iff.1 ho).1;simp only[cond_false,dH,Option.bind_some,hgx,hg];by_cases h1:mode=1
  ·subst h1;simp only[BEq.rfl,cond_true];rw[d8 hx];simp only[h8]
   refine Ok.loop (P:=fun s'=>∃(q:Nat) (os':List DOp),s'=((f:Int),1,(i:Int),((8:Nat):Int),(q:Int),(),(),d.set f [],os',())∧q≤8∧os'.length=8∧(∀(j:Nat) o,j < q→os'[j]?=some o→KJ (d.set f []) o)∧∀j:Nat,q≤j→os'[j]?=os[j]?)
    (R:=fun r=>∃(z:Int) (os':List DOp),r=((f:Int),1,(i:Int),((8:Nat):Int),z,false,(),(),d.set f [],os',())∧fc ss (d.set f []) os') (m:=fun s'=>(8 - s'.2.2.2.2.1).toNat) ⟨0,os,rfl,by omega,h8,fun j o hj=>by omega,fun _ _=>rfl⟩ (by unfold NN;dsimp only;omega) ?_ ?_
   ·rintro _ ⟨q,os',rfl,hq,hl',ha,hr⟩;unfold od;dsimp only
    (with_reducible refine Ok.cb (fun hca=>?_) (fun hca=>?_))
    ·obtain⟨o',ho'⟩:∃o',os'[q]?=some o':=⟨_,List.getElem?_eq_getElem (by omega)⟩;have hg':dF os' q=some o':=ho';have hop:=hF.opens o' (dK (by rw[← hr q (by omega)];exact ho'));simp only[dH,Option.bind_some,hg'];refine Ok.bind (P:=fun r=>∃o2:DOp,KJ (d.set f []) o2∧r=((f:Int),1,(i:Int),((8:Nat):Int),(q:Int),(),(),d.set f [],os'.set q o2,())) ?_ ?_
     ·by_cases hof:o'.1=f
      ·simp only[beq_iff_eq.2 hof,cond_true];rw[d8 ho'];exact Ok.ret ⟨_,.inr ⟨by dsimp only;omega,[],by dsimp only;rw[hof,Int.toNat_natCast];exact f9 hfl [],by dsimp only;omega,by simp⟩,rfl⟩
      ·simp only[beq_eq_false_iff_ne.2 hof,cond_false];refine Ok.ret ⟨o',?_,by rw[xq ho']⟩;rcases hop with h | ⟨g1,z,g2,g3⟩
       ·exact .inl h
       ·exact .inr ⟨g1,z,by rw[jQ (by omega)];exact g2,g3⟩
     ·rintro _ ⟨o2,hop2,rfl⟩;dsimp only;rw[dL (x:=(q:Int)+1) (by omega) (by omega)];refine Ok.ret ⟨⟨q+1,_,rfl,by omega,by rw[List.length_set];exact hl',fun j o hj hjo=>?_,fun j hj=>?_⟩,by dsimp only;omega⟩
      ·by_cases e:q=j
       ·subst e;rw[show (os'.set q o2)[q]?=some o2 from f9 (by omega) o2] at hjo;cases hjo;exact hop2
       ·rw[jQ e] at hjo;exact ha j o (by omega) hjo
      ·rw[jQ (by omega)];exact hr j (by omega)
    ·refine Ok.ret ⟨_,_,rfl,⟨by rw[List.length_set];exact hd4,gZ hF.flen (by simp),gZ hF.cells dX,hl',fun o' ho'=>?_⟩⟩;obtain⟨j,hj⟩:=List.getElem?_of_mem ho';have:=(List.getElem?_eq_some_iff.1 hj).1;exact ha j o' (by omega) hj
   ·rintro _ ⟨z,os',rfl,hF'⟩;have hl':=hF'.olen;obtain⟨o',ho'⟩:∃o',os'[i]?=some o':=⟨_,List.getElem?_eq_getElem (by omega)⟩;have hg':dF os' i=some o':=ho';simp only[dH,Option.bind_some,hg',show ((1:Int)==2)=false from rfl,cond_false];rw[d8 ho'];exact Ok.ret ⟨_,_,_,rfl,hF'.setOpen (.inr ⟨by dsimp only;omega,[],by dsimp only;rw[Int.toNat_natCast];exact f9 hfl [],by dsimp only;omega,by simp⟩),by omega,by omega⟩
  ·simp only[beq_eq_false_iff_ne.2 h1,cond_false];rw[d8 ho];by_cases h2:mode=2
   ·subst h2;simp only[BEq.rfl,cond_true,Option.bind_some,f9 hil,mQ hil];exact Ok.ret ⟨_,_,_,rfl,hF.setOpen (.inr ⟨by dsimp only;omega,x,by dsimp only;rw[Int.toNat_natCast];exact hx,by dsimp only;omega,by dsimp only;omega⟩),by omega,by omega⟩
   ·simp only[beq_eq_false_iff_ne.2 h2,cond_false,Option.bind_some];exact Ok.ret ⟨_,_,_,rfl,hF.setOpen (.inr ⟨by dsimp only;omega,x,by dsimp only;rw[Int.toNat_natCast];exact hx,by dsimp only;omega,by dsimp only;omega⟩),by omega,by omega⟩
theorem fJ(n:Int) (b:Bool):∃v,dT n b=some (0,v,0,0,(),-1,false,())∧W16 v:=by
 unfold dT
 cases b with
 | true=>exact⟨_,rfl,lB _⟩
 | false=>exact⟨_,rfl,lB _⟩
theorem jv{ss:List Int}{v:Int}(h:W16 v):Pr ss (0,v,0,0):=.inl ⟨.inl rfl,rfl,rfl,h⟩
theorem Jd{ss:List Int}{v:Int}(h:W16 v):Pr ss (2,v,0,0):=.inl ⟨.inr rfl,rfl,rfl,h⟩
theorem FM{ss:List Int}{us:List DOu}{sk:Int}{l:List DCn}(hu:us.length≤200) (ho:∀(i:Nat) x,us[i]?=some x→LJ ss i x) (hl:l.length≤16) (hlc:∀c∈l,Pr ss c) :
 Ok (mc us sk l) fun r=>∃us' n b,r=(us',n,b,())∧us'.length≤200∧∀(i:Nat) x,us'[i]?=some x→LJ ss i x:=by
 have hc:iS us=some (us,()):=Bb (by omega) fun x hx=>by
  obtain⟨j,hj⟩:=List.getElem?_of_mem hx;have:=(ho j x hj).2.2.2.1;omega
 unfold mc;rw[hc];delta dJ;simp only[Option.bind_some];refine Ok.bind (P:=fun r=>∃b:Bool,r=(us,sk,l,b,us,())∧(b=false→0≤sk∧sk < 2∧us.length < 200)) ?_ ?_
 ·(with_reducible refine Ok.cb (fun hca=>?_) (fun hca=>?_))
  ·exact Ok.ret ⟨true,rfl,fun h=>by cases h⟩
  (with_reducible refine Ok.cb (fun hcb=>?_) (fun hcb=>?_))
  ·exact Ok.ret ⟨true,rfl,fun h=>by cases h⟩
  (with_reducible refine Ok.cb (fun hcc=>?_) (fun hcc=>?_))
  ·exact Ok.ret ⟨true,rfl,fun h=>by cases h⟩
  exact Ok.ret ⟨_,rfl,fun h=>⟨by omega,by omega,by omega⟩⟩
 rintro _ ⟨b,rfl,hb⟩;dsimp only
 cases b with
 | true=>exact Ok.ret ⟨_,_,_,rfl,hu,ho⟩
 | false=>
  obtain⟨s0,s1,hlt⟩:=hb rfl;simp only[cond_false];refine Ok.need (dN (by omega)) (Ok.need (dN (by simp;omega)) ?_);refine Ok.ret ⟨_,_,_,rfl,by rw[eJ];simp;omega,fun i x hx=>?_⟩;simp only[List.append_eq,List.nil_append] at hx;rw[List.getElem?_append] at hx;split at hx
  ·exact ho i x hx
  ·rename_i hi;obtain⟨q,hq⟩:∃q,i - us.length=q:=⟨_,rfl⟩;rw[hq] at hx
   cases q with
   | zero=>
    have:x=((us.length:Int),sk,l):=by simpa using hx.symm
    subst this;exact⟨by dsimp only;omega,s0,s1,hl,hlc⟩
   | succ q=>simp at hx
theorem zB{ss:List Int}{ins:List (List Int)}{sk n:Int}(hi:ins.length≤2) (h:∀x∈ins,x.length≤64∧∀w∈x,W16 w) (hn:0≤n∧n≤65535) :
 Ok (jc ins sk n) fun r=>(∃ins',r=.inl (ins',(),false,())∧ins'.length≤2∧∀x∈ins',x.length≤64∧∀w∈x,W16 w) ∨
  (∃ins' l,r=.inr (ins',l,true,())∧(ins'.length≤2∧∀x∈ins',x.length≤64∧∀w∈x,W16 w)∧(l.length:Int)≤n∧l.length≤64∧∀c∈l,Pr ss c):=by
 unfold jc;rw[uR (by omega) (fun x hx=>by have:=(h x hx).1;omega)];delta dJ;simp only[Option.bind_some];refine Ok.bind (P:=fun r=>∃b:Bool,r=(ins,sk,n,b,ins,())∧(b=false→0≤sk∧sk < ins.length)) ?_ ?_
 ·(with_reducible refine Ok.cb (fun hca=>?_) (fun hca=>?_))
  ·exact Ok.ret ⟨true,rfl,fun h=>by cases h⟩
  (with_reducible refine Ok.cb (fun hcb=>?_) (fun hcb=>?_))
  ·exact Ok.ret ⟨true,rfl,fun h=>by cases h⟩
  exact Ok.ret ⟨_,rfl,fun _=>⟨by omega,by omega⟩⟩
 rintro _ ⟨b,rfl,hb⟩;dsimp only
 cases b with
 | true=>exact Ok.ret (Or.inl ⟨_,rfl,hi,h⟩)
 | false=>
 obtain⟨s0,s1⟩:=hb rfl;obtain⟨j,rfl⟩:∃j:Nat,sk=j:=⟨sk.toNat,by omega⟩;obtain⟨x,hx⟩:∃x,ins[j]?=some x:=⟨_,List.getElem?_eq_getElem (by omega)⟩;have hgx:dF ins j=some x:=hx;have hjl:=(List.getElem?_eq_some_iff.1 hx).1;obtain⟨hx64,hxw⟩:=h x (dK hx);simp only[cond_false,Option.bind_some,dH,hgx];obtain⟨m1,m2,m3⟩:=BH (a:=n) (b:=(x.length:Int));generalize mmR false n (x.length:Int)=k at m1 m2 m3;obtain⟨q,rfl⟩:∃q:Nat,k=q:=⟨k.toNat,by omega⟩;simp only[dH,Option.bind_some];refine Ok.need (by unfold jG;simp;omega) ?_
 have hw:mI x 0 (Nat.sub q 0)=x.take q:=by unfold mI;rw[List.drop_zero];rfl
 have hwl:(x.take q).length=q:=by rw[List.length_take];omega
 rw[hw];simp only[hwl]
 have e:dQ fK NN ((j:Int),(q:Int),x.take q,(q:Int),0,ins,[],())=some ((j:Int),(q:Int),x.take q,(q:Int),(q:Int),false,ins,(x.take q).map (fun w=>(0,w,0,0)),()):=by
  have:=mH (f:=fK) (N:=NN) (st:=fun i=>((j:Int),(q:Int),x.take q,(q:Int),(i:Int),ins,((x.take q).take i).map (fun w=>((0:Int),w,(0:Int),(0:Int))),())) (n:=q) (t:=((j:Int),(q:Int),x.take q,(q:Int),(q:Int),false,ins,(x.take q).map (fun w=>((0:Int),w,(0:Int),(0:Int))),())) (by unfold NN;omega) ?_ ?_
  ·exact this
  ·intro i hi;unfold fK;dsimp only;rw[decide_eq_true (show (i:Int) < q by omega),dH];simp only[cond_true,Option.bind_some];refine Ok.get (by omega) fun w hw=>?_;refine Ok.need (dN (by simp;omega)) ?_;rw[dL (x:=(i:Int)+1) (by omega) (by omega)];refine Ok.ret ?_;rw[← gp (fun w=>((0:Int),w,(0:Int),(0:Int))) hw];rfl
  ·unfold fK;dsimp only;rw[decide_eq_false (show ¬ (q:Int) < q by omega)];refine Ok.ret ?_;rw[show (x.take q).take q=x.take q from List.take_of_length_le (by omega)]
 rw[e];simp only[dH,Option.bind_some,hgx];refine Ok.need (by unfold jG;simp;omega) ?_
 try simp only[dH,Option.bind_some,hgx]
 rw[d8 hx]
 have hd:∀c∈mI x q (Nat.sub x.length q),c∈x:=fun c hc=>by
  unfold mI at hc;exact List.mem_of_mem_drop (List.mem_of_mem_take hc)
 have hdl:(mI x q (Nat.sub x.length q)).length≤64:=by
  unfold mI;rw[List.length_take,List.length_drop];omega
 refine Ok.ret (.inr ⟨_,_,rfl,⟨by rw[List.length_set];exact hi,gZ h ⟨hdl,fun w hw=>hxw w (hd w hw)⟩⟩,by rw[List.length_map,hwl];omega,by rw[List.length_map,hwl];omega,fun c hc=>?_⟩);obtain⟨w,hw,rfl⟩:=List.mem_map.1 hc;exact jv (hxw w (List.mem_of_mem_take hw))
theorem wC{n:Int}{ss:List Int}{i stop trap count pc call:Int}{args data:List DCn}(hs:vm ss) (h:wy n ss i stop trap count pc call args data) (hn:n≤1099511627776):jj i stop trap count pc call args data=some (true,()):=by
 obtain⟨⟨a1,a2⟩,⟨b1,b2⟩,⟨c1,c2⟩,⟨d1,d2⟩,⟨e1,e2⟩,⟨f1,f2⟩,⟨g1,g2⟩,⟨k1,k2⟩,_,_⟩:=h;refine Ok.eq ?_;unfold jj;rw[i3 (n:=3) hs g2 (by omega) (by omega),i3 (n:=16) hs k2 (by omega) (by omega)];refine Ok.need (decide_eq_true a1) (Ok.need (decide_eq_true (by omega)) (Ok.need (decide_eq_true b1) (Ok.need (decide_eq_true b2) (Ok.need (decide_eq_true c1) (Ok.need (decide_eq_true c2) (Ok.need (decide_eq_true d1) (Ok.need (decide_eq_true (by omega)) (Ok.need (decide_eq_true e1) (Ok.need (decide_eq_true e2) (Ok.need (decide_eq_true f1) (Ok.need (decide_eq_true f2) ?_)))))))))));exact Ok.ret rfl
theorem Ep{n:Int}{ss:List Int}{i trap count pc call:Int}{args data:List DCn}(h:wy n ss i 1 trap count pc call args data):kT i 1 trap count pc call args data=some (true,()):=by
 obtain⟨hl,hk⟩:=h.hkind rfl;obtain⟨b,eb,hb1,hb2⟩:=xG h.hcall;have h3:=Gv call
 have e:dQ gz NN (b,args,(args.length:Int),0,i,1,trap,count,pc,call,args,data,())=some (.inr (b,args,(args.length:Int),(args.length:Int),false,i,1,trap,count,pc,call,args,data,())):=by
  refine mH (f:=gz) (N:=NN) (st:=fun q=>(b,args,(args.length:Int),(q:Int),i,1,trap,count,pc,call,args,data,())) (n:=args.length) (by unfold NN;omega) ?_ ?_
  ·intro q hq;obtain⟨k,hkq⟩:∃k,(kB call)[q]?=some k:=⟨_,List.getElem?_eq_getElem (by omega)⟩;obtain⟨a,ha⟩:∃a,args[q]?=some a:=⟨_,List.getElem?_eq_getElem (by omega)⟩;unfold gz;dsimp only;rw[decide_eq_true (show (q:Int) < args.length by omega),dH];simp only[cond_true,Option.bind_some,show dF args q=some a from ha,hb2 q,hkq,GQ,hk q k a hkq ha,Bool.not_true,cond_false];rw[dL (x:=(q:Int)+1) (by omega) (by omega)];exact Ok.ret rfl
  ·unfold gz;dsimp only;rw[decide_eq_false (show ¬ (args.length:Int) < args.length by omega)];exact Ok.ret rfl
 unfold kT;delta dJ;simp only[eb,Option.bind_some,hb1,hl,bne_self_eq_false,cond_false];rw[hl] at e;rw[e]
def KG(call:Int):Bool:=decide ((1≤call∧call≤7)∨call=13∨call=14)
theorem KF{call:Int}(h:0≤call∧call≤15):oc call=some (KG call,()):=by
 rcases rY h with rfl | rfl | rfl | rfl | rfl | rfl | rfl | rfl | rfl | rfl | rfl | rfl | rfl | rfl | rfl | rfl<;>rfl
structure L4 (ss:List Int) (t v r o:Int) (data:List DCn) (sp:Int) (w:Bool):Prop where
 val:Pr ss (t,v,r,o)
 dat:data.length≤64∧∀c∈data,Pr ss c
 spn:-1≤sp∧sp≤3
def DoP(ss:List Int) (r:(List (Int))×(List (Int))×(List (List (Int)))×(List (List DCn))×(List DOp)×(List DOu)×Int×Int×Int×Int×(List DCn)×Int×Bool×Int×Unit):Prop:=
 ∃ck rn ins d os us t v rg o data,r=(ck,rn,ins,d,os,us,t,v,rg,o,data,-1,false,0,())∧vn ss ck rn ins d os us∧Pr ss (t,v,rg,o)∧data.length≤16∧∀c∈data,Pr ss c
theorem jz{ss:List Int}{ck rn:List Int}{ins:List (List Int)}{d:List (List DCn)}{os:List DOp}{us:List DOu}{t v rg o:Int}{data:List DCn}(h:vn ss ck rn ins d os us) (hv:Pr ss (t,v,rg,o)) (hd:data.length≤16∧∀c∈data,Pr ss c) :
 Ok (some (ck,rn,ins,d,os,us,t,v,rg,o,data,(-1:Int),false,(0:Int),())) (DoP ss):=Ok.ret ⟨_,_,_,_,_,_,_,_,_,_,_,rfl,h,hv,hd⟩
theorem Pr.val{ss:List Int}{c:DCn}(h:Pr ss c):W16 c.2.1:=by
 rcases h with ⟨_,_,_,h⟩ | ⟨_,h,_⟩
 ·exact h
 ·rw[h];exact⟨by decide,by decide⟩
theorem Lp{n:Int}{ss:List Int}{i trap count pc call:Int}{args data:List DCn}(h:wy n ss i 1 trap count pc call args data):pz call=0∨pz call=1∨(pz call=2∧∃a,args[2]?=some a∧a.2.1≤16):=by
 by_cases h2:pz call=2
 ·exact .inr (.inr ⟨h2,h.hbuf rfl h2⟩)
 ·have:pz call=0∨pz call=1∨pz call=2:=by unfold pz;split<;>first | omega | (split<;>omega)
  omega
theorem Ok.of_eq{α:Type}{a b:Option α}{Q:α→Prop}(h:Ok a Q) (e:b=a):Ok b Q:=by rw[e];exact h
set_option maxHeartbeats 4000000 in
theorem Ku{n:Int}{ss:List Int}{ck rn:List Int}{ins:List (List Int)}{d:List (List DCn)}{os:List DOp}{us:List DOu}{i trap count pc call:Int}{args data:List DCn}(hs:vm ss) (hO:vn ss ck rn ins d os us) (hR:wy n ss i 1 trap count pc call args data)
 (ha:KG call=true) (hn:n≤1099511627776):Ok (mJ ck rn ins d os us i 1 trap count pc call args data) (DoP ss):=by
 have hc:=hR.hcall;have hdat:=hR.hdata;have hap:=hR.hargs;unfold mJ;rw[rA hs hO,wC hs hR hn,KF hc,ha,Ep hR,rv hc];simp only[Option.bind_some,Bool.not_true,cond_false,bne_self_eq_false];refine Ok.bind (P:=fun r=>r=(false,ck,rn,ins,d,os,us,i,1,trap,count,pc,call,args,data,(),(),(),(),(),(),0,0,0,0,(),0,false,())) ?_ ?_
 ·rcases Lp hR with h | h | ⟨h,a,h2,h3⟩
  ·rw[h];exact Ok.ret rfl
  ·rw[h];exact Ok.ret rfl
  ·rw[h];simp only[BEq.rfl,cond_true,show dF args 2=some a from h2,Option.bind_some];rw[decide_eq_false (show ¬ a.2.1 > 16 by omega)];exact Ok.ret rfl
 rintro _ rfl;dsimp only;delta dJ;simp only[cond_false,Ba hO,Option.bind_some]
 refine Ok.loop (P:=fun s'=>∃(k:Nat) (vs:List Int),s'=(args,(args.length:Int),(k:Int),ck,rn,ins,d,os,us,i,1,trap,count,pc,call,args,data,(),(),(),(),(),(),0,0,0,0,(),0,false,ck,rn,ins,d,os,us,vs,())∧k≤args.length∧vs.length=3∧(∀v∈vs,W16 v)∧∀(j:Nat) a,j < k→args[j]?=some a→vs[j]?=some a.2.1)
  (R:=fun r=>∃(z:Int) (vs:List Int),r=(args,(args.length:Int),z,false,ck,rn,ins,d,os,us,i,1,trap,count,pc,call,args,data,(),(),(),(),(),(),0,0,0,0,(),0,false,ck,rn,ins,d,os,us,vs,())∧vs.length=3∧(∀v∈vs,W16 v)∧∀(j:Nat) a,args[j]?=some a→vs[j]?=some a.2.1) (m:=fun s'=>(s'.2.1 - s'.2.2.1).toNat)
  ⟨0,[0,0,0],rfl,by omega,rfl,all_cons ⟨by decide,by decide⟩ (all_cons ⟨by decide,by decide⟩ (all_cons ⟨by decide,by decide⟩ dX)),fun j a hj=>by omega⟩ (by unfold NN;dsimp only;omega) ?_ ?_
 ·rintro _ ⟨k,vs,rfl,hk,hv3,hvw,hva⟩;unfold qr;dsimp only
  (with_reducible refine Ok.cb (fun hca=>?_) (fun hca=>?_))
  ·simp only[dH,Option.bind_some];refine Ok.get (by omega) fun a hak=>?_;have hw:=(hap.2 a (dK hak)).val;refine Ok.get (by omega) fun v hv=>?_;refine Ok.get (by omega) fun _ _=>?_;rw[dO (x:=a.2.1) (by have:=hw.1;omega) (by have:=hw.2;omega),dL (x:=(k:Int)+1) (by omega) (by omega),d8 hv];refine Ok.ret ⟨⟨k+1,_,rfl,by omega,by rw[List.length_set];exact hv3,gZ hvw hw,fun j a' hj haj=>?_⟩,by dsimp only;omega⟩;by_cases e:k=j
   ·subst e;rw[hak] at haj;cases haj;exact f9 (by omega) _
   ·rw[jQ e];exact hva j a' (by omega) haj
  ·refine Ok.ret ⟨_,vs,rfl,hv3,hvw,fun j a haj=>hva j a ?_ haj⟩;have:=(List.getElem?_eq_some_iff.1 haj).1;omega
 rintro _ ⟨z,vs,rfl,hv3,hvw,hva⟩;obtain⟨v0,ev0,hv0⟩:=fJ 0 false
 obtain⟨a0,a1,a2,rfl⟩:∃a b c,vs=[a,b,c]:=by
  match vs,hv3 with
  | [a,b,c],_=>exact⟨a,b,c,rfl⟩
 have w0:W16 a0:=hvw a0 (by simp);have w1:W16 a1:=hvw a1 (by simp);have w2:W16 a2:=hvw a2 (by simp);have g0:dF [a0,a1,a2] 0=some a0:=rfl;have g1:dF [a0,a1,a2] 1=some a1:=rfl;have g2:dF [a0,a1,a2] 2=some a2:=rfl
 have a2le:pz call=2→a2≤16:=fun h=>by
  obtain⟨a,h2,h3⟩:=hR.hbuf rfl h;have:=hva 2 a h2
  have:a2=a.2.1:=by simpa using this
  omega
 have nil16:([]:List DCn).length≤16∧∀c∈([]:List DCn),Pr ss c:=⟨by decide,dX⟩;dsimp only;simp only[ev0,Option.bind_some,g0,g1,g2];rcases rY hc with rfl | rfl | rfl | rfl | rfl | rfl | rfl | rfl | rfl | rfl | rfl | rfl | rfl | rfl | rfl | rfl
 all_goals first | (exact absurd ha (by decide)) | simp only[Int.reduceBEq,cond_true,cond_false]
 ·obtain⟨_,e,d1,os1,m,b,rfl,hF,_⟩:=DL (h:=a0) hs hO.files hdat.1 hdat.2;obtain⟨v,ev,hv⟩:=fJ m b;simp only[e,ev,Option.bind_some];exact jz ⟨hO.clock,hO.rand,hO.ilen,hO.inp,hF,hO.ulen,hO.outs⟩ (jv hv) nil16
 ·have hle:=a2le rfl;obtain⟨_,e,hr⟩:=FZ (h:=a0) (n:=a2) hO.files w2;rcases hr with ⟨d1,os1,rfl,hF⟩ | ⟨d1,os1,l,rfl,hF,hl,_,hlc⟩
  ·simp only[e,ev0,Option.bind_some];exact jz ⟨hO.clock,hO.rand,hO.ilen,hO.inp,hF,hO.ulen,hO.outs⟩ (jv hv0) nil16
  ·obtain⟨v,ev,hv⟩:=fJ (l.length:Int) true;simp only[e,ev,Option.bind_some];exact jz ⟨hO.clock,hO.rand,hO.ilen,hO.inp,hF,hO.ulen,hO.outs⟩ (jv hv) ⟨by omega,hlc⟩
 ·obtain⟨_,e,d1,os1,h,rfl,hF,h0,h7⟩:=Ig (file:=a0) (mode:=a1) hO.files;simp only[e,Option.bind_some];have hout:vn ss ck rn ins d1 os1 us:=⟨hO.clock,hO.rand,hO.ilen,hO.inp,hF,hO.ulen,hO.outs⟩;by_cases hh:h≥0
  ·simp only[decide_eq_true hh,cond_true];exact jz hout (Jd (lB _)) nil16
  ·simp only[decide_eq_false hh,cond_false];exact jz hout (jv hv0) nil16
 ·obtain⟨_,e,d1,os1,b,rfl,hF⟩:=EM (h:=a0) hO.files;obtain⟨v,ev,hv⟩:=fJ 0 b;simp only[e,ev,Option.bind_some];exact jz ⟨hO.clock,hO.rand,hO.ilen,hO.inp,hF,hO.ulen,hO.outs⟩ (jv hv) nil16
 ·obtain⟨_,e,d1,os1,b,rfl,hF⟩:=FN (h:=a0) (n:=a1) hO.files;obtain⟨v,ev,hv⟩:=fJ 0 b;simp only[e,ev,Option.bind_some];exact jz ⟨hO.clock,hO.rand,hO.ilen,hO.inp,hF,hO.ulen,hO.outs⟩ (jv hv) nil16
 ·cases ck with
  | nil=>exact jz hO (jv hv0) nil16
  | cons x ck=>
   obtain⟨v,ev,hv⟩:=fJ (wk .i64 x) true
   have hw:mI (x :: ck) 1 (Nat.sub (x :: ck).length 1)=ck:=by unfold mI;simp
   refine Ok.of_eq (jz (ck:=ck) ⟨⟨by have:=hO.clock.1;simp at this;omega,fun w hw=>hO.clock.2 w (by simp[hw])⟩,hO.rand,hO.ilen,hO.inp,hO.files,hO.ulen,hO.outs⟩ (jv hv) nil16) ?_;simp only[List.length_cons,show dF (x :: ck) 0=some x from rfl,Option.bind_some,ev];have hd:∀inst:Decidable (((ck.length+1:Nat):Int) > 0),@decide _ inst=true:=fun inst=>decide_eq_true (by omega);rw[List.length_cons] at hw;rw[hd,show jG 1 (ck.length+1) (ck.length+1)=true by unfold jG;simp,hw];rfl
 ·cases rn with
  | nil=>exact jz hO (jv hv0) nil16
  | cons x rn=>
   obtain⟨v,ev,hv⟩:=fJ (wk .i64 x) true
   have hw:mI (x :: rn) 1 (Nat.sub (x :: rn).length 1)=rn:=by unfold mI;simp
   refine Ok.of_eq (jz (rn:=rn) ⟨hO.clock,⟨by have:=hO.rand.1;simp at this;omega,fun w hw=>hO.rand.2 w (by simp[hw])⟩,hO.ilen,hO.inp,hO.files,hO.ulen,hO.outs⟩ (jv hv) nil16) ?_;simp only[List.length_cons,show dF (x :: rn) 0=some x from rfl,Option.bind_some,ev];have hd:∀inst:Decidable (((rn.length+1:Nat):Int) > 0),@decide _ inst=true:=fun inst=>decide_eq_true (by omega);rw[List.length_cons] at hw;rw[hd,show jG 1 (rn.length+1) (rn.length+1)=true by unfold jG;simp,hw];rfl
 ·obtain⟨_,e,us1,m,b,rfl,hu,ho⟩:=FM (sk:=a0) hO.ulen hO.outs hdat.1 hdat.2;obtain⟨v,ev,hv⟩:=fJ m b;simp only[e,ev,Option.bind_some];exact jz ⟨hO.clock,hO.rand,hO.ilen,hO.inp,hO.files,hu,ho⟩ (jv hv) nil16
 ·have hle:=a2le rfl;obtain⟨_,e,hr⟩:=zB (ss:=ss) (sk:=a0) (n:=a2) hO.ilen hO.inp w2;rcases hr with ⟨in1,rfl,hi1,hi2⟩ | ⟨in1,l,rfl,⟨hi1,hi2⟩,hl,_,hlc⟩
  ·simp only[e,ev0,Option.bind_some];exact jz ⟨hO.clock,hO.rand,hi1,hi2,hO.files,hO.ulen,hO.outs⟩ (jv hv0) nil16
  ·obtain⟨v,ev,hv⟩:=fJ (l.length:Int) true;simp only[e,ev,Option.bind_some];exact jz ⟨hO.clock,hO.rand,hi1,hi2,hO.files,hO.ulen,hO.outs⟩ (jv hv) ⟨by omega,hlc⟩
def wO(bs:List Int) (key:Int) (c:DCn):DCe:=if c.1=0 then (0,c.2.1) else if c.1=2 then (2,wk .u16 (c.2.1+key)) else (1,wk .u16 (bs.getD c.2.2.1.toNat 0+c.2.2.2))
theorem C9{bs ss:List Int}(h:LV bs ss) {r o n:Int}(h1:0≤r) (h2:ss[r.toNat]?=some n) (h3:0≤o) (h4:o < n):∃b,bs[r.toNat]?=some b∧0≤b+o∧b+o < 512∧b≤b+o∧b+o < b+n:=by
 obtain⟨hs,hl,hr⟩:=h;have hj:=(List.getElem?_eq_some_iff.1 h2).1;obtain⟨b,hb⟩:∃b,bs[r.toNat]?=some b:=⟨_,List.getElem?_eq_getElem (by omega)⟩;have hrr:=hr r.toNat (by omega);unfold tA at hrr;rw[ej hb,ej h2] at hrr;exact⟨b,hb,by omega,by omega,by omega,by omega⟩
theorem ua{bs ss:List Int}{key:Int}{c:DCn}(h:LV bs ss) (hc:Pr ss c):fS bs key ss c.1 c.2.1 c.2.2.1 c.2.2.2=some ((wO bs key c).1,(wO bs key c).2,0,())∧lZ (RK bs ss) (wO bs key c):=by
 unfold fS wO;rw[lM hc];simp only[Option.bind_some,Bool.not_true,cond_false];rcases hc with ⟨h1 | h1,h2,h3,h4⟩ | ⟨h1,h2,h3,n,h5,h6,h7⟩
 ·rw[h1];exact⟨rfl,kD h4⟩
 ·rw[h1];exact⟨rfl,(show (0:Int)≤2 by decide),(show (2:Int)≤2 by decide),(lB _).1,(lB _).2,fun e=>absurd (show (2:Int)=1 from e) (by decide)⟩
 ·obtain⟨b,hb,b0,b1,b2,b3⟩:=C9 h h3 h5 h6 h7;obtain⟨j,hj⟩:∃j:Nat,c.2.2.1=j:=⟨c.2.2.1.toNat,by omega⟩;rw[hj] at hb h5 ⊢;rw[Int.toNat_natCast] at hb h5 ⊢;rw[h1,ej hb];simp only[Int.reduceBEq,Int.reduceEq,cond_false,if_false,dH,Option.bind_some,show dF bs j=some b from hb];rw[dL (x:=b+c.2.2.2) (by omega) (by omega),dS (x:=b+c.2.2.2) (by omega) (by omega)];exact⟨rfl,by dsimp only;omega,by dsimp only;omega,by dsimp only;omega,by dsimp only;omega,fun _=>⟨j,b,n,hb,h5,b2,b3⟩⟩
theorem EV{bs ss:List Int}{key r o n:Int}(h:LV bs ss) (h1:0≤r) (h2:ss[r.toNat]?=some n) (h3:0≤o) (h4:o < n):∃a,jo bs key ss r o=some (a,0,())∧0≤a∧a < 512∧a=bs.getD r.toNat 0+o:=by
 obtain⟨b,hb,b0,b1,_⟩:=C9 h h1 h2 h3 h4;obtain⟨j,rfl⟩:∃j:Nat,r=j:=⟨r.toNat,by omega⟩;rw[Int.toNat_natCast] at hb ⊢;unfold jo;rw[Ak h1 h2 h3 h4];simp only[Option.bind_some,Bool.not_true,cond_false,dH,show dF bs j=some b from hb];rw[dL (x:=b+o) (by omega) (by omega)];exact⟨_,rfl,b0,b1,by rw[ej hb]⟩
theorem Il(pc t v:Int):nh pc t v=some (1,[(t,v),(0,0),(0,0),(0,0),(0,0),(0,0),(0,0),(0,0)],pc,0,-1,-1,0,0,()):=rfl
def L5(n key:Int) (ss bs:List Int) (r:Bool×(List (Int))×Int×(List DCe)×(List DLn)×(List DTh)×Unit):Prop:=∃b cs' ls' ts',r=(b,bs,key,cs',ls',ts',())∧(b=true→MOk n ss bs cs' ls' ts')
theorem ub{n key:Int}{ss bs:List Int}{cs:List DCe}{ls:List DLn}{ts:List DTh}:Ok (some (false,bs,key,cs,ls,ts,())) (L5 n key ss bs):=Ok.ret ⟨_,_,_,_,rfl,fun h=>by cases h⟩
theorem oa{n key ct cv:Int}{ss bs:List Int}{cs:List DCe}{ls:List DLn}{ts:List DTh}{i:Nat}(h:MOk n ss bs cs ls ts) (hi:i < 4) (hc:lZ (RK bs ss) (ct,cv)) :
 Ok ((dF ts i).bind fun _=>(dF ts i).bind fun x75=>(dF x75.2.1 0).bind fun _=>(dF ts i).bind fun x77=>(dF x77.2.1 0).bind fun _=>(dF (List.modify ts i fun e=>(e.1,((List.modify e.2.1 0 fun _=>(ct,cv)),e.2.2))) i).bind fun _=>
  some (true,bs,key,cs,ls,List.modify (List.modify ts i fun e=>(e.1,((List.modify e.2.1 0 fun _=>(ct,cv)),e.2.2))) i fun e=>((1:Int),e.2),())) (L5 n key ss bs):=by
 have htl:=h.tlen;obtain⟨t,ht⟩:∃t,ts[i]?=some t:=⟨_,List.getElem?_eq_getElem (by omega)⟩;have hg:dF ts i=some t:=ht;have hil:=(List.getElem?_eq_some_iff.1 ht).1;have hok:=h.thr t (dK ht);obtain⟨c,hc0⟩:∃c,t.2.1[0]?=some c:=⟨_,List.getElem?_eq_getElem (by have:=hok.len;omega)⟩;simp only[hg,Option.bind_some,show dF t.2.1 0=some c from hc0,d8 ht,d8 hc0,f9 hil,mQ hil];exact Ok.ret ⟨_,_,_,_,rfl,fun _=>h.set h.mem ⟨⟨show (0:Int)≤1 by decide,show (1:Int)≤4 by decide⟩,by dsimp only;rw[List.length_set];exact hok.len,gZ hok.regs hc,hok.pc,hok.count,hok.handler,hok.saved,hok.trap,hok.code⟩⟩
theorem DP{K:Int→Prop}{n pc:Int}{rs:List DCe}(hl:rs.length=8) (hr:∀c∈rs,lZ K c) (hp:0≤pc∧pc≤255) (hn:0≤n):vl K n (1,rs,pc,0,-1,-1,0,0):=
 ⟨⟨show (0:Int)≤1 by decide,show (1:Int)≤4 by decide⟩,hl,hr,hp,⟨show (0:Int)≤0 by decide,hn⟩,⟨show (-1:Int)≤-1 by decide,show (-1:Int)≤255 by decide⟩,⟨show (-1:Int)≤-1 by decide,show (-1:Int)≤255 by decide⟩,⟨show (0:Int)≤0 by decide,show (0:Int)≤6 by decide⟩,⟨show (0:Int)≤0 by decide,show (0:Int)≤65535 by decide⟩⟩
theorem MOk.mk_mem{n:Int}{ss bs:List Int}{cs cs':List DCe}{ls ls':List DLn}{ts:List DTh}(h:MOk n ss bs cs ls ts) (hm:jJ (RK bs ss) cs' ls'):MOk n ss bs cs' ls' ts:=⟨h.lay,hm,h.tlen,h.thr⟩
set_option maxHeartbeats 4000000 in
theorem Ia{n m key:Int}{code:List DIn}{ss bs:List Int}{dd:List (List Int)}{cs:List DCe}{ls:List DLn}{ts:List DTh}{i:Nat}{trap count pc call:Int}{args data:List DCn}{t v rg o sp:Int}{dat:List DCn}{w:Bool}(h:MOk n ss bs cs ls ts) (hi:i < 4)
 (hR:wy m ss (i:Int) 1 trap count pc call args data) (hv:Pr ss (t,v,rg,o)) (hd:dat.length≤16∧∀c∈dat,Pr ss c) (hsp:-1≤sp∧sp≤3) :
 Ok (nd code ss dd (i:Int) 1 trap count pc call args data t v rg o dat sp w bs key cs ls ts) (L5 n key ss bs):=by
 have hL:=h.lay;have htl:=h.tlen;obtain⟨hk1,hk2⟩:=hR.hkind rfl;have hargs:=hR.hargs;obtain⟨hraw,hrawc⟩:=ua (key:=key) hL hv;obtain⟨th,hth⟩:∃th,ts[i]?=some th:=⟨_,List.getElem?_eq_getElem (by omega)⟩;have hok:=h.thr th (dK hth);have hc0:=hok.count;have hil:=(List.getElem?_eq_some_iff.1 hth).1;dsimp only at hraw;unfold nd;delta dJ;rw[dH,hraw,rv hR.hcall];simp only[Option.bind_some,bne_self_eq_false,cond_false];refine Ok.get hil fun _ _=>?_;have fin:=oa (key:=key) (ct:=(wO bs key (t,v,rg,o)).1) (cv:=(wO bs key (t,v,rg,o)).2) h hi hrawc
 have buf:pz call=2→dat.length > 0→∃a:DCn,args[1]?=some a∧Pr ss a∧a.1=1∧∃y,dQ jY NN (i,dat,(dat.length:Int),0,bs,key,cs,ls,ts,code,ss,dd,(i:Int),1,trap,count,pc,call,args,data,t,v,rg,o,dat,sp,w,(wO bs key (t,v,rg,o)).1,(wO bs key (t,v,rg,o)).2,a.2.2.1,a.2.2.2,())=some y ∧
  ((∃cs' ls',y=.inl (false,bs,key,cs',ls',ts,()))∨(∃cs' ls' z f,y=.inr (i,dat,(dat.length:Int),z,false,bs,key,cs',ls',ts,code,ss,dd,(i:Int),1,trap,count,pc,call,args,data,t,v,rg,o,dat,sp,w,(wO bs key (t,v,rg,o)).1,(wO bs key (t,v,rg,o)).2,a.2.2.1,f,())∧jJ (RK bs ss) cs' ls')):=by
  intro hb hpos
  have hkk:(kB call)[1]?=some 80:=by
   have:call=2∨call=14:=by unfold pz at hb;split at hb<;>first | omega | (split at hb<;>omega)
   rcases this with rfl | rfl<;>rfl
  have hl1:=(List.getElem?_eq_some_iff.1 hkk).1;obtain⟨a,ha⟩:∃a,args[1]?=some a:=⟨_,List.getElem?_eq_getElem (by omega)⟩;have hap:=hargs.2 a (dK ha);have hfit:=hk2 1 80 a hkk ha
  have ha1:a.1=1:=by unfold II at hfit;simpa using hfit
  have ha32:0≤a.2.2.2∧a.2.2.2≤32:=by
   rcases hap with ⟨g,_⟩ | ⟨_,_,_,z,g1,g2,g3⟩
   ·omega
   ·have:=hL.1.2.2 z (dK g1);omega
  refine⟨a,ha,hap,ha1,?_⟩
  refine Ok.iter (f:=jY) (n:=NN) (P:=fun s'=>∃k:Nat,∃cs' ls',s'=(i,dat,(dat.length:Int),(k:Int),bs,key,cs',ls',ts,code,ss,dd,(i:Int),1,trap,count,pc,call,args,data,t,v,rg,o,dat,sp,w,(wO bs key (t,v,rg,o)).1,(wO bs key (t,v,rg,o)).2,a.2.2.1,a.2.2.2+k,())∧k≤dat.length∧jJ (RK bs ss) cs' ls')
   (R:=fun y=>(∃cs' ls',y=.inl (false,bs,key,cs',ls',ts,()))∨(∃cs' ls' z f,y=.inr (i,dat,(dat.length:Int),z,false,bs,key,cs',ls',ts,code,ss,dd,(i:Int),1,trap,count,pc,call,args,data,t,v,rg,o,dat,sp,w,(wO bs key (t,v,rg,o)).1,(wO bs key (t,v,rg,o)).2,a.2.2.1,f,())∧jJ (RK bs ss) cs' ls'))
   (m:=fun s'=>(s'.2.2.1 - s'.2.2.2.1).toNat) ⟨0,cs,ls,by simp,by omega,h.mem⟩ (by unfold NN;dsimp only;omega) ?_
  rintro _ ⟨k,cs',ls',rfl,hk,hm⟩;unfold jY;dsimp only
  (with_reducible refine Ok.cb (fun hca=>?_) (fun hca=>?_))
  ·rw[dH];simp only[Option.bind_some];refine Ok.get (by omega) fun c hc=>?_;obtain⟨hr1,hr2⟩:=ua (key:=key) hL (hd.2 c (dK hc));rw[hr1];simp only[Option.bind_some,bne_self_eq_false,cond_false];refine wU.bind ?_;rintro⟨q,_⟩ hin;dsimp only at hin ⊢
   (with_reducible refine Ok.cb (fun hcb=>?_) (fun hcb=>?_))
   ·exact Ok.ret (.inl ⟨_,_,rfl⟩)
   ·obtain⟨g1,g2,z,g3,g4⟩:=hin hcb;obtain⟨ad,ea,a0,a1,_⟩:=EV (key:=key) hL g1 g3 g2 g4;rw[ea];simp only[Option.bind_some];refine (wG hm ⟨a0,a1⟩ hr2).bind ?_;rintro _ ⟨cs2,ls2,rfl,hm2⟩;dsimp only;rw[dL (x:=a.2.2.2+k+1) (by omega) (by omega),dL (x:=(k:Int)+1) (by omega) (by omega)];exact Ok.ret ⟨⟨k+1,_,_,by rw[show a.2.2.2+((k+1:Nat):Int)=a.2.2.2+k+1 by omega];rfl,by omega,hm2⟩,by dsimp only;omega⟩
  ·exact Ok.ret (.inr ⟨_,_,_,_,rfl,hm⟩)
 rcases rY hR.hcall with rfl | rfl | rfl | rfl | rfl | rfl | rfl | rfl | rfl | rfl | rfl | rfl | rfl | rfl | rfl | rfl
 case inr.inr.inl=>
  simp only[show ((pz 2)==2)=true from rfl,cond_true];by_cases hpos:dat.length > 0
  ·obtain⟨a,ha,hap,ha1,y,ey,hy⟩:=buf rfl hpos;simp only[decide_eq_true (show ((dat.length:Nat):Int) > 0 by omega),cond_true,show dF args 1=some a from ha,Option.bind_some,lM hap,Bool.not_true,cond_false,bne_eq_false_iff_eq.2 ha1,ey];rcases hy with ⟨cs',ls',rfl⟩ | ⟨cs',ls',z,f,rfl,hm⟩
   ·exact ub
   ·simp only[Int.reduceBEq,cond_false];exact oa (h.mk_mem hm) hi hrawc
  ·simp only[decide_eq_false (show ¬ ((dat.length:Nat):Int) > 0 by omega),cond_false,Int.reduceBEq];exact fin
 case inr.inr.inr.inr.inr.inr.inr.inr.inr.inr.inr.inr.inr.inr.inl=>
  simp only[show ((pz 14)==2)=true from rfl,cond_true];by_cases hpos:dat.length > 0
  ·obtain⟨a,ha,hap,ha1,y,ey,hy⟩:=buf rfl hpos;simp only[decide_eq_true (show ((dat.length:Nat):Int) > 0 by omega),cond_true,show dF args 1=some a from ha,Option.bind_some,lM hap,Bool.not_true,cond_false,bne_eq_false_iff_eq.2 ha1,ey];rcases hy with ⟨cs',ls',rfl⟩ | ⟨cs',ls',z,f,rfl,hm⟩
   ·exact ub
   ·simp only[Int.reduceBEq,cond_false];exact oa (h.mk_mem hm) hi hrawc
  ·simp only[decide_eq_false (show ¬ ((dat.length:Nat):Int) > 0 by omega),cond_false,Int.reduceBEq];exact fin
 case inr.inr.inr.inr.inr.inr.inr.inr.inr.inr.inr.inr.inl=>
  obtain⟨a,ha⟩:∃a,args[0]?=some a:=⟨_,List.getElem?_eq_getElem (by rw[hk1];decide)⟩;have hva:=(hargs.2 a (dK ha)).val;simp only[show ((pz 12)==2)=false from rfl,cond_false,Int.reduceBEq,cond_true,show dF args 0=some a from ha,Option.bind_some];rw[dO (x:=a.2.1) (by have:=hva.1;omega) (by have:=hva.2;omega)];by_cases h1:a.2.1 > 255
  ·simp only[decide_eq_true h1,cond_true];exact ub
  by_cases h2:a.1=0
  ·simp only[decide_eq_false h1,cond_false,bne_eq_false_iff_eq.2 h2,show dF ts i=some th from hth,Option.bind_some,d8 hth];exact oa (h.set h.mem ⟨hok.state,hok.len,hok.regs,hok.pc,hok.count,⟨by dsimp only;have:=hva.1;omega,by dsimp only;omega⟩,hok.saved,hok.trap,hok.code⟩) hi hrawc
  ·simp only[decide_eq_false h1,cond_false,bne_iff_ne.2 h2,cond_true];exact ub
 case inr.inr.inr.inr.inr.inr.inr.inr.inr.inr.inl=>
  obtain⟨a,ha⟩:∃a,args[0]?=some a:=⟨_,List.getElem?_eq_getElem (by rw[hk1];decide)⟩;obtain⟨c,hc⟩:∃c,args[1]?=some c:=⟨_,List.getElem?_eq_getElem (by rw[hk1];decide)⟩;have hva:=(hargs.2 a (dK ha)).val;obtain⟨hr1,hr2⟩:=ua (key:=key) hL (hargs.2 c (dK hc));simp only[show ((pz 10)==2)=false from rfl,cond_false,Int.reduceBEq,cond_true];by_cases hsp0:sp≥0
  ·obtain⟨j,rfl⟩:∃j:Nat,sp=j:=⟨sp.toNat,by omega⟩;obtain⟨tj,htj⟩:∃tj,ts[j]?=some tj:=⟨_,List.getElem?_eq_getElem (by omega)⟩;simp only[decide_eq_true hsp0,cond_true,show dF args 0=some a from ha,show dF args 1=some c from hc,Option.bind_some,hr1,bne_self_eq_false,cond_false,dH,show dF ts j=some tj from htj];rw[dO (x:=a.2.1) (by have:=hva.1;omega) (by have:=hva.2;omega)];by_cases h0:tj.1=0
   ·by_cases h1:a.2.1 > 255
    ·simp only[bne_eq_false_iff_eq.2 h0,cond_false,decide_eq_true h1,cond_true,Option.bind_some];exact ub
    by_cases h2:a.1=0
    ·simp only[bne_eq_false_iff_eq.2 h0,decide_eq_false h1,cond_false,bne_eq_false_iff_eq.2 h2,Option.bind_some,show dF args 0=some a from ha,dO (x:=a.2.1) (by have:=hva.1;omega) (by have:=hva.2;omega),Il,dH,show dF ts j=some tj from htj,d8 htj];refine oa (h.set h.mem (DP rfl (all_cons hr2 ?_) ⟨hva.1,by omega⟩ (by omega))) hi hrawc;exact all_cons (kD (by decide)) (all_cons (kD (by decide)) (all_cons (kD (by decide)) (all_cons (kD (by decide)) (all_cons (kD (by decide)) (all_cons (kD (by decide)) (all_cons (kD (by decide)) dX))))))
    ·simp only[bne_eq_false_iff_eq.2 h0,decide_eq_false h1,cond_false,bne_iff_ne.2 h2,cond_true,Option.bind_some];exact ub
   ·simp only[bne_iff_ne.2 h0,cond_true,Option.bind_some];exact ub
  ·simp only[decide_eq_false hsp0,cond_false];exact fin
 all_goals
  simp only[show ((pz 0)==2)=false from rfl,show ((pz 1)==2)=false from rfl,show ((pz 3)==2)=false from rfl,show ((pz 4)==2)=false from rfl,show ((pz 5)==2)=false from rfl,show ((pz 6)==2)=false from rfl,show ((pz 7)==2)=false from rfl,
   show ((pz 8)==2)=false from rfl,show ((pz 9)==2)=false from rfl,show ((pz 11)==2)=false from rfl,show ((pz 13)==2)=false from rfl,show ((pz 15)==2)=false from rfl,cond_false,Int.reduceBEq]
  exact fin
theorem wB{ss:List Int}{t v rg o sp:Int}{dat:List DCn}{w:Bool}(hs:vm ss) (hv:Pr ss (t,v,rg,o)) (hd:dat.length≤16∧∀c∈dat,Pr ss c) (hsp:-1≤sp∧sp≤3):jg t v rg o dat sp w=some (true,()):=by
 refine Ok.eq ?_;unfold jg;rw[show iV t v rg o=some (true,()) from Bg hs hv,i3 (n:=16) hs hd.2 (by omega) (by omega)];refine Ok.need (decide_eq_true hsp.1) ?_;exact Ok.ret (by rw[decide_eq_true (show sp < 4 by omega)])
theorem Lv{n m key:Int}{code:List DIn}{ss bs:List Int}{dd:List (List Int)}{cs:List DCe}{ls:List DLn}{ts:List DTh}{i:Nat}{trap count pc call:Int}{args data:List DCn}{t v rg o sp:Int}{dat:List DCn}{w:Bool}(hp:jL code ss dd) (h:MOk n ss bs cs ls ts) (hi:i < 4)
 (hn:n≤1099511627776) (hm:m≤1099511627776) (hR:wy m ss (i:Int) 1 trap count pc call args data) (hv:Pr ss (t,v,rg,o)) (hd:dat.length≤16∧∀c∈dat,Pr ss c) (hsp:-1≤sp∧sp≤3) :
 Ok (ne code ss dd bs key cs ls ts (i:Int) 1 trap count pc call args data t v rg o dat sp w) fun r=>∃cs' ls' ts' b,r=(bs,key,cs',ls',ts',b,())∧MOk n ss bs cs' ls' ts':=by
 have htl:=h.tlen;obtain⟨hk1,hk2⟩:=hR.hkind rfl;obtain⟨th,hth⟩:∃th,ts[i]?=some th:=⟨_,List.getElem?_eq_getElem (by omega)⟩;have hok:=h.thr th (dK hth);have hil:=(List.getElem?_eq_some_iff.1 hth).1;have hg:dF ts i=some th:=hth;unfold ne;delta dJ;rw[rB hp h hn,wC hp.sz hR hm,s9 hR.hcall,wB hp.sz hv hd hsp,hk1];simp only[Option.bind_some,Bool.not_true,cond_false,bne_self_eq_false,dH,hg];by_cases h2:th.1=2
 ·simp only[bne_eq_false_iff_eq.2 h2,cond_false,oF h,Option.bind_some,dH,hg];by_cases hc0:call=0
  ·subst hc0;obtain⟨a,ha⟩:∃a,args[0]?=some a:=⟨_,List.getElem?_eq_getElem (by rw[hk1];decide)⟩;have hva:=(hR.hargs.2 a (dK ha)).val;simp only[BEq.rfl,cond_true,show dF args 0=some a from ha,Option.bind_some];unfold lF j0;rw[dN (show 4≤1000∧0+th.2.1.length≤1000000 by have:=hok.len;omega)];simp only[cond_true,Option.bind_some,d8 hth];exact Ok.ret ⟨_,_,_,_,rfl,h.set h.mem ⟨⟨show (0:Int)≤4 by decide,show (4:Int)≤4 by decide⟩,by dsimp only;rw[eJ];simpa using hok.len,ir dX hok.regs,hok.pc,hok.count,hok.handler,hok.saved,⟨show (0:Int)≤0 by decide,show (0:Int)≤6 by decide⟩,hva⟩⟩
  ·simp only[beq_eq_false_iff_ne.2 hc0,cond_false]
   cases w with
   | true=>
    simp only[cond_true,d8 hth];exact Ok.ret ⟨_,_,_,_,rfl,h.set h.mem ⟨⟨show (0:Int)≤3 by decide,show (3:Int)≤4 by decide⟩,hok.len,hok.regs,hok.pc,hok.count,hok.handler,hok.saved,hok.trap,hok.code⟩⟩
   | false=>
    simp only[cond_false];refine (Ia h hi hR hv hd hsp).bind ?_;rintro _ ⟨b,cs',ls',ts',rfl,hb⟩;dsimp only
    cases b with
    | true=>exact Ok.ret ⟨_,_,_,_,rfl,hb rfl⟩
    | false=>exact Ok.ret ⟨_,_,_,_,rfl,h⟩
 ·simp only[bne_iff_ne.2 h2,cond_true];exact Ok.ret ⟨_,_,_,_,rfl,h⟩
theorem Hh{n key:Int}{code:List DIn}{ss bs:List Int}{dd:List (List Int)}{cs:List DCe}{ls:List DLn}{ts:List DTh}{i t v rg o sp:Int}{dat:List DCn}{w:Bool}(hp:jL code ss dd) (h:MOk n ss bs cs ls ts)
 (hn:n≤1099511627776) (hv:Pr ss (t,v,rg,o)) (hd:dat.length≤16∧∀c∈dat,Pr ss c) (hsp:-1≤sp∧sp≤3) :
 Ok (kq code ss dd bs key cs ls ts i t v rg o dat sp w) fun r=>∃cs' ls' ts' b,r=(bs,key,cs',ls',ts',b,())∧MOk n ss bs cs' ls' ts':=by
 have htl:=h.tlen;obtain⟨hraw,hrawc⟩:=ua (key:=key) h.lay hv;dsimp only at hraw;unfold kq;rw[rB hp h hn,wB hp.sz hv hd hsp];simp only[Option.bind_some,Bool.not_true,cond_false];by_cases h1:i < 0
 ·simp only[decide_eq_true h1,cond_true,Option.bind_some];exact Ok.ret ⟨_,_,_,_,rfl,h⟩
 by_cases h2:i≥4
 ·simp only[decide_eq_false h1,decide_eq_true h2,cond_true,cond_false,Option.bind_some];exact Ok.ret ⟨_,_,_,_,rfl,h⟩
 obtain⟨i,rfl⟩:∃k:Nat,i=k:=⟨i.toNat,by omega⟩;obtain⟨th,hth⟩:∃th,ts[i]?=some th:=⟨_,List.getElem?_eq_getElem (by omega)⟩;have hok:=h.thr th (dK hth);have hil:=(List.getElem?_eq_some_iff.1 hth).1;have hg:dF ts i=some th:=hth;obtain⟨c,hc0⟩:∃c,th.2.1[0]?=some c:=⟨_,List.getElem?_eq_getElem (by have:=hok.len;omega)⟩;simp only[decide_eq_false h1,decide_eq_false h2,cond_false,dH,Option.bind_some,hg];by_cases h3:th.1=3
 ·simp only[bne_eq_false_iff_eq.2 h3,cond_false,hraw,Option.bind_some,bne_self_eq_false,oF h,dH,hg,show dF th.2.1 0=some c from hc0,d8 hth,d8 hc0,f9 hil,mQ hil];exact Ok.ret ⟨_,_,_,_,rfl,h.set h.mem ⟨⟨show (0:Int)≤1 by decide,show (1:Int)≤4 by decide⟩,by dsimp only;rw[List.length_set];exact hok.len,gZ hok.regs hrawc,hok.pc,hok.count,hok.handler,hok.saved,hok.trap,hok.code⟩⟩
 ·simp only[bne_iff_ne.2 h3,cond_true];exact Ok.ret ⟨_,_,_,_,rfl,h⟩
structure iR (n:Int) (q:Nat) (code:List DIn) (ss:List Int) (dt:List (List Int)) (bs:List Int) (cs:List DCe) (ls:List DLn) (ts:List DTh) (ck rn:List Int) (ins:List (List Int)) (d:List (List DCn)) (os:List DOp) (us:List DOu) (ow:List Int) (qs:List (List Int)) (rec:List DEn) (js:List Int):Prop where
 prog:jL code ss dt
 mach:MOk n ss bs cs ls ts
 outs:vn ss ck rn ins d os us
 lock:g9 ow qs
 rlen:rec.length≤q
 jlen:js.length=4
def L3(n key:Int) (q:Nat) (code:List DIn) (ss:List Int) (dt:List (List Int)) (bs:List Int) (r:(List DIn)×(List (Int))×(List (List (Int)))×(List (Int))×Int×(List DCe)×(List DLn)×(List DTh)×(List (Int))×(List (Int))×(List (List (Int)))×(List (List DCn))×(List DOp)×(List DOu)×(List (Int))×(List (List (Int)))×(List DEn)×(List (Int))×Unit):Prop:=
 ∃cs ls ts ck rn ins d os us ow qs rec js,r=(code,ss,dt,bs,key,cs,ls,ts,ck,rn,ins,d,os,us,ow,qs,rec,js,())∧iR n q code ss dt bs cs ls ts ck rn ins d os us ow qs rec js
theorem E4{n:Int}{q:Nat}{code:List DIn}{ss:List Int}{dt:List (List Int)}{bs:List Int}{key:Int}{cs:List DCe}{ls:List DLn}{ts:List DTh}{ck rn:List Int}{ins:List (List Int)}{d:List (List DCn)}{os:List DOp}{us:List DOu}{ow:List Int}{qs:List (List Int)}{rec:List DEn}{js:List Int}{i v:Int}(h:iR n q code ss dt bs cs ls ts ck rn ins d os us ow qs rec js) (hn:n≤1099511627776) (hq:q≤900) (hv:W16 v) :
 Ok (ma i v code ss dt bs key cs ls ts ck rn ins d os us ow qs rec js) (L3 n key (q+1) code ss dt bs):=by
 unfold ma;rw[dO (x:=v) (by have:=hv.1;omega) (by have:=hv.2;omega)];obtain⟨v2,ev,hv2⟩:=fJ v true;simp only[ev,Option.bind_some];refine (Hh h.prog h.mach hn (jv hv2) ⟨by decide,dX⟩ (by decide)).bind ?_;rintro _ ⟨cs',ls',ts',b,rfl,hM⟩;dsimp only;have hr:=h.rlen;refine Ok.need (dN (by simp;omega)) ?_;exact Ok.ret ⟨_,_,_,_,_,_,_,_,_,_,_,_,_,rfl,h.prog,hM,h.outs,h.lock,by rw[eJ];simp;omega,h.jlen⟩
theorem CI{n:Int}{q:Nat}{code:List DIn}{ss:List Int}{dt:List (List Int)}{bs:List Int}{key:Int}{cs:List DCe}{ls:List DLn}{ts:List DTh}{ck rn:List Int}{ins:List (List Int)}{d:List (List DCn)}{os:List DOp}{us:List DOu}{ow:List Int}{qs:List (List Int)}{rec:List DEn}{js:List Int}{i v:Int}(h:iR n q code ss dt bs cs ls ts ck rn ins d os us ow qs rec js) (hn:n≤1099511627776) (hq:q≤900) (hv:W16 v) :
 Ok (iu i v code ss dt bs key cs ls ts ck rn ins d os us ow qs rec) fun r=>∃cs' ls' ts' rec',r=(code,ss,dt,bs,key,cs',ls',ts',ck,rn,ins,d,os,us,ow,qs,rec',())∧iR n (q+1) code ss dt bs cs' ls' ts' ck rn ins d os us ow qs rec' js:=by
 unfold iu;rw[dO (x:=v) (by have:=hv.1;omega) (by have:=hv.2;omega)];obtain⟨v2,ev,hv2⟩:=fJ v true;simp only[ev,Option.bind_some];refine (Hh h.prog h.mach hn (jv hv2) ⟨by decide,dX⟩ (by decide)).bind ?_;rintro _ ⟨cs',ls',ts',b,rfl,hM⟩;dsimp only;have hr:=h.rlen;refine Ok.need (dN (by simp;omega)) ?_;exact Ok.ret ⟨_,_,_,_,rfl,h.prog,hM,h.outs,h.lock,by rw[eJ];simp;omega,h.jlen⟩
def L6(n key:Int) (q:Nat) (code:List DIn) (ss:List Int) (dt:List (List Int)) (bs:List Int) (cs:List DCe) (ls:List DLn) (ts:List DTh) (rec:List DEn) (r:Int×Int×Int×Int×(List DCn)×Int×Bool×(List DIn)×(List (Int))×(List (List (Int)))×(List (Int))×Int×(List DCe)×(List DLn)×(List DTh)×(List (Int))×(List (Int))×(List (List (Int)))×(List (List DCn))×(List DOp)×(List DOu)×(List (Int))×(List (List (Int)))×(List DEn)×(List (Int))×Unit):Prop:=
 ∃t v rg o dat sp w ck rn ins d os us ow qs js,r=(t,v,rg,o,dat,sp,w,code,ss,dt,bs,key,cs,ls,ts,ck,rn,ins,d,os,us,ow,qs,rec,js,())∧iR n q code ss dt bs cs ls ts ck rn ins d os us ow qs rec js∧Pr ss (t,v,rg,o)∧(dat.length≤16∧∀c∈dat,Pr ss c)∧-1≤sp∧sp≤3
set_option maxHeartbeats 4000000 in
theorem Ea{n m:Int}{q:Nat}{code:List DIn}{ss:List Int}{dt:List (List Int)}{bs:List Int}{key:Int}{cs:List DCe}{ls:List DLn}{ts:List DTh}{ck rn:List Int}{ins:List (List Int)}{d:List (List DCn)}{os:List DOp}{us:List DOu}{ow:List Int}{qs:List (List Int)}{rec:List DEn}{js:List Int}{i:Nat}{trap count pc call:Int}{args data:List DCn}(h:iR n q code ss dt bs cs ls ts ck rn ins d os us ow qs rec js) (hi:i < 4) (hm:m≤1099511627776) (hR:wy m ss (i:Int) 1 trap count pc call args data) :
 Ok (ja (i:Int) 1 trap count pc call args data code ss dt bs key cs ls ts ck rn ins d os us ow qs rec js) (L6 n key q code ss dt bs cs ls ts rec):=by
 obtain⟨hk1,_⟩:=hR.hkind rfl;have htl:=h.mach.tlen;obtain⟨v0,ev0,hv0⟩:=fJ 0 true;obtain⟨v1,ev1,hv1⟩:=fJ 0 false;have nil16:([]:List DCn).length≤16∧∀c∈([]:List DCn),Pr ss c:=⟨by decide,dX⟩
 have fin:∀{v:Int} {w:Bool} {ow':List Int} {qs':List (List Int)} {js':List Int},W16 v→g9 ow' qs'→js'.length=4→Ok (some ((0:Int),v,(0:Int),(0:Int),([]:List DCn),(-1:Int),w,code,ss,dt,bs,key,cs,ls,ts,ck,rn,ins,d,os,us,ow',qs',rec,js',())) (L6 n key q code ss dt bs cs ls ts rec):=
  fun hv hl hj=>Ok.ret ⟨_,_,_,_,_,_,_,_,_,_,_,_,_,_,_,_,rfl,⟨h.prog,h.mach,h.outs,hl,h.rlen,hj⟩,jv hv,nil16,by decide,by decide⟩
 have hdo:KG call=true→Ok ((mJ ck rn ins d os us (i:Int) 1 trap count pc call args data).bind fun(x35,x36,x37,x38,x39,x40,x41,x42,x43,x44,x45,x46,x47,x48,_)=>some (x41,x42,x43,x44,x45,x46,x47,code,ss,dt,bs,key,cs,ls,ts,x35,x36,x37,x38,x39,x40,ow,qs,rec,js,())) (L6 n key q code ss dt bs cs ls ts rec):=by
  intro ha;refine (Ku h.prog.sz h.outs hR ha hm).bind ?_;rintro _ ⟨ck',rn',ins',d',os',us',t,v,rg,o,dat,rfl,hO,hv,hd1,hd2⟩;exact Ok.ret ⟨_,_,_,_,_,_,_,_,_,_,_,_,_,_,_,_,rfl,⟨h.prog,h.mach,hO,h.lock,h.rlen,h.jlen⟩,hv,⟨hd1,hd2⟩,by decide,by decide⟩
 have arg0:0 < (kB call).length→∃a,dF args 0=some a∧W16 a.2.1∧wk .i64 a.2.1=a.2.1:=fun hl=>by
  obtain⟨a,ha⟩:∃a,args[0]?=some a:=⟨_,List.getElem?_eq_getElem (by omega)⟩;have hva:=(hR.hargs.2 a (dK ha)).val;exact⟨a,ha,hva,dO (by have:=hva.1;omega) (by have:=hva.2;omega)⟩
 unfold ja;delta dJ
 try dsimp only
 rcases rY hR.hcall with rfl | rfl | rfl | rfl | rfl | rfl | rfl | rfl | rfl | rfl | rfl | rfl | rfl | rfl | rfl | rfl
 all_goals simp only[Int.reduceBEq,cond_true,cond_false,Option.bind_some,ev0,ev1]
 all_goals first
  | exact hdo rfl
  | exact fin hv0 h.lock h.jlen
  | skip
 ·obtain⟨a,ga,ha,wa⟩:=arg0 (by decide);simp only[ga,Option.bind_some,wa];refine (Jx h.lock (by omega)).bind ?_;rintro _ ⟨ow',qs',how,rfl,hl⟩;dsimp only;obtain⟨v,ev,hv⟩:=fJ 0 (how != 2);simp only[ev,Option.bind_some];exact fin hv hl h.jlen
 ·obtain⟨a,ga,ha,wa⟩:=arg0 (by decide);simp only[ga,Option.bind_some,wa];refine (Cf h.lock).bind ?_;rintro _ ⟨ow',qs',nx,b,rfl,hl,_⟩;dsimp only;obtain⟨v,ev,hv⟩:=fJ 0 b;simp only[ev,Option.bind_some];exact fin hv hl h.jlen
 ·obtain⟨y,e,hy⟩:=Ok.iter (f:=i9) (n:=NN) (s:=(ts,(ts.length:Int),0,code,ss,dt,bs,key,cs,ls,ts,ck,rn,ins,d,os,us,ow,qs,rec,js,0,0,0,0,(),0,false,()))
   (P:=fun s'=>∃k:Nat,s'=(ts,(ts.length:Int),(k:Int),code,ss,dt,bs,key,cs,ls,ts,ck,rn,ins,d,os,us,ow,qs,rec,js,0,0,0,0,(),0,false,())∧k≤4)
   (R:=fun y=>(∃v k,y=.inl (code,ss,dt,bs,key,cs,ls,ts,ck,rn,ins,d,os,us,ow,qs,rec,js,0,v,0,0,(),k,false,())∧W16 v∧0≤k∧k≤3)∨(∃a b c f,y=.inr (a,b,c,f,code,ss,dt,bs,key,cs,ls,ts,ck,rn,ins,d,os,us,ow,qs,rec,js,0,0,0,0,(),0,false,())))
   (m:=fun s'=>(s'.2.1 - s'.2.2.1).toNat) ⟨0,rfl,by omega⟩ (by unfold NN;dsimp only;omega) (by
    rintro _ ⟨k,rfl,hk⟩;unfold i9;dsimp only
    (with_reducible refine Ok.cb (fun hca=>?_) (fun hca=>?_))
    ·obtain⟨t,ht⟩:∃t,ts[k]?=some t:=⟨_,List.getElem?_eq_getElem (by omega)⟩;simp only[dH,Option.bind_some,show dF ts k=some t from ht]
     (with_reducible refine Ok.cb (fun hcb=>?_) (fun hcb=>?_))
     ·obtain⟨v,ev,hv⟩:=fJ (k:Int) true;simp only[ev,Option.bind_some];exact Ok.ret (.inl ⟨_,_,rfl,hv,by omega,by omega⟩)
     ·rw[dL (x:=(k:Int)+1) (by omega) (by omega)];exact Ok.ret ⟨⟨k+1,rfl,by omega⟩,by dsimp only;omega⟩
    ·exact Ok.ret (.inr ⟨_,_,_,_,rfl⟩))
  simp only[e];rcases hy with ⟨v,k,rfl,hv,k0,k3⟩ | ⟨a,b,c,f,rfl⟩
  ·exact Ok.ret ⟨_,_,_,_,_,_,_,_,_,_,_,_,_,_,_,_,rfl,⟨h.prog,h.mach,h.outs,h.lock,h.rlen,h.jlen⟩,jv hv,nil16,by omega,by omega⟩
  ·simp only[ev1,Option.bind_some];exact fin hv1 h.lock h.jlen
 ·obtain⟨a,ga,ha,wa⟩:=arg0 (by decide);simp only[ga,Option.bind_some,wa];obtain⟨j,hj⟩:∃j:Nat,a.2.1=j:=⟨a.2.1.toNat,by have:=ha.1;omega⟩;simp only[hj];by_cases h1:(j:Int)=i
  ·simp only[beq_iff_eq.2 h1,cond_true,Option.bind_some,ev1];exact fin hv1 h.lock h.jlen
  by_cases h2:(j:Int)≥4
  ·simp only[beq_eq_false_iff_ne.2 h1,decide_eq_true h2,cond_true,cond_false,Option.bind_some,ev1];exact fin hv1 h.lock h.jlen
  obtain⟨t,ht⟩:∃t,ts[j]?=some t:=⟨_,List.getElem?_eq_getElem (by omega)⟩;simp only[beq_eq_false_iff_ne.2 h1,decide_eq_false h2,cond_false,Option.bind_some,dH,show dF ts j=some t from ht]
  cases t.1==0 with
  | true=>
   simp only[cond_true,ev1,Option.bind_some];exact fin hv1 h.lock h.jlen
  | false=>
   simp only[cond_false,dH,Option.bind_some,show dF ts j=some t from ht]
   cases t.1==4 with
   | true=>
    obtain⟨v,ev,hv⟩:=fJ (wk .i64 t.2.2.2.2.2.2.2) true;simp only[cond_true,ev,Option.bind_some];exact fin hv h.lock h.jlen
   | false=>
    obtain⟨z,hz⟩:∃z,js[i]?=some z:=⟨_,List.getElem?_eq_getElem (by have:=h.jlen;omega)⟩;simp only[cond_false,show dF js i=some z from hz,Option.bind_some,ev0,d8 hz];exact fin hv0 h.lock (by rw[List.length_set];exact h.jlen)
theorem u4{n m:Int}{q:Nat}{code:List DIn}{ss:List Int}{dt:List (List Int)}{bs:List Int}{key:Int}{cs:List DCe}{ls:List DLn}{ts:List DTh}{ck rn:List Int}{ins:List (List Int)}{d:List (List DCn)}{os:List DOp}{us:List DOu}{ow:List Int}{qs:List (List Int)}{rec:List DEn}{js:List Int}{i:Nat}{trap count pc call:Int}{args data:List DCn}(h:iR n q code ss dt bs cs ls ts ck rn ins d os us ow qs rec js) (hi:i < 4) (hn:n≤1099511627776) (hm:m≤1099511627776) (hq:q≤800) (hR:wy m ss (i:Int) 1 trap count pc call args data) :
 Ok (iv (i:Int) 1 trap count pc call args data code ss dt bs key cs ls ts ck rn ins d os us ow qs rec js) (L3 n key (q+2) code ss dt bs):=by
 obtain⟨hk1,_⟩:=hR.hkind rfl;unfold iv;refine Ok.bind (P:=fun r=>∃nx,r=(nx,code,ss,dt,bs,key,cs,ls,ts,ck,rn,ins,d,os,us,ow,qs,rec,js,(i:Int),1,trap,count,pc,call,args,data,())) ?_ ?_
 ·by_cases h9:call=9
  ·subst h9;obtain⟨a,ha⟩:∃a,args[0]?=some a:=⟨_,List.getElem?_eq_getElem (by rw[hk1];decide)⟩;simp only[BEq.rfl,cond_true,show dF args 0=some a from ha,Option.bind_some];refine (Cf h.lock).bind ?_;rintro _ ⟨ow',qs',nx,b,rfl,hl,_⟩;exact Ok.ret ⟨nx,rfl⟩
  ·simp only[beq_eq_false_iff_ne.2 h9,cond_false];exact Ok.ret ⟨_,rfl⟩
 rintro _ ⟨nx,rfl⟩;dsimp only;refine (Ea h hi hm hR).bind ?_;rintro _ ⟨t,v,rg,o,dat,sp,w,ck',rn',ins',d',os',us',ow',qs',js',rfl,h2,hv,hd,hs1,hs2⟩;dsimp only;refine (Lv h.prog h.mach hi hn hm hR hv hd ⟨hs1,hs2⟩).bind ?_;rintro _ ⟨cs',ls',ts',b,rfl,hM⟩;dsimp only;have hr:=h.rlen;refine Ok.need (dN (by simp;omega)) ?_;have h3:∀e:DEn,iR n (q+1) code ss dt bs cs' ls' ts' ck' rn' ins' d' os' us' ow' qs' (List.append rec [e]) js':=fun e=>⟨h2.prog,hM,h2.outs,h2.lock,by rw[eJ];simp;omega,h2.jlen⟩
 (with_reducible refine Ok.cb (fun hca=>?_) (fun hca=>?_))
 ·refine (E4 (h3 _) hn (by omega) ⟨by decide,by decide⟩).bind ?_;rintro _ ⟨cs3,ls3,ts3,ck3,rn3,ins3,d3,os3,us3,ow3,qs3,rec3,js3,rfl,h4⟩;exact Ok.ret ⟨_,_,_,_,_,_,_,_,_,_,_,_,_,rfl,h4⟩
 ·have h4:=h3 (2,(i:Int),0,(i:Int),1,trap,count,pc,call,args,data,t,v,rg,o,dat,sp,w);exact Ok.ret ⟨_,_,_,_,_,_,_,_,_,_,_,_,_,rfl,h4.prog,h4.mach,h4.outs,h4.lock,by have:=h4.rlen;omega,h4.jlen⟩
theorem yV{n:Int}{q:Nat}{code:List DIn}{ss:List Int}{dt:List (List Int)}{bs:List Int}{key:Int}{cs:List DCe}{ls:List DLn}{ts:List DTh}{ck rn:List Int}{ins:List (List Int)}{d:List (List DCn)}{os:List DOp}{us:List DOu}{ow:List Int}{qs:List (List Int)}{rec:List DEn}{js:List Int}{i:Nat}(h:iR n q code ss dt bs cs ls ts ck rn ins d os us ow qs rec js) (hi:i < 4) (hn:n≤1099511627776) (hq:q≤800) :
 Ok (jb (i:Int) code ss dt bs key cs ls ts ck rn ins d os us ow qs rec js) (L3 n key (q+8) code ss dt bs):=by
 unfold jb;delta dJ
 try dsimp only
 refine (Ks h.lock).bind ?_;rintro _ ⟨ow',qs',nx,rfl,hl,hn4,hnx⟩;dsimp only
 refine Ok.loop (P:=fun s'=>∃k:Nat,∃cs ls ts rec,s'=((i:Int),(nx.length:Int),(k:Int),code,ss,dt,bs,key,cs,ls,ts,ck,rn,ins,d,os,us,ow',qs',rec,js,nx,())∧k≤nx.length∧iR n (q+k) code ss dt bs cs ls ts ck rn ins d os us ow' qs' rec js)
  (R:=fun r=>∃a b f cs ls ts rec,r=((i:Int),a,b,f,code,ss,dt,bs,key,cs,ls,ts,ck,rn,ins,d,os,us,ow',qs',rec,js,nx,())∧iR n (q+4) code ss dt bs cs ls ts ck rn ins d os us ow' qs' rec js) (m:=fun s'=>(s'.2.1 - s'.2.2.1).toNat)
  ⟨0,cs,ls,ts,rec,rfl,by omega,h.prog,h.mach,h.outs,hl,by have:=h.rlen;omega,h.jlen⟩ (by unfold NN;dsimp only;omega) ?_ ?_
 ·rintro _ ⟨k,cs2,ls2,ts2,rec2,rfl,hk,h2⟩;unfold nT;dsimp only
  (with_reducible refine Ok.cb (fun hca=>?_) (fun hca=>?_))
  ·obtain⟨x,hx⟩:∃x,nx[k]?=some x:=⟨_,List.getElem?_eq_getElem (by omega)⟩;simp only[dH,Option.bind_some,show dF nx k=some x from hx];refine (CI h2 hn (by omega) ⟨by decide,by decide⟩).bind ?_;rintro _ ⟨cs3,ls3,ts3,rec3,rfl,h3⟩;dsimp only;rw[dL (x:=(k:Int)+1) (by omega) (by omega)];exact Ok.ret ⟨⟨k+1,_,_,_,_,rfl,by omega,h3⟩,by dsimp only;omega⟩
  ·exact Ok.ret ⟨_,_,_,_,_,_,_,rfl,h2.prog,h2.mach,h2.outs,h2.lock,by have:=h2.rlen;omega,h2.jlen⟩
 rintro _ ⟨a,b,f,cs2,ls2,ts2,rec2,rfl,h2⟩;dsimp only
 refine Ok.loop (P:=fun s'=>∃k:Nat,∃cs ls ts rec js,s'=((i:Int),4,(k:Int),code,ss,dt,bs,key,cs,ls,ts,ck,rn,ins,d,os,us,ow',qs',rec,js,())∧k≤4∧iR n (q+4+k) code ss dt bs cs ls ts ck rn ins d os us ow' qs' rec js)
  (R:=fun r=>∃a b c f cs ls ts rec js,r=(a,b,c,f,code,ss,dt,bs,key,cs,ls,ts,ck,rn,ins,d,os,us,ow',qs',rec,js,())∧iR n (q+8) code ss dt bs cs ls ts ck rn ins d os us ow' qs' rec js) (m:=fun s'=>(s'.2.1 - s'.2.2.1).toNat)
  ⟨0,cs2,ls2,ts2,rec2,js,by rw[h.jlen];rfl,by omega,h2⟩ (by unfold NN;dsimp only;have:=h.jlen;omega) ?_ ?_
 ·rintro _ ⟨k,cs2,ls2,ts2,rec2,js2,rfl,hk,h2⟩;unfold nS;dsimp only
  (with_reducible refine Ok.cb (fun hca=>?_) (fun hca=>?_))
  ·obtain⟨x,hx⟩:∃x,js2[k]?=some x:=⟨_,List.getElem?_eq_getElem (by have:=h2.jlen;omega)⟩;obtain⟨t,ht⟩:∃t,ts2[i]?=some t:=⟨_,List.getElem?_eq_getElem (by have:=h2.mach.tlen;omega)⟩;have htc:=(h2.mach.thr t (dK ht)).code;simp only[dH,Option.bind_some,show dF js2 k=some x from hx,show dF ts2 i=some t from ht];refine Ok.bind (P:=fun r=>∃cs ls ts rec js,r=((i:Int),4,(k:Int),code,ss,dt,bs,key,cs,ls,ts,ck,rn,ins,d,os,us,ow',qs',rec,js,())∧iR n (q+4+(k+1)) code ss dt bs cs ls ts ck rn ins d os us ow' qs' rec js) ?_ ?_
   ·(with_reducible refine Ok.cb (fun hcb=>?_) (fun hcb=>?_))
    ·refine (CI h2 hn (by omega) htc).bind ?_;rintro _ ⟨cs3,ls3,ts3,rec3,rfl,h3⟩;simp only[dH,Option.bind_some,show dF js2 k=some x from hx,d8 hx];exact Ok.ret ⟨_,_,_,_,_,rfl,h3.prog,h3.mach,h3.outs,h3.lock,by have:=h3.rlen;omega,by rw[List.length_set];exact h3.jlen⟩
    ·exact Ok.ret ⟨_,_,_,_,_,rfl,h2.prog,h2.mach,h2.outs,h2.lock,by have:=h2.rlen;omega,h2.jlen⟩
   ·rintro _ ⟨cs3,ls3,ts3,rec3,js3,rfl,h3⟩;dsimp only;rw[dL (x:=(k:Int)+1) (by omega) (by omega)];exact Ok.ret ⟨⟨k+1,_,_,_,_,_,rfl,by omega,h3⟩,by dsimp only;omega⟩
  ·exact Ok.ret ⟨_,_,_,_,_,_,_,_,_,rfl,h2.prog,h2.mach,h2.outs,h2.lock,by have:=h2.rlen;omega,h2.jlen⟩
 ·rintro _ ⟨a,b,c,f,cs2,ls2,ts2,rec2,js2,rfl,h2⟩;exact Ok.ret ⟨_,_,_,_,_,_,_,_,_,_,_,_,_,rfl,h2⟩
def L7(n key:Int) (q:Nat) (code:List DIn) (ss:List Int) (dt:List (List Int)) (bs:List Int) (r:(List DIn)×(List (Int))×(List (List (Int)))×(List (Int))×Int×(List DCe)×(List DLn)×(List DTh)×(List (Int))×(List (Int))×(List (List (Int)))×(List (List DCn))×(List DOp)×(List DOu)×(List (Int))×(List (List (Int)))×(List DEn)×(List (Int))×Int×Unit):Prop:=
 (∃e,r=([],[],[],[],0,[],[],[],[],[],[],[],[],[],[],[],[],[],e,())∧e≠0)∨(∃cs ls ts ck rn ins d os us ow qs rec js,r=(code,ss,dt,bs,key,cs,ls,ts,ck,rn,ins,d,os,us,ow,qs,rec,js,0,())∧iR n q code ss dt bs cs ls ts ck rn ins d os us ow qs rec js)
theorem Cp{code:List DIn}{ss:List Int}{dt:List (List Int)}{bs:List Int}{key:Int}{cs:List DCe}{ls:List DLn}{ts:List DTh}{ck rn:List Int}{ins:List (List Int)}{d:List (List DCn)}{os:List DOp}{us:List DOu}{ow:List Int}{qs:List (List Int)}{rec:List DEn}{js:List Int}(h1:rec.length≤1000) (h2:js.length≤1000):jX code ss dt bs key cs ls ts ck rn ins d os us ow qs rec js=some (code,ss,dt,bs,key,cs,ls,ts,ck,rn,ins,d,os,us,ow,qs,rec,js,()):=by
 unfold jX;rw[dN (show 8≤1000∧0+js.length≤1000000 by omega),dN (show 184≤1000∧0+rec.length≤1000000 by omega)];rfl
set_option maxHeartbeats 4000000 in
theorem Gj{n:Int}{q:Nat}{code:List DIn}{ss:List Int}{dt:List (List Int)}{bs:List Int}{key:Int}{cs:List DCe}{ls:List DLn}{ts:List DTh}{ck rn:List Int}{ins:List (List Int)}{d:List (List DCn)}{os:List DOp}{us:List DOu}{ow:List Int}{qs:List (List Int)}{rec:List DEn}{js:List Int}{c1 c2:Int}{c3:Bool}(h:iR n q code ss dt bs cs ls ts ck rn ins d os us ow qs rec js) (hn0:0≤n) (hn:n+64≤1099511627776) (hq:q≤700) (hc1:KM c1) (hc2:KM c2) :
 Ok (mb code ss dt bs key cs ls ts ck rn ins d os us ow qs rec js c1 c2 c3) (L7 (n+64) key (q+12) code ss dt bs):=by
 have htl:=h.mach.tlen;have hr:=h.rlen;unfold mb;delta dJ;rw[H8 (by omega)];simp only[Option.bind_some];have hrl:=ph ts 0
 (with_reducible refine Ok.cb (fun hca=>?_) (fun hca=>?_))
 ·exact Ok.ret (.inl ⟨15,rfl,by decide⟩)
 (with_reducible refine Ok.cb (fun hcb=>?_) (fun hcb=>?_))
 ·exact Ok.ret (.inl ⟨3,rfl,by decide⟩)
 refine K9 hc1 (by omega) (by omega) fun v v0 v1=>?_;dsimp only;obtain⟨k,rfl⟩:∃k:Nat,v=k:=⟨v.toNat,by omega⟩;obtain⟨x,hx⟩:∃x,(eE ts 0)[k]?=some x:=⟨_,List.getElem?_eq_getElem (by omega)⟩;obtain⟨x0,x1,_⟩:=D4 (dK hx);obtain⟨i,rfl⟩:∃i:Nat,x=i:=⟨x.toNat,by omega⟩
 have hi:i < 4:=by omega
 simp only[dH,Option.bind_some,show dF (eE ts 0) k=some (i:Int) from hx];refine K9 hc2 (by decide) (by decide) fun u u0 u1=>?_;dsimp only;rw[dL (x:=1+u) (by omega) (by omega),Cp (by omega) (by have:=h.jlen;omega)]
 have hk:1≤1+u∧1+u≤64:=by omega
 generalize 1+u=kk at hk;simp only[Option.bind_some]
 cases c3 with
 | false=>
  simp only[cond_false];have h2:iR n (q+1) code ss dt bs cs ls ts ck rn ins d os us ow qs rec js:=⟨h.prog,h.mach,h.outs,h.lock,by omega,h.jlen⟩;have htl2:=h2.mach.tlen;refine (tU h2.prog h2.mach hn0 hn hi hk).bind ?_;rintro _ ⟨cs3,ls3,t3,stop,trap,call,args,data,rfl,hm3,hth3,hreq,hask,_⟩;dsimp only;have hr2:=h2.rlen;have hM3:=(h2.mach.mono (show n≤n+64 by omega)).set hm3 (i:=i) hth3;refine Ok.need (dN (by simp;omega)) ?_;refine Ok.bind (P:=fun r=>∃cs ls ts ck rn ins d os us ow qs rec js,r=((i:Int),(),(),(),(),0,(),(),(),(),(),(),(),(),(),(),(),(),(),code,ss,dt,bs,key,cs,ls,ts,ck,rn,ins,d,os,us,ow,qs,rec,js,())∧iR (n+64) (q+4) code ss dt bs cs ls ts ck rn ins d os us ow qs rec js) ?_ ?_
  ·by_cases hs1:stop=1
   ·subst hs1;simp only[BEq.rfl,cond_true];refine (u4 (q:=q+2) ⟨h2.prog,hM3,h2.outs,h2.lock,by rw[eJ];simp;omega,h2.jlen⟩ hi (by omega) hn (by omega) hreq).bind ?_;rintro _ ⟨cs4,ls4,ts4,ck4,rn4,ins4,d4,os4,us4,ow4,qs4,rec4,js4,rfl,h4⟩;exact Ok.ret ⟨_,_,_,_,_,_,_,_,_,_,_,_,_,rfl,h4⟩
   ·simp only[beq_eq_false_iff_ne.2 hs1,cond_false];exact Ok.ret ⟨_,_,_,_,_,_,_,_,_,_,_,_,_,rfl,h2.prog,hM3,h2.outs,h2.lock,by rw[eJ];simp;omega,h2.jlen⟩
  rintro _ ⟨cs,ls,ts,ck,rn,ins,d,os,us,ow,qs,rec,js,rfl,h5⟩;dsimp only;obtain⟨t5,ht5⟩:∃t5,ts[i]?=some t5:=⟨_,List.getElem?_eq_getElem (by have:=h5.mach.tlen;omega)⟩;simp only[dH,Option.bind_some,show dF ts i=some t5 from ht5];refine Ok.bind (P:=fun r=>∃cs ls ts ck rn ins d os us ow qs rec js,r=((),(),(),(),0,(),(),(),(),(),(),(),(),(),(),(),(),(),code,ss,dt,bs,key,cs,ls,ts,ck,rn,ins,d,os,us,ow,qs,rec,js,())∧iR (n+64) (q+12) code ss dt bs cs ls ts ck rn ins d os us ow qs rec js) ?_ ?_
  ·(with_reducible refine Ok.cb (fun hce=>?_) (fun hce=>?_))
   ·refine (yV h5 hi (by omega) (by omega)).bind ?_;rintro _ ⟨cs4,ls4,ts4,ck4,rn4,ins4,d4,os4,us4,ow4,qs4,rec4,js4,rfl,h4⟩;exact Ok.ret ⟨_,_,_,_,_,_,_,_,_,_,_,_,_,rfl,h4⟩
   ·exact Ok.ret ⟨_,_,_,_,_,_,_,_,_,_,_,_,_,rfl,h5.prog,h5.mach,h5.outs,h5.lock,by have:=h5.rlen;omega,h5.jlen⟩
  rintro _ ⟨cs,ls,ts,ck,rn,ins,d,os,us,ow,qs,rec,js,rfl,h6⟩;exact Ok.ret (.inr ⟨_,_,_,_,_,_,_,_,_,_,_,_,_,rfl,h6⟩)
 | true=>
  simp only[cond_true];obtain⟨⟨b,_⟩,eC,_⟩:=Jj (key:=key) h.mach (i:Int);simp only[eC,Option.bind_some]
  cases b with
  | false=>
   simp only[cond_false];have h2:iR n (q+1) code ss dt bs cs ls ts ck rn ins d os us ow qs rec js:=⟨h.prog,h.mach,h.outs,h.lock,by omega,h.jlen⟩;have htl2:=h2.mach.tlen;refine (tU h2.prog h2.mach hn0 hn hi hk).bind ?_;rintro _ ⟨cs3,ls3,t3,stop,trap,call,args,data,rfl,hm3,hth3,hreq,hask,_⟩;dsimp only;have hr2:=h2.rlen;have hM3:=(h2.mach.mono (show n≤n+64 by omega)).set hm3 (i:=i) hth3;refine Ok.need (dN (by simp;omega)) ?_;refine Ok.bind (P:=fun r=>∃cs ls ts ck rn ins d os us ow qs rec js,r=((i:Int),(),(),(),(),0,(),(),(),(),(),(),(),(),(),(),(),(),(),code,ss,dt,bs,key,cs,ls,ts,ck,rn,ins,d,os,us,ow,qs,rec,js,())∧iR (n+64) (q+4) code ss dt bs cs ls ts ck rn ins d os us ow qs rec js) ?_ ?_
   ·by_cases hs1:stop=1
    ·subst hs1;simp only[BEq.rfl,cond_true];refine (u4 (q:=q+2) ⟨h2.prog,hM3,h2.outs,h2.lock,by rw[eJ];simp;omega,h2.jlen⟩ hi (by omega) hn (by omega) hreq).bind ?_;rintro _ ⟨cs4,ls4,ts4,ck4,rn4,ins4,d4,os4,us4,ow4,qs4,rec4,js4,rfl,h4⟩;exact Ok.ret ⟨_,_,_,_,_,_,_,_,_,_,_,_,_,rfl,h4⟩
    ·simp only[beq_eq_false_iff_ne.2 hs1,cond_false];exact Ok.ret ⟨_,_,_,_,_,_,_,_,_,_,_,_,_,rfl,h2.prog,hM3,h2.outs,h2.lock,by rw[eJ];simp;omega,h2.jlen⟩
   rintro _ ⟨cs,ls,ts,ck,rn,ins,d,os,us,ow,qs,rec,js,rfl,h5⟩;dsimp only;obtain⟨t5,ht5⟩:∃t5,ts[i]?=some t5:=⟨_,List.getElem?_eq_getElem (by have:=h5.mach.tlen;omega)⟩;simp only[dH,Option.bind_some,show dF ts i=some t5 from ht5];refine Ok.bind (P:=fun r=>∃cs ls ts ck rn ins d os us ow qs rec js,r=((),(),(),(),0,(),(),(),(),(),(),(),(),(),(),(),(),(),code,ss,dt,bs,key,cs,ls,ts,ck,rn,ins,d,os,us,ow,qs,rec,js,())∧iR (n+64) (q+12) code ss dt bs cs ls ts ck rn ins d os us ow qs rec js) ?_ ?_
   ·(with_reducible refine Ok.cb (fun hce=>?_) (fun hce=>?_))
    ·refine (yV h5 hi (by omega) (by omega)).bind ?_;rintro _ ⟨cs4,ls4,ts4,ck4,rn4,ins4,d4,os4,us4,ow4,qs4,rec4,js4,rfl,h4⟩;exact Ok.ret ⟨_,_,_,_,_,_,_,_,_,_,_,_,_,rfl,h4⟩
    ·exact Ok.ret ⟨_,_,_,_,_,_,_,_,_,_,_,_,_,rfl,h5.prog,h5.mach,h5.outs,h5.lock,by have:=h5.rlen;omega,h5.jlen⟩
   rintro _ ⟨cs,ls,ts,ck,rn,ins,d,os,us,ow,qs,rec,js,rfl,h6⟩;exact Ok.ret (.inr ⟨_,_,_,_,_,_,_,_,_,_,_,_,_,rfl,h6⟩)
  | true=>
   obtain⟨_,eD,ts',b',rfl,hD⟩:=EG (key:=key) h.mach (i:Int);simp only[cond_true,eD,Option.bind_some];rw[dN (show 184≤1000∧rec.length + _≤1000000 by simp;omega)];simp only[cond_true];have h2:iR n (q+1) code ss dt bs cs ls ts' ck rn ins d os us ow qs (List.append rec [(3,(i:Int),0,0,0,0,0,0,0,[],[],0,0,0,0,[],0,false)]) js:=⟨h.prog,hD,h.outs,h.lock,by rw[eJ];simp;omega,h.jlen⟩;have htl2:=h2.mach.tlen;refine (tU h2.prog h2.mach hn0 hn hi hk).bind ?_;rintro _ ⟨cs3,ls3,t3,stop,trap,call,args,data,rfl,hm3,hth3,hreq,hask,_⟩;dsimp only;have hr2:=h2.rlen;have hM3:=(h2.mach.mono (show n≤n+64 by omega)).set hm3 (i:=i) hth3;refine Ok.need (dN (by simp;omega)) ?_;refine Ok.bind (P:=fun r=>∃cs ls ts ck rn ins d os us ow qs rec js,r=((i:Int),(),(),(),(),0,(),(),(),(),(),(),(),(),(),(),(),(),(),code,ss,dt,bs,key,cs,ls,ts,ck,rn,ins,d,os,us,ow,qs,rec,js,())∧iR (n+64) (q+4) code ss dt bs cs ls ts ck rn ins d os us ow qs rec js) ?_ ?_
   ·by_cases hs1:stop=1
    ·subst hs1;simp only[BEq.rfl,cond_true];refine (u4 (q:=q+2) ⟨h2.prog,hM3,h2.outs,h2.lock,by rw[eJ];simp;omega,h2.jlen⟩ hi (by omega) hn (by omega) hreq).bind ?_;rintro _ ⟨cs4,ls4,ts4,ck4,rn4,ins4,d4,os4,us4,ow4,qs4,rec4,js4,rfl,h4⟩;exact Ok.ret ⟨_,_,_,_,_,_,_,_,_,_,_,_,_,rfl,h4⟩
    ·simp only[beq_eq_false_iff_ne.2 hs1,cond_false];exact Ok.ret ⟨_,_,_,_,_,_,_,_,_,_,_,_,_,rfl,h2.prog,hM3,h2.outs,h2.lock,by rw[eJ];simp;omega,h2.jlen⟩
   rintro _ ⟨cs,ls,ts,ck,rn,ins,d,os,us,ow,qs,rec,js,rfl,h5⟩;dsimp only;obtain⟨t5,ht5⟩:∃t5,ts[i]?=some t5:=⟨_,List.getElem?_eq_getElem (by have:=h5.mach.tlen;omega)⟩;simp only[dH,Option.bind_some,show dF ts i=some t5 from ht5];refine Ok.bind (P:=fun r=>∃cs ls ts ck rn ins d os us ow qs rec js,r=((),(),(),(),0,(),(),(),(),(),(),(),(),(),(),(),(),(),code,ss,dt,bs,key,cs,ls,ts,ck,rn,ins,d,os,us,ow,qs,rec,js,())∧iR (n+64) (q+12) code ss dt bs cs ls ts ck rn ins d os us ow qs rec js) ?_ ?_
   ·(with_reducible refine Ok.cb (fun hce=>?_) (fun hce=>?_))
    ·refine (yV h5 hi (by omega) (by omega)).bind ?_;rintro _ ⟨cs4,ls4,ts4,ck4,rn4,ins4,d4,os4,us4,ow4,qs4,rec4,js4,rfl,h4⟩;exact Ok.ret ⟨_,_,_,_,_,_,_,_,_,_,_,_,_,rfl,h4⟩
    ·exact Ok.ret ⟨_,_,_,_,_,_,_,_,_,_,_,_,_,rfl,h5.prog,h5.mach,h5.outs,h5.lock,by have:=h5.rlen;omega,h5.jlen⟩
   rintro _ ⟨cs,ls,ts,ck,rn,ins,d,os,us,ow,qs,rec,js,rfl,h6⟩;exact Ok.ret (.inr ⟨_,_,_,_,_,_,_,_,_,_,_,_,_,rfl,h6⟩)
theorem Gt{l ss:List Int}{k:Int}(hs:vm ss) (h:DOk l k):Ok (lc ss l k) fun r=>∃bs key k',r=(bs,key,l,k',())∧LV bs ss∧W16 key∧DOk l k':=by
 unfold lc
 (with_reducible refine eY (by assumption) (by omega) (by omega) (fun v0 k0 a0 b0 d0=>?_);try dsimp only)
 refine (Ki hs a0 (by omega)).bind ?_;rintro _ ⟨key,rfl,hk⟩;exact Ok.ret ⟨_,_,_,rfl,Lx hs a0,hk,d0⟩
theorem K2{l:List Int}{k:Int}(h:DOk l k):Ok (pe l k) fun r=>∃code ss dt bs key cs ls ts ck rn ins d os us ow qs rec js k',r=(code,ss,dt,bs,key,cs,ls,ts,ck,rn,ins,d,os,us,ow,qs,rec,js,l,k',())∧W16 key∧iR 1152 216 code ss dt bs cs ls ts ck rn ins d os us ow qs rec js∧DOk l k':=by
 unfold pe;refine (D9 h).bind ?_;rintro _ ⟨code,ss,dt,k1,rfl,hp,h1⟩;dsimp only;refine (Gt hp.sz h1).bind ?_;rintro _ ⟨bs,key,k2,rfl,hL,hkey,h2⟩;dsimp only;refine (Ee hp.sz h2).bind ?_;rintro _ ⟨ck,rn,ins,d,os,k3,rfl,hO,h3⟩;dsimp only;refine (IS hp hL hO).bind ?_;rintro _ ⟨cs,ts,rfl,hM⟩;dsimp only
 (with_reducible refine eY (by assumption) (by omega) (by omega) (fun v4 k4 a4 b4 d4=>?_);try dsimp only)
 rw[dL (x:=3+v4) (by omega) (by omega)]
 obtain⟨y,e,hy⟩:=Ok.iter (f:=nn) (n:=NN) (s:=(3+v4,l,k4,(),(),(),(),0,(),(),(),(),(),(),(),(),(),(),(),(),(),code,ss,dt,bs,key,cs,eK,ts,ck,rn,ins,d,os,[],[-1,-1,-1,-1],[[],[],[],[]],[],[-1,-1,-1,-1],()))
  (P:=fun s'=>∃(c k':Int) (q:Nat),∃cs ls ts ck rn ins d os us ow qs rec js,s'=(c,l,k',(),(),(),(),0,(),(),(),(),(),(),(),(),(),(),(),(),(),code,ss,dt,bs,key,cs,ls,ts,ck,rn,ins,d,os,us,ow,qs,rec,js,())∧0≤c∧c+q≤18∧DOk l k'∧iR (64*q) (12*q) code ss dt bs cs ls ts ck rn ins d os us ow qs rec js)
  (R:=fun y=>(∃(c k':Int) (f:Bool) (q:Nat),∃cs ls ts ck rn ins d os us ow qs rec js z1 z2 z3 z4 z5 z6 z7 z8 z9 z10 z11 z12 z13 z14 z15 z16 z17 z18,y=.inl (c,f,l,k',(),(),(),(),0,(),(),(),(),(),(),(),(),(),(),(),(),(),code,ss,dt,bs,key,cs,ls,ts,ck,rn,ins,d,os,us,ow,qs,rec,js,z1,z2,z3,z4,z5,z6,z7,z8,z9,z10,z11,z12,z13,z14,z15,z16,z17,z18,())∧q≤18∧DOk l k'∧iR (64*q) (12*q) code ss dt bs cs ls ts ck rn ins d os us ow qs rec js) ∨
   (∃(c k':Int) (f:Bool) (q:Nat),∃cs ls ts ck rn ins d os us ow qs rec js,y=.inr (c,f,l,k',(),(),(),(),0,(),(),(),(),(),(),(),(),(),(),(),(),(),code,ss,dt,bs,key,cs,ls,ts,ck,rn,ins,d,os,us,ow,qs,rec,js,())∧q≤18∧DOk l k'∧iR (64*q) (12*q) code ss dt bs cs ls ts ck rn ins d os us ow qs rec js)) (m:=fun s'=>s'.1.toNat)
  ⟨3+v4,k4,0,_,_,_,_,_,_,_,_,_,_,_,_,_,rfl,by omega,by omega,d4,hp,by simpa using hM,hO,La,by simp,rfl⟩ (by unfold NN;dsimp only;omega) (by
   rintro _ ⟨c,k',q,cs,ls,ts,ck,rn,ins,d,os,us,ow,qs,rec,js,rfl,hc0,hcq,hd,hR⟩;unfold nn;dsimp only
   (with_reducible refine Ok.cb (fun hca=>?_) (fun hca=>?_))
   ·refine (GZ hd).bind ?_;rintro _ ⟨t,b,s,k5,rfl,t0,t1,b0,b1,hd5⟩;dsimp only;refine (Gj hR (by omega) (by omega) (by omega) ⟨by omega,by omega⟩ ⟨by omega,by omega⟩).bind ?_;rintro _ (⟨e,rfl,he⟩ | ⟨cs2,ls2,ts2,ck2,rn2,ins2,d2,os2,us2,ow2,qs2,rec2,js2,rfl,hR2⟩)
    ·dsimp only;rw[bne_iff_ne.2 he];exact Ok.ret (.inl ⟨_,_,_,q,_,_,_,_,_,_,_,_,_,_,_,_,_,_,_,_,_,_,_,_,_,_,_,_,_,_,_,_,_,_,_,rfl,by omega,hd5,hR⟩)
    ·dsimp only;rw[dL (x:=c - 1) (by omega) (by omega)];refine Ok.ret ⟨⟨_,_,q+1,_,_,_,_,_,_,_,_,_,_,_,_,_,rfl,by omega,by omega,hd5,?_⟩,by dsimp only;omega⟩;rw[show 64*((q+1:Nat):Int)=64*(q:Int)+64 by omega,show 12*(q+1)=12*q+12 by omega];exact hR2
   ·exact Ok.ret (.inr ⟨_,_,_,q,_,_,_,_,_,_,_,_,_,_,_,_,_,rfl,by omega,hd,hR⟩))
 rw[e];have fin:∀{q:Nat} {cs ls ts ck rn ins d os us ow qs rec js},q≤18→iR (64*q) (12*q) code ss dt bs cs ls ts ck rn ins d os us ow qs rec js→iR 1152 216 code ss dt bs cs ls ts ck rn ins d os us ow qs rec js:=fun hq hR=>⟨hR.prog,hR.mach.mono (by omega),hR.outs,hR.lock,by have:=hR.rlen;omega,hR.jlen⟩;rcases hy with ⟨c,k',f,q,cs,ls,ts,ck,rn,ins,d,os,us,ow,qs,rec,js,z1,z2,z3,z4,z5,z6,z7,z8,z9,z10,z11,z12,z13,z14,z15,z16,z17,z18,rfl,hq,hd,hR⟩ | ⟨c,k',f,q,cs,ls,ts,ck,rn,ins,d,os,us,ow,qs,rec,js,rfl,hq,hd,hR⟩
 ·exact Ok.ret ⟨_,_,_,_,_,_,_,_,_,_,_,_,_,_,_,_,_,_,_,rfl,hkey,fin hq hR,hd⟩
 ·exact Ok.ret ⟨_,_,_,_,_,_,_,_,_,_,_,_,_,_,_,_,_,_,_,rfl,hkey,fin hq hR,hd⟩
def K3(bs ss:List Int) (key:Int) (cs:List DCe) (ls:List DLn) (r o:Nat):DCn:=pO bs ss key (BI cs ls (bs.getD r 0+o))
def J9(bs ss:List Int) (key:Int) (cs:List DCe) (ls:List DLn) (r:Nat):List DCn:=(List.range (ss.getD r 0).toNat).map (K3 bs ss key cs ls r)
def Bn(bs ss:List Int) (key:Int) (cs:List DCe) (ls:List DLn):List (List DCn):=(List.range ss.length).map (J9 bs ss key cs ls)
def rz(bs ss:List Int) (key:Int) (t:DTh):DTs:=(t.1,t.2.2.1,t.2.2.2.1,t.2.2.2.2.1,t.2.2.2.2.2.1,t.2.2.2.2.2.2.1,t.2.2.2.2.2.2.2,t.2.1.map (pO bs ss key))
theorem LV.at_{bs ss:List Int}(h:LV bs ss) {r:Nat}(hr:r < ss.length):∃b z,bs[r]?=some b∧ss[r]?=some z∧1≤z∧z≤32∧0≤b∧b+z≤512:=by
 obtain⟨hs,hl,hg⟩:=h;obtain⟨b,hb⟩:∃b,bs[r]?=some b:=⟨_,List.getElem?_eq_getElem (by omega)⟩;obtain⟨z,hz⟩:∃z,ss[r]?=some z:=⟨_,List.getElem?_eq_getElem (by omega)⟩;have h1:=hg r (by omega);unfold tA at h1;rw[ej hb,ej hz] at h1;have h2:=hs.2.2 z (dK hz);exact⟨b,z,hb,hz,h2.1,h2.2,h1.1,h1.2.1⟩
theorem D3{K:Int→Prop}{bs ss:List Int}{key:Int}{cs:List DCe}{ls:List DLn}(h:LV bs ss) (hm:jJ K cs ls):jm cs ls bs key ss=some (Bn bs ss key cs ls,()):=by
 have hs4:=h.1.2.1
 have e0:∀(r:Nat) (b z:Int),bs[r]?=some b→ss[r]?=some z→1≤z→z≤32→0≤b→b+z≤512→∀(a1 a2 a3:_) (out:List (List DCn)),dQ fN NN (ss,(r:Int),a1,a2,a3,z,0,cs,ls,bs,key,out,[],())=some (ss,(r:Int),a1,a2,a3,z,z,false,cs,ls,bs,key,out,J9 bs ss key cs ls r,()):=by
  intro r b z hb hz z1 z32 b0 bz a1 a2 a3 out;obtain⟨n,rfl⟩:∃n:Nat,z=n:=⟨z.toNat,by omega⟩
  have e:J9 bs ss key cs ls r=(List.range n).map (K3 bs ss key cs ls r):=by unfold J9;rw[ej hz,Int.toNat_natCast]
  rw[e];refine mH (f:=fN) (N:=NN) (st:=fun o=>(ss,(r:Int),a1,a2,a3,(n:Int),(o:Int),cs,ls,bs,key,out,(List.range o).map (K3 bs ss key cs ls r),())) (n:=n) (by unfold NN;omega) ?_ ?_
  ·intro o ho;unfold fN;dsimp only;rw[decide_eq_true (show (o:Int) < n by omega),dH];simp only[cond_true,Option.bind_some,show dF bs r=some b from hb];rw[dL (x:=b+o) (by omega) (by omega)];obtain⟨hlk,hlv⟩:=xE (a:=b+o) hm ⟨by omega,by omega⟩;rw[hlk];simp only[Option.bind_some];rw[py h hlv];simp only[Option.bind_some];refine Ok.need (dN (by simp;omega)) ?_;rw[dL (x:=(o:Int)+1) (by omega) (by omega)];refine Ok.ret ?_;rw[← mD];unfold K3;rw[ej hb];rfl
  ·unfold fN;dsimp only;rw[decide_eq_false (show ¬ (n:Int) < n by omega)];exact Ok.ret rfl
 have e1:dQ fM NN (ss,ss,(ss.length:Int),0,cs,ls,bs,key,[],())=some (ss,ss,(ss.length:Int),(ss.length:Int),false,cs,ls,bs,key,Bn bs ss key cs ls,()):=by
  refine mH (f:=fM) (N:=NN) (st:=fun r=>(ss,ss,(ss.length:Int),(r:Int),cs,ls,bs,key,(List.range r).map (J9 bs ss key cs ls),())) (n:=ss.length) (by unfold NN;omega) ?_ ?_
  ·intro r hr;obtain⟨b,z,hb,hz,z1,z32,b0,bz⟩:=h.at_ hr;unfold fM;dsimp only;rw[decide_eq_true (show (r:Int) < ss.length by omega),dH];simp only[cond_true,Option.bind_some,show dF ss r=some z from hz];rw[e0 r b z hb hz z1 z32 b0 bz];simp only[Option.bind_some];refine Ok.need (dN (by simp;omega)) ?_;rw[dL (x:=(r:Int)+1) (by omega) (by omega)];refine Ok.ret ?_;rw[← mD];rfl
  ·unfold fM;dsimp only;rw[decide_eq_false (show ¬ (ss.length:Int) < ss.length by omega)];exact Ok.ret rfl
 unfold jm;delta dJ
 try dsimp only
 rw[e1];rfl
theorem Hx{n key:Int}{code:List DIn}{dt:List (List Int)}{bs ss:List Int}{cs:List DCe}{ls:List DLn}{ts:List DTh}(h:MOk n ss bs cs ls ts):kS code ss dt bs key cs ls ts=some (Bn bs ss key cs ls,ts.map (rz bs ss key),()):=by
 have h4:=h.tlen
 have e1:dQ gw NN (ts,(ts.length:Int),0,code,ss,dt,bs,key,cs,ls,ts,(),(),Bn bs ss key cs ls,[],())=some (ts,(ts.length:Int),(ts.length:Int),false,code,ss,dt,bs,key,cs,ls,ts,(),(),Bn bs ss key cs ls,ts.map (rz bs ss key),()):=by
  have:=mH (f:=gw) (N:=NN) (st:=fun r=>(ts,(ts.length:Int),(r:Int),code,ss,dt,bs,key,cs,ls,ts,(),(),Bn bs ss key cs ls,(ts.take r).map (rz bs ss key),())) (n:=ts.length) (t:=(ts,(ts.length:Int),(ts.length:Int),false,code,ss,dt,bs,key,cs,ls,ts,(),(),Bn bs ss key cs ls,ts.map (rz bs ss key),())) (by unfold NN;omega) ?_ ?_
  ·exact this
  ·intro r hr;obtain⟨t,ht⟩:∃t,ts[r]?=some t:=⟨_,List.getElem?_eq_getElem (by omega)⟩;have hok:=h.thr t (dK ht);have h8:=hok.len;unfold gw;delta dJ;dsimp only;rw[decide_eq_true (show (r:Int) < ts.length by omega),dH];simp only[cond_true,Option.bind_some,show dF ts r=some t from ht]
   have e0:∀(a1 a2 a3 a4 a5 a6 a7 a8 a9 a10 a11 a12 a13 a14:_),dQ gy NN (ts,(ts.length:Int),(r:Int),t.2.1,(t.2.1.length:Int),0,code,ss,dt,bs,key,cs,ls,ts,(),(),Bn bs ss key cs ls,(ts.take r).map (rz bs ss key),a1,t.2.1,a2,a3,a4,a5,a6,a7,a8,a9,a10,a11,a12,a13,a14,[],()) =
    some (ts,(ts.length:Int),(r:Int),t.2.1,(t.2.1.length:Int),(t.2.1.length:Int),false,code,ss,dt,bs,key,cs,ls,ts,(),(),Bn bs ss key cs ls,(ts.take r).map (rz bs ss key),a1,t.2.1,a2,a3,a4,a5,a6,a7,a8,a9,a10,a11,a12,a13,a14,t.2.1.map (pO bs ss key),()):=by
    intro a1 a2 a3 a4 a5 a6 a7 a8 a9 a10 a11 a12 a13 a14
    have:=mH (f:=gy) (N:=NN) (st:=fun o=>(ts,(ts.length:Int),(r:Int),t.2.1,(t.2.1.length:Int),(o:Int),code,ss,dt,bs,key,cs,ls,ts,(),(),Bn bs ss key cs ls,(ts.take r).map (rz bs ss key),a1,t.2.1,a2,a3,a4,a5,a6,a7,a8,a9,a10,a11,a12,a13,a14,(t.2.1.take o).map (pO bs ss key),())) (n:=t.2.1.length)
     (t:=(ts,(ts.length:Int),(r:Int),t.2.1,(t.2.1.length:Int),(t.2.1.length:Int),false,code,ss,dt,bs,key,cs,ls,ts,(),(),Bn bs ss key cs ls,(ts.take r).map (rz bs ss key),a1,t.2.1,a2,a3,a4,a5,a6,a7,a8,a9,a10,a11,a12,a13,a14,t.2.1.map (pO bs ss key),())) (by unfold NN;omega) ?_ ?_
    ·exact this
    ·intro o ho;obtain⟨c,hc⟩:∃c,t.2.1[o]?=some c:=⟨_,List.getElem?_eq_getElem ho⟩;unfold gy;dsimp only;rw[decide_eq_true (show (o:Int) < t.2.1.length by omega),dH];simp only[cond_true,Option.bind_some,show dF t.2.1 o=some c from hc];rw[py h.lay (hok.regs c (dK hc))];simp only[Option.bind_some];refine Ok.need (dN (by simp;omega)) ?_;rw[dL (x:=(o:Int)+1) (by omega) (by omega)];refine Ok.ret ?_;rw[← gp (pO bs ss key) hc];rfl
    ·unfold gy;dsimp only;rw[decide_eq_false (show ¬ (t.2.1.length:Int) < t.2.1.length by omega),List.take_length];exact Ok.ret rfl
   rw[e0];simp only[Option.bind_some];refine Ok.need (dN (by simp;omega)) ?_;rw[dL (x:=(r:Int)+1) (by omega) (by omega)];refine Ok.ret ?_;rw[← gp (rz bs ss key) ht];rfl
  ·unfold gw;dsimp only;rw[decide_eq_false (show ¬ (ts.length:Int) < ts.length by omega),List.take_length];exact Ok.ret rfl
 unfold kS;delta dJ;simp only[D3 h.lay h.mem,Option.bind_some];rw[e1];rfl
structure L1 (n:Int) (ss:List Int) (v:DTs):Prop where
 state:0≤v.1∧v.1≤4
 pc:0≤v.2.1∧v.2.1≤255
 count:0≤v.2.2.1∧v.2.2.1≤n
 handler:-1≤v.2.2.2.1∧v.2.2.2.1≤255
 saved:-1≤v.2.2.2.2.1∧v.2.2.2.2.1≤255
 trap:0≤v.2.2.2.2.2.1∧v.2.2.2.2.2.1≤6
 code:W16 v.2.2.2.2.2.2.1
 len:v.2.2.2.2.2.2.2.length=8
 regs:∀c∈v.2.2.2.2.2.2.2,Pr ss c
structure zj (n:Int) (ss:List Int) (rg:List (List DCn)) (vs:List DTs):Prop where
 rlen:rg.length=ss.length
 fit:∀(j:Nat) x z,rg[j]?=some x→ss[j]?=some z→(x.length:Int)=z
 cells:∀x∈rg,∀c∈x,Pr ss c
 vlen:vs.length=4
 views:∀v∈vs,L1 n ss v
theorem Hw{n key:Int}{bs ss:List Int}{cs:List DCe}{ls:List DLn}{ts:List DTh}(h:MOk n ss bs cs ls ts):zj n ss (Bn bs ss key cs ls) (ts.map (rz bs ss key)):=by
 refine⟨by unfold Bn;simp,fun j x z hx hz=>?_,fun x hx c hc=>?_,by rw[List.length_map];exact h.tlen,fun v hv=>?_⟩
 ·unfold Bn at hx;rw[List.getElem?_map,List.getElem?_range (List.getElem?_eq_some_iff.1 hz).1] at hx
  injection hx with hx
  subst hx;have:=(h.lay.1.2.2 z (dK hz)).1;unfold J9;rw[List.length_map,List.length_range,ej hz];omega
 ·unfold Bn at hx;obtain⟨r,hr,rfl⟩:=List.mem_map.1 hx;have hr:=List.mem_range.1 hr;obtain⟨b,z,hb,hz,z1,z32,b0,bz⟩:=h.lay.at_ hr;unfold J9 at hc;obtain⟨o,ho,rfl⟩:=List.mem_map.1 hc;have ho:=List.mem_range.1 ho;rw[ej hz] at ho;unfold K3;rw[ej hb];exact ze h.lay (xE (a:=b+o) h.mem ⟨by omega,by omega⟩).2
 ·obtain⟨t,ht,rfl⟩:=List.mem_map.1 hv;have hok:=h.thr t ht;refine⟨hok.state,hok.pc,hok.count,hok.handler,hok.saved,hok.trap,hok.code,by unfold rz;dsimp only;rw[List.length_map];exact hok.len,fun c hc=>?_⟩;unfold rz at hc;dsimp only at hc;obtain⟨c',hc',rfl⟩:=List.mem_map.1 hc;exact ze h.lay (hok.regs c' hc')
theorem Fa{l:List Int}(h:∀x∈l,1≤x∧x≤32):(l.length:Int)≤l.sum∧l.sum≤32*l.length:=by
 induction l with
 | nil=>simp
 | cons a l ih=>
  have h1:=h a (by simp);have h2:=ih fun x hx=>h x (by simp[hx]);rw[List.sum_cons,List.length_cons];omega
theorem Kt{l:List Int}{k:Nat}{x:Int}(h:l[k]?=some x):l.drop k=x :: l.drop (k+1):=by
 obtain⟨hk,rfl⟩:=List.getElem?_eq_some_iff.1 h;exact List.drop_eq_getElem_cons hk
theorem Ht{ss:List Int}(h:vm ss):la ss=some (ss.sum,()):=by
 have e:dQ gE NN (0,ss,(ss.length:Int),0,())=some (ss.sum,ss,(ss.length:Int),(ss.length:Int),false,()):=by
  have:=mH (f:=gE) (N:=NN) (st:=fun k=>((ss.take k).sum,ss,(ss.length:Int),(k:Int),())) (n:=ss.length) (t:=(ss.sum,ss,(ss.length:Int),(ss.length:Int),false,())) (by unfold NN;have:=h.2.1;omega) ?_ ?_
  ·exact this
  ·intro k hk;obtain⟨x,hx⟩:∃x,ss[k]?=some x:=⟨_,List.getElem?_eq_getElem hk⟩;have hx2:=h.2.2 x (dK hx);have hb:=Fa (l:=ss.take k) fun y hy=>h.2.2 y (List.mem_of_mem_take hy);have hl:=h.2.1;rw[List.length_take] at hb;unfold gE;dsimp only;rw[decide_eq_true (show (k:Int) < ss.length by omega),dH];simp only[cond_true,Option.bind_some,show dF ss k=some x from hx];rw[dL (x:=(ss.take k).sum+x) (by omega) (by omega),dL (x:=(k:Int)+1) (by omega) (by omega)];refine Ok.ret ?_;rw[show ss.take (k+1)=ss.take k++[x] by rw[List.take_add_one,hx];rfl];simp
  ·unfold gE;dsimp only;rw[decide_eq_false (show ¬ (ss.length:Int) < ss.length by omega),List.take_length];exact Ok.ret rfl
 unfold la;delta dJ
 try dsimp only
 rw[e];rfl
theorem L0{ss:List Int}{i:Int}(h:vm ss) (h0:0≤i) (h1:i < ss.sum):Ok (pd ss i) fun r=>∃rg o,r=(rg,o,0,())∧0≤rg∧∃n,ss[rg.toNat]?=some n∧0≤o∧o < n:=by
 have hl:=h.2.1;unfold pd;delta dJ
 try dsimp only
 obtain⟨y,e,rg,o,rfl,hy⟩:=Ok.iter (f:=ni) (n:=NN) (s:=(i,ss,(ss.length:Int),0,0,0,())) (P:=fun s'=>∃(k:Nat) (i':Int),s'=(i',ss,(ss.length:Int),(k:Int),0,0,())∧k≤ss.length∧0≤i'∧i' < (ss.drop k).sum∧i'≤1000)
  (R:=fun y=>∃rg o,y=.inl (0,rg,o,())∧0≤rg∧∃n,ss[rg.toNat]?=some n∧0≤o∧o < n) (m:=fun s'=>(s'.2.2.1 - s'.2.2.2.1).toNat) ⟨0,i,rfl,by omega,h0,h1,by have:=(Fa h.2.2).2;omega⟩ (by unfold NN;dsimp only;omega) (by
   rintro _ ⟨k,i',rfl,hk,i0,i1,i2⟩;unfold ni;dsimp only;by_cases hkl:k=ss.length
   ·subst hkl;rw[List.drop_length] at i1;simp at i1;omega
   obtain⟨x,hx⟩:∃x,ss[k]?=some x:=⟨_,List.getElem?_eq_getElem (by omega)⟩;have hx2:=h.2.2 x (dK hx);rw[Kt hx,List.sum_cons] at i1;rw[decide_eq_true (show (k:Int) < ss.length by omega),dH];simp only[cond_true,Option.bind_some,show dF ss k=some x from hx];rw[decide_eq_true (show i'≥0 from i0)];by_cases hlt:i' < x
   ·rw[decide_eq_true hlt];exact Ok.ret ⟨_,_,rfl,by omega,x,by rw[Int.toNat_natCast];exact hx,i0,hlt⟩
   ·rw[decide_eq_false hlt];simp only[cond_true,cond_false];rw[dL (x:=i' - x) (by omega) (by omega),dL (x:=(k:Int)+1) (by omega) (by omega)]
    exact Ok.ret ⟨⟨k+1,_,rfl,by omega,by omega,by omega,by omega⟩,by dsimp only;omega⟩)
 rw[e];exact Ok.ret ⟨rg,o,rfl,hy⟩
theorem Dw{ss l:List Int}{k:Int}(hs:vm ss) (h:DOk l k):Ok (kz ss l k) fun r=>∃t v rg o k',r=(t,v,rg,o,l,k',())∧Pr ss (t,v,rg,o)∧DOk l k':=by
 unfold kz
 (with_reducible refine eY (by assumption) (by omega) (by omega) (fun v0 k0 a0 b0 d0=>?_);try dsimp only)
 rw[Ht hs];simp only[Option.bind_some];have hb:=Fa hs.2.2;have h1:=hs.1;have h4:=hs.2.1
 (with_reducible refine Ok.cb (fun hca=>?_) (fun hca=>?_))
 ·(with_reducible refine eY (by assumption) (by omega) (by omega) (fun v1 k1 a1 b1 d1=>?_);try dsimp only)
  refine (L0 hs a1 b1).bind ?_;rintro _ ⟨rg,o,rfl,g1,n,g2,g3,g4⟩;exact Ok.ret ⟨_,_,_,_,_,rfl,.inr ⟨rfl,rfl,g1,n,g2,g3,g4⟩,d1⟩
 (with_reducible refine Ok.cb (fun hcb=>?_) (fun hcb=>?_))
 ·(with_reducible refine eY (by assumption) (by omega) (by omega) (fun v2 k2 a2 b2 d2=>?_);try dsimp only)
  exact Ok.ret ⟨_,_,_,_,_,rfl,Jd (lB _),d2⟩
 ·(with_reducible refine CH (by assumption) (fun v3 k3 a3 b3 d3=>?_);try dsimp only)
  exact Ok.ret ⟨_,_,_,_,_,rfl,jv ⟨by omega,by omega⟩,d3⟩
def vx(v:DTs):List DCn:=v.2.2.2.2.2.2.2
def thF(bs:List Int) (key:Int) (v:DTs):DTh:=(v.1,(vx v).map (wO bs key),v.2.1,v.2.2.1,v.2.2.2.1,v.2.2.2.2.1,v.2.2.2.2.2.1,v.2.2.2.2.2.2.1)
theorem zn{n:Int}{ss:List Int}{vs:List DTs}(hs:vm ss) (hl:vs.length=4) (h:∀v∈vs,L1 n ss v) (hn:n≤1099511627776):jh vs=some (true,()):=by
 have e:dQ fL NN (vs,vs,(vs.length:Int),0,())=some (.inr (vs,vs,(vs.length:Int),(vs.length:Int),false,())):=by
  refine mH (f:=fL) (N:=NN) (st:=fun k=>(vs,vs,(vs.length:Int),(k:Int),())) (n:=vs.length) (by unfold NN;omega) ?_ ?_
  ·intro k hk;obtain⟨v,hv⟩:∃v,vs[k]?=some v:=⟨_,List.getElem?_eq_getElem hk⟩;obtain⟨⟨a1,a2⟩,⟨b1,b2⟩,⟨c1,c2⟩,⟨d1,d2⟩,⟨e1,e2⟩,⟨f1,f2⟩,_,hl8,hr⟩:=h v (dK hv);unfold fL;delta dJ;dsimp only;rw[decide_eq_true (show (k:Int) < vs.length by omega),dH];simp only[cond_true,Option.bind_some,show dF vs k=some v from hv];rw[decide_eq_true (show v.1≥0 from a1),decide_eq_true a2,decide_eq_true (show v.2.1≥0 from b1),decide_eq_true b2,decide_eq_true (show v.2.2.1≥0 from c1),decide_eq_true (show v.2.2.1≤1099511627776 by omega),decide_eq_true (show v.2.2.2.1≥-1 from d1),decide_eq_true d2,decide_eq_true (show v.2.2.2.2.1≥-1 from e1),decide_eq_true e2,decide_eq_true (show v.2.2.2.2.2.1≥0 from f1),decide_eq_true f2];simp only[cond_true,cond_false,Option.bind_some,Bool.not_true];rw[hl8,i3 (n:=8) hs hr (by omega) (by omega)];simp only[show (((8:Nat):Int) != 8)=false from rfl,cond_false,Option.bind_some,Bool.not_true];rw[dL (x:=(k:Int)+1) (by omega) (by omega)];exact Ok.ret rfl
  ·unfold fL;dsimp only;rw[decide_eq_false (show ¬ (vs.length:Int) < vs.length by omega)];exact Ok.ret rfl
 unfold jh;delta dJ;dsimp only;rw[e];dsimp only;rw[hl];rfl
theorem DM{n:Int}{code:List DIn}{ss:List Int}{dt:List (List Int)}{rg:List (List DCn)}{vs:List DTs}(hp:jL code ss dt) (h:zj n ss rg vs) (hn:n≤1099511627776):kR code ss dt rg vs=some (true,()):=by
 have h4:=hp.sz.2.1;have hl:=h.rlen
 have e:dQ gv NN (rg,(rg.length:Int),0,code,ss,dt,rg,vs,())=some (.inr (rg,(rg.length:Int),(rg.length:Int),false,code,ss,dt,rg,vs,())):=by
  refine mH (f:=gv) (N:=NN) (st:=fun k=>(rg,(rg.length:Int),(k:Int),code,ss,dt,rg,vs,())) (n:=rg.length) (by unfold NN;omega) ?_ ?_
  ·intro k hk;obtain⟨x,hx⟩:∃x,rg[k]?=some x:=⟨_,List.getElem?_eq_getElem hk⟩;obtain⟨z,hz⟩:∃z,ss[k]?=some z:=⟨_,List.getElem?_eq_getElem (by omega)⟩;have hf:=h.fit k x z hx hz;have hz2:=hp.sz.2.2 z (dK hz);unfold gv;delta dJ;dsimp only;rw[decide_eq_true (show (k:Int) < rg.length by omega),dH];simp only[cond_true,Option.bind_some,show dF rg k=some x from hx,show dF ss k=some z from hz,hf,bne_self_eq_false,cond_false];rw[i3 (n:=32) hp.sz (h.cells x (dK hx)) (by omega) (by omega)];simp only[Option.bind_some,Bool.not_true,cond_false];rw[dL (x:=(k:Int)+1) (by omega) (by omega)];exact Ok.ret rfl
  ·unfold gv;dsimp only;rw[decide_eq_false (show ¬ (rg.length:Int) < rg.length by omega)];exact Ok.ret rfl
 unfold kR;delta dJ;rw[zd hp,zn hp.sz h.vlen h.views hn];simp only[Option.bind_some,bne_self_eq_false,cond_false,Bool.not_true];rw[show ((rg.length:Int) != (ss.length:Int))=false by rw[hl];simp];simp only[cond_false,Option.bind_some];rw[e]
theorem En{rg:List (List DCn)}{vs:List DTs}(h1:rg.length≤1000) (h2:vs.length≤1000):kQ rg vs=some (rg++vs.map vx,()):=by
 have e:dQ gu NN (vs,(vs.length:Int),0,rg,vs,rg,())=some (vs,(vs.length:Int),(vs.length:Int),false,rg,vs,rg++vs.map vx,()):=by
  have:=mH (f:=gu) (N:=NN) (st:=fun k=>(vs,(vs.length:Int),(k:Int),rg,vs,rg++(vs.take k).map vx,())) (n:=vs.length) (t:=(vs,(vs.length:Int),(vs.length:Int),false,rg,vs,rg++vs.map vx,())) (by unfold NN;omega) ?_ ?_
  ·simpa using this
  ·intro k hk;obtain⟨v,hv⟩:∃v,vs[k]?=some v:=⟨_,List.getElem?_eq_getElem hk⟩;unfold gu;dsimp only;rw[decide_eq_true (show (k:Int) < vs.length by omega),dH];simp only[cond_true,Option.bind_some,show dF vs k=some v from hv];refine Ok.need (dN (by simp;omega)) ?_;rw[dL (x:=(k:Int)+1) (by omega) (by omega)];refine Ok.ret ?_;rw[← gp vx hv,← List.append_assoc];rfl
  ·unfold gu;dsimp only;rw[decide_eq_false (show ¬ (vs.length:Int) < vs.length by omega),List.take_length];exact Ok.ret rfl
 unfold kQ;rw[dN (show 24≤1000∧0+rg.length≤1000000 by omega)];delta dJ;simp only[cond_true];rw[show List.append [] rg=rg from rfl,e];rfl
theorem LV.apart{bs ss:List Int}(h:LV bs ss) {r r':Nat}{b z b' z' o o':Int}(hne:r≠r') (hb:bs[r]?=some b) (hz:ss[r]?=some z) (hb':bs[r']?=some b') (hz':ss[r']?=some z') (h0:0≤o) (h1:o < z) (h0':0≤o') (h1':o' < z'):b+o≠b'+o':=by
 obtain⟨_,hl,hg⟩:=h;have l1:=(List.getElem?_eq_some_iff.1 hb).1;have l2:=(List.getElem?_eq_some_iff.1 hb').1;have g1:=hg r l1;have g2:=hg r' l2;unfold tA at g1 g2;rw[ej hb,ej hz] at g1;rw[ej hb',ej hz'] at g2;by_cases hlt:r' < r
 ·have:=g1.2.2 r' hlt;rw[ej hb',ej hz'] at this;omega
 ·have:=g2.2.2 r (by omega);rw[ej hb,ej hz] at this;omega
def Ly(bs:List Int) (key:Int) (rg:List (List DCn)) (cs:List DCe) (r o:Nat):Prop:=∀(r' o':Nat) (x:List DCn) (c:DCn) (b:Int),rg[r']?=some x→x[o']?=some c→bs[r']?=some b→(r' < r∨(r'=r∧o' < o))→cs[(b+o').toNat]?=some (wO bs key c)
set_option maxHeartbeats 4000000 in
theorem GE{n key:Int}{code:List DIn}{ss bs:List Int}{dt:List (List Int)}{rg:List (List DCn)}{vs:List DTs}(hp:jL code ss dt) (hL:LV bs ss) (h:zj n ss rg vs) (hn:n≤1099511627776) :
 Ok (jZ code ss dt bs key rg vs) fun r=>∃cs,r=(bs,key,cs,eK,vs.map (thF bs key),true,())∧MOk n ss bs cs eK (vs.map (thF bs key))∧Ly bs key rg cs ss.length 0:=by
 have h4:=hp.sz.2.1;have hbl:=hL.2.1;have hrl:=h.rlen;have hvl:=h.vlen;unfold jZ;delta dJ;rw[DM hp h hn,o8 hL,En (by omega) (by omega),Dr];simp only[Option.bind_some,Bool.not_true,cond_false]
 have hall:∀x∈rg++vs.map vx,x.length≤100∧∀c∈x,Pr ss c:=by
  intro x hx;rcases List.mem_append.1 hx with hx | hx
  ·obtain⟨j,hj⟩:=List.getElem?_of_mem hx;have:=(List.getElem?_eq_some_iff.1 hj).1;obtain⟨z,hz⟩:∃z,ss[j]?=some z:=⟨_,List.getElem?_eq_getElem (by omega)⟩;have:=h.fit j x z hj hz;have:=hp.sz.2.2 z (dK hz);exact⟨by omega,h.cells x hx⟩
  ·obtain⟨v,hv,rfl⟩:=List.mem_map.1 hx;have:=h.views v hv;exact⟨by unfold vx;rw[this.len];omega,this.regs⟩
 have hll:(rg++vs.map vx).length≤100:=by rw[List.length_append,List.length_map];omega
 generalize rg++vs.map vx=lst at hall hll
 have e1:dQ fZ NN ((lst.length:Int),0,code,ss,dt,bs,key,rg,vs,(),0,(),(),(),lst,())=some (.inr ((lst.length:Int),(lst.length:Int),false,code,ss,dt,bs,key,rg,vs,(),0,(),(),(),lst,())):=by
  refine mH (f:=fZ) (N:=NN) (st:=fun k=>((lst.length:Int),(k:Int),code,ss,dt,bs,key,rg,vs,(),0,(),(),(),lst,())) (n:=lst.length) (by unfold NN;omega) ?_ ?_
  ·intro k hk;obtain⟨x,hx⟩:∃x,lst[k]?=some x:=⟨_,List.getElem?_eq_getElem hk⟩;obtain⟨hxl,hxc⟩:=hall x (dK hx)
   have e0:dQ f6 NN ((lst.length:Int),(k:Int),x,(x.length:Int),0,code,ss,dt,bs,key,rg,vs,(),0,(),(),(),lst,())=some (.inr ((lst.length:Int),(k:Int),x,(x.length:Int),(x.length:Int),false,code,ss,dt,bs,key,rg,vs,(),0,(),(),(),lst,())):=by
    refine mH (f:=f6) (N:=NN) (st:=fun o=>((lst.length:Int),(k:Int),x,(x.length:Int),(o:Int),code,ss,dt,bs,key,rg,vs,(),0,(),(),(),lst,())) (n:=x.length) (by unfold NN;omega) ?_ ?_
    ·intro o ho;obtain⟨c,hc⟩:∃c,x[o]?=some c:=⟨_,List.getElem?_eq_getElem ho⟩;unfold f6;dsimp only;rw[decide_eq_true (show (o:Int) < x.length by omega),dH];simp only[cond_true,Option.bind_some,show dF x o=some c from hc,lM (hxc c (dK hc)),Bool.not_true,cond_false];rw[dL (x:=(o:Int)+1) (by omega) (by omega)];exact Ok.ret rfl
    ·unfold f6;dsimp only;rw[decide_eq_false (show ¬ (x.length:Int) < x.length by omega)];exact Ok.ret rfl
   unfold fZ;delta dJ;dsimp only;rw[decide_eq_true (show (k:Int) < lst.length by omega),dH];simp only[cond_true,Option.bind_some,show dF lst k=some x from hx,e0];rw[dL (x:=(k:Int)+1) (by omega) (by omega)];exact Ok.ret rfl
  ·unfold fZ;dsimp only;rw[decide_eq_false (show ¬ (lst.length:Int) < lst.length by omega)];exact Ok.ret rfl
 rw[e1];dsimp only;refine Ok.need (dN (by omega)) (Ok.need (by decide) ?_);rw[show List.append [] bs=bs from rfl]
 refine Ok.loop (P:=fun s'=>∃(r:Nat),∃cs,s'=(rg,(rg.length:Int),(r:Int),code,ss,dt,bs,key,rg,vs,(),0,(),(),(),bs,key,cs,eK,(),())∧r≤rg.length∧cs.length=512∧(∀c∈cs,lZ (RK bs ss) c)∧Ly bs key rg cs r 0)
  (R:=fun y=>∃a b c f cs,y=(a,b,c,f,code,ss,dt,bs,key,rg,vs,(),0,(),(),(),bs,key,cs,eK,(),())∧cs.length=512∧(∀c∈cs,lZ (RK bs ss) c)∧Ly bs key rg cs ss.length 0) (m:=fun s'=>(s'.2.1 - s'.2.2.1).toNat)
  ⟨0,_,rfl,by omega,List.length_replicate,fun c hc=>by rw[List.eq_of_mem_replicate hc];exact kD (by decide),fun r' o' x c b _ _ _ hlt=>by omega⟩ (by unfold NN;dsimp only;omega) ?_ ?_
 ·rintro _ ⟨r,cs,rfl,hr,hc1,hc2,hI⟩;unfold mK;delta dJ;dsimp only
  (with_reducible refine Ok.cb (fun hca=>?_) (fun hca=>?_))
  ·obtain⟨x,hx⟩:∃x,rg[r]?=some x:=⟨_,List.getElem?_eq_getElem (by omega)⟩;obtain⟨b,z,hb,hz,z1,z32,b0,bz⟩:=hL.at_ (r:=r) (by omega);have hf:=h.fit r x z hx hz;have hxc:=h.cells x (dK hx);rw[dH];simp only[Option.bind_some,show dF rg r=some x from hx]
   refine Ok.loop (P:=fun s'=>∃(o:Nat),∃cs,s'=((r:Int),rg,(rg.length:Int),(r:Int),x,(x.length:Int),(o:Int),code,ss,dt,bs,key,rg,vs,(),0,(),(),(),bs,key,cs,eK,(),())∧o≤x.length∧cs.length=512∧(∀c∈cs,lZ (RK bs ss) c)∧Ly bs key rg cs r o)
    (R:=fun y=>∃a2 a3 a4 f cs,y=((r:Int),rg,(rg.length:Int),(r:Int),a2,a3,a4,f,code,ss,dt,bs,key,rg,vs,(),0,(),(),(),bs,key,cs,eK,(),())∧cs.length=512∧(∀c∈cs,lZ (RK bs ss) c)∧Ly bs key rg cs (r+1) 0) (m:=fun s'=>(s'.2.2.2.2.2.1 - s'.2.2.2.2.2.2.1).toNat) ⟨0,cs,rfl,by omega,hc1,hc2,hI⟩ (by unfold NN;dsimp only;omega) ?_ ?_
   ·rintro _ ⟨o,cs,rfl,ho,hc1,hc2,hI⟩;unfold mL;dsimp only
    (with_reducible refine Ok.cb (fun hcb=>?_) (fun hcb=>?_))
    ·obtain⟨c,hc⟩:∃c,x[o]?=some c:=⟨_,List.getElem?_eq_getElem (by omega)⟩;obtain⟨hr1,hr2⟩:=ua (key:=key) hL (hxc c (dK hc));simp only[dH,Option.bind_some,show dF x o=some c from hc,show dF bs r=some b from hb,hr1];rw[dL (x:=b+o) (by omega) (by omega),dL (x:=(o:Int)+1) (by omega) (by omega)];obtain⟨a,ha⟩:∃a:Nat,b+o=a:=⟨(b+o).toNat,by omega⟩;obtain⟨y,hy⟩:∃y,cs[a]?=some y:=⟨_,List.getElem?_eq_getElem (by omega)⟩;rw[ha,dH];simp only[Option.bind_some,show dF cs a=some y from hy,d8 hy];refine Ok.ret ⟨⟨o+1,_,rfl,by omega,by rw[List.length_set];exact hc1,gZ hc2 hr2,fun r' o' x' c' b' h1 h2 h3 hlt=>?_⟩,by dsimp only;omega⟩;by_cases e:r'=r∧o'=o
     ·obtain⟨rfl,rfl⟩:=e;rw[hx] at h1;cases h1;rw[hc] at h2;cases h2;rw[hb] at h3;cases h3;rw[ha,Int.toNat_natCast];exact f9 (by omega) _
     ·have hr'l:=(List.getElem?_eq_some_iff.1 h1).1;obtain⟨b2,z2,hb2,hz2,_,_,b20,b2z⟩:=hL.at_ (r:=r') (by omega)
      have h3':b2=b':=by rw[hb2] at h3;injection h3
      subst h3';have hf2:=h.fit r' x' z2 h1 hz2;have ho'l:=(List.getElem?_eq_some_iff.1 h2).1
      have hne:(b2+o').toNat≠a:=by
       by_cases er:r'=r
       ·subst er;rw[hb] at hb2;cases hb2;omega
       ·have:=hL.apart er hb2 hz2 hb hz (o:=o') (o':=o) (by omega) (by omega) (by omega) (by omega);omega
      rw[jQ (fun e=>hne e.symm)];exact hI r' o' x' c' b2 h1 h2 hb2 (by omega)
    ·refine Ok.ret ⟨_,_,_,_,cs,rfl,hc1,hc2,fun r' o' x' c' b' h1 h2 h3 hlt=>hI r' o' x' c' b' h1 h2 h3 ?_⟩;by_cases er:r'=r
     ·subst er;rw[hx] at h1;cases h1;have:=(List.getElem?_eq_some_iff.1 h2).1;omega
     ·omega
   ·rintro _ ⟨a2,a3,a4,f,cs,rfl,hc1,hc2,hI⟩;dsimp only;rw[dL (x:=(r:Int)+1) (by omega) (by omega)];exact Ok.ret ⟨⟨r+1,cs,rfl,by omega,hc1,hc2,hI⟩,by dsimp only;omega⟩
  ·obtain rfl:r=ss.length:=by omega
   exact Ok.ret ⟨_,_,_,_,cs,rfl,hc1,hc2,hI⟩
 rintro _ ⟨a,b,c,f,cs,rfl,hc1,hc2,hI⟩;dsimp only
 have e5:dQ fX NN (vs,(vs.length:Int),0,code,ss,dt,bs,key,rg,vs,(),0,(),(),(),bs,key,cs,eK,[],())=some (vs,(vs.length:Int),(vs.length:Int),false,code,ss,dt,bs,key,rg,vs,(),0,(),(),(),bs,key,cs,eK,vs.map (thF bs key),()):=by
  have:=mH (f:=fX) (N:=NN) (st:=fun k=>(vs,(vs.length:Int),(k:Int),code,ss,dt,bs,key,rg,vs,(),0,(),(),(),bs,key,cs,eK,(vs.take k).map (thF bs key),())) (n:=vs.length) (t:=(vs,(vs.length:Int),(vs.length:Int),false,code,ss,dt,bs,key,rg,vs,(),0,(),(),(),bs,key,cs,eK,vs.map (thF bs key),())) (by unfold NN;omega) ?_ ?_
  ·exact this
  ·intro k hk;obtain⟨v,hv⟩:∃v,vs[k]?=some v:=⟨_,List.getElem?_eq_getElem hk⟩;have hvo:=h.views v (dK hv);have h8:=hvo.len;unfold fX;delta dJ;dsimp only;rw[decide_eq_true (show (k:Int) < vs.length by omega),dH];simp only[cond_true,Option.bind_some,show dF vs k=some v from hv]
   have e4:∀(a1 a2 a3 a4 a5 a6 a7 a8 b1 b2 b3 b4 b5 b6 b7:_),dQ fY NN (vs,(vs.length:Int),(k:Int),v.2.2.2.2.2.2.2,(v.2.2.2.2.2.2.2.length:Int),0,code,ss,dt,bs,key,rg,vs,(),0,(),(),(),bs,key,cs,eK,(vs.take k).map (thF bs key),a1,a2,a3,a4,a5,a6,a7,a8,b1,[],b2,b3,b4,b5,b6,b7,()) =
    some (vs,(vs.length:Int),(k:Int),v.2.2.2.2.2.2.2,(v.2.2.2.2.2.2.2.length:Int),(v.2.2.2.2.2.2.2.length:Int),false,code,ss,dt,bs,key,rg,vs,(),0,(),(),(),bs,key,cs,eK,(vs.take k).map (thF bs key),a1,a2,a3,a4,a5,a6,a7,a8,b1,v.2.2.2.2.2.2.2.map (wO bs key),b2,b3,b4,b5,b6,b7,()):=by
    intro a1 a2 a3 a4 a5 a6 a7 a8 b1 b2 b3 b4 b5 b6 b7
    have:=mH (f:=fY) (N:=NN) (st:=fun o=>(vs,(vs.length:Int),(k:Int),v.2.2.2.2.2.2.2,(v.2.2.2.2.2.2.2.length:Int),(o:Int),code,ss,dt,bs,key,rg,vs,(),0,(),(),(),bs,key,cs,eK,(vs.take k).map (thF bs key),a1,a2,a3,a4,a5,a6,a7,a8,b1,(v.2.2.2.2.2.2.2.take o).map (wO bs key),b2,b3,b4,b5,b6,b7,())) (n:=v.2.2.2.2.2.2.2.length)
     (t:=(vs,(vs.length:Int),(k:Int),v.2.2.2.2.2.2.2,(v.2.2.2.2.2.2.2.length:Int),(v.2.2.2.2.2.2.2.length:Int),false,code,ss,dt,bs,key,rg,vs,(),0,(),(),(),bs,key,cs,eK,(vs.take k).map (thF bs key),a1,a2,a3,a4,a5,a6,a7,a8,b1,v.2.2.2.2.2.2.2.map (wO bs key),b2,b3,b4,b5,b6,b7,())) (by unfold NN;omega) ?_ ?_
    ·exact this
    ·intro o ho;obtain⟨c,hc⟩:∃c,v.2.2.2.2.2.2.2[o]?=some c:=⟨_,List.getElem?_eq_getElem ho⟩;unfold fY;dsimp only;rw[decide_eq_true (show (o:Int) < v.2.2.2.2.2.2.2.length by omega),dH];simp only[cond_true,Option.bind_some,show dF v.2.2.2.2.2.2.2 o=some c from hc];rw[(ua (key:=key) hL (hvo.regs c (dK hc))).1];simp only[Option.bind_some];refine Ok.need (dN (by simp;omega)) ?_;rw[dL (x:=(o:Int)+1) (by omega) (by omega)];refine Ok.ret ?_;rw[← gp (wO bs key) hc];rfl
    ·unfold fY;dsimp only;rw[decide_eq_false (show ¬ (v.2.2.2.2.2.2.2.length:Int) < v.2.2.2.2.2.2.2.length by omega),List.take_length];exact Ok.ret rfl
   rw[e4];simp only[Option.bind_some];refine Ok.need (dN (by simp;omega)) ?_;rw[dL (x:=(k:Int)+1) (by omega) (by omega)];refine Ok.ret ?_;rw[← gp (thF bs key) hv];rfl
  ·unfold fX;dsimp only;rw[decide_eq_false (show ¬ (vs.length:Int) < vs.length by omega),List.take_length];exact Ok.ret rfl
 rw[e5];refine Ok.ret ⟨cs,rfl,⟨hL,A8 hc1 hc2,by rw[List.length_map];exact hvl,fun t ht=>?_⟩,hI⟩;obtain⟨v,hv,rfl⟩:=List.mem_map.1 ht;have hvo:=h.views v hv;refine⟨hvo.state,by unfold thF;dsimp only;rw[List.length_map];exact hvo.len,fun c hc=>?_,hvo.pc,hvo.count,hvo.handler,hvo.saved,hvo.trap,hvo.code⟩;unfold thF at hc;dsimp only at hc;obtain⟨c',hc',rfl⟩:=List.mem_map.1 hc;exact (ua hL (hvo.regs c' hc')).2
theorem Kd{l:List Int}{k n:Int}(h:DOk l k) (hn:0 < n) (hn2:n≤9223372036854775807):Ok (dG n l k) fun r=>∃v k',r=(v,l,k',())∧0≤v∧v < n∧DOk l k':=by
 have:Ok ((dG n l k).bind some) fun r=>∃v k',r=(v,l,k',())∧0≤v∧v < n∧DOk l k':=eY h hn hn2 fun v k' h0 h1 h2=>Ok.ret ⟨_,_,rfl,h0,h1,h2⟩;simpa using this
theorem zj.setReg{n:Int}{ss:List Int}{rg:List (List DCn)}{vs:List DTs}{r o:Nat}{x:List DCn}{c:DCn}(h:zj n ss rg vs) (hx:rg[r]?=some x) (hc:Pr ss c):zj n ss (rg.set r (x.set o c)) vs:=by
 refine⟨by rw[List.length_set];exact h.rlen,fun j y z hy hz=>?_,gZ h.cells (gZ (h.cells x (dK hx)) hc),h.vlen,h.views⟩;by_cases e:r=j
 ·subst e;rw[show (rg.set r (x.set o c))[r]?=some (x.set o c) from f9 (List.getElem?_eq_some_iff.1 hx).1 _] at hy;cases hy;rw[List.length_set];exact h.fit r x z hx hz
 ·rw[jQ e] at hy;exact h.fit j y z hy hz
theorem zj.setView{n:Int}{ss:List Int}{rg:List (List DCn)}{vs:List DTs}{k:Nat}{v:DTs}(h:zj n ss rg vs) (hv:L1 n ss v):zj n ss rg (vs.set k v):=
 ⟨h.rlen,h.fit,h.cells,by rw[List.length_set];exact h.vlen,gZ h.views hv⟩
set_option maxHeartbeats 4000000 in
theorem Em{l:List Int}{k:Int}(h:DOk l k):Ok (j8 l k) fun r=>∃code ss dt bs key cs ls ts k',r=(code,ss,dt,bs,key,cs,ls,ts,l,k',())∧jL code ss dt∧W16 key∧MOk 1152 ss bs cs ls ts∧DOk l k':=by
 unfold j8;refine (K2 h).bind ?_;rintro _ ⟨code,ss,dt,bs,key,cs,ls,ts,ck,rn,ins,d,os,us,ow,qs,rec,js,k1,rfl,hkey,hR,h1⟩;dsimp only;have hp:=hR.prog;have hM:=hR.mach;have hL:=hM.lay;have hs1:=hp.sz.1;obtain⟨_,en,v,k2,rfl,v0,v1,h2⟩:=Kd (n:=3) h1 (by decide) (by decide);rw[en];simp only[Option.bind_some];by_cases hv:v=0
 ·simp only[beq_iff_eq.2 hv,cond_true,Hx (code:=code) (dt:=dt) hM,Option.bind_some];have hS:=Hw (key:=key) hM;generalize Bn bs ss key cs ls=rg at hS;generalize ts.map (rz bs ss key)=vs at hS;obtain⟨x,hx⟩:∃x,rg[0]?=some x:=⟨_,List.getElem?_eq_getElem (by have:=hS.rlen;omega)⟩
  have hxl:x.length≤32:=by
   obtain⟨z,hz⟩:∃z,ss[0]?=some z:=⟨_,List.getElem?_eq_getElem (by omega)⟩;have:=hS.fit 0 x z hx hz;have:=hp.sz.2.2 z (dK hz);omega
  delta dJ;simp only[show dF rg 0=some x from hx,Option.bind_some]
  obtain⟨y,e,rg',k3,a,b,rfl,hS3,h3⟩:=Ok.iter (f:=jP) (n:=NN) (s:=((x.length:Int),0,l,k2,(),(),(),(),0,(),(),(),code,ss,dt,bs,key,cs,ls,ts,ck,rn,ins,d,os,us,ow,qs,rec,js,bs,key,cs,ls,ts,rg,vs,()))
   (P:=fun s'=>∃(q:Nat) (k':Int) (rg':List (List DCn)) (x':List DCn),s'=((x.length:Int),(q:Int),l,k',(),(),(),(),0,(),(),(),code,ss,dt,bs,key,cs,ls,ts,ck,rn,ins,d,os,us,ow,qs,rec,js,bs,key,cs,ls,ts,rg',vs,())∧DOk l k'∧zj 1152 ss rg' vs∧rg'[0]?=some x'∧x'.length=x.length)
   (R:=fun y=>∃rg' k' a b,y=(a,b,false,l,k',(),(),(),(),0,(),(),(),code,ss,dt,bs,key,cs,ls,ts,ck,rn,ins,d,os,us,ow,qs,rec,js,bs,key,cs,ls,ts,rg',vs,())∧zj 1152 ss rg' vs∧DOk l k') (m:=fun s'=>(s'.1 - s'.2.1).toNat) ⟨0,k2,rg,x,rfl,h2,hS,hx,rfl⟩ (by unfold NN;dsimp only;omega) (by
    rintro _ ⟨q,k',rg',x',rfl,hd,hS',hx',hxl'⟩;unfold jP;dsimp only
    (with_reducible refine Ok.cb (fun hca=>?_) (fun hca=>?_))
    ·refine Ok.bind (P:=fun r=>∃(k':Int) (rg':List (List DCn)) (x':List DCn),r=((x.length:Int),(q:Int),l,k',(),(),(),(),0,(),(),(),code,ss,dt,bs,key,cs,ls,ts,ck,rn,ins,d,os,us,ow,qs,rec,js,bs,key,cs,ls,ts,rg',vs,())∧DOk l k'∧zj 1152 ss rg' vs∧rg'[0]?=some x'∧x'.length=x.length) ?_ ?_
     ·refine eY (n:=3) hd (by decide) (by decide) fun u k4 u0 u1 h4=>?_;dsimp only
      (with_reducible refine Ok.cb (fun hcb=>?_) (fun hcb=>?_))
      ·obtain⟨c,hc⟩:∃c,x'[q]?=some c:=⟨_,List.getElem?_eq_getElem (by omega)⟩;simp only[show dF rg' 0=some x' from hx',Option.bind_some];refine (Dw hp.sz h4).bind ?_;rintro _ ⟨t,v,rr,o,k5,rfl,hc5,h5⟩;dsimp only;simp only[dH,Option.bind_some,show dF x' q=some c from hc,d8 hx',d8 hc];exact Ok.ret ⟨_,_,_,rfl,h5,hS'.setReg hx' hc5,f9 (List.getElem?_eq_some_iff.1 hx').1 _,by rw[List.length_set];exact hxl'⟩
      ·exact Ok.ret ⟨_,_,_,rfl,h4,hS',hx',hxl'⟩
     ·rintro _ ⟨k',rg',x',rfl,hd,hS',hx',hxl'⟩;dsimp only;rw[dL (x:=(q:Int)+1) (by omega) (by omega)];exact Ok.ret ⟨⟨q+1,k',rg',x',rfl,hd,hS',hx',hxl'⟩,by dsimp only;omega⟩
    ·exact Ok.ret ⟨_,_,_,_,rfl,hS',hd⟩)
  simp only[e,Option.bind_some]
  obtain⟨y,e,vs',k4,a,b,rfl,hS4,h4⟩:=Ok.iter (f:=jO) (n:=NN) (s:=((vs.length:Int),0,l,k3,(),(),(),(),0,(),(),(),code,ss,dt,bs,key,cs,ls,ts,ck,rn,ins,d,os,us,ow,qs,rec,js,bs,key,cs,ls,ts,rg',vs,()))
   (P:=fun s'=>∃(q:Nat) (k':Int) (vs':List DTs),s'=((vs.length:Int),(q:Int),l,k',(),(),(),(),0,(),(),(),code,ss,dt,bs,key,cs,ls,ts,ck,rn,ins,d,os,us,ow,qs,rec,js,bs,key,cs,ls,ts,rg',vs',())∧DOk l k'∧zj 1152 ss rg' vs')
   (R:=fun y=>∃vs' k' a b,y=(a,b,false,l,k',(),(),(),(),0,(),(),(),code,ss,dt,bs,key,cs,ls,ts,ck,rn,ins,d,os,us,ow,qs,rec,js,bs,key,cs,ls,ts,rg',vs',())∧zj 1152 ss rg' vs'∧DOk l k') (m:=fun s'=>(s'.1 - s'.2.1).toNat) ⟨0,k3,vs,rfl,h3,hS3⟩ (by unfold NN;dsimp only;have:=hS3.vlen;omega) (by
    rintro _ ⟨q,k',vs',rfl,hd,hS'⟩;have hvl:=hS3.vlen;have hvl':=hS'.vlen;unfold jO;delta dJ;dsimp only
    (with_reducible refine Ok.cb (fun hca=>?_) (fun hca=>?_))
    ·obtain⟨w,hw⟩:∃w,vs'[q]?=some w:=⟨_,List.getElem?_eq_getElem (by omega)⟩;have hw8:=(hS'.views w (dK hw)).len;rw[dH];simp only[Option.bind_some,show dF vs' q=some w from hw];refine Ok.bind (P:=fun r=>∃(k':Int) (vs':List DTs),r=((vs.length:Int),(q:Int),l,k',(),(),(),(),0,(),(),(),code,ss,dt,bs,key,cs,ls,ts,ck,rn,ins,d,os,us,ow,qs,rec,js,bs,key,cs,ls,ts,rg',vs',())∧DOk l k'∧zj 1152 ss rg' vs') ?_ ?_
     ·refine Ok.loop (P:=fun s'=>∃(o:Nat) (k':Int) (vs':List DTs),s'=((q:Int),(vs.length:Int),(q:Int),(w.2.2.2.2.2.2.2.length:Int),(o:Int),l,k',(),(),(),(),0,(),(),(),code,ss,dt,bs,key,cs,ls,ts,ck,rn,ins,d,os,us,ow,qs,rec,js,bs,key,cs,ls,ts,rg',vs',())∧DOk l k'∧zj 1152 ss rg' vs')
       (R:=fun y=>∃vs' k' a b c,y=((q:Int),(vs.length:Int),(q:Int),a,b,c,l,k',(),(),(),(),0,(),(),(),code,ss,dt,bs,key,cs,ls,ts,ck,rn,ins,d,os,us,ow,qs,rec,js,bs,key,cs,ls,ts,rg',vs',())∧zj 1152 ss rg' vs'∧DOk l k') (m:=fun s'=>(s'.2.2.2.1 - s'.2.2.2.2.1).toNat) ⟨0,k',vs',rfl,hd,hS'⟩ (by unfold NN;dsimp only;omega) ?_ ?_
      ·rintro _ ⟨o,k',vs',rfl,hd,hS'⟩;have hvl':=hS'.vlen;unfold mO;dsimp only
       (with_reducible refine Ok.cb (fun hcb=>?_) (fun hcb=>?_))
       ·refine Ok.bind (P:=fun r=>∃(k':Int) (vs':List DTs),r=((q:Int),(vs.length:Int),(q:Int),(w.2.2.2.2.2.2.2.length:Int),(o:Int),l,k',(),(),(),(),0,(),(),(),code,ss,dt,bs,key,cs,ls,ts,ck,rn,ins,d,os,us,ow,qs,rec,js,bs,key,cs,ls,ts,rg',vs',())∧DOk l k'∧zj 1152 ss rg' vs') ?_ ?_
        ·refine eY (n:=3) hd (by decide) (by decide) fun u k4 u0 u1 h4=>?_;dsimp only
         (with_reducible refine Ok.cb (fun hcc=>?_) (fun hcc=>?_))
         ·obtain⟨w',hw'⟩:∃w',vs'[q]?=some w':=⟨_,List.getElem?_eq_getElem (by omega)⟩;have hvo:=hS'.views w' (dK hw');have hw8':=hvo.len;obtain⟨cc,hcc⟩:∃cc,w'.2.2.2.2.2.2.2[o]?=some cc:=⟨_,List.getElem?_eq_getElem (by omega)⟩;simp only[dH,Option.bind_some,show dF vs' q=some w' from hw'];refine (Dw hp.sz h4).bind ?_;rintro _ ⟨t,v,rr,o',k5,rfl,hc5,h5⟩;dsimp only;simp only[show dF w'.2.2.2.2.2.2.2 o=some cc from hcc,Option.bind_some,d8 hw',d8 hcc];exact Ok.ret ⟨_,_,rfl,h5,hS'.setView ⟨hvo.state,hvo.pc,hvo.count,hvo.handler,hvo.saved,hvo.trap,hvo.code,by dsimp only;rw[List.length_set];exact hw8',gZ hvo.regs hc5⟩⟩
         ·exact Ok.ret ⟨_,_,rfl,h4,hS'⟩
        ·rintro _ ⟨k',vs',rfl,hd,hS'⟩;dsimp only;rw[dL (x:=(o:Int)+1) (by omega) (by omega)];exact Ok.ret ⟨⟨o+1,k',vs',rfl,hd,hS'⟩,by dsimp only;omega⟩
       ·exact Ok.ret ⟨_,_,_,_,_,rfl,hS',hd⟩
      ·rintro _ ⟨vs',k',a,b,c,rfl,hS',hd⟩;dsimp only;refine eY (n:=4) hd (by decide) (by decide) fun u k4 u0 u1 h4=>?_;dsimp only
       (with_reducible refine Ok.cb (fun hcc=>?_) (fun hcc=>?_))
       ·refine eY (n:=5) h4 (by decide) (by decide) fun u2 k5 u20 u21 h5=>?_;dsimp only;obtain⟨w',hw'⟩:∃w',vs'[q]?=some w':=⟨_,List.getElem?_eq_getElem (by have:=hS'.vlen;omega)⟩;have hvo:=hS'.views w' (dK hw');simp only[dH,Option.bind_some,show dF vs' q=some w' from hw',d8 hw'];exact Ok.ret ⟨_,_,rfl,h5,hS'.setView ⟨⟨u20,by dsimp only;omega⟩,hvo.pc,hvo.count,hvo.handler,hvo.saved,hvo.trap,hvo.code,hvo.len,hvo.regs⟩⟩
       ·exact Ok.ret ⟨_,_,rfl,h4,hS'⟩
     ·rintro _ ⟨k',vs',rfl,hd,hS'⟩;dsimp only;rw[dL (x:=(q:Int)+1) (by omega) (by omega)];exact Ok.ret ⟨⟨q+1,k',vs',rfl,hd,hS'⟩,by dsimp only;omega⟩
    ·exact Ok.ret ⟨_,_,_,_,rfl,hS',hd⟩)
  simp only[e,Option.bind_some];obtain⟨_,ei,cs',rfl,hM',_⟩:=GE (key:=key) hp hL hS4 (by decide);simp only[ei,Option.bind_some,cond_true];exact Ok.ret ⟨_,_,_,_,_,_,_,_,_,rfl,hp,hkey,hM',h4⟩
 ·simp only[beq_eq_false_iff_ne.2 hv,cond_false];exact Ok.ret ⟨_,_,_,_,_,_,_,_,_,rfl,hp,hkey,hM,h2⟩
def E1:List CT→CT
 | []=>.nat
 | [t]=>t
 | t :: u :: r=>.pair t (E1 (u :: r))
def n8:(l:List CT)→HL den l→den (E1 l)
 | [],_=>(0:Nat)
 | [_],h=>h.1
 | _ :: u :: r,h=>(h.1,n8 (u :: r) h.2)
def encL:(l:List CT)→HL den l→List TV
 | [],_=>[]
 | t :: r,h=>enc t h.1++encL r h.2
theorem Dp:∀(l:List CT) (h:HL den l),enc (E1 l) (n8 l h)=encL l h
 | [],_=>rfl
 | [_],h=>(List.append_nil _).symm
 | _ :: u :: r,h=>by
  show enc _ h.1++enc (E1 (u :: r)) (n8 (u :: r) h.2)=_;rw[Dp (u :: r) h.2];rfl
def Hk:(c:CT)→den c→Prop
 | .int k,n=>(Lit.int k n).wf=true
 | .str,s=>ByteArray.size s≤maxLen
 | .row _ t,xs=>List.length xs≤maxLen∧∀x∈xs,Hk t x
 | .pair a b,x=>Hk a x.1∧Hk b x.2
 | _,_=>True
def GoodL:(l:List CT)→HL den l→Prop
 | [],_=>True
 | t :: r,h=>Hk t h.1∧GoodL r h.2
theorem AW:∀(l:List CT) (h:HL den l),GoodL l h→Hk (E1 l) (n8 l h)
 | [],_,_=>trivial
 | [_],_,g=>g.1
 | _ :: u :: r,h,g=>⟨g.1,AW (u :: r) h.2 g.2⟩
def appL:(l m:List CT)→HL den l→HL den m→HL den (l++m)
 | [],_,_,k=>k
 | _ :: r,m,h,k=>(h.1,appL r m h.2 k)
theorem Dq:∀(l m:List CT) (h:HL den l) (k:HL den m),encL (l++m) (appL l m h k)=encL l h++encL m k
 | [],_,_,_=>rfl
 | t :: r,m,h,k=>by
  show enc t h.1++encL (r++m) (appL r m h.2 k)=(enc t h.1++encL r h.2)++_;rw[Dq r m h.2 k,List.append_assoc]
theorem Di:∀(l m:List CT) (h:HL den l) (k:HL den m),GoodL l h→GoodL m k→GoodL (l++m) (appL l m h k)
 | [],_,_,_,_,g=>g
 | _ :: r,m,h,k,g,g'=>⟨g.1,Di r m h.2 k g.2 g'⟩
def RelL(w:World):List TV→List Value→Prop
 | [],[]=>True
 | t :: ts,v :: vs=>mG w (fun _=>True) t v∧RelL w ts vs
 | _,_=>False
theorem RelL.app{w:World}:∀{a:List TV}{x:List Value}{b:List TV}{y:List Value},RelL w a x→RelL w b y→RelL w (a++b) (x++y)
 | [],[],_,_,_,h=>h
 | _ :: a,_ :: x,_,_,g,h=>⟨g.1,RelL.app (a:=a) (x:=x) g.2 h⟩
 | [],_ :: _,_,_,g,_=>g.elim
 | _ :: _,[],_,_,g,_=>g.elim
theorem RelL.len{w:World}:∀{a:List TV}{x:List Value},RelL w a x→a.length=x.length
 | [],[],_=>rfl
 | _ :: a,_ :: x,g=>by rw[List.length_cons,List.length_cons,RelL.len (a:=a) (x:=x) g.2]
 | [],_ :: _,g=>g.elim
 | _ :: _,[],g=>g.elim
theorem RelL.get{w:World}:∀{a:List TV}{x:List Value},RelL w a x→∀j (h:j < a.length) (h':j < x.length),mG w (fun _=>True) a[j] x[j]
 | _ :: _,_ :: _,g,0,_,_=>g.1
 | _ :: a,_ :: x,g,j+1,h,h'=>RelL.get (a:=a) (x:=x) g.2 j (by simpa using h) (by simpa using h')
 | [],_,_,_,h,_=>by simp at h
 | _ :: _,[],g,_,_,_=>g.elim
def K0(P:Program) (g:TypeId→Option (List CT)):Nat→List Field→Option (List CT)
 | _,[]=>some []
 | off,f :: fs=>match g f.type with
  | some l=>if f.offset=off∧l.length=P.cellsOf f.type then (K0 P g (off+l.length) fs).map (l++·) else none
  | none=>none
def t7(P:Program):Nat→TypeId→Option (List CT)
 | 0,_=>none
 | n+1,t=>match P.underlying t with
  | some .bool=>some [.bool]
  | some (.int k)=>some [.int k]
  | some .string=>some [.str]
  | some (.slice e)=>match t7 P n e with
   | some l=>if l.length=P.cellsOf e then some [.row false (E1 l)] else none
   | none=>none
  | some (.struct fs)=>match K0 P (t7 P n) 0 fs.toList with
   | some l=>if l.length=P.cellsOf t then some l else none
   | none=>none
  | _=>none
section
variable {H:Type} {ec:TypeId×Value→H} {P:Program} {w:World} {base:Nat} {spare:Nat→Bool} {held:Bool}
theorem GC{g:TypeId→Option (List CT)}{m:Nat}{cs:List Value}
 (ih:∀t L,g t=some L→∀cs x,DataW.trod ec P w base spare held m t cs=some x→∃h:HL den L,GoodL L h∧RelL w (encL L h) cs) :
 ∀(fs:List Field) (off:Nat) (L:List CT),K0 P g off fs=some L→(∀f∈fs,∃x,DataW.trod ec P w base spare held m f.type ((cs.drop f.offset).take (P.cellsOf f.type))=some x) →
  ∃h:HL den L,GoodL L h∧RelL w (encL L h) ((cs.drop off).take L.length):=by
 intro fs
 induction fs with
 | nil=>
  intro off L hL _
  injection hL with hL
  subst hL;exact⟨(),trivial,trivial⟩
 | cons f fs ihf=>
  intro off L hL hx;unfold K0 at hL;split at hL
  ·rename_i l hg;split at hL
   ·rename_i ho;obtain⟨rfl,hlen⟩:=ho
    cases hr:K0 P g (f.offset+l.length) fs with
    | none=>rw[hr] at hL;cases hL
    | some L2=>
     rw[hr] at hL
     injection hL with hL
     subst hL;obtain⟨x,h1⟩:=hx f List.mem_cons_self;obtain⟨h,g1,r1⟩:=ih _ _ hg _ _ h1;obtain⟨k,g2,r2⟩:=ihf _ _ hr fun f' hf'=>hx f' (List.mem_cons_of_mem _ hf');refine⟨appL l L2 h k,Di _ _ _ _ g1 g2,?_⟩;rw[Dq,List.length_append,List.take_add,List.drop_drop];rw[hlen];rw[hlen] at r2;exact r1.app r2
   ·cases hL
  ·cases hL
theorem Le:∀(n:Nat) (t:TypeId) (L:List CT),t7 P n t=some L→∀(fuel:Nat) (cs:List Value) (x:DataW H×List MemPlace),DataW.trod ec P w base spare held fuel t cs=some x →
 ∃h:HL den L,GoodL L h∧RelL w (encL L h) cs:=by
 intro n
 induction n with
 | zero=>intro t L h;cases h
 | succ n ih=>
  intro t L hL fuel cs x hx;unfold t7 at hL;split at hL
  ·rename_i ht
   injection hL with hL
   subst hL;obtain⟨b,rfl,_⟩:=DataW.trod_bool ht hx;exact⟨(b,()),⟨trivial,trivial⟩,.v rfl,trivial⟩
  ·rename_i k ht
   injection hL with hL
   subst hL;obtain⟨z,rfl,_,hw⟩:=DataW.trod_int ht hx;exact⟨(z,()),⟨hw,trivial⟩,.v rfl,trivial⟩
  ·rename_i ht
   injection hL with hL
   subst hL;obtain⟨s,rfl,_,hs⟩:=DataW.trod_string ht hx;exact⟨(s,()),⟨hs,trivial⟩,.v rfl,trivial⟩
  ·rename_i e ht;split at hL
   ·rename_i l hl;split at hL
    ·rename_i hsz
     injection hL with hL
     subst hL;rcases DataW.trod_slice ht hx with ⟨rfl,_⟩ | ⟨a,len,cap,elems,rest,m,_,rfl,_,_,hle,hmax,hel,hget,_,_⟩
     ·exact⟨([],()),⟨⟨Nat.zero_le _,fun x hx=>by cases hx⟩,trivial⟩,.sl (c:=[]) 1 (fun _ _=>undef) (fun i h=>by simp at h) (Nat.le_refl _) (Nat.zero_le _) (fun _=>rfl) (fun i j h=>by simp at h) (fun i j h=>by simp at h),trivial⟩
     ·have each:∀i:Fin len,∃p:HL den l×List Value,GoodL l p.1∧RelL w (encL l p.1) p.2∧w.cells? base (a.add (i.1*P.cellsOf e)) (P.cellsOf e)=some p.2:=by
       intro i;have h1:=hget i.1 i.2;rw[List.getElem?_eq_getElem (by omega)] at h1;obtain⟨cs',h2,h3⟩:=Option.bind_eq_some_iff.1 h1;obtain⟨h,g,r⟩:=ih _ _ hl _ _ _ h3;exact⟨(h,cs'),g,r,h2⟩
      obtain⟨f,hf⟩:=Classical.axiomOfChoice each
      have clen:∀i,(encL l (f i).1).length=l.length:=fun i=>by
       rw[(hf i).2.1.len,(World.cells?_some (hf i).2.2).2.1,hsz]
      have key:mG w (fun _=>True) (.sl ((List.ofFn fun i:Fin len=>n8 l (f i).1).map (enc (E1 l)))) (.slice (some a) ((List.ofFn fun i:Fin len=>n8 l (f i).1).map (enc (E1 l))).length cap):=by
       have el:((List.ofFn fun i:Fin len=>n8 l (f i).1).map (enc (E1 l))).length=len:=by simp
       have eg:∀i (hi:i < ((List.ofFn fun i:Fin len=>n8 l (f i).1).map (enc (E1 l))).length),((List.ofFn fun i:Fin len=>n8 l (f i).1).map (enc (E1 l)))[i]=encL l (f ⟨i,by omega⟩).1:=by
        intro i hi;simp[Dp]
       refine .sl l.length (fun i j=>if h:i < len then (f ⟨i,h⟩).2.getD j undef else undef) (fun i hi=>by rw[eg i hi,clen]) (by rw[el];exact hle) hmax (fun h=>by cases h) (fun i j hi hj=>?_) (fun i j hi hj=>?_)
       ·rw[el] at hi
        have cell:∀i' (hi':i' < len) j',j' < l.length→w.cell? ((a.add (i'*l.length)).add j')=some ((f ⟨i',hi'⟩).2.getD j' undef):=by
         intro i' hi' j' hj';have h1:=World.cells?_some (hf ⟨i',hi'⟩).2.2;have h2:=h1.2.2 j' (by omega);rw[hsz];rw[h2]
         have:j' < (f ⟨i',hi'⟩).2.length:=by rw[h1.2.1];omega
         simp[this]
        have h0:=World.cell?_spot (cell 0 (by omega) 0 (by omega));obtain⟨b,o,spot⟩:=a
        have hspot:spot=none:=by simpa [Addr.add] using h0
        subst hspot;refine⟨b,o,rfl,trivial,?_⟩;have h2:=cell i hi j hj;rw[Go.WideShapes.add_plain,Go.WideShapes.add_plain] at h2;rw[dif_pos hi,← h2,Nat.add_assoc]
       ·rw[el] at hi;have hr:=(hf ⟨i,hi⟩).2.1
        have hj2:j < (encL l (f ⟨i,hi⟩).1).length:=by rw[eg i (by omega)] at hj;exact hj
        have hj3:j < (f ⟨i,hi⟩).2.length:=by rw[← hr.len];exact hj2
        have h3:=hr.get j hj2 hj3
        have e1:(if h:i < len then (f ⟨i,h⟩).2.getD j undef else undef)=(f ⟨i,hi⟩).2[j]:=by
         rw[dif_pos hi];simp[hj3]
        simp only[e1];have e2:((List.ofFn fun i:Fin len=>n8 l (f i).1).map (enc (E1 l)))[i]'(by omega)=encL l (f ⟨i,hi⟩).1:=eg i (by omega);simp only[e2];exact h3
      rw[List.length_map,List.length_ofFn] at key;refine⟨(List.ofFn fun i:Fin len=>n8 l (f i).1,()),⟨⟨by rw[List.length_ofFn];omega,fun x hx=>?_⟩,trivial⟩,key,trivial⟩;obtain⟨i,rfl⟩:=List.mem_ofFn.1 hx;exact AW _ _ (hf i).1
    ·cases hL
   ·cases hL
  ·rename_i fs ht;split at hL
   ·rename_i l hl;split at hL
    ·rename_i hsz
     injection hL with hL
     subst hL;obtain⟨xs,m,_,_,hlen,hxl,hf⟩:=DataW.trod_struct ht hx
     obtain⟨h,g,r⟩:=GC (cs:=cs) (m:=m) (fun t L hL cs x hx=>ih t L hL m cs x hx) fs.toList 0 l hl (by
      intro f hfm;obtain⟨i,hi,rfl⟩:=List.mem_iff_getElem.1 hfm
      have hi2:i < fs.size:=by simpa using hi
      have h1:=hf i fs[i] (by simp[hi2]);rw[List.getElem?_eq_getElem (by omega)] at h1
      exact⟨_,by simpa using h1⟩)
     refine⟨h,g,?_⟩;rw[List.drop_zero,hsz,← hlen,List.take_length] at r;exact r
    ·cases hL
   ·cases hL
  ·cases hL
theorem intake_arg(n:Nat) {t:TypeId}{L:List CT}{v:Value}{d:DataW H}{p:List MemPlace}(hL:t7 P n t=some L) (h:DataW.Trod ec P w base spare held t v d p) :
 ∃h:HL den L,GoodL L h∧RelL w (encL L h) v.cells.toList:=by
 obtain⟨fuel,hf⟩:=h;exact Le n t L hL fuel _ _ hf
end
theorem plain_one{w:World}{t:TV}{v:Value}(r:RelL w [t] [v]):CE w t v:=r.1.plain
theorem E8{ts:List DTh}(h:ts.length≤1000):jV ts=some (eE ts 0,()):=by
 have e:dQ fW NN (ts,(ts.length:Int),0,[],())=some (ts,(ts.length:Int),(ts.length:Int),false,eE ts 0,()):=by
  have:=mH (f:=fW) (N:=NN) (st:=fun k=>(ts,(ts.length:Int),(k:Int),eE (ts.take k) 0,())) (n:=ts.length) (t:=(ts,(ts.length:Int),(ts.length:Int),false,eE ts 0,())) (by unfold NN;omega) ?_ ?_
  ·exact this
  ·intro k hk;obtain⟨t,ht⟩:∃t,ts[k]?=some t:=⟨_,List.getElem?_eq_getElem hk⟩;have hl:=ph (ts.take k) 0;rw[List.length_take] at hl;unfold fW;dsimp only;rw[decide_eq_true (show (k:Int) < ts.length by omega),dH];simp only[cond_true,Option.bind_some,show dF ts k=some t from ht]
   have e2:eE (ts.take (k+1)) 0=eE (ts.take k) 0++(if t.1=1 then [(k:Int)] else []):=by
    rw[List.take_add_one,ht];show eE (ts.take k++[t]) 0=_;rw[lf];simp only[eE,List.length_take];rw[show (0:Int)+((min k ts.length:Nat):Int)=(k:Int) by omega]
   by_cases h1:t.1=1
   ·rw[if_pos h1] at e2;simp only[beq_iff_eq.2 h1,cond_true];rw[dN (show 8≤1000∧(eE (ts.take k) 0).length + [(k:Int)].length≤1000000 by simp;omega)];simp only[cond_true,Option.bind_some];rw[dL (x:=(k:Int)+1) (by omega) (by omega),e2];exact Ok.ret rfl
   ·rw[if_neg h1,List.append_nil] at e2;simp only[beq_eq_false_iff_ne.2 h1,cond_false,Option.bind_some];rw[dL (x:=(k:Int)+1) (by omega) (by omega),e2];exact Ok.ret rfl
  ·unfold fW;dsimp only;rw[decide_eq_false (show ¬ (ts.length:Int) < ts.length by omega),List.take_length];exact Ok.ret rfl
 unfold jV;delta dJ
 try dsimp only
 rw[e];rfl
theorem ES:nj=some (true,()):=by kernel_rfl
theorem FY{l:List Int}(hl:∀x∈l,KM x) (hm:l.length≤maxLen):iP l=some (true,()):=by
 refine Ok.eq ?_;unfold iP;refine (Em (DOk.start hl hm)).bind ?_;rintro _ ⟨code,ss,dt,bs,key,cs,ls,ts,k',rfl,hp,hkey,hM,hd⟩;dsimp only;have h4:=hM.tlen;delta dJ;rw[E8 (by omega)];simp only[Option.bind_some];have hlen:=ph ts 0
 obtain⟨y,e,rfl⟩:=Ok.iter (f:=gJ) (n:=NN) (s:=(0,ts,(ts.length:Int),0,bs,key,cs,ls,ts,eE ts 0,()))
  (P:=fun s'=>∃q:Nat,s'=(((eE (ts.take q) 0).length:Int),ts,(ts.length:Int),(q:Int),bs,key,cs,ls,ts,eE ts 0,())∧q≤ts.length)
  (R:=fun y=>y=.inr (((eE ts 0).length:Int),ts,(ts.length:Int),(ts.length:Int),false,bs,key,cs,ls,ts,eE ts 0,())) (m:=fun s'=>(s'.2.2.1 - s'.2.2.2.1).toNat) ⟨0,rfl,by omega⟩ (by unfold NN;dsimp only;omega) (by
   rintro _ ⟨q,rfl,hq⟩;unfold gJ;delta dJ;dsimp only
   (with_reducible refine Ok.cb (fun hca=>?_) (fun hca=>?_))
   ·obtain⟨t,ht⟩:∃t,ts[q]?=some t:=⟨_,List.getElem?_eq_getElem (by omega)⟩
    have e1:eE ts 0=eE (ts.take q) 0++((if t.1=1 then [(q:Int)] else [])++eE (ts.drop (q+1)) ((q:Int)+1)):=by
     conv=>lhs;rw[← List.take_append_drop q ts]
     rw[lf,show ts.drop q=t :: ts.drop (q+1) by obtain⟨h1,rfl⟩:=List.getElem?_eq_some_iff.1 ht;exact List.drop_eq_getElem_cons h1,List.length_take];rw[show (0:Int)+((min q ts.length:Nat):Int)=(q:Int) by omega];simp only[eE];split<;>rfl
    have e2:eE (ts.take (q+1)) 0=eE (ts.take q) 0++(if t.1=1 then [(q:Int)] else []):=by
     rw[List.take_add_one,ht];show eE (ts.take q++[t]) 0=_;rw[lf];simp only[eE,List.length_take];rw[show (0:Int)+((min q ts.length:Nat):Int)=(q:Int) by omega]
    simp only[dH,Option.bind_some,show dF ts q=some t from ht];by_cases h1:t.1=1
    ·rw[if_pos h1] at e1 e2
     have hg:dF (eE ts 0) (eE (ts.take q) 0).length=some (q:Int):=by
      show (eE ts 0)[(eE (ts.take q) 0).length]?=_;rw[e1,List.getElem?_append_right (by omega)];simp
     have hlt:=(List.getElem?_eq_some_iff.1 hg).1;simp only[bne_eq_false_iff_eq.2 h1,cond_false];rw[decide_eq_false (show ¬ ((eE (ts.take q) 0).length:Int)≥(eE ts 0).length by omega)];simp only[cond_false,dH,Option.bind_some,hg,bne_self_eq_false];rw[dL (x:=(q:Int)+1) (by omega) (by omega),dL (x:=((eE (ts.take q) 0).length:Int)+1) (by omega) (by omega)];refine Ok.ret ⟨⟨q+1,?_,by omega⟩,by dsimp only;omega⟩;rw[e2,List.length_append];rfl
    ·rw[if_neg h1] at e2;simp only[bne_iff_ne.2 h1,cond_true];rw[dL (x:=(q:Int)+1) (by omega) (by omega)];refine Ok.ret ⟨⟨q+1,?_,by omega⟩,by dsimp only;omega⟩;rw[e2,List.append_nil];rfl
   ·obtain rfl:q=ts.length:=by omega
    rw[List.take_length]
    exact Ok.ret rfl)
 rw[e];simp only[BEq.rfl,cond_true,ES,Option.bind_some];exact Ok.ret rfl
theorem law_ThreadReady{h0:HL den [.row false I64]}(g0:GoodL _ h0):lU.g (appL _ _ h0 ())=some (true,()):=by
 obtain⟨l,u⟩:=h0;exact FY (fun z hz=>bounds_i64 (g0.1.2 z hz)) g0.1.1
end Go.Proofs.YtpodeigolpjeeaaGreat
