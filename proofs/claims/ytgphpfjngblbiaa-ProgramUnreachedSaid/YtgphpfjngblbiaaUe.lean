/- Part of the proof; no condition. -/
import Derived.Test.YtgphpfjngblbiaaUd
import Derived.Deep.Slices
set_option linter.unusedVariables false
set_option linter.unusedSimpArgs false
namespace Go.Proofs.Ytgphpfjngblbiaa
open Go.RowKit
def Fld(u:Bool)(v m:Int):Prop:=v=0\/(u=true/\0<v/\v<=m)
def oA(o:Int):Int:=bif fU o then 63 else bif o==15 then 3 else bif o==23 then 15 else 65535
def Gb(o a b c i:Int):Prop:=(0<=o/\o<=24)/\Fld (eO o) a 7/\Fld (eM o) b 7/\Fld (eH o) c 7/\Fld (eZ o) i (oA o)
theorem BK:jc=eo:=rfl
theorem tM:gW=dh:=rfl
theorem Di(o:Int):oA o<=65535:=by
 unfold oA
 grind
theorem oO{u:Bool}{v m:Int}:Cd (dy u v m) (Fld u v m):=by
 unfold dy Fld;by_cases h0:v=0
 ·rw[show(v==0)=true from beq_iff_eq.2 h0];exact .inl ⟨.inl h0,rfl⟩
 rw[show(v==0)=false from oBF h0]
 cases u with
 |false=>exact .inr ⟨λh=>h.elim h0 λh=>(by cases h.1),rfl⟩
 |true=>
  by_cases h1:v>0
  rotate_left
  ·rw[oDF h1];exact .inr ⟨λh=>by omega,rfl⟩
  rw[oDT h1];by_cases h2:v<=m
  ·rw[oDT h2];exact .inl ⟨.inr ⟨rfl,h1,h2⟩,rfl⟩
  ·rw[oDF h2];exact .inr ⟨λh=>by omega,rfl⟩
theorem Fi{o:Int}:iU o=some (oA o,()):=by
 unfold iU oA;rw[tM,jG]
 grind
theorem Io{o a b c i:Int}:Cd (fH o a b c i) (Gb o a b c i):=by
 unfold fH Gb;by_cases h0:o<0
 ·rw[oDT h0];exact .inr ⟨λh=>by omega,rfl⟩
 rw[oDF h0];by_cases h1:o>24
 ·rw[oDT h1];exact .inr ⟨λh=>by omega,rfl⟩
 rw[oDF h1,BK,rz (by omega) (by omega)];simp
 rcases oO (v:=a) (m:=7)with⟨hA,e⟩|⟨hA,e⟩
 rotate_left
 ·rw[e];exact .inr ⟨λh=>hA h.2.1,rfl⟩
 rw[e]
 rcases oO (v:=b) (m:=7)with⟨hB,e⟩|⟨hB,e⟩
 rotate_left
 ·rw[e];exact .inr ⟨λh=>hB h.2.2.1,rfl⟩
 rw[e]
 rcases oO (u:=eH o) (v:=c) (m:=7)with⟨hC,e⟩|⟨hC,e⟩
 rotate_left
 ·rw[e];exact .inr ⟨λh=>hC h.2.2.2.1,rfl⟩
 rw[e,Fi]
 rcases oO (u:=eZ o) (v:=i) (m:=oA o)with⟨hI,e⟩|⟨hI,e⟩
 rotate_left
 ·simp;rw[e];exact .inr ⟨λh=>hI h.2.2.2.2,rfl⟩
 simp;rw[e];exact .inl ⟨⟨by omega,hA,hB,hC,hI⟩,rfl⟩
theorem In{o a b c i:Int}:Cd (eE o a b c i) (Gb o a b c i):=by
 have step:∀(k:Nat)(x:Int)(u:Bool),k<3->[a,b,c][k]?=some x->(k=0->u=eO o)->(k=1->u=eM o)->(k=2->u=eH o)->
  (Fld u x 7/\cI (3,(k:Int),o,a,b,c,i,eO o,eM o,eH o,eZ o,[a,b,c],())=some (.inl (3,((k+1:Nat):Int),o,a,b,c,i,eO o,eM o,eH o,eZ o,[a,b,c],())))\/
  (¬Fld u x 7/\cI (3,(k:Int),o,a,b,c,i,eO o,eM o,eH o,eZ o,[a,b,c],())=some (.inr (.inl (false,())))):=by
  intro k x u hk hx h0 h1 h2;unfold cI;dsimp only;rw[oDT (show(k:Int)<3 by omega),bV];simp only[oCT,oBS,show bS [a,b,c] k=some x from hx];by_cases g0:x<0
  ·rw[oDT g0];exact .inr ⟨λh=>by unfold Fld at h;omega,rfl⟩
  rw[oDF g0];by_cases g1:x>=8
  ·rw[oDT g1];exact .inr ⟨λh=>by unfold Fld at h;omega,rfl⟩
  rw[oDF g1];have hw:w64 ((k:Int)+1)=((k+1:Nat):Int):=bR (by omega) (by omega)
  have YH:∀(R:Bool),(R=true↔¬Fld u x 7)->(Fld u x 7/\(bif R then some (.inr (.inl (false,())))else some (.inl ((3:Int),w64 ((k:Int)+1),o,a,b,c,i,eO o,eM o,eH o,eZ o,[a,b,c],())):Option ((Int×Int×Int×Int×Int×Int×Int×Bool×Bool×Bool×Bool×(List (Int))×Unit)⊕((Bool×Unit)⊕(Int×Int×Bool×Int×Int×Int×Int×Int×Bool×Bool×Bool×Bool×(List (Int))×Unit))))=some (.inl (3,((k+1:Nat):Int),o,a,b,c,i,eO o,eM o,eH o,eZ o,[a,b,c],())))\/
   (¬Fld u x 7/\(bif R then some (.inr (.inl (false,())))else some (.inl ((3:Int),w64 ((k:Int)+1),o,a,b,c,i,eO o,eM o,eH o,eZ o,[a,b,c],())):Option ((Int×Int×Int×Int×Int×Int×Int×Bool×Bool×Bool×Bool×(List (Int))×Unit)⊕((Bool×Unit)⊕(Int×Int×Bool×Int×Int×Int×Int×Int×Bool×Bool×Bool×Bool×(List (Int))×Unit))))=some (.inr (.inl (false,())))):=by
   intro R hR
   cases R with
   |true=>exact .inr ⟨hR.1 rfl,rfl⟩
   |false=>exact .inl ⟨Classical.byContradiction λh=>(by cases hR.2 h),by rw[hw];rfl⟩
  have Td:(x != 0)=true↔¬x=0:=by rw[bne_iff_ne]
  have hF:u=false->((x != 0)=true↔¬Fld u x 7):=λhu=>by
   rw[Td];unfold Fld;rw[hu];exact⟨λh g=>g.elim h λg=>(by cases g.1),λh g=>h (.inl g)⟩
  have hT:u=true->((false=true)↔¬Fld u x 7):=λhu=>⟨λh=>(by cases h),λh=>absurd (show Fld u x 7 by rw[hu];exact(show x=0\/(0<x/\x<=7) by omega).elim .inl λg=>.inr ⟨rfl,g⟩) h⟩
  rcases(show k=0\/k=1\/k=2 by omega)with rfl|rfl|rfl
  ·have hu:=h0 rfl
   cases hA:eO o with
   |true=>rw[hA]at hu YH;exact YH false (hT hu)
   |false=>rw[hA]at hu YH;exact YH (x != 0) (hF hu)
  ·have hu:=h1 rfl
   cases hB:eM o with
   |true=>rw[hB]at hu YH;exact YH false (hT hu)
   |false=>rw[hB]at hu YH;exact YH (x != 0) (hF hu)
  ·have hu:=h2 rfl
   cases hC:eH o with
   |true=>rw[hC]at hu YH;exact YH false (hT hu)
   |false=>rw[hC]at hu YH;exact YH (x != 0) (hF hu)
 unfold eE;by_cases h0:o<0
 ·rw[oDT h0];exact .inr ⟨λh=>by unfold Gb at h;omega,rfl⟩
 rw[oDF h0];by_cases h1:o>24
 ·rw[oDT h1];exact .inr ⟨λh=>by unfold Gb at h;omega,rfl⟩
 rw[oDF h1,rz (by omega) (by omega)];simp only[oCF,oBS];rw[show bQ [a,b,c].length=3 from rfl]
 rcases Eb (f:=cI) (N:=NN) (bad:=.inl (false,())) (good:=.inr (3,3,false,o,a,b,c,i,eO o,eM o,eH o,eZ o,[a,b,c],())) (λk=>(3,(k:Int),o,a,b,c,i,eO o,eM o,eH o,eZ o,[a,b,c],())) (n:=3) (λk=>match k with|0=>Fld (eO o) a 7|1=>Fld (eM o) b 7|_=>Fld (eH o) c 7) (by unfold NN;omega) (λk hk _=>by
  rcases(show k=0\/k=1\/k=2 by omega)with rfl|rfl|rfl
  ·exact step 0 a _ (by omega) rfl (λ_=>rfl) (by omega) (by omega)
  ·exact step 1 b _ (by omega) rfl (by omega) (λ_=>rfl) (by omega)
  ·exact step 2 c _ (by omega) rfl (by omega) (by omega) (λ_=>rfl)) rfl with⟨hp,e⟩|⟨hp,e⟩
 rotate_left
 ·rw[show bU cI NN (3,0,o,a,b,c,i,eO o,eM o,eH o,eZ o,[a,b,c],())=_ from e];refine .inr ⟨λh=>hp λk hk=>?_,rfl⟩
  rcases(show k=0\/k=1\/k=2 by omega)with rfl|rfl|rfl
  ·exact h.2.1
  ·exact h.2.2.1
  ·exact h.2.2.2.1
 rw[show bU cI NN (3,0,o,a,b,c,i,eO o,eM o,eH o,eZ o,[a,b,c],())=_ from e];dsimp only;have hA:=hp 0 (by omega);have hB:=hp 1 (by omega);have hC:=hp 2 (by omega)
 have tail:i<=65535->((dh o).bind λ(x25,_)=>bif x25 then some ((decide (i<64)),())else bif(o==15)then some ((decide (i<4)),())else bif(o==23)then some ((decide (i<=15)),())else some (true,()))=some (decide (i<=oA o),()):=by
  intro hi;rw[jG];unfold oA;simp only[oBS];cases fU o<;>cases(o==15)<;>cases(o==23)<;>simp only[oCT,oCF]
  all_goals first
   |rw[oDT hi]
   |rw[show decide (i<64)=decide (i<=63)from decide_eq_decide.2 (by omega)]
   |rw[show decide (i<4)=decide (i<=3)from decide_eq_decide.2 (by omega)]
 have NT:=Di o;by_cases g0:i<0
 ·rw[oDT g0];exact .inr ⟨λh=>by have:=h.2.2.2.2;unfold Fld at this;omega,rfl⟩
 rw[oDF g0];by_cases g1:i>65535
 ·rw[oDT g1];exact .inr ⟨λh=>by have:=h.2.2.2.2;unfold Fld at this;omega,rfl⟩
 rw[oDF g1]
 have VC:0<=oA o:=by
  unfold oA;cases fU o<;>cases(o==15)<;>cases(o==23)<;>simp only[oCT,oCF]<;>omega
 cases hu:eZ o with
 |false=>
  by_cases gi:i=0
  ·subst gi;simp only[oCF,Bool.not_false,oCT,oBS,bne_self_eq_false];rw[tail (by omega),oDT VC];exact .inl ⟨⟨by omega,hA,hB,hC,.inl rfl⟩,rfl⟩
  ·rw[show(i != 0)=true from bne_iff_ne.2 gi];exact .inr ⟨λh=>by have:=h.2.2.2.2;unfold Fld at this;rw[hu]at this;exact this.elim gi λh=>(by cases h.1),rfl⟩
 |true=>
  simp only[oCF,oNT,oBS];rw[tail (by omega)];by_cases gm:i<=oA o
  ·rw[oDT gm];refine .inl ⟨⟨by omega,hA,hB,hC,?_⟩,rfl⟩;rw[hu];exact(show i=0\/(0<i/\i<=oA o) by omega).elim .inl λg=>.inr ⟨rfl,g⟩
  ·rw[oDF gm];exact .inr ⟨λh=>by have:=h.2.2.2.2;unfold Fld at this;omega,rfl⟩
def Fa(bs ss:List Int)(a:Int):Nat->Nat->Option (Int×Int)
 |0,_=>none
 |n+1,k=>if bs.getD k 0<=a/\a<bs.getD k 0+ss.getD k 0 then some ((k:Int),a-bs.getD k 0)else Fa bs ss a n (k+1)
def Hx(bs ss:List Int)(a:Int):Option (Int×Int):=Fa bs ss a bs.length 0
theorem F5{bs ss:List Int}{key a:Int}(h:LV bs ss)(ha:W16 a):cY bs key ss a=some (match Hx bs ss a with|some (r,o)=>(r,o,true,())|none=>(0,0,false,())):=by
 obtain⟨hs,hl,hr⟩:=h;obtain⟨a0,a1⟩:=ha;have Wk:=hs.2.1
 have SF:∀(n k N:Nat),k+n=bs.length->n<N->bU ch N (ss,a,bs,(bs.length:Int),(k:Int),bs,key,0,0,())=some (match Fa bs ss a n k with|some (r,o)=>.inl (true,r,o,())|none=>.inr (ss,a,bs,(bs.length:Int),(bs.length:Int),false,bs,key,0,0,())):=by
  intro n
  induction n with
  |zero=>
   intro k N hk hN;obtain⟨N,rfl⟩:∃M,N=M+1:=⟨N-1,by omega⟩
   obtain rfl:k=bs.length:=by omega
   have e:ch (ss,a,bs,(bs.length:Int),(bs.length:Int),bs,key,0,0,())=some (.inr (.inr (ss,a,bs,(bs.length:Int),(bs.length:Int),false,bs,key,0,0,()))):=by
    refine Ok.eq ?_;unfold ch;dsimp only
    (with_reducible refine bN (λZW=>?_) λZW=>?_)
    ·omega
    ·exact Ok.ret rfl
   simp only[bU,e,oBS,Fa]
  |succ n ih=>
   intro k N hk hN;obtain⟨N,rfl⟩:∃M,N=M+1:=⟨N-1,by omega⟩;obtain⟨b,hb⟩:∃b,bs[k]?=some b:=⟨_,oGE (by omega)⟩;obtain⟨z,hz⟩:∃z,ss[k]?=some z:=⟨_,oGE (by omega)⟩;have X':=hs.2.2 z (ca hz);have hrk:=hr k (by omega);unfold jX at hrk;rw[bW hb,bW hz]at hrk;by_cases hh:b<=a/\a<b+z
   ·have e:ch (ss,a,bs,(bs.length:Int),(k:Int),bs,key,0,0,())=some (.inr (.inl (true,(k:Int),a-b,()))):=by
     refine Ok.eq ?_;unfold ch;dsimp only;rw[oDT (show(k:Int)<bs.length by omega),bV];simp only[oCT,oBS,show bS bs k=some b from hb,show bS ss k=some z from hz];rw[oDT (show a>=b by omega),bR (x:=b+z) (by omega) (by omega),oDT hh.2,bR (x:=a-b) (by omega) (by omega)];exact Ok.ret rfl
    simp only[bU,e,oBS,Fa,bW hb,bW hz,oIP hh]
   ·have e:ch (ss,a,bs,(bs.length:Int),(k:Int),bs,key,0,0,())=some (.inl (ss,a,bs,(bs.length:Int),((k+1:Nat):Int),bs,key,0,0,())):=by
     refine Ok.eq ?_;unfold ch;dsimp only;rw[oDT (show(k:Int)<bs.length by omega),bV];simp only[oCT,oBS,show bS bs k=some b from hb,show bS ss k=some z from hz];rw[bR (x:=b+z) (by omega) (by omega)];by_cases h1:a>=b
     ·rw[oDT h1,oDF (show ¬a<b+z by omega)];simp only[oCT,oCF];rw[bR (x:=(k:Int)+1) (by omega) (by omega)];exact Ok.ret rfl
     ·rw[oDF h1];simp only[oCF];rw[bR (x:=(k:Int)+1) (by omega) (by omega)];exact Ok.ret rfl
    simp only[bU,e,oBS,Fa,bW hb,bW hz,oIN hh];exact ih (k+1) N (by omega) (by omega)
 unfold cY Hx;delta bQ
 try dsimp only
 rw[show bU ch NN (ss,a,bs,(bs.length:Int),0,bs,key,0,0,())=_ from SF bs.length 0 NN (by omega) (by unfold NN;omega)]
 cases Fa bs ss a bs.length 0 with
 |some x=>rfl
 |none=>rfl
def Is(bs ss:List Int)(key:Int)(c:DCe):DCn:=
 if c.1=0 then(0,c.2,0,0)else if c.1=2 then(2,wk .u16 (c.2-key),0,0)else match Hx bs ss c.2 with|some (r,o)=>(1,0,r,o)|none=>(1,0,-1,c.2)
def Fq(cs:List DCe)(ls:List DLn)(a:Int):DCe:=
 match ls[(a/4%4).toNat]? with
 |some x=>if x.1=a/4 then x.2.2.getD (a%4).toNat (0,0)else cs.getD a.toNat (0,0)
 |none=>(0,0)
theorem getD_some{α:Type}{l:List α}{k:Nat}{d x:α}(h:l[k]?=some x):l.getD k d=x:=by simp_all
def kB(call:Int):List Int:=
 if call=0\/call=8\/call=9\/call=11\/call=12 then[78]else if call=1\/call=2 then[72,80,78]else if call=3 then[78,78]else if call=4 then[72]else if call=5 then[72,78]
 else if call=10 then[78,88]else if call=13\/call=14 then[78,80,78]else[]
def Ib(k t:Int):Bool:=if k=78 then t==0 else if k=72 then t==2 else if k=80 then t==1 else true
def Ic(call:Int):Int:=if call=1\/call=13 then 1 else if call=2\/call=14 then 2 else 0
structure IH (call:Int)(m:Int)(bs ss:List Int)(rs:List DCe):Prop where
 fit:∀(j:Nat) k c,(kB call)[j]?=some k->rs[j]?=some c->Ib k c.1=true
 buf:0<Ic call->∃p q,rs[1]?=some p/\rs[2]?=some q/\q.2<=16/\p.1=1/\∃(j:Nat)(b z:Int),bs[j]?=some b/\ss[j]?=some z/\b<=p.2/\p.2+q.2<=b+z
 code:call=10\/call=12->∃c,rs[0]?=some c/\c.2<m
structure Iz (n:Int)(ss:List Int)(i stop trap count pc call:Int)(args data:List DCn):Prop where
 hthr:0<=i/\i<4
 hstop:0<=stop/\stop<=3
 htrap:0<=trap/\trap<=6
 hcnt:0<=count/\count<=n
 hpc:0<=pc/\pc<=255
 hcall:0<=call/\call<=15
 hargs:args.length<=3/\∀c∈args,Pr ss c
 hdata:data.length<=16/\∀c∈data,Pr ss c
 hkind:stop=1->args.length=(kB call).length/\∀(j:Nat) k a,(kB call)[j]?=some k->args[j]?=some a->Ib k a.1=true
 hbuf:stop=1->Ic call=2->∃a,args[2]?=some a/\a.2.1<=16
theorem me{α β:Type}(f:α->β){l:List α}{k:Nat}{x:α}(h:l[k]?=some x):(l.take k).map f++[f x]=(l.take (k+1)).map f:=by
 rw[List.take_add_one,h];simp
structure HY (ss:List Int)(t v r o:Int)(data:List DCn)(sp:Int)(w:Bool):Prop where
 val:Pr ss (t,v,r,o)
 dat:data.length<=64/\∀c∈data,Pr ss c
 spn:-1<=sp/\sp<=3
theorem Pr.val{ss:List Int}{c:DCn}(h:Pr ss c):W16 c.2.1:=by
 rcases h with⟨_,_,_,h⟩|⟨_,h,_⟩
 ·exact h
 ·rw[h];exact⟨by decide,by decide⟩
structure Iy (n:Int)(q:Nat)(code:List DIn)(ss:List Int)(dt:List (List Int))(bs:List Int)(cs:List DCe)(ls:List DLn)(ts:List DTh)(ck rn:List Int)(ins:List (List Int))(d:List (List DCn))(os:List DOp)(us:List DOu)(ow:List Int)(qs:List (List Int))(rec:List DEn)(js:List Int):Prop where
 prog:eU code ss dt
 mach:MOk n ss bs cs ls ts
 outs:HZ ss ck rn ins d os us
 lock:F3 ow qs
 rlen:rec.length<=q
 jlen:js.length=4
theorem Bo{l ss:List Int}{k:Int}(hs:Cc ss)(h:DOk l k):Ok (gY ss l k) λr=>∃bs key k',r=(bs,key,l,k',())/\LV bs ss/\W16 key/\DOk l k':=by
 unfold gY
 (with_reducible refine dV (by omega) (by omega) (by omega) (λv0 k0 a0 b0 d0=>?_);try dsimp only)
 refine(Fo hs a0 (by omega)).bind ?_;rintro _ ⟨key,rfl,hk⟩;exact Ok.ret ⟨_,_,_,rfl,G6 hs a0,hk,d0⟩
def H8(bs ss:List Int)(key:Int)(cs:List DCe)(ls:List DLn)(r o:Nat):DCn:=Is bs ss key (Fq cs ls (bs.getD r 0+o))
def H7(bs ss:List Int)(key:Int)(cs:List DCe)(ls:List DLn)(r:Nat):List DCn:=(List.range (ss.getD r 0).toNat).map (H8 bs ss key cs ls r)
def Hy(bs ss:List Int)(key:Int)(cs:List DCe)(ls:List DLn):List (List DCn):=(List.range ss.length).map (H7 bs ss key cs ls)
theorem LV.at_{bs ss:List Int}(h:LV bs ss){r:Nat}(hr:r<ss.length):∃b z,bs[r]?=some b/\ss[r]?=some z/\1<=z/\z<=32/\0<=b/\b+z<=512:=by
 have ⟨hs,hl,hg⟩:=h;have ⟨z,hz⟩:∃z,ss[r]?=some z:=⟨_,oGE (by omega)⟩;have h1:=hg r (by omega);unfold jX at h1;have h2:=hs.2.2 z (ca hz)
 simp_all
structure Iw (n:Int)(ss:List Int)(v:DTs):Prop where
 state:0<=v.1/\v.1<=4
 pc:0<=v.2.1/\v.2.1<=255
 count:0<=v.2.2.1/\v.2.2.1<=n
 handler:-1<=v.2.2.2.1/\v.2.2.2.1<=255
 saved:-1<=v.2.2.2.2.1/\v.2.2.2.2.1<=255
 trap:0<=v.2.2.2.2.2.1/\v.2.2.2.2.2.1<=6
 code:W16 v.2.2.2.2.2.2.1
 len:v.2.2.2.2.2.2.2.length=8
 regs:∀c∈v.2.2.2.2.2.2.2,Pr ss c
structure Id (n:Int)(ss:List Int)(rg:List (List DCn))(vs:List DTs):Prop where
 rlen:rg.length=ss.length
 fit:∀(j:Nat) x z,rg[j]?=some x->ss[j]?=some z->(x.length:Int)=z
 cells:∀x∈rg,∀c∈x,Pr ss c
 vlen:vs.length=4
 views:∀v∈vs,Iw n ss v
theorem LV.apart{bs ss:List Int}(h:LV bs ss){r r':Nat}{b z b' z' o o':Int}(hne:r≠r')(hb:bs[r]?=some b)(hz:ss[r]?=some z)(Zl:bs[r']?=some b')(X9:ss[r']?=some z')(h0:0<=o)(h1:o<z)(NO:0<=o')(ST:o'<z'):b+o≠b'+o':=by
 have ⟨_,hl,hg⟩:=h;have l1:=(oGS hb).1;have l2:=(oGS Zl).1;have g1:=hg r l1;have g2:=hg r' l2;unfold jX at g1 g2;rw[bW hb,bW hz]at g1;rw[bW Zl,bW X9]at g2;by_cases hlt:r'<r
 ·have:=g1.2.2 r' hlt;rw[bW Zl,bW X9]at this;omega
 ·have:=g2.2.2 r (by omega);rw[bW hb,bW hz]at this;omega
structure StW (ss:List Int)(rg:List (List DCn))(vs:List DTs):Prop where
 rlen:rg.length=ss.length
 fit:∀(j:Nat) x z,rg[j]?=some x->ss[j]?=some z->(x.length:Int)=z
 cells:∀x∈rg,∀c∈x,Pr ss c
 vlen:vs.length=4
 len:∀v∈vs,v.2.2.2.2.2.2.2.length=8
 regs:∀v∈vs,∀c∈v.2.2.2.2.2.2.2,Pr ss c
section
variable {key:Int} {code:List DIn} {ss bs:List Int} {dt:List (List Int)} {rg:List (List DCn)} {vs:List DTs}
end
section
variable {n key:Int} {code:List DIn} {ss bs:List Int} {dt:List (List Int)} {rg:List (List DCn)} {vs:List DTs}
theorem Id.w{n:Int}{ss:List Int}{R:List (List DCn)}{T:List DTs}(h:Id n ss R T):StW ss R T:=
 ⟨h.rlen,h.fit,h.cells,h.vlen,λv hv=>(h.views v hv).len,λv hv=>(h.views v hv).regs⟩
end
def A7:List CT->CT
 | []=>.nat
 | [t]=>t
 |t::u::r=>.pair t (A7 (u::r))
def ld:(l:List CT)->HL den l->den (A7 l)
 | [],_=>(0:Nat)
 | [_],h=>h.1
 |_::u::r,h=>(h.1,ld (u::r) h.2)
def encL:(l:List CT)->HL den l->List TV
 | [],_=>[]
 |t::r,h=>enc t h.1++encL r h.2
theorem xL:∀(l:List CT)(h:HL den l),enc (A7 l) (ld l h)=encL l h
 | [],_=>rfl
 | [_],h=>(List.append_nil _).symm
 |_::u::r,h=>by
  show enc _ h.1++enc (A7 (u::r)) (ld (u::r) h.2)=_;rw[xL (u::r) h.2];rfl
def zL:(c:CT)->den c->Prop
 |.int k,n=>(Lit.int k n).wf=true
 |.str,s=>ByteArray.size s<=maxLen
 |.row _ t,xs=>List.length xs<=maxLen/\∀x∈xs,zL t x
 |.pair a b,x=>zL a x.1/\zL b x.2
 |_,_=>True
def GoodL:(l:List CT)->HL den l->Prop
 | [],_=>True
 |t::r,h=>zL t h.1/\GoodL r h.2
theorem uD:∀(l:List CT)(h:HL den l),GoodL l h->zL (A7 l) (ld l h)
 | [],_,_=>trivial
 | [_],_,g=>g.1
 |_::u::r,h,g=>⟨g.1,uD (u::r) h.2 g.2⟩
def appL:(l m:List CT)->HL den l->HL den m->HL den (l++m)
 | [],_,_,k=>k
 |_::r,m,h,k=>(h.1,appL r m h.2 k)
theorem xM:∀(l m:List CT)(h:HL den l)(k:HL den m),encL (l++m) (appL l m h k)=encL l h++encL m k
 | [],_,_,_=>rfl
 |t::r,m,h,k=>by
  show enc t h.1++encL (r++m) (appL r m h.2 k)=(enc t h.1++encL r h.2)++_;rw[xM r m h.2 k,List.append_assoc]
theorem xB:∀(l m:List CT)(h:HL den l)(k:HL den m),GoodL l h->GoodL m k->GoodL (l++m) (appL l m h k)
 | [],_,_,_,_,g=>g
 |_::r,m,h,k,g,g'=>⟨g.1,xB r m h.2 k g.2 g'⟩
def RelL(w:World):List TV->List Value->Prop
 | [],[]=>True
 |t::ts,v::vs=>gN w (λ_=>True) t v/\RelL w ts vs
 |_,_=>False
theorem RelL.app{w:World}:∀{a:List TV}{x:List Value}{b:List TV}{y:List Value},RelL w a x->RelL w b y->RelL w (a++b) (x++y)
 | [],[],_,_,_,h=>h
 |_::a,_::x,_,_,g,h=>⟨g.1,RelL.app (a:=a) (x:=x) g.2 h⟩
 | [],_::_,_,_,g,_=>g.elim
 |_::_,[],_,_,g,_=>g.elim
theorem RelL.len{w:World}:∀{a:List TV}{x:List Value},RelL w a x->a.length=x.length
 | [],[],_=>rfl
 |_::a,_::x,g=>by rw[oLC,oLC,RelL.len (a:=a) (x:=x) g.2]
 | [],_::_,g=>g.elim
 |_::_,[],g=>g.elim
theorem RelL.get{w:World}:∀{a:List TV}{x:List Value},RelL w a x->∀j (h:j<a.length)(h':j<x.length),gN w (λ_=>True) a[j] x[j]
 |_::_,_::_,g,0,_,_=>g.1
 |_::a,_::x,g,j+1,h,h'=>RelL.get (a:=a) (x:=x) g.2 j (by simpa using h) (by simpa using h')
 | [],_,_,_,h,_=>by simp at h
 |_::_,[],g,_,_,_=>g.elim
def Gr(P:Program)(g:TypeId->Option (List CT)):Nat->List Field->Option (List CT)
 |_,[]=>some []
 |off,f::fs=>match g f.type with
  |some l=>if f.offset=off/\l.length=P.cellsOf f.type then(Gr P g (off+l.length) fs).map (l++·)else none
  |none=>none
def pe(P:Program):Nat->TypeId->Option (List CT)
 |0,_=>none
 |n+1,t=>match P.underlying t with
  |some .bool=>some [.bool]
  |some (.int k)=>some [.int k]
  |some .string=>some [.str]
  |some (.slice e)=>match pe P n e with
   |some l=>if l.length=P.cellsOf e then some [.row false (A7 l)]else none
   |none=>none
  |some (.struct fs)=>match Gr P (pe P n) 0 fs.toList with
   |some l=>if l.length=P.cellsOf t then some l else none
   |none=>none
  |_=>none
section
variable {H:Type} {ec:TypeId×Value->H} {P:Program} {w:World} {base:Nat} {spare:Nat->Bool} {held:Bool}
theorem Bw{g:TypeId->Option (List CT)}{m:Nat}{cs:List Value}
 (ih:∀t L,g t=some L->∀cs x,DataW.trod ec P w base spare held m t cs=some x->∃h:HL den L,GoodL L h/\RelL w (encL L h) cs):
 ∀(fs:List Field)(off:Nat)(L:List CT),Gr P g off fs=some L->(∀f∈fs,∃x,DataW.trod ec P w base spare held m f.type ((cs.drop f.offset).take (P.cellsOf f.type))=some x)->
  ∃h:HL den L,GoodL L h/\RelL w (encL L h) ((cs.drop off).take L.length):=by
 intro fs
 induction fs with
 |nil=>
  intro off L hL _
  injection hL with hL
  subst hL;exact⟨(),trivial,trivial⟩
 |cons f fs SE=>
  intro off L hL hx;unfold Gr at hL;split at hL
  ·rename_i l hg;split at hL
   ·rename_i ho;obtain⟨rfl,hlen⟩:=ho
    cases hr:Gr P g (f.offset+l.length) fs with
    |none=>simp_all
    |some L2=>
     rw[hr]at hL
     injection hL with hL
     subst hL;obtain⟨x,h1⟩:=hx f List.mem_cons_self;obtain⟨h,g1,r1⟩:=ih _ _ hg _ _ h1;have ⟨k,g2,r2⟩:=SE _ _ hr λf' UM=>hx f' (List.mem_cons_of_mem _ UM);refine⟨appL l L2 h k,xB _ _ _ _ g1 g2,?_⟩;rw[xM,List.length_append,List.take_add,List.drop_drop];rw[hlen];rw[hlen]at r2;exact r1.app r2
   ·cases hL
  ·cases hL
theorem GD:∀(n:Nat)(t:TypeId)(L:List CT),pe P n t=some L->∀(VU:Nat)(cs:List Value)(x:DataW H×List MemPlace),DataW.trod ec P w base spare held VU t cs=some x ->
 ∃h:HL den L,GoodL L h/\RelL w (encL L h) cs:=by
 intro n
 induction n with
 |zero=>intro t L h;cases h
 |succ n ih=>
  intro t L hL VU cs x hx;unfold pe at hL;split at hL
  ·rename_i ht
   injection hL with hL
   subst hL;obtain⟨b,rfl,_⟩:=DataW.trod_bool ht hx;exact⟨(b,()),⟨trivial,trivial⟩,.v rfl,trivial⟩
  ·rename_i k ht
   injection hL with hL
   subst hL;obtain⟨z,rfl,_,hw⟩:=DataW.trod_int ht hx;exact⟨(z,()),⟨hw,trivial⟩,.v rfl,trivial⟩
  ·rename_i ht
   injection hL with hL
   subst hL;obtain⟨s,rfl,_,hs⟩:=DataW.trod_string ht hx;exact⟨(s,()),⟨hs,trivial⟩,.v rfl,trivial⟩
  ·rename_i e ht;split at hL
   ·rename_i l hl;split at hL
    ·rename_i hsz
     injection hL with hL
     subst hL
     rcases DataW.trod_slice ht hx with⟨rfl,_⟩|⟨a,len,cap,P',rest,m,_,rfl,_,_,Ye,hmax,Y',Z6,_,_⟩
     ·exact⟨([],()),⟨⟨Nat.zero_le _,λx hx=>by cases hx⟩,trivial⟩,.sl (c:=[]) 1 (λ_ _=>undef) (λi h=>by simp at h) (Nat.le_refl _) (Nat.zero_le _) (λ_=>rfl) (λi j h=>by simp at h) (λi j h=>by simp at h),trivial⟩
     ·have Rf:∀i:Fin len,∃p:HL den l×List Value,GoodL l p.1/\RelL w (encL l p.1) p.2/\w.cells? base (a.add (i.1*P.cellsOf e)) (P.cellsOf e)=some p.2:=by
       intro i;have h1:=Z6 i.1 i.2;rw[oGE (by omega)]at h1;obtain⟨ZP,h2,h3⟩:=Option.bind_eq_some_iff.1 h1;obtain⟨h,g,r⟩:=ih _ _ hl _ _ _ h3;exact⟨(h,ZP),g,r,h2⟩
      obtain⟨f,hf⟩:=Classical.axiomOfChoice Rf
      have clen:∀i,(encL l (f i).1).length=l.length:=λi=>by
       rw[(hf i).2.1.len,(World.cells?_some (hf i).2.2).2.1,hsz]
      have key:gN w (λ_=>True) (.sl ((List.ofFn λi:Fin len=>ld l (f i).1).map (enc (A7 l)))) (.slice (some a) ((List.ofFn λi:Fin len=>ld l (f i).1).map (enc (A7 l))).length cap):=by
       have el:((List.ofFn λi:Fin len=>ld l (f i).1).map (enc (A7 l))).length=len:=by simp
       have eg:∀i (hi:i<((List.ofFn λi:Fin len=>ld l (f i).1).map (enc (A7 l))).length),((List.ofFn λi:Fin len=>ld l (f i).1).map (enc (A7 l)))[i]=encL l (f ⟨i,by omega⟩).1:=by
        intro i hi;simp[xL]
       refine .sl l.length (λi j=>if h:i<len then(f ⟨i,h⟩).2.getD j undef else undef) (λi hi=>by rw[eg i hi,clen]) (by rw[el];exact Ye) hmax (λh=>by cases h) (λi j hi hj=>?_) (λi j hi hj=>?_)
       ·rw[el]at hi
        have cell:∀i' (ZO:i'<len) j',j'<l.length->w.cell? ((a.add (i'*l.length)).add j')=some ((f ⟨i',ZO⟩).2.getD j' undef):=by
         intro i' ZO j' Z0;have h1:=World.cells?_some (hf ⟨i',ZO⟩).2.2;have h2:=h1.2.2 j' (by omega);rw[hsz];rw[h2]
         have:j'<(f ⟨i',ZO⟩).2.length:=by rw[h1.2.1];omega
         simp[this]
        have h0:=World.cell?_spot (cell 0 (by omega) 0 (by omega));obtain⟨b,o,spot⟩:=a
        have Ur:spot=none:=by simpa[Addr.add]using h0
        subst Ur;refine⟨b,o,rfl,trivial,?_⟩;have h2:=cell i hi j hj;rw[Go.WideShapes.add_plain,Go.WideShapes.add_plain]at h2;rw[dif_pos hi,<- h2,Nat.add_assoc]
       ·rw[el]at hi;have hr:=(hf ⟨i,hi⟩).2.1
        have X8:j<(encL l (f ⟨i,hi⟩).1).length:=by rw[eg i (by omega)]at hj;exact hj
        have UO:j<(f ⟨i,hi⟩).2.length:=by rw[<- hr.len];exact X8
        have h3:=hr.get j X8 UO
        simp_all
      rw[List.length_map,List.length_ofFn]at key;refine⟨(List.ofFn λi:Fin len=>ld l (f i).1,()),⟨⟨by rw[List.length_ofFn];omega,λx hx=>?_⟩,trivial⟩,key,trivial⟩;obtain⟨i,rfl⟩:=List.mem_ofFn.1 hx;exact uD _ _ (hf i).1
    ·cases hL
   ·cases hL
  ·rename_i fs ht;split at hL
   ·rename_i l hl;split at hL
    ·rename_i hsz
     injection hL with hL
     subst hL;obtain⟨xs,m,_,_,hlen,NY,hf⟩:=DataW.trod_struct ht hx
     obtain⟨h,g,r⟩:=Bw (cs:=cs) (m:=m) (λt L hL cs x hx=>ih t L hL m cs x hx) fs.toList 0 l hl (by
      intro f OY;obtain⟨i,hi,rfl⟩:=List.mem_iff_getElem.1 OY
      have hi2:i<fs.size:=by simpa using hi
      have h1:=hf i fs[i] (by simp[hi2]);rw[oGE (by omega)]at h1
      exact⟨_,by simpa using h1⟩)
     refine⟨h,g,?_⟩;rw[List.drop_zero,hsz,<- hlen,List.take_length]at r;exact r
    ·cases hL
   ·cases hL
  ·cases hL
theorem intake_arg(n:Nat){t:TypeId}{L:List CT}{v:Value}{d:DataW H}{p:List MemPlace}(hL:pe P n t=some L)(h:DataW.Trod ec P w base spare held t v d p):
 ∃h:HL den L,GoodL L h/\RelL w (encL L h) v.cells.toList:=by
 have ⟨VU,hf⟩:=h;exact GD n t L hL VU _ _ hf
end
theorem plain_one{w:World}{t:TV}{v:Value}(r:RelL w [t] [v]):wC w t v:=r.1.plain
theorem pY{a:List DCe}(h:a.length<=1000):ff a a=some (true,()):=by
 have e:bU fF NN (a,a,(a.length:Int),0,())=some (.inr (a,a,(a.length:Int),(a.length:Int),false,())):=by
  refine s8 (st:=λk=>(a,a,(a.length:Int),(k:Int),())) (n:=a.length) (by unfold NN;omega) ?_ ?_
  ·intro k hk;unfold fF;dsimp only;rw[oDT (show(k:Int)<a.length by omega),bV];simp only[oCT,oBS,show bS a k=some a[k]from oGE hk,BEq.rfl,Bool.and_self,oNT,oCF];rw[bR (x:=(k:Int)+1) (by omega) (by omega)];exact Ok.ret rfl
  ·unfold fF;dsimp only;rw[oDF (show ¬(a.length:Int)<a.length by omega)];exact Ok.ret rfl
 unfold ff;delta bQ;dsimp only;rw[e];simp only[bne_self_eq_false,oCF]
def Sh4(ls:List DLn):Prop:=ls.length<=4/\∀x∈ls,x.2.2.length<=4
theorem Fl{cs:List DCe}{ls:List DLn}(h:cs.length<=1000)(hs:Sh4 ls):iP cs ls cs ls=some (true,()):=by
 have e:bU fC NN ((ls.length:Int),0,cs,ls,cs,ls,())=some (.inr ((ls.length:Int),(ls.length:Int),false,cs,ls,cs,ls,())):=by
  have h4:=hs.1;refine s8 (st:=λk=>((ls.length:Int),(k:Int),cs,ls,cs,ls,())) (n:=ls.length) (by unfold NN;omega) ?_ ?_
  ·intro k hk;unfold fC;dsimp only;have hx:ls[k]?=some ls[k]:=oGE hk;have hl:=hs.2 _ (ca hx);rw[oDT (show(k:Int)<ls.length by omega),bV];simp only[oCT,oBS,show bS ls k=some ls[k]from hx,BEq.rfl,bne_self_eq_false,oNT,oCF];rw[pY (by omega)];simp only[oBS,oNT,oCF];rw[bR (x:=(k:Int)+1) (by omega) (by omega)];exact Ok.ret rfl
  ·unfold fC;dsimp only;rw[oDF (show ¬(ls.length:Int)<ls.length by omega)];exact Ok.ret rfl
 unfold iP;rw[pY h];delta bQ;simp only[oBS,oNT,oCF,bne_self_eq_false];rw[e]
theorem iE.sh4{K:Int->Prop}{cs:List DCe}{ls:List DLn}(h:iE K cs ls):Sh4 ls:=⟨by rw[h.llen];omega,λx hx=>by
 obtain⟨i,hi⟩:=List.getElem?_of_mem hx
 exact(h.lines i x hi).len⟩
theorem FB{S T:Type}{f g:S->Option (S⊕T)}(P:S->Prop)(R:T->Prop)(m:S->Nat){n:Nat}{s:S}(hs:P s)(hm:m s<n)
 (h:∀s,P s->(∃s',f s=some (.inl s')/\g s=some (.inl s')/\P s'/\m s'<m s)\/(∃t,f s=some (.inr t)/\g s=some (.inr t)/\R t)):∃t,bU f n s=some t/\bU g n s=some t/\R t:=by
 induction n generalizing s with
 |zero=>omega
 |succ n ih=>
  rcases h s hs with⟨s',e1,e2,hp,hl⟩|⟨t,e1,e2,hr⟩
  ·simp only[bU,e1,e2,oBS];exact ih hp (by omega)
  ·exact⟨t,by simp only[bU,e1,oBS],by simp only[bU,e2,oBS],hr⟩
def rO(x:Int):DCe:=(0,x)
theorem yU{d:List Int}(h:d.length<=1000):gf d=some (d.map rO,()):=by
 have e:bU dN NN (d,(d.length:Int),0,[],())=some (d,(d.length:Int),(d.length:Int),false,d.map rO,()):=by
  have:=s8 (f:=dN) (N:=NN) (st:=λk=>(d,(d.length:Int),(k:Int),(d.take k).map rO,())) (n:=d.length) (t:=(d,(d.length:Int),(d.length:Int),false,d.map rO,())) (by unfold NN;omega) ?_ ?_
  ·exact this
  ·intro k hk;unfold dN;dsimp only;have hx:d[k]?=some d[k]:=oGE hk;rw[oDT (show(k:Int)<d.length by omega),bV];simp only[oCT,oBS,show bS d k=some d[k]from hx];refine bP (cV (by rw[List.length_map,oLT];simp only[List.length_singleton];omega)) ?_;rw[bR (x:=(k:Int)+1) (by omega) (by omega)];refine Ok.ret ?_;rw[<- me rO hx];rfl
  ·unfold dN;dsimp only;rw[oDF (show ¬(d.length:Int)<d.length by omega),List.take_length];exact Ok.ret rfl
 unfold gf;delta bQ;dsimp only;rw[e];rfl
theorem yX{α:Type}{f:α->α}{c:α}{R:List α}:∀{A:List α},List.modify (A++c::R) A.length f=A++f c::R:=by
 intro A
 induction A with
 |nil=>rfl
 |cons a A ih=>simp only[List.cons_append,oLC,List.modify_succ_cons,ih]
def qg(cs:List DCe)(b:Nat)(d:List Int):List DCe:=cs.take b++d.map rO++cs.drop (b+d.length)
theorem xk{cs:List DCe}{b:Nat}{d:List Int}(h:b+d.length<=cs.length):(qg cs b d).length=cs.length:=by
 unfold qg;simp only[List.length_append,oLT,List.length_map,List.length_drop];omega
theorem xg{cs:List DCe}{b:Nat}:qg cs b []=cs:=by
 unfold qg;simp
theorem xj{P:DCe->Prop}{cs:List DCe}{b:Nat}{d:List Int}(hc:∀c∈cs,P c)(hd:∀x∈d,P (rO x)):∀c∈qg cs b d,P c:=by
 intro c h;unfold qg at h;rcases List.mem_append.1 h with h|h
 ·rcases List.mem_append.1 h with h|h
  ·exact hc c (List.mem_of_mem_take h)
  ·obtain⟨x,hx,rfl⟩:=List.mem_map.1 h;exact hd x hx
 ·exact hc c (List.mem_of_mem_drop h)
theorem BJ{cs:List DCe}{b:Nat}{d:List Int}{code:List DIn}{ss bs:List Int}{dt:List (List Int)}{key:Int}{ls:List DLn}{r:Nat}{n:Int}(W1:cs.length=512)(h0:∀c∈cs,c.1=0)(hb:bs[r]?=some (b:Int))(hd:b+d.length<=512):
 bU cF NN ((r:Int),dt,n,(r:Int),d,(d.length:Int),0,code,ss,dt,bs,key,(),(),cs,ls,())=some ((r:Int),dt,n,(r:Int),d,(d.length:Int),(d.length:Int),false,code,ss,dt,bs,key,(),(),qg cs b d,ls,()):=by
 have:=s8 (f:=cF) (N:=NN) (st:=λk=>((r:Int),dt,n,(r:Int),d,(d.length:Int),(k:Int),code,ss,dt,bs,key,(),(),qg cs b (d.take k),ls,())) (n:=d.length) (t:=((r:Int),dt,n,(r:Int),d,(d.length:Int),(d.length:Int),false,code,ss,dt,bs,key,(),(),qg cs b d,ls,())) (by unfold NN;omega) ?_ ?_
 ·have e0:qg cs b (d.take 0)=cs:=by rw[List.take_zero];exact xg
  rw[e0]at this;exact this
 ·intro k hk;obtain⟨x,hx⟩:∃x,d[k]?=some x:=⟨_,oGE hk⟩;obtain⟨c,hc⟩:∃c,cs[b+k]?=some c:=⟨_,oGE (by omega)⟩;have Yc:=h0 c (ca hc)
  have hl:(cs.take b++(d.take k).map rO).length=b+k:=by
   simp only[List.length_append,oLT,List.length_map];omega
  have hdr:cs.drop (b+k)=c::cs.drop (b+k+1):=by
   obtain⟨h1,h2⟩:=oGS hc;rw[<- h2];exact List.drop_eq_getElem_cons h1
  have Yy:(d.take k).length=k:=by rw[oLT];omega
  have e1:qg cs b (d.take k)=(cs.take b++(d.take k).map rO)++c::cs.drop (b+k+1):=by
   unfold qg;rw[Yy,hdr]
  have e2:qg cs b (d.take (k+1))=(cs.take b++(d.take k).map rO)++rO x::cs.drop (b+k+1):=by
   unfold qg;rw[show(d.take (k+1)).length=k+1 by rw[oLT];omega,<- me rO hx];simp[Nat.add_assoc]
  have hg:bS (qg cs b (d.take k)) (b+k)=some c:=by
   unfold bS;rw[e1,<- hl,List.getElem?_append_right (by omega)];simp
  unfold cF;dsimp only;rw[oDT (show(k:Int)<d.length by omega),bV,bV];simp only[oCT,oBS,show bS d k=some x from hx,show bS bs r=some (b:Int)from hb];rw[bR (x:=(b:Int)+k) (by omega) (by omega),show(b:Int)+k=((b+k:Nat):Int) by omega,bV];simp only[oBS,hg];rw[bR (x:=(k:Int)+1) (by omega) (by omega)];refine Ok.ret ?_
  have e3:List.modify (qg cs b (d.take k)) (b+k) (λe=>(e.1,x))=qg cs b (d.take (k+1)):=by
   rw[e1,e2,<- hl,yX,Yc];rfl
  rw[e3];rfl
 ·unfold cF;dsimp only;rw[oDF (show ¬(d.length:Int)<d.length by omega),List.take_length];exact Ok.ret rfl
theorem Bd:jb=some (cz,()):=by kernel_rfl
def H5(ss:List Int)(dt:List (List Int)):Prop:=∀i,i<dt.length->∀d z,dt[i]?=some d->ss[i]?=some z->(d.length:Int)<=z
def VJ(code:List DIn)(j:Nat):Prop:=∀x,code[j]?=some x->Gb x.1 x.2.1 x.2.2.1 x.2.2.2.1 x.2.2.2.2
def Ee(n m:Int)(x:DIn):Bool:=(fU x.1&&decide (x.2.2.2.2>=n))||(x.1==15&&decide (x.2.2.2.2>=m))
def RJ(code:List DIn)(n m:Int)(j:Nat):Prop:=∀x,code[j]?=some x->Ee n m x=false
structure PrV (code:List DIn)(ss:List Int)(dt:List (List Int)):Prop where
 sz:Cc ss
 len:dt.length=ss.length
 fit:H5 ss dt
 cl:1<=code.length/\code.length<=64
 ins:∀j,j<code.length->VJ code j
 rng:∀j,j<code.length->RJ code code.length ss.length j
theorem FP:jU=cH:=rfl
theorem Ir{code:List DIn}{ss:List Int}{dt:List (List Int)}(hc:code.length<=1000):
 (¬(∀j,j<code.length->VJ code j)/\bU dF NN (0,code,(code.length:Int),0,code,ss,dt,())=some (.inl (5,())))\/
 ((∀j,j<code.length->VJ code j)/\∃e a b c d,bU dF NN (0,code,(code.length:Int),0,code,ss,dt,())=some (.inr (e,a,b,c,d,code,ss,dt,()))/\
  ((e=0/\∀j,j<code.length->RJ code code.length ss.length j)\/(e=6/\¬ ∀j,j<code.length->RJ code code.length ss.length j))):=by
 obtain⟨t,e1,_,ht⟩:=FB (f:=dF) (g:=dF) (n:=NN) (s:=(0,code,(code.length:Int),0,code,ss,dt,()))
  (P:=λs=>∃(k:Nat)(e:Int),s=(e,code,(code.length:Int),(k:Int),code,ss,dt,())/\k<=code.length/\(∀j,j<k->VJ code j)/\((e=0/\∀j,j<k->RJ code code.length ss.length j)\/(e=6/\∃j,j<k/\¬RJ code code.length ss.length j)))
  (R:=λt=>(t=.inl (5,())/\¬ ∀j,j<code.length->VJ code j)\/∃e a b c d,t=.inr (e,a,b,c,d,code,ss,dt,())/\(∀j,j<code.length->VJ code j)/\((e=0/\∀j,j<code.length->RJ code code.length ss.length j)\/(e=6/\¬ ∀j,j<code.length->RJ code code.length ss.length j)))
  (m:=λs=>(s.2.2.1-s.2.2.2.1).toNat) ⟨0,0,rfl,by omega,λj hj=>by omega,.inl ⟨rfl,λj hj=>by omega⟩⟩ (by unfold NN;dsimp only;omega) (by
   rintro _ ⟨k,e,rfl,hk,hV,hR⟩;unfold dF;delta bQ;dsimp only;by_cases hkl:k<code.length
   rotate_left
   ·obtain rfl:k=code.length:=by omega
    rw[oDF (show ¬(code.length:Int)<code.length by omega)];refine .inr ⟨_,rfl,rfl,.inr ⟨_,_,_,_,_,rfl,hV,?_⟩⟩;rcases hR with h|⟨h,j,hj,hn⟩
    ·exact .inl h
    ·exact .inr ⟨h,λg=>hn (g j hj)⟩
   have hx:code[k]?=some code[k]:=oGE hkl;rw[oDT (show(k:Int)<code.length by omega),bV];simp only[oCT,oBS,show bS code k=some code[k]from hx];generalize code[k]=x at hx
   rcases Io (o:=x.1) (a:=x.2.1) (b:=x.2.2.1) (c:=x.2.2.2.1) (i:=x.2.2.2.2)with⟨hv,ev⟩|⟨hv,ev⟩
   rotate_left
   ·rw[ev];exact .inr ⟨_,rfl,rfl,.inl ⟨rfl,λg=>hv (g k hkl x hx)⟩⟩
   rw[ev,tM,jG]
   have Qs:∀j,j<k+1->VJ code j:=λj hj=>by
    by_cases hjk:j=k
    ·subst hjk;intro y hy;rw[hx]at hy
     injection hy with hy
     rw[<- hy];exact hv
    ·exact hV j (by omega)
   have UF:Ee code.length ss.length x=false->(((e=0/\∀j,j<k->RJ code code.length ss.length j)\/(e=6/\∃j,j<k/\¬RJ code code.length ss.length j))->((e=0/\∀j,j<k+1->RJ code code.length ss.length j)\/(e=6/\∃j,j<k+1/\¬RJ code code.length ss.length j))):=by
    intro hb h
    rcases h with⟨h,g⟩|⟨h,j,hj,g⟩
    ·refine .inl ⟨h,λj hj=>?_⟩;by_cases hjk:j=k
     ·subst hjk;intro y hy;rw[hx]at hy
      injection hy with hy
      rw[<- hy];exact hb
     ·exact g j (by omega)
    ·exact .inr ⟨h,j,by omega,g⟩
   have no:Ee code.length ss.length x=true->(((6:Int)=0/\∀j,j<k+1->RJ code code.length ss.length j)\/((6:Int)=6/\∃j,j<k+1/\¬RJ code code.length ss.length j)):=λhb=>.inr ⟨rfl,k,by omega,λg=>by have:=g x hx;rw[hb]at this;cases this⟩;have hw:w64 ((k:Int)+1)=((k+1:Nat):Int):=bR (by omega) (by omega)
   have hm:((code.length:Int)-((k+1:Nat):Int)).toNat<((code.length:Int)-(k:Int)).toNat:=by omega
   simp only[oBS,oNT,oCF]
   have ZJ:∀B:Bool,Ee code.length ss.length x=B->∃s',(some (.inl ((bif B then(6:Int)else e),code,(code.length:Int),w64 ((k:Int)+1),code,ss,dt,())):Option ((Int×(List DIn)×Int×Int×(List DIn)×(List (Int))×(List (List (Int)))×Unit)⊕((Int×Unit)⊕(Int×(List DIn)×Int×Int×Bool×(List DIn)×(List (Int))×(List (List (Int)))×Unit))))=some (.inl s')/\
    (∃(k:Nat)(e:Int),s'=(e,code,(code.length:Int),(k:Int),code,ss,dt,())/\k<=code.length/\(∀j,j<k->VJ code j)/\((e=0/\∀j,j<k->RJ code code.length ss.length j)\/(e=6/\∃j,j<k/\¬RJ code code.length ss.length j)))/\(s'.2.2.1-s'.2.2.2.1).toNat<((code.length:Int)-(k:Int)).toNat:=by
    intro B hB;rw[hw]
    cases B with
    |true=>exact⟨_,rfl,⟨k+1,6,rfl,by omega,Qs,no hB⟩,hm⟩
    |false=>exact⟨_,rfl,⟨k+1,e,rfl,by omega,Qs,UF hB hR⟩,hm⟩
   unfold Ee at ZJ;cases hj:fU x.1<;>cases hn:decide (x.2.2.2.2>=(code.length:Int))<;>cases h15:(x.1==15)<;>cases hn2:decide (x.2.2.2.2>=(ss.length:Int))<;>rw[hj,hn,h15,hn2]at ZJ
   all_goals
    first
     |obtain⟨s',g1,g2,g3⟩:=ZJ true rfl;exact .inl ⟨s',g1,g1,g2,g3⟩
     |obtain⟨s',g1,g2,g3⟩:=ZJ false rfl;exact .inl ⟨s',g1,g1,g2,g3⟩)
 rcases ht with⟨rfl,h⟩|⟨e,a,b,c,d,rfl,h1,h2⟩
 ·exact .inl ⟨h,e1⟩
 ·exact .inr ⟨h1,e,a,b,c,d,e1,h2⟩
theorem zC{code:List DIn}{ss:List Int}{dt:List (List Int)}(hc:code.length<=1000)(hs:ss.length<=1000)(hd:dt.length<=1000):
 ∃e,gX code ss dt=some (e,())/\dY code ss dt=some (e,())/\(e=0->PrV code ss dt)/\(PrV code ss dt->e=0):=by
 unfold gX dY;rw[tE]
 rcases vg hs with⟨hz,e⟩|⟨hz,e⟩
 rotate_left
 ·rw[e];exact⟨1,rfl,rfl,λh=>(by cases h),λh=>absurd h.sz hz⟩
 rw[e];delta bQ;simp only[oBS,oNT,oCF];by_cases hl:(dt.length:Int)=ss.length
 rotate_left
 ·rw[bne_iff_ne.2 hl];exact⟨1,rfl,rfl,λh=>(by cases h),λh=>absurd (show(dt.length:Int)=ss.length by rw[h.len]) hl⟩
 rw[bne_eq_false_iff_eq.2 hl,FP];simp only[oCF]
 rcases Eb (f:=cH) (N:=NN) (bad:=.inl (1,())) (good:=.inr (dt,(dt.length:Int),(dt.length:Int),false,code,ss,dt,())) (λi=>(dt,(dt.length:Int),(i:Int),code,ss,dt,())) (n:=dt.length) (λi=>∀d z,dt[i]?=some d->ss[i]?=some z->(d.length:Int)<=z) (by unfold NN;omega) (λi hi _=>by
  have hx:dt[i]?=some dt[i]:=oGE hi;have hy:ss[i]?=some ss[i]:=oGE (by omega);generalize dt[i]=x at hx;generalize ss[i]=y at hy;unfold cH;delta bQ;dsimp only;rw[oDT (show(i:Int)<dt.length by omega),bV];simp only[oCT,oBS,show bS dt i=some x from hx,show bS ss i=some y from hy];by_cases g:(x.length:Int)>y
  ·rw[oDT g];exact .inr ⟨λh=>by have:=h _ _ hx hy;omega,rfl⟩
  ·rw[oDF g,bR (x:=(i:Int)+1) (by omega) (by omega)]
   exact .inl ⟨λd z hd hz=>by rw[hx]at hd;rw[hy]at hz;injection hd with hd;injection hz with hz;rw[<- hd,<- hz];omega,rfl⟩) (by
  unfold cH;dsimp only;rw[oDF (show ¬(dt.length:Int)<dt.length by omega)]
  rfl)with⟨hp,e⟩|⟨hp,e⟩
 rotate_left
 ·rw[show bU cH NN (dt,(dt.length:Int),0,code,ss,dt,())=_ from e];exact⟨1,rfl,rfl,λh=>(by cases h),λh=>absurd h.fit hp⟩
 rw[show bU cH NN (dt,(dt.length:Int),0,code,ss,dt,())=_ from e];dsimp only;by_cases h0:code.length=0
 ·rw[show((code.length:Int)==0)=true from beq_iff_eq.2 (by omega),oDT (show(code.length:Int)<1 by omega)];exact⟨3,rfl,rfl,λh=>(by cases h),λh=>by have:=h.cl.1;omega⟩
 rw[show((code.length:Int)==0)=false from oBF (by omega),oDF (show ¬(code.length:Int)<1 by omega)];by_cases h64:(code.length:Int)>64
 ·rw[oDT h64];exact⟨3,rfl,rfl,λh=>(by cases h),λh=>by have:=h.cl.2;omega⟩
 rw[oDF h64];simp only[oCF]
 have r1:=Eb (f:=cN) (N:=NN) (bad:=.inl (5,())) (good:=.inr (code,(code.length:Int),(code.length:Int),false,code,ss,dt,())) (λi=>(code,(code.length:Int),(i:Int),code,ss,dt,())) (n:=code.length) (λi=>VJ code i) (by unfold NN;omega) (λi hi _=>by
  have hx:code[i]?=some code[i]:=oGE hi;generalize code[i]=x at hx;unfold cN;dsimp only;rw[oDT (show(i:Int)<code.length by omega),bV];simp only[oCT,oBS,show bS code i=some x from hx]
  rcases In (o:=x.1) (a:=x.2.1) (b:=x.2.2.1) (c:=x.2.2.2.1) (i:=x.2.2.2.2)with⟨hv,ev⟩|⟨hv,ev⟩
  ·rw[ev,bR (x:=(i:Int)+1) (by omega) (by omega)];exact .inl ⟨λy hy=>by rw[hx]at hy;injection hy with hy;rw[<- hy];exact hv,rfl⟩
  ·rw[ev]
   exact .inr ⟨λh=>hv (h x hx),rfl⟩) (by
  unfold cN;dsimp only;rw[oDF (show ¬(code.length:Int)<code.length by omega)]
  rfl)
 have r2:=Eb (f:=cM) (N:=NN) (bad:=.inl (6,())) (good:=.inr (code,(code.length:Int),(code.length:Int),false,code,ss,dt,())) (λi=>(code,(code.length:Int),(i:Int),code,ss,dt,())) (n:=code.length) (λi=>RJ code code.length ss.length i) (by unfold NN;omega) (λi hi _=>by
  have hx:code[i]?=some code[i]:=oGE hi;generalize code[i]=x at hx;unfold cM;delta bQ;dsimp only;rw[oDT (show(i:Int)<code.length by omega),bV];simp only[oCT,oBS,show bS code i=some x from hx];rw[jG]
  have UF:Ee code.length ss.length x=false->RJ code code.length ss.length i:=λh y hy=>by rw[hx]at hy;injection hy with hy;rw[<- hy];exact h
  have no:Ee code.length ss.length x=true->¬RJ code code.length ss.length i:=λh g=>by have:=g x hx;rw[h]at this;cases this
  have hw:w64 ((i:Int)+1)=((i+1:Nat):Int):=bR (by omega) (by omega);unfold Ee at UF no;simp only[oBS];cases hj:fU x.1<;>cases hn:decide (x.2.2.2.2>=(code.length:Int))<;>cases h15:(x.1==15)<;>cases hn2:decide (x.2.2.2.2>=(ss.length:Int))<;>rw[hj,hn,h15,hn2]at UF no
  all_goals
   first
    |exact .inl ⟨UF rfl,by show some (Sum.inl (code,(code.length:Int),w64 ((i:Int)+1),code,ss,dt,()))=_;rw[hw]⟩
    |exact .inr ⟨no rfl,rfl⟩) (by
  unfold cM;dsimp only;rw[oDF (show ¬(code.length:Int)<code.length by omega)]
  rfl)
 rcases Ir (ss:=ss) (dt:=dt) hc with⟨hV,e1⟩|⟨hV,x,a,b,c,d,e1,hR⟩
 ·rw[e1]
  rcases r1 with⟨g,e2⟩|⟨_,e2⟩
  ·exact absurd g hV
  rw[show bU cN NN (code,(code.length:Int),0,code,ss,dt,())=_ from e2];exact⟨5,rfl,rfl,λh=>(by cases h),λh=>absurd h.ins hV⟩
 rw[e1]
 rcases r1 with⟨_,e2⟩|⟨g,_⟩
 rotate_left
 ·exact absurd hV g
 rw[show bU cN NN (code,(code.length:Int),0,code,ss,dt,())=_ from e2];dsimp only
 rcases hR with⟨rfl,hR⟩|⟨rfl,hR⟩
 ·rcases r2 with⟨_,e3⟩|⟨g,_⟩
  rotate_left
  ·exact absurd hR g
  rw[show bU cM NN (code,(code.length:Int),0,code,ss,dt,())=_ from e3];exact⟨0,rfl,rfl,λ_=>⟨hz,by omega,hp,⟨by omega,by omega⟩,hV,hR⟩,λ_=>rfl⟩
 ·rcases r2 with⟨g,_⟩|⟨_,e3⟩
  ·exact absurd g hR
  rw[show bU cM NN (code,(code.length:Int),0,code,ss,dt,())=_ from e3];exact⟨6,rfl,rfl,λh=>(by cases h),λh=>absurd h.rng hR⟩
theorem Gl{x:DTh}(h:x.2.1.length<=1000):iM x.1 x.2.1 x.2.2.1 x.2.2.2.1 x.2.2.2.2.1 x.2.2.2.2.2.1 x.2.2.2.2.2.2.1 x.2.2.2.2.2.2.2 x.1 x.2.1 x.2.2.1 x.2.2.2.1 x.2.2.2.2.1 x.2.2.2.2.2.1 x.2.2.2.2.2.2.1 x.2.2.2.2.2.2.2=some (true,()):=by
 unfold iM;rw[pY h];simp only[oBS,BEq.rfl,oCT]
theorem Fw{l:List Int}{key:Int}(h:l.length<=1000):iR l key l key=some (true,()):=by
 have e:bU fD NN ((l.length:Int),0,l,key,l,key,())=some (.inr ((l.length:Int),(l.length:Int),false,l,key,l,key,())):=by
  refine s8 (st:=λk=>((l.length:Int),(k:Int),l,key,l,key,())) (n:=l.length) (by unfold NN;omega) ?_ ?_
  ·intro k hk;unfold fD;dsimp only;rw[oDT (show(k:Int)<l.length by omega),bV];simp only[oCT,oBS,show bS l k=some l[k]from oGE hk,bne_self_eq_false,oCF];rw[bR (x:=(k:Int)+1) (by omega) (by omega)];exact Ok.ret rfl
  ·unfold fD;dsimp only;rw[oDF (show ¬(l.length:Int)<l.length by omega)];exact Ok.ret rfl
 unfold iR;delta bQ;dsimp only;rw[e];simp only[bne_self_eq_false,oCF]
structure wA (bs:List Int)(cs:List DCe)(ls:List DLn)(ts:List DTh):Prop where
 bl:bs.length<=1000
 cl:cs.length<=1000
 ll:Sh4 ls
 tl:ts.length<=1000
 rl:∀t∈ts,t.2.1.length<=1000
theorem wA.nil:wA [] [] [] []:=⟨by simp,by simp,⟨by simp,cU⟩,by simp,cU⟩
theorem MOk.small{n:Int}{ss bs:List Int}{cs:List DCe}{ls:List DLn}{ts:List DTh}(h:MOk n ss bs cs ls ts):wA bs cs ls ts:=⟨by have:=h.lay.2.1;have:=h.lay.1.2.1;omega,by rw[h.mem.clen];omega,h.mem.sh4,by rw[h.tlen];omega,λt ht=>by rw[(h.thr t ht).len];omega⟩
theorem Dn{bs:List Int}{key:Int}{cs:List DCe}{ls:List DLn}{ts:List DTh}(h:wA bs cs ls ts):iL bs key cs ls ts bs key cs ls ts=some (true,()):=by
 have h4:=h.tl
 have e:bU fv NN ((ts.length:Int),0,bs,key,cs,ls,ts,bs,key,cs,ls,ts,())=some (.inr ((ts.length:Int),(ts.length:Int),false,bs,key,cs,ls,ts,bs,key,cs,ls,ts,())):=by
  refine s8 (st:=λk=>((ts.length:Int),(k:Int),bs,key,cs,ls,ts,bs,key,cs,ls,ts,())) (n:=ts.length) (by unfold NN;omega) ?_ ?_
  ·intro k hk;unfold fv;dsimp only;have hx:ts[k]?=some ts[k]:=oGE hk;rw[oDT (show(k:Int)<ts.length by omega),bV];simp only[oCT,oBS,show bS ts k=some ts[k]from hx];rw[Gl (h.rl _ (ca hx))];simp only[oBS,oNT,oCF];rw[bR (x:=(k:Int)+1) (by omega) (by omega)];exact Ok.ret rfl
  ·unfold fv;dsimp only;rw[oDF (show ¬(ts.length:Int)<ts.length by omega)];exact Ok.ret rfl
 unfold iL;rw[Fw h.bl,Fl h.cl h.ll];delta bQ;simp only[oBS,oNT,oCF,bne_self_eq_false];rw[e]
theorem zx{l:List Int}(h:l.length<=1000):ej l=some (l,()):=by
 unfold ej;rw[cV (by omega)];rfl
theorem Do{l:List Int}{key:Int}(h:l.length<=1000):gU l key=some (l,key,()):=by
 unfold gU;rw[zx h];rfl
theorem y8{code:List DIn}{ss bs:List Int}{dt:List (List Int)}{key:Int}(hb:bs.length<=1000)(hs:ss.length<=1000)(hi:∀b∈bs,yb b)(V4:dt.length<=1000)(hd:∀d∈dt,d.length<=1000):
 ∃cs ls e,gT code ss dt bs key=some (cs,ls,e,())/\dk code ss dt bs key=some (cs,ls,e,())/\cs.length<=1000/\Sh4 ls/\(¬LV bs ss->e=1)/\(LV bs ss->dt.length=ss.length->H5 ss dt->e=0):=by
 have hnil:([]:List DCe).length<=1000/\Sh4 []:=⟨by simp,by simp,cU⟩;unfold gT dk;rw[(Im (key:=key) hb hs hi).same (Fy hb hs hi)]
 rcases Fy (key:=key) hb hs hi with⟨hL,e⟩|⟨hL,e⟩
 rotate_left
 ·rw[e];exact⟨_,_,1,rfl,rfl,hnil.1,hnil.2,λ_=>rfl,λh=>absurd h hL⟩
 rw[e,Bd,sL];delta bQ;simp only[oBS,oNT,oCF];by_cases hl:(dt.length:Int)=ss.length
 rotate_left
 ·rw[bne_iff_ne.2 hl];exact⟨_,_,1,rfl,rfl,hnil.1,hnil.2,λ_=>rfl,λ_ h=>absurd (show(dt.length:Int)=ss.length by rw[h]) hl⟩
 rw[bne_eq_false_iff_eq.2 hl,show mc 512 512 2=true by kernel_rfl];simp only[oCF,oCT];obtain⟨z0,hz0⟩:∃z0:List DCe,z0=List.replicate 512 (0,0):=⟨_,rfl⟩;rw[<- hz0]
 have Xy:z0.length=512:=by rw[hz0,List.length_replicate]
 have UX:∀c∈z0,c.1=0:=by
  intro c hc;rw[hz0]at hc;rw[List.eq_of_mem_replicate hc]
 have hE:Sh4 cz:=⟨by decide,by decide⟩
 obtain⟨t,e1,e2,ht⟩:=FB (f:=gJ) (g:=cg) (n:=NN) (s:=(dt,(dt.length:Int),0,code,ss,dt,bs,key,(),(),z0,cz,()))
  (P:=λs=>∃(k:Nat)(cs:List DCe),s=(dt,(dt.length:Int),(k:Int),code,ss,dt,bs,key,(),(),cs,cz,())/\k<=dt.length/\cs.length=512/\∀c∈cs,c.1=0)
  (R:=λt=>(t=.inl (1,(),(),())/\¬H5 ss dt)\/∃a1 a2 a3 a4 a5 a6 a7 a8 a9 a10 a11 cs,t=.inr (a1,a2,a3,a4,a5,a6,a7,a8,a9,a10,a11,cs,cz,())/\cs.length=512) (m:=λs=>(s.2.1-s.2.2.1).toNat) ⟨0,z0,rfl,by omega,Xy,UX⟩ (by unfold NN;dsimp only;omega) (by
   rintro _ ⟨k,cs,rfl,hk,ZE,Yc⟩;unfold gJ cg;delta bQ;dsimp only;by_cases hkl:k<dt.length
   rotate_left
   ·rw[oDF (show ¬(k:Int)<dt.length by omega)];exact .inr ⟨_,rfl,rfl,.inr ⟨_,_,_,_,_,_,_,_,_,_,_,_,rfl,ZE⟩⟩
   obtain⟨d,Yp⟩:∃d,dt[k]?=some d:=⟨_,oGE hkl⟩;obtain⟨z,YJ⟩:∃z,ss[k]?=some z:=⟨_,oGE (by omega)⟩;obtain⟨b,z',Y5,V8,z1,Ti,b0,bz⟩:=hL.at_ (r:=k) (by omega);rw[YJ]at V8
   injection V8 with V8
   subst V8;have RE:=hd d (ca Yp);obtain⟨q,rfl⟩:∃q:Nat,b=q:=⟨b.toNat,by omega⟩;rw[oDT (show(k:Int)<dt.length by omega),bV];simp only[oCT,oBS,show bS dt k=some d from Yp,show bS ss k=some z from YJ,show bS bs k=some (q:Int)from Y5,bV];by_cases hdz:(d.length:Int)>z
   ·rw[oDT hdz];exact .inr ⟨_,rfl,rfl,.inl ⟨rfl,λg=>by have:=g k hkl d z Yp YJ;omega⟩⟩
   rw[oDF hdz,BJ ZE Yc Y5 (by omega),yU RE]
   have hm:Nat.min (d.map rO).length (Nat.sub cs.length q)=d.length:=by
    rw[List.length_map,ZE];show min d.length (512-q)=d.length;omega
   simp only[oCF,oBS,hm];rw[show iG q cs.length cs.length=true by unfold iG;simp;omega,show iG q (Nat.add q d.length) cs.length=true by unfold iG;simp;omega];simp only[oCT];have hw:w64 ((k:Int)+1)=(k:Int)+1:=bR (by omega) (by omega)
   have Zt:ii cs q d.length (d.map rO)=qg cs q d:=by
    unfold ii qg;rw[show(d.map rO).take d.length=d.map rO from List.take_of_length_le (by rw[List.length_map];omega)]
   have hP:∃(j:Nat)(ZP:List DCe),(dt,(dt.length:Int),w64 ((k:Int)+1),code,ss,dt,bs,key,(),(),qg cs q d,cz,())=(dt,(dt.length:Int),(j:Int),code,ss,dt,bs,key,(),(),ZP,cz,())/\j<=dt.length/\ZP.length=512/\∀c∈ZP,c.1=0:=
    ⟨k+1,_,by rw[hw];rfl,by omega,by rw[xk (by omega)];exact ZE,xj Yc λ_ _=>rfl⟩
   by_cases hdn:d=[]
   ·subst hdn;rw[show Nat.blt 0 ([]:List Int).length=false from rfl];rw[xg]at hP⊢;exact .inl ⟨_,rfl,rfl,hP,by dsimp only;rw[hw];omega⟩
   ·have:0<d.length:=List.length_pos_iff.2 hdn;rw[show Nat.blt 0 d.length=true by rw[Nat.blt_eq];exact this,Zt]
    exact .inl ⟨_,rfl,rfl,hP,by dsimp only;rw[hw];omega⟩)
 rw[e1,e2]
 rcases ht with⟨rfl,hF⟩|⟨a1,a2,a3,a4,a5,a6,a7,a8,a9,a10,a11,cs,rfl,ZE⟩
 ·exact⟨_,_,1,rfl,rfl,hnil.1,hnil.2,λ_=>rfl,λ_ _ h=>absurd h hF⟩
 ·exact⟨_,_,0,rfl,rfl,by omega,hE,λh=>absurd hL h,λ_ _ _=>rfl⟩
def cu:DTh:=(0,List.replicate 8 (0,0),0,0,-1,-1,0,0)
def ge:DTh:=(1,List.replicate 8 (0,0),0,0,-1,-1,0,0)
theorem Cp{bs:List Int}{key:Int}{cs:List DCe}{ls:List DLn}:bU iT NN (0,(),0,(),(),(),bs,key,cs,ls,[],())=some (4,false,(),0,(),(),(),bs,key,cs,ls,[cu,cu,cu,cu],()):=by kernel_rfl
theorem wK{bs:List Int}{key:Int}{cs:List DCe}{ls:List DLn}:bU gH NN (0,(),0,(),(),(),bs,key,cs,ls,[],())=some (4,false,(),0,(),(),(),bs,key,cs,ls,[ge,cu,cu,cu],()):=by kernel_rfl
theorem yl{code:List DIn}{ss bs:List Int}{dt:List (List Int)}{key:Int}(hc:code.length<=1000)(hb:bs.length<=1000)(hs:ss.length<=1000)(hi:∀b∈bs,yb b)(V4:dt.length<=1000)(hd:∀d∈dt,d.length<=1000):
 ∃Rc UC cs ls ts e,dp code ss dt bs key=some (Rc,UC,cs,ls,ts,e,())/\cR code ss dt bs key=some (Rc,UC,cs,ls,ts,e,())/\wA Rc cs ls ts:=by
 obtain⟨e,e1,e2,h0,_⟩:=zC (code:=code) hc hs V4;unfold dp cR fG;rw[e1,e2];simp only[oBS];by_cases he:e=0
 rotate_left
 ·rw[bne_iff_ne.2 he];exact⟨_,_,_,_,_,_,rfl,rfl,wA.nil⟩
 subst he;have hP:=h0 rfl;obtain⟨cs,ls,x,e3,e4,ZE,T4,Z4,Td⟩:=y8 (code:=code) (key:=key) hb hs hi V4 hd;rw[e3,e4];simp only[bne_self_eq_false,oCF,oBS]
 rcases Fy (key:=key) hb hs hi with⟨hL,e5⟩|⟨hL,e5⟩
 ·obtain rfl:=Td hL hP.len hP.fit;rw[e5,Do hb];simp only[bne_self_eq_false,oCF,oBS,oNT];rw[cV (b:=8) (n:=0) (m:=bs.length) ⟨by omega,by omega⟩,Cp,show List.append [] bs=bs from rfl,wK];exact⟨_,_,_,_,_,_,rfl,rfl,hb,ZE,T4,by show([ge,cu,cu,cu]:List DTh).length<=1000;decide,by show ∀t∈([ge,cu,cu,cu]:List DTh),t.2.1.length<=1000;decide⟩
 ·obtain rfl:=Z4 hL;rw[e5];exact⟨_,_,_,_,_,_,rfl,rfl,wA.nil⟩
theorem C8{cs:List DCe}{b:Nat}{d:List Int}(h:b+d.length<=cs.length)(i:Nat):(qg cs b d)[i]?=if b<=i/\i<b+d.length then(d[i-b]?).map rO else cs[i]?:=by
 have h1:(cs.take b).length=b:=by rw[oLT];omega
 have h2:(cs.take b++d.map rO).length=b+d.length:=by rw[List.length_append,h1,List.length_map]
 unfold qg;by_cases hi:i<b
 ·rw[oIN (by omega),List.getElem?_append_left (by omega),List.getElem?_append_left (by omega),List.getElem?_take,oIP hi]
 by_cases hi2:i<b+d.length
 ·rw[oIP ⟨by omega,hi2⟩,List.getElem?_append_left (by omega),List.getElem?_append_right (by omega),h1,List.getElem?_map]
 ·rw[oIN (by omega),List.getElem?_append_right (by omega),h2,List.getElem?_drop];congr 1;omega
def HU(dt:List (List Int))(r o:Nat):Int:=(dt.getD r []).getD o 0
def GY(bs ss:List Int)(dt:List (List Int))(k:Nat)(cs:List DCe):Prop:=∀(r o:Nat)(b z:Int),bs[r]?=some b->ss[r]?=some z->(o:Int)<z->cs[b.toNat+o]?=some (if r<k then rO (HU dt r o)else(0,0))
theorem Bj{code:List DIn}{ss bs:List Int}{dt:List (List Int)}{key:Int}(hp:eU code ss dt)(hL:LV bs ss):
 ∃cs,dk code ss dt bs key=some (cs,cz,0,())/\cs.length=512/\GY bs ss dt ss.length cs:=by
 have V4:=hp.len;have h4:=hp.sz.2.1;have WC:=hL.2.1;unfold dk;rw[jg hL,sL];delta bQ;simp only[oBS,oNT,oCF];rw[show((dt.length:Int) != ss.length)=false from bne_eq_false_iff_eq.2 (by omega),show mc 512 512 2=true by kernel_rfl];simp only[oCF,oCT];obtain⟨z0,hz0⟩:∃z0:List DCe,z0=List.replicate 512 (0,0):=⟨_,rfl⟩;rw[<- hz0]
 have Xy:z0.length=512:=by rw[hz0,List.length_replicate]
 have UX:∀c∈z0,c.1=0:=by
  intro c hc;rw[hz0]at hc;rw[List.eq_of_mem_replicate hc]
 have OA:GY bs ss dt 0 z0:=by
  intro r o b z hb hz ho;obtain⟨b',z',Zl,X9,z1,Ti,b0,bz⟩:=hL.at_ (r:=r) (oGS hz).1;rw[hb]at Zl;rw[hz]at X9
  injection Zl with Zl;injection X9 with X9
  subst Zl;subst X9;rw[oIN (by omega),hz0,List.getElem?_replicate,oIP (by omega)]
 obtain⟨t,e1,_,ht⟩:=FB (f:=cg) (g:=cg) (n:=NN) (s:=(dt,(dt.length:Int),0,code,ss,dt,bs,key,(),(),z0,cz,()))
  (P:=λs=>∃(k:Nat)(cs:List DCe),s=(dt,(dt.length:Int),(k:Int),code,ss,dt,bs,key,(),(),cs,cz,())/\k<=dt.length/\cs.length=512/\(∀c∈cs,c.1=0)/\GY bs ss dt k cs)
  (R:=λt=>∃a1 a2 a3 a4 a5 a6 a7 a8 a9 a10 a11 cs,t=.inr (a1,a2,a3,a4,a5,a6,a7,a8,a9,a10,a11,cs,cz,())/\cs.length=512/\GY bs ss dt ss.length cs) (m:=λs=>(s.2.1-s.2.2.1).toNat) ⟨0,z0,rfl,by omega,Xy,UX,OA⟩ (by unfold NN;dsimp only;omega) (by
   rintro _ ⟨k,cs,rfl,hk,ZE,Yc,hC⟩;unfold cg;delta bQ;dsimp only;by_cases hkl:k<dt.length
   rotate_left
   ·rw[oDF (show ¬(k:Int)<dt.length by omega)]
    obtain rfl:k=ss.length:=by omega
    exact .inr ⟨_,rfl,rfl,_,_,_,_,_,_,_,_,_,_,_,_,rfl,ZE,hC⟩
   obtain⟨d,Yp⟩:∃d,dt[k]?=some d:=⟨_,oGE hkl⟩;obtain⟨b,z,Y5,YJ,z1,Ti,b0,bz⟩:=hL.at_ (r:=k) (by omega);have ZN:=hp.fit k d z Yp YJ;obtain⟨q,rfl⟩:∃q:Nat,b=q:=⟨b.toNat,by omega⟩;rw[oDT (show(k:Int)<dt.length by omega),bV];simp only[oCT,oBS,show bS dt k=some d from Yp,show bS ss k=some z from YJ];rw[oDF (show ¬(d.length:Int)>z by omega),BJ ZE Yc Y5 (by omega)];simp only[oCF,oBS];have hw:w64 ((k:Int)+1)=((k+1:Nat):Int):=bR (by omega) (by omega);rw[hw];refine .inl ⟨_,rfl,rfl,⟨k+1,_,rfl,by omega,by rw[xk (by omega)];exact ZE,xj Yc λ_ _=>rfl,?_⟩,by dsimp only;omega⟩;intro r o b z' hb hz ho;rw[C8 (by omega)]
   have OU:dt.getD k []=d:=by rw[oGD,Yp];rfl
   by_cases hrk:r=k
   ·subst hrk;rw[Y5]at hb;rw[YJ]at hz
    injection hb with hb;injection hz with hz
    subst hb;subst hz;rw[oTN,oIP (show r<r+1 by omega)];unfold HU;rw[OU];by_cases hod:o<d.length
    ·rw[oIP ⟨by omega,by omega⟩,show q+o-q=o by omega,oGD,oGE hod];rfl
    ·rw[oIN (by omega),oGD,oGN (l:=d) (by omega)];have:=hC r o q z Y5 YJ ho;rw[oTN,oIN (by omega)]at this;rw[this];rfl
   ·have hlt:=(oGS hz).1;obtain⟨b',Oi,Zl,X9,Oj,P1,NI,NJ⟩:=hL.at_ (r:=r) hlt;rw[hb]at Zl;rw[hz]at X9
    injection Zl with Zl;injection X9 with X9
    subst Zl;subst X9;rw[oIN λg=>?_]
    ·rw[hC r o b z' hb hz ho];by_cases h:r<k
     ·rw[oIP h,oIP (by omega)]
     ·rw[oIN h,oIN (by omega)]
    ·obtain⟨i,hi⟩:∃i:Nat,b.toNat+o=q+i:=⟨b.toNat+o-q,by omega⟩
     exact hL.apart (r:=r) (r':=k) hrk hb hz Y5 YJ (o:=o) (o':=i) (by omega) ho (by omega) (by omega) (by omega))
 rw[e1];obtain⟨a1,a2,a3,a4,a5,a6,a7,a8,a9,a10,a11,cs,rfl,ZE,hC⟩:=ht;exact⟨_,rfl,ZE,hC⟩
def Hz(ss:List Int)(dt:List (List Int)):List (List DCn):=(List.range ss.length).map λr=>(List.range (ss.getD r 0).toNat).map λo=>(0,HU dt r o,0,0)
theorem Fp{cs:List DCe}{n:Nat}:Fq cs cz (n:Int)=cs.getD n (0,0):=by
 unfold Fq;rw[show((n:Int)/4%4).toNat=n/4%4 by omega];obtain⟨i,ZO⟩:∃i,n/4%4=i:=⟨_,rfl⟩
 have SV:i<4:=by omega
 have hx:cz[i]?=some (-1,false,[]):=by
  match i,SV with
  |0,_=>rfl
  |1,_=>rfl
  |2,_=>rfl
  |3,_=>rfl
 rw[ZO,hx];dsimp only;rw[oIN (by omega),oTN]
theorem C4{bs ss:List Int}{dt:List (List Int)}{key:Int}{cs:List DCe}(hL:LV bs ss)(h:GY bs ss dt ss.length cs):Hy bs ss key cs cz=Hz ss dt:=by
 unfold Hy Hz;refine List.map_congr_left λr hr=>?_;have hr:=List.mem_range.1 hr;obtain⟨b,z,hb,hz,z1,Ti,b0,bz⟩:=hL.at_ hr;unfold H7;rw[bW hz];refine List.map_congr_left λo ho=>?_;have ho:=List.mem_range.1 ho;unfold H8;obtain⟨q,rfl⟩:∃q:Nat,b=q:=⟨b.toNat,by omega⟩;have:=h r o q z hb hz (by omega);rw[oTN,oIP hr]at this;rw[bW hb,show(q:Int)+o=((q+o:Nat):Int) by omega,Fp,oGD,this];rfl
theorem yj{code:List DIn}{ss bs:List Int}{dt:List (List Int)}{key:Int}(hp:eU code ss dt)(hL:LV bs ss):
 ∃cs,cR code ss dt bs key=some (bs,key,cs,cz,[ge,cu,cu,cu],0,())/\MOk 0 ss bs cs cz [ge,cu,cu,cu]/\Hy bs ss key cs cz=Hz ss dt:=by
 obtain⟨cs,e,ZE,hC⟩:=Bj (key:=key) hp hL;have WC:=hL.2.1;have h4:=hp.sz.2.1
 have e2:cR code ss dt bs key=some (bs,key,cs,cz,[ge,cu,cu,cu],0,()):=by
  unfold cR;rw[mu hp,jg hL,e];simp only[oBS,oNT,oCF,bne_self_eq_false];rw[cV (b:=8) (n:=0) (m:=bs.length) ⟨by omega,by omega⟩,show List.append [] bs=bs from rfl,wK];rfl
 obtain⟨y,e3,ZP,Yk,rfl,hM⟩:=Ct (key:=key) hp hL;rw[e2]at e3
 injection e3 with e3
 injection e3 with _ e3;injection e3 with _ e3;injection e3 with g1 e3;injection e3 with _ e3;injection e3 with g2 _
 subst g1;subst g2;exact⟨_,e2,hM,C4 hL hC⟩
theorem tL{code:List DIn}{ss bs:List Int}{dt:List (List Int)}{key:Int}(hp:eU code ss dt)(hL:LV bs ss):dp code ss dt bs key=cR code ss dt bs key:=by
 have h4:=hp.sz.2.1;have WC:=hL.2.1;have V4:=hp.len
 have OW:∀d∈dt,d.length<=1000:=λd OV=>by
  obtain⟨j,hj⟩:=List.getElem?_of_mem OV;obtain⟨z,hz⟩:∃z,ss[j]?=some z:=⟨_,oGE (by have:=(oGS hj).1;omega)⟩;have:=hp.fit j d z hj hz;have:=(hp.sz.2.2 z (ca hz)).2;omega
 have OQ:∀b∈bs,yb b:=λb hb=>by
  obtain⟨r,hr⟩:=List.getElem?_of_mem hb;obtain⟨b',z,Y5,YJ,z1,Ti,b0,bz⟩:=hL.at_ (r:=r) (by have:=(oGS hr).1;omega);rw[hr]at Y5
  injection Y5 with Y5
  subst Y5;unfold yb;omega
 obtain⟨_,_,_,_,_,_,e1,e2,_⟩:=yl (code:=code) (ss:=ss) (bs:=bs) (dt:=dt) (key:=key) (by have:=hp.clen.2;omega) (by omega) (by omega) OQ (by omega) OW;rw[e1,e2]
theorem xp{S T:Type}{f g:S->Option (S⊕T)}(φ:S->S)(ψ:T->T)(h:∀s,g (φ s)=(f s).map (Sum.map φ ψ)):∀(N:Nat)(s:S),bU g N (φ s)=(bU f N s).map ψ:=by
 intro N
 induction N with
 |zero=>intro s;rfl
 |succ N ih=>
  intro s;simp only[bU];rw[h s]
  cases f s with
  |none=>rfl
  |some x=>cases x with
   |inl s'=>exact ih s'
   |inr t=>rfl
theorem BZ{α β γ:Type}(o:Option α)(f:α->Option β)(g:β->γ):(o.bind f).map g=o.bind λx=>(f x).map g:=by cases o<;>rfl
theorem BT{α β:Type}(c:Bool)(a b:Option α)(g:α->β):(bif c then a else b).map g=bif c then a.map g else b.map g:=by cases c<;>rfl
theorem Fn{α β γ:Type}(o:Option α)(f:α->β)(g:β->Option γ):(o.map f).bind g=o.bind λx=>g (f x):=by cases o<;>rfl
section
variable (code':List DIn)
def HE:Int×(List (List (Int)))×Int×Int×(List (Int))×Int×Int×(List DIn)×(List (Int))×(List (List (Int)))×(List (Int))×Int×Unit×Unit×(List DCe)×(List DLn)×Unit->Int×(List (List (Int)))×Int×Int×(List (Int))×Int×Int×(List DIn)×(List (Int))×(List (List (Int)))×(List (Int))×Int×Unit×Unit×(List DCe)×(List DLn)×Unit:=
 λ(v0,v1,v2,v3,v4,v5,v6,_,r)=>(v0,v1,v2,v3,v4,v5,v6,code',r)
def HB:Int×(List (List (Int)))×Int×Int×(List (Int))×Int×Int×Bool×(List DIn)×(List (Int))×(List (List (Int)))×(List (Int))×Int×Unit×Unit×(List DCe)×(List DLn)×Unit->Int×(List (List (Int)))×Int×Int×(List (Int))×Int×Int×Bool×(List DIn)×(List (Int))×(List (List (Int)))×(List (Int))×Int×Unit×Unit×(List DCe)×(List DLn)×Unit:=
 λ(v0,v1,v2,v3,v4,v5,v6,v7,_,r)=>(v0,v1,v2,v3,v4,v5,v6,v7,code',r)
theorem HN(N:Nat)(s):bU cF N (HE code' s)=(bU cF N s).map (HB code'):=by
 refine xp (HE code') (HB code') ?_ N s;rintro⟨v0,v1,v2,v3,v4,v5,v6,v7,v8,v9,v10,v11,v12,v13,v14,v15,_⟩;unfold cF HE;dsimp only;simp only[BT,BZ,oMS,Sum.map_inl,Sum.map_inr];rfl
def HD:(List (List (Int)))×Int×Int×(List DIn)×(List (Int))×(List (List (Int)))×(List (Int))×Int×Unit×Unit×(List DCe)×(List DLn)×Unit->(List (List (Int)))×Int×Int×(List DIn)×(List (Int))×(List (List (Int)))×(List (Int))×Int×Unit×Unit×(List DCe)×(List DLn)×Unit:=
 λ(v0,v1,v2,_,r)=>(v0,v1,v2,code',r)
def HA:(Int×Unit×Unit×Unit)⊕((List (List (Int)))×Int×Int×Bool×(List DIn)×(List (Int))×(List (List (Int)))×(List (Int))×Int×Unit×Unit×(List DCe)×(List DLn)×Unit)->(Int×Unit×Unit×Unit)⊕((List (List (Int)))×Int×Int×Bool×(List DIn)×(List (Int))×(List (List (Int)))×(List (Int))×Int×Unit×Unit×(List DCe)×(List DLn)×Unit)
 |.inl x=>.inl x
 |.inr (v0,v1,v2,v3,_,r)=>.inr (v0,v1,v2,v3,code',r)
theorem HK(N:Nat)(s):bU cg N (HD code' s)=(bU cg N s).map (HA code'):=by
 refine xp (HD code') (HA code') ?_ N s;rintro⟨v0,v1,v2,v3,v4,v5,v6,v7,v8,v9,v10,v11,_⟩;unfold cg HD;dsimp only;have e:∀x1 x5,bU cF NN (v2,v0,v1,v2,x1,x5,0,code',v4,v5,v6,v7,v8,v9,v10,v11,())=(bU cF NN (v2,v0,v1,v2,x1,x5,0,v3,v4,v5,v6,v7,v8,v9,v10,v11,())).map (HB code'):=λx1 x5=>HN code' NN (v2,v0,v1,v2,x1,x5,0,v3,v4,v5,v6,v7,v8,v9,v10,v11,());simp only[e,BT,BZ,Fn,oMS,Sum.map_inl,Sum.map_inr];rfl
end
theorem Bi(code code':List DIn){ss bs:List Int}{dt:List (List Int)}{key:Int}:dk code' ss dt bs key=dk code ss dt bs key:=by
 unfold dk;have e:∀x5 x3 x4,bU cg NN (dt,x5,0,code',ss,dt,bs,key,(),(),x3,x4,())=(bU cg NN (dt,x5,0,code,ss,dt,bs,key,(),(),x3,x4,())).map (HA code'):=λx5 x3 x4=>HK code' NN (dt,x5,0,code,ss,dt,bs,key,(),(),x3,x4,());simp only[e]
 cases de bs key ss with
 |none=>rfl
 |some x=>
  obtain⟨b,_⟩:=x;simp only[oBS];cases b
  ·rfl
  simp only[oNT,oCF];cases(bQ dt.length != bQ ss.length)
  ·simp only[oCF];cases mc 512 512 2
   ·rfl
   simp only[oCT]
   cases jz with
   |none=>rfl
   |some y=>
    simp only[oBS]
    rcases bU cg NN (dt,bQ dt.length,0,code,ss,dt,bs,key,(),(),List.replicate 512 (0,0),y.1,())with _|(x|x)
    ·rfl
    ·rfl
    ·rfl
  ·rfl
theorem yk{code code':List DIn}{ss bs:List Int}{dt:List (List Int)}{key:Int}(hp:eU code ss dt)(hp':eU code' ss dt):cR code' ss dt bs key=cR code ss dt bs key:=by
 unfold cR;rw[mu hp,mu hp',Bi code code']
structure Ch (S:Nat->Prop)(code code':List DIn):Prop where
 len:code'.length=code.length
 same:∀k,k<code.length->S k->code'[k]?=code[k]?
 step:∀(k t:Nat)(x:DIn),S k->code[k]?=some x->(t:Int)∈tgt x.1 x.2.2.2.2 k->t<code.length->S t
 free:∀(k:Nat)(x:DIn),S k->code[k]?=some x->x.1=22->∀j,j<code.length->S j
def At(S:Nat->Prop)(n:Nat)(t:DTh):Prop:=Hg t=-1/\(t.2.2.1.toNat<n->S t.2.2.1.toNat)
def GT(S:Nat->Prop)(n:Nat)(ts:List DTh):Prop:=∃t,bS ts 0=some t/\(t.1=1->At S n t)
theorem Fg{code:List DIn}{ss bs:List Int}{d:List (List Int)}{key:Int}{cs:List DCe}{ls:List DLn}{ts:List DTh}{t:DTh}(ht:bS ts 0=some t)(hc:(code.length:Int)<=t.2.2.1):
 PO (dn code ss d 0 bs key cs ls ts) λr=>r.1≠-1:=by
 have h0:cT 0=some 0:=rfl;unfold dn;rw[h0];simp only[oBS,ht];rw[oDT (show t.2.2.1>=bQ code.length by simp only[bQ];omega)];simp only[oCT];exact PO.bind λ⟨b1,b2,_⟩ h=>PO.ret (show b1≠-1 from by have h2:b1=2:=fu h;omega)
theorem Bg{S:Nat->Prop}{code code':List DIn}{ss bs:List Int}{d:List (List Int)}{key m b:Int}(hp:eU code ss d)(hA:Ch S code code')(hb:b<=m)(hm:m<=1099511627776):
 ∀(N:Nat)(cs:List DCe)(ls:List DLn)(ts:List DTh)(t:DTh),MOk m ss bs cs ls ts->bS ts 0=some t->t.1=1->t.2.2.2.1<b->At S code.length t ->
  bU dE N (0,b,code',ss,d,(),0,(),(),(),bs,key,cs,ls,ts,())=(bU dE N (0,b,code,ss,d,(),0,(),(),(),bs,key,cs,ls,ts,()))/\
   PO (bU dE N (0,b,code,ss,d,(),0,(),(),(),bs,key,cs,ls,ts,())) λr=>GT S code.length r.2.2.2.2.2.2.1:=by
 intro N
 induction N with
 |zero=>intro cs ls ts t _ _ _ _ _;exact⟨rfl,qM⟩
 |succ N ih=>
  intro cs ls ts t hM ht h1 Zj UJ;have hok:=hM.thr t (ca ht);obtain⟨p,UT⟩:∃p:Nat,t.2.2.1=p:=⟨t.2.2.1.toNat,by have:=hok.pc;omega⟩
  have Xa:0<ts.length:=by
   cases ts with
   |nil=>cases ht
   |cons=>simp
  have YR:=Dd (ss:=ss) (bs:=bs) (d:=d) (key:=key) (cs:=cs) (ls:=ls) (ts:=ts) hA.len ht UT λh=>hA.same p h (by have:=UJ.2;rw[UT]at this;exact this h);have h0:((0:Nat):Int)=0:=rfl;obtain⟨r,er,s,ZP,Zz,t',rfl,R6,Wn,hS⟩:=Eg (key:=key) hp hM (i:=0) ht h1 (by omega) hm;rw[h0]at er;simp only[bU];unfold dE;dsimp only;rw[YR,er];simp only[oBS];have hg:bS (ts.set 0 t') 0=some t':=mX Xa t';by_cases hs:s=-1
  ·subst hs
   have hst:t'.1=1/\(t'.2.2.2.1=t.2.2.2.1\/t'.2.2.2.1=t.2.2.2.1+1):=by
    rcases hS with⟨_,q1,q2⟩|⟨q,_⟩|⟨q,_⟩
    ·exact⟨q1,by rcases q2 with⟨q,_⟩|q;exact .inl q;exact .inr q⟩
    ·omega
    ·omega
   have Tx:At S code.length t':=by
    by_cases hlt:p<code.length
    ·have hx:bS code p=some code[p]:=oGE hlt;obtain⟨t2,e2,e3,e4⟩:=Gu (ss:=ss) (bs:=bs) (d:=d) (key:=key) (cs:=cs) (ls:=ls) ht UT hlt (by have:=hp.clen.2;omega) hx UJ.1 _ er rfl;dsimp only at e2;rw[hg]at e2
     injection e2 with e2
     subst e2
     have Qr:S p:=by have:=UJ.2;rw[UT]at this;exact this hlt
     refine⟨e3,λhl=>?_⟩;rcases e4 with e4|e4
     ·exact hA.free p _ Qr hx e4 _ hl
     ·have Pk:=Wn.pc;exact hA.step p _ _ Qr hx (by rw[Int.toNat_of_nonneg Pk.1];exact e4) hl
    ·have:=Fg (ss:=ss) (bs:=bs) (d:=d) (key:=key) (cs:=cs) (ls:=ls) (code:=code) ht (by omega) _ er;exact absurd rfl this
   have Vu:cT 0=some 0:=rfl;simp only[show((-1:Int) != -1)=false from rfl,oCF,Vu,oBS,hg];by_cases hcc:t'.2.2.2.1=b
   ·rw[beq_iff_eq.2 hcc];exact⟨rfl,PO.ret ⟨t',hg,λ_=>Tx⟩⟩
   ·rw[oBF hcc];exact ih ZP Zz (ts.set 0 t') t' (hM.set R6 Wn) hg hst.1 (by omega) Tx
  ·rw[bne_iff_ne.2 hs];refine⟨rfl,PO.ret ⟨t',hg,λh=>?_⟩⟩
   rcases hS with⟨q,_⟩|⟨_,q,_⟩|⟨_,q,_⟩<;>omega
theorem yn{S:Nat->Prop}{code code':List DIn}{ss bs:List Int}{d:List (List Int)}{key m k:Int}{cs:List DCe}{ls:List DLn}{ts:List DTh}(hp:eU code ss d)(hp':eU code' ss d)(hA:Ch S code code')(hM:MOk m ss bs cs ls ts)(h0:0<=m)(hm:m+64<=1099511627776)(hk:1<=k/\k<=64)(hst:GT S code.length ts):
 dc code' ss d bs key cs ls ts 0 k=dc code ss d bs key cs ls ts 0 k/\PO (dc code ss d bs key cs ls ts 0 k) λr=>GT S code.length r.2.2.2.2.1:=by
 obtain⟨t,ht,UJ⟩:=hst;have hok:=hM.thr t (ca ht);have Vu:cT 0=some 0:=rfl;unfold dc;rw[mP hp hM (by omega),mP hp' hM (by omega)];simp only[oBS,oNT,oCF,pT hM,Vu,ht];rw[oDF (show ¬(0:Int)<0 by omega),oDF (show ¬(0:Int)>=4 by omega),oDF (show ¬k<1 by omega),oDF (show ¬k>64 by omega)];simp only[oBS,oCF,pT hM,Vu,ht];by_cases h1:t.1=1
 ·rw[bne_eq_false_iff_eq.2 h1];simp only[oCF];have U9:=hok.count;rw[bR (x:=t.2.2.2.1+k) (by omega) (by omega)];obtain⟨e,hP⟩:=Bg (key:=key) (m:=m+64) (b:=t.2.2.2.1+k) hp hA (by omega) hm NN cs ls ts t (hM.mono (by omega)) ht h1 (by omega) (UJ h1);rw[e];exact⟨rfl,PO.bind λx hx=>PO.ret (hP x hx)⟩
 ·rw[bne_iff_ne.2 h1];exact⟨rfl,PO.ret ⟨t,ht,UJ⟩⟩
theorem xE{h:den RI}(g:zL RI h):(∀z∈(show List Int from h),yb z)/\(show List Int from h).length<=maxLen:=⟨λz hz=>bounds_i64 (g.2 z hz),g.1⟩
theorem Ew{o i k:Int}(hi:0<=i)(hk:0<=k):∀t∈tgt o i k,0<=t:=by
 intro t ht;unfold tgt at ht
 repeat' split at ht
 all_goals simp at ht
 all_goals omega
theorem B4:gV=some (true,()):=by kernel_rfl
structure H6 (R:List Bool)(n:Int)(code code':List DIn):Prop where
 len:code'.length=code.length
 ins:∀i∈code',eb n code.length i
 same:∀k,Mk R k->code'[k]?=code[k]?
theorem DG{R:List Bool}{code:List DIn}{ss:List Int}{dt:List (List Int)}{l l2:List Int}{k1:Int}(hp:eU code ss dt)(hR:R.length=code.length)(hd:DOk l2 0):
 Ok (bU dx NN (R,(code.length:Int),0,code,ss,dt,code,ss,dt,l,k1,l2,0,())) λr=>∃(a:Int)(code':List DIn)(k2:Int),r=(R,(code.length:Int),a,false,code,ss,dt,code',ss,dt,l,k1,l2,k2,())/\H6 R ss.length code code':=by
 have Wk:=hp.sz.2.1;have Ze:=hp.sz.1;have hc:=hp.clen
 refine hY (λs=>∃(i:Nat)(code':List DIn)(k2:Int),s=(R,(code.length:Int),(i:Int),code,ss,dt,code',ss,dt,l,k1,l2,k2,())/\i<=code.length/\H6 R ss.length code code'/\DOk l2 k2)
  (λr=>∃(a:Int)(code':List DIn)(k2:Int),r=(R,(code.length:Int),a,false,code,ss,dt,code',ss,dt,l,k1,l2,k2,())/\H6 R ss.length code code') (λs=>(s.2.1-s.2.2.1).toNat)
  ⟨0,code,0,rfl,by omega,⟨rfl,hp.ins,λ_ _=>rfl⟩,hd⟩ (by unfold NN;dsimp only;omega) ?_
 rintro _ ⟨i,code',k2,rfl,hi,hF,hd2⟩;unfold dx;delta bQ;dsimp only;by_cases hlt:i<code.length
 ·have hx:bS R i=some R[i]:=oGE (by omega);rw[oDT (show(i:Int)<code.length by omega),bV];simp only[oCT,oBS,hx];have hw:w64 ((i:Int)+1)=(i:Int)+1:=bR (by omega) (by omega)
  cases hv:R[i]with
  |true=>
   simp only[oNT,oCF,oBS,hw];exact Ok.ret ⟨⟨i+1,code',k2,by push_cast;rfl,by omega,hF,hd2⟩,by dsimp only;omega⟩
  |false=>
   simp only[Bool.not_false,oCT];have hg:bS code' i=some (code'[i]'(by rw[hF.len];exact hlt)):=oGE _;obtain⟨r,e,o,a,b,c,im,k3,rfl,X1,XX⟩:=xw (n:=ss.length) (most:=code.length) hd2 (by omega) (by omega);rw[e];simp only[oBS,hg,hw];refine Ok.ret ⟨⟨i+1,_,k3,by push_cast;rfl,by omega,⟨by rw[oLM];exact hF.len,λy hy=>?_,λj hj=>?_⟩,XX⟩,by dsimp only;omega⟩
   ·obtain⟨j,hj⟩:=List.getElem?_of_mem hy;rw[List.getElem?_modify]at hj;by_cases hij:i=j
    ·subst hij;have TW:code'[i]?=some (code'[i]'(by rw[hF.len];exact hlt)):=hg;rw[TW]at hj;simp only[if_true]at hj
     have X5:(o,a,b,c,im)=y:=by simpa using hj
     rw[<- X5];exact X1
    ·simp only[hij,if_false]at hj
     have X8:code'[j]?=some y:=by simpa using hj
     exact hF.ins y (ca X8)
   ·have hij:¬i=j:=by
     rintro rfl;unfold Mk at hj;have Sx:R[i]?=some R[i]:=hx;rw[Sx,hv]at hj;cases hj
    rw[List.getElem?_modify];simp only[hij,if_false];rw[<- hF.same j hj];simp
 ·rw[oDF (show ¬(i:Int)<code.length by omega)];exact Ok.ret ⟨_,code',k2,rfl,hF⟩
theorem unreached_law{l l2:List Int}(hl:∀x∈l,yb x)(hm:l.length<=maxLen)(Ys:∀x∈l2,yb x)(hm2:l2.length<=maxLen):dP l l2=some (true,()):=by
 refine Ok.eq ?_;unfold dP;refine(yL (DOk.start hl hm)).bind ?_;rintro _ ⟨code,ss,dt,k1,rfl,hp,hd⟩;dsimp only;obtain⟨ZT,ZH⟩:=hp.clen;have Z3:∀(k:Nat)(x:fQ),code[k]?=some x->∀t∈tgt x.1 x.2.2.2.2 k,0<=t:=λk x hx=>Ew (hp.ins x (ca hx)).imm.1 (by omega);obtain⟨R,e1,e2,hlen,OI⟩:=yE (code:=code) (by omega) ZH Z3;unfold dO;rw[oIP (show 0<code.length/\code.length<=64 from⟨by omega,ZH⟩),e1];simp only[oMS,oBS];obtain⟨_,eF,a,code',k2,rfl,hF⟩:=DG (l:=l) (k1:=k1) hp hlen (DOk.start Ys hm2);delta bQ
 try dsimp only
 rw[hlen];simp only[bne_self_eq_false,oCF];rw[show List.append [] code=code from rfl,eF,cV (b:=40) (n:=0) (m:=code.length) ⟨by omega,by omega⟩];simp only[oBS,oCT];have hp':eU code' ss dt:=⟨hp.sz,hp.len,hp.fit,hp.num,by rw[hF.len];exact hp.clen,λi hi=>by rw[hF.len];exact hF.ins i hi⟩;refine(Bo hp.sz hd).bind ?_;rintro _ ⟨bs,key,k3,rfl,hL,Ve,XX⟩;dsimp only;obtain⟨cs,es,hM,_⟩:=yj (key:=key) hp hL;rw[tL hp hL,tL hp' hL,yk hp hp',es];simp only[oBS,bne_self_eq_false,oCF];have hA:Ch (Rd code) code code':=⟨hF.len,λk hk hS=>hF.same k ((OI k hk).2 hS),λk t x hS hx ht hlt=>.step hS hx ht hlt,λk x hS hx Ox j hj=>.free hS hx (by unfold frI;rw[Ox];rfl) hj⟩;have hst:GT (Rd code) code.length [ge,cu,cu,cu]:=⟨ge,rfl,λ_=>⟨rfl,λ_=>.zero (by omega)⟩⟩
 obtain⟨_,eL,i,ZP,Zz,Yk,k4,rfl⟩:=hY (f:=dq) (n:=NN) (s:=(0,code,ss,dt,code',ss,dt,bs,key,cs,cz,[ge,cu,cu,cu],bs,key,cs,cz,[ge,cu,cu,cu],l,k3,()))
  (λs=>∃(i:Nat)(cs:List DCe)(ls:List DLn)(ts:List DTh)(k:Int),s=((i:Int),code,ss,dt,code',ss,dt,bs,key,cs,ls,ts,bs,key,cs,ls,ts,l,k,())/\i<=5/\MOk (64*i) ss bs cs ls ts/\GT (Rd code) code.length ts/\DOk l k)
  (λt=>∃(i:Int)(cs:List DCe)(ls:List DLn)(ts:List DTh)(k:Int),t=.inr (i,false,code,ss,dt,code',ss,dt,bs,key,cs,ls,ts,bs,key,cs,ls,ts,l,k,())) (λs=>(5-s.1).toNat)
  ⟨0,cs,cz,_,k3,rfl,by omega,hM,hst,XX⟩ (by unfold NN;dsimp only;omega) (by
   rintro _ ⟨i,cs,ls,ts,k,rfl,hi,hM,hS,hd⟩;unfold dq;dsimp only;by_cases hlt:i<5
   ·rw[oDT (show(i:Int)<5 by omega)];simp only[oCT];refine dV hd (by decide) (by decide) λv k' Xe QS YM=>?_;dsimp only;rw[bR (x:=1+v) (by omega) (by omega)];obtain⟨r,er,s,ZP,Zz,t',rfl,R6,Wn,_⟩:=Cv (key:=key) (k:=1+v) (i:=0) hp hM (by omega) (by omega) (by omega) ⟨by omega,by omega⟩;have Vu:((0:Nat):Int)=0:=rfl;rw[Vu]at er;obtain⟨eS,hP⟩:=yn (key:=key) (k:=1+v) hp hp' hA hM (by omega) (by omega) ⟨by omega,by omega⟩ hS;have Qp:=hP _ er;rw[eS,er];dsimp only at Qp;have Qk:MOk (64*i+64) ss bs ZP Zz (ts.set 0 t'):=(hM.mono (by omega)).set R6 Wn;simp only[oBS,bne_self_eq_false,oCF];rw[Dn Qk.small];simp only[oBS,oNT,oCF,bne_self_eq_false];rw[bR (x:=(i:Int)+1) (by omega) (by omega)];exact Ok.ret ⟨⟨i+1,ZP,Zz,_,k',by push_cast;rfl,by omega,by rw[show(64*((i+1:Nat):Int))=64*i+64 by omega];exact Qk,Qp,YM⟩,by dsimp only;omega⟩
   ·rw[oDF (show ¬(i:Int)<5 by omega)]
    exact Ok.ret ⟨_,cs,ls,ts,k,rfl⟩)
 rw[eL];dsimp only;rw[B4];exact Ok.ret rfl
theorem law_ProgramUnreached{h0:HL den [RI]}{h1:HL den [RI]}(g0:GoodL _ h0)(g1:GoodL _ h1):fj.g (appL _ _ h0 (appL _ _ h1 ()))=some (true,()):=
 unreached_law (xE g0.1).1 (xE g0.1).2 (xE g1.1).1 (xE g1.1).2
end Go.Proofs.Ytgphpfjngblbiaa
