/- Part of the proof; no condition. -/
import Derived.Test.YtffnecakpdhpcaaGreatKe
import Derived.Deep.Slices
set_option linter.unusedVariables false
set_option linter.unusedSimpArgs false
namespace Go.Proofs.YtffnecakpdhpcaaGreat
open Go.RowKit
def Og:List CT->CT
 | []=>.nat
 | [t]=>t
 |t::u::r=>.pair t (Og (u::r))
def vG:(l:List CT)->HL den l->den (Og l)
 | [],_=>(0:Nat)
 | [_],h=>h.1
 |_::u::r,h=>(h.1,vG (u::r) h.2)
def encL:(l:List CT)->HL den l->List TV
 | [],_=>[]
 |t::r,h=>enc t h.1++encL r h.2
theorem K6:∀(l:List CT)(h:HL den l),enc (Og l) (vG l h)=encL l h
 | [],_=>rfl
 | [_],h=>(List.append_nil _).symm
 |_::u::r,h=>by
  show enc _ h.1++enc (Og (u::r)) (vG (u::r) h.2)=_;rw[K6 (u::r) h.2];rfl
def Kg:(c:CT)->den c->Prop
 |.int k,n=>(Lit.int k n).wf=true
 |.str,s=>ByteArray.size s<=maxLen
 |.row _ t,xs=>List.length xs<=maxLen/\∀x∈xs,Kg t x
 |.pair a b,x=>Kg a x.1/\Kg b x.2
 |_,_=>True
def GoodL:(l:List CT)->HL den l->Prop
 | [],_=>True
 |t::r,h=>Kg t h.1/\GoodL r h.2
theorem Ij:∀(l:List CT)(h:HL den l),GoodL l h->Kg (Og l) (vG l h)
 | [],_,_=>trivial
 | [_],_,g=>g.1
 |_::u::r,h,g=>⟨g.1,Ij (u::r) h.2 g.2⟩
def appL:(l m:List CT)->HL den l->HL den m->HL den (l++m)
 | [],_,_,k=>k
 |_::r,m,h,k=>(h.1,appL r m h.2 k)
theorem K7:∀(l m:List CT)(h:HL den l)(k:HL den m),encL (l++m) (appL l m h k)=encL l h++encL m k
 | [],_,_,_=>rfl
 |t::r,m,h,k=>by
  show enc t h.1++encL (r++m) (appL r m h.2 k)=(enc t h.1++encL r h.2)++_;rw[K7 r m h.2 k,List.append_assoc]
theorem KY:∀(l m:List CT)(h:HL den l)(k:HL den m),GoodL l h->GoodL m k->GoodL (l++m) (appL l m h k)
 | [],_,_,_,_,g=>g
 |_::r,m,h,k,g,g'=>⟨g.1,KY r m h.2 k g.2 g'⟩
def RelL(w:World):List TV->List Value->Prop
 | [],[]=>True
 |t::ts,v::vs=>ri w (λ_=>True) t v/\RelL w ts vs
 |_,_=>False
theorem RelL.app{w:World}:∀{a:List TV}{x:List Value}{b:List TV}{y:List Value},RelL w a x->RelL w b y->RelL w (a++b) (x++y)
 | [],[],_,_,_,h=>h
 |_::a,_::x,_,_,g,h=>⟨g.1,RelL.app (a:=a) (x:=x) g.2 h⟩
 | [],_::_,_,_,g,_=>g.elim
 |_::_,[],_,_,g,_=>g.elim
theorem RelL.len{w:World}:∀{a:List TV}{x:List Value},RelL w a x->a.length=x.length
 | [],[],_=>rfl
 |_::a,_::x,g=>by rw[oLC,oLC,RelL.len (a:=a) (x:=x) g.2]
 | [],_::_,g=>g.elim
 |_::_,[],g=>g.elim
theorem RelL.get{w:World}:∀{a:List TV}{x:List Value},RelL w a x->∀j (h:j<a.length)(h':j<x.length),ri w (λ_=>True) a[j] x[j]
 |_::_,_::_,g,0,_,_=>g.1
 |_::a,_::x,g,j+1,h,h'=>RelL.get (a:=a) (x:=x) g.2 j (by simpa using h) (by simpa using h')
 | [],_,_,_,h,_=>by simp at h
 |_::_,[],g,_,_,_=>g.elim
def Ty(P:Program)(g:TypeId->Option (List CT)):Nat->List Field->Option (List CT)
 |_,[]=>some []
 |off,f::fs=>match g f.type with
  |some l=>if f.offset=off/\l.length=P.cellsOf f.type then(Ty P g (off+l.length) fs).map (l++·)else none
  |none=>none
def Bp(P:Program):Nat->TypeId->Option (List CT)
 |0,_=>none
 |n+1,t=>match P.underlying t with
  |some .bool=>some [.bool]
  |some (.int k)=>some [.int k]
  |some .string=>some [.str]
  |some (.slice e)=>match Bp P n e with
   |some l=>if l.length=P.cellsOf e then some [.row false (Og l)]else none
   |none=>none
  |some (.struct fs)=>match Ty P (Bp P n) 0 fs.toList with
   |some l=>if l.length=P.cellsOf t then some l else none
   |none=>none
  |_=>none
section
variable {H:Type} {ec:TypeId×Value->H} {P:Program} {w:World} {base:Nat} {spare:Nat->Bool} {held:Bool}
theorem OH{g:TypeId->Option (List CT)}{m:Nat}{cs:List Value}
 (ih:∀t L,g t=some L->∀cs x,DataW.trod ec P w base spare held m t cs=some x->∃h:HL den L,GoodL L h/\RelL w (encL L h) cs):
 ∀(fs:List Field)(off:Nat)(L:List CT),Ty P g off fs=some L->(∀f∈fs,∃x,DataW.trod ec P w base spare held m f.type ((cs.drop f.offset).take (P.cellsOf f.type))=some x)->
  ∃h:HL den L,GoodL L h/\RelL w (encL L h) ((cs.drop off).take L.length):=by
 intro fs
 induction fs with
 |nil=>
  intro off L hL _
  injection hL with hL
  subst hL;exact⟨(),trivial,trivial⟩
 |cons f fs ihf=>
  intro off L hL hx;unfold Ty at hL;split at hL
  ·rename_i l hg;split at hL
   ·rename_i ho;obtain⟨rfl,hlen⟩:=ho
    cases hr:Ty P g (f.offset+l.length) fs with
    |none=>simp_all
    |some L2=>
     rw[hr]at hL
     injection hL with hL
     subst hL;obtain⟨x,h1⟩:=hx f List.mem_cons_self;obtain⟨h,g1,r1⟩:=ih _ _ hg _ _ h1;have ⟨k,g2,r2⟩:=ihf _ _ hr λf' hf'=>hx f' (List.mem_cons_of_mem _ hf');refine⟨appL l L2 h k,KY _ _ _ _ g1 g2,?_⟩;rw[K7,List.length_append,List.take_add,List.drop_drop];rw[hlen];rw[hlen]at r2;exact r1.app r2
   ·cases hL
  ·cases hL
theorem TU:∀(n:Nat)(t:TypeId)(L:List CT),Bp P n t=some L->∀(Vt:Nat)(cs:List Value)(x:DataW H×List MemPlace),DataW.trod ec P w base spare held Vt t cs=some x ->
 ∃h:HL den L,GoodL L h/\RelL w (encL L h) cs:=by
 intro n
 induction n with
 |zero=>intro t L h;cases h
 |succ n ih=>
  intro t L hL Vt cs x hx;unfold Bp at hL;split at hL
  ·rename_i ht
   injection hL with hL
   subst hL;obtain⟨b,rfl,_⟩:=DataW.trod_bool ht hx;exact⟨(b,()),⟨trivial,trivial⟩,.v rfl,trivial⟩
  ·rename_i k ht
   injection hL with hL
   subst hL;obtain⟨z,rfl,_,hw⟩:=DataW.trod_int ht hx;exact⟨(z,()),⟨hw,trivial⟩,.v rfl,trivial⟩
  ·rename_i ht
   injection hL with hL
   subst hL;obtain⟨s,rfl,_,hs⟩:=DataW.trod_string ht hx;exact⟨(s,()),⟨hs,trivial⟩,.v rfl,trivial⟩
  ·rename_i e ht;split at hL
   ·rename_i l hl;split at hL
    ·rename_i hsz
     injection hL with hL
     subst hL
     rcases DataW.trod_slice ht hx with⟨rfl,_⟩|⟨a,len,cap,elems,rest,m,_,rfl,_,_,X8,hmax,Y3,Z5,_,_⟩
     ·exact⟨([],()),⟨⟨Nat.zero_le _,λx hx=>by cases hx⟩,trivial⟩,.sl (c:=[]) 1 (λ_ _=>undef) (λi h=>by simp at h) (Nat.le_refl _) (Nat.zero_le _) (λ_=>rfl) (λi j h=>by simp at h) (λi j h=>by simp at h),trivial⟩
     ·have each:∀i:Fin len,∃p:HL den l×List Value,GoodL l p.1/\RelL w (encL l p.1) p.2/\w.cells? base (a.add (i.1*P.cellsOf e)) (P.cellsOf e)=some p.2:=by
       intro i;have h1:=Z5 i.1 i.2;rw[oGE (by omega)]at h1;obtain⟨Z4,h2,h3⟩:=Option.bind_eq_some_iff.1 h1;obtain⟨h,g,r⟩:=ih _ _ hl _ _ _ h3;exact⟨(h,Z4),g,r,h2⟩
      obtain⟨f,hf⟩:=Classical.axiomOfChoice each
      have clen:∀i,(encL l (f i).1).length=l.length:=λi=>by
       rw[(hf i).2.1.len,(World.cells?_some (hf i).2.2).2.1,hsz]
      have key:ri w (λ_=>True) (.sl ((List.ofFn λi:Fin len=>vG l (f i).1).map (enc (Og l)))) (.slice (some a) ((List.ofFn λi:Fin len=>vG l (f i).1).map (enc (Og l))).length cap):=by
       have el:((List.ofFn λi:Fin len=>vG l (f i).1).map (enc (Og l))).length=len:=by simp
       have eg:∀i (hi:i<((List.ofFn λi:Fin len=>vG l (f i).1).map (enc (Og l))).length),((List.ofFn λi:Fin len=>vG l (f i).1).map (enc (Og l)))[i]=encL l (f ⟨i,by omega⟩).1:=by
        intro i hi;simp[K6]
       refine .sl l.length (λi j=>if h:i<len then(f ⟨i,h⟩).2.getD j undef else undef) (λi hi=>by rw[eg i hi,clen]) (by rw[el];exact X8) hmax (λh=>by cases h) (λi j hi hj=>?_) (λi j hi hj=>?_)
       ·rw[el]at hi
        have cell:∀i' (Zt:i'<len) j',j'<l.length->w.cell? ((a.add (i'*l.length)).add j')=some ((f ⟨i',Zt⟩).2.getD j' undef):=by
         intro i' Zt j' ZQ;have h1:=World.cells?_some (hf ⟨i',Zt⟩).2.2;have h2:=h1.2.2 j' (by omega);rw[hsz];rw[h2]
         have:j'<(f ⟨i',Zt⟩).2.length:=by rw[h1.2.1];omega
         simp[this]
        have h0:=World.cell?_spot (cell 0 (by omega) 0 (by omega));obtain⟨b,o,spot⟩:=a
        have hspot:spot=none:=by simpa[Addr.add]using h0
        subst hspot;refine⟨b,o,rfl,trivial,?_⟩;have h2:=cell i hi j hj;rw[Go.WideShapes.add_plain,Go.WideShapes.add_plain]at h2;rw[dif_pos hi,<- h2,Nat.add_assoc]
       ·rw[el]at hi;have hr:=(hf ⟨i,hi⟩).2.1
        have Xh:j<(encL l (f ⟨i,hi⟩).1).length:=by rw[eg i (by omega)]at hj;exact hj
        have hj3:j<(f ⟨i,hi⟩).2.length:=by rw[<- hr.len];exact Xh
        have h3:=hr.get j Xh hj3
        simp_all
      rw[List.length_map,List.length_ofFn]at key;refine⟨(List.ofFn λi:Fin len=>vG l (f i).1,()),⟨⟨by rw[List.length_ofFn];omega,λx hx=>?_⟩,trivial⟩,key,trivial⟩;obtain⟨i,rfl⟩:=List.mem_ofFn.1 hx;exact Ij _ _ (hf i).1
    ·cases hL
   ·cases hL
  ·rename_i fs ht;split at hL
   ·rename_i l hl;split at hL
    ·rename_i hsz
     injection hL with hL
     subst hL;obtain⟨xs,m,_,_,hlen,hxl,hf⟩:=DataW.trod_struct ht hx
     obtain⟨h,g,r⟩:=OH (cs:=cs) (m:=m) (λt L hL cs x hx=>ih t L hL m cs x hx) fs.toList 0 l hl (by
      intro f hfm;obtain⟨i,hi,rfl⟩:=List.mem_iff_getElem.1 hfm
      have X6:i<fs.size:=by simpa using hi
      have h1:=hf i fs[i] (by simp[X6]);rw[oGE (by omega)]at h1
      exact⟨_,by simpa using h1⟩)
     refine⟨h,g,?_⟩;rw[List.drop_zero,hsz,<- hlen,List.take_length]at r;exact r
    ·cases hL
   ·cases hL
  ·cases hL
theorem intake_arg(n:Nat){t:TypeId}{L:List CT}{v:Value}{d:DataW H}{p:List MemPlace}(hL:Bp P n t=some L)(h:DataW.Trod ec P w base spare held t v d p):
 ∃h:HL den L,GoodL L h/\RelL w (encL L h) v.cells.toList:=by
 have ⟨Vt,hf⟩:=h;exact TU n t L hL Vt _ _ hf
end
theorem plain_one{w:World}{t:TV}{v:Value}(r:RelL w [t] [v]):Kd w t v:=r.1.plain
theorem Sx{a b:Int}(ha:CI a)(hb:0<b)(ZY:b<=9223372036854775807):i9 a b=some (a%b,()):=by
 have hne:(b != 0)=true:=by simp;omega
 have hm:=Int.tmod_lt_of_pos a hb
 have hm2:-b<Int.tmod a b:=by
  have:=Int.tmod_lt_of_pos (-a) hb;rw[Int.neg_tmod]at this;omega
 have hq:a%b=Int.tmod a b%b:=by
  have e:=Int.mul_tdiv_add_tmod a b;rw[Int.add_comm]at e
  conv=>lhs;rw[<- e]
  exact Int.add_mul_emod_self_left ..
 unfold i9;simp only[hne,oCT];by_cases h:Int.tmod a b<0
 ·simp[h,decide_true,oCT,oBS];rw[dX (by omega) (by omega),hq,<- Int.emod_eq_of_lt (a:=Int.tmod a b+b) (b:=b) (by omega) (by omega),Int.add_emod_right]
 ·simp[h,decide_false,oCF];rw[hq,Int.emod_eq_of_lt (by omega) hm]
theorem vK{a b:Int}(ha:CI a)(hb:0<b)(ZY:b<=9223372036854775807):ig a b=some (a%b,()):=by
 unfold ig;rw[Sx ha hb ZY];rfl
theorem g64{h:den I64}(g:Kg I64 h):CI h:=bounds_i64 g
theorem TX{h:den RI}(g:Kg RI h):(∀z∈(show List Int from h),CI z)/\(show List Int from h).length<=maxLen:=⟨λz hz=>bounds_i64 (g.2 z hz),g.1⟩
theorem SA{bs ss:List Int}{key a:Int}(h:LV bs ss)(ha:W16 a):lj bs key ss a=some (match I5 bs ss a with|some (r,o)=>(r,o,true,())|none=>(0,0,false,())):=by
 obtain⟨hs,hl,hr⟩:=h;obtain⟨a0,a1⟩:=ha;have XA:=hs.2.1
 have key1:∀(n k N:Nat),k+n=bs.length->n<N->dY fk N (ss,a,bs,(bs.length:Int),(k:Int),bs,key,0,0,())=some (match IL bs ss a n k with|some (r,o)=>.inl (true,r,o,())|none=>.inr (ss,a,bs,(bs.length:Int),(bs.length:Int),false,bs,key,0,0,())):=by
  intro n
  induction n with
  |zero=>
   intro k N hk hN;obtain⟨N,rfl⟩:∃M,N=M+1:=⟨N-1,by omega⟩
   obtain rfl:k=bs.length:=by omega
   have e:fk (ss,a,bs,(bs.length:Int),(bs.length:Int),bs,key,0,0,())=some (.inr (.inr (ss,a,bs,(bs.length:Int),(bs.length:Int),false,bs,key,0,0,()))):=by
    refine fc ?_;unfold fk;dsimp only
    (with_reducible refine dO (λZ'=>?_) λZ'=>?_)
    ·omega
    ·exact Ok.ret rfl
   simp only[dY,e,oBS,IL]
  |succ n ih=>
   intro k N hk hN;obtain⟨N,rfl⟩:∃M,N=M+1:=⟨N-1,by omega⟩;obtain⟨b,hb⟩:∃b,bs[k]?=some b:=⟨_,oGE (by omega)⟩;obtain⟨z,hz⟩:∃z,ss[k]?=some z:=⟨_,oGE (by omega)⟩;have Yn:=hs.2.2 z (dU hz);have WA:=hr k (by omega);unfold qc at WA;rw[ef hb,ef hz]at WA;by_cases hh:b<=a/\a<b+z
   ·have e:fk (ss,a,bs,(bs.length:Int),(k:Int),bs,key,0,0,())=some (.inr (.inl (true,(k:Int),a-b,()))):=by
     refine fc ?_;unfold fk;delta dS;dsimp only;rw[oDT (show(k:Int)<bs.length by omega),oDT (show(k:Int)<ss.length by omega),dT];simp only[oCT,oBS,show dR bs k=some b from hb,show dR ss k=some z from hz];rw[oDT (show a>=b by omega),dX (x:=a-b) (by omega) (by omega),oDT (show a-b<z by omega)];simp only[oCT,oBS];rw[dX (x:=a-b) (by omega) (by omega)];exact Ok.ret rfl
    simp only[dY,e,oBS,IL,ef hb,ef hz,oIP hh]
   ·have e:fk (ss,a,bs,(bs.length:Int),(k:Int),bs,key,0,0,())=some (.inl (ss,a,bs,(bs.length:Int),((k+1:Nat):Int),bs,key,0,0,())):=by
     refine fc ?_;unfold fk;delta dS;dsimp only;rw[oDT (show(k:Int)<bs.length by omega),oDT (show(k:Int)<ss.length by omega),dT];simp only[oCT,oBS,show dR bs k=some b from hb,show dR ss k=some z from hz];by_cases h1:a>=b
     ·rw[oDT h1,dX (x:=a-b) (by omega) (by omega),oDF (show ¬a-b<z by omega)];simp only[oCT,oCF,oBS];rw[dX (x:=(k:Int)+1) (by omega) (by omega)];exact Ok.ret rfl
     ·rw[oDF h1];simp only[oCF,oBS];rw[dX (x:=(k:Int)+1) (by omega) (by omega)];exact Ok.ret rfl
    simp only[dY,e,oBS,IL,ef hb,ef hz,oIN hh];exact ih (k+1) N (by omega) (by omega)
 unfold lj I5;delta dS
 try dsimp only
 rw[show dY fk NN (ss,a,bs,(bs.length:Int),0,bs,key,0,0,())=_ from key1 bs.length 0 NN (by omega) (by unfold NN;omega)]
 cases IL bs ss a bs.length 0 with
 |some x=>rfl
 |none=>rfl
theorem GY{K:Int->Prop}{bs ss:List Int}{key:Int}{c:DCe}(h:LV bs ss)(hc:pL K c):kJ bs key ss c.1 c.2=some ((qb bs ss key c).1,(qb bs ss key c).2.1,(qb bs ss key c).2.2.1,(qb bs ss key c).2.2.2,()):=by
 have ⟨c0,c1,c2,c3,_⟩:=hc;unfold kJ qb;rw[ej (by omega) (by omega)];dsimp only;rw[SA h ⟨c2,c3⟩]
 rcases(show c.1=0\/c.1=1\/c.1=2 by omega)with e|e|e<;>rw[e]
 ·rfl
 ·simp
  cases I5 bs ss c.2 with
  |some x=>rfl
  |none=>rfl
 ·rfl
theorem Tz{K:Int->Prop}{cs:List DCe}{ls:List DLn}{a:Int}(h:kW K cs ls)(ha:0<=a/\a<512):sf cs ls a=some ((Aw cs ls a).1,(Aw cs ls a).2,true,()):=by
 obtain⟨a0,a1⟩:=ha;obtain⟨h1,h2,h3,h4,_⟩:=id h;unfold sf Aw;delta dS;dsimp only;rw[oDF (show ¬a<0 by omega),oDF (show ¬a>=512 by omega),oDF (show ¬a>=(cs.length:Int) by omega)];simp only[oCF,oBS];rw[Int.tdiv_eq_ediv_of_nonneg a0,dX (x:=a/4) (by omega) (by omega)];rw[Int.tmod_eq_emod_of_nonneg (show 0<=a/4 by omega),Int.tmod_eq_emod_of_nonneg a0];obtain⟨i,hi⟩:∃i:Nat,a/4%4=i:=⟨(a/4%4).toNat,by omega⟩;rw[hi,dT,oTN];obtain⟨x,hx⟩:∃x,ls[i]?=some x:=⟨_,oGE (by omega)⟩;rw[oDT (show(i:Int)<ls.length by omega)];simp only[oCT,oBS,show dR ls i=some x from hx,hx];by_cases hq:x.1=a/4
 ·rcases h4 i x hx with⟨g,_,_⟩|⟨_,_,_,g4,g5⟩
  ·omega
  ·obtain⟨j,hj⟩:∃j:Nat,a%4=j:=⟨(a%4).toNat,by omega⟩;obtain⟨y,hy⟩:∃y,x.2.2[j]?=some y:=⟨_,oGE (by omega)⟩;rw[hj,oTN,oIP hq,getD_some hy,beq_iff_eq.2 hq,oDT (show(j:Int)<x.2.2.length by omega)];simp only[oCT,oBS,show dR ls i=some x from hx,dT];rw[Int.tmod_eq_emod_of_nonneg a0,hj,dT];simp only[oBS,show dR x.2.2 j=some y from hy]
 ·obtain⟨j,rfl⟩:∃j:Nat,a=j:=⟨a.toNat,by omega⟩;obtain⟨y,hy⟩:∃y,cs[j]?=some y:=⟨_,oGE (by omega)⟩;rw[oIN hq,oBF hq,oTN,getD_some hy];simp only[oCF,oBS,show dR cs j=some y from hy,dT]
theorem Pk{bs ss:List Int}{key:Int}{r:Nat}{o b z:Int}(h:LV bs ss)(hb:bs[r]?=some b)(hz:ss[r]?=some z)(o0:0<=o)(o1:o<z)(bz:b+z<=512)(b0:0<=b):jn bs key ss (r:Int) o=some (b+o,0,()):=by
 have hr:=(oGS hz).1;have X2:=(oGS hb).1;unfold jn lM;delta dS;dsimp only;rw[oDT (show(r:Int)>=0 by omega),oDT (show(r:Int)<ss.length by omega),oDT (show o>=0 by omega),oDF (show ¬(r:Int)>=bs.length by omega),dT];simp[show dR ss r=some z from hz,show dR bs r=some b from hb];rw[oDT o1,dX (by omega) (by omega)];rfl
theorem JY{K:Int->Prop}{bs ss:List Int}{key:Int}{cs:List DCe}{ls:List DLn}(h:LV bs ss)(hm:kW K cs ls):md cs ls bs key ss=some (wP bs ss key cs ls,()):=by
 have XA:=h.1.2.1
 have e0:∀(r:Nat)(b z:Int),bs[r]?=some b->ss[r]?=some z->1<=z->z<=32->0<=b->b+z<=512->∀(a1 a2 a3:_)(out:List (List DCn)),dY ir NN (ss,(r:Int),a1,a2,a3,z,0,cs,ls,bs,key,out,[],())=some (ss,(r:Int),a1,a2,a3,z,z,false,cs,ls,bs,key,out,NQ bs ss key cs ls r,()):=by
  intro r b z hb hz z1 WR b0 bz a1 a2 a3 out;obtain⟨n,rfl⟩:∃n:Nat,z=n:=⟨z.toNat,by omega⟩
  have e:NQ bs ss key cs ls r=(List.range n).map (P8 bs ss key cs ls r):=by unfold NQ;rw[ef hz,oTN]
  rw[e];refine mC (f:=ir) (N:=NN) (st:=λo=>(ss,(r:Int),a1,a2,a3,(n:Int),(o:Int),cs,ls,bs,key,out,(List.range o).map (P8 bs ss key cs ls r),())) (n:=n) (by unfold NN;omega) ?_ ?_
  ·intro o ho;unfold ir;dsimp only;rw[oDT (show(o:Int)<n by omega),Pk h hb hz (by omega) (by omega) bz b0];simp only[oCT,oBS];have A':=(BA (a:=b+o) hm ⟨by omega,by omega⟩).2;rw[Tz hm ⟨by omega,by omega⟩];simp only[oBS];rw[GY h A'];simp only[oBS];refine dP (d8 (by simp;omega)) ?_;rw[dX (x:=(o:Int)+1) (by omega) (by omega)];refine Ok.ret ?_;rw[<- kN];unfold P8;rw[ef hb];rfl
  ·unfold ir;dsimp only;rw[oDF (show ¬(n:Int)<n by omega)];exact Ok.ret rfl
 have e1:dY iq NN (ss,ss,(ss.length:Int),0,cs,ls,bs,key,[],())=some (ss,ss,(ss.length:Int),(ss.length:Int),false,cs,ls,bs,key,wP bs ss key cs ls,()):=by
  refine mC (f:=iq) (N:=NN) (st:=λr=>(ss,ss,(ss.length:Int),(r:Int),cs,ls,bs,key,(List.range r).map (NQ bs ss key cs ls),())) (n:=ss.length) (by unfold NN;omega) ?_ ?_
  ·intro r hr;obtain⟨b,z,hb,hz,z1,WR,b0,bz⟩:=h.at_ hr;unfold iq;dsimp only;rw[oDT (show(r:Int)<ss.length by omega),dT];simp only[oCT,oBS,show dR ss r=some z from hz];rw[e0 r b z hb hz z1 WR b0 bz];refine dP (d8 (by simp;omega)) ?_;rw[dX (x:=(r:Int)+1) (by omega) (by omega)];refine Ok.ret ?_;rw[<- kN];rfl
  ·unfold iq;dsimp only;rw[oDF (show ¬(ss.length:Int)<ss.length by omega)];exact Ok.ret rfl
 unfold md;delta dS
 simp_all
theorem OZ{n key:Int}{code:List DIn}{dt:List (List Int)}{bs ss:List Int}{cs:List DCe}{ls:List DLn}{ts:List DTh}(h:MOk n ss bs cs ls ts):ke code ss dt bs key cs ls ts=some (wP bs ss key cs ls,ts.map (ol bs ss key),()):=by
 have h4:=h.tlen
 have e1:dY gt NN (ts,(ts.length:Int),0,code,ss,dt,bs,key,cs,ls,ts,(),(),wP bs ss key cs ls,[],())=some (ts,(ts.length:Int),(ts.length:Int),false,code,ss,dt,bs,key,cs,ls,ts,(),(),wP bs ss key cs ls,ts.map (ol bs ss key),()):=by
  have:=mC (f:=gt) (N:=NN) (st:=λr=>(ts,(ts.length:Int),(r:Int),code,ss,dt,bs,key,cs,ls,ts,(),(),wP bs ss key cs ls,(ts.take r).map (ol bs ss key),())) (n:=ts.length) (t:=(ts,(ts.length:Int),(ts.length:Int),false,code,ss,dt,bs,key,cs,ls,ts,(),(),wP bs ss key cs ls,ts.map (ol bs ss key),())) (by unfold NN;omega) ?_ ?_
  ·exact this
  ·intro r hr;obtain⟨t,ht⟩:∃t,ts[r]?=some t:=⟨_,oGE (by omega)⟩;have hok:=h.thr t (dU ht);have h8:=hok.len;unfold gt;delta dS;dsimp only;rw[oDT (show(r:Int)<ts.length by omega),dT];simp only[oCT,oBS,show dR ts r=some t from ht]
   have e0:∀(a1 a2 a3 a4 a5 a6 a7 a8 a9 a10 a11 a12 a13 a14:_),dY gu NN (ts,(ts.length:Int),(r:Int),t.2.1,(t.2.1.length:Int),0,code,ss,dt,bs,key,cs,ls,ts,(),(),wP bs ss key cs ls,(ts.take r).map (ol bs ss key),a1,t.2.1,a2,a3,a4,a5,a6,a7,a8,a9,a10,a11,a12,a13,a14,[],())=
    some (ts,(ts.length:Int),(r:Int),t.2.1,(t.2.1.length:Int),(t.2.1.length:Int),false,code,ss,dt,bs,key,cs,ls,ts,(),(),wP bs ss key cs ls,(ts.take r).map (ol bs ss key),a1,t.2.1,a2,a3,a4,a5,a6,a7,a8,a9,a10,a11,a12,a13,a14,t.2.1.map (qb bs ss key),()):=by
    intro a1 a2 a3 a4 a5 a6 a7 a8 a9 a10 a11 a12 a13 a14
    have:=mC (f:=gu) (N:=NN) (st:=λo=>(ts,(ts.length:Int),(r:Int),t.2.1,(t.2.1.length:Int),(o:Int),code,ss,dt,bs,key,cs,ls,ts,(),(),wP bs ss key cs ls,(ts.take r).map (ol bs ss key),a1,t.2.1,a2,a3,a4,a5,a6,a7,a8,a9,a10,a11,a12,a13,a14,(t.2.1.take o).map (qb bs ss key),())) (n:=t.2.1.length)
     (t:=(ts,(ts.length:Int),(r:Int),t.2.1,(t.2.1.length:Int),(t.2.1.length:Int),false,code,ss,dt,bs,key,cs,ls,ts,(),(),wP bs ss key cs ls,(ts.take r).map (ol bs ss key),a1,t.2.1,a2,a3,a4,a5,a6,a7,a8,a9,a10,a11,a12,a13,a14,t.2.1.map (qb bs ss key),())) (by unfold NN;omega) ?_ ?_
    ·exact this
    ·intro o ho;obtain⟨c,hc⟩:∃c,t.2.1[o]?=some c:=⟨_,oGE ho⟩;unfold gu;dsimp only;rw[oDT (show(o:Int)<t.2.1.length by omega),dT];simp only[oCT,oBS,show dR t.2.1 o=some c from hc];rw[GY h.lay (hok.regs c (dU hc))];refine dP (d8 (by simp;omega)) ?_;rw[dX (x:=(o:Int)+1) (by omega) (by omega)];refine Ok.ret ?_;rw[<- fN (qb bs ss key) hc];rfl
    ·unfold gu;dsimp only;rw[oDF (show ¬(t.2.1.length:Int)<t.2.1.length by omega),List.take_length];exact Ok.ret rfl
   rw[e0];simp only[oBS];refine dP (d8 (by simp;omega)) ?_;rw[dX (x:=(r:Int)+1) (by omega) (by omega)];refine Ok.ret ?_;rw[<- fN (ol bs ss key) ht];rfl
  ·unfold gt;dsimp only;rw[oDF (show ¬(ts.length:Int)<ts.length by omega),List.take_length];exact Ok.ret rfl
 unfold ke;delta dS;simp only[JY h.lay h.mem,oBS]
 simp_all
theorem P3{S T:Type}{f:S->Option (S⊕T)}(st:Nat->S){n N:Nat}{bad good:T}(p:Nat->Prop)(hn:n<N)
 (h:∀i,i<n->(∀j,j<i->p j)->(p i/\f (st i)=some (.inl (st (i+1))))\/(¬p i/\f (st i)=some (.inr bad)))(he:f (st n)=some (.inr good)):
 ((∀i,i<n->p i)/\dY f N (st 0)=some good)\/((¬ ∀i,i<n->p i)/\dY f N (st 0)=some bad):=by
 have key:∀k i,i+k=n->(∀j,j<i->p j)->∀N,k<N->((∀i,i<n->p i)/\dY f N (st i)=some good)\/((¬ ∀i,i<n->p i)/\dY f N (st i)=some bad):=by
  intro k
  induction k with
  |zero=>
   intro i hi hp N hN
   obtain rfl:i=n:=by omega
   obtain⟨N',rfl⟩:∃N',N=N'+1:=⟨N-1,by omega⟩;exact .inl ⟨hp,by simp only[dY,he,oBS]⟩
  |succ k ih=>
   intro i hi hp N hN;obtain⟨N',rfl⟩:∃N',N=N'+1:=⟨N-1,by omega⟩
   rcases h i (by omega) hp with⟨hpi,e⟩|⟨hpi,e⟩
   ·simp only[dY,e];refine ih (i+1) (by omega) (λj hj=>?_) N' (by omega);by_cases hji:j=i
    ·rw[hji];exact hpi
    ·exact hp j (by omega)
   ·exact .inr ⟨λg=>hpi (g i (by omega)),by simp only[dY,e,oBS]⟩
 simp_all
def DG(o:Option (Bool×Unit))(p:Prop):Prop:=(p/\o=some (true,()))\/(¬p/\o=some (false,()))
theorem DG.val{o:Option (Bool×Unit)}{p:Prop}(h:DG o p):∃b,o=some (b,())/\(b=true↔p):=by
 rcases h with⟨h,e⟩|⟨h,e⟩
 all_goals simp_all
theorem DG.same{o o':Option (Bool×Unit)}{p:Prop}(h:DG o p)(h':DG o' p):o=o':=by
 rcases h with⟨h,e⟩|⟨h,e⟩<;>rcases h' with⟨h',e'⟩|⟨h',e'⟩
 ·rw[e,e']
 ·simp_all
 ·simp_all
 ·rw[e,e']
theorem IV{ss:List Int}(h:ss.length<=1000):DG (gG ss) (zi ss):=by
 have ⟨⟨v,u⟩,e,hv⟩:=IR h
 cases v with
 |true=>exact .inl ⟨hv.1 rfl,e⟩
 |false=>exact .inr ⟨λg=>(by simp_all),e⟩
theorem U5{bs ss:List Int}{key:Int}(hb:bs.length<=1000)(hs:ss.length<=1000)(hi:∀b∈bs,CI b):DG (gF bs key ss) (LV bs ss):=by
 unfold gF
 rcases IV hs with⟨hz,e⟩|⟨hz,e⟩
 rotate_left
 ·rw[e];exact .inr ⟨λh=>hz h.1,rfl⟩
 rw[e];delta dS;simp only[oBS,oNT,oCF];by_cases hl:(bs.length:Int)=ss.length
 rotate_left
 ·rw[bne_iff_ne.2 hl];exact .inr ⟨λh=>hl (by rw[h.2.1]),rfl⟩
 rw[bne_eq_false_iff_eq.2 hl];have h4:=hz.2.1
 have W7:=P3 (f:=fG) (N:=NN) (bad:=.inl (false,())) (good:=.inr (ss,bs,(bs.length:Int),(bs.length:Int),false,bs,key,())) (λi=>(ss,bs,(bs.length:Int),(i:Int),bs,key,())) (n:=bs.length) (λi=>qc bs ss i) (by unfold NN;omega) (λi Zt W5=>by
  obtain⟨b,X1⟩:∃b,bs[i]?=some b:=⟨_,oGE Zt⟩;obtain⟨z,Xe⟩:∃z,ss[i]?=some z:=⟨_,oGE (by omega)⟩;have Yn:=hz.2.2 z (dU Xe);have hb64:=hi b (dU X1);unfold CI at hb64;unfold fG;delta dS;dsimp only;rw[oDT (show(i:Int)<bs.length by omega),dT];simp only[oCT,oBS,show dR bs i=some b from X1,show dR ss i=some z from Xe];rw[dX (x:=512-z) (by omega) (by omega)];by_cases h0:b<0
  ·rw[oDT h0];exact .inr ⟨λh=>by unfold qc at h;rw[ef X1]at h;omega,rfl⟩
  rw[oDF h0];by_cases h1:b>512-z
  ·rw[oDT h1];exact .inr ⟨λh=>by unfold qc at h;rw[ef X1,ef Xe]at h;omega,rfl⟩
  rw[oDF h1]
  have Q':(lF bs 0 (Nat.sub i 0)).length=i:=by unfold lF;rw[oLT,List.drop_zero];show min i _=i;omega
  rw[show iz 0 i bs.length=true by unfold iz;simp;omega,Q'];simp only[oCT,oCF]
  rcases P3 (f:=fH) (N:=NN) (bad:=.inl (false,())) (good:=.inr (ss,(i:Int),b,bs,(bs.length:Int),(i:Int),lF bs 0 (Nat.sub i 0),(i:Int),(i:Int),false,bs,key,())) (λj=>(ss,(i:Int),b,bs,(bs.length:Int),(i:Int),lF bs 0 (Nat.sub i 0),(i:Int),(j:Int),bs,key,())) (n:=i) (λk=>¬(bs.getD i 0<=bs.getD k 0+ss.getD k 0/\bs.getD k 0<=bs.getD i 0+ss.getD i 0)) (by unfold NN;omega) (λj hj _=>by
   obtain⟨c,ZJ⟩:∃c,bs[j]?=some c:=⟨_,oGE (by omega)⟩;obtain⟨y,VH⟩:∃y,ss[j]?=some y:=⟨_,oGE (by omega)⟩;have Xo:=hz.2.2 y (dU VH);have hc:=W5 j hj;unfold qc at hc;rw[ef ZJ,ef VH]at hc
   have hx:(dR (lF bs 0 (Nat.sub i 0)) j)=some c:=by
    unfold dR lF;rw[List.getElem?_take,List.drop_zero,<- ZJ];exact oIP hj
   unfold fH;dsimp only;rw[oDT (show(j:Int)<i by omega),dT,dT];simp only[oCT,oBS,hx,show dR ss j=some y from VH,show dR ss i=some z from Xe];rw[dX (x:=b+z) (by omega) (by omega),dX (x:=c+y) (by omega) (by omega),ef X1,ef Xe,ef ZJ,ef VH];by_cases g1:b+z>=c
   ·rw[oDT g1];by_cases g2:c+y>=b
    ·simp_all
    ·rw[oDF g2];simp only[oCT,oCF];rw[dX (x:=(j:Int)+1) (by omega) (by omega)];exact .inl ⟨λh=>g2 (by omega),rfl⟩
   ·rw[oDF g1];simp only[oCT,oCF];rw[dX (x:=(j:Int)+1) (by omega) (by omega)]
    exact .inl ⟨λh=>g1 (by omega),rfl⟩) (by
   unfold fH;dsimp only;rw[oDF (show ¬(i:Int)<i by omega)]
   rfl)with⟨hp,e⟩|⟨hp,e⟩
  ·rw[show dY fH NN (ss,(i:Int),b,bs,(bs.length:Int),(i:Int),lF bs 0 (Nat.sub i 0),(i:Int),0,bs,key,())=_ from e];dsimp only;rw[dX (x:=(i:Int)+1) (by omega) (by omega)];refine .inl ⟨⟨?_,?_,hp⟩,rfl⟩
   ·rw[ef X1];omega
   ·rw[ef X1,ef Xe];omega
  ·rw[show dY fH NN (ss,(i:Int),b,bs,(bs.length:Int),(i:Int),lF bs 0 (Nat.sub i 0),(i:Int),0,bs,key,())=_ from e]
   exact .inr ⟨λh=>hp h.2.2,rfl⟩) (by
  unfold fG;dsimp only;rw[oDF (show ¬(bs.length:Int)<bs.length by omega)]
  rfl)
 simp only[oCF]
 rcases W7 with⟨hp,e⟩|⟨hp,e⟩
 ·rw[show dY fG NN (ss,bs,(bs.length:Int),0,bs,key,())=_ from e];exact .inl ⟨⟨hz,by omega,hp⟩,rfl⟩
 ·rw[show dY fG NN (ss,bs,(bs.length:Int),0,bs,key,())=_ from e];exact .inr ⟨λh=>hp h.2.2,rfl⟩
theorem GE:nb=gG:=rfl
theorem U4{bs ss:List Int}{key:Int}(hb:bs.length<=1000)(hs:ss.length<=1000)(hi:∀b∈bs,CI b):DG (kI bs key ss) (LV bs ss):=by
 unfold kI;rw[GE]
 rcases IV hs with⟨hz,e⟩|⟨hz,e⟩
 rotate_left
 ·rw[e];exact .inr ⟨λh=>hz h.1,rfl⟩
 rw[e];delta dS;simp only[oBS,oNT,oCF];by_cases hl:(bs.length:Int)=ss.length
 rotate_left
 ·rw[bne_iff_ne.2 hl];exact .inr ⟨λh=>hl (by rw[h.2.1]),rfl⟩
 rw[bne_eq_false_iff_eq.2 hl];have h4:=hz.2.1
 have W7:=P3 (f:=gJ) (N:=NN) (bad:=.inl (false,())) (good:=.inr (ss,bs,(bs.length:Int),(bs.length:Int),false,bs,key,())) (λi=>(ss,bs,(bs.length:Int),(i:Int),bs,key,())) (n:=bs.length) (λi=>qc bs ss i) (by unfold NN;omega) (λi Zt W5=>by
  obtain⟨b,X1⟩:∃b,bs[i]?=some b:=⟨_,oGE Zt⟩;obtain⟨z,Xe⟩:∃z,ss[i]?=some z:=⟨_,oGE (by omega)⟩;have Yn:=hz.2.2 z (dU Xe);have hb64:=hi b (dU X1);unfold CI at hb64;unfold gJ;dsimp only;rw[oDT (show(i:Int)<bs.length by omega),dT];simp only[oCT,oBS,show dR bs i=some b from X1,show dR ss i=some z from Xe];by_cases h0:b<0
  ·rw[oDT h0];exact .inr ⟨λh=>by unfold qc at h;rw[ef X1]at h;omega,rfl⟩
  rw[oDF h0];by_cases h1:b>=512
  ·rw[oDT h1];exact .inr ⟨λh=>by unfold qc at h;rw[ef X1,ef Xe]at h;omega,rfl⟩
  rw[oDF h1,dX (x:=b+z) (by omega) (by omega)];by_cases h2:b+z>512
  ·rw[oDT h2];exact .inr ⟨λh=>by unfold qc at h;rw[ef X1,ef Xe]at h;omega,rfl⟩
  rw[oDF h2];simp only[oCF,oBS]
  rcases P3 (f:=gK) (N:=NN) (bad:=.inl (false,())) (good:=.inr (ss,(i:Int),b,bs,(bs.length:Int),(i:Int),(i:Int),(i:Int),false,bs,key,())) (λj=>(ss,(i:Int),b,bs,(bs.length:Int),(i:Int),(i:Int),(j:Int),bs,key,())) (n:=i) (λk=>¬(bs.getD i 0<=bs.getD k 0+ss.getD k 0/\bs.getD k 0<=bs.getD i 0+ss.getD i 0)) (by unfold NN;omega) (λj hj _=>by
   obtain⟨c,ZJ⟩:∃c,bs[j]?=some c:=⟨_,oGE (by omega)⟩;obtain⟨y,VH⟩:∃y,ss[j]?=some y:=⟨_,oGE (by omega)⟩;have Xo:=hz.2.2 y (dU VH);have hc:=W5 j hj;unfold qc at hc;rw[ef ZJ,ef VH]at hc;unfold gK;dsimp only;rw[oDT (show(j:Int)<i by omega),dT,dT];simp only[oCT,oBS,show dR bs j=some c from ZJ,show dR ss j=some y from VH,show dR ss i=some z from Xe];rw[dX (x:=b+z) (by omega) (by omega),dX (x:=c+y) (by omega) (by omega),ef X1,ef Xe,ef ZJ,ef VH];by_cases g1:b<=c+y
   ·rw[oDT g1];by_cases g2:c<=b+z
    ·simp_all
    ·rw[oDF g2];simp only[oCT,oCF];rw[dX (x:=(j:Int)+1) (by omega) (by omega)];exact .inl ⟨λh=>g2 (by omega),rfl⟩
   ·rw[oDF g1];simp only[oCT,oCF];rw[dX (x:=(j:Int)+1) (by omega) (by omega)]
    exact .inl ⟨λh=>g1 (by omega),rfl⟩) (by
   unfold gK;dsimp only;rw[oDF (show ¬(i:Int)<i by omega)]
   rfl)with⟨hp,e⟩|⟨hp,e⟩
  ·rw[show dY gK NN (ss,(i:Int),b,bs,(bs.length:Int),(i:Int),(i:Int),0,bs,key,())=_ from e];dsimp only;rw[dX (x:=(i:Int)+1) (by omega) (by omega)];refine .inl ⟨⟨?_,?_,hp⟩,rfl⟩
   ·rw[ef X1];omega
   ·rw[ef X1,ef Xe];omega
  ·rw[show dY gK NN (ss,(i:Int),b,bs,(bs.length:Int),(i:Int),(i:Int),0,bs,key,())=_ from e]
   exact .inr ⟨λh=>hp h.2.2,rfl⟩) (by
  unfold gJ;dsimp only;rw[oDF (show ¬(bs.length:Int)<bs.length by omega)]
  rfl)
 simp only[oCF]
 rcases W7 with⟨hp,e⟩|⟨hp,e⟩
 ·rw[show dY gJ NN (ss,bs,(bs.length:Int),0,bs,key,())=_ from e];exact .inl ⟨⟨hz,by omega,hp⟩,rfl⟩
 ·rw[show dY gJ NN (ss,bs,(bs.length:Int),0,bs,key,())=_ from e];exact .inr ⟨λh=>hp h.2.2,rfl⟩
theorem GK:mb=fK:=rfl
theorem On{bs ss:List Int}{key:Int}{c:DCn}(h:LV bs ss)(hc:Pr ss c):nH bs key ss c.1 c.2.1 c.2.2.1 c.2.2.2=some ((rS bs key c).1,(rS bs key c).2,0,()):=by
 unfold nH rS;rw[GK,mW hc]
 rcases hc with⟨h1|h1,h2,h3,h4⟩|⟨h1,h2,h3,n,h5,h6,h7⟩
 ·simp_all
 ·simp_all
 ·obtain⟨b,hb,b0,b1,b2,b3⟩:=AS h h3 h5 h6 h7;obtain⟨j,hj⟩:∃j:Nat,c.2.2.1=j:=⟨c.2.2.1.toNat,by omega⟩;rw[hj]at hb h5⊢;rw[oTN]at hb h5⊢;have hlt:=(oGS h5).1;have ⟨b',z,YZ,hz,z1,WR,b0',bz⟩:=h.at_ hlt;rw[hb]at YZ;cases YZ;rw[h5]at hz;cases hz;rw[h1,ef hb,Pk h hb h5 h6 h7 bz b0'];rfl
section
variable {key:Int} {code:List DIn} {ss bs:List Int} {dt:List (List Int)} {rg:List (List DCn)} {vs:List DTs}
theorem TG(hL:LV bs ss)(h:StW ss rg vs){r:Nat}(hr:r<rg.length){x:List DCn}(hx:rg[r]?=some x){cs:List DCe}(hc:cs.length=512):
 dY gc NN (code,ss,dt,bs,key,rg,vs,(r:Int),rg,(rg.length:Int),(r:Int),x,(x.length:Int),0,(),0,(),(),(),bs,key,cs,eH,(),())=
  some (code,ss,dt,bs,key,rg,vs,(r:Int),rg,(rg.length:Int),(r:Int),x,(x.length:Int),(x.length:Int),false,(),0,(),(),(),bs,key,zo bs key (bs.getD r 0) x cs x.length,eH,(),()):=by
 have X3:=h.rlen;obtain⟨b,z,hb,hz,z1,WR,b0,bz⟩:=hL.at_ (r:=r) (by omega);have hf:=h.fit r x z hx hz;have hxc:=h.cells x (dU hx);have hbd:=ef hb;rw[hbd];refine mC (f:=gc) (N:=NN) (st:=λo=>(code,ss,dt,bs,key,rg,vs,(r:Int),rg,(rg.length:Int),(r:Int),x,(x.length:Int),(o:Int),(),0,(),(),(),bs,key,zo bs key b x cs o,eH,(),())) (n:=x.length) (by unfold NN;omega) ?_ ?_
 ·intro o ho;obtain⟨c,YN⟩:∃c,x[o]?=some c:=⟨_,oGE ho⟩;unfold gc;dsimp only;rw[oDT (show(o:Int)<x.length by omega),dT,dT];simp only[oCT,oBS,show dR x o=some c from YN,show dR bs r=some b from hb,On (key:=key) hL (hxc c (dU YN))];rw[dX (x:=b+o) (by omega) (by omega),dX (x:=(o:Int)+1) (by omega) (by omega)];obtain⟨a,ha⟩:∃a:Nat,b+o=a:=⟨(b+o).toNat,by omega⟩;obtain⟨y,hy⟩:∃y,(zo bs key b x cs o)[a]?=some y:=⟨_,oGE (by rw[xe];omega)⟩;rw[ha,dT];simp only[oBS,show dR (zo bs key b x cs o) a=some y from hy,eK hy];refine Ok.ret ?_
  have e:zo bs key b x cs (o+1)=(zo bs key b x cs o).set a (rS bs key c):=by rw[zo,ha,qF YN];rfl
  simp_all
 ·unfold gc;dsimp only;rw[oDF (show ¬(x.length:Int)<x.length by omega)];exact Ok.ret rfl
theorem TI(hL:LV bs ss)(h:StW ss rg vs)(h4:ss.length<=4):
 dY ij NN (code,ss,dt,bs,key,rg,vs,rg,(rg.length:Int),0,(),0,(),(),(),bs,key,List.replicate 512 (0,0),eH,(),())=
  some (code,ss,dt,bs,key,rg,vs,rg,(rg.length:Int),(rg.length:Int),false,(),0,(),(),(),bs,key,Ax bs key rg rg.length,eH,(),()):=by
 have X3:=h.rlen;refine mC (N:=NN) (st:=λr=>(code,ss,dt,bs,key,rg,vs,rg,(rg.length:Int),(r:Int),(),0,(),(),(),bs,key,Ax bs key rg r,eH,(),())) (n:=rg.length) (by unfold NN;omega) ?_ ?_
 ·intro r hr;obtain⟨x,hx⟩:∃x,rg[r]?=some x:=⟨_,oGE hr⟩;unfold ij;delta dS;dsimp only;rw[oDT (show(r:Int)<rg.length by omega),dT];simp only[oCT,oBS,show dR rg r=some x from hx];rw[TG hL h hr hx (xn r)];simp;rw[dX (by omega) (by omega)];refine Ok.ret ?_
  have e:Ax bs key rg (r+1)=zo bs key (bs.getD r 0) x (Ax bs key rg r) x.length:=by rw[Ax,qF hx]
  simp_all
 ·unfold ij;dsimp only;rw[oDF (show ¬(rg.length:Int)<rg.length by omega)];exact Ok.ret rfl
end
section
variable {key:Int} {code:List DIn} {ss bs:List Int} {dt:List (List Int)} {rg:List (List DCn)} {vs:List DTs}
theorem S0(a0 a1 a2 a3 a4 a5 a6:Int)(a7:List DCn):jo a0 a1 a2 a3 a4 a5 a6 a7=some (a0,List.replicate 8 (0,0),a1,a2,a3,a4,a5,a6,()):=rfl
theorem N7:qR=some (eH,()):=by kernel_rfl
def Ri(f:DCn->DCe)(l:List DCn)(k:Nat):List DCe:=(l.take k).map f++List.replicate (8-k) (0,0)
theorem NP{f:DCn->DCe}{l:List DCn}{k:Nat}{c:DCn}(hl:l.length=8)(hk:k<8)(hc:l[k]?=some c):(Ri f l k)[k]?=some (0,0)/\(Ri f l k).set k (f c)=Ri f l (k+1):=by
 have hlen:((l.take k).map f).length=k:=by rw[List.length_map,oLT];omega
 unfold Ri;constructor
 ·rw[List.getElem?_append_right (by omega),hlen,Nat.sub_self];have ⟨m,hm⟩:∃m,8-k=m+1:=⟨8-k-1,by omega⟩
  simp_all
 ·have ⟨m,hm⟩:∃m,8-k=m+1:=⟨8-k-1,by omega⟩;rw[hm,List.replicate_succ,List.set_append_right _ _ (by omega),hlen,Nat.sub_self,List.set_cons_zero,<- fN f hc,List.append_assoc,show 8-(k+1)=m by omega];rfl
set_option maxHeartbeats 4000000 in
theorem Qy(hp:kV code ss dt)(hL:LV bs ss)(h:StW ss rg vs)(hV:iP code ss dt rg vs=some (true,()))(hLv:kI bs key ss=some (true,()))(hA:f7 rg vs code ss dt=some (false,())):
 Ok (io code ss dt bs key rg vs) (·=(bs,key,Ax bs key rg rg.length,eH,vs.map (thF bs key),true,())):=by
 have h4:=hp.sz.2.1;have hbl:=hL.2.1;have X3:=h.rlen;have YU:=h.vlen;unfold io;delta dS;rw[hV,oBS];dsimp only;simp only[oNT,oCF];rw[hLv,oBS];dsimp only;simp only[oNT,oCF];rw[hA,oBS];simp only[oBS,oCF];unfold sg lL;refine Ok.bind (P:=(·=(bs,key,()))) ?_ ?_
 ·refine Ok.bind (P:=(·=(bs,()))) (dP (d8 (by omega)) (Ok.ret rfl)) ?_;rintro _ rfl;exact Ok.ret rfl
 rintro _ rfl;dsimp only;rw[N7,oBS];dsimp only;rw[TI hL h h4,oBS];dsimp only;generalize Ax bs key rg rg.length=cs
 have e5:dY f8 NN (code,ss,dt,bs,key,vs,(vs.length:Int),0,(),0,(),(),(),bs,key,cs,eH,[],())=
  some (code,ss,dt,bs,key,vs,(vs.length:Int),(vs.length:Int),false,(),0,(),(),(),bs,key,cs,eH,vs.map (thF bs key),()):=by
  have:=mC (f:=f8) (N:=NN) (st:=λk=>(code,ss,dt,bs,key,vs,(vs.length:Int),(k:Int),(),0,(),(),(),bs,key,cs,eH,(vs.take k).map (thF bs key),())) (n:=vs.length)
   (t:=(code,ss,dt,bs,key,vs,(vs.length:Int),(vs.length:Int),false,(),0,(),(),(),bs,key,cs,eH,vs.map (thF bs key),())) (by unfold NN;omega) ?_ ?_
  ·exact this
  ·intro k hk;obtain⟨v,hv⟩:∃v,vs[k]?=some v:=⟨_,oGE hk⟩;have h8:=h.len v (dU hv);have hvr:=h.regs v (dU hv);unfold f8;delta dS;dsimp only;rw[oDT (show(k:Int)<vs.length by omega),dT];simp only[oCT,oBS,show dR vs k=some v from hv,S0]
   have e4:∀(T:List DTh)(a1 a2 a3 a4 a5 a6 a7:Int)(a8:List DCn)(b1 b2 b3 b4 b5 b6 b7:Int),dY f9 NN (code,ss,dt,bs,key,vs,(vs.length:Int),(k:Int),v.2.2.2.2.2.2.2,(v.2.2.2.2.2.2.2.length:Int),0,(),0,(),(),(),bs,key,cs,eH,T,a1,a2,a3,a4,a5,a6,a7,a8,b1,List.replicate 8 (0,0),b2,b3,b4,b5,b6,b7,())=
    some (code,ss,dt,bs,key,vs,(vs.length:Int),(k:Int),v.2.2.2.2.2.2.2,(v.2.2.2.2.2.2.2.length:Int),(v.2.2.2.2.2.2.2.length:Int),false,(),0,(),(),(),bs,key,cs,eH,T,a1,a2,a3,a4,a5,a6,a7,a8,b1,v.2.2.2.2.2.2.2.map (rS bs key),b2,b3,b4,b5,b6,b7,()):=by
    intro T a1 a2 a3 a4 a5 a6 a7 a8 b1 b2 b3 b4 b5 b6 b7
    have:=mC (f:=f9) (N:=NN) (st:=λo=>(code,ss,dt,bs,key,vs,(vs.length:Int),(k:Int),v.2.2.2.2.2.2.2,(v.2.2.2.2.2.2.2.length:Int),(o:Int),(),0,(),(),(),bs,key,cs,eH,T,a1,a2,a3,a4,a5,a6,a7,a8,b1,Ri (rS bs key) v.2.2.2.2.2.2.2 o,b2,b3,b4,b5,b6,b7,())) (n:=v.2.2.2.2.2.2.2.length)
     (t:=(code,ss,dt,bs,key,vs,(vs.length:Int),(k:Int),v.2.2.2.2.2.2.2,(v.2.2.2.2.2.2.2.length:Int),(v.2.2.2.2.2.2.2.length:Int),false,(),0,(),(),(),bs,key,cs,eH,T,a1,a2,a3,a4,a5,a6,a7,a8,b1,v.2.2.2.2.2.2.2.map (rS bs key),b2,b3,b4,b5,b6,b7,())) (by unfold NN;omega) ?_ ?_
    ·exact this
    ·intro o ho;obtain⟨c,hc⟩:∃c,v.2.2.2.2.2.2.2[o]?=some c:=⟨_,oGE ho⟩;obtain⟨r1,r2⟩:=NP (f:=rS bs key) h8 (by omega) hc;unfold f9;dsimp only;rw[oDT (show(o:Int)<v.2.2.2.2.2.2.2.length by omega),dT];simp only[oCT,oBS,show dR v.2.2.2.2.2.2.2 o=some c from hc,On (key:=key) hL (hvr c (dU hc)),show dR (Ri (rS bs key) v.2.2.2.2.2.2.2 o) o=some (0,0)from r1,eK r1];rw[dX (x:=(o:Int)+1) (by omega) (by omega)];refine Ok.ret ?_
     simp_all
    ·unfold f9;dsimp only;rw[oDF (show ¬(v.2.2.2.2.2.2.2.length:Int)<v.2.2.2.2.2.2.2.length by omega)]
     have e:Ri (rS bs key) v.2.2.2.2.2.2.2 v.2.2.2.2.2.2.2.length=v.2.2.2.2.2.2.2.map (rS bs key):=by unfold Ri;rw[List.take_length,h8];simp
     rw[e];exact Ok.ret rfl
   rw[e4,oBS];dsimp only;refine dP (d8 (by simp;omega)) ?_;rw[dX (x:=(k:Int)+1) (by omega) (by omega)];refine Ok.ret ?_;rw[<- fN (thF bs key) hv];rfl
  ·unfold f8;dsimp only;rw[oDF (show ¬(vs.length:Int)<vs.length by omega),List.take_length];exact Ok.ret rfl
 rw[e5];exact Ok.ret rfl
end
theorem iy{b n m:Nat}(hb:b<=1000)(h:n+m<=1000000):ek b n m=true:=by
 have h2:=Nat.mul_le_mul h hb;simp[ek];omega
theorem P2{S T:Type}{f:S->Option (S⊕T)}(st:Nat->S){n N:Nat}{bad:Nat->T}{good:T}(p:Nat->Prop)(hn:n<N)
 (h:∀i,i<n->(p i/\f (st i)=some (.inl (st (i+1))))\/(¬p i/\f (st i)=some (.inr (bad i))))(he:f (st n)=some (.inr good)):
 ((∀i,i<n->p i)/\dY f N (st 0)=some good)\/((¬ ∀i,i<n->p i)/\∃i,dY f N (st 0)=some (bad i)):=by
 have key:∀k i,i+k=n->(∀j,j<i->p j)->∀N,k<N->((∀i,i<n->p i)/\dY f N (st i)=some good)\/((¬ ∀i,i<n->p i)/\∃j,dY f N (st i)=some (bad j)):=by
  intro k
  induction k with
  |zero=>
   intro i hi hp N hN
   obtain rfl:i=n:=by omega
   obtain⟨N',rfl⟩:∃N',N=N'+1:=⟨N-1,by omega⟩;exact .inl ⟨hp,by simp only[dY,he,oBS]⟩
  |succ k ih=>
   intro i hi hp N hN;obtain⟨N',rfl⟩:∃N',N=N'+1:=⟨N-1,by omega⟩
   rcases h i (by omega)with⟨hpi,e⟩|⟨hpi,e⟩
   ·simp only[dY,e];refine ih (i+1) (by omega) (λj hj=>?_) N' (by omega);by_cases hji:j=i
    ·rw[hji];exact hpi
    ·exact hp j (by omega)
   ·exact .inr ⟨λg=>hpi (g i (by omega)),i,by simp only[dY,e,oBS]⟩
 simp_all
theorem EI{S T:Type}{f:S->Option (S⊕T)}(P:S->Prop)(Q:T->Prop)(m:S->Nat)
 (h:∀s,P s->(∃s',f s=some (.inl s')/\P s'/\m s'<m s)\/∃t,f s=some (.inr t)/\Q t):∀n s,P s->m s<n->∃t,dY f n s=some t/\Q t:=by
 intro n
 induction n with
 |zero=>omega
 |succ n ih=>
  intro s hp hm
  rcases h s hp with⟨s',e,hp',hm'⟩|⟨t,e,hq⟩
  ·have ⟨t,e2,hq⟩:=ih s' hp' (by omega);exact⟨t,by simp[dY,e];exact e2,hq⟩
  ·exact⟨t,by simp[dY,e],hq⟩
def oj(c:Int×Int×Int×Int):Prop:=
 ((c.1=0\/c.1=2)/\c.2.2.1=0/\c.2.2.2=0/\0<=c.2.1/\c.2.1<=65535)\/
 (c.1=1/\c.2.1=0/\((c.2.2.1=-1/\0<=c.2.2.2/\c.2.2.2<=65535)\/(0<=c.2.2.1/\c.2.2.1<4/\0<=c.2.2.2/\c.2.2.2<32)))
def be:Nat->Int->List Int
 |0,_=>[]
 |n+1,v=>(v/256 ^ n)%256::be n v
theorem mO:∀(n:Nat)(v:Int),(be n v).length=n:=by
 intro n
 induction n with
 |zero=>intro v;rfl
 |succ n ih=>intro v;simp[be,ih]
theorem Lv(x:Int):wk .u8 x=x%256:=RC x
theorem Tw(v:Int){n:Nat}(h:n<=7):shR .shr .i64 v (8*n)=v/256 ^ n:=by
 have e:min (8*n) (IntKind.bits .i64)=8*n:=by simp[IntKind.bits];omega
 have e2:(2:Int) ^ (8*n)=256 ^ n:=by rw[Int.pow_mul];rfl
 show v.fdiv (2 ^ (min (8*n) (IntKind.bits .i64)))=_
 grind
theorem Qc(v:Int):∀(n:Nat),n<=7->∀(m:Nat)(b:List Int),n<m->b.length+n<=100000->dY kL m ((n:Int)-1,v,b,())=some (-1,v,false,b++be n v,()):=by
 intro n
 induction n with
 |zero=>
  intro _ m b hm _;obtain⟨m,rfl⟩:∃m',m=m'+1:=⟨m-1,by omega⟩;simp[dY,kL,be]
 |succ n ih=>
  intro hn m b hm hb;obtain⟨m,rfl⟩:∃m',m=m'+1:=⟨m-1,by omega⟩
  have e1:((n+1:Nat):Int)-1=n:=by omega
  have e2:w64 (8*(n:Int))=((8*n:Nat):Int):=by rw[dX (by omega) (by omega)];omega
  have e3:w64 ((n:Int)-1)=(n:Int)-1:=dX (by omega) (by omega)
  have hstep:kL (((n+1:Nat):Int)-1,v,b,())=some (.inl ((n:Int)-1,v,b++[(v/256 ^ n)%256],())):=by
   unfold kL;rw[e1]
   have h0:decide ((n:Int)>=0)=true:=by simp
   simp only[h0,e2,dT,oBS,Tw v (by omega:n<=7),Lv,e3];rw[iy (by decide) (by simp;omega)];rfl
  simp only[dY,hstep,oBS];rw[ih (by omega) m _ (by omega) (by simp;omega)];simp[be]
theorem KJ{n:Nat}{v:Int}{b:List Int}(hn:n<=7)(hb:b.length<=90000):gj n v b=some (b++be n v,()):=by
 unfold gj;rw[dX (x:=(n:Int)-1) (by omega) (by omega)];simp[Qc v n hn NN b (by unfold NN;omega) (by omega)]
def cb(c:Int×Int×Int×Int):List Int:=if c.1=1 then[1,c.2.2.1+1]++be 2 c.2.2.2 else[c.1,0]++be 2 c.2.1
theorem O7(c:Int×Int×Int×Int):(cb c).length=4:=by
 unfold cb;split<;>simp[mO]
theorem SU{c:Int×Int×Int×Int}{b:List Int}(h:oj c)(hb:b.length<=80000):qt c.1 c.2.1 c.2.2.1 c.2.2.2 b=some (b++cb c,()):=by
 obtain⟨t,v,r,o⟩:=c;unfold qt cb
 rcases h with⟨h1,h2,h3,h4,h5⟩|⟨h1,h2,h3⟩
 ·simp only at h1 h2 h3 h4 h5
  have ht:(t==1)=false:=by simp;omega
  simp only[ht,oCF];rw[iy (by decide) (by simp;omega)];have e:wk .i64 v=v:=Kh (by omega) (by omega);have hp:=KJ (n:=2) (v:=v) (b:=b.append [t,0]) (by decide) (by show(b++[t,0]).length<=90000;simp;omega)
  simp_all
 ·simp only at h1 h2 h3;subst h1;simp only[beq_self_eq_true,oCT];rw[dX (x:=r+1) (by omega) (by omega),Lv,Int.emod_eq_of_lt (by omega) (by omega)];rw[iy (by decide) (by simp;omega)];simp only[oCT];have hp:=KJ (n:=2) (v:=o) (b:=b.append [1,r+1]) (by decide) (by show(b++[1,r+1]).length<=90000;simp;omega)
  simp_all
theorem sH:∀l:List (Int×Int×Int×Int),(l.flatMap cb).length=4*l.length:=by
 intro l
 induction l with
 |nil=>rfl
 |cons x l ih=>rw[List.flatMap_cons,List.length_append,ih,O7,oLC];omega
def lb(xs:List (Int×Int×Int×Int)):List Int:=(xs.length:Int)::xs.flatMap cb
theorem Ov{xs:List (Int×Int×Int×Int)}{b:List Int}(h:∀c∈xs,oj c)(hl:xs.length<=255)(hb:b.length<=70000):jU xs b=some (b++lb xs,()):=by
 unfold jU;simp only[ee,Lv];rw[Int.emod_eq_of_lt (by omega) (by omega),iy (by decide) (by simp;omega)]
 obtain⟨t,e,x6,x7,rfl⟩:=EI (f:=po)
  (λs=>∃i:Nat,i<=xs.length/\s=(xs,(xs.length:Int),(i:Int),b++(xs.length:Int)::(xs.take i).flatMap cb,()))
  (λt=>∃x6 x7,t=(xs,(xs.length:Int),x6,x7,b++lb xs,()))
  (λs=>(s.2.1-s.2.2.1).toNat) (by
   rintro _ ⟨i,hi,rfl⟩;unfold po;by_cases hn:(i:Int)<xs.length
   ·left
    have X6:i<xs.length:=by omega
    have Zz:((xs.take i).flatMap cb).length<=4*i:=by
     rw[sH,oLT];omega
    have htk:(xs.take (i+1)).flatMap cb=(xs.take i).flatMap cb++cb xs[i]:=by
     rw[List.take_succ_eq_append_getElem X6,List.flatMap_append];simp
    simp only[hn,decide_true,oCT,dT,oBS,dR,oGE X6];rw[SU (h _ (List.getElem_mem X6)) (by rw[List.length_append,oLC];omega)];rw[dX (x:=(i:Int)+1) (by omega) (by omega)];refine⟨_,rfl,⟨i+1,by omega,?_⟩,by simp only;omega⟩
    simp_all
   ·right;simp only[hn,decide_false,oCF]
    have:i=xs.length:=by omega
    subst this
    exact⟨_,rfl,_,_,by rw[List.take_length];rfl⟩) NN (xs,(xs.length:Int),0,b.append [(xs.length:Int)],()) ⟨0,by omega,by simp⟩ (by show((xs.length:Int)-0).toNat<NN;unfold NN;omega)
 simp_all
def lG(c:Int×Int×Int×Int):Prop:=
 ((c.1=0\/c.1=2)/\c.2.2.1=0/\c.2.2.2=0)\/
 (c.1=1/\c.2.1=0/\((c.2.2.1=-1/\0<=c.2.2.2/\c.2.2.2<=65535)\/(0<=c.2.2.1/\c.2.2.1<4/\0<=c.2.2.2/\c.2.2.2<32)))
instance (c:Int×Int×Int×Int):Decidable (lG c):=by unfold lG;exact inferInstance
def rf(c:Int×Int×Int×Int):Prop:=0<=c.2.1/\c.2.1<=65535
theorem lG.ok{c:Int×Int×Int×Int}(h:lG c)(t:rf c):oj c:=by
 rcases h with⟨h1,h2,h3⟩|h
 ·exact .inl ⟨h1,h2,h3,t.1,t.2⟩
 ·exact .inr h
theorem oj.v{c:Int×Int×Int×Int}(h:oj c):lG c:=by
 rcases h with⟨h1,h2,h3,_⟩|h
 ·exact .inl ⟨h1,h2,h3⟩
 ·exact .inr h
theorem AM{P:Prop}[Decidable P]{b:Bool}(h:b=true↔P):some (b,())=some (decide P,()):=by
 rw[show b=decide P by grind]
theorem NL(c:Int×Int×Int×Int):na c.1 c.2.1 c.2.2.1 c.2.2.2=some (decide (lG c),()):=by
 obtain⟨t,v,r,o⟩:=c;unfold na lG;simp only;by_cases h0:t=0
 ·by_cases hr:r=0<;>by_cases ho:o=0<;>simp[Bool.cond_eq_ite,h0,hr,ho]
 by_cases h2:t=2
 ·by_cases hr:r=0<;>by_cases ho:o=0<;>simp[Bool.cond_eq_ite,h2,hr,ho]
 by_cases h1:t=1
 ·subst h1;by_cases hv:v=0
  ·by_cases hr:r=-1
   ·subst hr;by_cases ho:0<=o<;>by_cases hp:o<=65535<;>simp[Bool.cond_eq_ite,hv,ho,hp]
   ·by_cases r0:0<=r<;>by_cases r1:r<4<;>by_cases o0:0<=o<;>by_cases o1:o<32<;>simp[Bool.cond_eq_ite,hv,hr,r0,r1,o0,o1]
  ·by_cases hr:r=-1
   ·subst hr;by_cases ho:0<=o<;>simp[Bool.cond_eq_ite,hv,ho]
   ·simp[Bool.cond_eq_ite,hv,hr]
 ·simp[Bool.cond_eq_ite,h0,h1,h2]
theorem NR(c:Int×Int×Int×Int):i3 c.1 c.2.1 c.2.2.1 c.2.2.2=some (decide (lG c),()):=by
 obtain⟨t,v,r,o⟩:=c;unfold i3 lG;simp only;by_cases h0:t=0
 ·by_cases hr:r=0<;>by_cases ho:o=0<;>simp[Bool.cond_eq_ite,h0,hr,ho]
 by_cases h2:t=2
 ·by_cases hr:r=0<;>by_cases ho:o=0<;>simp[Bool.cond_eq_ite,h2,hr,ho]
 by_cases h1:t=1
 ·subst h1;by_cases hv:v=0
  ·by_cases hr:r=-1
   ·subst hr;by_cases ho:0<=o<;>by_cases hp:o<=65535<;>simp[Bool.cond_eq_ite,hv,ho,hp]
   ·by_cases r0:0<=r<;>by_cases r1:r<4<;>by_cases o0:0<=o<;>by_cases o1:o<32<;>simp[Bool.cond_eq_ite,hv,hr,r0,r1,o0,o1]
  ·by_cases hr:r=-1
   ·subst hr;by_cases ho:0<=o<;>simp[Bool.cond_eq_ite,hv,ho]
   ·simp[Bool.cond_eq_ite,hv,hr]
 ·simp[Bool.cond_eq_ite,h0,h1,h2]
theorem Ro{α:Type}{xs:List α}{i:Nat}(h:i<xs.length):dR xs i=some xs[i]:=oGE h
theorem Ll{α:Type}{P:α->Prop}{xs:List α}{i:Nat}(h:i<xs.length)(ha:∀x∈xs.take i,P x)(hx:P xs[i]):∀x∈xs.take (i+1),P x:=by
 intro x hm;rw[List.take_succ_eq_append_getElem h]at hm;rcases List.mem_append.1 hm with h1|h1
 all_goals simp_all
theorem D0{xs:List (Int×Int×Int×Int)}{n:Int}(hl:xs.length<=100000):fw xs n=some (decide ((∀c∈xs,lG c)/\(xs.length:Int)<=n),()):=by
 unfold fw
 obtain⟨t,e,ht⟩:=EI (f:=g9)
  (λs=>∃i:Nat,i<=xs.length/\s=(xs,n,xs,(xs.length:Int),(i:Int),())/\∀c∈xs.take i,lG c)
  (λt=>(t=.inl (false,())/\¬ ∀c∈xs,lG c)\/((∃x3 x4 x5 x6,t=.inr (xs,n,x3,x4,x5,x6,()))/\∀c∈xs,lG c))
  (λs=>(s.2.2.2.1-s.2.2.2.2.1).toNat) (by
   rintro _ ⟨i,hi,rfl,hv⟩;unfold g9;by_cases hn:(i:Int)<xs.length
   ·have X6:i<xs.length:=by omega
    simp only[hn,decide_true,oCT,dT,oBS,Ro X6,NR];by_cases hc:lG xs[i]
    ·left;simp only[hc,decide_true,oNT,oCF];rw[dX (x:=(i:Int)+1) (by omega) (by omega)];exact⟨_,rfl,⟨i+1,by omega,rfl,Ll X6 hv hc⟩,by simp only;omega⟩
    ·right;simp only[hc,decide_false,Bool.not_false,oCT];exact⟨_,rfl,.inl ⟨rfl,λh=>hc (h _ (List.getElem_mem X6))⟩⟩
   ·right;simp only[hn,decide_false,oCF]
    have:i=xs.length:=by omega
    subst this
    exact⟨_,rfl,.inr ⟨⟨_,_,_,_,rfl⟩,by simp_all⟩⟩) NN (xs,n,xs,(xs.length:Int),0,()) ⟨0,by omega,rfl,by simp⟩ (by show((xs.length:Int)-0).toNat<NN;unfold NN;omega)
 simp only[ee,e]
 rcases ht with⟨rfl,h⟩|⟨⟨x3,x4,x5,x6,rfl⟩,h⟩
 ·simp only;exact AM ⟨λq=>absurd q (by decide),λq=>absurd q.1 h⟩
 ·simp only;exact AM ⟨λq=>⟨h,of_decide_eq_true q⟩,λq=>oDT q.2⟩
theorem yF{xs:List (Int×Int×Int×Int)}{n:Int}(hl:xs.length<=100000):fX xs n=some (decide ((∀c∈xs,lG c)/\(xs.length:Int)<=n),()):=by
 have XQ:∃v,ge xs=some (v,())/\(v<0↔∀c∈xs,lG c):=by
  unfold ge
  obtain⟨t,e,ht⟩:=EI (f:=gM)
   (λs=>∃i:Nat,i<=xs.length/\s=(xs,(xs.length:Int),(i:Int),())/\∀c∈xs.take i,lG c)
   (λt=>(∃v,0<=v/\t=.inl (v,())/\¬ ∀c∈xs,lG c)\/((∃x1 x2 x3 x4,t=.inr (x1,x2,x3,x4,()))/\∀c∈xs,lG c))
   (λs=>(s.2.1-s.2.2.1).toNat) (by
    rintro _ ⟨i,hi,rfl,hv⟩;unfold gM;by_cases hn2:(i:Int)<xs.length
    ·have X6:i<xs.length:=by omega
     simp only[hn2,decide_true,oCT,dT,oBS,Ro X6,mR,NL];by_cases hc:lG xs[i]
     ·left;simp only[hc,decide_true,oNT,oCF];rw[dX (x:=(i:Int)+1) (by omega) (by omega)];exact⟨_,rfl,⟨i+1,by omega,rfl,Ll X6 hv hc⟩,by simp only;omega⟩
     ·right;simp only[hc,decide_false,Bool.not_false,oCT];exact⟨_,rfl,.inl ⟨_,by omega,rfl,λh=>hc (h _ (List.getElem_mem X6))⟩⟩
    ·right;simp only[hn2,decide_false,oCF]
     have:i=xs.length:=by omega
     subst this
     exact⟨_,rfl,.inr ⟨⟨_,_,_,_,rfl⟩,by rw[List.take_length]at hv;exact hv⟩⟩) NN (xs,(xs.length:Int),0,()) ⟨0,by omega,rfl,by simp⟩ (by show((xs.length:Int)-0).toNat<NN;unfold NN;omega)
  simp only[ee,e]
  rcases ht with⟨v,hv,rfl,h⟩|⟨⟨x1,x2,x3,x4,rfl⟩,h⟩
  ·exact⟨v,rfl,by constructor<;>intro h2<;>first|omega|exact absurd h2 h⟩
  ·simp_all
 obtain⟨v,e,hv⟩:=XQ;unfold fX gN;simp only[ee];by_cases hln:(xs.length:Int)<=n
 ·simp only[hln,decide_true,oCT,e,oBS];exact AM (by rw[<- hv];simp)
 ·simp only[hln,decide_false,oCF];exact AM (by simp)
theorem Lz{x:Int}(h0:0<=x)(h1:x<=255):wk .u8 x=x:=by rw[Lv];exact Int.emod_eq_of_lt h0 (by omega)
theorem U6{α:Type}(a b:List α):List.append a b=a++b:=rfl
def MP(v:DTs):Prop:=(0<=v.1/\v.1<=4)/\(0<=v.2.1/\v.2.1<=255)/\(0<=v.2.2.1/\v.2.2.1<=1099511627776)/\(-1<=v.2.2.2.1/\v.2.2.2.1<=255)/\(-1<=v.2.2.2.2.1/\v.2.2.2.2.1<=255)/\(0<=v.2.2.2.2.2.1/\v.2.2.2.2.2.1<=6)/\v.2.2.2.2.2.2.2.length=8/\∀c∈v.2.2.2.2.2.2.2,lG c
def IJ(T:List DTs):Prop:=T.length=4/\∀v∈T,MP v
theorem og{α:Type}{l:List α}{P:α->Prop}:(∀i,i<l.length->∀c,l[i]?=some c->P c)↔∀c∈l,P c:=
 ⟨λh c hc=>by
  have ⟨i,hi⟩:=List.getElem?_of_mem hc
  exact h i (oGS hi).1 c hi,λh i _ c hc=>h c (dU hc)⟩
theorem MV{T:List DTs}(h:T.length<=1000)(hr:∀v∈T,v.2.2.2.2.2.2.2.length<=1000):DG (iD T) (IJ T):=by
 unfold iD;delta dS;dsimp only
 have key:=P3 (f:=fe) (N:=NN) (bad:=.inl (false,())) (good:=.inr (T,T,(T.length:Int),(T.length:Int),false,())) (λi=>(T,T,(T.length:Int),(i:Int),())) (n:=T.length) (λi=>∀v,T[i]?=some v->MP v) (by unfold NN;omega) (λi hi _=>by
  obtain⟨v,hv⟩:∃v,T[i]?=some v:=⟨_,oGE hi⟩;have hlen:=hr v (dU hv);unfold fe;delta dS;dsimp only;rw[oDT (show(i:Int)<T.length by omega),dT];simp only[oCT,oBS,show dR T i=some v from hv];by_cases c0:v.1>=0
  rotate_left
  ·rw[oDF c0];exact .inr ⟨λg=>c0 (g v hv).1.1,rfl⟩
  rw[oDT c0];simp only[oCT];by_cases c1:v.1<=4
  rotate_left
  ·rw[oDF c1];exact .inr ⟨λg=>c1 (g v hv).1.2,rfl⟩
  rw[oDT c1];simp only[oCT];by_cases c2:v.2.1>=0
  rotate_left
  ·rw[oDF c2];exact .inr ⟨λg=>c2 (g v hv).2.1.1,rfl⟩
  rw[oDT c2];simp only[oCT];by_cases c3:v.2.1<=255
  rotate_left
  ·rw[oDF c3];exact .inr ⟨λg=>c3 (g v hv).2.1.2,rfl⟩
  rw[oDT c3];simp only[oCT];by_cases c4:v.2.2.1>=0
  rotate_left
  ·rw[oDF c4];exact .inr ⟨λg=>c4 (g v hv).2.2.1.1,rfl⟩
  rw[oDT c4];simp only[oCT];by_cases c5:v.2.2.1<=1099511627776
  rotate_left
  ·rw[oDF c5];exact .inr ⟨λg=>c5 (g v hv).2.2.1.2,rfl⟩
  rw[oDT c5];simp only[oCT];by_cases c6:v.2.2.2.1>=-1
  rotate_left
  ·rw[oDF c6];exact .inr ⟨λg=>c6 (g v hv).2.2.2.1.1,rfl⟩
  rw[oDT c6];simp only[oCT];by_cases c7:v.2.2.2.1<=255
  rotate_left
  ·rw[oDF c7];exact .inr ⟨λg=>c7 (g v hv).2.2.2.1.2,rfl⟩
  rw[oDT c7];simp only[oCT];by_cases c8:v.2.2.2.2.1>=-1
  rotate_left
  ·rw[oDF c8];exact .inr ⟨λg=>c8 (g v hv).2.2.2.2.1.1,rfl⟩
  rw[oDT c8];simp only[oCT];by_cases c9:v.2.2.2.2.1<=255
  rotate_left
  ·rw[oDF c9];exact .inr ⟨λg=>c9 (g v hv).2.2.2.2.1.2,rfl⟩
  rw[oDT c9];simp only[oCT];by_cases c10:v.2.2.2.2.2.1>=0
  rotate_left
  ·rw[oDF c10];exact .inr ⟨λg=>c10 (g v hv).2.2.2.2.2.1.1,rfl⟩
  rw[oDT c10];simp only[oCT];by_cases c11:v.2.2.2.2.2.1<=6
  rotate_left
  ·rw[oDF c11];exact .inr ⟨λg=>c11 (g v hv).2.2.2.2.2.1.2,rfl⟩
  rw[oDT c11];simp only[oCT,oBS,oNT,oCF];by_cases c12:(v.2.2.2.2.2.2.2.length:Int)=8
  rotate_left
  ·rw[bne_iff_ne.2 c12];exact .inr ⟨λg=>c12 (by rw[(g v hv).2.2.2.2.2.2.1];rfl),rfl⟩
  rw[bne_eq_false_iff_eq.2 c12,D0 (by omega)];simp only[oCF,oBS];by_cases c13:(∀c∈v.2.2.2.2.2.2.2,lG c)/\(v.2.2.2.2.2.2.2.length:Int)<=8
  ·rw[oDT c13];refine .inl ⟨λv' Y5=>?_,by simp only[oNT,oCF];rw[dX (x:=(i:Int)+1) (by omega) (by omega)];rfl⟩;rw[hv]at Y5
   injection Y5 with Y5
   subst Y5;exact⟨⟨c0,c1⟩,⟨c2,c3⟩,⟨c4,c5⟩,⟨c6,c7⟩,⟨c8,c9⟩,⟨c10,c11⟩,by omega,c13.1⟩
  ·rw[oDF c13]
   exact .inr ⟨λg=>c13 ⟨(g v hv).2.2.2.2.2.2.2,by omega⟩,rfl⟩) (by
  unfold fe;dsimp only;rw[oDF (show ¬(T.length:Int)<T.length by omega)]
  rfl)
 rcases key with⟨g,e⟩|⟨g,e⟩
 ·have e0:dY fe NN (T,T,(T.length:Int),0,())=_:=e;rw[e0];dsimp only;by_cases h4:(T.length:Int)=4
  ·rw[beq_iff_eq.2 h4];exact .inl ⟨⟨by omega,og.1 g⟩,rfl⟩
  ·rw[oBF h4];exact .inr ⟨λx=>h4 (by rw[x.1];rfl),rfl⟩
 ·have e0:dY fe NN (T,T,(T.length:Int),0,())=_:=e;rw[e0];exact .inr ⟨λx=>g (og.2 x.2),rfl⟩
theorem Py(x lo hi:Int):fE x lo hi=some (decide (lo<=x/\x<=hi),()):=by
 unfold fE;by_cases h:lo<=x
 ·simp_all
 ·rw[oDF (show ¬x>=lo from h),oDF (show ¬(lo<=x/\x<=hi)from λg=>h g.1)];rfl
theorem UX:gX (List.replicate 8 (0,0))=some (false,()):=by kernel_rfl
theorem Tq(v:DTs)(hlen:v.2.2.2.2.2.2.2.length<=1000):(MP v/\f6 v.1 v.2.1 v.2.2.1 v.2.2.2.1 v.2.2.2.2.1 v.2.2.2.2.2.1 v.2.2.2.2.2.2.1 v.2.2.2.2.2.2.2=some (false,()))\/(¬MP v/\f6 v.1 v.2.1 v.2.2.1 v.2.2.2.1 v.2.2.2.2.1 v.2.2.2.2.2.1 v.2.2.2.2.2.2.1 v.2.2.2.2.2.2.2=some (true,())):=by
 unfold f6 jo qU;rw[show ug 8 8 2=true from rfl];simp only[oCT,oBS];unfold qQ;delta dS;simp only[Py,oBS,List.length_replicate];by_cases c0:0<=v.1/\v.1<=4
 rotate_left
 ·rw[oDF c0];exact .inr ⟨λg=>c0 g.1,rfl⟩
 rw[oDT c0];simp only[oCT,oBS];by_cases c1:0<=v.2.1/\v.2.1<=255
 rotate_left
 ·rw[oDF c1];exact .inr ⟨λg=>c1 g.2.1,rfl⟩
 rw[oDT c1];simp only[oCT,oBS];by_cases c2:0<=v.2.2.1/\v.2.2.1<=1099511627776
 rotate_left
 ·rw[oDF c2];exact .inr ⟨λg=>c2 g.2.2.1,rfl⟩
 rw[oDT c2];simp only[oCT,oBS];by_cases c3:-1<=v.2.2.2.1/\v.2.2.2.1<=255
 rotate_left
 ·rw[oDF c3];exact .inr ⟨λg=>c3 g.2.2.2.1,rfl⟩
 rw[oDT c3];simp only[oCT,oBS];by_cases c4:-1<=v.2.2.2.2.1/\v.2.2.2.2.1<=255
 rotate_left
 ·rw[oDF c4];exact .inr ⟨λg=>c4 g.2.2.2.2.1,rfl⟩
 rw[oDT c4];simp only[oCT,oBS];by_cases c5:0<=v.2.2.2.2.2.1/\v.2.2.2.2.2.1<=6
 rotate_left
 ·rw[oDF c5];exact .inr ⟨λg=>c5 g.2.2.2.2.2.1,rfl⟩
 rw[oDT c5];by_cases c12:(v.2.2.2.2.2.2.2.length:Int)=8
 rotate_left
 ·rw[bne_iff_ne.2 c12];exact .inr ⟨λg=>c12 (by rw[g.2.2.2.2.2.2.1];rfl),rfl⟩
 rw[bne_eq_false_iff_eq.2 c12,yF (by omega)];simp only[oCF,oBS];by_cases c13:(∀c∈v.2.2.2.2.2.2.2,lG c)/\(v.2.2.2.2.2.2.2.length:Int)<=8
 ·rw[oDT c13];exact .inl ⟨⟨c0,c1,c2,c3,c4,c5,by omega,c13.1⟩,rfl⟩
 ·rw[oDF c13];exact .inr ⟨λg=>c13 ⟨g.2.2.2.2.2.2.2,by omega⟩,rfl⟩
theorem Kn{T:List DTs}(h:T.length<=1000)(hr:∀v∈T,v.2.2.2.2.2.2.2.length<=1000):DG (gP T) (IJ T):=by
 unfold gP;delta dS;dsimp only;by_cases h4:(T.length:Int)=4
 rotate_left
 ·rw[oBF h4];exact .inr ⟨λx=>h4 (by rw[x.1];rfl),rfl⟩
 rw[beq_iff_eq.2 h4];simp only[oCT];unfold gW i5;delta dS;dsimp only
 have key:=P2 (f:=fj) (N:=NN) (bad:=λi=>.inl ((i:Int),())) (good:=.inr (T,(T.length:Int),(T.length:Int),false,())) (λi=>(T,(T.length:Int),(i:Int),())) (n:=T.length) (λi=>∀v,T[i]?=some v->MP v) (by unfold NN;omega) (λi hi=>by
  obtain⟨v,hv⟩:∃v,T[i]?=some v:=⟨_,oGE hi⟩;have hlen:=hr v (dU hv);unfold fj;dsimp only;rw[oDT (show(i:Int)<T.length by omega),dT];simp only[oCT,oBS,show dR T i=some v from hv];rw[dX (x:=(i:Int)+1) (by omega) (by omega)]
  rcases Tq v hlen with⟨g,e⟩|⟨g,e⟩
  ·simp_all
  ·rw[e]
   exact .inr ⟨λx=>g (x v hv),rfl⟩) (by
  unfold fj;dsimp only;rw[oDF (show ¬(T.length:Int)<T.length by omega)]
  rfl)
 rcases key with⟨g,e⟩|⟨g,i,e⟩
 ·have e0:dY fj NN (T,(T.length:Int),0,())=_:=e;rw[e0];exact .inl ⟨⟨by omega,og.1 g⟩,rfl⟩
 ·have e0:dY fj NN (T,(T.length:Int),0,())=_:=e;rw[e0];exact .inr ⟨λx=>g (og.2 x.2),rfl⟩
def UK(ss:List Int)(R:List (List DCn))(T:List DTs):Prop:=R.length=ss.length/\IJ T/\∀i,i<R.length->∀l,R[i]?=some l->(l.length:Int)=ss.getD i 0/\∀c∈l,lG c
theorem IQ{code:List DIn}{ss:List Int}{dt:List (List Int)}{R:List (List DCn)}{T:List DTs}(hp:me code ss dt=some (0,()))(hz:zi ss)(h:R.length<=1000)(h1:∀l∈R,l.length<=1000)(h2:T.length<=1000)(h3:∀v∈T,v.2.2.2.2.2.2.2.length<=1000):DG (iP code ss dt R T) (UK ss R T):=by
 unfold iP;rw[hp];delta dS;simp only[oBS,bne_self_eq_false,oCF];by_cases hl:(R.length:Int)=ss.length
 rotate_left
 ·rw[bne_iff_ne.2 hl];exact .inr ⟨λg=>hl (by rw[g.1]),rfl⟩
 rw[bne_eq_false_iff_eq.2 hl];simp only[oCF]
 have key:=P3 (f:=fO) (N:=NN) (bad:=.inl (false,())) (good:=.inr (R,(R.length:Int),(R.length:Int),false,code,ss,dt,R,T,())) (λi=>(R,(R.length:Int),(i:Int),code,ss,dt,R,T,())) (n:=R.length) (λi=>∀l,R[i]?=some l->(l.length:Int)=ss.getD i 0/\∀c∈l,lG c) (by unfold NN;omega) (λi hi _=>by
  obtain⟨l,Zi⟩:∃l,R[i]?=some l:=⟨_,oGE hi⟩;obtain⟨z,XJ⟩:∃z,ss[i]?=some z:=⟨_,oGE (by omega)⟩;have Ws:=h1 l (dU Zi);unfold fO;delta dS;dsimp only;rw[oDT (show(i:Int)<R.length by omega),dT];simp only[oCT,oBS,show dR R i=some l from Zi,show dR ss i=some z from XJ];by_cases g1:(l.length:Int)=z
  rotate_left
  ·rw[bne_iff_ne.2 g1]
   simp_all
  rw[bne_eq_false_iff_eq.2 g1,yF (by omega),dX (x:=(i:Int)+1) (by omega) (by omega)];simp only[oCF,oBS];by_cases g2:(∀c∈l,lG c)/\(l.length:Int)<=z
  ·simp_all
  ·rw[oDF g2]
   exact .inr ⟨λk=>g2 ⟨(k l Zi).2,by omega⟩,rfl⟩) (by
  unfold fO;dsimp only;rw[oDF (show ¬(R.length:Int)<R.length by omega)]
  rfl)
 rcases key with⟨g,e⟩|⟨g,e⟩
 ·have e0:dY fO NN (R,(R.length:Int),0,code,ss,dt,R,T,())=_:=e;rw[e0];dsimp only
  rcases Kn h2 h3 with⟨k,e2⟩|⟨k,e2⟩
  ·rw[e2];exact .inl ⟨⟨by omega,k,g⟩,rfl⟩
  ·rw[e2];exact .inr ⟨λx=>k x.2.1,rfl⟩
 ·have e0:dY fO NN (R,(R.length:Int),0,code,ss,dt,R,T,())=_:=e;rw[e0];exact .inr ⟨λx=>g x.2.2,rfl⟩
theorem Gk{code:List DIn}{ss:List Int}{dt:List (List Int)}{R:List (List DCn)}{T:List DTs}(hp:i7 code ss dt=some (0,()))(hz:zi ss)(h:R.length<=1000)(h1:∀l∈R,l.length<=1000)(h2:T.length<=1000)(h3:∀v∈T,v.2.2.2.2.2.2.2.length<=1000):DG (hZ code ss dt R T) (UK ss R T):=by
 unfold hZ;rw[hp];delta dS;simp only[oBS,bne_self_eq_false,oCF];by_cases hl:(R.length:Int)=ss.length
 rotate_left
 ·rw[bne_iff_ne.2 hl];exact .inr ⟨λg=>hl (by rw[g.1]),rfl⟩
 rw[bne_eq_false_iff_eq.2 hl];simp only[oCF]
 rcases MV h2 h3 with⟨k,e2⟩|⟨k,e2⟩
 rotate_left
 ·rw[e2];exact .inr ⟨λx=>k x.2.1,rfl⟩
 rw[e2];simp only[oBS,oNT,oCF]
 have key:=P3 (f:=fF) (N:=NN) (bad:=.inl (false,())) (good:=.inr (R,(R.length:Int),(R.length:Int),false,code,ss,dt,R,T,())) (λi=>(R,(R.length:Int),(i:Int),code,ss,dt,R,T,())) (n:=R.length) (λi=>∀l,R[i]?=some l->(l.length:Int)=ss.getD i 0/\∀c∈l,lG c) (by unfold NN;omega) (λi hi _=>by
  obtain⟨l,Zi⟩:∃l,R[i]?=some l:=⟨_,oGE hi⟩;obtain⟨z,XJ⟩:∃z,ss[i]?=some z:=⟨_,oGE (by omega)⟩;have Ws:=h1 l (dU Zi);have hz32:=(hz.2.2 z (dU XJ)).2;unfold fF;delta dS;dsimp only;rw[oDT (show(i:Int)<R.length by omega),dT];simp only[oCT,oBS,show dR R i=some l from Zi,show dR ss i=some z from XJ];by_cases g1:(l.length:Int)=z
  rotate_left
  ·rw[bne_iff_ne.2 g1]
   simp_all
  rw[bne_eq_false_iff_eq.2 g1,D0 (by omega),dX (x:=(i:Int)+1) (by omega) (by omega)];simp only[oCF,oBS];by_cases g2:(∀c∈l,lG c)/\(l.length:Int)<=32
  ·simp_all
  ·rw[oDF g2]
   exact .inr ⟨λk=>g2 ⟨(k l Zi).2,by omega⟩,rfl⟩) (by
  unfold fF;dsimp only;rw[oDF (show ¬(R.length:Int)<R.length by omega)]
  rfl)
 rcases key with⟨g,e⟩|⟨g,e⟩
 ·have e0:dY fF NN (R,(R.length:Int),0,code,ss,dt,R,T,())=_:=e;rw[e0];exact .inl ⟨⟨by omega,k,g⟩,rfl⟩
 ·have e0:dY fF NN (R,(R.length:Int),0,code,ss,dt,R,T,())=_:=e;rw[e0];exact .inr ⟨λx=>g x.2.2,rfl⟩
def Fld(u:Bool)(v m:Int):Prop:=v=0\/(u=true/\0<v/\v<=m)
def Oj(o:Int):Int:=bif mZ o then 63 else bif o==15 then 3 else bif o==23 then 15 else 65535
def UU(o a b c i:Int):Prop:=(0<=o/\o<=24)/\Fld (rm o) a 7/\Fld (rY o) b 7/\Fld (rk o) c 7/\Fld (rj o) i (Oj o)
theorem OW:qT=jR:=rfl
theorem GL:oG=ib:=rfl
theorem AY{u:Bool}{v m:Int}:DG (gO u v m) (Fld u v m):=by
 unfold gO Fld;by_cases h0:v=0
 ·rw[show(v==0)=true from beq_iff_eq.2 h0];exact .inl ⟨.inl h0,rfl⟩
 rw[show(v==0)=false from oBF h0]
 cases u with
 |false=>exact .inr ⟨λh=>h.elim h0 λh=>(by cases h.1),rfl⟩
 |true=>
  by_cases h1:v>0
  rotate_left
  ·rw[oDF h1];exact .inr ⟨λh=>by omega,rfl⟩
  rw[oDT h1];by_cases h2:v<=m
  ·rw[oDT h2];exact .inl ⟨.inr ⟨rfl,h1,h2⟩,rfl⟩
  ·rw[oDF h2];exact .inr ⟨λh=>by omega,rfl⟩
theorem Sw{o:Int}:qr o=some (Oj o,()):=by
 unfold qr Oj;rw[GL,wF]
 grind
theorem U7{o a b c i:Int}:DG (mc o a b c i) (UU o a b c i):=by
 unfold mc UU;by_cases h0:o<0
 ·rw[oDT h0];exact .inr ⟨λh=>by omega,rfl⟩
 rw[oDF h0];by_cases h1:o>24
 ·rw[oDT h1];exact .inr ⟨λh=>by omega,rfl⟩
 rw[oDF h1,OW,IS (by omega) (by omega)];simp
 rcases AY (v:=a) (m:=7)with⟨hA,e⟩|⟨hA,e⟩
 rotate_left
 ·rw[e];exact .inr ⟨λh=>hA h.2.1,rfl⟩
 rw[e]
 rcases AY (v:=b) (m:=7)with⟨hB,e⟩|⟨hB,e⟩
 rotate_left
 ·rw[e];exact .inr ⟨λh=>hB h.2.2.1,rfl⟩
 rw[e]
 rcases AY (u:=rk o) (v:=c) (m:=7)with⟨hC,e⟩|⟨hC,e⟩
 rotate_left
 ·rw[e];exact .inr ⟨λh=>hC h.2.2.2.1,rfl⟩
 rw[e,Sw]
 rcases AY (u:=rj o) (v:=i) (m:=Oj o)with⟨hI,e⟩|⟨hI,e⟩
 rotate_left
 ·simp;rw[e];exact .inr ⟨λh=>hI h.2.2.2.2,rfl⟩
 simp;rw[e];exact .inl ⟨⟨by omega,hA,hB,hC,hI⟩,rfl⟩
theorem SI{n m:Int}{x:DIn}(h:jx n m x)(hn:n<=4)(hm:m<=64):mc x.1 x.2.1 x.2.2.1 x.2.2.2.1 x.2.2.2.2=some (true,()):=by
 rcases U7 (o:=x.1) (a:=x.2.1) (b:=x.2.2.1) (c:=x.2.2.2.1) (i:=x.2.2.2.2)with⟨_,e⟩|⟨g,_⟩
 ·exact e
 refine absurd ⟨h.op,?_,?_,?_,?_⟩ g
 ·obtain⟨p,q,r⟩:=h.a;by_cases hz:x.2.1=0
  ·exact .inl hz
  ·exact .inr ⟨by cases hu:rm x.1 with|true=>rfl|false=>exact absurd (r hu) hz,by omega,by omega⟩
 ·obtain⟨p,q,r⟩:=h.b;by_cases hz:x.2.2.1=0
  ·exact .inl hz
  ·exact .inr ⟨by simp_all,by omega,by omega⟩
 ·obtain⟨p,q,r⟩:=h.c;by_cases hz:x.2.2.2.1=0
  ·exact .inl hz
  ·exact .inr ⟨by simp_all,by omega,by omega⟩
 ·obtain⟨p,q,r⟩:=h.imm;by_cases hz:x.2.2.2.2=0
  ·exact .inl hz
  ·refine .inr ⟨by simp_all,by omega,?_⟩;unfold Oj
   cases hj:mZ x.1 with
   |true=>
    have:=h.jmp hj;show x.2.2.2.2<=63;omega
   |false=>
    by_cases h15:x.1=15
    ·have:=h.lea h15;rw[beq_iff_eq.2 h15];show x.2.2.2.2<=3;omega
    rw[oBF h15];by_cases h23:x.1=23
    ·rw[beq_iff_eq.2 h23];exact h.sys h23
    ·rw[oBF h23];exact q
theorem N9{code:List DIn}{ss:List Int}{dt:List (List Int)}(hp:kV code ss dt):me code ss dt=some (0,()):=by
 have XA:=hp.sz.2.1;have hc:=hp.clen;have hl:=hp.len
 have e0:dY lm NN (dt,(dt.length:Int),0,code,ss,dt,())=some (.inr (dt,(dt.length:Int),(dt.length:Int),false,code,ss,dt,())):=by
  refine mC (st:=λk=>(dt,(dt.length:Int),(k:Int),code,ss,dt,())) (n:=dt.length) (by unfold NN;omega) ?_ ?_
  ·intro k hk;unfold lm;dsimp only;rw[oDT (show(k:Int)<dt.length by omega),dT];delta dS;simp only[oCT,oBS];refine Ok.get (by omega) λx hx=>?_;refine Ok.get (by omega) λy hy=>?_;have:=hp.fit k x y hx hy;rw[oDF (show ¬(x.length:Int)>y by omega),dX (x:=(k:Int)+1) (by omega) (by omega)];exact Ok.ret rfl
  ·unfold lm;dsimp only;rw[oDF (show ¬(dt.length:Int)<dt.length by omega)];exact Ok.ret rfl
 have e3:dY lk NN (0,code,(code.length:Int),0,code,ss,dt,())=some (.inr (0,code,(code.length:Int),(code.length:Int),false,code,ss,dt,())):=by
  refine mC (st:=λk=>(0,code,(code.length:Int),(k:Int),code,ss,dt,())) (n:=code.length) (by unfold NN;omega) ?_ ?_
  ·intro k hk;obtain⟨x,hx⟩:∃x,code[k]?=some x:=⟨_,oGE hk⟩;have hi:=hp.ins x (dU hx);unfold lk;delta dS;dsimp only;rw[oDT (show(k:Int)<code.length by omega),dT];simp only[oCT,oBS,show dR code k=some x from hx];rw[SI hi (by omega) (by omega)];rw[GL,wF];simp only[oBS]
   have ZZ:∀b:Bool,(x.1==15)=b->Ok (some (Sum.inl (β:=(Int×Unit)⊕(Int×(List DIn)×Int×Int×Bool×(List DIn)×(List (Int))×(List (List (Int)))×Unit)) ((0:Int),code,(code.length:Int),w64 ((k:Int)+1),code,ss,dt,()))) (·=.inl (0,code,(code.length:Int),((k+1:Nat):Int),code,ss,dt,())):=λ_ _=>by
    rw[dX (x:=(k:Int)+1) (by omega) (by omega)];exact Ok.ret rfl
   have h1:mZ x.1=true->decide (x.2.2.2.2>=(code.length:Int))=false:=λh=>oDF (by have:=hi.jmp h;omega);have h2:x.1=15->decide (x.2.2.2.2>=(ss.length:Int))=false:=λh=>oDF (by have:=hi.lea h;omega);by_cases h15:x.1=15
   ·rw[beq_iff_eq.2 h15,h2 h15]
    cases hj:mZ x.1 with
    |true=>rw[h1 hj];exact ZZ _ rfl
    |false=>exact ZZ _ rfl
   ·rw[oBF h15]
    cases hj:mZ x.1 with
    |true=>rw[h1 hj];exact ZZ _ rfl
    |false=>exact ZZ _ rfl
  ·unfold lk;dsimp only;rw[oDF (show ¬(code.length:Int)<code.length by omega)];exact Ok.ret rfl
 unfold me;rw[GE]
 rcases IV (ss:=ss) (by omega)with⟨_,e⟩|⟨g,_⟩
 rotate_left
 ·exact absurd hp.sz g
 rw[e];delta dS;simp only[oBS,oNT,oCF];rw[bne_eq_false_iff_eq.2 (show(dt.length:Int)=ss.length by rw[hl]),e0];dsimp only;rw[oBF (show(code.length:Int)≠0 by omega),oDF (show ¬(code.length:Int)>64 by omega),e3];rfl
def PrX(ss:List Int)(c:DCn):Prop:=
 ((c.1=0\/c.1=2)/\c.2.2.1=0/\c.2.2.2=0)\/(c.1=1/\c.2.1=0/\0<=c.2.2.1/\∃n,ss[c.2.2.1.toNat]?=some n/\0<=c.2.2.2/\c.2.2.2<n)
theorem PrX.pr{ss:List Int}{c:DCn}(h:PrX ss c)(t:rf c):Pr ss c:=by
 rcases h with⟨h1,h2,h3⟩|h
 ·exact .inl ⟨h1,h2,h3,t⟩
 ·exact .inr h
theorem Ju{ss:List Int}{r o:Int}(hl:ss.length<=1000):DG (fL ss r o) (0<=r/\∃n,ss[r.toNat]?=some n/\0<=o/\o<n):=by
 unfold fL;delta dS;dsimp only;by_cases h1:r>=0
 rotate_left
 ·rw[oDF h1];exact .inr ⟨λh=>h1 h.1,rfl⟩
 obtain⟨j,rfl⟩:∃j:Nat,r=j:=⟨r.toNat,by omega⟩;rw[oTN];by_cases h2:(j:Int)<ss.length
 rotate_left
 ·rw[oDF h2];refine .inr ⟨λ⟨_,n,h,_⟩=>?_,rfl⟩
  simp_all
 rw[oDT h2,oCT];have ⟨n,hn⟩:∃n,ss[j]?=some n:=⟨_,oGE (by omega)⟩;by_cases h3:o>=0
 rotate_left
 ·rw[oDF h3];exact .inr ⟨λ⟨_,n,_,h,_⟩=>h3 h,rfl⟩
 rw[oDT h3,oCT,dT];simp only[oBS,show dR ss j=some n from hn];by_cases h4:o<n
 ·rw[oDT h4];exact .inl ⟨⟨h1,n,hn,h3,h4⟩,rfl⟩
 ·rw[oDF h4];refine .inr ⟨λ⟨_,m,hm,_,h⟩=>?_,rfl⟩;rw[hn]at hm
  injection hm with hm
  omega
theorem Ja{ss:List Int}(hl:ss.length<=1000)(c:DCn):DG (fK ss c.1 c.2.1 c.2.2.1 c.2.2.2) (PrX ss c):=by
 unfold fK PrX;by_cases a0:c.1=0
 ·rw[beq_iff_eq.2 a0,oCT];by_cases a1:c.2.2.1=0
  ·rw[beq_iff_eq.2 a1,oCT];by_cases a2:c.2.2.2=0
   ·rw[beq_iff_eq.2 a2];exact .inl ⟨.inl ⟨.inl a0,a1,a2⟩,rfl⟩
   ·rw[oBF a2];exact .inr ⟨λh=>by rcases h with h|h<;>omega,rfl⟩
  ·rw[oBF a1];exact .inr ⟨λh=>by rcases h with h|h<;>omega,rfl⟩
 rw[oBF a0,oCF];by_cases b0:c.1=2
 ·rw[beq_iff_eq.2 b0,oCT];by_cases a1:c.2.2.1=0
  ·rw[beq_iff_eq.2 a1,oCT];by_cases a2:c.2.2.2=0
   ·rw[beq_iff_eq.2 a2];exact .inl ⟨.inl ⟨.inr b0,a1,a2⟩,rfl⟩
   ·rw[oBF a2];exact .inr ⟨λh=>by rcases h with h|h<;>omega,rfl⟩
  ·rw[oBF a1];exact .inr ⟨λh=>by rcases h with h|h<;>omega,rfl⟩
 rw[oBF b0,oCF];by_cases c0:c.1=1
 rotate_left
 ·rw[oBF c0];exact .inr ⟨λh=>by rcases h with h|h<;>omega,rfl⟩
 rw[beq_iff_eq.2 c0,oCT];by_cases d0:c.2.1=0
 rotate_left
 ·rw[oBF d0];exact .inr ⟨λh=>by omega,rfl⟩
 rw[beq_iff_eq.2 d0,oCT]
 rcases Ju (ss:=ss) (r:=c.2.2.1) (o:=c.2.2.2) hl with⟨g,e⟩|⟨g,e⟩
 ·rw[e];exact .inl ⟨.inr ⟨c0,d0,g⟩,rfl⟩
 ·rw[e];exact .inr ⟨λh=>by rcases h with h|h;omega;exact g h.2.2,rfl⟩
section
variable {code:List DIn} {ss bs:List Int} {dt:List (List Int)} {key:Int}
theorem NH(hl:ss.length<=1000){l:List DCn}(h:l.length<=1000):DG (fm l code ss dt) (∃c∈l,¬PrX ss c):=by
 unfold fm gV;delta dS;dsimp only
 rcases P2 (f:=eX) (N:=NN) (bad:=λi=>.inl ((i:Int),())) (good:=.inr (l,code,ss,dt,(l.length:Int),(l.length:Int),false,())) (λi=>(l,code,ss,dt,(l.length:Int),(i:Int),())) (n:=l.length) (λi=>∀x,l[i]?=some x->PrX ss x) (by unfold NN;omega) (λi hi=>by
  have ⟨x,hx⟩:∃x,l[i]?=some x:=⟨_,oGE hi⟩;unfold eX ky;dsimp only;rw[oDT (show(i:Int)<l.length by omega),dT];simp only[oBS,show dR l i=some x from hx];rw[dX (x:=(i:Int)+1) (by omega) (by omega),GK]
  rcases Ja hl x with⟨g,e⟩|⟨g,e⟩
  ·simp_all
  ·rw[e]
   exact .inr ⟨λk=>g (k x hx),rfl⟩) (by
  unfold eX;dsimp only;rw[oDF (show ¬(l.length:Int)<l.length by omega)]
  rfl)with⟨g,e⟩|⟨g,i,e⟩
 ·rw[show dY eX NN (l,code,ss,dt,(l.length:Int),0,())=_ from e];exact .inr ⟨λ⟨c,hc,k⟩=>k (og.1 g c hc),rfl⟩
 ·rw[show dY eX NN (l,code,ss,dt,(l.length:Int),0,())=_ from e];exact .inl ⟨Classical.byContradiction λk=>g (og.2 λx hx=>Classical.byContradiction λn=>k ⟨x,hx,n⟩),rfl⟩
def UV(ss:List Int)(R:List (List DCn))(T:List DTs):Prop:=(∀l∈R,∀c∈l,PrX ss c)/\∀v∈T,∀c∈v.2.2.2.2.2.2.2,PrX ss c
theorem S6(hl:ss.length<=1000){R:List (List DCn)}{T:List DTs}(h:R.length<=1000)(h1:∀l∈R,l.length<=1000)(h2:T.length<=1000)(h3:∀v∈T,v.2.2.2.2.2.2.2.length<=1000):DG (f7 R T code ss dt) (¬UV ss R T):=by
 unfold f7 gh gU;delta dS;dsimp only
 rcases P2 (f:=eW) (N:=NN) (bad:=λi=>.inl ((i:Int),())) (good:=.inr (R,code,ss,dt,(R.length:Int),(R.length:Int),false,())) (λi=>(R,code,ss,dt,(R.length:Int),(i:Int),())) (n:=R.length) (λi=>∀x,R[i]?=some x->∀c∈x,PrX ss c) (by unfold NN;omega) (λi hi=>by
  obtain⟨x,hx⟩:∃x,R[i]?=some x:=⟨_,oGE hi⟩;unfold eW jc;dsimp only;rw[oDT (show(i:Int)<R.length by omega),dT];simp only[oCT,oBS,show dR R i=some x from hx];rw[dX (x:=(i:Int)+1) (by omega) (by omega)]
  rcases NH (code:=code) (dt:=dt) hl (h1 x (dU hx))with⟨⟨c,hc,g⟩,e⟩|⟨g,e⟩
  ·rw[e];exact .inr ⟨λk=>g (k x hx c hc),rfl⟩
  ·rw[e]
   exact .inl ⟨λy hy c hc=>by simp_all,rfl⟩) (by
  unfold eW;dsimp only;rw[oDF (show ¬(R.length:Int)<R.length by omega)]
  rfl)with⟨g,e⟩|⟨g,i,e⟩
 rotate_left
 ·rw[show dY eW NN (R,code,ss,dt,(R.length:Int),0,())=_ from e];simp only[oBS];rw[oDT (show(i:Int)>=0 by omega)];exact .inl ⟨λk=>g (og.2 k.1),rfl⟩
 rw[show dY eW NN (R,code,ss,dt,(R.length:Int),0,())=_ from e];simp only[oBS];rw[oDF (show ¬(-1:Int)>=0 by omega)];unfold gE it;delta dS;simp only[oCF]
 rcases P2 (f:=fb) (N:=NN) (bad:=λi=>.inl ((i:Int),())) (good:=.inr (T,code,ss,dt,(T.length:Int),(T.length:Int),false,())) (λi=>(T,code,ss,dt,(T.length:Int),(i:Int),())) (n:=T.length) (λi=>∀x,T[i]?=some x->∀c∈x.2.2.2.2.2.2.2,PrX ss c) (by unfold NN;omega) (λi hi=>by
  obtain⟨x,hx⟩:∃x,T[i]?=some x:=⟨_,oGE hi⟩;unfold fb jb;dsimp only;rw[oDT (show(i:Int)<T.length by omega),dT];simp only[oCT,oBS,show dR T i=some x from hx];rw[dX (x:=(i:Int)+1) (by omega) (by omega)]
  rcases NH (code:=code) (dt:=dt) hl (h3 x (dU hx))with⟨⟨c,hc,g⟩,e⟩|⟨g,e⟩
  ·rw[e];exact .inr ⟨λk=>g (k x hx c hc),rfl⟩
  ·rw[e]
   exact .inl ⟨λy hy c hc=>by simp_all,rfl⟩) (by
  unfold fb;dsimp only;rw[oDF (show ¬(T.length:Int)<T.length by omega)]
  rfl)with⟨g2,e2⟩|⟨g2,i,e2⟩
 ·rw[show dY fb NN (T,code,ss,dt,(T.length:Int),0,())=_ from e2];exact .inr ⟨λk=>k ⟨og.1 g,og.1 g2⟩,rfl⟩
 ·rw[show dY fb NN (T,code,ss,dt,(T.length:Int),0,())=_ from e2];simp only[oBS];rw[oDT (show(i:Int)>=0 by omega)];exact .inl ⟨λk=>g2 (og.2 k.2),rfl⟩
end
def Sh4(ls:List DLn):Prop:=ls.length<=4/\∀x∈ls,x.2.2.length<=4
theorem kW.sh4{K:Int->Prop}{cs:List DCe}{ls:List DLn}(h:kW K cs ls):Sh4 ls:=⟨by rw[h.llen];omega,λx hx=>by
 obtain⟨i,hi⟩:=List.getElem?_of_mem hx
 exact(h.lines i x hi).len⟩
theorem SD{l:List Int}{key:Int}(h:l.length<=1000):ly l key l key=some (true,()):=by
 have e:dY l8 NN ((l.length:Int),0,l,key,l,key,())=some (.inr ((l.length:Int),(l.length:Int),false,l,key,l,key,())):=by
  refine mC (st:=λk=>((l.length:Int),(k:Int),l,key,l,key,())) (n:=l.length) (by unfold NN;omega) ?_ ?_
  ·intro k hk;unfold l8;dsimp only;rw[oDT (show(k:Int)<l.length by omega),dT];simp only[oCT,oBS,show dR l k=some l[k]from oGE hk,bne_self_eq_false,oCF];rw[dX (x:=(k:Int)+1) (by omega) (by omega)];exact Ok.ret rfl
  ·unfold l8;dsimp only;rw[oDF (show ¬(l.length:Int)<l.length by omega)];exact Ok.ret rfl
 unfold ly;delta dS;dsimp only;rw[e];simp only[bne_self_eq_false,oCF]
structure Tb (bs:List Int)(cs:List DCe)(ls:List DLn)(ts:List DTh):Prop where
 bl:bs.length<=1000
 cl:cs.length<=1000
 ll:Sh4 ls
 tl:ts.length<=1000
 rl:∀t∈ts,t.2.1.length<=1000
theorem Tb.nil:Tb [] [] [] []:=⟨by simp,by simp,⟨by simp,eJ⟩,by simp,eJ⟩
theorem Ra{n:Int}{ss bs:List Int}{cs:List DCe}{ls:List DLn}{ts:List DTh}(h:MOk n ss bs cs ls ts):Tb bs cs ls ts:=⟨by have:=h.lay.2.1;have:=h.lay.1.2.1;omega,by rw[h.mem.clen];omega,h.mem.sh4,by rw[h.tlen];omega,λt ht=>by rw[(h.thr t ht).len];omega⟩
theorem JV{α S T:Type}{f:S->Option (S⊕T)}(st:Nat->S){a b:List α}{N:Nat}{bad good:T}(Wh:a.length=b.length)(hn:a.length<N)
 (h:∀(i:Nat) x y,i<a.length->a[i]?=some x->b[i]?=some y->(x=y/\f (st i)=some (.inl (st (i+1))))\/(x≠y/\f (st i)=some (.inr bad)))(he:f (st a.length)=some (.inr good)):
 (a=b/\dY f N (st 0)=some good)\/(a≠b/\dY f N (st 0)=some bad):=by
 rcases P3 st (λi=>a[i]?=b[i]?) hn (λi hi _=>by
  obtain⟨x,hx⟩:∃x,a[i]?=some x:=⟨_,oGE hi⟩;have ⟨y,hy⟩:∃y,b[i]?=some y:=⟨_,oGE (by omega)⟩
  rcases h i x y hi hx hy with⟨g,e⟩|⟨g,e⟩
  ·simp_all
  ·exact .inr ⟨λk=>g (by simp_all),e⟩) he with⟨g,e⟩|⟨g,e⟩
 ·refine .inl ⟨List.ext_getElem? λi=>?_,e⟩;by_cases hi:i<a.length
  all_goals simp_all
 ·exact .inr ⟨λk=>g λi _=>by rw[k],e⟩
theorem SV(x y:DCn):(x=y/\(!((x.1==y.1)&&((x.2.1==y.2.1)&&((x.2.2.1==y.2.2.1)&&((x.2.2.2==y.2.2.2)&&true)))))=false)\/(x≠y/\(!((x.1==y.1)&&((x.2.1==y.2.1)&&((x.2.2.1==y.2.2.1)&&((x.2.2.2==y.2.2.2)&&true)))))=true):=by
 by_cases h:x=y
 ·simp_all
 ·refine .inr ⟨h,?_⟩;rw[Bool.not_eq_true',<- Bool.not_eq_true];intro g;simp only[oBA,beq_iff_eq]at g;exact h (Prod.ext g.1 (Prod.ext g.2.1 (Prod.ext g.2.2.1 g.2.2.2.1)))
theorem uz{a b:List DCn}(ha:a.length<=1000)(hb:b.length<=1000):DG (kx a b) (a=b):=by
 unfold kx;delta dS;dsimp only;by_cases hl:(a.length:Int)=b.length
 rotate_left
 ·rw[bne_iff_ne.2 hl];exact .inr ⟨λg=>hl (by rw[g]),rfl⟩
 rw[bne_eq_false_iff_eq.2 hl]
 rcases JV (f:=fv) (N:=NN) (a:=a) (b:=b) (bad:=.inl (false,())) (good:=.inr (a,b,(a.length:Int),(a.length:Int),false,())) (λi=>(a,b,(a.length:Int),(i:Int),())) (by omega) (by unfold NN;omega) (λi x y hi hx hy=>by
  unfold fv;dsimp only;rw[oDT (show(i:Int)<a.length by omega),dT];simp only[oBS,show dR a i=some x from hx,show dR b i=some y from hy];rw[dX (x:=(i:Int)+1) (by omega) (by omega)]
  rcases SV x y with⟨g,e⟩|⟨g,e⟩
  ·simp_all
  ·rw[e];exact .inr ⟨g,rfl⟩) (by
  unfold fv;dsimp only;rw[oDF (show ¬(a.length:Int)<a.length by omega)]
  rfl)with⟨g,e⟩|⟨g,e⟩
 ·have e0:dY fv NN (a,b,(a.length:Int),0,())=_:=e;rw[e0];exact .inl ⟨g,rfl⟩
 ·have e0:dY fv NN (a,b,(a.length:Int),0,())=_:=e;rw[e0];exact .inr ⟨g,rfl⟩
theorem TC:fV=kx:=rfl
theorem qG{a b:List DCn}(ha:a.length<=1000)(hb:b.length<=1000):DG (fV a b) (a=b):=by
 exact uz ha hb
theorem Bq{R R':List (List DCn)}{T T':List DTs}(r1:R.length<=1000)(r2:R'.length<=1000)(r3:∀l∈R,l.length<=1000)(r4:∀l∈R',l.length<=1000)(t1:T.length<=1000)(t2:T'.length<=1000)(t3:∀v∈T,v.2.2.2.2.2.2.2.length<=1000)(t4:∀v∈T',v.2.2.2.2.2.2.2.length<=1000):DG (iZ R T R' T') (R=R'/\T=T'):=by
 unfold iZ;delta dS;dsimp only;by_cases hl:(R.length:Int)=R'.length
 rotate_left
 ·rw[bne_iff_ne.2 hl];exact .inr ⟨λg=>hl (by rw[g.1]),rfl⟩
 rw[bne_eq_false_iff_eq.2 hl];by_cases hl2:(T.length:Int)=T'.length
 rotate_left
 ·rw[bne_iff_ne.2 hl2];exact .inr ⟨λg=>hl2 (by rw[g.2]),rfl⟩
 rw[bne_eq_false_iff_eq.2 hl2];simp only[oCF]
 rcases JV (f:=iF) (N:=NN) (a:=R) (b:=R') (bad:=.inl (false,())) (good:=.inr ((R.length:Int),(R.length:Int),false,R,T,R',T',())) (λi=>((R.length:Int),(i:Int),R,T,R',T',())) (by omega) (by unfold NN;omega) (λi x y hi hx hy=>by
  unfold iF;dsimp only;rw[oDT (show(i:Int)<R.length by omega),dT];simp only[oCT,oBS,show dR R i=some x from hx,show dR R' i=some y from hy];rw[dX (x:=(i:Int)+1) (by omega) (by omega)]
  rcases qG (r3 x (dU hx)) (r4 y (dU hy))with⟨g,e⟩|⟨g,e⟩
  ·rw[e];exact .inl ⟨g,rfl⟩
  ·rw[e];exact .inr ⟨g,rfl⟩) (by
  unfold iF;dsimp only;rw[oDF (show ¬(R.length:Int)<R.length by omega)]
  rfl)with⟨g,e⟩|⟨g,e⟩
 rotate_left
 ·have e0:dY iF NN ((R.length:Int),0,R,T,R',T',())=_:=e;rw[e0];exact .inr ⟨λk=>g k.1,rfl⟩
 have e0:dY iF NN ((R.length:Int),0,R,T,R',T',())=_:=e;rw[e0];dsimp only
 rcases JV (f:=iE) (N:=NN) (a:=T) (b:=T') (bad:=.inl (false,())) (good:=.inr (T,(T.length:Int),(T.length:Int),false,R,T,R',T',())) (λi=>(T,(T.length:Int),(i:Int),R,T,R',T',())) (by omega) (by unfold NN;omega) (λi x y hi hx hy=>by
  unfold iE;dsimp only;rw[oDT (show(i:Int)<T.length by omega),dT];simp only[oCT,oBS,show dR T i=some x from hx,show dR T' i=some y from hy];by_cases c0:x.1=y.1
  rotate_left
  ·rw[bne_iff_ne.2 c0];exact .inr ⟨λg=>c0 (by rw[g]),rfl⟩
  rw[bne_eq_false_iff_eq.2 c0];simp only[oCF];by_cases c1:x.2.1=y.2.1
  rotate_left
  ·rw[bne_iff_ne.2 c1];exact .inr ⟨λg=>c1 (by rw[g]),rfl⟩
  rw[bne_eq_false_iff_eq.2 c1];simp only[oCF];by_cases c2:x.2.2.1=y.2.2.1
  rotate_left
  ·rw[bne_iff_ne.2 c2];exact .inr ⟨λg=>c2 (by rw[g]),rfl⟩
  rw[bne_eq_false_iff_eq.2 c2];simp only[oCF];by_cases c3:x.2.2.2.1=y.2.2.2.1
  rotate_left
  ·rw[bne_iff_ne.2 c3];exact .inr ⟨λg=>c3 (by rw[g]),rfl⟩
  rw[bne_eq_false_iff_eq.2 c3];simp only[oCF];by_cases c4:x.2.2.2.2.1=y.2.2.2.2.1
  rotate_left
  ·rw[bne_iff_ne.2 c4];exact .inr ⟨λg=>c4 (by rw[g]),rfl⟩
  rw[bne_eq_false_iff_eq.2 c4];simp only[oCF];by_cases c5:x.2.2.2.2.2.1=y.2.2.2.2.2.1
  rotate_left
  ·rw[bne_iff_ne.2 c5];exact .inr ⟨λg=>c5 (by rw[g]),rfl⟩
  rw[bne_eq_false_iff_eq.2 c5];simp only[oCF];by_cases c6:x.2.2.2.2.2.2.1=y.2.2.2.2.2.2.1
  rotate_left
  ·rw[bne_iff_ne.2 c6];exact .inr ⟨λg=>c6 (by rw[g]),rfl⟩
  rw[bne_eq_false_iff_eq.2 c6];simp only[oCF]
  rcases qG (t3 x (dU hx)) (t4 y (dU hy))with⟨c7,e⟩|⟨c7,e⟩
  ·rw[e];simp only[oBS,oNT,oCF];rw[dX (x:=(i:Int)+1) (by omega) (by omega)];exact .inl ⟨(Prod.ext c0 (Prod.ext c1 (Prod.ext c2 (Prod.ext c3 (Prod.ext c4 (Prod.ext c5 (Prod.ext c6 c7))))))),rfl⟩
  ·rw[e]
   exact .inr ⟨λg=>c7 (by rw[g]),rfl⟩) (by
  unfold iE;dsimp only;rw[oDF (show ¬(T.length:Int)<T.length by omega)]
  rfl)with⟨g2,e2⟩|⟨g2,e2⟩
 ·have e3:dY iE NN (T,(T.length:Int),0,R,T,R',T',())=_:=e2;rw[e3];exact .inl ⟨⟨g,g2⟩,rfl⟩
 ·have e3:dY iE NN (T,(T.length:Int),0,R,T,R',T',())=_:=e2;rw[e3];exact .inr ⟨λk=>g2 k.2,rfl⟩
def vb(v:DTs):List Int:=[wk .u8 v.1,wk .u8 v.2.1,wk .u8 v.2.2.2.2.2.1]++(be 6 v.2.2.1++(be 2 (w64 (v.2.2.2.1+1))++(be 2 (w64 (v.2.2.2.2.1+1))++(be 2 (wk .i64 v.2.2.2.2.2.2.1)++lb v.2.2.2.2.2.2.2))))
theorem vN(xs:List DCn):(lb xs).length=4*xs.length+1:=by unfold lb;rw[oLC,sH]
theorem Cc:∀{R:List (List DCn)},(∀l∈R,l.length<=1000)->(R.flatMap lb).length<=4001*R.length:=by
 intro R
 induction R with
 |nil=>simp_all
 |cons l R ih=>
  intro h;have:=ih λx hx=>h x (List.mem_cons_of_mem _ hx);have h1:=h l List.mem_cons_self;rw[List.flatMap_cons,List.length_append,vN,oLC];omega
theorem Tr(v:DTs):(vb v).length=16+4*v.2.2.2.2.2.2.2.length:=by
 unfold vb;simp[mO,vN];omega
theorem JQ:∀{T:List DTs},(∀v∈T,v.2.2.2.2.2.2.2.length<=1000)->(T.flatMap vb).length<=4016*T.length:=by
 intro T
 induction T with
 |nil=>simp_all
 |cons v T ih=>
  intro h;have:=ih λx hx=>h x (List.mem_cons_of_mem _ hx);have h1:=h v List.mem_cons_self;rw[List.flatMap_cons,List.length_append,Tr,oLC];omega
theorem In{α:Type}{l:List α}{i:Nat}{x:α}(g:α->List Int)(h:l[i]?=some x):(l.take (i+1)).flatMap g=(l.take i).flatMap g++g x:=by
 rw[List.take_add_one,h];simp
theorem UY(v:Int){b:List Int}(hb:b.length<=90000):gj 6 v b=some (b++be 6 v,()):=KJ (n:=6) (by decide) hb
theorem Uz(v:Int){b:List Int}(hb:b.length<=90000):gj 2 v b=some (b++be 2 v,()):=KJ (n:=2) (by decide) hb
def UT(l:List DCn):Prop:=l≠[]/\(∀c∈l,lG c)/\(l.length:Int)<=32
def OkB(R:List (List DCn))(T:List DTs):Prop:=(1<=R.length/\R.length<=4)/\IJ T/\∀l∈R,UT l
def sb(R:List (List DCn))(T:List DTs):List Int:=([(R.length:Int)]++R.flatMap lb)++T.flatMap vb
def Lr(o:Option (List Int×Int×Unit))(R:List (List DCn))(T:List DTs):Prop:=(OkB R T/\o=some (sb R T,0,()))\/(¬OkB R T/\o=some ([],1,()))
theorem Lr.same{o o':Option (List Int×Int×Unit)}{R:List (List DCn)}{T:List DTs}(h:Lr o R T)(h':Lr o' R T):o=o':=by
 rcases h with⟨h,e⟩|⟨h,e⟩<;>rcases h' with⟨h',e'⟩|⟨h',e'⟩
 ·rw[e,e']
 ·simp_all
 ·simp_all
 ·rw[e,e']
theorem Tp{R:List (List DCn)}{T:List DTs}{b:List Int}(hv:IJ T)(ht:∀v∈T,∀c∈v.2.2.2.2.2.2.2,rf c)(hb:b.length<=20000):
 dY fD NN (T,(T.length:Int),0,R,T,b,())=some (T,(T.length:Int),(T.length:Int),false,R,T,b++T.flatMap vb,()):=by
 have h4:=hv.1
 have h8:∀v∈T,v.2.2.2.2.2.2.2.length<=1000:=λv hx=>by rw[(hv.2 v hx).2.2.2.2.2.2.1];decide
 have:=mC (f:=fD) (N:=NN) (st:=λr=>(T,(T.length:Int),(r:Int),R,T,b++(T.take r).flatMap vb,())) (n:=T.length) (t:=(T,(T.length:Int),(T.length:Int),false,R,T,b++T.flatMap vb,())) (by unfold NN;omega) ?_ ?_
 ·simpa using this
 ·intro r hr;obtain⟨v,hx⟩:∃v,T[r]?=some v:=⟨_,oGE hr⟩;have hvv:=hv.2 v (dU hx);have hl8:=hvv.2.2.2.2.2.2.1;have Vw:=JQ (T:=T.take r) λv hv=>h8 v (List.mem_of_mem_take hv);rw[oLT]at Vw;unfold fD;dsimp only;rw[oDT (show(r:Int)<T.length by omega),dT];simp only[oCT,oBS,show dR T r=some v from hx];rw[iy (by decide) (by simp only[List.length_append,oLC,List.length_nil,mO,vN];omega)];simp only[oCT,U6];rw[UY _ (by simp only[List.length_append,oLC,List.length_nil,mO,vN];omega)];simp only[oBS];rw[Uz _ (by simp only[List.length_append,oLC,List.length_nil,mO,vN];omega)];simp only[oBS];rw[Uz _ (by simp only[List.length_append,oLC,List.length_nil,mO,vN];omega)];simp only[oBS];rw[Uz _ (by simp only[List.length_append,oLC,List.length_nil,mO,vN];omega)];simp only[oBS];rw[Ov (λc hc=>(hvv.2.2.2.2.2.2.2 c hc).ok (ht v (dU hx) c hc)) (by omega) (by simp only[List.length_append,oLC,List.length_nil,mO,vN];omega)];rw[dX (x:=(r:Int)+1) (by omega) (by omega),In vb hx];refine Ok.ret ?_;unfold vb;simp only[List.append_assoc];rfl
 ·unfold fD;dsimp only;rw[oDF (show ¬(T.length:Int)<T.length by omega),List.take_length];exact Ok.ret rfl
theorem NC{R:List (List DCn)}{T:List DTs}(h:R.length<=1000)(h1:∀l∈R,l.length<=1000)(h2:T.length<=1000)(h3:∀v∈T,v.2.2.2.2.2.2.2.length<=1000)(r5:∀l∈R,∀c∈l,rf c)(t5:∀v∈T,∀c∈v.2.2.2.2.2.2.2,rf c):Lr (fR R T) R T:=by
 unfold fR;delta dS;dsimp only;by_cases c0:(R.length:Int)<1
 ·rw[oDT c0];exact .inr ⟨λg=>by have:=g.1.1;omega,rfl⟩
 rw[oDF c0];by_cases c1:(R.length:Int)>4
 ·rw[oDT c1];exact .inr ⟨λg=>by have:=g.1.2;omega,rfl⟩
 rw[oDF c1];simp only[oCF]
 rcases Kn h2 h3 with⟨k,e2⟩|⟨k,e2⟩
 rotate_left
 ·rw[e2];exact .inr ⟨λg=>k g.2.1,rfl⟩
 rw[e2];simp;rw[Lv,Int.emod_eq_of_lt (show(0:Int)<=R.length by omega) (by omega)]
 rcases P3 (f:=fq) (N:=NN) (bad:=.inl (1,(),())) (good:=.inr (R,(R.length:Int),(R.length:Int),false,R,T,[(R.length:Int)]++R.flatMap lb,())) (λi=>(R,(R.length:Int),(i:Int),R,T,[(R.length:Int)]++(R.take i).flatMap lb,())) (n:=R.length) (λi=>∀l,R[i]?=some l->UT l) (by unfold NN;omega) (λi hi _=>by
  obtain⟨l,hl⟩:∃l,R[i]?=some l:=⟨_,oGE hi⟩;have Ws:=h1 l (dU hl);have Vw:=Cc (R:=R.take i) λv hv=>h1 v (List.mem_of_mem_take hv);rw[oLT]at Vw;unfold fq;delta dS;dsimp only;rw[oDT (show(i:Int)<R.length by omega),dT];simp only[oCT,oBS,show dR R i=some l from hl];by_cases g0:(l.length:Int)=0
  ·rw[beq_iff_eq.2 g0];exact .inr ⟨λg=>(g l hl).1 (List.length_eq_zero_iff.1 (by omega)),rfl⟩
  rw[oBF g0,yF (by omega)];simp only[oCF,oBS];by_cases g1:(∀c∈l,lG c)/\(l.length:Int)<=32
  rotate_left
  ·rw[oDF g1];exact .inr ⟨λg=>g1 (g l hl).2,rfl⟩
  rw[oDT g1];simp only[oNT,oCF];rw[Ov (λc hc=>(g1.1 c hc).ok (r5 l (dU hl) c hc)) (by omega) (by simp only[List.length_append,oLC,List.length_nil,mO,vN];omega)];simp only[oBS];rw[dX (x:=(i:Int)+1) (by omega) (by omega),In lb hl];refine .inl ⟨λl2 hl2=>?_,by rw[List.append_assoc];rfl⟩;rw[hl]at hl2
  injection hl2 with hl2
  subst hl2
  exact⟨λg=>g0 (by rw[g];rfl),g1.1,g1.2⟩) (by
  unfold fq;dsimp only;rw[oDF (show ¬(R.length:Int)<R.length by omega),List.take_length]
  rfl)with⟨g,e⟩|⟨g,e⟩
 ·have e0:dY fq NN (R,(R.length:Int),0,R,T,[(R.length:Int)],())=_:=e;rw[e0];dsimp only;have Vw:=Cc (R:=R) h1;rw[Tp k t5 (by simp only[List.length_append,oLC,List.length_nil,mO,vN];omega)];exact .inl ⟨⟨⟨by omega,by omega⟩,k,og.1 g⟩,rfl⟩
 ·have e0:dY fq NN (R,(R.length:Int),0,R,T,[(R.length:Int)],())=_:=e;rw[e0];exact .inr ⟨λx=>g (og.2 x.2.2),rfl⟩
structure SB (R:List (List DCn))(T:List DTs):Prop where
 r:R.length<=8
 rl:∀l∈R,l.length<=40
 rc:∀l∈R,∀c∈l,rf c
 t:T.length<=8
 tl:∀v∈T,v.2.2.2.2.2.2.2.length<=40
 tc:∀v∈T,∀c∈v.2.2.2.2.2.2.2,rf c
 cd:∀v∈T,W16 v.2.2.2.2.2.2.1
theorem wA{α:Type}{l:List α}{i:Nat}{f:α->α}{a:α}(h:a∈l.modify i f):a∈l\/∃x∈l,a=f x:=by
 have ⟨j,hj⟩:=List.getElem?_of_mem h
 grind
theorem yO{α:Type}{l:List α}{i n:Nat}{a:α}(h:a∈lF l i n):a∈l:=List.mem_of_mem_drop (List.mem_of_mem_take h)
theorem SB.modT{R:List (List DCn)}{T:List DTs}(h:SB R T){k:Nat}{f:DTs->DTs}(h3:∀v∈T,W16 (f v).2.2.2.2.2.2.1)(h1:∀v∈T,(f v).2.2.2.2.2.2.2.length<=40)(h2:∀v∈T,∀c∈(f v).2.2.2.2.2.2.2,rf c):SB R (T.modify k f):=by
 refine⟨h.r,h.rl,h.rc,by rw[oLM];exact h.t,λv hv=>?_,λv hv=>?_,λv hv=>?_⟩
 rotate_left 2
 ·rcases wA hv with g|⟨x,g,rfl⟩
  ·exact h.cd v g
  ·exact h3 x g
 ·rcases wA hv with g|⟨x,g,rfl⟩
  ·exact h.tl v g
  ·simp_all
 ·rcases wA hv with g|⟨x,g,rfl⟩
  ·exact h.tc v g
  ·exact h2 x g
theorem SB.modR{R:List (List DCn)}{T:List DTs}(h:SB R T){k:Nat}{f:List DCn->List DCn}(h1:∀v∈R,(f v).length<=40)(h2:∀v∈R,∀c∈f v,rf c):SB (R.modify k f) T:=by
 refine⟨by rw[oLM];exact h.r,λv hv=>?_,λv hv=>?_,h.t,h.tl,h.tc,h.cd⟩
 ·rcases wA hv with g|⟨x,g,rfl⟩
  ·exact h.rl v g
  ·simp_all
 ·rcases wA hv with g|⟨x,g,rfl⟩
  ·exact h.rc v g
  ·exact h2 x g
theorem IP{α:Type}{l:List α}{i n:Nat}:(lF l i n).length<=l.length:=by
 unfold lF;rw[oLT,List.length_drop];omega
theorem SB.winR{R:List (List DCn)}{T:List DTs}(h:SB R T){k n:Nat}:SB (lF R k n) T:=
 ⟨Nat.le_trans IP h.r,λv hv=>h.rl v (yO hv),λv hv=>h.rc v (yO hv),h.t,h.tl,h.tc,h.cd⟩
theorem SB.winT{R:List (List DCn)}{T:List DTs}(h:SB R T){k n:Nat}:SB R (lF T k n):=
 ⟨h.r,h.rl,h.rc,Nat.le_trans IP h.t,λv hv=>h.tl v (yO hv),λv hv=>h.tc v (yO hv),λv hv=>h.cd v (yO hv)⟩
theorem Gp{α:Type}{l:List α}{i:Nat}{x:α}(h:l[i]?=some x):l.take (i+1)=l.take i++[x]:=by
 rw[List.take_add_one,h];rfl
theorem MZ{R:List (List DCn)}{T:List DTs}{YW at_ WX:Int}(h:SB R T)(r1:1<=R.length)(rl1:∀l∈R,1<=l.length)(rl:∀l∈R,l.length<=32)(t4:T.length=4)(tl:∀v∈T,v.2.2.2.2.2.2.2.length=8)(h0:CI YW)(h1:CI at_)(h2:CI WX):
 Ok (kK R T YW at_ WX) λr=>∃R' T',r=(R',T',())/\SB R' T':=by
 have hr8:=h.r
 have e1:dY iO NN (YW,at_,WX,R,(R.length:Int),0,R,T,(),(),[],(),())=some (YW,at_,WX,R,(R.length:Int),(R.length:Int),false,R,T,(),(),R,(),()):=by
  have:=mC (f:=iO) (N:=NN) (st:=λr=>(YW,at_,WX,R,(R.length:Int),(r:Int),R,T,(),(),R.take r,(),())) (n:=R.length) (t:=(YW,at_,WX,R,(R.length:Int),(R.length:Int),false,R,T,(),(),R,(),())) (by unfold NN;omega) ?_ ?_
  ·simpa using this
  ·intro r hr;obtain⟨l,hl⟩:∃l,R[r]?=some l:=⟨_,oGE hr⟩;have:=h.rl l (dU hl);unfold iO;dsimp only;rw[oDT (show(r:Int)<R.length by omega),dT];simp only[oCT,oBS,show dR R r=some l from hl];rw[iy (by decide) (by omega),iy (by decide) (by simp;omega)];simp only[oCT];rw[dX (x:=(r:Int)+1) (by omega) (by omega),Gp hl];exact Ok.ret rfl
  ·unfold iO;dsimp only;rw[oDF (show ¬(R.length:Int)<R.length by omega),List.take_length];exact Ok.ret rfl
 have e2:dY iN NN (YW,at_,WX,T,(T.length:Int),0,R,T,(),(),R,[],())=some (YW,at_,WX,T,(T.length:Int),(T.length:Int),false,R,T,(),(),R,T,()):=by
  have:=mC (f:=iN) (N:=NN) (st:=λr=>(YW,at_,WX,T,(T.length:Int),(r:Int),R,T,(),(),R,T.take r,())) (n:=T.length) (t:=(YW,at_,WX,T,(T.length:Int),(T.length:Int),false,R,T,(),(),R,T,())) (by unfold NN;omega) ?_ ?_
  ·simpa using this
  ·intro r hr;obtain⟨v,hv⟩:∃v,T[r]?=some v:=⟨_,oGE hr⟩;have:=h.tl v (dU hv);unfold iN;dsimp only;rw[oDT (show(r:Int)<T.length by omega),dT];simp only[oCT,oBS,show dR T r=some v from hv];rw[iy (by decide) (by omega),iy (by decide) (by simp;omega)];simp only[oCT];rw[dX (x:=(r:Int)+1) (by omega) (by omega),Gp hv];exact Ok.ret rfl
  ·unfold iN;dsimp only;rw[oDF (show ¬(T.length:Int)<T.length by omega),List.take_length];exact Ok.ret rfl
 unfold kK;delta dS;dsimp only;rw[e1];simp only[oBS];rw[e2];simp only[oBS];rw[vK h1 (by omega) (by omega)];simp only[oBS];rw[vK h2 (b:=11) (by decide) (by decide)];simp only[oBS];refine Ok.nat (by omega) λq hq=>?_;refine Ok.get (by simp;omega) λz hz=>?_;obtain⟨VL,hVL⟩:∃VL:List Int,VL=[-2,-1,0,1,4,5,6,7,255,256,1099511627777]:=⟨_,rfl⟩;rw[<- hVL]at hz⊢;rw[show dR VL q=some z from hz];simp only[oBS];have m0:=Int.emod_nonneg at_ (show(T.length:Int)≠0 by omega);have m1:=Int.emod_lt_of_pos at_ (show 0<(T.length:Int) by omega);obtain⟨k,hk⟩:∃k:Nat,at_%(T.length:Int)=k:=⟨(at_%(T.length:Int)).toNat,by omega⟩
 have hkl:k<T.length:=by omega
 obtain⟨v,hv⟩:∃v,T[k]?=some v:=⟨_,oGE hkl⟩;obtain⟨l,hl⟩:∃l,R[0]?=some l:=⟨_,oGE (by omega)⟩;have Ws:=rl l (dU hl);have Xv:=rl1 l (dU hl);have hv8:=tl v (dU hv);have gv:dR T k=some v:=hv;have gl:dR R 0=some l:=hl;rw[hk,vK h0 (b:=10) (by decide) (by decide)];obtain⟨x,hx⟩:∃x,YW%10=x:=⟨_,rfl⟩
 have hx0:0<=x/\x<10:=by omega
 rw[hx];simp only[oBS,dT,gv,gl]
 rcases(show x=0\/x=1\/x=2\/x=3\/x=4\/x=5\/x=6\/x=7\/x=8\/x=9 by omega)with rfl|rfl|rfl|rfl|rfl|rfl|rfl|rfl|rfl|rfl<;>simp only[Int.reduceBEq,BEq.rfl,oCT,oCF]
 ·exact Ok.ret ⟨_,_,rfl,h.modT (λv hv=>h.cd v hv) (λv hv=>h.tl v hv) λv hv=>h.tc v hv⟩
 ·exact Ok.ret ⟨_,_,rfl,h.modT (λv hv=>h.cd v hv) (λv hv=>h.tl v hv) λv hv=>h.tc v hv⟩
 ·exact Ok.ret ⟨_,_,rfl,h.modT (λv hv=>h.cd v hv) (λv hv=>h.tl v hv) λv hv=>h.tc v hv⟩
 ·exact Ok.ret ⟨_,_,rfl,h.modT (λv hv=>h.cd v hv) (λv hv=>h.tl v hv) λv hv=>h.tc v hv⟩
 ·rw[show iz 1 v.2.2.2.2.2.2.2.length v.2.2.2.2.2.2.2.length=true by unfold iz;simp;omega];simp only[oCT];exact Ok.ret ⟨_,_,rfl,h.modT (λv hv=>h.cd v hv) (λ_ _=>Nat.le_trans IP (h.tl v (dU hv))) λ_ _ c hc=>h.tc v (dU hv) c (yO hc)⟩
 ·rw[show iz 1 R.length R.length=true by unfold iz;simp;omega];simp only[oCT];exact Ok.ret ⟨_,_,rfl,h.winR⟩
 ·rw[iy (by decide) (by simp;omega)];simp only[oCT];refine Ok.ret ⟨_,_,rfl,h.modR (λ_ _=>by show(l++[_]).length<=40;simp;omega) λ_ _ c hc=>?_⟩;rcases List.mem_append.1 hc with g|g
  ·exact h.rc l (dU hl) c g
  ·rw[List.mem_singleton.1 g];show(0:Int)<=0/\(0:Int)<=65535;decide
 ·rw[vK h1 (b:=(l.length:Int)) (by omega) (by omega),vK h2 (b:=4) (by decide) (by decide),vK h2 (b:=6) (by decide) (by decide),vK h1 (b:=36) (by decide) (by decide)];have n0:=Int.emod_nonneg at_ (show(l.length:Int)≠0 by omega);have n1:=Int.emod_lt_of_pos at_ (show 0<(l.length:Int) by omega);obtain⟨j,hj⟩:∃j:Nat,at_%(l.length:Int)=j:=⟨(at_%(l.length:Int)).toNat,by omega⟩
  have hjl:j<l.length:=by omega
  obtain⟨c,hc⟩:∃c,l[j]?=some c:=⟨_,oGE hjl⟩;rw[hj];simp only[oBS,dT,show dR l j=some c from hc];refine Ok.ret ⟨_,_,rfl,h.modR (λy hy=>by rw[oLM];exact h.rl y hy) λy hy c hc=>?_⟩;rcases wA hc with g|⟨x,g,rfl⟩
  ·exact h.rc y hy c g
  ·show(0:Int)<=0/\(0:Int)<=65535;decide
 ·rw[show iz 1 T.length T.length=true by unfold iz;simp;omega];simp only[oCT];exact Ok.ret ⟨_,_,rfl,h.winT⟩
 ·obtain⟨c,hc⟩:∃c,v.2.2.2.2.2.2.2[0]?=some c:=⟨_,oGE (by omega)⟩;rw[vK h2 (b:=5) (by decide) (by decide),vK h1 (b:=36) (by decide) (by decide)];simp only[oBS,show dR v.2.2.2.2.2.2.2 0=some c from hc];refine Ok.ret ⟨_,_,rfl,h.modT (λv hv=>h.cd v hv) (λy hy=>by show(List.modify _ _ _).length<=40;rw[oLM];exact h.tl y hy) λy hy c hc=>?_⟩;rcases wA hc with g|⟨x,g,rfl⟩
  ·exact h.tc y hy c g
  ·show(0:Int)<=0/\(0:Int)<=65535;decide
theorem zf:ii=some (true,()):=by kernel_rfl
theorem Pr.t{ss:List Int}{c:DCn}(h:Pr ss c):rf c:=by
 rcases h with⟨_,_,_,h⟩|⟨_,h,_⟩
 ·exact h
 ·exact⟨by omega,by omega⟩
theorem Ba.sb{n:Int}{ss:List Int}{R:List (List DCn)}{T:List DTs}(h:Ba n ss R T)(hz:zi ss):SB R T/\1<=R.length/\(∀l∈R,1<=l.length)/\(∀l∈R,l.length<=32)/\∀v∈T,v.2.2.2.2.2.2.2.length=8:=by
 have h1:=hz.1;have h2:=hz.2.1;have h3:=h.rlen;have h4:=h.vlen
 have hl:∀l∈R,1<=l.length/\l.length<=32:=by
  intro l hl;obtain⟨j,hj⟩:=List.getElem?_of_mem hl;have hjl:=(oGS hj).1;obtain⟨z,XJ⟩:∃z,ss[j]?=some z:=⟨_,oGE (by omega)⟩;have e:=h.fit j l z hj XJ;have:=hz.2.2 z (dU XJ);omega
 refine⟨⟨by omega,λl x=>by have:=(hl l x).2;omega,λl x c hc=>(h.cells l x c hc).t,by omega,λv x=>by rw[(h.views v x).len];decide,λv x c hc=>((h.views v x).regs c hc).t,λv x=>(h.views v x).code⟩,by omega,λl x=>(hl l x).1,λl x=>(hl l x).2,λv x=>(h.views v x).len⟩
theorem LV.is64{bs ss:List Int}(h:LV bs ss):bs.length<=1000/\∀b∈bs,CI b:=by
 have h1:=h.1.2.1;have h2:=h.2.1;refine⟨by omega,λb hb=>?_⟩;obtain⟨i,hi⟩:=List.getElem?_of_mem hb;have hl:=(oGS hi).1;obtain⟨b',z,g,_,_,_,g0,g1⟩:=h.at_ (r:=i) (by omega);rw[hi]at g
 injection g with g
 subst g;exact⟨by omega,by omega⟩
theorem CD{v v':Int}(h0:0<=v)(h1:v<65536)(h2:0<=v')(h3:v'<65536)(e:be 2 v=be 2 v'):v=v':=by
 have e':[v/256%256,v/1%256]=[v'/256%256,v'/1%256]:=e
 injection e' with a b
 injection b with b
 omega
theorem SX{v v':Int}(h0:0<=v)(h1:v<=1099511627776)(h2:0<=v')(h3:v'<=1099511627776)(e:be 6 v=be 6 v'):v=v':=by
 have e':[v/1099511627776%256,v/4294967296%256,v/16777216%256,v/65536%256,v/256%256,v/1%256]=[v'/1099511627776%256,v'/4294967296%256,v'/16777216%256,v'/65536%256,v'/256%256,v'/1%256]:=e;simp only[List.cons.injEq,and_true]at e';omega
theorem T6{c c':DCn}(h:oj c)(h':oj c')(e:cb c=cb c'):c=c':=by
 obtain⟨k,v,r,o⟩:=c;obtain⟨k',v',r',o'⟩:=c';unfold oj at h h';dsimp only at h h';unfold cb at e;dsimp only at e;by_cases a:k=1
 ·by_cases a':k'=1
  ·rw[oIP a,oIP a']at e;have e1:(1::(r+1)::be 2 o)=1::(r'+1)::be 2 o':=e
   injection e1 with _ e1
   injection e1 with e2 e3
   have e4:o=o':=CD (by omega) (by omega) (by omega) (by omega) e3
   have e5:v=v':=by omega
   have e6:r=r':=by omega
   rw[a,a',e4,e5,e6]
  ·rw[oIP a,oIN a']at e;have e1:(1::(r+1)::be 2 o)=k'::0::be 2 v':=e
   injection e1 with e1 _
   omega
 ·by_cases a':k'=1
  ·rw[oIN a,oIP a']at e;have e1:(k::0::be 2 v)=1::(r'+1)::be 2 o':=e
   injection e1 with e1 _
   omega
  ·rw[oIN a,oIN a']at e;have e1:(k::0::be 2 v)=k'::0::be 2 v':=e
   injection e1 with e1 e2
   injection e2 with _ e2
   have e4:v=v':=CD (by omega) (by omega) (by omega) (by omega) e2
   have e5:r=r':=by omega
   have e6:o=o':=by omega
   rw[e1,e4,e5,e6]
theorem pK{α:Type}{a b c d:List α}(hl:a.length=b.length)(e:a++c=b++d):a=b/\c=d:=List.append_inj e hl
theorem IC:∀{l l':List DCn},l.length=l'.length->(∀c∈l,oj c)->(∀c∈l',oj c)->l.flatMap cb=l'.flatMap cb->l=l'
 | [],[],_,_,_,_=>rfl
 | [],_::_,h,_,_,_=>by simp at h
 |_::_,[],h,_,_,_=>by simp at h
 |c::r,c'::r',h,h1,h2,e=>by
  rw[List.flatMap_cons,List.flatMap_cons]at e;obtain⟨e1,e2⟩:=pK (by rw[O7,O7]) e;rw[T6 (h1 c List.mem_cons_self) (h2 c' List.mem_cons_self) e1,IC (by simpa using h) (λx hx=>h1 x (List.mem_cons_of_mem _ hx)) (λx hx=>h2 x (List.mem_cons_of_mem _ hx)) e2]
theorem Rm{l l':List DCn}{x x':List Int}(h1:∀c∈l,oj c)(h2:∀c∈l',oj c)(e:lb l++x=lb l'++x'):l=l'/\x=x':=by
 unfold lb at e;rw[List.cons_append,List.cons_append]at e
 injection e with e0 e1
 have hl:l.length=l'.length:=by omega
 obtain⟨e2,e3⟩:=pK (by rw[sH,sH,hl]) e1;exact⟨IC hl h1 h2 e2,e3⟩
theorem KF:∀{R R':List (List DCn)}{x x':List Int},R.length=R'.length->(∀l∈R,∀c∈l,oj c)->(∀l∈R',∀c∈l,oj c)->R.flatMap lb++x=R'.flatMap lb++x'->R=R'/\x=x'
 | [],[],_,_,_,_,_,e=>⟨rfl,e⟩
 | [],_::_,_,_,h,_,_,_=>by simp at h
 |_::_,[],_,_,h,_,_,_=>by simp at h
 |l::r,l'::r',x,x',h,h1,h2,e=>by
  rw[List.flatMap_cons,List.flatMap_cons,List.append_assoc,List.append_assoc]at e;obtain⟨e1,e2⟩:=Rm (h1 l List.mem_cons_self) (h2 l' List.mem_cons_self) e;obtain⟨e3,e4⟩:=KF (by simpa using h) (λy hy=>h1 y (List.mem_cons_of_mem _ hy)) (λy hy=>h2 y (List.mem_cons_of_mem _ hy)) e2;exact⟨by rw[e1,e3],e4⟩
def VwB(v:DTs):Prop:=MP v/\W16 v.2.2.2.2.2.2.1/\∀c∈v.2.2.2.2.2.2.2,rf c
theorem Eo{x:Int}(h0:-1<=x)(h1:x<=255):w64 (x+1)=x+1:=dX (by omega) (by omega)
theorem Ts{v v':DTs}{x x':List Int}(h:VwB v)(h':VwB v')(e:vb v++x=vb v'++x'):v=v'/\x=x':=by
 obtain⟨⟨a1,a2,a3,a4,a5,a6,a7,a8⟩,a9,a10⟩:=h;obtain⟨⟨b1,b2,b3,b4,b5,b6,b7,b8⟩,b9,b10⟩:=h';unfold vb at e;unfold W16 at a9 b9;rw[Lz a1.1 (by omega),Lz a2.1 (by omega),Lz a6.1 (by omega),Lz b1.1 (by omega),Lz b2.1 (by omega),Lz b6.1 (by omega),Eo a4.1 a4.2,Eo a5.1 a5.2,Eo b4.1 b4.2,Eo b5.1 b5.2]at e;rw[show wk .i64 v.2.2.2.2.2.2.1=v.2.2.2.2.2.2.1 from dX (by omega) (by omega),show wk .i64 v'.2.2.2.2.2.2.1=v'.2.2.2.2.2.2.1 from dX (by omega) (by omega)]at e;simp only[List.append_assoc]at e;obtain⟨e1,e⟩:=pK (by rfl) e;obtain⟨e2,e⟩:=pK (by rw[mO,mO]) e;obtain⟨e3,e⟩:=pK (by rw[mO,mO]) e;obtain⟨e4,e⟩:=pK (by rw[mO,mO]) e;obtain⟨e5,e⟩:=pK (by rw[mO,mO]) e;obtain⟨e6,e⟩:=Rm (λc hc=>(a8 c hc).ok (a10 c hc)) (λc hc=>(b8 c hc).ok (b10 c hc)) e;have f2:=SX a3.1 a3.2 b3.1 b3.2 e2;have f3:=CD (by omega) (by omega) (by omega) (by omega) e3;have f4:=CD (by omega) (by omega) (by omega) (by omega) e4;have f5:=CD (by omega) (by omega) (by omega) (by omega) e5;simp only[List.cons.injEq,and_true]at e1;refine⟨?_,e⟩;obtain⟨p1,p2,p3,p4,p5,p6,p7,p8⟩:=v;obtain⟨q1,q2,q3,q4,q5,q6,q7,q8⟩:=v';dsimp only at e1 f2 f3 f4 f5 e6;obtain⟨g1,g2,g3⟩:=e1;rw[g1,g2,g3,f2,f5,e6,show p4=q4 by omega,show p5=q5 by omega]
theorem Gj:∀{T T':List DTs},T.length=T'.length->(∀v∈T,VwB v)->(∀v∈T',VwB v)->T.flatMap vb=T'.flatMap vb->T=T'
 | [],[],_,_,_,_=>rfl
 | [],_::_,h,_,_,_=>by simp at h
 |_::_,[],h,_,_,_=>by simp at h
 |v::r,v'::r',h,h1,h2,e=>by
  rw[List.flatMap_cons,List.flatMap_cons]at e;obtain⟨e1,e2⟩:=Ts (h1 v List.mem_cons_self) (h2 v' List.mem_cons_self) e;rw[e1,Gj (by simpa using h) (λx hx=>h1 x (List.mem_cons_of_mem _ hx)) (λx hx=>h2 x (List.mem_cons_of_mem _ hx)) e2]
theorem TA{R R':List (List DCn)}{T T':List DTs}(h:OkB R T)(h':OkB R' T')(r:∀l∈R,∀c∈l,rf c)(r':∀l∈R',∀c∈l,rf c)(t:∀v∈T,W16 v.2.2.2.2.2.2.1/\∀c∈v.2.2.2.2.2.2.2,rf c)(t':∀v∈T',W16 v.2.2.2.2.2.2.1/\∀c∈v.2.2.2.2.2.2.2,rf c)
 (e:sb R T=sb R' T'):R=R'/\T=T':=by
 unfold sb at e;rw[List.append_assoc,List.append_assoc,List.singleton_append,List.singleton_append]at e
 injection e with e0 e1
 obtain⟨e2,e3⟩:=KF (by omega) (λl hl c hc=>((h.2.2 l hl).2.1 c hc).ok (r l hl c hc)) (λl hl c hc=>((h'.2.2 l hl).2.1 c hc).ok (r' l hl c hc)) e1;exact⟨e2,Gj (by rw[h.2.1.1,h'.2.1.1]) (λv hv=>⟨h.2.1.2 v hv,t v hv⟩) (λv hv=>⟨h'.2.1.2 v hv,t' v hv⟩) e3⟩
def Byt(l:List Int):Prop:=∀x∈l,0<=x/\x<=255
theorem Ei:∀(n:Nat)(v:Int),Byt (be n v):=by
 intro n
 induction n with
 |zero=>intro v x h;simp[be]at h
 |succ n ih=>
  intro v x h;rcases List.mem_cons.1 h with rfl|h
  ·exact⟨Int.emod_nonneg _ (by decide),by have:=Int.emod_lt_of_pos (v/256 ^ n) (show(0:Int)<256 by decide);omega⟩
  ·exact ih v x h
theorem Ej(l:List Int):(tO l).data.toList=l.map λn=>UInt8.ofNat n.toNat:=by
 have key:∀(l:List Int)(r:ByteArray),(l.foldl (λr n=>r.push (UInt8.ofNat n.toNat)) r).data.toList=r.data.toList++l.map λn=>UInt8.ofNat n.toNat:=by
  intro l
  induction l with
  |nil=>intro r;simp
  |cons x l ih=>intro r;rw[List.foldl_cons,ih];simp[ByteArray.push]
 unfold tO;rw[key];rfl
theorem QO{a b:List Int}(ha:Byt a)(hb:Byt b):Pu (tO a) (tO b)=true↔a=b:=by
 unfold Pu;rw[ByteArray.toList_eq,ByteArray.toList_eq,Ej,Ej,beq_iff_eq];refine⟨λh=>?_,λh=>by rw[h]⟩
 induction a generalizing b with
 |nil=>cases b with
  |nil=>rfl
  |cons y b=>simp at h
 |cons x a ih=>
  cases b with
  |nil=>simp at h
  |cons y b=>
   simp only[List.map_cons,List.cons.injEq]at h;have e:=ih (λz hz=>ha z (List.mem_cons_of_mem _ hz)) (λz hz=>hb z (List.mem_cons_of_mem _ hz)) h.2;have p:=ha x List.mem_cons_self;have q:=hb y List.mem_cons_self
   have e0:x.toNat=y.toNat:=by
    have:=congrArg UInt8.toNat h.1;simpa[UInt8.toNat_ofNat',Nat.mod_eq_of_lt (show x.toNat<256 by omega),Nat.mod_eq_of_lt (show y.toNat<256 by omega)]using this
   rw[e,show x=y by omega]
theorem m9{a b:List Int}(ha:Byt a)(hb:Byt b):Byt (a++b):=λx hx=>(List.mem_append.1 hx).elim (ha x) (hb x)
theorem oZ{x:Int}{l:List Int}(h:0<=x/\x<=255)(hl:Byt l):Byt (x::l):=λy hy=>(List.mem_cons.1 hy).elim (λe=>e▸h) (hl y)
theorem T8{c:Int×Int×Int×Int}(h:oj c):Byt (cb c):=by
 obtain⟨t,v,r,o⟩:=c;unfold cb
 rcases h with⟨h1,h2,h3,h4,h5⟩|⟨h1,h2,h3⟩
 ·simp only at h1 h2 h3 h4 h5;rw[oIN (by show ¬t=1;omega)];exact oZ (by show 0<=t/\t<=255;omega) (oZ (by decide) (Ei _ _))
 ·simp only at h1 h2 h3;rw[oIP h1];exact oZ (by decide) (oZ (by show 0<=r+1/\r+1<=255;omega) (Ei _ _))
theorem Rs{xs:List (Int×Int×Int×Int)}(h:∀c∈xs,oj c)(hl:xs.length<=255):Byt (lb xs):=by
 refine oZ (by omega) λx hx=>?_;obtain⟨c,hc,hx⟩:=List.mem_flatMap.1 hx;exact T8 (h c hc) x hx
theorem O9(x:Int):0<=wk .u8 x/\wk .u8 x<=255:=by rw[Lv];omega
theorem T7{v:DTs}(h:VwB v):Byt (vb v):=by
 unfold vb;refine m9 (oZ (O9 _) (oZ (O9 _) (oZ (O9 _) λx hx=>by simp at hx))) (m9 (Ei _ _) (m9 (Ei _ _) (m9 (Ei _ _) (m9 (Ei _ _) (Rs (λc hc=>(h.1.2.2.2.2.2.2.2 c hc).ok (h.2.2 c hc)) (by have:=h.1.2.2.2.2.2.2.1;omega))))))
theorem Lh{α:Type}{f:α->List Int}{l:List α}(h:∀x∈l,Byt (f x)):Byt (l.flatMap f):=λy hy=>by
 obtain⟨x,hx,Xn⟩:=List.mem_flatMap.1 hy;exact h x hx y Xn
theorem Rr{R:List (List DCn)}{T:List DTs}(h:OkB R T)(r:∀l∈R,∀c∈l,rf c)(t:∀v∈T,W16 v.2.2.2.2.2.2.1/\∀c∈v.2.2.2.2.2.2.2,rf c):Byt (sb R T):=by
 unfold sb;have h1:=h.1;exact m9 (m9 (oZ (by omega) λx hx=>by simp at hx) (Lh λl hl=>Rs (λc hc=>((h.2.2 l hl).2.1 c hc).ok (r l hl c hc)) (by have:=(h.2.2 l hl).2.2;omega))) (Lh λv hv=>T7 ⟨h.2.1.2 v hv,t v hv⟩)
theorem PB{R R':List (List DCn)}{T T':List DTs}(h:OkB R T)(h':OkB R' T')(r:∀l∈R,∀c∈l,rf c)(r':∀l∈R',∀c∈l,rf c)(t:∀v∈T,W16 v.2.2.2.2.2.2.1/\∀c∈v.2.2.2.2.2.2.2,rf c)(t':∀v∈T',W16 v.2.2.2.2.2.2.1/\∀c∈v.2.2.2.2.2.2.2,rf c):
 Pu (tO (sb R T)) (tO (sb R' T'))=true↔R=R'/\T=T':=by
 rw[QO (Rr h r t) (Rr h' r' t')];exact⟨TA h h' r r' t t',λ⟨a,b⟩=>by rw[a,b]⟩
theorem So{bs ss:List Int}(h:LV bs ss){r:Nat}{b z o:Int}(hb:bs[r]?=some b)(hz:ss[r]?=some z)(h0:0<=o)(h1:o<z):I5 bs ss (b+o)=some ((r:Int),o):=by
 have hl:=h.2.1
 cases e:I5 bs ss (b+o)with
 |none=>exact absurd ⟨by omega,by omega⟩ (GD (by omega) e r b z (by omega) hb hz)
 |some x=>
  obtain⟨j,b',z',e1,e2,e3,e4,e5,e6⟩:=Bu hl (r:=x.1) (o:=x.2) e;by_cases g:j=r
  ·subst g;rw[hb]at e3;cases e3;rw[show x=(x.1,x.2)from rfl,e1,e2];congr 2;omega
  ·have:=h.apart g e3 e4 hb hz (o:=b+o-b') (o':=o) (by omega) (by omega) h0 h1;omega
theorem O8{bs ss:List Int}{key:Int}{c:DCn}(h:LV bs ss)(hc:Pr ss c):qb bs ss key (rS bs key c)=c:=by
 obtain⟨k,v,r,o⟩:=c
 rcases hc with⟨h1|h1,h2,h3,h4⟩|⟨h1,h2,h3,n,h5,h6,h7⟩
 ·dsimp only at h1 h2 h3;subst h1 h2 h3;rfl
 ·dsimp only at h1 h2 h3 h4;subst h1 h2 h3;unfold W16 at h4;show((2:Int),wk .u16 (wk .u16 (v+key)-key),(0:Int),(0:Int))=(2,v,0,0)
  have e:wk .u16 (wk .u16 (v+key)-key)=v:=by
   unfold wk;rw[wT,wT];omega
  rw[e]
 ·dsimp only at h1 h2 h3 h5 h6 h7;subst h1 h2;obtain⟨b,hb,b0,b1,b2,b3⟩:=AS h h3 h5 h6 h7;obtain⟨j,rfl⟩:∃j:Nat,r=j:=⟨r.toNat,by omega⟩;rw[oTN]at hb h5
  have e:rS bs key (1,0,(j:Int),o)=(1,b+o):=by
   show((1:Int),wk .u16 (bs.getD (j:Int).toNat 0+o))=_;rw[oTN,ef hb,eE (by omega) (by omega)]
  rw[e];show(match I5 bs ss (b+o)with|some (r,o)=>((1:Int),(0:Int),r,o)|none=>(1,0,-1,b+o))=_;rw[So h hb h5 h6 h7]
theorem Mg{cs:List DCe}{a:Int}(h:0<=a):Aw cs eH a=cs.getD a.toNat (0,0):=by
 unfold Aw
 have hi:(a/4%4).toNat<4:=by omega
 have e:eH[(a/4%4).toNat]?=some (-1,false,[]):=by
  generalize(a/4%4).toNat=i at hi
  match i,hi with
  |0,_=>rfl
  |1,_=>rfl
  |2,_=>rfl
  |3,_=>rfl
 rw[e];dsimp only;rw[oIN (by omega)]
section
variable {n key:Int} {code:List DIn} {ss bs:List Int} {dt:List (List Int)} {rg:List (List DCn)} {vs:List DTs}
theorem NO(hL:LV bs ss)(h:Ba n ss rg vs):wP bs ss key (Ax bs key rg rg.length) eH=rg:=by
 have X3:=h.rlen;unfold wP;apply List.ext_getElem?;intro r;by_cases hr:r<ss.length
 rotate_left
 ·rw[oGN (by simp;omega),oGN (by omega)]
 obtain⟨b,z,hb,hz,z1,WR,b0,bz⟩:=hL.at_ hr;obtain⟨x,hx⟩:∃x,rg[r]?=some x:=⟨_,oGE (by omega)⟩;have hf:=h.fit r x z hx hz;rw[List.getElem?_map,List.getElem?_range hr,hx];simp only[oMS];congr 1;unfold NQ;apply List.ext_getElem?;intro o;rw[ef hz];by_cases ho:o<x.length
 rotate_left
 ·rw[oGN (by simp;omega),oGN (by omega)]
 obtain⟨c,hc⟩:∃c,x[o]?=some c:=⟨_,oGE ho⟩;rw[List.getElem?_map,List.getElem?_range (by omega),hc];simp only[oMS];congr 1;unfold P8;rw[ef hb,Mg (by omega),getD_some (Oy hL h.w _ (Nat.le_refl _) r o x c b (by omega) hx hc hb)];exact O8 hL (h.cells x (dU hx) c (dU hc))
theorem Lw(hL:LV bs ss)(h:Ba n ss rg vs):(vs.map (thF bs key)).map (ol bs ss key)=vs:=by
 rw[List.map_map]
 have e:∀v∈vs,(ol bs ss key ∘ thF bs key) v=id v:=λv hv=>by
  have hr:((xf v).map (rS bs key)).map (qb bs ss key)=xf v:=by
   rw[List.map_map];have e2:∀c∈xf v,(qb bs ss key ∘ rS bs key) c=id c:=λc hc=>O8 hL ((h.views v hv).regs c hc);rw[List.map_congr_left e2,List.map_id]
  show(v.1,v.2.1,v.2.2.1,v.2.2.2.1,v.2.2.2.2.1,v.2.2.2.2.2.1,v.2.2.2.2.2.2.1,((xf v).map (rS bs key)).map (qb bs ss key))=v;rw[hr];rfl
 rw[List.map_congr_left e,List.map_id]
end
theorem Pr.x{ss:List Int}{c:DCn}(h:Pr ss c):PrX ss c:=by
 rcases h with⟨h1,h2,h3,_⟩|h
 ·exact .inl ⟨h1,h2,h3⟩
 ·exact .inr h
theorem rebuilds_law{l:List Int}{seed YW at_ WX:Int}(hl:∀x∈l,CI x)(hm:l.length<=maxLen)(hs:CI seed)(h0:CI YW)(h1:CI at_)(h2:CI WX):iv l seed YW at_ WX=some (true,()):=by
 refine fc ?_;unfold iv;refine(Mf (Gi hl hm)).bind ?_;rintro _ ⟨code,ss,dt,bs,key,cs,ls,ts,k',rfl,hp,X7,hM,hd⟩;dsimp only;rw[OZ hM];simp only[oBS];have V3:=Kp (key:=key) hM;obtain⟨hS,s1,s2,s3,s4⟩:=V3.sb hp.sz;obtain⟨R,hR⟩:∃R,R=wP bs ss key cs ls:=⟨_,rfl⟩;obtain⟨T,hT⟩:∃T,T=ts.map (ol bs ss key):=⟨_,rfl⟩;rw[<- hR,<- hT]at hS V3;rw[<- hR]at s1 s2 s3;rw[<- hT]at s4;rw[<- hR,<- hT]
 have hT4:T.length=4:=by rw[hT,List.length_map];exact hM.tlen
 have a1:∀{R:List (List DCn)}{T:List DTs},SB R T->R.length<=1000:=λh=>by have:=h.r;omega
 have a2:∀{R:List (List DCn)}{T:List DTs},SB R T->∀l∈R,l.length<=1000:=λh l hl=>by have:=h.rl l hl;omega
 have a3:∀{R:List (List DCn)}{T:List DTs},SB R T->T.length<=1000:=λh=>by have:=h.t;omega
 have a4:∀{R:List (List DCn)}{T:List DTs},SB R T->∀v∈T,v.2.2.2.2.2.2.2.length<=1000:=λh v hv=>by have:=h.tl v hv;omega
 have hz:=hp.sz
 have hss:ss.length<=1000:=by have:=hz.2.1;omega
 have v13:=DM hp V3 (by decide)
 have hVS:UK ss R T:=by
  rcases Gk (A5 hp) hz (a1 hS) (a2 hS) (a3 hS) (a4 hS)with g|g
  ·exact g.1
  ·rw[v13]at g;cases g.2
 have eC:=((IQ (N9 hp) hz (a1 hS) (a2 hS) (a3 hS) (a4 hS)).resolve_right λg=>g.1 hVS).2;rw[v13,oBS];simp only[oNT,oCF];rw[vK hs (by decide) (by decide),oBS];dsimp only;have hsd:=Int.emod_nonneg seed (show(1048576:Int)≠0 by decide);have hsd2:=Int.emod_lt_of_pos seed (show(0:Int)<1048576 by decide);refine(Om hp.sz hsd (by omega)).bind ?_;rintro _ ⟨YM,rfl,XG⟩;dsimp only;obtain⟨ys,V7⟩:∃ys,ys=mkB ss (seed%1048576):=⟨_,rfl⟩;have hLy:LV ys ss:=V7▸Ry hp.sz hsd;rw[<- V7];obtain⟨y1,y2⟩:=hLy.is64;have eL:=((U4 (key:=YM) y1 hss y2).resolve_right λg=>g.1 hLy).2;have hA:UV ss R T:=⟨λl hl c hc=>(V3.cells l hl c hc).x,λv hv c hc=>((V3.views v hv).regs c hc).x⟩;have eA:=((S6 (code:=code) (dt:=dt) hss (a1 hS) (a2 hS) (a3 hS) (a4 hS)).resolve_left λg=>g.1 hA).2;obtain⟨_,c1,rfl⟩:=Qy (dt:=dt) (code:=code) (key:=YM) hp hLy V3.w eC eL eA;obtain⟨_,c3,Z4,rfl,hM',rfl⟩:=Hv (key:=YM) hp hLy V3 (by decide);rw[c1,oBS];simp only[oNT,oCF];refine(MZ hS s1 s2 s3 hT4 s4 h0 h1 h2).bind ?_;rintro _ ⟨R',T',rfl,hB⟩;dsimp only
 have hok:OkB R T:=⟨⟨s1,by rw[V3.rlen];exact hz.2.1⟩,hVS.2.1,λl hl=>⟨λe=>by have:=s2 l hl;rw[e]at this;simp at this,λc hc=>by
  obtain⟨i,hi⟩:=List.getElem?_of_mem hl
  exact(hVS.2.2 i (oGS hi).1 l hi).2 c hc,by have:=s3 l hl;omega⟩⟩
 have b1:=((NC (a1 hS) (a2 hS) (a3 hS) (a4 hS) hS.rc hS.tc).resolve_right λg=>g.1 hok).2;rw[b1,oBS];dsimp only;have b2:=NC (a1 hB) (a2 hB) (a3 hB) (a4 hB) hB.rc hB.tc;have hs:iZ R T R T=some (true,()):=((Bq (R:=R) (R':=R) (T:=T) (T':=T) (a1 hS) (a1 hS) (a2 hS) (a2 hS) (a3 hS) (a3 hS) (a4 hS) (a4 hS)).resolve_right λg=>g.1 ⟨rfl,rfl⟩).2;have vM:=u7 (key:=YM) hp hM' (by decide);have sM:=Kq (key:=YM) (code:=code) (dt:=dt) hM';rw[NO hLy V3,Lw hLy V3]at sM
 have ZZ:∀(x:List Int×Int×Unit),x.2.1=0/\OkB R' T'/\x.1=sb R' T'\/x.2.1=1->Ok ((ia code ss dt ys YM (Ax ys YM R R.length) eH (T.map (thF ys YM))).bind λ(x29,_)=>
  bif x29 then((i6 code ss dt ys YM (Ax ys YM R R.length) eH (T.map (thF ys YM))).bind λ(x30,x31,_)=>
  (iZ x30 x31 R T).bind λ(x32,_)=>
  bif x32 then((ly ys YM ys YM).bind λ(x33,_)=>
  bif x33 then(bif((0:Int)==0)then(bif(x.2.1 != 0)then((ii).bind λ(x34,_)=>
  some (x34,()))else
  (iZ R T R' T').bind λ(x36,_)=>
  bif((Pu (tO (sb R T)) (tO x.1))==x36)then((ii).bind λ(x37,_)=>
  some (x37,()))else
  some (false,()))else
  some (false,()))else
  some (false,()))else
  some (false,()))else
  some (false,()):Option (Bool×Unit)) (·=(true,())):=by
  intro x hx;rw[vM,oBS];dsimp only;rw[oCT,sM,oBS];dsimp only;rw[hs,oBS];dsimp only;rw[oCT,SD y1,oBS];dsimp only;rw[oCT,show((0:Int)==0)=true from rfl,oCT]
  rcases hx with⟨x0,hok',e⟩|x1
  ·rw[x0,e,show((0:Int) != 0)=false from rfl,oCF];have ti:=PB hok hok' hS.rc hB.rc (λv hv=>⟨hS.cd v hv,hS.tc v hv⟩) (λv hv=>⟨hB.cd v hv,hB.tc v hv⟩)
   rcases Bq (R:=R) (R':=R') (T:=T) (T':=T') (a1 hS) (a1 hB) (a2 hS) (a2 hB) (a3 hS) (a3 hB) (a4 hS) (a4 hB)with⟨g,e2⟩|⟨g,e2⟩
   ·rw[e2,oBS];dsimp only;rw[ti.2 g,zf];exact Ok.ret rfl
   ·rw[e2,oBS];dsimp only;rw[Bool.eq_false_iff.2 λk=>g (ti.1 k),zf];exact Ok.ret rfl
  ·rw[x1,show((1:Int) != 0)=true from rfl,oCT,zf];exact Ok.ret rfl
 rcases b2 with⟨g,e⟩|⟨g,e⟩
 ·rw[e,oBS];exact ZZ (sb R' T',0,()) (.inl ⟨rfl,g,rfl⟩)
 ·rw[e,oBS];exact ZZ ([],1,()) (.inr rfl)
theorem law_CanonicalRebuilds{h0:HL den [RI]}{h1:HL den [I64]}{h2:HL den [I64]}{h3:HL den [I64]}{h4:HL den [I64]}(g0:GoodL _ h0)(g1:GoodL _ h1)(g2:GoodL _ h2)(g3:GoodL _ h3)(g4:GoodL _ h4):kU.g (appL _ _ h0 (appL _ _ h1 (appL _ _ h2 (appL _ _ h3 (appL _ _ h4 ())))))=some (true,()):=
 rebuilds_law (TX g0.1).1 (TX g0.1).2 (g64 g1.1) (g64 g2.1) (g64 g3.1) (g64 g4.1)
end Go.Proofs.YtffnecakpdhpcaaGreat
