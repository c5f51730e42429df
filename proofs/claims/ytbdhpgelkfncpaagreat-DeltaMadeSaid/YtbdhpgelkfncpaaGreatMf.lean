/- Part of the proof; no condition. -/
import Derived.Test.YtbdhpgelkfncpaaGreatMe
import Derived.Deep.Slices
set_option linter.unusedVariables false
set_option linter.unusedSimpArgs false
namespace Go.Proofs.YtbdhpgelkfncpaaGreat
open Go.RowKit
def FM:List CT->CT
 | []=>.nat
 | [t]=>t
 |t::u::r=>.pair t (FM (u::r))
def nu:(l:List CT)->HL den l->den (FM l)
 | [],_=>(0:Nat)
 | [_],h=>h.1
 |_::u::r,h=>(h.1,nu (u::r) h.2)
def encL:(l:List CT)->HL den l->List TV
 | [],_=>[]
 |t::r,h=>enc t h.1++encL r h.2
theorem Cg:∀(l:List CT)(h:HL den l),enc (FM l) (nu l h)=encL l h
 | [],_=>rfl
 | [_],h=>(List.append_nil _).symm
 |_::u::r,h=>by
  show enc _ h.1++enc (FM (u::r)) (nu (u::r) h.2)=_;rw[Cg (u::r) h.2];rfl
def GX:(c:CT)->den c->Prop
 |.int k,n=>(Lit.int k n).wf=true
 |.str,s=>ByteArray.size s<=maxLen
 |.row _ t,xs=>List.length xs<=maxLen/\∀x∈xs,GX t x
 |.pair a b,x=>GX a x.1/\GX b x.2
 |_,_=>True
def GoodL:(l:List CT)->HL den l->Prop
 | [],_=>True
 |t::r,h=>GX t h.1/\GoodL r h.2
theorem yC:∀(l:List CT)(h:HL den l),GoodL l h->GX (FM l) (nu l h)
 | [],_,_=>trivial
 | [_],_,g=>g.1
 |_::u::r,h,g=>⟨g.1,yC (u::r) h.2 g.2⟩
def appL:(l m:List CT)->HL den l->HL den m->HL den (l++m)
 | [],_,_,k=>k
 |_::r,m,h,k=>(h.1,appL r m h.2 k)
theorem Ch:∀(l m:List CT)(h:HL den l)(k:HL den m),encL (l++m) (appL l m h k)=encL l h++encL m k
 | [],_,_,_=>rfl
 |t::r,m,h,k=>by
  show enc t h.1++encL (r++m) (appL r m h.2 k)=(enc t h.1++encL r h.2)++_;rw[Ch r m h.2 k,List.append_assoc]
theorem B7:∀(l m:List CT)(h:HL den l)(k:HL den m),GoodL l h->GoodL m k->GoodL (l++m) (appL l m h k)
 | [],_,_,_,_,g=>g
 |_::r,m,h,k,g,g'=>⟨g.1,B7 r m h.2 k g.2 g'⟩
def RelL(w:World):List TV->List Value->Prop
 | [],[]=>True
 |t::ts,v::vs=>fI w (λ_=>True) t v/\RelL w ts vs
 |_,_=>False
theorem RelL.app{w:World}:∀{a:List TV}{x:List Value}{b:List TV}{y:List Value},RelL w a x->RelL w b y->RelL w (a++b) (x++y)
 | [],[],_,_,_,h=>h
 |_::a,_::x,_,_,g,h=>⟨g.1,RelL.app (a:=a) (x:=x) g.2 h⟩
 | [],_::_,_,_,g,_=>g.elim
 |_::_,[],_,_,g,_=>g.elim
theorem RelL.len{w:World}:∀{a:List TV}{x:List Value},RelL w a x->a.length=x.length
 | [],[],_=>rfl
 |_::a,_::x,g=>by rw[oLC,oLC,RelL.len (a:=a) (x:=x) g.2]
 | [],_::_,g=>g.elim
 |_::_,[],g=>g.elim
theorem RelL.get{w:World}:∀{a:List TV}{x:List Value},RelL w a x->∀j (h:j<a.length)(h':j<x.length),fI w (λ_=>True) a[j] x[j]
 |_::_,_::_,g,0,_,_=>g.1
 |_::a,_::x,g,j+1,h,h'=>RelL.get (a:=a) (x:=x) g.2 j (by simpa using h) (by simpa using h')
 | [],_,_,_,h,_=>by simp at h
 |_::_,[],g,_,_,_=>g.elim
def LM(P:Program)(g:TypeId->Option (List CT)):Nat->List Field->Option (List CT)
 |_,[]=>some []
 |off,f::fs=>match g f.type with
  |some l=>if f.offset=off/\l.length=P.cellsOf f.type then(LM P g (off+l.length) fs).map (l++·)else none
  |none=>none
def rQ(P:Program):Nat->TypeId->Option (List CT)
 |0,_=>none
 |n+1,t=>match P.underlying t with
  |some .bool=>some [.bool]
  |some (.int k)=>some [.int k]
  |some .string=>some [.str]
  |some (.slice e)=>match rQ P n e with
   |some l=>if l.length=P.cellsOf e then some [.row false (FM l)]else none
   |none=>none
  |some (.struct fs)=>match LM P (rQ P n) 0 fs.toList with
   |some l=>if l.length=P.cellsOf t then some l else none
   |none=>none
  |_=>none
section
variable {H:Type} {ec:TypeId×Value->H} {P:Program} {w:World} {base:Nat} {spare:Nat->Bool} {held:Bool}
theorem F6{g:TypeId->Option (List CT)}{m:Nat}{cs:List Value}
 (ih:∀t L,g t=some L->∀cs x,DataW.trod ec P w base spare held m t cs=some x->∃h:HL den L,GoodL L h/\RelL w (encL L h) cs):
 ∀(fs:List Field)(off:Nat)(L:List CT),LM P g off fs=some L->(∀f∈fs,∃x,DataW.trod ec P w base spare held m f.type ((cs.drop f.offset).take (P.cellsOf f.type))=some x)->
  ∃h:HL den L,GoodL L h/\RelL w (encL L h) ((cs.drop off).take L.length):=by
 intro fs
 induction fs with
 |nil=>
  intro off L hL _
  injection hL with hL
  subst hL;exact⟨(),trivial,trivial⟩
 |cons f fs PY=>
  intro off L hL hx;unfold LM at hL;split at hL
  ·rename_i l hg;split at hL
   ·rename_i ho;obtain⟨rfl,hlen⟩:=ho
    cases hr:LM P g (f.offset+l.length) fs with
    |none=>simp_all
    |some L2=>
     rw[hr]at hL
     injection hL with hL
     subst hL;obtain⟨x,h1⟩:=hx f List.mem_cons_self;obtain⟨h,g1,r1⟩:=ih _ _ hg _ _ h1;have ⟨k,g2,r2⟩:=PY _ _ hr λf' Qh=>hx f' (List.mem_cons_of_mem _ Qh);refine⟨appL l L2 h k,B7 _ _ _ _ g1 g2,?_⟩;rw[Ch,List.length_append,List.take_add,List.drop_drop];rw[hlen];rw[hlen]at r2;exact r1.app r2
   ·cases hL
  ·cases hL
theorem Mb:∀(n:Nat)(t:TypeId)(L:List CT),rQ P n t=some L->∀(XA:Nat)(cs:List Value)(x:DataW H×List MemPlace),DataW.trod ec P w base spare held XA t cs=some x ->
 ∃h:HL den L,GoodL L h/\RelL w (encL L h) cs:=by
 intro n
 induction n with
 |zero=>intro t L h;cases h
 |succ n ih=>
  intro t L hL XA cs x hx;unfold rQ at hL;split at hL
  ·rename_i ht
   injection hL with hL
   subst hL;obtain⟨b,rfl,_⟩:=DataW.trod_bool ht hx;exact⟨(b,()),⟨trivial,trivial⟩,.v rfl,trivial⟩
  ·rename_i k ht
   injection hL with hL
   subst hL;obtain⟨z,rfl,_,hw⟩:=DataW.trod_int ht hx;exact⟨(z,()),⟨hw,trivial⟩,.v rfl,trivial⟩
  ·rename_i ht
   injection hL with hL
   subst hL;obtain⟨s,rfl,_,hs⟩:=DataW.trod_string ht hx;exact⟨(s,()),⟨hs,trivial⟩,.v rfl,trivial⟩
  ·rename_i e ht;split at hL
   ·rename_i l hl;split at hL
    ·rename_i hsz
     injection hL with hL
     subst hL
     rcases DataW.trod_slice ht hx with⟨rfl,_⟩|⟨a,len,cap,elems,rest,m,_,rfl,_,_,YJ,hmax,YP,Z3,_,_⟩
     ·exact⟨([],()),⟨⟨Nat.zero_le _,λx hx=>by cases hx⟩,trivial⟩,.sl (c:=[]) 1 (λ_ _=>undef) (λi h=>by simp at h) (Nat.le_refl _) (Nat.zero_le _) (λ_=>rfl) (λi j h=>by simp at h) (λi j h=>by simp at h),trivial⟩
     ·have Om:∀i:Fin len,∃p:HL den l×List Value,GoodL l p.1/\RelL w (encL l p.1) p.2/\w.cells? base (a.add (i.1*P.cellsOf e)) (P.cellsOf e)=some p.2:=by
       intro i;have h1:=Z3 i.1 i.2;rw[oGE (by omega)]at h1;obtain⟨U5,h2,h3⟩:=Option.bind_eq_some_iff.1 h1;obtain⟨h,g,r⟩:=ih _ _ hl _ _ _ h3;exact⟨(h,U5),g,r,h2⟩
      obtain⟨f,hf⟩:=Classical.axiomOfChoice Om
      have Ol:∀i,(encL l (f i).1).length=l.length:=λi=>by
       rw[(hf i).2.1.len,(World.cells?_some (hf i).2.2).2.1,hsz]
      have ZQ:fI w (λ_=>True) (.sl ((List.ofFn λi:Fin len=>nu l (f i).1).map (enc (FM l)))) (.slice (some a) ((List.ofFn λi:Fin len=>nu l (f i).1).map (enc (FM l))).length cap):=by
       have el:((List.ofFn λi:Fin len=>nu l (f i).1).map (enc (FM l))).length=len:=by simp
       have eg:∀i (hi:i<((List.ofFn λi:Fin len=>nu l (f i).1).map (enc (FM l))).length),((List.ofFn λi:Fin len=>nu l (f i).1).map (enc (FM l)))[i]=encL l (f ⟨i,by omega⟩).1:=by
        intro i hi;simp[Cg]
       refine .sl l.length (λi j=>if h:i<len then(f ⟨i,h⟩).2.getD j undef else undef) (λi hi=>by rw[eg i hi,Ol]) (by rw[el];exact YJ) hmax (λh=>by cases h) (λi j hi hj=>?_) (λi j hi hj=>?_)
       ·rw[el]at hi
        have cell:∀i' (ZM:i'<len) j',j'<l.length->w.cell? ((a.add (i'*l.length)).add j')=some ((f ⟨i',ZM⟩).2.getD j' undef):=by
         intro i' ZM j' ZT;have h1:=World.cells?_some (hf ⟨i',ZM⟩).2.2;have h2:=h1.2.2 j' (by omega);rw[hsz];rw[h2]
         have:j'<(f ⟨i',ZM⟩).2.length:=by rw[h1.2.1];omega
         simp[this]
        have h0:=World.cell?_spot (cell 0 (by omega) 0 (by omega));obtain⟨b,o,spot⟩:=a
        have R2:spot=none:=by simpa[Addr.add]using h0
        subst R2;refine⟨b,o,rfl,trivial,?_⟩;have h2:=cell i hi j hj;rw[Go.WideShapes.add_plain,Go.WideShapes.add_plain]at h2;rw[dif_pos hi,<- h2,Nat.add_assoc]
       ·rw[el]at hi;have hr:=(hf ⟨i,hi⟩).2.1
        have XD:j<(encL l (f ⟨i,hi⟩).1).length:=by rw[eg i (by omega)]at hj;exact hj
        have SK:j<(f ⟨i,hi⟩).2.length:=by rw[<- hr.len];exact XD
        have h3:=hr.get j XD SK
        simp_all
      rw[List.length_map,List.length_ofFn]at ZQ;refine⟨(List.ofFn λi:Fin len=>nu l (f i).1,()),⟨⟨by rw[List.length_ofFn];omega,λx hx=>?_⟩,trivial⟩,ZQ,trivial⟩;obtain⟨i,rfl⟩:=List.mem_ofFn.1 hx;exact yC _ _ (hf i).1
    ·cases hL
   ·cases hL
  ·rename_i fs ht;split at hL
   ·rename_i l hl;split at hL
    ·rename_i hsz
     injection hL with hL
     subst hL;obtain⟨xs,m,_,_,hlen,Qw,hf⟩:=DataW.trod_struct ht hx
     obtain⟨h,g,r⟩:=F6 (cs:=cs) (m:=m) (λt L hL cs x hx=>ih t L hL m cs x hx) fs.toList 0 l hl (by
      intro f hfm;obtain⟨i,hi,rfl⟩:=List.mem_iff_getElem.1 hfm
      have hi2:i<fs.size:=by simpa using hi
      have h1:=hf i fs[i] (by simp[hi2]);rw[oGE (by omega)]at h1
      exact⟨_,by simpa using h1⟩)
     refine⟨h,g,?_⟩;rw[List.drop_zero,hsz,<- hlen,List.take_length]at r;exact r
    ·cases hL
   ·cases hL
  ·cases hL
theorem intake_arg(n:Nat){t:TypeId}{L:List CT}{v:Value}{d:DataW H}{p:List MemPlace}(hL:rQ P n t=some L)(h:DataW.Trod ec P w base spare held t v d p):
 ∃h:HL den L,GoodL L h/\RelL w (encL L h) v.cells.toList:=by
 have ⟨XA,hf⟩:=h;exact Mb n t L hL XA _ _ hf
end
theorem plain_one{w:World}{t:TV}{v:Value}(r:RelL w [t] [v]):Bp w t v:=r.1.plain
theorem H3{C:CC}{T:TT'}(h:shp C T)(hT:SmT T):StK C T:=by
 have h1:=h.1;have h2:=h.2.1;refine⟨show C.length<=_ by omega,λc hc=>?_,show T.length<=_ by omega,hT⟩;have hok:=of_decide_eq_true (h.2.2 c hc);unfold Sm;omega
theorem MX{C:CC}{T:TT'}(h:Bs C T){l:List Int}(hl:l.length<=400){k:Int}(hk:0<=k):
 ∃(D:CC)(U:TT')(k':Int),kL C T l k=some (D,U,l,k',())/\StK D U/\0<=k':=by
 have c1:=h.1;have c4:=h.2.1.1;have t4:=h.2.1.2.1;have hS:=H3 h.2.1 h.2.2;unfold kL;rw[JC h.2.1 h.2.2,oBS];dsimp only;obtain⟨x,k1,e,xa,xb,h1⟩:=eH (n:=4) (by omega) (by omega) hl hk;rw[e,oBS];dsimp only;by_cases x0:x=0
 ·rw[beq_iff_eq.2 x0,oCT,bx (by omega) (by simp) (by omega) (by rw[List.length_singleton];omega),oCT];refine⟨C++[[]],T,k1,rfl,⟨?_,λc hc=>?_,hS.2.2.1,hS.2.2.2⟩,h1⟩
  ·show(C++[[]]).length<=_;rw[List.length_append,List.length_singleton];omega
  ·rcases List.mem_append.1 hc with hc|hc
   ·exact hS.2.1 c hc
   ·rw[List.mem_singleton.1 hc];simp[Sm]
 rw[oBF x0,oCF];by_cases x1:x=1
 ·have hok:1<=(C[0].length:Int)/\(C[0].length:Int)<=32:=of_decide_eq_true (h.2.1.2.2 _ (List.getElem_mem (by omega)));rw[beq_iff_eq.2 x1,oCT];simp only[bz (show 0<C.length by omega),oBS];obtain⟨y,k2,e,ya,yb,h2⟩:=eH (n:=40) (by omega) (by omega) hl h1;rw[e];obtain⟨n,rfl⟩:∃n:Nat,y=n:=⟨y.toNat,by omega⟩;simp only[oBS,bt];rw[bx (by omega) (by rw[List.length_replicate];omega) (by omega) (by rw[List.length_replicate];omega),oCT];refine⟨_,T,k2,rfl,⟨?_,λc hc=>?_,hS.2.2.1,hS.2.2.2⟩,h2⟩
  ·show(C.modify 0 _).length<=_;rw[oLM];omega
  ·obtain⟨i,hi,rfl⟩:=List.mem_iff_getElem.1 hc;rw[List.getElem_modify];split
   ·show(C[0]++List.replicate n _).length<=_;rw[List.length_append,List.length_replicate];omega
   ·exact hS.2.1 _ (List.getElem_mem _)
 rw[oBF x1,oCF];by_cases x2:x=2
 ·rw[beq_iff_eq.2 x2,oCT,bx (by omega) (by simp) (by omega) (by rw[List.length_singleton];omega),oCT];refine⟨C,T++[(0,(0,(0,(0,(0,(0,(0,[])))))))],k1,rfl,⟨hS.1,hS.2.1,?_,λt ht=>?_⟩,h1⟩
  ·show(T++[_]).length<=_;rw[List.length_append,List.length_singleton];omega
  ·rcases List.mem_append.1 ht with ht|ht
   ·exact h.2.2 t ht
   ·rw[List.mem_singleton.1 ht];simp[Sm]
 rw[oBF x2,oCF,show fZ 1 C.length C.length=true by unfold fZ;simp;omega,oCT];refine⟨_,T,k1,rfl,⟨?_,λc hc=>?_,hS.2.2.1,hS.2.2.2⟩,h1⟩
 ·show((C.drop 1).take _).length<=_;rw[oLT,List.length_drop];omega
 ·exact hS.2.1 c (List.mem_of_mem_drop (List.mem_of_mem_take (show c∈(C.drop 1).take _ from hc)))
theorem qn{C:CC}{T:TT'}{D:CC}{U:TT'}{E:CC}{V:TT'}(h1:StK C T)(h2:StK D U)(h3:StK E V){xs ys:List PG}(hx:xs.length<=2000000)(hy:ys.length<=2000000)(px:∀p∈xs,PgW p)(py:∀p∈ys,PgW p)(f t g u:Int){l:List Int}(hl:l.length<=400){k:Int}(hk:0<=k):
 ((bq 2 l k).bind λ(x41,x42,x43,_)=>
 let x44:Int:=(w64 (f+x41));
 (bS C T D U 3 5 x44 f t xs g u ys).bind λ(x45,_)=>
 bif x45 then((bS D U E V 5 9 5 g u ys f t xs).bind λ(x46,_)=>
 bif x46 then((bS C T D U 0 0 3 f t xs g u ys).bind λ(x47,_)=>
 bif x47 then((eA).bind λ(x48,_)=>
 some (x48,()))else
 some (false,()))else
 some (false,()))else
 some (false,()))=some (true,()):=by
 obtain⟨x,k',e,_,_,_⟩:=eH (n:=2) (by omega) (by omega) hl hk;rw[e,oBS];dsimp only;rw[Bn h1 h2 hx hy px py,oBS];dsimp only;rw[oCT,Bn h2 h3 hy hx py px,oBS];dsimp only;rw[oCT,Bn h1 h2 hx hy px py,oBS];dsimp only;rw[oCT,GL];rfl
theorem Il{D:CC}{U:TT'}(h:shp D U){p:PID}(hp:p∈pgs (szs D) U.length):(pg D U p).2.2.1.length<=8:=by
 rcases l7.1 hp with⟨i,j,hi,hj,rfl⟩|⟨t,ht,rfl⟩
 ·rw[eP]at hi;rw[xK hi];dsimp only;rw[oLT];omega
 ·rw[l6 ht];exact Nat.zero_le _
theorem L3(l:List Int)(b:Int):gW l b=some (true,()):=by
 unfold gW;rw[M6,oBS];dsimp only;by_cases hl:l.length<=400
 rotate_left
 ·rw[oDF hl];simp only[Bool.not_false,oCT];rw[GL];rfl
 rw[oDT hl];simp only[oNT,oCF];obtain⟨C,T,k1,e,hd,h1⟩:=JW hl (Int.le_refl 0);rw[e,oBS];dsimp only;obtain⟨x,k2,e,xa,xb,h2⟩:=eH (n:=4) (by omega) (by omega) hl h1;rw[e,oBS];dsimp only;obtain⟨D,U,k3,e,hD,h3⟩:=Jt hd xa (by omega) hl h2;rw[e,oBS];dsimp only;obtain⟨y,k4,e,ya,yb,h4⟩:=eH (n:=4) (by omega) (by omega) hl h3;rw[e,oBS];dsimp only;obtain⟨E,V,k5,e,hE0,h5⟩:=Jt (Dt hd hD) ya (by omega) hl h4;have hE:=Ds hD hE0;have hs:=FW hd;rw[e,oBS];dsimp only;have a12:=Cw hd hs hD;have a23:=Cw hd hD hE;have sC:=H3 hd.2.1 hd.2.2;have sD:=H3 (mR hD hd.2.1) hD.2.2;have sE:=H3 (mR hE hd.2.1) hE.2.2
 have mk:∀{C:CC}{T:TT'}{D:CC}{U:TT'}(h:uz C T D U)(hT:SmT T)(hU:SmT U)(f t:Int),0<=f->t<=200->f<=t->∃L:List PG,dE C T D U f t=some (f,t,L,0,())/\L.length<=20/\(∀p∈L,PgW p)/\∀p∈L,p.2.2.1.length<=8:=by
  intro C T D U h hT hU f t g1 g2 g3;have c4:=h.1.1;have d4:=h.2.1.1;obtain⟨f',t',L,e,m1,m2,m3,m4,m5⟩:=xR (C:=C) (T:=T) (D:=D) (U:=U) (show C.length<=_ by omega) (show D.length<=_ by omega) hT hU f t;rw[Jv h hT hU g1 g2 g3]at m1
  injection m1 with m1
  injection m1 with e1 m1
  injection m1 with e2 m1
  injection m1 with e3 m1
  injection m1 with e4 m1
  subst e1 e2 e4;refine⟨L,m2,m3,λp hp=>⟨m4 p hp,LV (qo h.1) h.1.2.1 (m5 p hp).2⟩,λp hp=>?_⟩;rw[<- e3]at hp;obtain⟨q,hq,rfl⟩:=List.mem_map.1 hp;have hq:=(vF.1 hq).1;rw[h.2.2.1,h.2.2.2]at hq;exact Il h.2.1 hq
 obtain⟨X,e,X1,X2,X3⟩:=mk a12 hd.2.2 hD.2.2 3 5 (by omega) (by omega) (by omega);rw[e,oBS];dsimp only;obtain⟨Y,e,Y1,Y2,Y3⟩:=mk a23 hD.2.2 hE.2.2 5 9 (by omega) (by omega) (by omega);rw[e,oBS];dsimp only;obtain⟨m,e,ma,mb⟩:=L0 (x:=b) (n:=8) (by omega) (by omega);rw[e,oBS];delta bn;dsimp only;by_cases m0:m=0
 ·rw[beq_iff_eq.2 m0,oCT];obtain⟨z,k6,e,_,_,h6⟩:=eH (n:=3) (by omega) (by omega) hl h5;rw[e];exact qn sC sD sE (by omega) (by omega) X2 Y2 _ _ _ _ hl h6
 rw[oBF m0,oCF];by_cases m1:m=1
 ·rw[beq_iff_eq.2 m1,oCT];obtain⟨z,k6,e,_,_,h6⟩:=eH (n:=210) (by omega) (by omega) hl h5;rw[e];exact qn sC sD sE (by omega) (by omega) X2 Y2 _ _ _ _ hl h6
 rw[oBF m1,oCF];by_cases m2:m=2
 ·rw[beq_iff_eq.2 m2,oCT];by_cases hx:(X.length:Int)>0
  rotate_left
  ·rw[oDF hx];exact qn sC sD sE (by omega) (by omega) X2 Y2 _ _ _ _ hl h5
  rw[oDT hx,oCT,bz (show 0<X.length by omega)];simp only[oBS];rw[bx (by omega) (by simp) (by omega) (by simp;omega),oCT];refine qn (xs:=X++[X[0]]) sC sD sE (by rw[List.length_append,List.length_singleton];omega) (by omega) (λp hp=>?_) Y2 _ _ _ _ hl h5;rcases List.mem_append.1 hp with hp|hp
  ·exact X2 p hp
  ·rw[List.mem_singleton.1 hp];exact X2 _ (List.getElem_mem _)
 rw[oBF m2,oCF];by_cases m3:m=3
 ·rw[beq_iff_eq.2 m3,oCT];by_cases hx:(X.length:Int)>0
  rotate_left
  ·rw[oDF hx];exact qn sC sD sE (by omega) (by omega) X2 Y2 _ _ _ _ hl h5
  rw[oDT hx,oCT,bz (show 0<X.length by omega)];simp only[oBS];have x8:=X3 _ (List.getElem_mem (show 0<X.length by omega));rw[bx (by omega) (by simp) (by omega) (by simp;omega),oCT];dsimp only;obtain⟨Z,hZ⟩:∃Z:List PG,Z=List.modify X 0 λe=>(e.1,(e.2.1,(List.append X[0].2.2.1 [(0,(0,(0,0)))],e.2.2.2))):=⟨_,rfl⟩;rw[<- hZ];refine qn (xs:=Z) sC sD sE (by rw[hZ,oLM];omega) (by omega) (λp hp=>?_) Y2 _ _ _ _ hl h5;rw[hZ]at hp;obtain⟨i,hi,rfl⟩:=List.mem_iff_getElem.1 hp;rw[List.getElem_modify];rw[oLM]at hi;have UN:=X2 _ (List.getElem_mem hi);split
  ·refine⟨⟨?_,UN.1.2⟩,UN.2⟩;show(X[0].2.2.1++[_]).length<=_;rw[List.length_append,List.length_singleton];omega
  ·exact UN
 rw[oBF m3,oCF];by_cases m4:m=4
 ·rw[beq_iff_eq.2 m4,oCT];obtain⟨F,W,k6,e,sF,h6⟩:=MX hd hl h5;rw[e];exact qn sF sD sE (by omega) (by omega) X2 Y2 _ _ _ _ hl h6
 rw[oBF m4,oCF];exact qn sC sD sE (by omega) (by omega) X2 Y2 _ _ _ _ hl h5
theorem law_DeltaMade{h0:HL den [RI]}{h1:HL den [I64]}(g0:GoodL _ h0)(g1:GoodL _ h1):kD.g (appL [RI] _ h0 (appL [I64] _ h1 ()))=some (true,()):=L3 h0.1 h1.1
end Go.Proofs.YtbdhpgelkfncpaaGreat
