/- Part of the proof; no condition. -/
import Derived.Test.YtakfoejcjdcgbaaSd
import Derived.Deep.Slices
set_option linter.unusedVariables false
set_option linter.unusedSimpArgs false
namespace Go.Proofs.Ytakfoejcjdcgbaa
open Go.RowKit
abbrev CC:=List (List DCn)
abbrev TT':=List DTs
def szs(C:CC):List Int:=C.map λc=>(c.length:Int)
theorem fj(C:CC):(szs C).length=C.length:=List.length_map _
theorem mN{α β:Type}{f:α->β}{l:List α}{i:Nat}(h:i<l.length):(l.take i).map f++[f l[i]]=(l.take (i+1)).map f:=by
 rw[<- lb h,List.map_append];rfl
theorem tX{C:CC}{T:TT'}(h:Sm C):dn C T=some (szs C,()):=by
 unfold dn;delta bu;dsimp only;have h0:=h
 have step:∀i,i<C.length->cq (C,(C.length:Int),(i:Int),C,T,szs (C.take i),())=some (.inl (C,(C.length:Int),((i+1:Nat):Int),C,T,szs (C.take (i+1)),())):=by
  intro i hi;unfold cq;delta bu;dsimp only;rw[oDT (show(i:Int)<C.length by omega),oCT,bV];simp only[oBS,cy hi];rw[cn (by rw[fj,oLT];omega) (by simp) (by omega) (by rw[fj,oLT,List.length_singleton];omega),oCT,cb (by omega) (by omega)];have:List.append (szs (C.take i)) [((C[i].length:Nat):Int)]=szs (C.take (i+1)):=mN (f:=λc:List DCn=>(c.length:Int)) hi;rw[this];rfl
 have fin:cq (C,(C.length:Int),(C.length:Int),C,T,szs (C.take C.length),())=some (.inr (C,(C.length:Int),(C.length:Int),false,C,T,szs (C.take C.length),())):=by
  unfold cq;dsimp only;rw[oDF (show ¬(C.length:Int)<C.length by omega)];rfl
 have:=eS (f:=cq) (λi=>(C,(C.length:Int),(i:Int),C,T,szs (C.take i),())) (sC h) step fin;rw[show bH cq NN (C,(C.length:Int),0,C,T,[],())=_ from this,List.take_length,oBS]
def okZ(z:Int):Bool:=decide (1<=z/\z<=32)
theorem xZ(z:Int):eI z=some (okZ z,()):=by
 unfold eI okZ;by_cases h:z>=1
 ·rw[oDT h,oCT];congr 2;rw[decide_eq_decide];omega
 ·rw[oDF h,oCF,oDF (by omega)]
def shp(C:CC)(T:TT'):Prop:=C.length<=4/\T.length<=4/\∀c∈C,okZ (c.length:Int)=true
instance {C:CC} {T:TT'}:Decidable (shp C T):=inferInstanceAs (Decidable (_/\_/\_))
theorem Cj{α:Type}{p:α->Bool}{l:List α}(h:∀i,(hi:i<l.length)->p l[i]=true):∀x∈l,p x=true:=by
 intro x hx;obtain⟨i,hi,rfl⟩:=List.mem_iff_getElem.1 hx;exact h i hi
theorem xC{C:CC}(h:Sm C):bZ C=some (!decide (∀c∈C,okZ (c.length:Int)=true),()):=by
 unfold bZ cX;delta bu;dsimp only;have h0:=h
 have step:∀i,i<C.length->((∀hi:i<C.length,okZ (C[i].length:Int)=true)/\bq (C,(C.length:Int),(i:Int),())=some (.inl (C,(C.length:Int),((i+1:Nat):Int),())))\/
  (¬(∀hi:i<C.length,okZ (C[i].length:Int)=true)/\bq (C,(C.length:Int),(i:Int),())=some (.inr (.inl ((i:Int),())))):=by
  intro i hi;unfold bq;dsimp only;rw[oDT (show(i:Int)<C.length by omega),oCT,bV]
  have e:ef C[i]=some (!okZ (C[i].length:Int),()):=by
   unfold ef;delta bu;dsimp only;rw[xZ];rfl
  simp only[oBS,cy hi,e];rw[cb (by omega) (by omega)];by_cases q:okZ (C[i].length:Int)=true
  ·exact .inl ⟨λ_=>q,by rw[q];rfl⟩
  ·exact .inr ⟨λg=>q (g hi),by rw[Bool.not_eq_true]at q;rw[q];rfl⟩
 have fin:bq (C,(C.length:Int),(C.length:Int),())=some (.inr (.inr (C,(C.length:Int),(C.length:Int),false,()))):=by
  unfold bq;dsimp only;rw[oDF (show ¬(C.length:Int)<C.length by omega)];rfl
 rcases ov (f:=bq) (λi=>(C,(C.length:Int),(i:Int),())) _ (sC h) step fin with⟨h1,h2⟩|⟨k,hk,_,h1,h2⟩
 ·rw[show bH bq NN (C,(C.length:Int),0,())=_ from h2];rw[oDT (Cj (p:=λc:List DCn=>okZ (c.length:Int)) λi hi=>h1 i hi hi)];rfl
 ·rw[show bH bq NN (C,(C.length:Int),0,())=_ from h2];rw[oDF (λg=>h1 λhi=>g _ (List.getElem_mem hi))];simp only[oBS];rw[oDT (show(k:Int)>=0 by omega)];rfl
theorem qQ{C:CC}{T:TT'}(h:Sm C):dx C T=some (decide (shp C T),()):=by
 unfold dx;delta bu;dsimp only;by_cases h1:C.length<=4
 ·rw[oDT (show(C.length:Int)<=4 by omega),oCT];by_cases h2:T.length<=4
  ·rw[oDT (show(T.length:Int)<=4 by omega),oCT,xC h];simp only[oBS,Bool.not_not];congr 2;rw[decide_eq_decide];exact⟨λg=>⟨h1,h2,g⟩,λg=>g.2.2⟩
  ·rw[oDF (show ¬(T.length:Int)<=4 by omega),oCF,oDF λg=>h2 g.2.1]
 ·rw[oDF (show ¬(C.length:Int)<=4 by omega),oCF,oDF λg=>h1 g.1]
theorem xB{S:List Int}(h:Sm S)(hok:∀z∈S,okZ z=true):cg S=some (false,()):=by
 unfold cg dy;delta bu;dsimp only;have h0:=h
 have step:∀i,i<S.length->bF (S,(S.length:Int),(i:Int),())=some (.inl (S,(S.length:Int),((i+1:Nat):Int),())):=by
  intro i hi;unfold bF;dsimp only;rw[oDT (show(i:Int)<S.length by omega),oCT,bV]
  have e:fA S[i]=some (false,()):=by
   unfold fA;rw[xZ,hok _ (List.getElem_mem hi)];rfl
  simp only[oBS,cy hi,e];rw[cb (by omega) (by omega)];rfl
 have fin:bF (S,(S.length:Int),(S.length:Int),())=some (.inr (.inr (S,(S.length:Int),(S.length:Int),false,()))):=by
  unfold bF;dsimp only;rw[oDF (show ¬(S.length:Int)<S.length by omega)];rfl
 have:=eS (f:=bF) (λi=>(S,(S.length:Int),(i:Int),())) (sC h) step fin;rw[show bH bF NN (S,(S.length:Int),0,())=_ from this];rfl
theorem t6{C:CC}{T:TT'}:((szs C).length<=4/\T.length<=4/\∀z∈szs C,okZ z=true)↔shp C T:=by
 unfold shp szs;rw[List.length_map];simp
def qG(z:Int):Nat:=((z+7)/8).toNat
def qW(S:List Int)(i:Nat):List PID:=(List.range (qG (S.getD i 0))).map λ(j:Nat)=>((i:Int),(j:Int))
def pgs(S:List Int)(n:Nat):List PID:=(List.range S.length).flatMap (qW S)++(List.range n).map λ(t:Nat)=>(-1,(t:Int))
def Szs(S:List Int):Prop:=S.length<=4/\∀z∈S,okZ z=true
theorem CF{S:List Int}(h:Szs S){i:Nat}(hi:i<S.length):1<=S[i]/\S[i]<=32:=of_decide_eq_true (h.2 _ (List.getElem_mem hi))
theorem CV{S:List Int}(h:Szs S){i:Nat}(hi:i<S.length):qG (S.getD i 0)<=4:=by
 have:=CF h hi
 have e:S.getD i 0=S[i]:=by simp[hi]
 rw[e];unfold qG;omega
theorem qZ{S:List Int}(h:Szs S):∀i,i<=S.length->((List.range i).flatMap (qW S)).length<=4*i:=by
 intro i
 induction i with
 |zero=>intro _;simp
 |succ i ih=>
  intro hi;rw[List.range_succ,List.flatMap_append,List.length_append];have h1:=ih (by omega)
  have h2:(qW S i).length=qG (S.getD i 0):=by unfold qW;simp
  have h3:=CV h (i:=i) (by omega);simp only[List.flatMap_cons,List.flatMap_nil,List.append_nil];omega
theorem Ah{S:List Int}(i:Nat):(List.range (i+1)).flatMap (qW S)=(List.range i).flatMap (qW S)++qW S i:=by
 rw[List.range_succ,List.flatMap_append];simp
theorem qp{α:Type}(f:Nat->α)(j:Nat):(List.range (j+1)).map f=(List.range j).map f++[f j]:=by
 rw[List.range_succ,List.map_append];rfl
theorem CM{z:Int}(h:1<=z/\z<=32)(j:Nat):((j:Int)*8<z)↔j<qG z:=by
 unfold qG;omega
theorem E7{S:List Int}{n:Nat}(h:Szs S)(hn:n<=4):fI S n=some (pgs S n,0,()):=by
 unfold fI;delta bu;dsimp only;have h4:=h.1;rw[oDF (show ¬(S.length:Int)>4 by omega),oCF,oDF (show ¬(n:Int)>4 by omega),oCF,oDF (show ¬(n:Int)<0 by omega),oCF];rw[xB (by unfold Sm;omega) h.2,oBS];simp only[oCF]
 have TL:∀i,i<S.length->cB ((n:Int),S,(S.length:Int),(i:Int),(List.range i).flatMap (qW S),())=some (.inl ((n:Int),S,(S.length:Int),((i+1:Nat):Int),(List.range (i+1)).flatMap (qW S),())):=by
  intro i hi;have hz:=CF h hi;have hl:=qZ h i (by omega);have hc:=CV h hi
  have eg:S.getD i 0=S[i]:=by simp[hi]
  unfold cB;dsimp only;rw[oDT (show(i:Int)<S.length by omega),oCT,bV];simp only[oBS,cy hi]
  let A:=(List.range i).flatMap (qW S)
  let st:Nat->_:=λj=>((n:Int),(i:Int),S[i],(j:Int),S,(S.length:Int),(i:Int),A++(List.range j).map (λ(j:Nat)=>(((i:Int),(j:Int)):PID)),())
  have TK:∀j,j<qG S[i]->ck (st j)=some (.inl (st (j+1))):=by
   intro j hj;show ck ((n:Int),(i:Int),S[i],(j:Int),S,(S.length:Int),(i:Int),A++(List.range j).map (λ(j:Nat)=>(((i:Int),(j:Int)):PID)),())=_;unfold ck;dsimp only;rw[eg]at hc;rw[cb (x:=(j:Int)*8) (by omega) (by omega),oDT ((CM hz j).2 hj),oCT];have hA:A.length<=4*i:=hl;rw[cn (by rw[List.length_append,List.length_map,List.length_range];omega) (by simp) (by omega) (by rw[List.length_append,List.length_map,List.length_range,List.length_singleton];omega),oCT,cb (by omega) (by omega)]
   have e:List.append (A++(List.range j).map (λ(j:Nat)=>(((i:Int),(j:Int)):PID))) [((i:Int),(j:Int))]=A++(List.range (j+1)).map (λ(j:Nat)=>(((i:Int),(j:Int)):PID)):=by
    rw[qp,<- List.append_assoc];rfl
   rw[e];rfl
  have P3:ck (st (qG S[i]))=some (.inr ((n:Int),(i:Int),S[i],(qG S[i]:Int),S,(S.length:Int),(i:Int),false,A++(List.range (qG S[i])).map (λ(j:Nat)=>(((i:Int),(j:Int)):PID)),())):=by
   show ck ((n:Int),(i:Int),S[i],(qG S[i]:Int),S,(S.length:Int),(i:Int),A++(List.range (qG S[i])).map (λ(j:Nat)=>(((i:Int),(j:Int)):PID)),())=_;unfold ck;dsimp only;rw[eg]at hc;rw[cb (x:=(qG S[i]:Int)*8) (by omega) (by omega),oDF (λg=>by have:=(CM hz _).1 g;omega)];rfl
  have hI:=eS (f:=ck) st (n:=qG S[i]) (N:=NN) (by rw[eg]at hc;unfold NN;omega) TK P3
  have e0:st 0=((n:Int),(i:Int),S[i],0,S,(S.length:Int),(i:Int),(List.range i).flatMap (qW S),()):=by
   show((n:Int),(i:Int),S[i],(0:Int),S,(S.length:Int),(i:Int),A++[],())=_;rw[List.append_nil]
  rw[<- e0,hI];simp only[oBS];rw[cb (by omega) (by omega),Ah]
  have er:(List.range (qG S[i])).map (λ(j:Nat)=>(((i:Int),(j:Int)):PID))=qW S i:=by unfold qW;rw[eg]
  rw[er];rfl
 have P4:cB ((n:Int),S,(S.length:Int),(S.length:Int),(List.range S.length).flatMap (qW S),())=some (.inr ((n:Int),S,(S.length:Int),(S.length:Int),false,(List.range S.length).flatMap (qW S),())):=by
  unfold cB;dsimp only;rw[oDF (show ¬(S.length:Int)<S.length by omega)];rfl
 have hO:=eS (f:=cB) (λi=>((n:Int),S,(S.length:Int),(i:Int),(List.range i).flatMap (qW S),())) (n:=S.length) (N:=NN) (by unfold NN;omega) TL P4;rw[show bH cB NN ((n:Int),S,(S.length:Int),0,[],())=_ from hO];simp only[oBS];have hl:=qZ h S.length (Nat.le_refl _)
 let B:=(List.range S.length).flatMap (qW S)
 have hB:B.length<=4*S.length:=hl
 let st:Nat->_:=λt=>((n:Int),(t:Int),B++(List.range t).map (λ(t:Nat)=>((-1,(t:Int)):PID)),())
 have stepT:∀t,t<n->cj (st t)=some (.inl (st (t+1))):=by
  intro t ht;show cj ((n:Int),(t:Int),B++(List.range t).map (λ(t:Nat)=>((-1,(t:Int)):PID)),())=_;unfold cj;dsimp only;rw[oDT (show(t:Int)<n by omega),oCT];rw[cn (by rw[List.length_append,List.length_map,List.length_range];omega) (by simp) (by omega) (by rw[List.length_append,List.length_map,List.length_range,List.length_singleton];omega),oCT,cb (by omega) (by omega)]
  have e:List.append (B++(List.range t).map (λ(t:Nat)=>((-1,(t:Int)):PID))) [(-1,(t:Int))]=B++(List.range (t+1)).map (λ(t:Nat)=>((-1,(t:Int)):PID)):=by
   rw[qp,<- List.append_assoc];rfl
  rw[e];rfl
 have P5:cj (st n)=some (.inr ((n:Int),(n:Int),false,B++(List.range n).map (λ(t:Nat)=>((-1,(t:Int)):PID)),())):=by
  show cj ((n:Int),(n:Int),B++(List.range n).map (λ(t:Nat)=>((-1,(t:Int)):PID)),())=_;unfold cj;dsimp only;rw[oDF (show ¬(n:Int)<n by omega)];rfl
 have hT:=eS (f:=cj) st (n:=n) (N:=NN) (by unfold NN;omega) stepT P5
 have e0:st 0=((n:Int),0,B,()):=by
  show((n:Int),(0:Int),B++[],())=_;rw[List.append_nil]
 rw[e0]at hT;rw[hT];rfl
abbrev zTs:DTs:=(0,0,0,0,0,0,0,[])
def pg(C:CC)(T:TT')(p:PID):PG:=if p.1=-1 then(p.1,p.2,[],T.getD p.2.toNat zTs)else(p.1,p.2,((C.getD p.1.toNat []).drop (8*p.2.toNat)).take 8,zTs)
def SmT(T:TT'):Prop:=∀t∈T,Sm t.2.2.2.2.2.2.2
theorem DS{S:List Int}{i:Nat}{p:PID}:p∈qW S i↔∃j:Nat,j<qG (S.getD i 0)/\p=((i:Int),(j:Int)):=by
 unfold qW;simp only[List.mem_map,List.mem_range];exact⟨λ⟨j,h,e⟩=>⟨j,h,e.symm⟩,λ⟨j,h,e⟩=>⟨j,h,e.symm⟩⟩
theorem jm{S:List Int}{n:Nat}{p:PID}:p∈pgs S n↔(∃i j:Nat,i<S.length/\j<qG (S.getD i 0)/\p=((i:Int),(j:Int)))\/∃t:Nat,t<n/\p=(-1,(t:Int)):=by
 unfold pgs;simp only[List.mem_append,List.mem_flatMap,List.mem_range,DS,List.mem_map];constructor
 ·rintro(⟨i,hi,j,hj,e⟩|⟨t,ht,e⟩)
  ·exact .inl ⟨i,j,hi,hj,e⟩
  ·exact .inr ⟨t,ht,e.symm⟩
 ·rintro(⟨i,j,hi,hj,e⟩|⟨t,ht,e⟩)
  ·exact .inl ⟨i,hi,j,hj,e⟩
  ·exact .inr ⟨t,ht,e.symm⟩
theorem uk{S:List Int}{n:Nat}(h:Szs S)(hn:n<=4):(pgs S n).length<=20:=by
 have h1:=qZ h S.length (Nat.le_refl _);have h2:=h.1;unfold pgs;rw[List.length_append,List.length_map,List.length_range];omega
theorem vw{C:CC}{T:TT'}(h:shp C T):Szs (szs C):=⟨by rw[fj];exact h.1,(t6.2 h).2.2⟩
theorem rR{a:List DCn}(h:Sm a):b8 a=some (a,()):=by
 unfold b8;rw[cn (by omega) h (by omega) (by have:=h;omega),oCT];rfl
theorem iK{C:CC}{i:Nat}(h:i<C.length):(szs C).getD i 0=(C[i].length:Int):=by simp[szs,h]
theorem Cx{l:List DCn}{a:Nat}(h:a<=l.length):xV l a (Nat.sub (Nat.min (a+8) l.length) a)=(l.drop a).take 8:=by
 unfold xV;rcases Nat.le_total (a+8) l.length with h1|h1
 ·rw[show Nat.min (a+8) l.length=a+8 from Nat.min_eq_left h1,show Nat.sub (a+8) a=8 by show a+8-a=8;omega]
 ·rw[show Nat.min (a+8) l.length=l.length from Nat.min_eq_right h1,show Nat.sub l.length a=(l.drop a).length by rw[List.length_drop];rfl,List.take_length,List.take_of_length_le (by rw[List.length_drop];omega)]
theorem zF(a b:Nat):mmR false (a:Int) (b:Int)=(Nat.min a b:Nat):=by
 unfold mmR;simp only[Bool.false_eq_true,if_false];show _=((min a b:Nat):Int);split<;>omega
theorem vI{c:List DCn}{j:Nat}(h:j<qG (c.length:Int)):8*j<c.length:=by
 unfold qG at h;omega
theorem lp{C:CC}{T:TT'}{i j:Nat}(hi:i<C.length):pg C T ((i:Int),(j:Int))=((i:Int),(j:Int),((C[i].drop (8*j)).take 8),zTs):=by
 unfold pg;rw[oIN (by simp)];simp[hi]
theorem eP{C:CC}{T:TT'}{t:Nat}(ht:t<T.length):pg C T (-1,(t:Int))=(-1,(t:Int),[],T[t]):=by
 unfold pg;rw[oIP rfl];simp[ht]
def Fi(x:PG):Int×Int×List DCn×Int×Int×Int×Int×Int×Int×Int×List DCn×Unit:=(x.1,x.2.1,x.2.2.1,x.2.2.2.1,x.2.2.2.2.1,x.2.2.2.2.2.1,x.2.2.2.2.2.2.1,x.2.2.2.2.2.2.2.1,x.2.2.2.2.2.2.2.2.1,x.2.2.2.2.2.2.2.2.2.1,x.2.2.2.2.2.2.2.2.2.2,())
theorem Ff{C:CC}{T:TT'}(h:shp C T)(hT:SmT T){p:PID}(hp:p∈pgs (szs C) T.length):fi C T p.1 p.2=some (Fi (pg C T p)):=by
 unfold fi
 rcases jm.1 hp with⟨i,j,hi,hj,rfl⟩|⟨t,ht,rfl⟩
 ·rw[fj]at hi;rw[iK hi]at hj;have ZW:=vI hj;have hok:=of_decide_eq_true (h.2.2 _ (List.getElem_mem hi));rw[oBF (show((i:Int))≠-1 by omega),oCF,bV];simp only[oBS,cy hi];unfold ew;delta bu;dsimp only;rw[oDF (show ¬(j:Int)<0 by omega),oCF,oDF (show ¬(j:Int)>32 by omega),oCF];simp only[oBS];rw[cb (x:=(j:Int)*8) (by omega) (by omega),oDF (show ¬(j:Int)*8>=(C[i].length:Int) by omega),oCF,cb (x:=(j:Int)*8+8) (by omega) (by omega)];rw[show(j:Int)*8=((8*j:Nat):Int) by omega,show((8*j:Nat):Int)+8=((8*j+8:Nat):Int) by omega,zF,bV,bV];simp only[oBS]
  have ho:jg (8*j) (Nat.min (8*j+8) C[i].length) C[i].length=true:=by
   unfold jg;have h1:Nat.min (8*j+8) C[i].length=min (8*j+8) C[i].length:=rfl;rw[h1];simp only[oBA,oDE];omega
  rw[ho,oCT,Cx (by omega)];simp only[oBS];rw[rR (by unfold Sm;rw[oLT];omega),lp hi];rfl
 ·have hs:Sm (T[t]'ht).2.2.2.2.2.2.2:=hT _ (List.getElem_mem ht);rw[show((-1:Int)==-1)=true from rfl,oCT,bV];simp only[oBS,cy ht];unfold eK;rw[rR hs,eP ht];rfl
theorem Fz{C:CC}{T:TT'}(h:shp C T)(hT:SmT T):gm C T=some ((pgs (szs C) T.length).map (pg C T),0,()):=by
 unfold gm;have h4:=h.1
 have hS:Sm C:=by unfold Sm;omega
 rw[qQ hS,oBS];dsimp only;rw[oDT h];simp only[oNT,oCF];rw[tX hS,oBS];delta bu;dsimp only;rw[E7 (vw h) h.2.1,oBS];dsimp only;have hlen:=uk (vw h) h.2.1;have hg:∀p∈pgs (szs C) T.length,fi C T p.1 p.2=some (Fi (pg C T p)):=λp hp=>Ff h hT hp;generalize pgs (szs C) T.length=ps at hlen hg⊢
 have step:∀i,i<ps.length->cN ((ps.length:Int),(i:Int),C,T,ps,(ps.take i).map (pg C T),())=some (.inl ((ps.length:Int),((i+1:Nat):Int),C,T,ps,(ps.take (i+1)).map (pg C T),())):=by
  intro i hi;unfold cN;dsimp only;rw[oDT (show(i:Int)<ps.length by omega),oCT,bV];simp only[oBS,cy hi,hg _ (List.getElem_mem hi)];rw[cn (by rw[List.length_map,oLT];omega) (by simp) (by omega) (by rw[List.length_map,oLT,List.length_singleton];omega),oCT,cb (by omega) (by omega),<- mN hi];rfl
 have fin:cN ((ps.length:Int),(ps.length:Int),C,T,ps,(ps.take ps.length).map (pg C T),())=some (.inr ((ps.length:Int),(ps.length:Int),false,C,T,ps,(ps.take ps.length).map (pg C T),())):=by
  unfold cN;dsimp only;rw[oDF (show ¬(ps.length:Int)<ps.length by omega)];rfl
 have:=eS (f:=cN) (λi=>((ps.length:Int),(i:Int),C,T,ps,(ps.take i).map (pg C T),())) (n:=ps.length) (N:=NN) (by unfold NN;omega) step fin;rw[show bH cN NN ((ps.length:Int),0,C,T,ps,[],())=_ from this,List.take_length];rfl
def FA(C:CC)(T:TT')(D:CC)(U:TT'):Prop:=shp C T/\shp D U/\szs C=szs D/\T.length=U.length
def dif(C:CC)(T:TT')(D:CC)(U:TT'):List PID:=(pgs (szs C) T.length).filter λp=>!decide (pg C T p=pg D U p)
theorem tT{α:Type}{q:α->Bool}{l:List α}{i:Nat}(h:i<l.length):(l.take (i+1)).filter q=(l.take i).filter q++bif q l[i]then[l[i]]else[]:=by
 rw[<- lb h,List.filter_append];congr 1
theorem FW{C:CC}{T:TT'}(p:PID):((pg C T p).1,(pg C T p).2.1)=p:=by
 unfold pg;split<;>rfl
theorem FT{C:CC}{T:TT'}(h:shp C T)(hT:SmT T){p:PID}(hp:p∈pgs (szs C) T.length):Sm (pg C T p).2.2.1/\Sm (pg C T p).2.2.2.2.2.2.2.2.2.2:=by
 rcases jm.1 hp with⟨i,j,hi,hj,rfl⟩|⟨t,ht,rfl⟩
 ·rw[fj]at hi;rw[lp hi];exact⟨by unfold Sm;rw[oLT];omega,by unfold Sm;simp⟩
 ·rw[eP ht];exact⟨by unfold Sm;simp,hT _ (List.getElem_mem ht)⟩
theorem Ea{C:CC}{T:TT'}{D:CC}{U:TT'}(h:shp C T):(dif C T D U).length<=20:=Nat.le_trans (List.length_filter_le _ _) (uk (vw h) h.2.1)
theorem AD{C:CC}{T:TT'}{D:CC}{U:TT'}(h:FA C T D U)(hT:SmT T)(hU:SmT U):eJ C T D U=some (dif C T D U,0,()):=by
 unfold eJ;obtain⟨h1,h2,h3,h4⟩:=h;have k1:=h1.1;have k2:=h2.1
 have hC:Sm C:=by unfold Sm;omega
 have hD:Sm D:=by unfold Sm;omega
 rw[Fz h1 hT,oBS];dsimp only;rw[Fz h2 hU,oBS];dsimp only;simp only[bne_self_eq_false,oCF];rw[tX hC,oBS];dsimp only;rw[tX hD,oBS];dsimp only;rw[Fl (by unfold Sm;rw[fj];omega),oBS,oDT h3];delta bu;simp only[oNT,oCF,oBS];rw[qu h4,oCF,<- h3,<- h4];unfold dif;have hlen:=uk (vw h1) h1.2.1;have hm:∀p∈pgs (szs C) T.length,Sm (pg C T p).2.2.1/\Sm (pg C T p).2.2.2.2.2.2.2.2.2.2:=λp hp=>FT h1 hT hp;generalize pgs (szs C) T.length=ps at hlen hm⊢;rw[List.length_map]
 have step:∀i,i<ps.length->b6 ((ps.length:Int),(i:Int),ps.map (pg C T),ps.map (pg D U),(ps.take i).filter (λp=>!decide (pg C T p=pg D U p)),())=
  some (.inl ((ps.length:Int),((i+1:Nat):Int),ps.map (pg C T),ps.map (pg D U),(ps.take (i+1)).filter (λp=>!decide (pg C T p=pg D U p)),())):=by
  intro i hi
  have Uu:i<(ps.map (pg C T)).length:=by rw[List.length_map];exact hi
  have QN:i<(ps.map (pg D U)).length:=by rw[List.length_map];exact hi
  obtain⟨m1,m2⟩:=hm _ (List.getElem_mem hi);unfold b6;dsimp only;rw[oDT (show(i:Int)<ps.length by omega),oCT,bV];simp only[oBS,cy Uu,cy QN,List.getElem_map];rw[D8 m1 m2];simp only[oBS];rw[tT hi];by_cases e:pg C T ps[i]=pg D U ps[i]
  ·rw[oDT e];simp only[oNT,oCF,oBS,List.append_nil];rw[cb (by omega) (by omega)];rfl
  ·rw[oDF e];simp only[Bool.not_false,oCT,oBS];have hf:=List.length_filter_le (λp=>!decide (pg C T p=pg D U p)) (ps.take i);rw[oLT]at hf;rw[cn (Nat.le_trans hf (by omega)) (by simp) (by omega) (Nat.le_trans (Nat.add_le_add_right hf _) (by rw[List.length_singleton];omega)),oCT,FW];simp only[oBS];rw[cb (by omega) (by omega)];rfl
 have fin:b6 ((ps.length:Int),(ps.length:Int),ps.map (pg C T),ps.map (pg D U),(ps.take ps.length).filter (λp=>!decide (pg C T p=pg D U p)),())=
  some (.inr ((ps.length:Int),(ps.length:Int),false,ps.map (pg C T),ps.map (pg D U),(ps.take ps.length).filter (λp=>!decide (pg C T p=pg D U p)),())):=by
  unfold b6;dsimp only;rw[oDF (show ¬(ps.length:Int)<ps.length by omega)];rfl
 have:=eS (f:=b6) (λi=>((ps.length:Int),(i:Int),ps.map (pg C T),ps.map (pg D U),(ps.take i).filter (λp=>!decide (pg C T p=pg D U p)),())) (n:=ps.length) (N:=NN) (by unfold NN;omega) step fin;rw[show bH b6 NN ((ps.length:Int),0,ps.map (pg C T),ps.map (pg D U),[],())=_ from this,List.take_length];rfl
theorem FZ{x n:Int}(hn:0<n)(WC:n<=1099511627776):∃y,nH x n=some (y,())/\0<=y/\y<n:=by
 unfold nH kK;rw[bne_iff_ne.2 (show n≠0 by omega),oCT];have h1:=Int.lt_tmod_of_pos x hn;have h2:=Int.tmod_lt_of_pos x hn;dsimp only;by_cases h:Int.tmod x n<0
 ·rw[oDT h,oCT,cb (by omega) (by omega)];exact⟨_,rfl,by omega,by omega⟩
 ·rw[oDF h,oCF];exact⟨_,rfl,by omega,by omega⟩
theorem eR{n:Int}(hn:0<n)(WC:n<=1099511627776){l:List Int}(hl:l.length<=400){k:Int}(hk:0<=k):∃x k',bv n l k=some (x,l,k',())/\0<=x/\x<n/\0<=k':=by
 unfold bv;delta bu;dsimp only;by_cases h:k>=l.length
 ·rw[oDT h,oCT];exact⟨0,k,rfl,by omega,hn,hk⟩
 ·rw[oDF h,oCF,cb (x:=k+1) (by omega) (by omega),cb (by omega) (by omega)];obtain⟨i,rfl⟩:∃i:Nat,k=i:=⟨k.toNat,by omega⟩
  have hi:i<l.length:=by omega
  rw[show(i:Int)+1-1=i by omega,bV];simp only[oBS,cy hi];obtain⟨y,e,h1,h2⟩:=FZ (x:=l[i]) hn WC;rw[e];exact⟨y,(i:Int)+1,rfl,h1,h2,by omega⟩
theorem Av{l:List Int}(hl:l.length<=400){k:Int}(hk:0<=k):∃(c:DCn)(k':Int),dH l k=some (c.1,c.2.1,c.2.2.1,c.2.2.2,l,k',())/\0<=k':=by
 unfold dH;obtain⟨x,k1,e,_,_,h1⟩:=eR (n:=5) (by omega) (by omega) hl hk;rw[e];simp only[oBS];by_cases h:x=4
 ·rw[beq_iff_eq.2 h,oCT];obtain⟨x2,k2,e,_,_,h2⟩:=eR (n:=3) (by omega) (by omega) hl h1;rw[e];simp only[oBS];obtain⟨x3,k3,e,_,_,h3⟩:=eR (n:=8) (by omega) (by omega) hl h2;rw[e];exact⟨(1,0,x2,x3),k3,rfl,h3⟩
 ·rw[oBF h,oCF];obtain⟨x2,k2,e,_,_,h2⟩:=eR (n:=40) (by omega) (by omega) hl h1;rw[e];exact⟨(0,wk .u16 x2,0,0),k2,rfl,h2⟩
theorem CA{l:List Int}(hl:l.length<=400){k:Int}(hk:0<=k):∃(v:DTs)(k':Int),fG l k=some (v.1,v.2.1,v.2.2.1,v.2.2.2.1,v.2.2.2.2.1,v.2.2.2.2.2.1,v.2.2.2.2.2.2.1,v.2.2.2.2.2.2.2,l,k',())/\v.2.2.2.2.2.2.2.length<=8/\0<=k':=by
 unfold fG;obtain⟨x1,k1,e,_,_,h1⟩:=eR (n:=5) (by omega) (by omega) hl hk;rw[e];simp only[oBS];obtain⟨x2,k2,e,_,_,h2⟩:=eR (n:=20) (by omega) (by omega) hl h1;rw[e];simp only[oBS];obtain⟨x3,k3,e,_,_,h3⟩:=eR (n:=30) (by omega) (by omega) hl h2;rw[e];simp only[oBS];obtain⟨x4,k4,e,_,_,h4⟩:=eR (n:=4) (by omega) (by omega) hl h3;rw[e];simp only[oBS];obtain⟨x5,k5,e,_,_,h5⟩:=eR (n:=4) (by omega) (by omega) hl h4;rw[e];simp only[oBS];obtain⟨x6,k6,e,_,_,h6⟩:=eR (n:=7) (by omega) (by omega) hl h5;rw[e];simp only[oBS];obtain⟨x7,k7,e,_,_,h7⟩:=eR (n:=9) (by omega) (by omega) hl h6;rw[e];simp only[oBS]
 let st:Int->Int->List DCn->_:=λi k r=>(i,l,k,(0:Int),(0:Int),(0:Int),(0:Int),(0:Int),(0:Int),(0:Int),(),x1,x2,x3,w64 (x4-1),w64 (x5-1),x6,wk .u16 x7,r,())
 have step:∀(i:Nat)(k:Int)(r:List DCn),0<=k->r.length=i->i<8->∃(k':Int)(r':List DCn),0<=k'/\r'.length=i+1/\cW (st i k r)=some (.inl (st ((i+1:Nat):Int) k' r')):=by
  intro i k r hk hr hi;show ∃(k':Int)(r':List DCn),0<=k'/\r'.length=i+1/\cW ((i:Int),l,k,0,0,0,0,0,0,0,(),x1,x2,x3,w64 (x4-1),w64 (x5-1),x6,wk .u16 x7,r,())=_;unfold cW;dsimp only;rw[oDT (show(i:Int)<8 by omega),oCT];obtain⟨c,k',e,YX⟩:=Av hl hk;rw[e];simp only[oBS];rw[cn (by omega) (by simp) (by omega) (by rw[List.length_singleton];omega),oCT,cb (by omega) (by omega)];exact⟨k',r++[c],YX,by rw[List.length_append,List.length_singleton,hr],rfl⟩
 have go:∀j i:Nat,i+j=8->∀(k:Int)(r:List DCn),0<=k->r.length=i->∀N,j<N->∃k' r',0<=k'/\r'.length=8/\bH cW N (st i k r)=some (8,false,l,k',0,0,0,0,0,0,0,(),x1,x2,x3,w64 (x4-1),w64 (x5-1),x6,wk .u16 x7,r',()):=by
  intro j
  induction j with
  |zero=>
   intro i hi k r hk hr N hN;obtain⟨N,rfl⟩:∃m,N=m+1:=⟨N-1,by omega⟩;refine⟨k,r,hk,by omega,?_⟩
   obtain rfl:i=8:=by omega
   rfl
  |succ j ih=>
   intro i hi k r hk hr N hN;obtain⟨N,rfl⟩:∃m,N=m+1:=⟨N-1,by omega⟩;obtain⟨k1,r1,Zc,Z6,e⟩:=step i k r hk hr (by omega);obtain⟨k2,r2,hk2,Wi,e2⟩:=ih (i+1) (by omega) k1 r1 Zc Z6 N (by omega);refine⟨k2,r2,hk2,Wi,?_⟩;simp only[bH,e,oBS];exact e2
 obtain⟨k8,r,Nm,hr,e⟩:=go 8 0 rfl k7 [] h7 rfl NN (by unfold NN;omega);rw[show bH cW NN (0,l,k7,0,0,0,0,0,0,0,(),x1,x2,x3,w64 (x4-1),w64 (x5-1),x6,wk .u16 x7,[],())=_ from e];exact⟨(x1,x2,x3,w64 (x4-1),w64 (x5-1),x6,wk .u16 x7,r),k8,rfl,by show r.length<=8;omega,Nm⟩
def p7(C:CC)(T:TT'):Prop:=1<=C.length/\shp C T/\SmT T
theorem Dc{l:List Int}(hl:l.length<=400){k:Int}(hk:0<=k):∃(C:CC)(T:TT')(k':Int),fX l k=some (C,T,l,k',())/\p7 C T/\0<=k':=by
 unfold fX;obtain⟨x1,k1,e,a1,b1,h1⟩:=eR (n:=3) (by omega) (by omega) hl hk;rw[e];simp only[oBS]
 have row:∀(j:Nat)(o:Int)(C:CC)(k:Int)(r:List DCn),0<=k->r.length+j<=32->∀N,j<N->∃k' r',0<=k'/\r'.length=r.length+j /\
  bH d9 N (o,(j:Int)-1,l,k,(),(),C,(),r,())=some (o,-1,false,l,k',(),(),C,(),r',()):=by
  intro j o C
  induction j with
  |zero=>
   intro k r hk hr N hN;obtain⟨N,rfl⟩:∃m,N=m+1:=⟨N-1,by omega⟩;exact⟨k,r,hk,by omega,rfl⟩
  |succ j ih=>
   intro k r hk hr N hN;obtain⟨N,rfl⟩:∃m,N=m+1:=⟨N-1,by omega⟩;obtain⟨c,k1,e,Zc⟩:=Av hl hk
   have e1:d9 (o,((j+1:Nat):Int)-1,l,k,(),(),C,(),r,())=some (.inl (o,(j:Int)-1,l,k1,(),(),C,(),r++[c],())):=by
    unfold d9;dsimp only;rw[oDT (show((j+1:Nat):Int)-1>=0 by omega),oCT,e];simp only[oBS];rw[cn (by omega) (by simp) (by omega) (by rw[List.length_singleton];omega),oCT,cb (by omega) (by omega),show((j+1:Nat):Int)-1-1=(j:Int)-1 by omega];rfl
   obtain⟨k2,r2,hk2,Wi,e2⟩:=ih k1 (r++[c]) Zc (by rw[List.length_append,List.length_singleton];omega) N (by omega);refine⟨k2,r2,hk2,by rw[Wi,List.length_append,List.length_singleton];omega,?_⟩;simp only[bH,e1,oBS];exact e2
 have RG:∀(j:Nat)(C:CC)(k:Int),0<=k->C.length+j<=4->(∀c∈C,okZ (c.length:Int)=true)->∀N,j<N->∃k' C',0<=k'/\C'.length=C.length+j/\(∀c∈C',okZ (c.length:Int)=true)/\
  bH d8 N ((j:Int)-1,l,k,(),(),C,(),())=some (-1,false,l,k',(),(),C',(),()):=by
  intro j
  induction j with
  |zero=>
   intro C k hk hC ho N hN;obtain⟨N,rfl⟩:∃m,N=m+1:=⟨N-1,by omega⟩;exact⟨k,C,hk,by omega,ho,rfl⟩
  |succ j ih=>
   intro C k hk hC ho N hN;obtain⟨N,rfl⟩:∃m,N=m+1:=⟨N-1,by omega⟩;obtain⟨y,k1,e,ya,yb,Zc⟩:=eR (n:=24) (by omega) (by omega) hl hk;obtain⟨k2,r,hk2,hr,e2⟩:=row (y.toNat+1) (((j+1:Nat):Int)-1) C k1 [] Zc (by rw[List.length_nil];omega) NN (by unfold NN;omega);rw[show((y.toNat+1:Nat):Int)-1=y by omega]at e2;rw[List.length_nil]at hr
   have e1:d8 (((j+1:Nat):Int)-1,l,k,(),(),C,(),())=some (.inl ((j:Int)-1,l,k2,(),(),C++[r],(),())):=by
    unfold d8;dsimp only;rw[oDT (show((j+1:Nat):Int)-1>=0 by omega),oCT,e];simp only[oBS];rw[e2];simp only[oBS];rw[cn (by omega) (by simp) (by omega) (by rw[List.length_singleton];omega),oCT,cb (by omega) (by omega),show((j+1:Nat):Int)-1-1=(j:Int)-1 by omega];rfl
   obtain⟨k3,C3,hk3,MO,Yj,e3⟩:=ih (C++[r]) k2 hk2 (by rw[List.length_append,List.length_singleton];omega) (by
    intro c hc;rcases List.mem_append.1 hc with hc|hc
    ·exact ho c hc
    ·rw[List.mem_singleton.1 hc]
     exact oDT (by omega)) N (by omega)
   refine⟨k3,C3,hk3,by rw[MO,List.length_append,List.length_singleton];omega,Yj,?_⟩;simp only[bH,e1,oBS];exact e3
 obtain⟨k2,C,hk2,hC,ho,e2⟩:=RG (x1.toNat+1) [] k1 h1 (by rw[List.length_nil];omega) (by simp) NN (by unfold NN;omega);rw[show((x1.toNat+1:Nat):Int)-1=x1 by omega]at e2;rw[List.length_nil]at hC;rw[e2];simp only[oBS];obtain⟨x3,k3,e,a3,b3,h3⟩:=eR (n:=4) (by omega) (by omega) hl hk2;rw[e];simp only[oBS]
 have Ob:∀(j:Nat)(T:TT')(k:Int),0<=k->T.length+j<=4->SmT T->∀N,j<N->∃k' T',0<=k'/\T'.length=T.length+j/\SmT T' /\
  bH d7 N ((j:Int),l,k,(),(),C,T,())=some (0,false,l,k',(),(),C,T',()):=by
  intro j
  induction j with
  |zero=>
   intro T k hk hT hs N hN;obtain⟨N,rfl⟩:∃m,N=m+1:=⟨N-1,by omega⟩;exact⟨k,T,hk,by omega,hs,rfl⟩
  |succ j ih=>
   intro T k hk hT hs N hN;obtain⟨N,rfl⟩:∃m,N=m+1:=⟨N-1,by omega⟩;obtain⟨v,k1,e,hv,Zc⟩:=CA hl hk
   have e1:d7 (((j+1:Nat):Int),l,k,(),(),C,T,())=some (.inl ((j:Int),l,k1,(),(),C,T++[v],())):=by
    unfold d7;dsimp only;rw[oDT (show((j+1:Nat):Int)>0 by omega),oCT,e];simp only[oBS];rw[cn (by omega) (by simp) (by omega) (by rw[List.length_singleton];omega),oCT,cb (by omega) (by omega),show((j+1:Nat):Int)-1=(j:Int) by omega];rfl
   obtain⟨k3,T3,hk3,MZ,UE,e3⟩:=ih (T++[v]) k1 Zc (by rw[List.length_append,List.length_singleton];omega) (by
    intro t ht;rcases List.mem_append.1 ht with ht|ht
    ·exact hs t ht
    ·rw[List.mem_singleton.1 ht];unfold Sm
     omega) N (by omega)
   refine⟨k3,T3,hk3,by rw[MZ,List.length_append,List.length_singleton];omega,UE,?_⟩;simp only[bH,e1,oBS];exact e3
 obtain⟨k4,T,Nl,hT,hs,e4⟩:=Ob x3.toNat [] k3 h3 (by rw[List.length_nil];omega) (by intro t ht;simp at ht) NN (by unfold NN;omega);rw[show((x3.toNat:Nat):Int)=x3 by omega]at e4;rw[List.length_nil]at hT;rw[e4];exact⟨C,T,k4,rfl,⟨by omega,⟨by omega,by omega,ho⟩,hs⟩,Nl⟩
theorem B8{v:DTs}(h:Sm v.2.2.2.2.2.2.2):fw v.1 v.2.1 v.2.2.1 v.2.2.2.1 v.2.2.2.2.1 v.2.2.2.2.2.1 v.2.2.2.2.2.2.1 v.2.2.2.2.2.2.2=some (v.1,v.2.1,v.2.2.1,v.2.2.2.1,v.2.2.2.2.1,v.2.2.2.2.2.1,v.2.2.2.2.2.2.1,v.2.2.2.2.2.2.2,()):=by
 unfold fw;rw[cn (by omega) h (by omega) (by have:=h;omega),oCT];rfl
theorem Ft{C:CC}{T:TT'}(h:shp C T)(hT:SmT T):gK C T=some (C,T,()):=by
 unfold gK;have h4:=h.1
 have step:∀i,i<C.length->cA ((i:Int),C,T,(),(),C.take i,(),())=some (.inl (((i+1:Nat):Int),C,T,(),(),C.take (i+1),(),())):=by
  intro i hi;have hok:=of_decide_eq_true (h.2.2 _ (List.getElem_mem hi));unfold cA;delta bu;dsimp only;rw[oDT (show(i:Int)<C.length by omega),oCT,bV];simp only[oBS,cy hi];rw[cn (by omega) (by omega) (by omega) (by omega),oCT,cn (by rw[oLT];omega) (by simp) (by omega) (by rw[oLT,List.length_singleton];omega),oCT,cb (by omega) (by omega),<- lb hi];rfl
 have fin:cA ((C.length:Int),C,T,(),(),C.take C.length,(),())=some (.inr ((C.length:Int),false,C,T,(),(),C.take C.length,(),())):=by
  unfold cA;delta bu;dsimp only;rw[oDF (show ¬(C.length:Int)<C.length by omega)];rfl
 have:=eS (f:=cA) (λi=>((i:Int),C,T,(),(),C.take i,(),())) (n:=C.length) (N:=NN) (by unfold NN;omega) step fin;rw[show bH cA NN (0,C,T,(),(),[],(),())=_ from this,List.take_length,oBS];dsimp only;have t4:=h.2.1
 have TJ:∀i,i<T.length->cz ((i:Int),C,T,(),(),C,T.take i,())=some (.inl (((i+1:Nat):Int),C,T,(),(),C,T.take (i+1),())):=by
  intro i hi;unfold cz;delta bu;dsimp only;rw[oDT (show(i:Int)<T.length by omega),oCT,bV];simp only[oBS,cy hi,B8 (hT _ (List.getElem_mem hi))];rw[cn (by rw[oLT];omega) (by simp) (by omega) (by rw[oLT,List.length_singleton];omega),oCT,cb (by omega) (by omega),<- lb hi];rfl
 have P2:cz ((T.length:Int),C,T,(),(),C,T.take T.length,())=some (.inr ((T.length:Int),false,C,T,(),(),C,T.take T.length,())):=by
  unfold cz;delta bu;dsimp only;rw[oDF (show ¬(T.length:Int)<T.length by omega)];rfl
 have:=eS (f:=cz) (λi=>((i:Int),C,T,(),(),C,T.take i,())) (n:=T.length) (N:=NN) (by unfold NN;omega) TJ P2;rw[show bH cz NN (0,C,T,(),(),C,[],())=_ from this,List.take_length];rfl
def p6(C:CC)(T:TT')(D:CC)(U:TT'):Prop:=szs D=szs C/\U.length=T.length/\SmT U
theorem iN{C:CC}{T:TT'}{D:CC}{U:TT'}(h:p6 C T D U)(hs:shp C T):shp D U:=by
 rw[<- t6,h.1,h.2.1];exact t6.2 hs
theorem jM{C D:CC}(h:szs D=szs C):D.length=C.length:=by rw[<- fj D,h,fj]
theorem qc{C D:CC}(h:szs D=szs C){i:Nat}(hi:i<C.length)(ZL:i<D.length):D[i].length=C[i].length:=by
 have e1:=iK hi;have e2:=iK ZL;rw[h,e1]at e2;omega
theorem wz{C:CC}{i:Nat}{f:List DCn->List DCn}(h:∀c,(f c).length=c.length):szs (C.modify i f)=szs C:=by
 unfold szs;apply List.ext_getElem?;intro j;rw[List.getElem?_map,List.getElem?_map,List.getElem?_modify]
 cases C[j]? with
 |none=>simp
 |some c=>
  simp only[oMS];split
  ·simp[h]
  ·simp
theorem qg{T:TT'}{i:Nat}{v:DTs}(h:SmT T)(hv:Sm v.2.2.2.2.2.2.2):SmT (T.modify i λ_=>v):=by
 intro t ht;obtain⟨j,hj⟩:=List.mem_iff_getElem?.1 ht;rw[List.getElem?_modify]at hj
 cases e:T[j]? with
 |none=>rw[e]at hj;simp at hj
 |some u=>
  rw[e]at hj;have hj:some (if i=j then v else u)=some t:=hj
  injection hj with hj
  split at hj
  ·rw[<- hj];exact hv
  ·rw[<- hj];exact h _ (List.mem_of_getElem? e)
theorem E4{C:CC}{T:TT'}(h:p7 C T){n:Int}(hn:0<=n)(WC:n<100){l:List Int}(hl:l.length<=400){k:Int}(hk:0<=k):
 ∃(D:CC)(U:TT')(k':Int),gH C T n l k=some (D,U,l,k',())/\p6 C T D U/\0<=k':=by
 unfold gH;rw[Ft h.2.1 h.2.2,oBS];dsimp only
 obtain⟨t,e,D,U,k',h1,h2,h3⟩:=ma (f:=gl) (λs=>∃(i:Nat)(k:Int)(D:CC)(U:TT'),s=(n,(i:Int),l,k,(),(),D,U,())/\(i:Int)<=n/\0<=k/\p6 C T D U)
  (λt=>∃(D:CC)(U:TT')(k:Int),t=(n,n,false,l,k,(),(),D,U,())/\0<=k/\p6 C T D U) (λs=>(n-s.2.1).toNat) (n:=NN) (s:=(n,0,l,k,(),(),C,T,())) ⟨0,k,C,T,rfl,hn,hk,rfl,rfl,h.2.2⟩ (by unfold NN;show(n-0).toNat<_;omega) (by
  rintro s ⟨i,k,D,U,rfl,hi,hk,hL⟩;unfold gl;delta bu;dsimp only;have Np:=jM hL.1;have LT:=h.1;have LU:=h.2.1.1;have hU:=hL.2.1;have LX:=h.2.1.2.1;by_cases hin:(i:Int)<n
  rotate_left
  ·rw[oDF hin]
   obtain rfl:(i:Int)=n:=by omega
   exact⟨_,rfl,D,U,k,rfl,hk,hL⟩
  rw[oDT hin,oCT]
  have Sd:∀k0,0<=k0->Ok (((bv (↑D.length) l k0).bind λ(x10,x11,x12,_)=>
   (eD x10).bind λTM=>
   (dw D TM).bind λMf=>
   (dw D TM).bind λMg=>
   (eD x10).bind λRH=>
   (dw D RH).bind λMh=>
   (dw D RH).bind λMi=>
   (dw D RH).bind λOg=>
   (bv (↑Og.length) x11 x12).bind λ(x21,x22,x23,_)=>
   (dH x22 x23).bind λ(x24,x25,x26,x27,x28,x29,_)=>
   (eD x21).bind λRJ=>
   (dw D TM).bind λOh=>
   (dw Oh RJ).bind λMm=>
   (dw D TM).bind λOi=>
   (dw Oi RJ).bind λMn=>
   some (n,(i:Int),x28,x29,(),(),(List.modify D TM λe=>(List.modify e RJ λe=>(x24,(x25,(x26,x27))))),U,())):Option (Int×Int×(List (Int))×Int×Unit×Unit×(List (List DCn))×(List DTs)×Unit))
   λr=>∃(k':Int)(D':CC)(U':TT'),r=(n,(i:Int),l,k',(),(),D',U',())/\0<=k'/\p6 C T D' U':=by
   intro k0 Nk;dsimp only;obtain⟨y,k1,e,ya,yb,Zc⟩:=eR (n:=(D.length:Int)) (by omega) (by omega) hl Nk;rw[e];obtain⟨a,rfl⟩:∃a:Nat,y=a:=⟨y.toNat,by omega⟩
   have ha:a<D.length:=by omega
   simp only[oBS,bV,cy ha];have hok:1<=(D[a].length:Int)/\(D[a].length:Int)<=32:=of_decide_eq_true ((iN hL h.2.1).2.2 _ (List.getElem_mem ha));obtain⟨z,k2,e,za,zb,hk2⟩:=eR (n:=(D[a].length:Int)) (by omega) (by omega) hl Zc;rw[e];obtain⟨b,rfl⟩:∃b:Nat,z=b:=⟨z.toNat,by omega⟩
   have hb:b<D[a].length:=by omega
   simp only[oBS];obtain⟨c,k3,e,hk3⟩:=Av hl hk2;rw[e];simp only[oBS,bV,cy hb];exact⟨_,rfl,k3,_,U,rfl,hk3,(wz λc=>oLM ..).trans hL.1,hL.2.1,hL.2.2⟩
  refine Ok.bind (P:=λr=>∃(k':Int)(D':CC)(U':TT'),r=(n,(i:Int),l,k',(),(),D',U',())/\0<=k'/\p6 C T D' U') ?_ ?_
  ·by_cases hp:(U.length:Int)>0
   rotate_left
   ·rw[oDF hp];exact Sd k hk
   rw[oDT hp,oCT];obtain⟨y,k1,e,ya,yb,Zc⟩:=eR (n:=3) (by omega) (by omega) hl hk;rw[e];simp only[oBS];by_cases h2:y=2
   rotate_left
   ·rw[oBF h2];exact Sd k1 Zc
   rw[beq_iff_eq.2 h2,oCT];obtain⟨z,k2,e,za,zb,hk2⟩:=eR (n:=(U.length:Int)) (by omega) (by omega) hl Zc;rw[e];obtain⟨a,rfl⟩:∃a:Nat,z=a:=⟨z.toNat,by omega⟩
   have ha:a<U.length:=by omega
   simp only[oBS];obtain⟨v,k3,e,hv,hk3⟩:=CA hl hk2;rw[e];simp only[oBS,bV,cy ha];exact⟨_,rfl,k3,D,_,rfl,hk3,hL.1,(oLM ..).trans hL.2.1,qg hL.2.2 (show v.2.2.2.2.2.2.2.length<=1099511627776 by omega)⟩
  ·rintro r ⟨k',D',U',rfl,YX,Sq⟩;dsimp only;rw[cb (by omega) (by omega)]
   exact⟨_,rfl,⟨i+1,k',D',U',rfl,by omega,YX,Sq⟩,by show(n-((i:Int)+1)).toNat<(n-(i:Int)).toNat;omega⟩)
 rw[e,h1];exact⟨D,U,k',rfl,h3,h2⟩
theorem F6(l:List Int):nI l=some (decide (l.length<=400),()):=by
 unfold nI;delta bu;dsimp only;congr 2;rw[decide_eq_decide];omega
theorem Ck{C:CC}{T:TT'}{D:CC}{U:TT'}{E:CC}{V:TT'}(h:p7 C T)(h1:p6 C T D U)(h2:p6 C T E V):FA D U E V:=
 ⟨iN h1 h.2.1,iN h2 h.2.1,h1.1.trans h2.1.symm,h1.2.1.trans h2.2.1.symm⟩
theorem zM{C:CC}{T:TT'}(h:p7 C T):p6 C T C T:=⟨rfl,rfl,h.2.2⟩
theorem qx{C:CC}{T:TT'}{D:CC}{U:TT'}(h:p7 C T)(h1:p6 C T D U):p7 D U:=⟨by rw[jM h1.1];exact h.1,iN h1 h.2.1,h1.2.2⟩
theorem qw{C:CC}{T:TT'}{D:CC}{U:TT'}{E:CC}{V:TT'}(h1:p6 C T D U)(h2:p6 D U E V):p6 C T E V:=⟨h2.1.trans h1.1,h2.2.1.trans h1.2.1,h2.2.2⟩
theorem zH{C:CC}{T:TT'}{D:CC}{U:TT'}{p:PID}:p∈dif C T D U↔p∈pgs (szs C) T.length/\pg C T p≠pg D U p:=by
 unfold dif;simp
theorem BI{S T:Type}{f:S->Option (S⊕T)}(P:Nat->S->Prop)(R:T->Prop){n:Nat}(step:∀i s,i<n->P i s->∃s',f s=some (.inl s')/\P (i+1) s')(fin:∀s,P n s->∃t,f s=some (.inr t)/\R t){s:S}(h:P 0 s){N:Nat}(hn:n<N):
 ∃t,bH f N s=some t/\R t:=by
 have ZO:∀k i s,i+k=n->P i s->∀M,k<M->∃t,bH f M s=some t/\R t:=by
  intro k
  induction k with
  |zero=>
   intro i s hi hP M hM;obtain⟨M,rfl⟩:∃m,M=m+1:=⟨M-1,by omega⟩
   obtain rfl:i=n:=by omega
   obtain⟨t,e,hR⟩:=fin s hP;exact⟨t,by simp[bH,e],hR⟩
  |succ k ih=>
   intro i s hi hP M hM;obtain⟨M,rfl⟩:∃m,M=m+1:=⟨M-1,by omega⟩;obtain⟨s',e,MX⟩:=step i s (by omega) hP;obtain⟨t,e2,hR⟩:=ih (i+1) s' (by omega) MX M (by omega);exact⟨t,by simp only[bH,e,oBS];exact e2,hR⟩
 exact ZO n 0 s (by omega) h N hn
theorem EV{C:CC}{T:TT'}{D:CC}{U:TT'}(h:shp C T)(hT:SmT T):eu C T D U=some (decide (C=D/\T=U),()):=by
 unfold eu;delta bu;dsimp only;by_cases hl:C.length=D.length
 rotate_left
 ·rw[oq hl,oCT,oDF (p:=C=D/\T=U) λe=>hl (by rw[e.1])]
 rw[qu hl,oCF];by_cases hm:T.length=U.length
 rotate_left
 ·rw[oq hm,oCT,oDF (p:=C=D/\T=U) λe=>hm (by rw[e.2])]
 rw[qu hm,oCF];have c4:=h.1;have t4:=h.2.1
 have q1:=jo (f:=dJ) hl (by unfold Sm;omega) (λi=>((i:Int),C,T,D,U,())) (bad:=.inl (false,())) (fin:=.inr ((C.length:Int),false,C,T,D,U,()))
  (λi h1 h2=>by
   have hok:=of_decide_eq_true (h.2.2 _ (List.getElem_mem h1));unfold dJ;delta bu;dsimp only;rw[oDT (show(i:Int)<C.length by omega),oCT,bV];simp only[oBS,cy h1,cy h2];rw[qm (by unfold Sm;omega)];simp only[oBS,lR];rw[cb (by omega) (by omega)]
   rfl)
  (by
   unfold dJ;delta bu;dsimp only;rw[oDF (show ¬(C.length:Int)<C.length by omega)]
   rfl)
 have q2:=jo (f:=dI) hm (by unfold Sm;omega) (λi=>((i:Int),C,T,D,U,())) (bad:=.inl (false,())) (fin:=.inr ((T.length:Int),false,C,T,D,U,()))
  (λi h1 h2=>by
   unfold dI;delta bu;dsimp only;rw[oDT (show(i:Int)<T.length by omega),oCT,bV];simp only[oBS,cy h1,cy h2];rw[yU (hT _ (List.getElem_mem h1))];simp only[oBS,lR];rw[cb (by omega) (by omega)]
   rfl)
  (by
   unfold dI;delta bu;dsimp only;rw[oDF (show ¬(T.length:Int)<T.length by omega)]
   rfl)
 rw[show bH dJ NN (0,C,T,D,U,())=_ from q1];by_cases e1:C=D
 rotate_left
 ·rw[oDF e1,oDF (p:=C=D/\T=U) λe=>e1 e.1];rfl
 rw[oDT e1];dsimp only[oCT];rw[show bH dI NN (0,C,T,D,U,())=_ from q2];by_cases e2:T=U
 ·rw[oDT e2,oDT (p:=C=D/\T=U) ⟨e1,e2⟩];rfl
 ·rw[oDF e2,oDF (p:=C=D/\T=U) λe=>e2 e.2];rfl
theorem zy{C:CC}{T:TT'}{D:CC}{U:TT'}(hs:szs D=szs C)(hU:U.length=T.length)(h:∀q∈pgs (szs C) T.length,pg C T q=pg D U q):C=D/\T=U:=by
 have hl:=jM hs;constructor
 ·refine List.ext_getElem hl.symm λi h1 h2=>?_;have hlen:=qc hs h1 h2;apply List.ext_getElem?;intro k;by_cases hk:k<C[i].length
  rotate_left
  ·rw[oGN (by omega),oGN (by omega)]
  have hq:((i:Int),((k/8:Nat):Int))∈pgs (szs C) T.length:=by
   refine jm.2 (.inl ⟨i,k/8,by rw[fj];exact h1,?_,rfl⟩);rw[iK h1];unfold qG;omega
  have e:=h _ hq;rw[lp h1,lp h2]at e;have e1:(C[i].drop (8*(k/8))).take 8=(D[i].drop (8*(k/8))).take 8:=congrArg (λx:PG=>x.2.2.1) e;have e2:=congrArg (λx:List DCn=>x[k%8]?) e1;simp only[List.getElem?_take,List.getElem?_drop]at e2;rw[oIP (Nat.mod_lt _ (by omega)),oIP (Nat.mod_lt _ (by omega)),Nat.div_add_mod]at e2;exact e2
 ·refine List.ext_getElem hU.symm λt h1 h2=>?_;have e:=h (-1,(t:Int)) (jm.2 (.inr ⟨t,h1,rfl⟩));rw[eP h1,eP h2]at e;exact congrArg (λx:PG=>x.2.2.2) e
theorem qf{c x:List DCn}{a k:Nat}(h:a+x.length<=c.length):(fk c a x.length x)[k]?=if k<a then c[k]? else if k<a+x.length then x[k-a]? else c[k]?:=by
 unfold fk;rw[List.take_length];by_cases h1:k<a
 ·rw[oIP h1,List.append_assoc,List.getElem?_append_left (by rw[oLT];omega),List.getElem?_take,oIP h1]
 ·rw[oIN h1];by_cases h2:k<a+x.length
  ·rw[oIP h2,List.getElem?_append_left (by rw[List.length_append,oLT];omega),List.getElem?_append_right (by rw[oLT];omega),oLT,Nat.min_eq_left (by omega)]
  ·rw[oIN h2,List.getElem?_append_right (by rw[List.length_append,oLT];omega),List.length_append,oLT,Nat.min_eq_left (by omega),List.getElem?_drop];congr 1;omega
theorem wB{c x:List DCn}{a:Nat}(h:a+x.length<=c.length):(fk c a x.length x).length=c.length:=by
 unfold fk;rw[List.take_length,List.length_append,List.length_append,oLT,List.length_drop,Nat.min_eq_left (by omega)];omega
theorem yJ{α:Type}{l:List α}{i:Nat}{x:α}:l.set i x=l.modify i λ_=>x:=by
 apply List.ext_getElem?;intro k;rw[List.getElem?_set,List.getElem?_modify];by_cases e:i=k
 ·subst e;by_cases h:i<l.length
  ·simp[h]
  ·simp[h]
 ·simp[e]
theorem E2{c:List DCn}{j:Nat}(hc:c.length<=32)(h:8*j<c.length):ew c (j:Int)=some ((c.drop (8*j)).take 8,()):=by
 unfold ew;delta bu;dsimp only;rw[oDF (show ¬(j:Int)<0 by omega),oCF,oDF (show ¬(j:Int)>32 by omega),oCF];simp only[oBS];rw[cb (x:=(j:Int)*8) (by omega) (by omega),oDF (show ¬(j:Int)*8>=(c.length:Int) by omega),oCF,cb (x:=(j:Int)*8+8) (by omega) (by omega)];rw[show(j:Int)*8=((8*j:Nat):Int) by omega,show((8*j:Nat):Int)+8=((8*j+8:Nat):Int) by omega,zF,bV,bV];simp only[oBS]
 have ho:jg (8*j) (Nat.min (8*j+8) c.length) c.length=true:=by
  unfold jg;have h1:Nat.min (8*j+8) c.length=min (8*j+8) c.length:=rfl;rw[h1];simp only[oBA,oDE];omega
 rw[ho,oCT,Cx (by omega)]
theorem CP{C:CC}{T:TT'}(h:shp C T){p:PID}(hp:p∈pgs (szs C) T.length):fH C T p.1 p.2=some (0,()):=by
 have h4:=h.1;unfold fH;rw[qQ (show Sm C by unfold Sm;omega),oBS];dsimp only;rw[oDT h,oNT,oCF]
 have ht:fY C T p.1 p.2=some (true,()):=by
  unfold fY
  rcases jm.1 hp with⟨i,j,hi,hj,rfl⟩|⟨t,ht,rfl⟩
  ·rw[fj]at hi;rw[iK hi]at hj;have ZW:=vI hj;have hok:=of_decide_eq_true (h.2.2 _ (List.getElem_mem hi));delta bu;dsimp only;rw[oBF (show((i:Int))≠-1 by omega),oCF,oDT (show(i:Int)>=0 by omega),oCT,oDT (show(i:Int)<(C.length:Int) by omega),oCT,bV];simp only[oBS,cy hi];rw[E2 (by omega) ZW,oBS];dsimp only;rw[oDT];simp only[oLT,List.length_drop];omega
  ·delta bu;dsimp only;rw[show((-1:Int)==-1)=true from rfl,oCT,oDT (show(t:Int)>=0 by omega),oCT,oDT (show(t:Int)<(T.length:Int) by omega)]
 rw[ht];rfl
theorem B2(C:CC)(T:TT')(a b:Int):cI C T a b=fH C T a b:=by kernel_rfl
theorem CQ{C:CC}{T:TT'}(h:shp C T){p:PID}(hp:p∈pgs (szs C) T.length):cI C T p.1 p.2=some (0,()):=(B2 C T p.1 p.2).trans (CP h hp)
theorem CI{C:CC}{T:TT'}(h:p7 C T){x y:List DCn}(hx:Sm x)(hy:Sm y):yR C T x y=true:=by
 have h1:=h.2.1.1;have h2:=h.2.1.2.1;simp only[yR,oBA,oDE,List.all_eq_true];refine⟨⟨⟨⟨⟨by omega,λc hc=>?_⟩,by omega⟩,λt ht=>h.2.2 t ht⟩,hx⟩,hy⟩;have:=of_decide_eq_true (h.2.1.2.2 c hc);omega
theorem FU{C:CC}{T:TT'}{D:CC}{U:TT'}(h:p7 C T)(hL:p6 C T D U){p:PID}(hp:p∈pgs (szs C) T.length):
 ∃(C':CC)(T':TT'),bO C T (pg D U p).1 (pg D U p).2.1 (pg D U p).2.2.1 (pg D U p).2.2.2.1 (pg D U p).2.2.2.2.1 (pg D U p).2.2.2.2.2.1 (pg D U p).2.2.2.2.2.2.1 (pg D U p).2.2.2.2.2.2.2.1 (pg D U p).2.2.2.2.2.2.2.2.1 (pg D U p).2.2.2.2.2.2.2.2.2.1 (pg D U p).2.2.2.2.2.2.2.2.2.2=some (C',T',0,())/\
  p6 C T C' T'/\∀q∈pgs (szs C) T.length,pg C' T' q=if q=p then pg D U p else pg C T q:=by
 have LS:=h.2.1.1;have Np:=jM hL.1
 rcases jm.1 hp with⟨i,j,hi,hj,rfl⟩|⟨t,ht,rfl⟩
 ·rw[fj]at hi
  have ZL:i<D.length:=by omega
  rw[iK hi]at hj;have ZW:=vI hj;have Yr:=qc hL.1 hi ZL;have hok:=of_decide_eq_true (h.2.1.2.2 _ (List.getElem_mem hi));rw[lp ZL];dsimp only;obtain⟨x,hx⟩:∃x,x=(D[i].drop (8*j)).take 8:=⟨_,rfl⟩
  have Ro:x.length=min 8 (C[i].length-8*j):=by rw[hx,oLT,List.length_drop,Yr]
  rw[<- hx]
  have ZH:gN C[i] j x=fk C[i] (8*j) x.length x:=by
   unfold gN fk;rw[List.take_length]
  have hset:bO C T (i:Int) (j:Int) x 0 0 0 0 0 0 0 []=some (C.modify i λ_=>fk C[i] (8*j) x.length x,T,0,()):=by
   unfold bO;rw[oIP (CI h (by omega) (by simp)),show cI C T (i:Int) (j:Int)=_ from CQ h.2.1 hp,oBS];dsimp only;rw[oIN (by simp),oIN (by omega),oIP ⟨by omega,by simpa using hi,by omega,by omega,by simp only[oTN];rw[show C.getD i []=C[i] by simp[oGD,hi]];exact ZW⟩];simp only[oTN];rw[show C.getD i []=C[i] by simp[oGD,hi],show dX 0 0 0 0 0 0 0 []=some (true,()) by kernel_rfl,oBS];dsimp only;rw[oIN (by simp;omega),ZH,yJ]
  have hfit:8*j+x.length<=C[i].length:=by omega
  have YI:(C.modify i λ_=>fk C[i] (8*j) x.length x).length=C.length:=oLM ..
  have Z5:∀i' (h1:i'<C.length),(C.modify i λ_=>fk C[i] (8*j) x.length x)[i']'(by rw[YI];exact h1)=if i=i' then fk C[i] (8*j) x.length x else C[i']:=by
   intro i' h1;rw[List.getElem_modify]
  refine⟨_,T,hset,⟨?_,rfl,h.2.2⟩,?_⟩
  ·unfold szs;apply List.ext_getElem?;intro k;rw[List.getElem?_map,List.getElem?_map];by_cases hk:k<C.length
   ·rw[oGE (by rw[YI];exact hk),oGE hk,Z5 k hk];simp only[oMS];by_cases e:i=k
    ·subst e;rw[oIP rfl,wB hfit]
    ·rw[oIN e]
   ·rw[oGN (by rw[YI];omega),oGN (by omega)]
  ·intro q hq
   rcases jm.1 hq with⟨a,b,ha,Z9,rfl⟩|⟨t,ht,rfl⟩
   ·rw[fj]at ha;rw[iK ha]at Z9;have Z8:=vI Z9;rw[lp (show a<(C.modify i λ_=>fk C[i] (8*j) x.length x).length by rw[YI];exact ha),Z5 a ha,lp ha];by_cases e:i=a
    ·subst e;rw[oIP rfl];by_cases e2:b=j
     ·subst e2;rw[oIP rfl];congr 3;apply List.ext_getElem?;intro k;rw[List.getElem?_take,List.getElem?_drop,qf hfit];by_cases hk:k<8
      ·rw[oIP hk,oIN (by omega)];by_cases hk2:k<x.length
       ·rw[oIP (by omega),show 8*b+k-8*b=k by omega]
       ·rw[oIN (by omega),oGN (by omega),oGN (by omega)]
      ·rw[oIN hk,oGN (by omega)]
     ·rw[oIN (by intro g;injection g with g1 g2;omega)];congr 3;apply List.ext_getElem?;intro k;rw[List.getElem?_take,List.getElem?_drop,List.getElem?_take,List.getElem?_drop,qf hfit];by_cases hk:k<8
      ·rw[oIP hk,oIP hk];by_cases hk3:8*b+k<8*j
       ·rw[oIP hk3]
       ·rw[oIN hk3,oIN (by omega)]
      ·rw[oIN hk,oIN hk]
    ·rw[oIN e,oIN (by intro g;injection g with g1 g2;omega)]
   ·rw[eP ht,oIN (by intro g;injection g with g1 g2;omega),eP ht]
 ·have YU:t<U.length:=by rw[hL.2.1];exact ht
  rw[eP YU];dsimp only
  have hset:bO C T (-1) (t:Int) [] U[t].1 U[t].2.1 U[t].2.2.1 U[t].2.2.2.1 U[t].2.2.2.2.1 U[t].2.2.2.2.2.1 U[t].2.2.2.2.2.2.1 U[t].2.2.2.2.2.2.2=some (C,T.modify t λ_=>U[t],0,()):=by
   unfold bO;rw[oIP (CI h (by simp) (hL.2.2 _ (List.getElem_mem YU))),show cI C T (-1) (t:Int)=_ from CQ h.2.1 hp,oBS];dsimp only;rw[oIN (by simp),oIP rfl,oIN (by simp),oIP ⟨by omega,by simpa using ht⟩];simp only[oTN];rw[yJ]
  have YI:(T.modify t λ_=>U[t]).length=T.length:=oLM ..
  have Z5:∀i' (h1:i'<T.length),(T.modify t λ_=>U[t])[i']'(by rw[YI];exact h1)=if t=i' then U[t]else T[i']:=by
   intro i' h1;rw[List.getElem_modify]
  refine⟨C,T.modify t λ_=>U[t],hset,⟨rfl,YI,qg h.2.2 (hL.2.2 _ (List.getElem_mem YU))⟩,?_⟩;intro q hq
  rcases jm.1 hq with⟨a,b,ha,Z9,rfl⟩|⟨s,hs,rfl⟩
  ·rw[fj]at ha;rw[lp ha,oIN (by intro g;injection g with g1 g2;omega),lp ha]
  ·rw[eP (show s<(T.modify t λ_=>U[t]).length by rw[YI];exact hs),Z5 s hs,eP hs];by_cases e:t=s
   ·subst e;rw[oIP rfl,oIP rfl]
   ·rw[oIN e,oIN (by intro g;injection g with g1 g2;omega)]
def EE(C:CC)(T:TT')(D:CC)(U:TT')(W:PID->Prop)(C':CC)(T':TT'):Prop:=
 p6 C T C' T'/\∀q∈pgs (szs C) T.length,(W q->pg C' T' q=pg D U q)/\(¬W q->pg C' T' q=pg C T q)
theorem vF{C:CC}{T:TT'}{D:CC}{U:TT'}{W W':PID->Prop}{C':CC}{T':TT'}(hP:EE C T D U W C' T')(h:∀q,W q↔W' q):EE C T D U W' C' T':=
 ⟨hP.1,λq hq=>⟨λw=>(hP.2 q hq).1 ((h q).2 w),λn=>(hP.2 q hq).2 λw=>n ((h q).1 w)⟩⟩
theorem F4{C:CC}{T:TT'}(h:shp C T)(hT:SmT T){p:PID}(hp:p∈pgs (szs C) T.length):iJ C T p.1 p.2=some ((pg C T p).1,(pg C T p).2.1,(pg C T p).2.2.1,(pg C T p).2.2.2.1,(pg C T p).2.2.2.2.1,(pg C T p).2.2.2.2.2.1,(pg C T p).2.2.2.2.2.2.1,(pg C T p).2.2.2.2.2.2.2.1,(pg C T p).2.2.2.2.2.2.2.2.1,(pg C T p).2.2.2.2.2.2.2.2.2.1,(pg C T p).2.2.2.2.2.2.2.2.2.2,0,()):=by
 unfold iJ;rw[CP h hp,oBS];dsimp only;rw[bne_self_eq_false,oCF,Ff h hT hp];rfl
theorem zt{C:CC}{T:TT'}{D:CC}{U:TT'}(h:p7 C T)(hL:p6 C T D U){W:PID->Prop}{C':CC}{T':TT'}(hP:EE C T D U W C' T'){p:PID}(hp:p∈pgs (szs C) T.length):
 ∃(C2:CC)(T2:TT'),bO C' T' (pg D U p).1 (pg D U p).2.1 (pg D U p).2.2.1 (pg D U p).2.2.2.1 (pg D U p).2.2.2.2.1 (pg D U p).2.2.2.2.2.1 (pg D U p).2.2.2.2.2.2.1 (pg D U p).2.2.2.2.2.2.2.1 (pg D U p).2.2.2.2.2.2.2.2.1 (pg D U p).2.2.2.2.2.2.2.2.2.1 (pg D U p).2.2.2.2.2.2.2.2.2.2=some (C2,T2,0,())/\
  EE C T D U (λq=>W q\/q=p) C2 T2:=by
 have h':=qx h hP.1;have Sq:p6 C' T' D U:=⟨hL.1.trans hP.1.1.symm,hL.2.1.trans hP.1.2.1.symm,hL.2.2⟩
 have hp':p∈pgs (szs C') T'.length:=by rw[hP.1.1,hP.1.2.1];exact hp
 obtain⟨C2,T2,e,h1,h2⟩:=FU h' Sq hp';refine⟨C2,T2,e,qw hP.1 h1,λq hq=>?_⟩;have h3:=h2 q (by rw[hP.1.1,hP.1.2.1];exact hq);have h4:=hP.2 q hq;by_cases g:q=p
 ·subst g;rw[oIP rfl]at h3;exact⟨λ_=>h3,λn=>absurd (.inr rfl) n⟩
 ·rw[oIN g]at h3;rw[h3];exact⟨λw=>h4.1 (w.resolve_right g),λn=>h4.2 λw=>n (.inl w)⟩
theorem ot{α:Type}{l:List α}{i:Nat}(h:i<l.length){f:α->α}(hf:f l[i]=l[i]):l.modify i f=l:=by
 apply List.ext_getElem?;intro k;rw[List.getElem?_modify];by_cases e:i=k
 ·subst e;rw[oGE h];simp[hf]
 ·simp[e]
theorem CS{C:CC}{T:TT'}(h:shp C T)(hT:SmT T):dZ C T=some (C,T,()):=by
 have h1:=h.1;have h2:=h.2.1;unfold dZ
 have e1:cG C=some (C,()):=by
  unfold cG;rw[cn (by omega) (by omega) (by omega) (by omega),oCT];rfl
 have e2:dm T=some (T,()):=by
  unfold dm;rw[cn (by omega) (by omega) (by omega) (by omega),oCT];rfl
 rw[e1,oBS];dsimp only;rw[e2,oBS];delta bu;dsimp only
 have l0:=eS (f:=c8) (st:=λi=>((C.length:Int),(i:Int),C,T,(),(),())) (n:=C.length) (N:=NN) (fin:=((C.length:Int),(C.length:Int),false,C,T,(),(),())) (sC (by omega)) (λi hi=>by
  unfold c8;dsimp only;have hok:=of_decide_eq_true (h.2.2 _ (List.getElem_mem hi));rw[oDT (show(i:Int)<(C.length:Int) by omega),oCT,bV];simp only[oBS];rw[cy hi];simp only[oBS];rw[rR (by unfold Sm;omega),oBS];dsimp only;rw[ot hi rfl,cb (by omega) (by omega)]
  rfl) (by
  unfold c8;dsimp only
  rw[oDF (by omega),oCF])
 rw[show bH c8 NN ((C.length:Int),0,C,T,(),(),())=_ from l0,oBS];dsimp only
 have l1:=eS (f:=cZ) (st:=λi=>((T.length:Int),(i:Int),C,T,(),(),())) (n:=T.length) (N:=NN) (fin:=((T.length:Int),(T.length:Int),false,C,T,(),(),())) (sC (by omega)) (λi hi=>by
  unfold cZ;dsimp only;rw[oDT (show(i:Int)<(T.length:Int) by omega),oCT,bV];simp only[oBS];rw[cy hi];simp only[oBS];unfold eK;rw[rR (hT _ (List.getElem_mem hi))];simp only[oBS];rw[ot hi rfl,cb (by omega) (by omega)]
  rfl) (by
  unfold cZ;dsimp only
  rw[oDF (by omega),oCF])
 rw[show bH cZ NN ((T.length:Int),0,C,T,(),(),())=_ from l1];rfl
theorem DP{C:CC}{T:TT'}{D:CC}{U:TT'}{p:PID}(hp:p∈pgs (szs C) T.length)(h:p ∉ dif C T D U):pg C T p=pg D U p:=Classical.byContradiction λn=>h (zH.2 ⟨hp,n⟩)
def Ev(C:CC)(T:TT')(D:CC)(U:TT')(X:CC)(Y:TT')(L:List PID):Prop:=p6 C T D U/\p6 C T X Y/\(∀p∈L,p∈pgs (szs C) T.length)/\∀q∈pgs (szs C) T.length,q ∉ L->pg X Y q=pg D U q
theorem Ev.done{C:CC}{T:TT'}{D:CC}{U:TT'}{X:CC}{Y:TT'}(h:Ev C T D U X Y []):X=D/\Y=U:=by
 refine zy (h.1.1.trans h.2.1.1.symm) (h.1.2.1.trans h.2.1.2.1.symm) λq hq=>?_;rw[h.2.1.1,h.2.1.2.1]at hq;exact h.2.2.2 q hq (by simp)
theorem CG{C:CC}{T:TT'}{D:CC}{U:TT'}{X:CC}{Y:TT'}{L:List PID}(h:p7 C T)(hJ:Ev C T D U X Y L)(hl:L.length<=1000)(n:Nat){K:Int}(hK:0<=K)(LV:K<=1099511627776)(R A:Int):
 ∃(X':CC)(Y':TT'),cJ R A X Y L K D U (n:Int)=some (R,A,X',Y',L.drop n,K+((L.take n).length:Int),0,())/\Ev C T D U X' Y' (L.drop n):=by
 have hX:=qx h hJ.2.1;have Qe:p6 X Y D U:=⟨hJ.1.1.trans hJ.2.1.1.symm,hJ.1.2.1.trans hJ.2.1.2.1.symm,hJ.1.2.2⟩;have sD:=iN hJ.1 h.2.1
 have ht:L.take (jd L.length n)=L.take n:=by
  unfold jd;rcases Nat.le_total n L.length with g|g
  ·rw[show(max 0 (min (n:Int) (L.length:Int))).toNat=n by omega]
  ·rw[show(max 0 (min (n:Int) (L.length:Int))).toNat=L.length by omega,List.take_length,List.take_of_length_le g]
 have hd:L.drop (jd L.length n)=L.drop n:=by
  unfold jd;rcases Nat.le_total n L.length with g|g
  ·rw[show(max 0 (min (n:Int) (L.length:Int))).toNat=n by omega]
  ·rw[show(max 0 (min (n:Int) (L.length:Int))).toNat=L.length by omega,List.drop_length,List.drop_eq_nil_of_le g]
 have hlt:(L.take n).length<=1000:=by rw[oLT];omega
 have hin:∀i (hi:i<(L.take n).length),(L.take n)[i]∈pgs (szs X) Y.length:=λi hi=>by
  rw[hJ.2.1.1,hJ.2.1.2.1];exact hJ.2.2.1 _ (List.mem_of_mem_take (List.getElem_mem hi))
 unfold cJ jf;rw[CS hX.2.1 hX.2.2,oBS];dsimp only;rw[uX (by unfold Sm;omega)];simp only[oBS];rw[oDF (show ¬(n:Int)<0 by omega),oCF,EO (by unfold Sm;omega),ht,hd,oBS];delta bu;dsimp only;have Zj:∀p∈L.take n,p∈L:=λp hp=>List.mem_of_mem_take hp;obtain⟨F,hF⟩:∃F,F=L.take n:=⟨_,rfl⟩;rw[<- hF]at hlt hin Zj⊢
 obtain⟨r,hr,X',Y',e,hP⟩:=BI (f:=du) (P:=λi s=>∃(X':CC)(Y':TT'),s=((0:Int),(F.length:Int),(i:Int),D,U,(0:Int),(0:Int),(),(),(),(0:Int),R,A,X,Y,L,K,F,L.drop n,X',Y',())/\EE X Y D U (·∈F.take i) X' Y')
  (R:=λr=>∃(X':CC)(Y':TT'),r=.inr ((0:Int),(F.length:Int),(F.length:Int),false,D,U,(0:Int),(0:Int),(),(),(),(0:Int),R,A,X,Y,L,K,F,L.drop n,X',Y',())/\EE X Y D U (·∈F) X' Y') (n:=F.length) (λi s hi hs=>by
   obtain⟨X',Y',rfl,hP⟩:=hs;obtain⟨X2,Y2,e,MY⟩:=zt hX Qe hP (hin i hi);refine⟨_,?_,X2,Y2,rfl,vF MY λq=>?_⟩
   ·unfold du;dsimp only;rw[oDT (show(i:Int)<(F.length:Int) by omega),oCT,bV];simp only[oBS];rw[cy hi];simp only[oBS];rw[F4 sD hJ.1.2.2 (by rw[Qe.1,Qe.2.1];exact hin i hi),oBS];dsimp only;rw[beq_self_eq_true,oCT,e];simp only[oBS];rw[bne_self_eq_false,oCF,cb (by omega) (by omega)];rfl
   ·rw[<- lb hi,List.mem_append,List.mem_singleton]) (λs hs=>by
   obtain⟨X',Y',rfl,hP⟩:=hs;refine⟨_,?_,X',Y',rfl,vF hP λq=>by rw[List.take_length]⟩;unfold du;dsimp only
   rw[oDF (by omega),oCF]) (s:=((0:Int),(F.length:Int),((0:Nat):Int),D,U,(0:Int),(0:Int),(),(),(),(0:Int),R,A,X,Y,L,K,F,L.drop n,X,Y,())) ⟨X,Y,rfl,⟨⟨rfl,rfl,hX.2.2⟩,λq _=>⟨λw=>by simp at w,λ_=>rfl⟩⟩⟩ (N:=NN) (sC (by omega))
 subst e;rw[show bH du NN ((0:Int),(F.length:Int),0,D,U,0,0,(),(),(),0,R,A,X,Y,L,K,F,L.drop n,X,Y,())=_ from hr];dsimp only;rw[bne_self_eq_false,oCF,cb (by omega) (by omega)];refine⟨X',Y',rfl,hJ.1,qw hJ.2.1 hP.1,λp hp=>hJ.2.2.1 p (List.mem_of_mem_drop hp),λq hq hn=>?_⟩;have h1:=hP.2 q (by rw[hJ.2.1.1,hJ.2.1.2.1];exact hq);by_cases g:q∈F
 ·exact h1.1 g
 ·rw[h1.2 g];refine hJ.2.2.2 q hq λw=>?_;rw[<- List.take_append_drop n L]at w;rcases List.mem_append.1 w with w|w
  ·exact g (hF▸w)
  ·exact hn w
def zC:List CT->CT
 | []=>.nat
 | [t]=>t
 |t::u::r=>.pair t (zC (u::r))
def ko:(l:List CT)->HL den l->den (zC l)
 | [],_=>(0:Nat)
 | [_],h=>h.1
 |_::u::r,h=>(h.1,ko (u::r) h.2)
def encL:(l:List CT)->HL den l->List TV
 | [],_=>[]
 |t::r,h=>enc t h.1++encL r h.2
theorem vZ:∀(l:List CT)(h:HL den l),enc (zC l) (ko l h)=encL l h
 | [],_=>rfl
 | [_],h=>(List.append_nil _).symm
 |_::u::r,h=>by
  show enc _ h.1++enc (zC (u::r)) (ko (u::r) h.2)=_;rw[vZ (u::r) h.2];rfl
def AJ:(c:CT)->den c->Prop
 |.int k,n=>(Lit.int k n).wf=true
 |.str,s=>ByteArray.size s<=maxLen
 |.row _ t,xs=>List.length xs<=maxLen/\∀x∈xs,AJ t x
 |.pair a b,x=>AJ a x.1/\AJ b x.2
 |_,_=>True
def GoodL:(l:List CT)->HL den l->Prop
 | [],_=>True
 |t::r,h=>AJ t h.1/\GoodL r h.2
theorem td:∀(l:List CT)(h:HL den l),GoodL l h->AJ (zC l) (ko l h)
 | [],_,_=>trivial
 | [_],_,g=>g.1
 |_::u::r,h,g=>⟨g.1,td (u::r) h.2 g.2⟩
def appL:(l m:List CT)->HL den l->HL den m->HL den (l++m)
 | [],_,_,k=>k
 |_::r,m,h,k=>(h.1,appL r m h.2 k)
theorem wa:∀(l m:List CT)(h:HL den l)(k:HL den m),encL (l++m) (appL l m h k)=encL l h++encL m k
 | [],_,_,_=>rfl
 |t::r,m,h,k=>by
  show enc t h.1++encL (r++m) (appL r m h.2 k)=(enc t h.1++encL r h.2)++_;rw[wa r m h.2 k,List.append_assoc]
theorem vP:∀(l m:List CT)(h:HL den l)(k:HL den m),GoodL l h->GoodL m k->GoodL (l++m) (appL l m h k)
 | [],_,_,_,_,g=>g
 |_::r,m,h,k,g,g'=>⟨g.1,vP r m h.2 k g.2 g'⟩
def RelL(w:World):List TV->List Value->Prop
 | [],[]=>True
 |t::ts,v::vs=>fb w (λ_=>True) t v/\RelL w ts vs
 |_,_=>False
theorem RelL.app{w:World}:∀{a:List TV}{x:List Value}{b:List TV}{y:List Value},RelL w a x->RelL w b y->RelL w (a++b) (x++y)
 | [],[],_,_,_,h=>h
 |_::a,_::x,_,_,g,h=>⟨g.1,RelL.app (a:=a) (x:=x) g.2 h⟩
 | [],_::_,_,_,g,_=>g.elim
 |_::_,[],_,_,g,_=>g.elim
theorem RelL.len{w:World}:∀{a:List TV}{x:List Value},RelL w a x->a.length=x.length
 | [],[],_=>rfl
 |_::a,_::x,g=>by rw[oLC,oLC,RelL.len (a:=a) (x:=x) g.2]
 | [],_::_,g=>g.elim
 |_::_,[],g=>g.elim
theorem RelL.get{w:World}:∀{a:List TV}{x:List Value},RelL w a x->∀j (h:j<a.length)(h':j<x.length),fb w (λ_=>True) a[j] x[j]
 |_::_,_::_,g,0,_,_=>g.1
 |_::a,_::x,g,j+1,h,h'=>RelL.get (a:=a) (x:=x) g.2 j (by simpa using h) (by simpa using h')
 | [],_,_,_,h,_=>by simp at h
 |_::_,[],g,_,_,_=>g.elim
def ES(P:Program)(g:TypeId->Option (List CT)):Nat->List Field->Option (List CT)
 |_,[]=>some []
 |off,f::fs=>match g f.type with
  |some l=>if f.offset=off/\l.length=P.cellsOf f.type then(ES P g (off+l.length) fs).map (l++·)else none
  |none=>none
def od(P:Program):Nat->TypeId->Option (List CT)
 |0,_=>none
 |n+1,t=>match P.underlying t with
  |some .bool=>some [.bool]
  |some (.int k)=>some [.int k]
  |some .string=>some [.str]
  |some (.slice e)=>match od P n e with
   |some l=>if l.length=P.cellsOf e then some [.row false (zC l)]else none
   |none=>none
  |some (.struct fs)=>match ES P (od P n) 0 fs.toList with
   |some l=>if l.length=P.cellsOf t then some l else none
   |none=>none
  |_=>none
section
variable {H:Type} {ec:TypeId×Value->H} {P:Program} {w:World} {base:Nat} {spare:Nat->Bool} {held:Bool}
theorem zV{g:TypeId->Option (List CT)}{m:Nat}{cs:List Value}
 (ih:∀t L,g t=some L->∀cs x,DataW.trod ec P w base spare held m t cs=some x->∃h:HL den L,GoodL L h/\RelL w (encL L h) cs):
 ∀(fs:List Field)(off:Nat)(L:List CT),ES P g off fs=some L->(∀f∈fs,∃x,DataW.trod ec P w base spare held m f.type ((cs.drop f.offset).take (P.cellsOf f.type))=some x)->
  ∃h:HL den L,GoodL L h/\RelL w (encL L h) ((cs.drop off).take L.length):=by
 intro fs
 induction fs with
 |nil=>
  intro off L hL _
  injection hL with hL
  subst hL;exact⟨(),trivial,trivial⟩
 |cons f fs Rz=>
  intro off L hL hx;unfold ES at hL;split at hL
  ·rename_i l hg;split at hL
   ·rename_i ho;obtain⟨rfl,hlen⟩:=ho
    cases hr:ES P g (f.offset+l.length) fs with
    |none=>simp_all
    |some L2=>
     rw[hr]at hL
     injection hL with hL
     subst hL;obtain⟨x,h1⟩:=hx f List.mem_cons_self;obtain⟨h,g1,r1⟩:=ih _ _ hg _ _ h1;have ⟨k,g2,r2⟩:=Rz _ _ hr λf' RT=>hx f' (List.mem_cons_of_mem _ RT);refine⟨appL l L2 h k,vP _ _ _ _ g1 g2,?_⟩;rw[wa,List.length_append,List.take_add,List.drop_drop];rw[hlen];rw[hlen]at r2;exact r1.app r2
   ·cases hL
  ·cases hL
theorem Fb:∀(n:Nat)(t:TypeId)(L:List CT),od P n t=some L->∀(XT:Nat)(cs:List Value)(x:DataW H×List MemPlace),DataW.trod ec P w base spare held XT t cs=some x ->
 ∃h:HL den L,GoodL L h/\RelL w (encL L h) cs:=by
 intro n
 induction n with
 |zero=>intro t L h;cases h
 |succ n ih=>
  intro t L hL XT cs x hx;unfold od at hL;split at hL
  ·rename_i ht
   injection hL with hL
   subst hL;obtain⟨b,rfl,_⟩:=DataW.trod_bool ht hx;exact⟨(b,()),⟨trivial,trivial⟩,.v rfl,trivial⟩
  ·rename_i k ht
   injection hL with hL
   subst hL;obtain⟨z,rfl,_,hw⟩:=DataW.trod_int ht hx;exact⟨(z,()),⟨hw,trivial⟩,.v rfl,trivial⟩
  ·rename_i ht
   injection hL with hL
   subst hL;obtain⟨s,rfl,_,hs⟩:=DataW.trod_string ht hx;exact⟨(s,()),⟨hs,trivial⟩,.v rfl,trivial⟩
  ·rename_i e ht;split at hL
   ·rename_i l hl;split at hL
    ·rename_i hsz
     injection hL with hL
     subst hL
     rcases DataW.trod_slice ht hx with⟨rfl,_⟩|⟨a,len,cap,OU,rest,m,_,rfl,_,_,Yr,hmax,YW,Z5,_,_⟩
     ·exact⟨([],()),⟨⟨Nat.zero_le _,λx hx=>by cases hx⟩,trivial⟩,.sl (c:=[]) 1 (λ_ _=>undef) (λi h=>by simp at h) (Nat.le_refl _) (Nat.zero_le _) (λ_=>rfl) (λi j h=>by simp at h) (λi j h=>by simp at h),trivial⟩
     ·have PZ:∀i:Fin len,∃p:HL den l×List Value,GoodL l p.1/\RelL w (encL l p.1) p.2/\w.cells? base (a.add (i.1*P.cellsOf e)) (P.cellsOf e)=some p.2:=by
       intro i;have h1:=Z5 i.1 i.2;rw[oGE (by omega)]at h1;obtain⟨RM,h2,h3⟩:=Option.bind_eq_some_iff.1 h1;obtain⟨h,g,r⟩:=ih _ _ hl _ _ _ h3;exact⟨(h,RM),g,r,h2⟩
      obtain⟨f,hf⟩:=Classical.axiomOfChoice PZ
      have PY:∀i,(encL l (f i).1).length=l.length:=λi=>by
       rw[(hf i).2.1.len,(World.cells?_some (hf i).2.2).2.1,hsz]
      have ZO:fb w (λ_=>True) (.sl ((List.ofFn λi:Fin len=>ko l (f i).1).map (enc (zC l)))) (.slice (some a) ((List.ofFn λi:Fin len=>ko l (f i).1).map (enc (zC l))).length cap):=by
       have el:((List.ofFn λi:Fin len=>ko l (f i).1).map (enc (zC l))).length=len:=by simp
       have eg:∀i (hi:i<((List.ofFn λi:Fin len=>ko l (f i).1).map (enc (zC l))).length),((List.ofFn λi:Fin len=>ko l (f i).1).map (enc (zC l)))[i]=encL l (f ⟨i,by omega⟩).1:=by
        intro i hi;simp[vZ]
       refine .sl l.length (λi j=>if h:i<len then(f ⟨i,h⟩).2.getD j undef else undef) (λi hi=>by rw[eg i hi,PY]) (by rw[el];exact Yr) hmax (λh=>by cases h) (λi j hi hj=>?_) (λi j hi hj=>?_)
       ·rw[el]at hi
        have cell:∀i' (ZL:i'<len) j',j'<l.length->w.cell? ((a.add (i'*l.length)).add j')=some ((f ⟨i',ZL⟩).2.getD j' undef):=by
         intro i' ZL j' ZW;have h1:=World.cells?_some (hf ⟨i',ZL⟩).2.2;have h2:=h1.2.2 j' (by omega);rw[hsz];rw[h2]
         have:j'<(f ⟨i',ZL⟩).2.length:=by rw[h1.2.1];omega
         simp[this]
        have h0:=World.cell?_spot (cell 0 (by omega) 0 (by omega));obtain⟨b,o,spot⟩:=a
        have Tt:spot=none:=by simpa[Addr.add]using h0
        subst Tt;refine⟨b,o,rfl,trivial,?_⟩;have h2:=cell i hi j hj;rw[Go.WideShapes.add_plain,Go.WideShapes.add_plain]at h2;rw[dif_pos hi,<- h2,Nat.add_assoc]
       ·rw[el]at hi;have hr:=(hf ⟨i,hi⟩).2.1
        have XZ:j<(encL l (f ⟨i,hi⟩).1).length:=by rw[eg i (by omega)]at hj;exact hj
        have T4:j<(f ⟨i,hi⟩).2.length:=by rw[<- hr.len];exact XZ
        have h3:=hr.get j XZ T4
        simp_all
      rw[List.length_map,List.length_ofFn]at ZO;refine⟨(List.ofFn λi:Fin len=>ko l (f i).1,()),⟨⟨by rw[List.length_ofFn];omega,λx hx=>?_⟩,trivial⟩,ZO,trivial⟩;obtain⟨i,rfl⟩:=List.mem_ofFn.1 hx;exact td _ _ (hf i).1
    ·cases hL
   ·cases hL
  ·rename_i fs ht;split at hL
   ·rename_i l hl;split at hL
    ·rename_i hsz
     injection hL with hL
     subst hL;obtain⟨xs,m,_,_,hlen,Ro,hf⟩:=DataW.trod_struct ht hx
     obtain⟨h,g,r⟩:=zV (cs:=cs) (m:=m) (λt L hL cs x hx=>ih t L hL m cs x hx) fs.toList 0 l hl (by
      intro f M8;obtain⟨i,hi,rfl⟩:=List.mem_iff_getElem.1 M8
      have QN:i<fs.size:=by simpa using hi
      have h1:=hf i fs[i] (by simp[QN]);rw[oGE (by omega)]at h1
      exact⟨_,by simpa using h1⟩)
     refine⟨h,g,?_⟩;rw[List.drop_zero,hsz,<- hlen,List.take_length]at r;exact r
    ·cases hL
   ·cases hL
  ·cases hL
theorem intake_arg(n:Nat){t:TypeId}{L:List CT}{v:Value}{d:DataW H}{p:List MemPlace}(hL:od P n t=some L)(h:DataW.Trod ec P w base spare held t v d p):
 ∃h:HL den L,GoodL L h/\RelL w (encL L h) v.cells.toList:=by
 have ⟨XT,hf⟩:=h;exact Fb n t L hL XT _ _ hf
end
theorem plain_one{w:World}{t:TV}{v:Value}(r:RelL w [t] [v]):u7 w t v:=r.1.plain
abbrev SpS:Type:=(List (Int))×Int×Int×Int×Int×(List (List DCn))×(List DTs)×Int×Int×(List (List DCn))×(List DTs)×(List DCe)×Int×Int×Int×(List (List DCn))×(List DTs)×(List DCe)×Int×Unit
abbrev SpT:Type:=(List (Int))×Int×Int×Int×Int×Bool×(List (List DCn))×(List DTs)×Int×Int×(List (List DCn))×(List DTs)×(List DCe)×Int×Int×Int×(List (List DCn))×(List DTs)×(List DCe)×Int×Unit
theorem AU(l:List Int)(st:List Int)(hst:∀x∈st,0<=x/\x<=255):dP l st=some (true,()):=by
 unfold dP;rw[F6,oBS];delta bu;dsimp only;by_cases hl:l.length<=400
 rotate_left
 ·rw[oDF hl];simp only[Bool.not_false,oCT];rw[u3];rfl
 rw[oDT hl];simp only[oNT,oCF];by_cases hs:(st.length:Int)>40
 ·rw[oDT hs,oCT,u3];rfl
 rw[oDF hs,oCF];obtain⟨C,T,k1,e,hd,h1⟩:=Dc hl (Int.le_refl 0);rw[e,oBS];dsimp only;obtain⟨x,k2,e,xa,xb,h2⟩:=eR (n:=20) (by omega) (by omega) hl h1;rw[e,oBS];dsimp only;obtain⟨D,U,k3,e,hD,h3⟩:=E4 hd xa (by omega) hl h2;rw[e,oBS];dsimp only;have U7:=zM hd;have a12:=Ck hd hD U7;have c4:=hd.2.1.1;obtain⟨L,hL⟩:∃L,L=dif D U C T:=⟨_,rfl⟩
 have hB:fv D U C T 2 7=some (.inl (2,7,D,U,L,0,0,())):=by
  unfold fv g8;rw[qQ (show Sm C by unfold Sm;omega),oDT hd.2.1];simp only[oBS,oNT,oCF];rw[AD a12 hD.2.2 hd.2.2,oBS];dsimp only;rw[beq_self_eq_true,oCT,CS (iN hD hd.2.1) hD.2.2,oBS,hL]
 rw[hB];dsimp only
 have hlen:L.length<=20:=by
  rw[hL];exact Ea (iN hD hd.2.1)
 have hJ:Ev C T C T D U L:=by
  refine⟨U7,hD,λp hp=>?_,λq hq hn=>?_⟩
  ·rw[hL]at hp;have:=(zH.1 hp).1;rw[hD.1,hD.2.1]at this;exact this
  ·exact DP (by rw[hD.1,hD.2.1];exact hq) (hL▸hn)
 obtain⟨X1,Y1,e,O1⟩:=CG hd hJ (by omega) 20 (K:=0) (by omega) (by omega) 2 7;rw[List.drop_eq_nil_of_le hlen,List.take_of_length_le hlen]at e;rw[List.drop_eq_nil_of_le hlen]at O1;obtain⟨rfl,rfl⟩:=O1.done;rw[show cJ 2 7 D U L 0 X1 Y1 20=_ from e,oBS];dsimp only;rw[Int.zero_add]
 obtain⟨r,e,hr⟩:=ma (f:=b5)
  (λs=>∃(i:Nat)(X:CC)(Y:TT')(M:List PID),s=(st,0,(L.length:Int),0,(i:Int),X1,Y1,2,7,X,Y,M,(L.length:Int)-(M.length:Int),2,7,X1,Y1,[],(L.length:Int),())/\Ev X1 Y1 X1 Y1 X Y M/\M.length<=L.length/\i<=60/\(st.length<=i->M.length+i<=20+st.length))
  (λt=>t=(st,0,(L.length:Int),0,t.2.2.2.2.1,false,X1,Y1,2,7,X1,Y1,[],(L.length:Int),2,7,X1,Y1,[],(L.length:Int),()))
  (λs=>(100-s.2.2.2.2.1).toNat) (n:=NN) (s:=(st,0,(L.length:Int),0,0,X1,Y1,2,7,D,U,L,0,2,7,X1,Y1,[],(L.length:Int),()))
  ⟨0,D,U,L,by rw[Int.sub_self];rfl,hJ,Nat.le_refl _,by omega,λg=>by omega⟩ (by unfold NN;show(100-(0:Int)).toNat<_;omega) (by
  rintro s ⟨i,X,Y,M,rfl,hJ,hM,hi,hm⟩;unfold b5 fh;delta bu;dsimp only
  have body:∀n:Nat,n<=3->(st.length<=i->n=1)->(i<st.length\/M≠[])->
   Ok ((cJ 2 7 X Y M ((L.length:Int)-(M.length:Int)) X1 Y1 (n:Int)).bind λ(x40,x41,x42,x43,x44,x45,x46,_)=>
    bif(x46 != 0)then(none)else
    let Oj:Int:=(x44.length:Int);
    let Ol:Int:=(M.length:Int);
    let Om:Int:=(w64 (Ol-(n:Int)));
    let On:Int:=(mmR true 0 Om);
    bif(Oj != On)then(none)else
    let Oo:Int:=(w64 ((i:Int)+1));
    (some (.inl (st,0,(L.length:Int),0,Oo,X1,Y1,x40,x41,x42,x43,x44,x45,2,7,X1,Y1,[],(L.length:Int),())):Option (SpS⊕SpT)))
   λr=>∃s':SpS,r=.inl s'/\(∃(i:Nat)(X:CC)(Y:TT')(M:List PID),s'=(st,0,(L.length:Int),0,(i:Int),X1,Y1,2,7,X,Y,M,(L.length:Int)-(M.length:Int),2,7,X1,Y1,[],(L.length:Int),())/\Ev X1 Y1 X1 Y1 X Y M/\M.length<=L.length/\i<=60/\(st.length<=i->M.length+i<=20+st.length))/\(100-s'.2.2.2.2.1).toNat<(100-(i:Int)).toNat:=by
   intro n hn h1 h2
   have L7:i<60:=by
    rcases h2 with g|g
    ·omega
    ·have:0<M.length:=List.length_pos_iff.2 g;by_cases g2:i<st.length
     ·omega
     ·have:=hm (by omega);omega
   obtain⟨X2,Y2,e,MU⟩:=CG hd hJ (by omega) n (K:=(L.length:Int)-(M.length:Int)) (by omega) (by omega) 2 7;rw[e,oBS];dsimp only;rw[bne_self_eq_false,oCF,cb (x:=(M.length:Int)-(n:Int)) (by omega) (by omega)]
   have em:mmR true 0 ((M.length:Int)-(n:Int))=((M.drop n).length:Int):=by
    rw[List.length_drop];unfold mmR;simp only[if_true];split<;>omega
   rw[em,bne_self_eq_false,oCF,cb (x:=(i:Int)+1) (by omega) (by omega)];refine⟨_,rfl,_,rfl,⟨i+1,X2,Y2,M.drop n,?_,MU,?_,by omega,λg=>?_⟩,?_⟩
   ·have e1:(L.length:Int)-(M.length:Int)+((M.take n).length:Int)=(L.length:Int)-((M.drop n).length:Int):=by
     rw[oLT,List.length_drop];omega
    rw[e1];rfl
   ·rw[List.length_drop];omega
   ·rw[List.length_drop];by_cases g2:st.length<=i
    ·have:=hm g2;have:=h1 g2;rcases h2 with g3|g3
     ·omega
     ·have:0<M.length:=List.length_pos_iff.2 g3;omega
    ·omega
   ·show(100-((i:Int)+1)).toNat<(100-(i:Int)).toNat;omega
  have fin:∀{o:Option (SpS⊕SpT)}{Q:_->Prop}{Q2:_->Prop},Ok o (λr=>∃s',r=.inl s'/\Q s'/\Q2 s')->∃r,o=some r/\(∃s',r=.inl s'/\Q s'/\Q2 s'):=λh=>h;by_cases g:(i:Int)<(st.length:Int)
  ·rw[oDT g,oCT];dsimp only;rw[oDF (show ¬(i:Int)>200 by omega),oCF,bV];simp only[oBS]
   have gi:i<st.length:=by omega
   rw[cy gi];simp only[oBS];have hb:=hst _ (List.getElem_mem gi);rw[show wk .i64 st[i]=st[i]from wrap_i64 (by omega) (by omega)];have t0:0<=Int.tmod st[i] 4:=Int.tmod_nonneg _ hb.1;have t1:Int.tmod st[i] 4<4:=Int.tmod_lt_of_pos _ (by omega);obtain⟨n,hn⟩:∃n:Nat,Int.tmod st[i] 4=n:=⟨(Int.tmod st[i] 4).toNat,by omega⟩;rw[hn]at t1⊢;obtain⟨r,e,s',rfl,p1,p2⟩:=body n (by omega) (λg2=>by omega) (.inl gi);rw[oDT g,oCT,oBS];exact⟨.inl s',e,p1,p2⟩
  rw[oDF g,oCF];by_cases g2:M=[]
  ·subst g2;rw[show((([]:List PID).length:Int)==0)=true from rfl];simp only[oBS,oNT,oCF];obtain⟨rfl,rfl⟩:=hJ.done;refine⟨_,rfl,?_⟩;rw[List.length_nil,Int.natCast_zero,Int.sub_zero]
  ·have:0<M.length:=List.length_pos_iff.2 g2;rw[oBF (show(M.length:Int)≠0 by omega)];simp only[oBS,Bool.not_false,oCT];rw[oDF (show ¬(i:Int)>200 by omega),oCF];obtain⟨r,e,s',rfl,p1,p2⟩:=body 1 (by omega) (λ_=>rfl) (.inr g2);rw[oDF g,oCF,oBS]
   exact⟨.inl s',e,p1,p2⟩)
 rw[show bH b5 NN (st,0,(L.length:Int),0,0,X1,Y1,2,7,D,U,L,0,2,7,X1,Y1,[],(L.length:Int),())=_ from e,oBS,hr];dsimp only;rw[beq_self_eq_true,oCT,oCT];unfold gI;rw[beq_self_eq_true,oCT,beq_self_eq_true,oCT,beq_self_eq_true,oCT,EU (by unfold Sm;simp) (by unfold Sm;simp),oBS,oDT rfl];dsimp only;rw[oCT,EV hd.2.1 hd.2.2,oBS,oDT ⟨rfl,rfl⟩];simp only[oBS,oCT];rw[u3];rfl
theorem law_RepairSpeeds{h0:HL den [RI]}{h1:HL den [(.row false (.int .u8))]}(g0:GoodL _ h0)(g1:GoodL _ h1):fU.g (appL [RI] _ h0 (appL [(.row false (.int .u8))] _ h1 ()))=some (true,()):=AU h0.1 h1.1 λx hx=>by
 have h2:(Lit.int .u8 x).wf=true:=g1.1.2 x hx;simp[Lit.wf,IntKind.min,IntKind.max,IntKind.signed,IntKind.bits]at h2;omega
end Go.Proofs.Ytakfoejcjdcgbaa
