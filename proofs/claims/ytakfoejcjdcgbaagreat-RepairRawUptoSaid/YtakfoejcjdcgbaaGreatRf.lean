/- Part of the proof; no condition. -/
import Derived.Test.YtakfoejcjdcgbaaGreatRe
import Derived.Deep.Slices
set_option linter.unusedVariables false
set_option linter.unusedSimpArgs false
namespace Go.Proofs.YtakfoejcjdcgbaaGreat
open Go.RowKit Go.Lib
theorem Li{l:List ST}(hl:∀s∈l,StQ s.1 s.2){I:List Bool}{a b least:Int}(h:(agK l I a b least).2.2=0):
 ((agK l I a b least).1.1,(agK l I a b least).1.2.1)=((a,b):PID)/\PgK (agK l I a b least).1:=by
 unfold agK at h⊢;by_cases h1:l.length<=5/\I.length=l.length/\1<=least/\least<=5
 rotate_left
 ·rw[oIN h1]at h;dsimp only at h;split at h<;>cases h
 rw[oIP h1]at h⊢;by_cases h2:(vd (jP l I a b) l.length least).1=1\/(vd (jP l I a b) l.length least).1=2
 rotate_left
 ·rw[oIN h2]at h;cases h
 rw[oIP h2]at h⊢;obtain⟨_,k0,UI,WH⟩:=Fz h2;generalize(vd (jP l I a b) l.length least).2.1=bs at WH⊢;have hf:(List.range l.length).findIdx (λk=>decide (jP l I a b k=some (true,bs)))<(List.range l.length).length:=List.findIdx_lt_length_of_exists ⟨k0,List.mem_range.2 UI,oDT WH⟩;have hg:=of_decide_eq_true (List.findIdx_getElem (xs:=List.range l.length) (p:=λk=>decide (jP l I a b k=some (true,bs))) (w:=hf));rw[List.getElem_range]at hg;rw[List.length_range]at hf;generalize(List.range l.length).findIdx (λk=>decide (jP l I a b k=some (true,bs)))=k at hf hg;dsimp only;unfold jP at hg;split at hg
 rotate_left
 ·cases hg
 injection hg with hg
 have hH:Hs (l.getD k ([],[])) a b:=Classical.byContradiction λn=>by
  unfold vc at hg;rw[oIN n]at hg;cases hg
 have e:f8 a b (l.getD k ([],[]))=pg (l.getD k ([],[])).1 (l.getD k ([],[])).2 (a,b):=oIP hH;have hq:=OY (hl (l.getD k ([],[])) (by rw[cP hf];exact List.getElem_mem hf)) (a,b);rw[e];exact⟨Mi (a,b),Nat.le_trans hq.lc (by omega),Nat.le_trans hq.lr (by omega)⟩
theorem DU{l:List ST}{I:List Bool}{a b least:Int}:(agK l I a b least).2.1.length<=5/\∀x∈(agK l I a b least).2.1,∃j:Nat,j<l.length/\x=j:=by
 unfold agK;by_cases h1:l.length<=5/\I.length=l.length/\1<=least/\least<=5
 rotate_left
 ·rw[oIN h1];exact⟨Nat.zero_le _,λx hx=>by cases hx⟩
 rw[oIP h1];split
 ·exact⟨Nat.le_trans (KJ _ _ _) h1.1,λx hx=>Lq hx⟩
 ·exact⟨Nat.zero_le _,λx hx=>by cases hx⟩
def flg(n:Nat)(L:List Int):List Bool:=(List.range n).map λj:Nat=>decide ((j:Int)∈L)
theorem rR(n:Nat)(L:List Int):(flg n L).length=n:=by unfold flg;simp
theorem ML{n m:Nat}(hm:m<n)(L:List Int):(flg n L).modify m (λ_=>true)=flg n (L++[(m:Int)]):=He _ _ hm _ λj=>by
 by_cases e:j=m
 ·subst e;rw[oIP rfl,oDT (by simp)]
 ·rw[oIN e];rw[decide_eq_decide];rw[List.mem_append,List.mem_singleton];exact⟨λh=>h.elim id λh=>absurd (by omega) e,λh=>.inl h⟩
theorem ER{l:List ST}{I:List Bool}{S:List Int}{ids:List PID}{P:List PG}{least it:Int}{L lo:List Int}(VL:lo.length<=1000)(hx:∀x∈lo,∃j:Nat,j<l.length/\x=j):
 bM fU NN (l,I,least,S,it,lo,0,(),(),S,ids,flg l.length L,P,())=some (l,I,least,S,it,lo,(lo.length:Int),false,(),(),S,ids,flg l.length (L++lo),P,()):=by
 have l0:=loop_seq (f:=fU) (st:=λk=>(l,I,least,S,it,lo,(k:Int),(),(),S,ids,flg l.length (L++lo.take k),P,())) (n:=lo.length) (N:=NN) (fin:=(l,I,least,S,it,lo,(lo.length:Int),false,(),(),S,ids,flg l.length (L++lo.take lo.length),P,())) (eA (by omega)) (λk hk=>by
  obtain⟨j,hj,ej⟩:=hx _ (List.getElem_mem hk);unfold fU;delta bJ;dsimp only;rw[oDT (show(k:Int)<(lo.length:Int) by omega),oCT,bN];simp only[oBS];rw[bQ hk];simp only[oBS];rw[ej,bN];simp only[oBS];rw[bQ (show j<(flg l.length (L++lo.take k)).length by rw[rR];exact hj)];simp only[oBS];rw[ML hj,bR (by omega) (by omega),<- fb hk,<- ej,List.append_assoc]
  rfl) (by
  unfold fU;delta bJ;dsimp only
  rw[oDF (by omega),oCF])
 rw[List.take_length]at l0;rw[<- l0,show flg l.length (L++lo.take 0)=flg l.length L by rw[List.take_zero,List.append_nil]];rfl
structure WI (ids:List PID)(i:Nat)(P:List PG)(L:List Int)(n:Nat):Prop where
 len:P.length=i
 id:∀j (h:j<i)(h':j<P.length)(h2:j<ids.length),(P[j].1,P[j].2.1)=ids[j]
 pgk:∀p∈P,PgK p
 ll:L.length<=5*i
 lost:∀x∈L,∃j:Nat,j<n/\x=j
theorem Fy{l:List ST}(hl:∀s∈l,StQ s.1 s.2)(hn:l.length<=1000){I:List Bool}(hI:Sm I){S:List Int}{ids:List PID}(hi20:ids.length<=20){least:Int}:∀(k i:Nat),i+k=ids.length->∀(P:List PG)(L:List Int),WI ids i P L l.length->∀M,k<M ->
 (∃e:Int,bM cE M (l,I,least,S,(ids.length:Int),(i:Int),(),(),S,ids,P,L,())=some (.inl (e,(),(),(),()))/\bM cL M (l,I,least,S,(i:Int),(),(),S,ids,flg l.length L,P,())=some (.inl (e,(),(),(),())))\/
 ∃(P':List PG)(L':List Int),WI ids ids.length P' L' l.length/\bM cE M (l,I,least,S,(ids.length:Int),(i:Int),(),(),S,ids,P,L,())=some (.inr (l,I,least,S,(ids.length:Int),(ids.length:Int),false,(),(),S,ids,P',L',()))/\
  bM cL M (l,I,least,S,(i:Int),(),(),S,ids,flg l.length L,P,())=some (.inr (l,I,least,S,(ids.length:Int),false,(),(),S,ids,flg l.length L',P',())):=by
 intro k
 induction k with
 |zero=>
  intro i hi P L h M hM;obtain⟨M,rfl⟩:∃m,M=m+1:=⟨M-1,by omega⟩
  obtain rfl:i=ids.length:=by omega
  have e1:cE (l,I,least,S,(ids.length:Int),(ids.length:Int),(),(),S,ids,P,L,())=some (.inr (.inr (l,I,least,S,(ids.length:Int),(ids.length:Int),false,(),(),S,ids,P,L,()))):=by
   unfold cE;dsimp only;rw[oDF (by omega),oCF]
  have e2:cL (l,I,least,S,(ids.length:Int),(),(),S,ids,flg l.length L,P,())=some (.inr (.inr (l,I,least,S,(ids.length:Int),false,(),(),S,ids,flg l.length L,P,()))):=by
   unfold cL;delta bJ;dsimp only;rw[oDF (by omega),oCF]
  exact .inr ⟨P,L,h,by simp only[bM,e1,oBS],by simp only[bM,e2,oBS]⟩
 |succ k ih=>
  intro i hi P L h M hM;obtain⟨M,rfl⟩:∃m,M=m+1:=⟨M-1,by omega⟩
  have hii:i<ids.length:=by omega
  have e1:=IJ hl hn hI ids[i].1 ids[i].2 least;have e2:=II hl hn I ids[i].1 ids[i].2 least;have e3:=Li hl (I:=I) (a:=ids[i].1) (b:=ids[i].2) (least:=least);have e4:=DU (l:=l) (I:=I) (a:=ids[i].1) (b:=ids[i].2) (least:=least);generalize agK l I ids[i].1 ids[i].2 least=r at e1 e2 e3 e4;have PV:=h.len;have hLl:=h.ll
  have hw:w64 ((i:Int)+1)=((i+1:Nat):Int):=by rw[bR (by omega) (by omega)];rfl
  have s1:cE (l,I,least,S,(ids.length:Int),(i:Int),(),(),S,ids,P,L,())=bif(r.2.2 != 0)then(some (.inr (.inl (r.2.2,(),(),(),()))))else some (.inl (l,I,least,S,(ids.length:Int),((i+1:Nat):Int),(),(),S,ids,P++[r.1],L++r.2.1,())):=by
   unfold cE;dsimp only;rw[oDT (show(i:Int)<(ids.length:Int) by omega),oCT,bN];simp only[oBS];rw[bQ hii];simp only[oBS];rw[e1,oBS];dsimp only;rw[bT (by omega) (by simp) (by omega) (by show _+1<=_;omega),oCT,bT (by omega) (by omega) (by omega) (by omega),oCT,hw];rfl
  have s2:cL (l,I,least,S,(i:Int),(),(),S,ids,flg l.length L,P,())=bif(r.2.2 != 0)then(some (.inr (.inl (r.2.2,(),(),(),()))))else some (.inl (l,I,least,S,((i+1:Nat):Int),(),(),S,ids,flg l.length (L++r.2.1),P++[r.1],())):=by
   unfold cL;delta bJ;dsimp only;rw[oDT (show(i:Int)<(ids.length:Int) by omega),oCT,bN];simp only[oBS];rw[bQ hii];simp only[oBS];rw[e2,oBS];dsimp only;rw[bT (by omega) (by simp) (by omega) (by show _+1<=_;omega),oCT];rw[ER (by omega) e4.2,oBS];dsimp only;rw[hw];rfl
  by_cases he:r.2.2=0
  ·rw[bne_eq_false_iff_eq.2 he,oCF]at s1 s2;obtain⟨e5,e6⟩:=e3 he
   have hW:WI ids (i+1) (P++[r.1]) (L++r.2.1) l.length:=by
    refine⟨by rw[List.length_append,PV];rfl,λj hj h' h2=>?_,λp hp=>?_,by rw[List.length_append];omega,λx hx=>?_⟩
    ·by_cases g:j<i
     ·rw[List.getElem_append_left (show j<P.length by omega)];exact h.id j g (by omega) h2
     ·obtain rfl:j=i:=by omega
      rw[List.getElem_append_right (by omega)];simp only[PV,Nat.sub_self,List.getElem_cons_zero];exact e5
    ·rcases List.mem_append.1 hp with hp|hp
     ·exact h.pgk p hp
     ·rw[List.mem_singleton.1 hp];exact e6
    ·rcases List.mem_append.1 hx with hx|hx
     ·exact h.lost x hx
     ·exact e4.2 x hx
   rcases ih (i+1) (by omega) _ _ hW M (by omega)with⟨e,g1,g2⟩|⟨P',L',g0,g1,g2⟩
   ·exact .inl ⟨e,by simp only[bM,s1,oBS];exact g1,by simp only[bM,s2,oBS];exact g2⟩
   ·exact .inr ⟨P',L',g0,by simp only[bM,s1,oBS];exact g1,by simp only[bM,s2,oBS];exact g2⟩
  ·rw[bne_iff_ne.2 he,oCT]at s1 s2;exact .inl ⟨r.2.2,by simp only[bM,s1,oBS],by simp only[bM,s2,oBS]⟩
theorem MD{I:List Bool}(h:Sm I):fL I true=some (if I.findIdx (λb=>b)<I.length then(I.findIdx (λb=>b):Int)else -1,()):=by
 unfold fL;delta bJ;dsimp only;have h0:=h
 rcases fD (f:=cy) (st:=λi=>(I,true,(I.length:Int),(i:Int),())) (p:=λi=>∀h:i<I.length,I[i]=false) (n:=I.length) (N:=NN) (bad:=λi=>.inl ((i:Int),())) (fin:=.inr (I,true,(I.length:Int),(I.length:Int),false,())) (eA h) (λi hi=>by
  have e:cy (I,true,(I.length:Int),(i:Int),())=if I[i]=true then some (.inr (.inl ((i:Int),())))else some (.inl (I,true,(I.length:Int),((i+1:Nat):Int),())):=by
   unfold cy;dsimp only;rw[oDT (show(i:Int)<(I.length:Int) by omega),oCT,bN];simp only[oBS];rw[bQ hi];simp only[oBS]
   cases I[i]with
   |true=>rfl
   |false=>
    rw[bR (by omega) (by omega)];rfl
  by_cases g:I[i]=true
  ·exact .inr ⟨λh=>absurd g (by rw[h hi];decide),by rw[e,oIP g]⟩
  ·exact .inl ⟨λ_=>Bool.eq_false_iff.2 g,by rw[e,oIN g]⟩) (by
  unfold cy;dsimp only
  rw[oDF (by omega),oCF])with⟨hp,e⟩|⟨k,hk,hp,hn,e⟩
 ·rw[show bM cy NN (I,true,(I.length:Int),0,())=_ from e]
  have e1:I.findIdx (λb=>b)=I.length:=List.findIdx_eq_length_of_false λc hc=>by
   obtain⟨i,hi,rfl⟩:=List.mem_iff_getElem.1 hc;exact hp i hi hi
  rw[oIN (by omega)]
 ·rw[show bM cy NN (I,true,(I.length:Int),0,())=_ from e]
  have e1:I.findIdx (λb=>b)=k:=(List.findIdx_eq hk).2 ⟨by
   cases hb:I[k]with
   |true=>rfl
   |false=>exact absurd (λ_=>hb) hn,λj hj=>hp j hj (by omega)⟩
  rw[e1,oIP hk]
theorem Oq{l:List ST}{I:List Bool}(hn:Sm l)(hI:I.length=l.length){least:Int}:bM c8 NN (l,I,least,-1,0,(),(),())=some (l,I,least,if I.findIdx (λb=>b)<I.length then(I.findIdx (λb=>b):Int)else -1,(l.length:Int),false,(),(),()):=by
 have h0:l.length<=1099511627776:=hn;obtain⟨f,hf⟩:∃f,f=I.findIdx (λb=>b):=⟨_,rfl⟩;have hfle:f<=I.length:=hf▸List.findIdx_le_length
 have l0:=loop_seq (f:=c8) (st:=λi=>(l,I,least,if f<i then(f:Int)else -1,(i:Int),(),(),())) (n:=l.length) (N:=NN) (fin:=(l,I,least,if f<l.length then(f:Int)else -1,(l.length:Int),false,(),(),())) (eA hn) (λi hi=>by
  have hii:i<I.length:=by omega
  have hw:w64 ((i:Int)+1)=((i+1:Nat):Int):=by rw[bR (by omega) (by omega)];rfl
  unfold c8;delta bJ;dsimp only;rw[oDT (show(i:Int)<(l.length:Int) by omega),oCT,beq_iff_eq.2 (show(I.length:Int)=(l.length:Int) by omega),oCT,bN];simp only[oBS];rw[bQ hii];simp only[oBS]
  cases hb:I[i]with
  |true=>
   have hfi:f<=i:=Nat.le_of_not_lt λg=>by
    have:=List.not_of_lt_findIdx (xs:=I) (p:=λb=>b) (i:=i) (by rw[<- hf];exact g);rw[hb]at this;cases this
   rw[oCT];by_cases g:f<i
   ·rw[oIP g,oDF (show ¬(f:Int)<0 by omega),oCF,oIP (show f<i+1 by omega)];simp only[oBS];rw[hw]
   ·rw[oIN g,oDT (show(-1:Int)<0 by omega),oCT,oIP (show f<i+1 by omega)];simp only[oBS];rw[hw,show f=i by omega]
  |false=>
   have hne:f≠i:=λe=>by
    have:=List.findIdx_getElem (xs:=I) (p:=λb=>b) (w:=by rw[<- hf];omega);simp only[<- hf,e,hb]at this;cases this
   rw[oCF];simp only[oBS];rw[hw];by_cases g:f<i
   ·rw[oIP g,oIP (show f<i+1 by omega)]
   ·rw[oIN g,oIN (show ¬f<i+1 by omega)]) (by
  unfold c8;delta bJ;dsimp only
  rw[oDF (by omega),oCF])
 rw[<- hf,hI,<- l0];rfl
theorem N9{n:Nat}(hn:n<=1000){L:List Int}{C:CC}{T:TT'}:bM fT NN (0,(),(),flg n L,C,T,[],())=some ((n:Int),false,(),(),flg n L,C,T,((List.range n).filter λj:Nat=>decide ((j:Int)∈L)).map (λj:Nat=>(j:Int)),()):=by
 have l0:=loop_seq (f:=fT) (st:=λi=>((i:Int),(),(),flg n L,C,T,((List.range i).filter λj:Nat=>decide ((j:Int)∈L)).map (λj:Nat=>(j:Int)),())) (n:=n) (N:=NN) (fin:=((n:Int),false,(),(),flg n L,C,T,((List.range n).filter λj:Nat=>decide ((j:Int)∈L)).map (λj:Nat=>(j:Int)),())) (eA (by omega)) (λi hi=>by
  have ZE:=List.length_filter_le (λj:Nat=>decide ((j:Int)∈L)) (List.range i);rw[List.length_range]at ZE
  have hw:w64 ((i:Int)+1)=((i+1:Nat):Int):=by rw[bR (by omega) (by omega)];rfl
  unfold fT;delta bJ;dsimp only;rw[rR,oDT (show(i:Int)<(n:Int) by omega),oCT,bN];simp only[oBS];rw[bQ (show i<(flg n L).length by rw[rR];exact hi)];simp only[oBS];rw[show(flg n L)[i]'(by rw[rR];exact hi)=decide ((i:Int)∈L) by unfold flg;simp,List.range_succ,List.filter_append,List.map_append];by_cases g:(i:Int)∈L
  ·rw[oDT g,oCT,bT (by rw[List.length_map];omega) (by simp) (by omega) (by rw[List.length_map];show _+1<=_;omega),oCT];simp only[oBS]
   have e1:([i].filter λj:Nat=>decide ((j:Int)∈L))=[i]:=by simp[g]
   rw[hw,e1];rfl
  ·rw[oDF g,oCF];simp only[oBS]
   have e1:([i].filter λj:Nat=>decide ((j:Int)∈L))=[]:=by simp[g]
   rw[hw,e1,List.map_nil,List.append_nil]) (by
  unfold fT;delta bJ;dsimp only
  rw[rR,oDF (by omega),oCF])
 exact l0
theorem D1{l:List ST}(hl:∀s∈l,StQ s.1 s.2)(hn:l.length<=1000){I:List Bool}(hI:Sm I)(least:Int):
 ∃(C:CC)(T:TT')(L:List Int)(e:Int),i5 l I least=some (C,T,L,e,())/\jU l I least=some (C,T,L,e,())/\StK C T/\L.length<=1000:=by
 have T3:StK [] []:=⟨by simp[Sm],(λc hc=>by cases hc),by simp[Sm],(λt ht=>by cases ht)⟩;unfold i5 jU;rw[MD hI,oBS];delta bJ;dsimp only;by_cases hl2:I.length=l.length
 rotate_left
 ·rw[bne_iff_ne.2 (show(I.length:Int)≠(l.length:Int) by omega),oCT]
  have e1:bM c8 NN (l,I,least,-1,0,(),(),())=some (l,I,least,-1,0,false,(),(),()):=by
   have e2:c8 (l,I,least,-1,0,(),(),())=some (.inr (l,I,least,-1,0,false,(),(),())):=by
    unfold c8;delta bJ;dsimp only;rw[oBF (show(I.length:Int)≠(l.length:Int) by omega),oCF];cases decide ((0:Int)<(l.length:Int))<;>rfl
   obtain⟨M,hM⟩:∃m,NN=m+1:=⟨NN-1,by unfold NN;omega⟩;rw[hM];simp only[bM,e2,oBS]
  rw[e1,oBS];exact⟨_,_,_,_,rfl,rfl,T3,Nat.zero_le _⟩
 rw[bne_eq_false_iff_eq.2 (show(I.length:Int)=(l.length:Int) by omega),oCF,Oq (by unfold Sm;omega) hl2,oBS];dsimp only;generalize I.findIdx (λb=>b)=f;by_cases hf:f<I.length
 rotate_left
 ·rw[oIN hf];exact⟨_,_,_,_,rfl,rfl,T3,Nat.zero_le _⟩
 rw[oIP hf,oDF (show ¬(f:Int)<0 by omega),oCF,oCF,bN]
 have ZE:f<l.length:=by omega
 simp only[oBS];rw[bQ ZE];simp only[oBS];have hs:=hl _ (List.getElem_mem ZE);rw[pj hs.k.1,nC hs.k.1];simp only[oBS];generalize hC0:l[f].1=C0 at hs⊢;generalize hT0:l[f].2=T0 at hs⊢;by_cases hsz:Szs (szs C0)/\T0.length<=4
 rotate_left
 ·obtain⟨e,he,l1,l2⟩:=JS (S:=szs C0) (n:=T0.length) (by unfold Sm;rw[g7];exact hs.k.1) hsz;rw[l1,l2];simp only[oBS];rw[bne_iff_ne.2 he];exact⟨_,_,_,_,rfl,rfl,T3,Nat.zero_le _⟩
 rw[zH hsz.1 hsz.2,Dn hsz.1 hsz.2];simp only[oBS];rw[bne_self_eq_false,oCF,oCF];have Vb:=nJ hsz.1 hsz.2;obtain⟨ids,WW⟩:∃ids,ids=pgs (szs C0) T0.length:=⟨_,rfl⟩;rw[<- WW]at Vb⊢;rw[bN];simp only[oBS];rw[show gk l.length l.length 1=true by unfold gk;simp;omega,oCT]
 have Xs:List.replicate l.length false=flg l.length []:=(List.eq_replicate_iff.2 ⟨rR _ _,λx hx=>by
  obtain⟨j,_,rfl⟩:=List.mem_map.1 hx
  rfl⟩).symm
 rw[Xs]
 rcases Fy hl hn hI (S:=szs C0) (ids:=ids) Vb (least:=least) ids.length 0 (by omega) [] [] ⟨rfl,λj h=>absurd h (Nat.not_lt_zero _),λp hp=>(by cases hp),Nat.zero_le _,λx hx=>by cases hx⟩ NN (eA (by omega))with⟨e,g1,g2⟩|⟨P,L,hW,g1,g2⟩
 ·rw[show bM cE NN (l,I,least,szs C0,(ids.length:Int),0,(),(),szs C0,ids,[],[],())=_ from g1,show bM cL NN (l,I,least,szs C0,0,(),(),szs C0,ids,flg l.length [],[],())=_ from g2];exact⟨_,_,_,_,rfl,rfl,T3,Nat.zero_le _⟩
 rw[show bM cE NN (l,I,least,szs C0,(ids.length:Int),0,(),(),szs C0,ids,[],[],())=_ from g1,show bM cL NN (l,I,least,szs C0,0,(),(),szs C0,ids,flg l.length [],[],())=_ from g2];dsimp only;have hLl:=hW.ll
 have TK:(t6 1 L).length=L.length:=by
  show(L.mergeSort λx y=>decide (x<=y)).length=_;rw[List.length_mergeSort]
 have WS:Nat.blt L.length 4611686018427387904=true:=by
  rw[Nat.blt_eq];omega
 rw[WS,oCT]
 obtain⟨C,T,e,b1,b2,b3⟩:=Fd hsz.1 hsz.2 (A:=P) (by rw[hW.len,WW]) (λi h=>by
  have:=hW.id i (by rw[WW];exact h) (by rw[hW.len,WW];exact h) (by rw[WW];exact h);simp only[WW]at this
  exact this) hW.pgk
 rw[b1,b2];simp only[oBS];by_cases he:e=0
 rotate_left
 ·rw[bne_iff_ne.2 he];exact⟨_,_,_,_,rfl,rfl,T3,Nat.zero_le _⟩
 subst he;rw[bne_self_eq_false,oCF,oCF,TK,WS,oCT,N9 hn,oBS,Lm];have hm:(((List.range l.length).filter λj:Nat=>decide ((j:Int)∈L)).map (λj:Nat=>(j:Int))).Pairwise (· < ·):=List.Pairwise.map _ (λa b (h:a<b)=>by omega) (List.Pairwise.filter _ List.pairwise_lt_range)
 have WJ:compact (t6 1 L)=((List.range l.length).filter λj:Nat=>decide ((j:Int)∈L)).map (λj:Nat=>(j:Int)):=Az hm λx=>by
  simp only[List.mem_map,List.mem_filter,List.mem_range,oDE];constructor
  ·intro hx;obtain⟨j,hj,rfl⟩:=hW.lost x hx;exact⟨j,⟨hj,hx⟩,rfl⟩
  ·rintro⟨j,⟨_,h2⟩,rfl⟩;exact h2
 rw[WJ]
 exact⟨_,_,_,_,rfl,rfl,b3,by
  rw[List.length_map]
  exact Nat.le_trans (List.length_filter_le _ _) (by rw[List.length_range];exact hn)⟩
end Go.Proofs.YtakfoejcjdcgbaaGreat
namespace Go.Proofs.YtakfoejcjdcgbaaGreat
open Go.RowKit
theorem IH(a b:PID):jW a.1 a.2 b.1 b.2=some (cO a b,()):=by
 unfold jW cO;by_cases h:(a.1==-1)=(b.1==-1)
 ·simp only[h,beq_self_eq_true,oNT,oCF,bne_self_eq_false,Bool.false_eq_true,if_false];by_cases h1:a.1<b.1
  ·simp[h1]
  ·by_cases h2:a.1=b.1
   ·simp[h2]
   ·simp[h1,oBF h2]
 ·have e1:((a.1==-1)==(b.1==-1))=false:=oBF h;have e2:((a.1==-1) != (b.1==-1))=true:=bne_iff_ne.2 h;simp only[e1,e2,Bool.not_false,oCT,if_true]
def kP(l:List PID)(x:PID):Nat:=(l.takeWhile (cO · x)).length
theorem MB(l:List PID)(x:PID):nh l x=if l[kP l x]?=some x then l else l.take (kP l x)++[x]++l.drop (kP l x):=by
 induction l with
 |nil=>simp[nh,kP]
 |cons y r ih=>
  unfold nh kP;by_cases h:cO y x=true
  ·simp only[h,if_true,List.takeWhile_cons,oLC,List.getElem?_cons_succ,List.take_succ_cons,List.drop_succ_cons,List.cons_append];rw[ih];unfold kP;split<;>rfl
  ·simp only[h,Bool.false_eq_true,if_false,List.takeWhile_cons,List.length_nil,List.getElem?_cons_zero,List.take_zero,List.drop_zero,List.nil_append,oSJ];by_cases e:y=x
   ·simp[e]
   ·simp[e]
theorem Ds(x:PID):∀l:List PID,(nh l x).length<=l.length+1
 | []=>Nat.le_refl _
 |y::r=>by
  unfold nh;split
  ·have:=Ds x r;simp only[oLC];omega
  ·split
   ·simp
   ·simp
theorem O9{l:List PID}{x:PID}(h:Sm l):bM eR NN (l,0,x.1,x.2,())=some (l,(kP l x:Int),false,x.1,x.2,()):=by
 have hc:kP l x<=l.length:=(List.takeWhile_prefix _).length_le;have h0:=h
 have hlt:∀i,(hi:i<kP l x)->cO (l[i]'(by omega)) x=true:=λi hi=>by
  have h1:(l.takeWhile (cO · x))[i]'hi=l[i]'(by omega):=(List.takeWhile_prefix (l:=l) (cO · x)).getElem hi;rw[<- h1];exact List.all_eq_true.1 (List.all_takeWhile (p:=λy=>cO y x) (l:=l)) _ (List.getElem_mem hi)
 have step:∀i,i<kP l x->eR (l,(i:Int),x.1,x.2,())=some (.inl (l,((i+1:Nat):Int),x.1,x.2,())):=by
  intro i hi
  have ZT:i<l.length:=by omega
  unfold eR;delta bJ;dsimp only;rw[oDT (show(i:Int)<l.length by omega),oCT,bN];simp only[oBS,bQ ZT,IH,hlt i hi];rw[bR (by omega) (by omega)];rfl
 have fin:eR (l,(kP l x:Int),x.1,x.2,())=some (.inr (l,(kP l x:Int),false,x.1,x.2,())):=by
  unfold eR;delta bJ;dsimp only;by_cases hl:kP l x<l.length
  ·rw[oDT (show(kP l x:Int)<l.length by omega),oCT,bN]
   have hn:cO l[kP l x] x=false:=by
    by_cases g:cO l[kP l x] x=true
    ·exfalso;have e:kP l x=(l.takeWhile (cO · x)).length:=rfl;have h2:l.takeWhile (cO · x)++l.dropWhile (cO · x)=l:=List.takeWhile_append_dropWhile
     have h3:l.dropWhile (cO · x)≠[]:=λe2=>by
      rw[e2,List.append_nil]at h2
      have:(l.takeWhile (cO · x)).length=l.length:=by rw[h2]
      omega
     have h4:=List.head_dropWhile_not (cO · x) (l:=l) h3
     have h5:(l.dropWhile (cO · x)).head h3=l[kP l x]:=by
      have h6:l[kP l x]?=(l.dropWhile (cO · x)).head?:=by
       have h7:(l.takeWhile (cO · x)++l.dropWhile (cO · x))[kP l x]?=(l.dropWhile (cO · x)).head?:=by
        rw[e,List.getElem?_append_right (Nat.le_refl _),Nat.sub_self,<- List.head?_eq_getElem?]
       rw[h2]at h7;exact h7
      rw[oGE hl,List.head?_eq_some_head h3]at h6
      injection h6 with h6
      exact h6.symm
     rw[h5,g]at h4;cases h4
    ·exact Bool.not_eq_true _▸g
   simp only[oBS,bQ hl,IH,hn,oCF]
  ·rw[oDF (show ¬(kP l x:Int)<l.length by omega)];rfl
 exact loop_seq (f:=eR) (λi=>(l,(i:Int),x.1,x.2,())) (n:=kP l x) (N:=NN) (by unfold NN;omega) step fin
theorem NY{l:List PID}{x:PID}(h:l.length+1<=1099511627776):kt l x.1 x.2=some (nh l x,()):=by
 have hc:kP l x<=l.length:=(List.takeWhile_prefix _).length_le;unfold kt;rw[O9 (by unfold Sm;omega),oBS];delta bJ;dsimp only;rw[MB]
 have rest:(cl (kP l x:Int)).bind (λSK=>bif df 0 SK l.length then
  let QJ:List DCe:=(pO l 0 (Nat.sub SK 0));
  bif(b6 16 0 (List.length QJ))then let U0:List DCe:=(List.append [] QJ);
  let Sq:List DCe:=[(x.1,x.2)];
  bif(b6 16 (List.length U0) (List.length Sq))then let Vt:List DCe:=(List.append U0 Sq);
  (cl (kP l x:Int)).bind λU1=>
  bif(df U1 (List.length l) (List.length l))then let T4:List DCe:=(pO l U1 (Nat.sub (List.length l) U1));
  bif(b6 16 (List.length Vt) (List.length T4))then let V4:List DCe:=(List.append Vt T4);
  some (V4,())else none else none else none else none else none)=some (l.take (kP l x)++[x]++l.drop (kP l x),()):=by
  rw[bN];simp only[oBS]
  have e1:df 0 (kP l x) l.length=true:=by unfold df;simp[hc]
  have e2:df (kP l x) l.length l.length=true:=by unfold df;simp[hc]
  have e3:pO l 0 (Nat.sub (kP l x) 0)=l.take (kP l x):=by unfold pO;rfl
  have e4:pO l (kP l x) (Nat.sub l.length (kP l x))=l.drop (kP l x):=by
   unfold pO;rw[List.take_of_length_le (by rw[List.length_drop];exact Nat.le_refl _)]
  have e5:List.append [] (l.take (kP l x))=l.take (kP l x):=rfl;have e6:List.append (l.take (kP l x)) [(x.1,x.2)]=l.take (kP l x)++[x]:=rfl;have e7:List.append (l.take (kP l x)++[x]) (l.drop (kP l x))=l.take (kP l x)++[x]++l.drop (kP l x):=rfl;rw[e1,oCT,e3,e5,bT (by omega) (by rw[oLT];omega) (by omega) (by rw[oLT];omega),oCT,e6,bT (by rw[oLT];omega) (by simp) (by omega) (by rw[oLT,List.length_singleton];omega),oCT,e2,oCT,e4,bT (by rw[List.length_append,oLT,List.length_singleton];omega) (by rw[List.length_drop];omega) (by omega) (by rw[List.length_append,oLT,List.length_singleton,List.length_drop];omega),oCT,e7]
 by_cases hl:kP l x<l.length
 ·rw[oDT (show(kP l x:Int)<l.length by omega),oCT,bN];simp only[oBS,bQ hl,KS];rw[oGE hl];by_cases e:l[kP l x]=x
  ·rw[oDT e,oIP (by rw[e])];rfl
  ·rw[oDF e,oIN (λg=>e (by injection g))];exact rest
 ·rw[oDF (show ¬(kP l x:Int)<l.length by omega),oIN (by rw[oGN (by omega)];simp)];exact rest
theorem qD(l:List PID):∀a:List PID,(l.foldl nh a).length<=a.length+l.length:=by
 induction l with
 |nil=>intro a;simp
 |cons x r ih=>
  intro a;rw[List.foldl_cons,oLC];have h1:=ih (nh a x);have h2:=Ds x a;omega
theorem wB{l:List PID}{a:List PID}{i:Nat}(h:i<l.length):(l.take (i+1)).foldl nh a=nh ((l.take i).foldl nh a) l[i]:=by
 rw[<- fb h,List.foldl_append];rfl
theorem Hf{l m:List PID}(h:l.length+m.length+1<=1099511627776):jV l m=some (lM (l++m),()):=by
 unfold jV
 have step:∀i,i<l.length->dH (l,m,(l.take i).foldl nh [],(i:Int),(),())=some (.inl (l,m,(l.take (i+1)).foldl nh [],((i+1:Nat):Int),(),())):=by
  intro i hi;have hf:=qD (l.take i) [];rw[oLT,List.length_nil]at hf;unfold dH;delta bJ;dsimp only;rw[oDT (show(i:Int)<l.length by omega),oCT,bN];simp only[oBS,bQ hi];rw[NY (Nat.le_trans (Nat.add_le_add_right hf 1) (by omega)),wB hi,bR (by omega) (by omega)];rfl
 have fin:dH (l,m,(l.take l.length).foldl nh [],(l.length:Int),(),())=some (.inr (l,m,(l.take l.length).foldl nh [],(l.length:Int),false,(),())):=by
  unfold dH;delta bJ;dsimp only;rw[oDF (show ¬(l.length:Int)<l.length by omega)];rfl
 have:=loop_seq (f:=dH) (λi=>(l,m,(l.take i).foldl nh [],(i:Int),(),())) (n:=l.length) (N:=NN) (by unfold NN;omega) step fin;rw[show bM dH NN (l,m,[],0,(),())=_ from this,List.take_length,oBS];dsimp only;obtain⟨a,ha⟩:∃a,a=l.foldl nh []:=⟨_,rfl⟩
 have hal:a.length<=l.length:=by
  have:=qD l [];rw[List.length_nil]at this;rw[ha];omega
 have WD:∀i,i<m.length->dG (m,(m.take i).foldl nh a,(i:Int),(),())=some (.inl (m,(m.take (i+1)).foldl nh a,((i+1:Nat):Int),(),())):=by
  intro i hi;have hf:=qD (m.take i) a;rw[oLT]at hf;unfold dG;delta bJ;dsimp only;rw[oDT (show(i:Int)<m.length by omega),oCT,bN];simp only[oBS,bQ hi];rw[NY (Nat.le_trans (Nat.add_le_add_right hf 1) (by omega)),wB hi,bR (by omega) (by omega)];rfl
 have Uo:dG (m,(m.take m.length).foldl nh a,(m.length:Int),(),())=some (.inr (m,(m.take m.length).foldl nh a,(m.length:Int),false,(),())):=by
  unfold dG;delta bJ;dsimp only;rw[oDF (show ¬(m.length:Int)<m.length by omega)];rfl
 have:=loop_seq (f:=dG) (λi=>(m,(m.take i).foldl nh a,(i:Int),(),())) (n:=m.length) (N:=NN) (by unfold NN;omega) WD Uo;rw[<- ha,show bM dG NN (m,a,0,(),())=_ from this,List.take_length,oBS,ha];unfold lM;rw[List.foldl_append]
theorem IW{a:List PID}(h:Sm a)(k:Int):kT a k=some (a.take (jj a.length k),a.drop (jj a.length k),()):=by
 unfold kT;dsimp only;have hk:=CM a.length k;have h0:=h;simp only[Pu,bN,oBS]
 have e1:df 0 (jj a.length k) a.length=true:=by unfold df;simp[hk]
 have e2:df (jj a.length k) a.length a.length=true:=by unfold df;simp[hk]
 have e3:pO a 0 (Nat.sub (jj a.length k) 0)=a.take (jj a.length k):=by unfold pO;rfl
 have e4:pO a (jj a.length k) (Nat.sub a.length (jj a.length k))=a.drop (jj a.length k):=by
  unfold pO;rw[List.take_of_length_le (by rw[List.length_drop];exact Nat.le_refl _)]
 rw[e1,oCT,e3,bT (by omega) (by rw[oLT];omega) (by omega) (by rw[oLT];omega),oCT];rw[e2,oCT,e4,bT (by omega) (by rw[List.length_drop];omega) (by omega) (by rw[List.length_drop];omega),oCT];rfl
theorem Pg{C:CC}{T:TT'}(hC:Sm C)(hT:Sm T):∃b,jS C T=some (b,()):=by
 unfold jS;have h0:=hC;have h1:=hT
 obtain⟨t,e,ht⟩:=ou (f:=jE) (λs=>∃i:Nat,s.2.1=i/\i<=C.length/\s.2.2.1=C/\s.2.2.2.1=T) (λt=>t.2.2.2.2.1=T) (λs=>C.length-s.2.1.toNat) (n:=NN) (s:=(0,0,C,T,())) ⟨0,rfl,Nat.zero_le _,rfl,rfl⟩ (by unfold NN;show C.length-(0:Int).toNat<_;omega) (by
  rintro⟨v0,v1,v2,v3,_⟩ ⟨i,e1,hi,e2,e3⟩;dsimp only at e1 e2 e3;subst e1 e2 e3;unfold jE;delta bJ;dsimp only;by_cases hl:i<v2.length
  ·rw[oDT (show(i:Int)<v2.length by omega),oCT,bN];simp only[oBS,bQ hl];rw[bR (x:=(i:Int)+1) (by omega) (by omega)];exact⟨_,rfl,⟨i+1,rfl,by omega,rfl,rfl⟩,by show v2.length-((i:Int)+1).toNat<v2.length-(i:Int).toNat;omega⟩
  ·rw[oDF (show ¬(i:Int)<v2.length by omega)]
   exact⟨_,rfl,rfl⟩)
 rw[e,oBS];obtain⟨x0,x1,x2,x3,x4,_⟩:=t;dsimp only at ht⊢;subst ht
 obtain⟨t,e,_⟩:=ou (f:=jD) (λs=>∃i:Nat,s.2.1=i/\i<=x4.length/\s.2.2.2.1=x4) (λt=>True) (λs=>x4.length-s.2.1.toNat) (n:=NN) (s:=(x0,0,x3,x4,())) ⟨0,rfl,Nat.zero_le _,rfl⟩ (by unfold NN;show x4.length-(0:Int).toNat<_;omega) (by
  rintro⟨v0,v1,v2,v3,_⟩ ⟨i,e1,hi,e2⟩;dsimp only at e1 e2;subst e1 e2;unfold jD;delta bJ;dsimp only;by_cases hl:i<v3.length
  ·rw[oDT (show(i:Int)<v3.length by omega),oCT,bN];simp only[oBS,bQ hl];rw[bR (x:=(i:Int)+1) (by omega) (by omega)];exact⟨_,rfl,⟨i+1,rfl,by omega,rfl⟩,by show v3.length-((i:Int)+1).toNat<v3.length-(i:Int).toNat;omega⟩
  ·rw[oDF (show ¬(i:Int)<v3.length by omega)]
   exact⟨_,rfl,trivial⟩)
 rw[e,oBS];exact⟨_,rfl⟩
theorem KR{a:List Int}(hs:Sm a):fW a a=some (true,()):=by
 unfold fW;delta bJ;dsimp only;rw[bne_self_eq_false,oCF]
 have l0:=loop_seq (f:=d6) (st:=λi=>(a,a,(i:Int),())) (n:=a.length) (N:=NN) (fin:=.inr (a,a,(a.length:Int),false,())) (eA hs) (λi hi=>by
  unfold d6;delta bJ;dsimp only;rw[oDT (show(i:Int)<(a.length:Int) by omega),oCT,bN];simp only[oBS];rw[bQ hi];simp only[oBS];rw[bne_self_eq_false,oCF,bR (by omega) (by unfold Sm at hs;omega)]
  rfl) (by
  unfold d6;delta bJ;dsimp only
  rw[oDF (by omega),oCF])
 rw[show bM d6 NN (a,a,0,())=_ from l0]
theorem Fr{S:List Int}(h:Szs S)(a b c d e f g:Int){B:TT'}(u v w:Unit):bM dV NN (a,b,(S.length:Int),0,c,d,u,v,w,e,[],B,S,())=some (a,b,(S.length:Int),(S.length:Int),false,c,d,u,v,w,e,S.map λz=>List.replicate z.toNat ((0,(0,(0,0))):DCn),B,S,()):=by
 have h4:=h.1
 have Tn:=loop_seq (f:=dV) (st:=λi=>(a,b,(S.length:Int),(i:Int),c,d,u,v,w,e,(S.take i).map λz=>List.replicate z.toNat ((0,(0,(0,0))):DCn),B,S,())) (n:=S.length) (N:=NN) (fin:=(a,b,(S.length:Int),(S.length:Int),false,c,d,u,v,w,e,(S.take S.length).map λz=>List.replicate z.toNat ((0,(0,(0,0))):DCn),B,S,())) (eA (by omega)) (λi hi=>by
  have hz:=ze h hi;unfold dV;dsimp only;rw[oDT (show(i:Int)<(S.length:Int) by omega),oCT,bN];simp only[oBS];rw[bQ hi];simp only[oBS]
  have e1:cl S[i]=some S[i].toNat:=by
   obtain⟨m,hm⟩:∃m:Nat,S[i]=m:=⟨S[i].toNat,by omega⟩;rw[hm,bN,oTN]
  rw[e1];simp only[oBS];rw[show gk S[i].toNat S[i].toNat 4=true by unfold gk;simp;omega,oCT];rw[bT (by rw[List.length_map,oLT];omega) (by simp) (by omega) (by rw[List.length_map,oLT];simp;omega),oCT,bR (by omega) (by omega)];rw[<- ml hi]
  rfl) (by
  unfold dV;dsimp only
  rw[oDF (by omega),oCF])
 rw[show bM dV NN (a,b,(S.length:Int),0,c,d,u,v,w,e,[],B,S,())=_ from Tn,List.take_length]
theorem ET{p:PG}(h:PgK p):fN p.1 p.2.1 p.2.2.1 p.2.2.2.1 p.2.2.2.2.1 p.2.2.2.2.2.1 p.2.2.2.2.2.2.1 p.2.2.2.2.2.2.2.1 p.2.2.2.2.2.2.2.2.1 p.2.2.2.2.2.2.2.2.2.1 p.2.2.2.2.2.2.2.2.2.2 p.1 p.2.1 p.2.2.1 p.2.2.2.1 p.2.2.2.2.1 p.2.2.2.2.2.1 p.2.2.2.2.2.2.1 p.2.2.2.2.2.2.2.1 p.2.2.2.2.2.2.2.2.1 p.2.2.2.2.2.2.2.2.2.1 p.2.2.2.2.2.2.2.2.2.2=some (true,()):=by
 unfold fN;rw[beq_self_eq_true,beq_self_eq_true,Bool.and_true,Bool.and_true,oCT,oA h.1,oDT rfl,oBS];dsimp only;have e:=tW (x:=p.2.2.2) (y:=p.2.2.2) h.2;rw[oDT rfl]at e;rw[oCT,e];rfl
theorem OM{l:List ST}(hl:∀s∈l,StQ s.1 s.2)(I:List Bool)(a b least:Int):PgK (agK l I a b least).1:=by
 by_cases h:(agK l I a b least).2.2=0
 ·exact(Li hl h).2
 ·have hz:PgK zPg:=⟨by simp[Sm],by simp[Sm]⟩;unfold agK at h⊢;by_cases h1:l.length<=5/\I.length=l.length/\1<=least/\least<=5
  rotate_left
  ·rw[oIN h1];exact hz
  rw[oIP h1]at h⊢;by_cases h2:(vd (jP l I a b) l.length least).1=1\/(vd (jP l I a b) l.length least).1=2
  ·rw[oIP h2]at h;exact absurd rfl h
  ·rw[oIN h2];exact hz
theorem M8{l:List ST}(hl:∀s∈l,StQ s.1 s.2)(hn:l.length<=1000){I:List Bool}(hI:Sm I)(a b least:Int):fP l I a b least=some (true,()):=by
 unfold fP;have hp:=OM hl I a b least;have ho:=(DU (l:=l) (I:=I) (a:=a) (b:=b) (least:=least)).1;rw[IJ hl hn hI,II hl hn I];generalize agK l I a b least=r at hp ho⊢;obtain⟨C,T,L,e,w1,w2,w3,w4⟩:=D1 hl hn hI least;simp only[oBS];rw[w1,w2];simp only[oBS];rw[beq_self_eq_true,beq_self_eq_true,oCT,oCT,ET hp];simp only[oBS,oCT];rw[KR (by unfold Sm;omega)];simp only[oBS,oCT];rw[Gw w3,oDT ⟨rfl,rfl⟩];simp only[oBS,oCT];rw[KR (by unfold Sm;omega)];rfl
theorem Gx{R A K:Int}{C:CC}{T:TT'}{M:List PID}(h:StK C T)(hM:Sm M):dU R A C T M K R A C T M K=some (true,()):=by
 unfold dU;rw[beq_self_eq_true,beq_self_eq_true,beq_self_eq_true,oCT,oCT,oCT,NV hM hM,oDT rfl];simp only[oBS,oCT];rw[Gw h,oDT ⟨rfl,rfl⟩];rfl
theorem AL{C:CC}{T:TT'}{D:CC}{U:TT'}(h:StK C T)(h2:StK D U):∃(L:List PID)(e:Int),dC C T D U=some (L,e,())/\du C T D U=some (L,e,())/\L.length<=20:=by
 by_cases g:ve C T D U
 ·exact⟨_,_,AK g h.2.2.2 h2.2.2.2,AM g h.2.2.2 h2.2.2.2,Ie g.1⟩
 ·exact⟨_,_,wO g h.1 h2.1 h.2.2.2 h2.2.2.2,wP g h.1 h2.1,Nat.zero_le _⟩
theorem AH{R A K:Int}{X:CC}{Y:TT'}{M:List PID}{C:CC}{T:TT'}{D:CC}{U:TT'}(hJ:StK X Y)(hM:M.length<=1000000)(h:StK C T)(h2:StK D U):
 ∃(M':List PID)(e:Int),gU R A X Y M K C T D U=some (R,A,X,Y,M',K,e,())/\iu R A X Y M K C T D U=some (R,A,X,Y,M',K,e,())/\Sm M':=by
 obtain⟨L,e,b1,b2,b3⟩:=AL h h2;unfold gU iu jn;rw[Ax hJ,oBS];dsimp only;rw[yO (by unfold Sm;omega),b1,b2];simp only[oBS];by_cases he:e=0
 ·subst he;rw[bne_self_eq_false,oCF,oCF,Mr (by omega),Hf (by omega)];refine⟨_,_,rfl,rfl,?_⟩;have:=qD (M++L) [];rw[List.length_append]at this;show(lM (M++L)).length<=_;unfold lM;simp only[List.length_nil]at this;omega
 ·rw[bne_iff_ne.2 he];exact⟨_,_,rfl,rfl,by unfold Sm;omega⟩
theorem Pc{C:CC}{T:TT'}(h:StK C T)(p:PID):PgK (pg C T p):=by
 unfold pg;by_cases hp:p.1=-1
 ·rw[oIP hp];refine⟨by simp[Sm],?_⟩;rcases Nat.lt_or_ge p.2.toNat T.length with g|g
  ·rw[cP g];exact h.2.2.2 _ (List.getElem_mem g)
  ·rw[oGD,oGN g];simp[Sm]
 ·rw[oIN hp];refine⟨?_,by simp[Sm]⟩;show((List.drop _ _).take 8).length<=_;rw[oLT];omega
theorem K3{C:CC}{T:TT'}(h:StK C T)(a b:Int):dJ C T a b=iW C T a b:=by
 rw[H5 h,H4 h];by_cases g:shp C T/\Th C T a b
 ·rw[oIP g,oIP (show Hs (C,T) a b from g)]
 ·rw[oIN g,oIN (show ¬Hs (C,T) a b from g)]
theorem IZ{R A K:Int}{X:CC}{Y:TT'}{M:List PID}{D:CC}{U:TT'}{now rest:List PID}(hD:StK D U)(hl:Sm now):∀(k i:Nat),i+k=now.length->∀(C:CC)(T:TT'),StK C T->∀N,k<N ->
 (∃(e:Int)(i':Int)(C':CC)(T':TT'),e≠0/\bM cu N (0,(now.length:Int),(i:Int),D,U,0,0,(),(),(),0,R,A,X,Y,M,K,now,rest,C,T,())=some (.inl (e,(now.length:Int),i',true,D,U,0,0,(),(),(),0,R,A,X,Y,M,K,now,rest,C',T',()))/\
  bM cC N ((i:Int),R,A,X,Y,M,K,D,U,0,0,(),(),(),0,now,rest,R,A,C,T,M,K,())=some (.inl (e,R,A,X,Y,M,K,())))\/
 ∃(C':CC)(T':TT'),StK C' T'/\bM cu N (0,(now.length:Int),(i:Int),D,U,0,0,(),(),(),0,R,A,X,Y,M,K,now,rest,C,T,())=some (.inr (0,(now.length:Int),(now.length:Int),false,D,U,0,0,(),(),(),0,R,A,X,Y,M,K,now,rest,C',T',()))/\
  bM cC N ((i:Int),R,A,X,Y,M,K,D,U,0,0,(),(),(),0,now,rest,R,A,C,T,M,K,())=some (.inr ((now.length:Int),false,R,A,X,Y,M,K,D,U,0,0,(),(),(),0,now,rest,R,A,C',T',M,K,())):=by
 have WY:now.length<=1099511627776:=hl;intro k
 induction k with
 |zero=>
  intro i hi C T h N hN;obtain⟨N,rfl⟩:∃m,N=m+1:=⟨N-1,by omega⟩
  obtain rfl:i=now.length:=by omega
  have e1:cu (0,(now.length:Int),(now.length:Int),D,U,0,0,(),(),(),0,R,A,X,Y,M,K,now,rest,C,T,())=some (.inr (.inr (0,(now.length:Int),(now.length:Int),false,D,U,0,0,(),(),(),0,R,A,X,Y,M,K,now,rest,C,T,()))):=by
   unfold cu;dsimp only;rw[oDF (by omega),oCF]
  have e2:cC ((now.length:Int),R,A,X,Y,M,K,D,U,0,0,(),(),(),0,now,rest,R,A,C,T,M,K,())=some (.inr (.inr ((now.length:Int),false,R,A,X,Y,M,K,D,U,0,0,(),(),(),0,now,rest,R,A,C,T,M,K,()))):=by
   unfold cC;delta bJ;dsimp only;rw[oDF (by omega),oCF]
  exact .inr ⟨C,T,h,by simp only[bM,e1,oBS],by simp only[bM,e2,oBS]⟩
 |succ k ih=>
  intro i hi C T h N hN;obtain⟨N,rfl⟩:∃m,N=m+1:=⟨N-1,by omega⟩
  have Yv:i<now.length:=by omega
  have hw:w64 ((i:Int)+1)=((i+1:Nat):Int):=by rw[bR (by omega) (by omega)];rfl
  have hg:=H5 hD now[i].1 now[i].2;by_cases g:Hs (D,U) now[i].1 now[i].2
  rotate_left
  ·rw[oIN g]at hg
   have he:(if shp D U then(30:Int)else 1)≠0:=by split<;>decide
   generalize(if shp D U then(30:Int)else 1)=e at he hg;refine .inl ⟨e,(i:Int),C,T,he,?_,?_⟩
   ·have s1:cu (0,(now.length:Int),(i:Int),D,U,0,0,(),(),(),0,R,A,X,Y,M,K,now,rest,C,T,())=some (.inr (.inl (e,(now.length:Int),(i:Int),true,D,U,0,0,(),(),(),0,R,A,X,Y,M,K,now,rest,C,T,()))):=by
     unfold cu;dsimp only;rw[oDT (show(i:Int)<(now.length:Int) by omega),oCT,bN];simp only[oBS];rw[bQ Yv];simp only[oBS];rw[hg];simp only[oBS];rw[oBF he,oCF,bne_iff_ne.2 he,oCT]
    simp only[bM,s1,oBS]
   ·have s2:cC ((i:Int),R,A,X,Y,M,K,D,U,0,0,(),(),(),0,now,rest,R,A,C,T,M,K,())=some (.inr (.inl (e,R,A,X,Y,M,K,()))):=by
     unfold cC;delta bJ;dsimp only;rw[oDT (show(i:Int)<(now.length:Int) by omega),oCT,bN];simp only[oBS];rw[bQ Yv];simp only[oBS];rw[K3 hD,hg];simp only[oBS];rw[bne_iff_ne.2 he,oCT]
    simp only[bM,s2,oBS]
  rw[oIP g]at hg;have Xr:=Pc hD (now[i].1,now[i].2);generalize pg (D,U).1 (D,U).2 (now[i].1,now[i].2)=p at hg Xr;have e1:=KP h (x:=p.2.2.1) Xr.1 (v:=p.2.2.2) Xr.2 p.1 p.2.1;have e2:=KO h (x:=p.2.2.1) Xr.1 (v:=p.2.2.2) Xr.2 p.1 p.2.1;have e3:=Gr h (x:=p.2.2.1) (v:=p.2.2.2) Xr.2 (a:=p.1) (b:=p.2.1);generalize C8 C T p.1 p.2.1 p.2.2.1 p.2.2.2=r at e1 e2 e3
  have s1:cu (0,(now.length:Int),(i:Int),D,U,0,0,(),(),(),0,R,A,X,Y,M,K,now,rest,C,T,())=bif(r.2.2 != 0)then some (.inr (.inl (r.2.2,(now.length:Int),(i:Int),true,D,U,0,0,(),(),(),0,R,A,X,Y,M,K,now,rest,r.1,r.2.1,())))else some (.inl (r.2.2,(now.length:Int),((i+1:Nat):Int),D,U,0,0,(),(),(),0,R,A,X,Y,M,K,now,rest,r.1,r.2.1,())):=by
   unfold cu;dsimp only;rw[oDT (show(i:Int)<(now.length:Int) by omega),oCT,bN];simp only[oBS];rw[bQ Yv];simp only[oBS];rw[hg];simp only[oBS];rw[beq_self_eq_true,oCT,e1];simp only[oBS];rw[hw]
  have s2:cC ((i:Int),R,A,X,Y,M,K,D,U,0,0,(),(),(),0,now,rest,R,A,C,T,M,K,())=bif(r.2.2 != 0)then some (.inr (.inl (r.2.2,R,A,X,Y,M,K,())))else some (.inl (((i+1:Nat):Int),R,A,X,Y,M,K,D,U,0,0,(),(),(),0,now,rest,R,A,r.1,r.2.1,M,K,())):=by
   unfold cC;delta bJ;dsimp only;rw[oDT (show(i:Int)<(now.length:Int) by omega),oCT,bN];simp only[oBS];rw[bQ Yv];simp only[oBS];rw[K3 hD,hg];simp only[oBS];rw[bne_self_eq_false,oCF,e2];simp only[oBS];rw[hw]
  by_cases he:r.2.2=0
  ·rw[bne_eq_false_iff_eq.2 he,oCF]at s1 s2;rw[he]at s1
   rcases ih (i+1) (by omega) r.1 r.2.1 (e3 he) N (by omega)with⟨e,i',C',T',g0,g1,g2⟩|⟨C',T',g0,g1,g2⟩
   ·exact .inl ⟨e,i',C',T',g0,by simp only[bM,s1,oBS];exact g1,by simp only[bM,s2,oBS];exact g2⟩
   ·exact .inr ⟨C',T',g0,by simp only[bM,s1,oBS];exact g1,by simp only[bM,s2,oBS];exact g2⟩
  ·rw[bne_iff_ne.2 he,oCT]at s1 s2;exact .inl ⟨r.2.2,(i:Int),r.1,r.2.1,he,by simp only[bM,s1,oBS],by simp only[bM,s2,oBS]⟩
theorem FG{R A K:Int}{X:CC}{Y:TT'}{M:List PID}{D:CC}{U:TT'}(hJ:StK X Y)(hM:M.length<=1000000)(hD:StK D U)(n:Int):
 ∃(C:CC)(T:TT')(M':List PID)(K' e:Int),jT R A X Y M K D U n=some (R,A,C,T,M',K',e,())/\kR R A X Y M K D U n=some (R,A,C,T,M',K',e,())/\StK C T/\Sm M':=by
 have SS:Sm M:=by unfold Sm;omega
 unfold jT kR jn;rw[Ax hJ,oBS];dsimp only;rw[yO SS];simp only[oBS];by_cases hn:n<0
 ·rw[oDT hn];exact⟨_,_,_,_,_,rfl,rfl,hJ,SS⟩
 rw[oDF hn,oCF,oCF,NJ SS,IW SS];delta bJ;simp only[oBS]
 have Wp:(M.take (jj M.length n)).length<=1000000:=by rw[oLT];omega
 have hl2:(M.drop (jj M.length n)).length<=1000000:=by rw[List.length_drop];omega
 generalize M.take (jj M.length n)=now at Wp⊢;generalize M.drop (jj M.length n)=rest at hl2⊢
 rcases IZ (R:=R) (A:=A) (K:=K) (X:=X) (Y:=Y) (M:=M) (now:=now) (rest:=rest) hD (by unfold Sm;omega) now.length 0 (by omega) X Y hJ NN (eA (by omega))with⟨e,i',C',T',g0,g1,g2⟩|⟨C',T',g0,g1,g2⟩
 ·rw[show bM cu NN (0,(now.length:Int),0,D,U,0,0,(),(),(),0,R,A,X,Y,M,K,now,rest,X,Y,())=_ from g1,show bM cC NN (0,R,A,X,Y,M,K,D,U,0,0,(),(),(),0,now,rest,R,A,X,Y,M,K,())=_ from g2];dsimp only;rw[bne_iff_ne.2 g0,oCT];exact⟨_,_,_,_,_,rfl,rfl,hJ,SS⟩
 ·rw[show bM cu NN (0,(now.length:Int),0,D,U,0,0,(),(),(),0,R,A,X,Y,M,K,now,rest,X,Y,())=_ from g1,show bM cC NN (0,R,A,X,Y,M,K,D,U,0,0,(),(),(),0,now,rest,R,A,X,Y,M,K,())=_ from g2];dsimp only;rw[bne_self_eq_false,oCF];exact⟨_,_,_,_,_,rfl,rfl,g0,by unfold Sm;omega⟩
theorem Pi{R A K:Int}{X:CC}{Y:TT'}{M:List PID}{C:CC}{T:TT'}{D:CC}{U:TT'}(hJ:StK X Y)(hM:M.length<=1000000)(h:StK C T)(h2:StK D U)(n:Int):cD R A X Y M K C T D U n=some (true,()):=by
 obtain⟨M1,e1,c1,c2,c3⟩:=AH (R:=R) (A:=A) (K:=K) hJ hM h h2;obtain⟨C1,T1,M2,K2,e2,s1,s2,s3,s4⟩:=FG (R:=R) (A:=A) (K:=K) hJ hM h2 n;unfold cD;rw[c1,c2,s1,s2];simp only[oBS];rw[beq_self_eq_true,beq_self_eq_true,oCT,oCT,Gx hJ c3];simp only[oBS,oCT];rw[Gx s3 s4];simp only[oBS,oCT];unfold iU jF;simp only[oBS];rw[beq_self_eq_true]
theorem Fq(C:CC):(C.map λc=>List.replicate c.length ((0,(0,(0,0))):DCn))=zC (szs C):=by
 unfold zC szs;rw[List.map_map];refine List.map_congr_left λc _=>?_;show _=List.replicate (c.length:Int).toNat _;rw[oTN]
theorem CA{A:CC}{B:TT'}{C:CC}{T:TT'}(hA:StK A B)(h:StK C T)(hs:shp C T)(g:¬ve A B C T):cK A B C T 2 3=some (.inr (2,3,zC (szs C),zT T.length,pgs (szs C) T.length,0,0,())):=by
 have t4:=hs.2.1;unfold cK gK;rw[oz h.1,oDT hs];simp only[oBS,oNT,oCF];rw[wO g hA.1 h.1 hA.2.2.2 h.2.2.2,oBS];delta bJ;dsimp only;rw[show((1:Int)==0)=false from rfl,oCF,bN];simp only[oBS];rw[show gk T.length T.length 8=true by unfold gk;simp;omega,oCT,pj h.1,oBS];dsimp only;rw[Fr (mU hs) (f:=0) (g:=0),oBS];dsimp only;rw[List.length_replicate,zH (mU hs) t4];rfl
def Nh(C:CC)(T:TT')(i:Nat):Int×Int×Int×CC×TT'×Int×Int×Unit×Unit×Unit×Int×List PID×CC×TT'×Unit:=
 (2,3,(i:Int),C,T,0,0,(),(),(),0,pgs (szs C) T.length,(C.take i).map (λc=>List.replicate c.length ((0,(0,(0,0))):DCn)),zT T.length,())
theorem mk4{n:Nat}(h:n<=1000):gk n n 4=true:=by
 unfold gk;simp;omega
theorem Nv{C:CC}{T:TT'}(hs:shp C T)(i:Nat)(hi:i<C.length):c9 (Nh C T i)=some (.inl (Nh C T (i+1))):=by
 have c4:=hs.1;have hz:=of_decide_eq_true (hs.2.2 _ (List.getElem_mem hi));unfold Nh;unfold c9;delta bJ;dsimp only;rw[oDT (show(i:Int)<(C.length:Int) by omega),oCT,bN];simp only[oBS];rw[bQ hi,oBS,bN,oBS,oBS,mk4 (by omega),oCT,bT (by rw[List.length_map,oLT];omega) (by simp) (by omega) (by rw[List.length_map,oLT];simp;omega),oCT,bR (by omega) (by omega),<- fb hi,List.map_append];rfl
theorem O6{C:CC}{T:TT'}:c9 (Nh C T C.length)=some (.inr (2,3,(C.length:Int),false,C,T,0,0,(),(),(),0,pgs (szs C) T.length,zC (szs C),zT T.length,())):=by
 unfold Nh;unfold c9;delta bJ;dsimp only;rw[oDF (by omega),oCF,List.take_length,Fq C]
theorem DZ{C:CC}{T:TT'}(hs:shp C T):bM c9 NN (2,3,0,C,T,0,0,(),(),(),0,pgs (szs C) T.length,[],zT T.length,())=some (2,3,(C.length:Int),false,C,T,0,0,(),(),(),0,pgs (szs C) T.length,zC (szs C),zT T.length,()):=
 loop_seq (f:=c9) (st:=Nh C T) (n:=C.length) (N:=NN) (eA (Nat.le_trans hs.1 (by omega))) (Nv hs) O6
theorem Cz{A:CC}{B:TT'}{C:CC}{T:TT'}(hA:StK A B)(h:StK C T)(hs:shp C T)(g:¬ve A B C T):cF A B C T 2 3=some (2,3,zC (szs C),zT T.length,pgs (szs C) T.length,0,0,()):=by
 have t4:=hs.2.1;have c4:=hs.1;unfold cF;have l0:=DZ hs;obtain⟨F,hF⟩:∃F,F=bM c9 NN:=⟨_,rfl⟩;rw[<- hF]at l0⊢;clear hF;rw[i9 h.1,oDT hs];simp only[oBS,oNT,oCF];rw[wP g hA.1 h.1,oBS];delta bJ;dsimp only;rw[show((1:Int)==0)=false from rfl,oCF,nC h.1,oBS];dsimp only;rw[Dn (mU hs) t4,oBS];dsimp only;rw[bN];simp only[oBS];rw[show gk T.length T.length 8=true by unfold gk;simp;omega,oCT];rw[show F (2,3,0,C,T,0,0,(),(),(),0,pgs (szs C) T.length,[],List.replicate T.length (0,(0,(0,(0,(0,(0,(0,[]))))))),())=_ from l0,oBS]
theorem AR{A:CC}{B:TT'}{C:CC}{T:TT'}(hA:StK A B)(h:StK C T)(g:ve A B C T):cK A B C T 2 3=some (.inl (2,3,A,B,dif A B C T,0,0,())):=by
 unfold cK gK;rw[oz h.1,oDT g.2.1];simp only[oBS,oNT,oCF];rw[AK g hA.2.2.2 h.2.2.2,oBS];dsimp only;rw[beq_self_eq_true,oCT,Ax hA];rfl
theorem AQ{A:CC}{B:TT'}{C:CC}{T:TT'}(hA:StK A B)(h:StK C T)(g:ve A B C T):cF A B C T 2 3=some (2,3,A,B,dif A B C T,0,0,()):=by
 unfold cF;rw[i9 h.1,oDT g.2.1];simp only[oBS,oNT,oCF];rw[AM g hA.2.2.2 h.2.2.2,oBS];dsimp only;rw[beq_self_eq_true,oCT,Ch hA];rfl
theorem AP{A:CC}{B:TT'}{C:CC}{T:TT'}(h:StK C T)(hs:¬shp C T):cK A B C T 2 3=some (.inl (0,0,[],[],[],0,1,())):=by
 unfold cK gK;rw[oz h.1,oDF hs];rfl
theorem AO{A:CC}{B:TT'}{C:CC}{T:TT'}(h:StK C T)(hs:¬shp C T):cF A B C T 2 3=some (0,0,[],[],[],0,1,()):=by
 unfold cF;rw[i9 h.1,oDF hs];rfl
theorem Fg{A:CC}{B:TT'}{C:CC}{T:TT'}(hA:StK A B)(h:StK C T):
 ∃(R q:Int)(X:CC)(Y:TT')(M:List PID)(K e:Int),(cK A B C T 2 3=some (.inl (R,q,X,Y,M,K,e,()))\/cK A B C T 2 3=some (.inr (R,q,X,Y,M,K,e,())))/\cF A B C T 2 3=some (R,q,X,Y,M,K,e,())/\StK X Y/\M.length<=20:=by
 by_cases hs:shp C T
 rotate_left
 ·exact⟨_,_,_,_,_,_,_,.inl (AP h hs),AO h hs,⟨by simp[Sm],(λc hc=>by cases hc),by simp[Sm],(λt ht=>by cases ht)⟩,Nat.zero_le _⟩
 by_cases g:ve A B C T
 ·exact⟨_,_,_,_,_,_,_,.inl (AR hA h g),AQ hA h g,hA,Ie g.1⟩
 ·exact⟨_,_,_,_,_,_,_,.inr (CA hA h hs g),Cz hA h hs g,Fs (mU hs) hs.2.1,nJ (mU hs) hs.2.1⟩
def A1:List CT->CT
 | []=>.nat
 | [t]=>t
 |t::u::r=>.pair t (A1 (u::r))
def km:(l:List CT)->HL den l->den (A1 l)
 | [],_=>(0:Nat)
 | [_],h=>h.1
 |_::u::r,h=>(h.1,km (u::r) h.2)
def encL:(l:List CT)->HL den l->List TV
 | [],_=>[]
 |t::r,h=>enc t h.1++encL r h.2
theorem DF:∀(l:List CT)(h:HL den l),enc (A1 l) (km l h)=encL l h
 | [],_=>rfl
 | [_],h=>(List.append_nil _).symm
 |_::u::r,h=>by
  show enc _ h.1++enc (A1 (u::r)) (km (u::r) h.2)=_;rw[DF (u::r) h.2];rfl
def ot:(c:CT)->den c->Prop
 |.int k,n=>(Lit.int k n).wf=true
 |.str,s=>ByteArray.size s<=maxLen
 |.row _ t,xs=>List.length xs<=maxLen/\∀x∈xs,ot t x
 |.pair a b,x=>ot a x.1/\ot b x.2
 |_,_=>True
def GoodL:(l:List CT)->HL den l->Prop
 | [],_=>True
 |t::r,h=>ot t h.1/\GoodL r h.2
theorem Aj:∀(l:List CT)(h:HL den l),GoodL l h->ot (A1 l) (km l h)
 | [],_,_=>trivial
 | [_],_,g=>g.1
 |_::u::r,h,g=>⟨g.1,Aj (u::r) h.2 g.2⟩
def appL:(l m:List CT)->HL den l->HL den m->HL den (l++m)
 | [],_,_,k=>k
 |_::r,m,h,k=>(h.1,appL r m h.2 k)
theorem DG:∀(l m:List CT)(h:HL den l)(k:HL den m),encL (l++m) (appL l m h k)=encL l h++encL m k
 | [],_,_,_=>rfl
 |t::r,m,h,k=>by
  show enc t h.1++encL (r++m) (appL r m h.2 k)=(enc t h.1++encL r h.2)++_;rw[DG r m h.2 k,List.append_assoc]
theorem Dx:∀(l m:List CT)(h:HL den l)(k:HL den m),GoodL l h->GoodL m k->GoodL (l++m) (appL l m h k)
 | [],_,_,_,_,g=>g
 |_::r,m,h,k,g,g'=>⟨g.1,Dx r m h.2 k g.2 g'⟩
def lN:(c:CT)->den c->Nat
 |.int _,_=>1
 |.bool,_=>1
 |.str,_=>1
 |.row _ t,xs=>1+(List.map (lN t) xs).sum
 |.pair a b,x=>lN a x.1+lN b x.2
 |_,_=>0
def sizL:(l:List CT)->HL den l->Nat
 | [],_=>0
 |t::r,h=>lN t h.1+sizL r h.2
theorem CR:∀(l:List CT)(h:HL den l),lN (A1 l) (km l h)=sizL l h
 | [],_=>rfl
 | [_],h=>(Nat.add_zero _).symm
 |_::u::r,h=>by
  show lN _ h.1+lN (A1 (u::r)) (km (u::r) h.2)=_;rw[CR (u::r) h.2];rfl
theorem FO:∀(l m:List CT)(h:HL den l)(k:HL den m),sizL (l++m) (appL l m h k)=sizL l h+sizL m k
 | [],_,_,_=>(Nat.zero_add _).symm
 |t::r,m,h,k=>by
  show lN t h.1+sizL (r++m) (appL r m h.2 k)=lN t h.1+sizL r h.2+sizL m k;rw[FO r m h.2 k,Nat.add_assoc]
structure Bulk {H:Type}(B:DataW H->Nat):Prop where
 li:∀l,1<=B (.lit l)
 ni:1<=B .nil
 sl:∀es rs,1+(es.map B).sum<=B (.slice es rs)
 ag:∀xs,(xs.map B).sum<=B (.agg xs)
theorem Ba{n:Nat}{f:Fin n->Nat}{l:List Nat}(hl:l.length=n)(h:∀i:Fin n,f i<=l.getD i.1 0):(List.ofFn f).sum<=l.sum:=by
 induction n generalizing l with
 |zero=>simp
 |succ n ih=>
  match l,hl with
  |x::r,hl=>
   rw[List.ofFn_succ,List.sum_cons,List.sum_cons];exact Nat.add_le_add (h 0) (ih (by simpa using hl) λi=>by simpa using h i.succ)
def RelL(w:World):List TV->List Value->Prop
 | [],[]=>True
 |t::ts,v::vs=>io w (λ_=>True) t v/\RelL w ts vs
 |_,_=>False
theorem RelL.app{w:World}:∀{a:List TV}{x:List Value}{b:List TV}{y:List Value},RelL w a x->RelL w b y->RelL w (a++b) (x++y)
 | [],[],_,_,_,h=>h
 |_::a,_::x,_,_,g,h=>⟨g.1,RelL.app (a:=a) (x:=x) g.2 h⟩
 | [],_::_,_,_,g,_=>g.elim
 |_::_,[],_,_,g,_=>g.elim
theorem RelL.len{w:World}:∀{a:List TV}{x:List Value},RelL w a x->a.length=x.length
 | [],[],_=>rfl
 |_::a,_::x,g=>by rw[oLC,oLC,RelL.len (a:=a) (x:=x) g.2]
 | [],_::_,g=>g.elim
 |_::_,[],g=>g.elim
theorem RelL.get{w:World}:∀{a:List TV}{x:List Value},RelL w a x->∀j (h:j<a.length)(h':j<x.length),io w (λ_=>True) a[j] x[j]
 |_::_,_::_,g,0,_,_=>g.1
 |_::a,_::x,g,j+1,h,h'=>RelL.get (a:=a) (x:=x) g.2 j (by simpa using h) (by simpa using h')
 | [],_,_,_,h,_=>by simp at h
 |_::_,[],g,_,_,_=>g.elim
def NS(P:Program)(g:TypeId->Option (List CT)):Nat->List Field->Option (List CT)
 |_,[]=>some []
 |off,f::fs=>match g f.type with
  |some l=>if f.offset=off/\l.length=P.cellsOf f.type then(NS P g (off+l.length) fs).map (l++·)else none
  |none=>none
def tV(P:Program):Nat->TypeId->Option (List CT)
 |0,_=>none
 |n+1,t=>match P.underlying t with
  |some .bool=>some [.bool]
  |some (.int k)=>some [.int k]
  |some .string=>some [.str]
  |some (.slice e)=>match tV P n e with
   |some l=>if l.length=P.cellsOf e then some [.row false (A1 l)]else none
   |none=>none
  |some (.struct fs)=>match NS P (tV P n) 0 fs.toList with
   |some l=>if l.length=P.cellsOf t then some l else none
   |none=>none
  |_=>none
section
variable {H:Type} {B:DataW H->Nat} {ec:TypeId×Value->H} {P:Program} {w:World} {base:Nat} {spare:Nat->Bool} {held:Bool}
theorem HA{g:TypeId->Option (List CT)}{m:Nat}{cs:List Value}
 (ih:∀t L,g t=some L->∀cs x,DataW.trod ec P w base spare held m t cs=some x->∃h:HL den L,GoodL L h/\RelL w (encL L h) cs/\sizL L h<=B x.1):
 ∀(fs:List Field)(xs:List (DataW H×List MemPlace))(off:Nat)(L:List CT),NS P g off fs=some L->xs.length=fs.length->(∀(i:Nat)(f:Field),fs[i]?=some f->DataW.trod ec P w base spare held m f.type ((cs.drop f.offset).take (P.cellsOf f.type))=xs[i]?)->
  ∃h:HL den L,GoodL L h/\RelL w (encL L h) ((cs.drop off).take L.length)/\sizL L h<=(xs.map λx=>B x.1).sum:=by
 intro fs
 induction fs with
 |nil=>
  intro xs off L hL _ _
  injection hL with hL
  subst hL;exact⟨(),trivial,trivial,Nat.zero_le _⟩
 |cons f fs Sc=>
  intro xs off L hL Vd hx;unfold NS at hL
  obtain⟨x,xs,rfl⟩:∃y ys,xs=y::ys:=by cases xs with|nil=>simp at Vd|cons y ys=>exact⟨y,ys,rfl⟩
  split at hL
  ·rename_i l hg;split at hL
   ·rename_i ho;obtain⟨rfl,hlen⟩:=ho
    cases hr:NS P g (f.offset+l.length) fs with
    |none=>rw[hr]at hL;cases hL
    |some L2=>
     rw[hr]at hL
     injection hL with hL
     subst hL;have h1:=hx 0 f rfl;rw[List.getElem?_cons_zero]at h1;obtain⟨h,g1,r1,z1⟩:=ih _ _ hg _ _ h1
     obtain⟨k,g2,r2,z2⟩:=Sc xs _ _ hr (by simpa using Vd) λi f' Sx=>by simpa using hx (i+1) f' (by simpa using Sx)
     refine⟨appL l L2 h k,Dx _ _ _ _ g1 g2,?_,by rw[FO,List.map_cons,List.sum_cons];exact Nat.add_le_add z1 z2⟩;rw[DG,List.length_append,List.take_add,List.drop_drop];rw[hlen];rw[hlen]at r2;exact r1.app r2
   ·cases hL
  ·cases hL
theorem Of(hB:Bulk B):∀(n:Nat)(t:TypeId)(L:List CT),tV P n t=some L->∀(X3:Nat)(cs:List Value)(x:DataW H×List MemPlace),DataW.trod ec P w base spare held X3 t cs=some x ->
 ∃h:HL den L,GoodL L h/\RelL w (encL L h) cs/\sizL L h<=B x.1:=by
 intro n
 induction n with
 |zero=>intro t L h;cases h
 |succ n ih=>
  intro t L hL X3 cs x hx;unfold tV at hL;split at hL
  ·rename_i ht
   injection hL with hL
   subst hL;obtain⟨b,rfl,hd⟩:=DataW.trod_bool ht hx;exact⟨(b,()),⟨trivial,trivial⟩,⟨.v rfl,trivial⟩,by rw[hd];exact hB.li _⟩
  ·rename_i k ht
   injection hL with hL
   subst hL;obtain⟨z,rfl,hd,hw⟩:=DataW.trod_int ht hx;exact⟨(z,()),⟨hw,trivial⟩,⟨.v rfl,trivial⟩,by rw[hd];exact hB.li _⟩
  ·rename_i ht
   injection hL with hL
   subst hL;obtain⟨s,rfl,hd,hs⟩:=DataW.trod_string ht hx;exact⟨(s,()),⟨hs,trivial⟩,⟨.v rfl,trivial⟩,by rw[hd];exact hB.li _⟩
  ·rename_i e ht;split at hL
   ·rename_i l hl;split at hL
    ·rename_i hsz
     injection hL with hL
     subst hL
     rcases DataW.trod_slice ht hx with⟨rfl,hd⟩|⟨a,len,cap,W6,rest,m,_,rfl,hd,_,YN,hmax,Zd,Z6,_,_⟩
     ·exact⟨([],()),⟨⟨Nat.zero_le _,λx hx=>by cases hx⟩,trivial⟩,⟨.sl (c:=[]) 1 (λ_ _=>undef) (λi h=>by simp at h) (Nat.le_refl _) (Nat.zero_le _) (λ_=>rfl) (λi j h=>by simp at h) (λi j h=>by simp at h),trivial⟩,by rw[hd];exact hB.ni⟩
     ·have QR:∀i:Fin len,∃p:HL den l×List Value,GoodL l p.1/\RelL w (encL l p.1) p.2/\w.cells? base (a.add (i.1*P.cellsOf e)) (P.cellsOf e)=some p.2/\sizL l p.1<=(W6.map λx=>B x.1).getD i.1 0:=by
       intro i;have h1:=Z6 i.1 i.2;rw[oGE (by omega)]at h1;obtain⟨cs',h2,h3⟩:=Option.bind_eq_some_iff.1 h1;obtain⟨h,g,r,z⟩:=ih _ _ hl _ _ _ h3;exact⟨(h,cs'),g,r,h2,by simpa[Zd,i.2]using z⟩
      obtain⟨f,hf⟩:=Classical.axiomOfChoice QR
      have QQ:∀i,(encL l (f i).1).length=l.length:=λi=>by
       rw[(hf i).2.1.len,(World.cells?_some (hf i).2.2.1).2.1,hsz]
      have Z0:io w (λ_=>True) (.sl ((List.ofFn λi:Fin len=>km l (f i).1).map (enc (A1 l)))) (.slice (some a) ((List.ofFn λi:Fin len=>km l (f i).1).map (enc (A1 l))).length cap):=by
       have el:((List.ofFn λi:Fin len=>km l (f i).1).map (enc (A1 l))).length=len:=by simp
       have eg:∀i (hi:i<((List.ofFn λi:Fin len=>km l (f i).1).map (enc (A1 l))).length),((List.ofFn λi:Fin len=>km l (f i).1).map (enc (A1 l)))[i]=encL l (f ⟨i,by omega⟩).1:=by
        intro i hi;simp[DF]
       refine .sl l.length (λi j=>if h:i<len then(f ⟨i,h⟩).2.getD j undef else undef) (λi hi=>by rw[eg i hi,QQ]) (by rw[el];exact YN) hmax (λh=>by cases h) (λi j hi hj=>?_) (λi j hi hj=>?_)
       ·rw[el]at hi
        have cell:∀i' (ZT:i'<len) j',j'<l.length->w.cell? ((a.add (i'*l.length)).add j')=some ((f ⟨i',ZT⟩).2.getD j' undef):=by
         intro i' ZT j' ZY;have h1:=World.cells?_some (hf ⟨i',ZT⟩).2.2.1;have h2:=h1.2.2 j' (by omega);rw[hsz];rw[h2]
         have:j'<(f ⟨i',ZT⟩).2.length:=by rw[h1.2.1];omega
         simp[this]
        have h0:=World.cell?_spot (cell 0 (by omega) 0 (by omega));obtain⟨b,o,spot⟩:=a
        have TL:spot=none:=by simpa[Addr.add]using h0
        subst TL;refine⟨b,o,rfl,trivial,?_⟩;have h2:=cell i hi j hj;rw[Go.WideShapes.add_plain,Go.WideShapes.add_plain]at h2;rw[dif_pos hi,<- h2,Nat.add_assoc]
       ·rw[el]at hi;have hr:=(hf ⟨i,hi⟩).2.1
        have hj2:j<(encL l (f ⟨i,hi⟩).1).length:=by rw[eg i (by omega)]at hj;exact hj
        have UH:j<(f ⟨i,hi⟩).2.length:=by rw[<- hr.len];exact hj2
        have h3:=hr.get j hj2 UH
        have e1:(if h:i<len then(f ⟨i,h⟩).2.getD j undef else undef)=(f ⟨i,hi⟩).2[j]:=by
         rw[dif_pos hi];simp[UH]
        simp only[e1];have e2:((List.ofFn λi:Fin len=>km l (f i).1).map (enc (A1 l)))[i]'(by omega)=encL l (f ⟨i,hi⟩).1:=eg i (by omega);simp only[e2];exact h3
      rw[List.length_map,List.length_ofFn]at Z0;refine⟨(List.ofFn λi:Fin len=>km l (f i).1,()),⟨⟨by rw[List.length_ofFn];omega,λx hx=>?_⟩,trivial⟩,⟨Z0,trivial⟩,?_⟩
      rotate_left
      ·rw[hd];refine Nat.le_trans ?_ (hB.sl _ _);show 1+(List.map (lN (A1 l)) (List.ofFn λi:Fin len=>km l (f i).1)).sum+0<=_;rw[List.map_ofFn,List.map_map]
       have:=Ba (f:=lN (A1 l) ∘ λi:Fin len=>km l (f i).1) (l:=W6.map λx=>B x.1) (by simpa using Zd) λi=>by
        rw[Function.comp,CR];exact(hf i).2.2.2
       have e:(W6.map (B ∘ λx=>x.1)).sum=(W6.map λx=>B x.1).sum:=rfl;rw[e];omega
      obtain⟨i,rfl⟩:=List.mem_ofFn.1 hx;exact Aj _ _ (hf i).1
    ·cases hL
   ·cases hL
  ·rename_i fs ht;split at hL
   ·rename_i l hl;split at hL
    ·rename_i hsz
     injection hL with hL
     subst hL;obtain⟨xs,m,_,hd,hlen,hxl,hf⟩:=DataW.trod_struct ht hx;obtain⟨h,g,r,z⟩:=HA (cs:=cs) (m:=m) (λt L hL cs x hx=>ih t L hL m cs x hx) fs.toList xs 0 l hl (by simpa using hxl) λi f hi=>hf i f (by simpa using hi);refine⟨h,g,?_,by rw[hd];exact Nat.le_trans z (by have:=hB.ag (xs.map (·.1));rw[List.map_map]at this;exact this)⟩;rw[List.drop_zero,hsz,<- hlen,List.take_length]at r;exact r
    ·cases hL
   ·cases hL
  ·cases hL
theorem intake_arg(hB:Bulk B)(n:Nat){t:TypeId}{L:List CT}{v:Value}{d:DataW H}{p:List MemPlace}(hL:tV P n t=some L)(h:DataW.Trod ec P w base spare held t v d p):
 ∃h:HL den L,GoodL L h/\RelL w (encL L h) v.cells.toList/\sizL L h<=B d:=by
 obtain⟨X3,hf⟩:=h;exact Of hB n t L hL X3 _ _ hf
end
theorem plain_one{w:World}{t:TV}{v:Value}(r:RelL w [t] [v]):AX w t v:=r.1.plain
theorem plain_agg{w:World}{l:List TV}{cs:Array Value}(r:RelL w l cs.toList):AX w (.agg l) (.agg cs):=by
 intro F V C G hF
 have hl:cs.size=l.length:=by rw[r.len];simp
 refine .agg hl λj hj=>?_
 have hj2:j<cs.toList.length:=by simp_all
 have h1:=(r.get j hj hj2).plain F V C G hF
 simp_all
theorem Hl{L:List ST}(hn:L.length<=1048576)(hL:∀s∈L,StK s.1 s.2):∃b,fO L=some (b,())/\(b=true->L.length<=8):=by
 unfold fO;delta bJ;dsimp only;by_cases g:(L.length:Int)>8
 ·rw[oDT g,oCT];exact⟨false,rfl,λe=>by cases e⟩
 rw[oDF g,oCF]
 obtain⟨t,e,_⟩:=ou (f:=jG) (λs=>∃i:Nat,s=(L,(i:Int),())/\i<=L.length) (λt=>True) (λs=>L.length-s.2.1.toNat) (n:=NN) (s:=(L,0,())) ⟨0,rfl,Nat.zero_le _⟩ (by unfold NN;show L.length-(0:Int).toNat<_;omega) (by
  rintro _ ⟨i,rfl,hi⟩;unfold jG;delta bJ;dsimp only;by_cases hl:i<L.length
  ·have hs:=hL _ (List.getElem_mem hl);obtain⟨b,eb⟩:=Pg hs.1 hs.2.2.1;rw[oDT (show(i:Int)<L.length by omega),oCT,bN,oBS,bQ hl,oBS,eb,oBS];dsimp only
   cases b with
   |true=>
    rw[oNT,oCF,bR (x:=(i:Int)+1) (by omega) (by omega)];exact⟨_,rfl,⟨i+1,rfl,by omega⟩,by show L.length-((i:Int)+1).toNat<L.length-(i:Int).toNat;omega⟩
   |false=>
    exact⟨_,rfl,trivial⟩
  ·rw[oDF (show ¬(i:Int)<L.length by omega)]
   exact⟨_,rfl,trivial⟩)
 rw[e];rcases t with t|t
 ·exact⟨_,rfl,λ_=>by omega⟩
 ·exact⟨_,rfl,λ_=>by omega⟩
theorem O8{L:List ST}(hn:L.length<=1048576)(hL:∀s∈L,StQ s.1 s.2){I:List Bool}(hI:Sm I)(a b least:Int){X:CC}{Y:TT'}(hX:StQ X Y){M:List PID}(R A K n:Int):
 iX L I a b least R A X Y M K n=some (true,()):=by
 unfold iX;have hK:∀s∈L,StK s.1 s.2:=λs hs=>(hL s hs).k;obtain⟨b0,e0,g0⟩:=Hl hn hK;obtain⟨b1,e1,_⟩:=Hl (L:=[(X,Y)]) (by simp) (λs hs=>by rw[List.mem_singleton.1 hs];exact hX.k)
 have hsel:∃z,(((fO L).bind λ(x0,_)=>
  bif(!x0)then(some (L,I,least,n,true,a,b,R,A,X,Y,M,K,()))else
  let x1:Int:=(bJ (List.length I));
  bif(decide (x1>50))then(some (L,I,least,n,true,a,b,R,A,X,Y,M,K,()))else
  let x2:List ((List (List DCn))×List DTs):=[(X,Y)];
  (fO x2).bind λ(x3,_)=>
  bif(!x3)then(some (L,I,least,n,true,a,b,R,A,X,Y,M,K,()))else
  let x4:Int:=(bJ (List.length M));
  bif(decide (x4>60))then(some (L,I,least,n,true,a,b,R,A,X,Y,M,K,()))else
  let x5:Int:=(bJ (List.length L));
  some (L,I,least,n,(decide (x5<2)),a,b,R,A,X,Y,M,K,()):Option ((List ((List (List DCn))×List DTs))×(List (Bool))×Int×Int×Bool×Int×Int×Int×Int×(List (List DCn))×(List DTs)×(List DCe)×Int×Unit))=some (L,I,least,n,z,a,b,R,A,X,Y,M,K,()))/\(z=false->2<=L.length/\L.length<=8/\M.length<=60):=by
  delta bJ;dsimp only;rw[e0,oBS];dsimp only
  cases b0 with
  |false=>exact⟨true,rfl,λw=>by cases w⟩
  |true=>
  rw[oNT,oCF];by_cases g:(I.length:Int)>50
  ·rw[oDT g];exact⟨true,rfl,λw=>by cases w⟩
  rw[oDF g,oCF,e1,oBS];dsimp only
  cases b1 with
  |false=>exact⟨true,rfl,λw=>by cases w⟩
  |true=>
  rw[oNT,oCF];by_cases g:(M.length:Int)>60
  ·rw[oDT g];exact⟨true,rfl,λw=>by cases w⟩
  rw[oDF g,oCF]
  exact⟨_,rfl,λw=>by
   have:=of_decide_eq_false w;have:=g0 rfl
   omega⟩
 obtain⟨z,ez,gz⟩:=hsel;rw[ez,oBS];dsimp only
 cases z with
 |true=>
  rw[oCT,Iz];rfl
 |false=>
 obtain⟨l2,l8,hM⟩:=gz rfl;rw[oCF,bQ (show 0<L.length by omega),oBS,bQ (show 1<L.length by omega),oBS];have q0:=hK _ (List.getElem_mem (show 0<L.length by omega));have q1:=hK _ (List.getElem_mem (show 1<L.length by omega));obtain⟨R',q,X',Y',M',K',er,hp,hr,hX',hM'⟩:=Fg q0 q1
 have ZW:((cF L[0].1 L[0].2 L[1].1 L[1].2 2 3).bind λ(x24,x25,x26,x27,x28,x29,x30,_)=>
  bif(er==x30)then((dU R' q X' Y' M' K' x24 x25 x26 x27 x28 x29).bind λ(x31,_)=>
  bif x31 then((fP L I a b least).bind λ(x32,_)=>
  bif x32 then((bV L 0).bind λQN=>
  (bV L 1).bind λQO=>
  (cD R A X Y M K QN.1 QN.2 QO.1 QO.2 n).bind λ(x35,_)=>
  bif x35 then((dn).bind λ(x36,_)=>
  some (x36,()))else
  some (false,()))else
  some (false,()))else
  some (false,()))else
  some (false,()):Option (Bool×Unit))=some (true,()):=by
  rw[hr,oBS];dsimp only;rw[beq_self_eq_true,oCT,Gx hX' (by unfold Sm;omega),oBS];dsimp only;rw[oCT,M8 hL (by omega) hI,oBS];dsimp only;rw[oCT,bQ (show 0<L.length by omega),oBS,bQ (show 1<L.length by omega),oBS,Pi hX.k (by omega) q0 q1,oBS];dsimp only;rw[oCT,Iz];rfl
 rw[bQ (show 0<L.length by omega),bQ (show 1<L.length by omega)]at ZW;rcases hp with hp|hp
 ·rw[hp];dsimp only;rw[oBS,oBS];exact ZW
 ·rw[hp];dsimp only;rw[oBS,oBS];exact ZW
theorem tR{b:Bool}{t:CT}(h:∀x:den t,1<=lN t x):∀xs:List (den t),xs.length<=lN (.row b t) xs:=by
 intro xs;show xs.length<=1+(xs.map (lN t)).sum
 induction xs with
 |nil=>exact Nat.zero_le _
 |cons x r ih=>rw[List.map_cons,List.sum_cons,oLC];have:=h x;omega
theorem Bb{α:Type}{f:α->Nat}{l:List α}{x:α}(h:x∈l):f x<=(l.map f).sum:=by
 induction l with
 |nil=>simp at h
 |cons y r ih=>
  rw[List.map_cons,List.sum_cons];rcases List.mem_cons.1 h with e|h
  ·subst e;omega
  ·have:=ih h;omega
theorem K9(c:List DCn):c.length<=lN bZ c:=tR (b:=false) (t:=KCn) (λx=>by show 1<=1 + _;omega) c
theorem NG(t:DTs):t.2.2.2.2.2.2.2.length<=lN ch t:=by
 have h5:lN ch t=1+(1+(1+(1+(1+(1+(1+lN bZ t.2.2.2.2.2.2.2)))))):=rfl;have h6:=K9 t.2.2.2.2.2.2.2;omega
theorem Pr{x:Int}(h:ot (.int .u8) x):R64 x:=by
 have h3:(Lit.int .u8 x).wf=true:=h;simp[Lit.wf,IntKind.min,IntKind.max,IntKind.signed,IntKind.bits]at h3;unfold R64;omega
theorem Lr{x:Int}(h:ot (.int .u16) x):R64 x:=by
 have h3:(Lit.int .u16 x).wf=true:=h;simp[Lit.wf,IntKind.min,IntKind.max,IntKind.signed,IntKind.bits]at h3;unfold R64;omega
theorem NX{C:CC}{T:TT'}(h:lN (.row false bZ) C+lN (.row false ch) T<=1048576)(gC:ot (.row false bZ) C)(gT:ot (.row false ch) T):StQ C T:=by
 have h1:=tR (b:=false) (t:=bZ) (λx=>by show 1<=1 + _;omega) C;have h2:=tR (b:=false) (t:=ch) (λx=>by show 1<=1 + _;omega) T;have h4:lN (.row false ch) T=1+(T.map (lN ch)).sum:=rfl;have h5:lN (.row false bZ) C=1+(C.map (lN bZ)).sum:=rfl;refine⟨by omega,λc hc=>?_,by omega,λt ht=>?_,λr hr c hc=>?_,λt ht=>?_,λt ht c hc=>?_⟩
 ·have h3:lN bZ c<=(C.map (lN bZ)).sum:=Bb hc;have h6:=K9 c;omega
 ·have h3:lN ch t<=(T.map (lN ch)).sum:=Bb ht;have h6:=NG t;omega
 ·have g:ot KCn c:=(gC.2 r hr:ot bZ r).2 c hc;exact⟨Pr g.1,Lr g.2.1⟩
 ·have g:ot ch t:=gT.2 t ht;exact Lr g.2.2.2.2.2.2.1
 ·have g:ot ch t:=gT.2 t ht;have g2:ot KCn c:=(g.2.2.2.2.2.2.2:ot bZ _).2 c hc;exact⟨Pr g2.1,Lr g2.2.1⟩
abbrev KSt:CT:=.pair (.row false bZ) (.row false ch)
abbrev KJb:List CT:=[I64,I64,.row false bZ,.row false ch,.row false (.pair I64 I64),I64]
theorem law_RepairRaw{h0:HL den [.row false KSt]}{h1:HL den [.row false .bool]}{h2:HL den [I64,I64]}{h3:HL den [I64]}{h4:HL den KJb}{h5:HL den [I64]}(g0:GoodL _ h0)(g1:GoodL _ h1)(g2:GoodL _ h2)(g3:GoodL _ h3)(g4:GoodL _ h4)(g5:GoodL _ h5)
 (hz:sizL [.row false KSt] h0+(sizL [.row false .bool] h1+(sizL [I64,I64] h2+(sizL [I64] h3+(sizL KJb h4+(sizL [I64] h5+(0))))))<=1048576):
 mb.g (appL [.row false KSt] _ h0 (appL [.row false .bool] _ h1 (appL [I64,I64] _ h2 (appL [I64] _ h3 (appL KJb _ h4 (appL [I64] _ h5 ()))))))=some (true,()):=by
 obtain⟨L,z0⟩:=h0;obtain⟨I,z1⟩:=h1;obtain⟨R,A,X,Y,M,K,z4⟩:=h4;have e0:sizL [.row false KSt] (L,z0)=1+(List.map (lN KSt) L).sum+0:=rfl;have e1:sizL [.row false .bool] (I,z1)=lN (.row false .bool) I+0:=rfl;have e4:sizL KJb (R,A,X,Y,M,K,z4)=1+(1+(lN (.row false bZ) X+(lN (.row false ch) Y+(lN (.row false (.pair I64 I64)) M+(1+0))))):=rfl;have i0:L.length<=lN (.row false KSt) L:=tR (b:=false) (t:=KSt) (λx=>by show 1<=(1 + _) + _;omega) L;have i0':lN (.row false KSt) L=1+(List.map (lN KSt) L).sum:=rfl;have i1:=tR (b:=false) (t:=.bool) (λx=>by show 1<=1;omega) I;have gL:ot (.row false KSt) L:=g0.1
 exact O8 (L:=L) (I:=I) (M:=M) (by omega) (λs hs=>by
  have h3:lN KSt s<=(L.map (lN KSt)).sum:=Bb hs;have h4:lN KSt s=lN (.row false bZ) s.1+lN (.row false ch) s.2:=rfl;have g:ot KSt s:=gL.2 s hs
  exact NX (by omega) g.1 g.2) (by unfold Sm;show I.length<=_;omega) h2.1 h2.2.1 h3.1 (NX (C:=X) (T:=Y) (by omega) g4.2.2.1 g4.2.2.2.1) R A K h5.1
end Go.Proofs.YtakfoejcjdcgbaaGreat
