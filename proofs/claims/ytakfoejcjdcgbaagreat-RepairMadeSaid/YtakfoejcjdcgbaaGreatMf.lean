/- Part of the proof; no condition. -/
import Derived.Test.YtakfoejcjdcgbaaGreatMe
import Derived.Deep.Slices
set_option linter.unusedVariables false
set_option linter.unusedSimpArgs false
namespace Go.Proofs.YtakfoejcjdcgbaaGreat
open Go.RowKit Go.Lib
theorem LS{l:List ST}(hl:∀s∈l,StQ s.1 s.2){I:List Bool}{a b least:Int}(h:(agK l I a b least).2.2=0):
 ((agK l I a b least).1.1,(agK l I a b least).1.2.1)=((a,b):PID)/\PgK (agK l I a b least).1:=by
 unfold agK at h⊢;by_cases h1:l.length<=5/\I.length=l.length/\1<=least/\least<=5
 rotate_left
 ·rw[oIN h1]at h;dsimp only at h;split at h<;>cases h
 rw[oIP h1]at h⊢;by_cases h2:(vd (jT l I a b) l.length least).1=1\/(vd (jT l I a b) l.length least).1=2
 rotate_left
 ·rw[oIN h2]at h;cases h
 rw[oIP h2]at h⊢;obtain⟨_,k0,VD,WG⟩:=F5 h2;generalize(vd (jT l I a b) l.length least).2.1=bs at WG⊢;have hf:(List.range l.length).findIdx (λk=>decide (jT l I a b k=some (true,bs)))<(List.range l.length).length:=List.findIdx_lt_length_of_exists ⟨k0,List.mem_range.2 VD,oDT WG⟩;have hg:=of_decide_eq_true (List.findIdx_getElem (xs:=List.range l.length) (p:=λk=>decide (jT l I a b k=some (true,bs))) (w:=hf));rw[List.getElem_range]at hg;rw[List.length_range]at hf;generalize(List.range l.length).findIdx (λk=>decide (jT l I a b k=some (true,bs)))=k at hf hg;dsimp only;unfold jT at hg;split at hg
 rotate_left
 ·cases hg
 injection hg with hg
 have hH:Hs (l.getD k ([],[])) a b:=Classical.byContradiction λn=>by
  unfold vn at hg;rw[oIN n]at hg;cases hg
 have e:f8 a b (l.getD k ([],[]))=pg (l.getD k ([],[])).1 (l.getD k ([],[])).2 (a,b):=oIP hH;have hq:=Py (hl (l.getD k ([],[])) (by rw[cS hf];exact List.getElem_mem hf)) (a,b);rw[e];exact⟨MR (a,b),Nat.le_trans hq.lc (by omega),Nat.le_trans hq.lr (by omega)⟩
theorem El{l:List ST}{I:List Bool}{a b least:Int}:(agK l I a b least).2.1.length<=5/\∀x∈(agK l I a b least).2.1,∃j:Nat,j<l.length/\x=j:=by
 unfold agK;by_cases h1:l.length<=5/\I.length=l.length/\1<=least/\least<=5
 rotate_left
 ·rw[oIN h1];exact⟨Nat.zero_le _,λx hx=>by cases hx⟩
 rw[oIP h1];split
 ·exact⟨Nat.le_trans (Li _ _ _) h1.1,λx hx=>LZ hx⟩
 ·exact⟨Nat.zero_le _,λx hx=>by cases hx⟩
def flg(n:Nat)(L:List Int):List Bool:=(List.range n).map λj:Nat=>decide ((j:Int)∈L)
theorem sb(n:Nat)(L:List Int):(flg n L).length=n:=by unfold flg;simp
theorem Np{n m:Nat}(hm:m<n)(L:List Int):(flg n L).modify m (λ_=>true)=flg n (L++[(m:Int)]):=HU _ _ hm _ λj=>by
 by_cases e:j=m
 ·subst e;rw[oIP rfl,oDT (by simp)]
 ·rw[oIN e];rw[decide_eq_decide];rw[List.mem_append,List.mem_singleton];exact⟨λh=>h.elim id λh=>absurd (by omega) e,λh=>.inl h⟩
theorem Fl{l:List ST}{I:List Bool}{S:List Int}{ids:List PID}{P:List PG}{least it:Int}{L lo:List Int}(VG:lo.length<=1000)(hx:∀x∈lo,∃j:Nat,j<l.length/\x=j):
 bM fU NN (l,I,least,S,it,lo,0,(),(),S,ids,flg l.length L,P,())=some (l,I,least,S,it,lo,(lo.length:Int),false,(),(),S,ids,flg l.length (L++lo),P,()):=by
 have l0:=loop_seq (f:=fU) (st:=λk=>(l,I,least,S,it,lo,(k:Int),(),(),S,ids,flg l.length (L++lo.take k),P,())) (n:=lo.length) (N:=NN) (fin:=(l,I,least,S,it,lo,(lo.length:Int),false,(),(),S,ids,flg l.length (L++lo.take lo.length),P,())) (eu (by omega)) (λk hk=>by
  obtain⟨j,hj,ej⟩:=hx _ (List.getElem_mem hk);unfold fU;delta bJ;dsimp only;rw[oDT (show(k:Int)<(lo.length:Int) by omega),oCT,bN];simp only[oBS];rw[bO hk];simp only[oBS];rw[ej,bN];simp only[oBS];rw[bO (show j<(flg l.length (L++lo.take k)).length by rw[sb];exact hj)];simp only[oBS];rw[Np hj,bS (by omega) (by omega),<- eA hk,<- ej,List.append_assoc]
  rfl) (by
  unfold fU;delta bJ;dsimp only
  rw[oDF (by omega),oCF])
 rw[List.take_length]at l0;rw[<- l0,show flg l.length (L++lo.take 0)=flg l.length L by rw[List.take_zero,List.append_nil]];rfl
structure WI (ids:List PID)(i:Nat)(P:List PG)(L:List Int)(n:Nat):Prop where
 len:P.length=i
 id:∀j (h:j<i)(h':j<P.length)(h2:j<ids.length),(P[j].1,P[j].2.1)=ids[j]
 pgk:∀p∈P,PgK p
 ll:L.length<=5*i
 lost:∀x∈L,∃j:Nat,j<n/\x=j
theorem F3{l:List ST}(hl:∀s∈l,StQ s.1 s.2)(hn:l.length<=1000){I:List Bool}(hI:Sm I){S:List Int}{ids:List PID}(hi20:ids.length<=20){least:Int}:∀(k i:Nat),i+k=ids.length->∀(P:List PG)(L:List Int),WI ids i P L l.length->∀M,k<M ->
 (∃e:Int,bM cH M (l,I,least,S,(ids.length:Int),(i:Int),(),(),S,ids,P,L,())=some (.inl (e,(),(),(),()))/\bM cM M (l,I,least,S,(i:Int),(),(),S,ids,flg l.length L,P,())=some (.inl (e,(),(),(),())))\/
 ∃(P':List PG)(L':List Int),WI ids ids.length P' L' l.length/\bM cH M (l,I,least,S,(ids.length:Int),(i:Int),(),(),S,ids,P,L,())=some (.inr (l,I,least,S,(ids.length:Int),(ids.length:Int),false,(),(),S,ids,P',L',()))/\
  bM cM M (l,I,least,S,(i:Int),(),(),S,ids,flg l.length L,P,())=some (.inr (l,I,least,S,(ids.length:Int),false,(),(),S,ids,flg l.length L',P',())):=by
 intro k
 induction k with
 |zero=>
  intro i hi P L h M hM;obtain⟨M,rfl⟩:∃m,M=m+1:=⟨M-1,by omega⟩
  obtain rfl:i=ids.length:=by omega
  have e1:cH (l,I,least,S,(ids.length:Int),(ids.length:Int),(),(),S,ids,P,L,())=some (.inr (.inr (l,I,least,S,(ids.length:Int),(ids.length:Int),false,(),(),S,ids,P,L,()))):=by
   unfold cH;dsimp only;rw[oDF (by omega),oCF]
  have e2:cM (l,I,least,S,(ids.length:Int),(),(),S,ids,flg l.length L,P,())=some (.inr (.inr (l,I,least,S,(ids.length:Int),false,(),(),S,ids,flg l.length L,P,()))):=by
   unfold cM;delta bJ;dsimp only;rw[oDF (by omega),oCF]
  exact .inr ⟨P,L,h,by simp only[bM,e1,oBS],by simp only[bM,e2,oBS]⟩
 |succ k ih=>
  intro i hi P L h M hM;obtain⟨M,rfl⟩:∃m,M=m+1:=⟨M-1,by omega⟩
  have hii:i<ids.length:=by omega
  have e1:=Jd hl hn hI ids[i].1 ids[i].2 least;have e2:=Jc hl hn I ids[i].1 ids[i].2 least;have e3:=LS hl (I:=I) (a:=ids[i].1) (b:=ids[i].2) (least:=least);have e4:=El (l:=l) (I:=I) (a:=ids[i].1) (b:=ids[i].2) (least:=least);generalize agK l I ids[i].1 ids[i].2 least=r at e1 e2 e3 e4;have hPl:=h.len;have hLl:=h.ll
  have hw:w64 ((i:Int)+1)=((i+1:Nat):Int):=by rw[bS (by omega) (by omega)];rfl
  have s1:cH (l,I,least,S,(ids.length:Int),(i:Int),(),(),S,ids,P,L,())=bif(r.2.2 != 0)then(some (.inr (.inl (r.2.2,(),(),(),()))))else some (.inl (l,I,least,S,(ids.length:Int),((i+1:Nat):Int),(),(),S,ids,P++[r.1],L++r.2.1,())):=by
   unfold cH;dsimp only;rw[oDT (show(i:Int)<(ids.length:Int) by omega),oCT,bN];simp only[oBS];rw[bO hii];simp only[oBS];rw[e1,oBS];dsimp only;rw[bQ (by omega) (by simp) (by omega) (by show _+1<=_;omega),oCT,bQ (by omega) (by omega) (by omega) (by omega),oCT,hw];rfl
  have s2:cM (l,I,least,S,(i:Int),(),(),S,ids,flg l.length L,P,())=bif(r.2.2 != 0)then(some (.inr (.inl (r.2.2,(),(),(),()))))else some (.inl (l,I,least,S,((i+1:Nat):Int),(),(),S,ids,flg l.length (L++r.2.1),P++[r.1],())):=by
   unfold cM;delta bJ;dsimp only;rw[oDT (show(i:Int)<(ids.length:Int) by omega),oCT,bN];simp only[oBS];rw[bO hii];simp only[oBS];rw[e2,oBS];dsimp only;rw[bQ (by omega) (by simp) (by omega) (by show _+1<=_;omega),oCT];rw[Fl (by omega) e4.2,oBS];dsimp only;rw[hw];rfl
  by_cases he:r.2.2=0
  ·rw[bne_eq_false_iff_eq.2 he,oCF]at s1 s2;obtain⟨e5,e6⟩:=e3 he
   have hW:WI ids (i+1) (P++[r.1]) (L++r.2.1) l.length:=by
    refine⟨by rw[List.length_append,hPl];rfl,λj hj h' h2=>?_,λp hp=>?_,by rw[List.length_append];omega,λx hx=>?_⟩
    ·by_cases g:j<i
     ·rw[List.getElem_append_left (show j<P.length by omega)];exact h.id j g (by omega) h2
     ·obtain rfl:j=i:=by omega
      rw[List.getElem_append_right (by omega)];simp only[hPl,Nat.sub_self,List.getElem_cons_zero];exact e5
    ·rcases List.mem_append.1 hp with hp|hp
     ·exact h.pgk p hp
     ·rw[List.mem_singleton.1 hp];exact e6
    ·rcases List.mem_append.1 hx with hx|hx
     ·exact h.lost x hx
     ·exact e4.2 x hx
   rcases ih (i+1) (by omega) _ _ hW M (by omega)with⟨e,g1,g2⟩|⟨P',L',g0,g1,g2⟩
   ·exact .inl ⟨e,by simp only[bM,s1,oBS];exact g1,by simp only[bM,s2,oBS];exact g2⟩
   ·exact .inr ⟨P',L',g0,by simp only[bM,s1,oBS];exact g1,by simp only[bM,s2,oBS];exact g2⟩
  ·rw[bne_iff_ne.2 he,oCT]at s1 s2;exact .inl ⟨r.2.2,by simp only[bM,s1,oBS],by simp only[bM,s2,oBS]⟩
theorem Nh{I:List Bool}(h:Sm I):fM I true=some (if I.findIdx (λb=>b)<I.length then(I.findIdx (λb=>b):Int)else -1,()):=by
 unfold fM;delta bJ;dsimp only;have h0:=h
 rcases fD (f:=cB) (st:=λi=>(I,true,(I.length:Int),(i:Int),())) (p:=λi=>∀h:i<I.length,I[i]=false) (n:=I.length) (N:=NN) (bad:=λi=>.inl ((i:Int),())) (fin:=.inr (I,true,(I.length:Int),(I.length:Int),false,())) (eu h) (λi hi=>by
  have e:cB (I,true,(I.length:Int),(i:Int),())=if I[i]=true then some (.inr (.inl ((i:Int),())))else some (.inl (I,true,(I.length:Int),((i+1:Nat):Int),())):=by
   unfold cB;dsimp only;rw[oDT (show(i:Int)<(I.length:Int) by omega),oCT,bN];simp only[oBS];rw[bO hi];simp only[oBS]
   cases I[i]with
   |true=>rfl
   |false=>
    rw[bS (by omega) (by omega)];rfl
  by_cases g:I[i]=true
  ·exact .inr ⟨λh=>absurd g (by rw[h hi];decide),by rw[e,oIP g]⟩
  ·exact .inl ⟨λ_=>Bool.eq_false_iff.2 g,by rw[e,oIN g]⟩) (by
  unfold cB;dsimp only
  rw[oDF (by omega),oCF])with⟨hp,e⟩|⟨k,hk,hp,hn,e⟩
 ·rw[show bM cB NN (I,true,(I.length:Int),0,())=_ from e]
  have e1:I.findIdx (λb=>b)=I.length:=List.findIdx_eq_length_of_false λc hc=>by
   obtain⟨i,hi,rfl⟩:=List.mem_iff_getElem.1 hc;exact hp i hi hi
  rw[oIN (by omega)]
 ·rw[show bM cB NN (I,true,(I.length:Int),0,())=_ from e]
  have e1:I.findIdx (λb=>b)=k:=(List.findIdx_eq hk).2 ⟨by
   cases hb:I[k]with
   |true=>rfl
   |false=>exact absurd (λ_=>hb) hn,λj hj=>hp j hj (by omega)⟩
  rw[e1,oIP hk]
theorem O2{l:List ST}{I:List Bool}(hn:Sm l)(hI:I.length=l.length){least:Int}:bM dg NN (l,I,least,-1,0,(),(),())=some (l,I,least,if I.findIdx (λb=>b)<I.length then(I.findIdx (λb=>b):Int)else -1,(l.length:Int),false,(),(),()):=by
 have h0:l.length<=1099511627776:=hn;obtain⟨f,hf⟩:∃f,f=I.findIdx (λb=>b):=⟨_,rfl⟩;have hfle:f<=I.length:=hf▸List.findIdx_le_length
 have l0:=loop_seq (f:=dg) (st:=λi=>(l,I,least,if f<i then(f:Int)else -1,(i:Int),(),(),())) (n:=l.length) (N:=NN) (fin:=(l,I,least,if f<l.length then(f:Int)else -1,(l.length:Int),false,(),(),())) (eu hn) (λi hi=>by
  have hii:i<I.length:=by omega
  have hw:w64 ((i:Int)+1)=((i+1:Nat):Int):=by rw[bS (by omega) (by omega)];rfl
  unfold dg;delta bJ;dsimp only;rw[oDT (show(i:Int)<(l.length:Int) by omega),oCT,beq_iff_eq.2 (show(I.length:Int)=(l.length:Int) by omega),oCT,bN];simp only[oBS];rw[bO hii];simp only[oBS]
  cases hb:I[i]with
  |true=>
   have hfi:f<=i:=Nat.le_of_not_lt λg=>by
    have:=List.not_of_lt_findIdx (xs:=I) (p:=λb=>b) (i:=i) (by rw[<- hf];exact g);rw[hb]at this;cases this
   rw[oCT];by_cases g:f<i
   ·rw[oIP g,oDF (show ¬(f:Int)<0 by omega),oCF,oIP (show f<i+1 by omega)];simp only[oBS];rw[hw]
   ·rw[oIN g,oDT (show(-1:Int)<0 by omega),oCT,oIP (show f<i+1 by omega)];simp only[oBS];rw[hw,show f=i by omega]
  |false=>
   have hne:f≠i:=λe=>by
    have:=List.findIdx_getElem (xs:=I) (p:=λb=>b) (w:=by rw[<- hf];omega);simp only[<- hf,e,hb]at this;cases this
   rw[oCF];simp only[oBS];rw[hw];by_cases g:f<i
   ·rw[oIP g,oIP (show f<i+1 by omega)]
   ·rw[oIN g,oIN (show ¬f<i+1 by omega)]) (by
  unfold dg;delta bJ;dsimp only
  rw[oDF (by omega),oCF])
 rw[<- hf,hI,<- l0];rfl
theorem OM{n:Nat}(hn:n<=1000){L:List Int}{C:CC}{T:TT'}:bM fT NN (0,(),(),flg n L,C,T,[],())=some ((n:Int),false,(),(),flg n L,C,T,((List.range n).filter λj:Nat=>decide ((j:Int)∈L)).map (λj:Nat=>(j:Int)),()):=by
 have l0:=loop_seq (f:=fT) (st:=λi=>((i:Int),(),(),flg n L,C,T,((List.range i).filter λj:Nat=>decide ((j:Int)∈L)).map (λj:Nat=>(j:Int)),())) (n:=n) (N:=NN) (fin:=((n:Int),false,(),(),flg n L,C,T,((List.range n).filter λj:Nat=>decide ((j:Int)∈L)).map (λj:Nat=>(j:Int)),())) (eu (by omega)) (λi hi=>by
  have ZE:=List.length_filter_le (λj:Nat=>decide ((j:Int)∈L)) (List.range i);rw[List.length_range]at ZE
  have hw:w64 ((i:Int)+1)=((i+1:Nat):Int):=by rw[bS (by omega) (by omega)];rfl
  unfold fT;delta bJ;dsimp only;rw[sb,oDT (show(i:Int)<(n:Int) by omega),oCT,bN];simp only[oBS];rw[bO (show i<(flg n L).length by rw[sb];exact hi)];simp only[oBS];rw[show(flg n L)[i]'(by rw[sb];exact hi)=decide ((i:Int)∈L) by unfold flg;simp,List.range_succ,List.filter_append,List.map_append];by_cases g:(i:Int)∈L
  ·rw[oDT g,oCT,bQ (by rw[List.length_map];omega) (by simp) (by omega) (by rw[List.length_map];show _+1<=_;omega),oCT];simp only[oBS]
   have e1:([i].filter λj:Nat=>decide ((j:Int)∈L))=[i]:=by simp[g]
   rw[hw,e1];rfl
  ·rw[oDF g,oCF];simp only[oBS]
   have e1:([i].filter λj:Nat=>decide ((j:Int)∈L))=[]:=by simp[g]
   rw[hw,e1,List.map_nil,List.append_nil]) (by
  unfold fT;delta bJ;dsimp only
  rw[sb,oDF (by omega),oCF])
 exact l0
theorem Et{l:List ST}(hl:∀s∈l,StQ s.1 s.2)(hn:l.length<=1000){I:List Bool}(hI:Sm I)(least:Int):
 ∃(C:CC)(T:TT')(L:List Int)(e:Int),i7 l I least=some (C,T,L,e,())/\jY l I least=some (C,T,L,e,())/\StK C T/\L.length<=1000:=by
 have T4:StK [] []:=⟨by simp[Sm],(λc hc=>by cases hc),by simp[Sm],(λt ht=>by cases ht)⟩;unfold i7 jY;rw[Nh hI,oBS];delta bJ;dsimp only;by_cases hl2:I.length=l.length
 rotate_left
 ·rw[bne_iff_ne.2 (show(I.length:Int)≠(l.length:Int) by omega),oCT]
  have e1:bM dg NN (l,I,least,-1,0,(),(),())=some (l,I,least,-1,0,false,(),(),()):=by
   have e2:dg (l,I,least,-1,0,(),(),())=some (.inr (l,I,least,-1,0,false,(),(),())):=by
    unfold dg;delta bJ;dsimp only;rw[oBF (show(I.length:Int)≠(l.length:Int) by omega),oCF];cases decide ((0:Int)<(l.length:Int))<;>rfl
   obtain⟨M,hM⟩:∃m,NN=m+1:=⟨NN-1,by unfold NN;omega⟩;rw[hM];simp only[bM,e2,oBS]
  rw[e1,oBS];exact⟨_,_,_,_,rfl,rfl,T4,Nat.zero_le _⟩
 rw[bne_eq_false_iff_eq.2 (show(I.length:Int)=(l.length:Int) by omega),oCF,O2 (by unfold Sm;omega) hl2,oBS];dsimp only;generalize I.findIdx (λb=>b)=f;by_cases hf:f<I.length
 rotate_left
 ·rw[oIN hf];exact⟨_,_,_,_,rfl,rfl,T4,Nat.zero_le _⟩
 rw[oIP hf,oDF (show ¬(f:Int)<0 by omega),oCF,oCF,bN]
 have ZE:f<l.length:=by omega
 simp only[oBS];rw[bO ZE];simp only[oBS];have hs:=hl _ (List.getElem_mem ZE);rw[pD hs.k.1,nK hs.k.1];simp only[oBS];generalize hC0:l[f].1=C0 at hs⊢;generalize hT0:l[f].2=T0 at hs⊢;by_cases hsz:Szs (szs C0)/\T0.length<=4
 rotate_left
 ·obtain⟨e,he,l1,l2⟩:=Km (S:=szs C0) (n:=T0.length) (by unfold Sm;rw[gr];exact hs.k.1) hsz;rw[l1,l2];simp only[oBS];rw[bne_iff_ne.2 he];exact⟨_,_,_,_,rfl,rfl,T4,Nat.zero_le _⟩
 rw[z7 hsz.1 hsz.2,DM hsz.1 hsz.2];simp only[oBS];rw[bne_self_eq_false,oCF,oCF];have U6:=nR hsz.1 hsz.2;obtain⟨ids,WV⟩:∃ids,ids=pgs (szs C0) T0.length:=⟨_,rfl⟩;rw[<- WV]at U6⊢;rw[bN];simp only[oBS];rw[show gl l.length l.length 1=true by unfold gl;simp;omega,oCT]
 have Xs:List.replicate l.length false=flg l.length []:=(List.eq_replicate_iff.2 ⟨sb _ _,λx hx=>by
  obtain⟨j,_,rfl⟩:=List.mem_map.1 hx
  rfl⟩).symm
 rw[Xs]
 rcases F3 hl hn hI (S:=szs C0) (ids:=ids) U6 (least:=least) ids.length 0 (by omega) [] [] ⟨rfl,λj h=>absurd h (Nat.not_lt_zero _),λp hp=>(by cases hp),Nat.zero_le _,λx hx=>by cases hx⟩ NN (eu (by omega))with⟨e,g1,g2⟩|⟨P,L,hW,g1,g2⟩
 ·rw[show bM cH NN (l,I,least,szs C0,(ids.length:Int),0,(),(),szs C0,ids,[],[],())=_ from g1,show bM cM NN (l,I,least,szs C0,0,(),(),szs C0,ids,flg l.length [],[],())=_ from g2];exact⟨_,_,_,_,rfl,rfl,T4,Nat.zero_le _⟩
 rw[show bM cH NN (l,I,least,szs C0,(ids.length:Int),0,(),(),szs C0,ids,[],[],())=_ from g1,show bM cM NN (l,I,least,szs C0,0,(),(),szs C0,ids,flg l.length [],[],())=_ from g2];dsimp only;have hLl:=hW.ll
 have TK:(ue 1 L).length=L.length:=by
  show(L.mergeSort λx y=>decide (x<=y)).length=_;rw[List.length_mergeSort]
 have WR:Nat.blt L.length 4611686018427387904=true:=by
  rw[Nat.blt_eq];omega
 rw[WR,oCT]
 obtain⟨C,T,e,b1,b2,b3⟩:=FI hsz.1 hsz.2 (A:=P) (by rw[hW.len,WV]) (λi h=>by
  have:=hW.id i (by rw[WV];exact h) (by rw[hW.len,WV];exact h) (by rw[WV];exact h);simp only[WV]at this
  exact this) hW.pgk
 rw[b1,b2];simp only[oBS];by_cases he:e=0
 rotate_left
 ·rw[bne_iff_ne.2 he];exact⟨_,_,_,_,rfl,rfl,T4,Nat.zero_le _⟩
 subst he;rw[bne_self_eq_false,oCF,oCF,TK,WR,oCT,OM hn,oBS,LV];have hm:(((List.range l.length).filter λj:Nat=>decide ((j:Int)∈L)).map (λj:Nat=>(j:Int))).Pairwise (· < ·):=List.Pairwise.map _ (λa b (h:a<b)=>by omega) (List.Pairwise.filter _ List.pairwise_lt_range)
 have WH:compact (ue 1 L)=((List.range l.length).filter λj:Nat=>decide ((j:Int)∈L)).map (λj:Nat=>(j:Int)):=AX hm λx=>by
  simp only[List.mem_map,List.mem_filter,List.mem_range,oDE];constructor
  ·intro hx;obtain⟨j,hj,rfl⟩:=hW.lost x hx;exact⟨j,⟨hj,hx⟩,rfl⟩
  ·rintro⟨j,⟨_,h2⟩,rfl⟩;exact h2
 rw[WH]
 exact⟨_,_,_,_,rfl,rfl,b3,by
  rw[List.length_map]
  exact Nat.le_trans (List.length_filter_le _ _) (by rw[List.length_range];exact hn)⟩
end Go.Proofs.YtakfoejcjdcgbaaGreat
namespace Go.Proofs.YtakfoejcjdcgbaaGreat
open Go.RowKit
theorem Jb(a b:PID):j0 a.1 a.2 b.1 b.2=some (cQ a b,()):=by
 unfold j0 cQ;by_cases h:(a.1==-1)=(b.1==-1)
 ·simp only[h,beq_self_eq_true,oNT,oCF,bne_self_eq_false,Bool.false_eq_true,if_false];by_cases h1:a.1<b.1
  ·simp[h1]
  ·by_cases h2:a.1=b.1
   ·simp[h2]
   ·simp[h1,oBF h2]
 ·have e1:((a.1==-1)==(b.1==-1))=false:=oBF h;have e2:((a.1==-1) != (b.1==-1))=true:=bne_iff_ne.2 h;simp only[e1,e2,Bool.not_false,oCT,if_true]
def kV(l:List PID)(x:PID):Nat:=(l.takeWhile (cQ · x)).length
theorem Nf(l:List PID)(x:PID):nB l x=if l[kV l x]?=some x then l else l.take (kV l x)++[x]++l.drop (kV l x):=by
 induction l with
 |nil=>simp[nB,kV]
 |cons y r ih=>
  unfold nB kV;by_cases h:cQ y x=true
  ·simp only[h,if_true,List.takeWhile_cons,oLC,List.getElem?_cons_succ,List.take_succ_cons,List.drop_succ_cons,List.cons_append];rw[ih];unfold kV;split<;>rfl
  ·simp only[h,Bool.false_eq_true,if_false,List.takeWhile_cons,List.length_nil,List.getElem?_cons_zero,List.take_zero,List.drop_zero,List.nil_append,oSJ];by_cases e:y=x
   ·simp[e]
   ·simp[e]
theorem DT(x:PID):∀l:List PID,(nB l x).length<=l.length+1
 | []=>Nat.le_refl _
 |y::r=>by
  unfold nB;split
  ·have:=DT x r;simp only[oLC];omega
  ·split
   ·simp
   ·simp
theorem PK{l:List PID}{x:PID}(h:Sm l):bM eR NN (l,0,x.1,x.2,())=some (l,(kV l x:Int),false,x.1,x.2,()):=by
 have hc:kV l x<=l.length:=(List.takeWhile_prefix _).length_le;have h0:=h
 have hlt:∀i,(hi:i<kV l x)->cQ (l[i]'(by omega)) x=true:=λi hi=>by
  have h1:(l.takeWhile (cQ · x))[i]'hi=l[i]'(by omega):=(List.takeWhile_prefix (l:=l) (cQ · x)).getElem hi;rw[<- h1];exact List.all_eq_true.1 (List.all_takeWhile (p:=λy=>cQ y x) (l:=l)) _ (List.getElem_mem hi)
 have step:∀i,i<kV l x->eR (l,(i:Int),x.1,x.2,())=some (.inl (l,((i+1:Nat):Int),x.1,x.2,())):=by
  intro i hi
  have ZT:i<l.length:=by omega
  unfold eR;delta bJ;dsimp only;rw[oDT (show(i:Int)<l.length by omega),oCT,bN];simp only[oBS,bO ZT,Jb,hlt i hi];rw[bS (by omega) (by omega)];rfl
 have fin:eR (l,(kV l x:Int),x.1,x.2,())=some (.inr (l,(kV l x:Int),false,x.1,x.2,())):=by
  unfold eR;delta bJ;dsimp only;by_cases hl:kV l x<l.length
  ·rw[oDT (show(kV l x:Int)<l.length by omega),oCT,bN]
   have hn:cQ l[kV l x] x=false:=by
    by_cases g:cQ l[kV l x] x=true
    ·exfalso;have e:kV l x=(l.takeWhile (cQ · x)).length:=rfl;have h2:l.takeWhile (cQ · x)++l.dropWhile (cQ · x)=l:=List.takeWhile_append_dropWhile
     have h3:l.dropWhile (cQ · x)≠[]:=λe2=>by
      rw[e2,List.append_nil]at h2
      have:(l.takeWhile (cQ · x)).length=l.length:=by rw[h2]
      omega
     have h4:=List.head_dropWhile_not (cQ · x) (l:=l) h3
     have h5:(l.dropWhile (cQ · x)).head h3=l[kV l x]:=by
      have h6:l[kV l x]?=(l.dropWhile (cQ · x)).head?:=by
       have h7:(l.takeWhile (cQ · x)++l.dropWhile (cQ · x))[kV l x]?=(l.dropWhile (cQ · x)).head?:=by
        rw[e,List.getElem?_append_right (Nat.le_refl _),Nat.sub_self,<- List.head?_eq_getElem?]
       rw[h2]at h7;exact h7
      rw[oGE hl,List.head?_eq_some_head h3]at h6
      injection h6 with h6
      exact h6.symm
     rw[h5,g]at h4;cases h4
    ·exact Bool.not_eq_true _▸g
   simp only[oBS,bO hl,Jb,hn,oCF]
  ·rw[oDF (show ¬(kV l x:Int)<l.length by omega)];rfl
 exact loop_seq (f:=eR) (λi=>(l,(i:Int),x.1,x.2,())) (n:=kV l x) (N:=NN) (by unfold NN;omega) step fin
theorem OC{l:List PID}{x:PID}(h:l.length+1<=1099511627776):kz l x.1 x.2=some (nB l x,()):=by
 have hc:kV l x<=l.length:=(List.takeWhile_prefix _).length_le;unfold kz;rw[PK (by unfold Sm;omega),oBS];delta bJ;dsimp only;rw[Nf]
 have rest:(cj (kV l x:Int)).bind (λx10=>bif cR 0 x10 l.length then
  let x11:List DCe:=(px l 0 (Nat.sub x10 0));
  bif(b8 16 0 (List.length x11))then let x12:List DCe:=(List.append [] x11);
  let VW:List DCe:=[(x.1,x.2)];
  bif(b8 16 (List.length x12) (List.length VW))then let VX:List DCe:=(List.append x12 VW);
  (cj (kV l x:Int)).bind λVm=>
  bif(cR Vm (List.length l) (List.length l))then let VY:List DCe:=(px l Vm (Nat.sub (List.length l) Vm));
  bif(b8 16 (List.length VX) (List.length VY))then let V6:List DCe:=(List.append VX VY);
  some (V6,())else none else none else none else none else none)=some (l.take (kV l x)++[x]++l.drop (kV l x),()):=by
  rw[bN];simp only[oBS]
  have e1:cR 0 (kV l x) l.length=true:=by unfold cR;simp[hc]
  have e2:cR (kV l x) l.length l.length=true:=by unfold cR;simp[hc]
  have e3:px l 0 (Nat.sub (kV l x) 0)=l.take (kV l x):=by unfold px;rfl
  have e4:px l (kV l x) (Nat.sub l.length (kV l x))=l.drop (kV l x):=by
   unfold px;rw[List.take_of_length_le (by rw[List.length_drop];exact Nat.le_refl _)]
  have e5:List.append [] (l.take (kV l x))=l.take (kV l x):=rfl;have e6:List.append (l.take (kV l x)) [(x.1,x.2)]=l.take (kV l x)++[x]:=rfl;have e7:List.append (l.take (kV l x)++[x]) (l.drop (kV l x))=l.take (kV l x)++[x]++l.drop (kV l x):=rfl;rw[e1,oCT,e3,e5,bQ (by omega) (by rw[oLT];omega) (by omega) (by rw[oLT];omega),oCT,e6,bQ (by rw[oLT];omega) (by simp) (by omega) (by rw[oLT,List.length_singleton];omega),oCT,e2,oCT,e4,bQ (by rw[List.length_append,oLT,List.length_singleton];omega) (by rw[List.length_drop];omega) (by omega) (by rw[List.length_append,oLT,List.length_singleton,List.length_drop];omega),oCT,e7]
 by_cases hl:kV l x<l.length
 ·rw[oDT (show(kV l x:Int)<l.length by omega),oCT,bN];simp only[oBS,bO hl,Ls];rw[oGE hl];by_cases e:l[kV l x]=x
  ·rw[oDT e,oIP (by rw[e])];rfl
  ·rw[oDF e,oIN (λg=>e (by injection g))];exact rest
 ·rw[oDF (show ¬(kV l x:Int)<l.length by omega),oIN (by rw[oGN (by omega)];simp)];exact rest
theorem qU(l:List PID):∀a:List PID,(l.foldl nB a).length<=a.length+l.length:=by
 induction l with
 |nil=>intro a;simp
 |cons x r ih=>
  intro a;rw[List.foldl_cons,oLC];have h1:=ih (nB a x);have h2:=DT x a;omega
theorem wN{l:List PID}{a:List PID}{i:Nat}(h:i<l.length):(l.take (i+1)).foldl nB a=nB ((l.take i).foldl nB a) l[i]:=by
 rw[<- eA h,List.foldl_append];rfl
theorem HV{l m:List PID}(h:l.length+m.length+1<=1099511627776):jZ l m=some (lX (l++m),()):=by
 unfold jZ
 have step:∀i,i<l.length->dK (l,m,(l.take i).foldl nB [],(i:Int),(),())=some (.inl (l,m,(l.take (i+1)).foldl nB [],((i+1:Nat):Int),(),())):=by
  intro i hi;have hf:=qU (l.take i) [];rw[oLT,List.length_nil]at hf;unfold dK;delta bJ;dsimp only;rw[oDT (show(i:Int)<l.length by omega),oCT,bN];simp only[oBS,bO hi];rw[OC (Nat.le_trans (Nat.add_le_add_right hf 1) (by omega)),wN hi,bS (by omega) (by omega)];rfl
 have fin:dK (l,m,(l.take l.length).foldl nB [],(l.length:Int),(),())=some (.inr (l,m,(l.take l.length).foldl nB [],(l.length:Int),false,(),())):=by
  unfold dK;delta bJ;dsimp only;rw[oDF (show ¬(l.length:Int)<l.length by omega)];rfl
 have:=loop_seq (f:=dK) (λi=>(l,m,(l.take i).foldl nB [],(i:Int),(),())) (n:=l.length) (N:=NN) (by unfold NN;omega) step fin;rw[show bM dK NN (l,m,[],0,(),())=_ from this,List.take_length,oBS];dsimp only;obtain⟨a,ha⟩:∃a,a=l.foldl nB []:=⟨_,rfl⟩
 have hal:a.length<=l.length:=by
  have:=qU l [];rw[List.length_nil]at this;rw[ha];omega
 have X1:∀i,i<m.length->dJ (m,(m.take i).foldl nB a,(i:Int),(),())=some (.inl (m,(m.take (i+1)).foldl nB a,((i+1:Nat):Int),(),())):=by
  intro i hi;have hf:=qU (m.take i) a;rw[oLT]at hf;unfold dJ;delta bJ;dsimp only;rw[oDT (show(i:Int)<m.length by omega),oCT,bN];simp only[oBS,bO hi];rw[OC (Nat.le_trans (Nat.add_le_add_right hf 1) (by omega)),wN hi,bS (by omega) (by omega)];rfl
 have V8:dJ (m,(m.take m.length).foldl nB a,(m.length:Int),(),())=some (.inr (m,(m.take m.length).foldl nB a,(m.length:Int),false,(),())):=by
  unfold dJ;delta bJ;dsimp only;rw[oDF (show ¬(m.length:Int)<m.length by omega)];rfl
 have:=loop_seq (f:=dJ) (λi=>(m,(m.take i).foldl nB a,(i:Int),(),())) (n:=m.length) (N:=NN) (by unfold NN;omega) X1 V8;rw[<- ha,show bM dJ NN (m,a,0,(),())=_ from this,List.take_length,oBS,ha];unfold lX;rw[List.foldl_append]
theorem Jr{a:List PID}(h:Sm a)(k:Int):k9 a k=some (a.take (jl a.length k),a.drop (jl a.length k),()):=by
 unfold k9;dsimp only;have hk:=Di a.length k;have h0:=h;simp only[P5,bN,oBS]
 have e1:cR 0 (jl a.length k) a.length=true:=by unfold cR;simp[hk]
 have e2:cR (jl a.length k) a.length a.length=true:=by unfold cR;simp[hk]
 have e3:px a 0 (Nat.sub (jl a.length k) 0)=a.take (jl a.length k):=by unfold px;rfl
 have e4:px a (jl a.length k) (Nat.sub a.length (jl a.length k))=a.drop (jl a.length k):=by
  unfold px;rw[List.take_of_length_le (by rw[List.length_drop];exact Nat.le_refl _)]
 rw[e1,oCT,e3,bQ (by omega) (by rw[oLT];omega) (by omega) (by rw[oLT];omega),oCT];rw[e2,oCT,e4,bQ (by omega) (by rw[List.length_drop];omega) (by omega) (by rw[List.length_drop];omega),oCT];rfl
theorem Qe{C:CC}{T:TT'}(hC:Sm C)(hT:Sm T):∃b,p9 C T=some (b,()):=by
 unfold p9;have h0:=hC;have h1:=hT
 obtain⟨t,e,ht⟩:=oD (f:=jJ) (λs=>∃i:Nat,s.2.1=i/\i<=C.length/\s.2.2.1=C/\s.2.2.2.1=T) (λt=>t.2.2.2.2.1=T) (λs=>C.length-s.2.1.toNat) (n:=NN) (s:=(0,0,C,T,())) ⟨0,rfl,Nat.zero_le _,rfl,rfl⟩ (by unfold NN;show C.length-(0:Int).toNat<_;omega) (by
  rintro⟨v0,v1,v2,v3,_⟩ ⟨i,e1,hi,e2,e3⟩;dsimp only at e1 e2 e3;subst e1 e2 e3;unfold jJ;delta bJ;dsimp only;by_cases hl:i<v2.length
  ·rw[oDT (show(i:Int)<v2.length by omega),oCT,bN];simp only[oBS,bO hl];rw[bS (x:=(i:Int)+1) (by omega) (by omega)];exact⟨_,rfl,⟨i+1,rfl,by omega,rfl,rfl⟩,by show v2.length-((i:Int)+1).toNat<v2.length-(i:Int).toNat;omega⟩
  ·rw[oDF (show ¬(i:Int)<v2.length by omega)]
   exact⟨_,rfl,rfl⟩)
 rw[e,oBS];obtain⟨x0,x1,x2,x3,x4,_⟩:=t;dsimp only at ht⊢;subst ht
 obtain⟨t,e,_⟩:=oD (f:=jI) (λs=>∃i:Nat,s.2.1=i/\i<=x4.length/\s.2.2.2.1=x4) (λt=>True) (λs=>x4.length-s.2.1.toNat) (n:=NN) (s:=(x0,0,x3,x4,())) ⟨0,rfl,Nat.zero_le _,rfl⟩ (by unfold NN;show x4.length-(0:Int).toNat<_;omega) (by
  rintro⟨v0,v1,v2,v3,_⟩ ⟨i,e1,hi,e2⟩;dsimp only at e1 e2;subst e1 e2;unfold jI;delta bJ;dsimp only;by_cases hl:i<v3.length
  ·rw[oDT (show(i:Int)<v3.length by omega),oCT,bN];simp only[oBS,bO hl];rw[bS (x:=(i:Int)+1) (by omega) (by omega)];exact⟨_,rfl,⟨i+1,rfl,by omega,rfl⟩,by show v3.length-((i:Int)+1).toNat<v3.length-(i:Int).toNat;omega⟩
  ·rw[oDF (show ¬(i:Int)<v3.length by omega)]
   exact⟨_,rfl,trivial⟩)
 rw[e,oBS];exact⟨_,rfl⟩
theorem Lr{a:List Int}(hs:Sm a):fW a a=some (true,()):=by
 unfold fW;delta bJ;dsimp only;rw[bne_self_eq_false,oCF]
 have l0:=loop_seq (f:=d7) (st:=λi=>(a,a,(i:Int),())) (n:=a.length) (N:=NN) (fin:=.inr (a,a,(a.length:Int),false,())) (eu hs) (λi hi=>by
  unfold d7;delta bJ;dsimp only;rw[oDT (show(i:Int)<(a.length:Int) by omega),oCT,bN];simp only[oBS];rw[bO hi];simp only[oBS];rw[bne_self_eq_false,oCF,bS (by omega) (by unfold Sm at hs;omega)]
  rfl) (by
  unfold d7;delta bJ;dsimp only
  rw[oDF (by omega),oCF])
 rw[show bM d7 NN (a,a,0,())=_ from l0]
theorem FX{S:List Int}(h:Szs S)(a b c d e f g:Int){B:TT'}(u v w:Unit):bM dX NN (a,b,(S.length:Int),0,c,d,u,v,w,e,[],B,S,())=some (a,b,(S.length:Int),(S.length:Int),false,c,d,u,v,w,e,S.map λz=>List.replicate z.toNat ((0,(0,(0,0))):DCn),B,S,()):=by
 have h4:=h.1
 have Tn:=loop_seq (f:=dX) (st:=λi=>(a,b,(S.length:Int),(i:Int),c,d,u,v,w,e,(S.take i).map λz=>List.replicate z.toNat ((0,(0,(0,0))):DCn),B,S,())) (n:=S.length) (N:=NN) (fin:=(a,b,(S.length:Int),(S.length:Int),false,c,d,u,v,w,e,(S.take S.length).map λz=>List.replicate z.toNat ((0,(0,(0,0))):DCn),B,S,())) (eu (by omega)) (λi hi=>by
  have hz:=zA h hi;unfold dX;dsimp only;rw[oDT (show(i:Int)<(S.length:Int) by omega),oCT,bN];simp only[oBS];rw[bO hi];simp only[oBS]
  have e1:cj S[i]=some S[i].toNat:=by
   obtain⟨m,hm⟩:∃m:Nat,S[i]=m:=⟨S[i].toNat,by omega⟩;rw[hm,bN,oTN]
  rw[e1];simp only[oBS];rw[show gl S[i].toNat S[i].toNat 4=true by unfold gl;simp;omega,oCT];rw[bQ (by rw[List.length_map,oLT];omega) (by simp) (by omega) (by rw[List.length_map,oLT];simp;omega),oCT,bS (by omega) (by omega)];rw[<- mu hi]
  rfl) (by
  unfold dX;dsimp only
  rw[oDF (by omega),oCF])
 rw[show bM dX NN (a,b,(S.length:Int),0,c,d,u,v,w,e,[],B,S,())=_ from Tn,List.take_length]
theorem Fo{p:PG}(h:PgK p):fO p.1 p.2.1 p.2.2.1 p.2.2.2.1 p.2.2.2.2.1 p.2.2.2.2.2.1 p.2.2.2.2.2.2.1 p.2.2.2.2.2.2.2.1 p.2.2.2.2.2.2.2.2.1 p.2.2.2.2.2.2.2.2.2.1 p.2.2.2.2.2.2.2.2.2.2 p.1 p.2.1 p.2.2.1 p.2.2.2.1 p.2.2.2.2.1 p.2.2.2.2.2.1 p.2.2.2.2.2.2.1 p.2.2.2.2.2.2.2.1 p.2.2.2.2.2.2.2.2.1 p.2.2.2.2.2.2.2.2.2.1 p.2.2.2.2.2.2.2.2.2.2=some (true,()):=by
 unfold fO;rw[beq_self_eq_true,beq_self_eq_true,Bool.and_true,Bool.and_true,oCT,oI h.1,oDT rfl,oBS];dsimp only;have e:=ua (x:=p.2.2.2) (y:=p.2.2.2) h.2;rw[oDT rfl]at e;rw[oCT,e];rfl
theorem Pn{l:List ST}(hl:∀s∈l,StQ s.1 s.2)(I:List Bool)(a b least:Int):PgK (agK l I a b least).1:=by
 by_cases h:(agK l I a b least).2.2=0
 ·exact(LS hl h).2
 ·have hz:PgK zPg:=⟨by simp[Sm],by simp[Sm]⟩;unfold agK at h⊢;by_cases h1:l.length<=5/\I.length=l.length/\1<=least/\least<=5
  rotate_left
  ·rw[oIN h1];exact hz
  rw[oIP h1]at h⊢;by_cases h2:(vd (jT l I a b) l.length least).1=1\/(vd (jT l I a b) l.length least).1=2
  ·rw[oIP h2]at h;exact absurd rfl h
  ·rw[oIN h2];exact hz
theorem NK{l:List ST}(hl:∀s∈l,StQ s.1 s.2)(hn:l.length<=1000){I:List Bool}(hI:Sm I)(a b least:Int):j7 l I a b least=some (true,()):=by
 unfold j7;have hp:=Pn hl I a b least;have ho:=(El (l:=l) (I:=I) (a:=a) (b:=b) (least:=least)).1;rw[Jd hl hn hI,Jc hl hn I];generalize agK l I a b least=r at hp ho⊢;obtain⟨C,T,L,e,w1,w2,w3,w4⟩:=Et hl hn hI least;simp only[oBS];rw[w1,w2];simp only[oBS];rw[beq_self_eq_true,beq_self_eq_true,oCT,oCT,Fo hp];simp only[oBS,oCT];rw[Lr (by unfold Sm;omega)];simp only[oBS,oCT];rw[G7 w3,oDT ⟨rfl,rfl⟩];simp only[oBS,oCT];rw[Lr (by unfold Sm;omega)];rfl
theorem G8{R A K:Int}{C:CC}{T:TT'}{M:List PID}(h:StK C T)(hM:Sm M):fJ R A C T M K R A C T M K=some (true,()):=by
 unfold fJ;rw[beq_self_eq_true,beq_self_eq_true,beq_self_eq_true,oCT,oCT,oCT,OA hM hM,oDT rfl];simp only[oBS,oCT];rw[G7 h,oDT ⟨rfl,rfl⟩];rfl
theorem A9{C:CC}{T:TT'}{D:CC}{U:TT'}(h:StK C T)(h2:StK D U):∃(L:List PID)(e:Int),dF C T D U=some (L,e,())/\dy C T D U=some (L,e,())/\L.length<=20:=by
 by_cases g:vo C T D U
 ·exact⟨_,_,A8 g h.2.2.2 h2.2.2.2,Ba g h.2.2.2 h2.2.2.2,IG g.1⟩
 ·exact⟨_,_,w5 g h.1 h2.1 h.2.2.2 h2.2.2.2,w6 g h.1 h2.1,Nat.zero_le _⟩
theorem A5{R A K:Int}{X:CC}{Y:TT'}{M:List PID}{C:CC}{T:TT'}{D:CC}{U:TT'}(hJ:StK X Y)(hM:M.length<=1000000)(h:StK C T)(h2:StK D U):
 ∃(M':List PID)(e:Int),gW R A X Y M K C T D U=some (R,A,X,Y,M',K,e,())/\iv R A X Y M K C T D U=some (R,A,X,Y,M',K,e,())/\Sm M':=by
 obtain⟨L,e,b1,b2,b3⟩:=A9 h h2;unfold gW iv jq;rw[AV hJ,oBS];dsimp only;rw[zf (by unfold Sm;omega),b1,b2];simp only[oBS];by_cases he:e=0
 ·subst he;rw[bne_self_eq_false,oCF,oCF,M4 (by omega),HV (by omega)];refine⟨_,_,rfl,rfl,?_⟩;have:=qU (M++L) [];rw[List.length_append]at this;show(lX (M++L)).length<=_;unfold lX;simp only[List.length_nil]at this;omega
 ·rw[bne_iff_ne.2 he];exact⟨_,_,rfl,rfl,by unfold Sm;omega⟩
theorem PN{C:CC}{T:TT'}(h:StK C T)(p:PID):PgK (pg C T p):=by
 unfold pg;by_cases hp:p.1=-1
 ·rw[oIP hp];refine⟨by simp[Sm],?_⟩;rcases Nat.lt_or_ge p.2.toNat T.length with g|g
  ·rw[cS g];exact h.2.2.2 _ (List.getElem_mem g)
  ·rw[oGD,oGN g];simp[Sm]
 ·rw[oIN hp];refine⟨?_,by simp[Sm]⟩;show((List.drop _ _).take 8).length<=_;rw[oLT];omega
theorem LC{C:CC}{T:TT'}(h:StK C T)(a b:Int):dM C T a b=iY C T a b:=by
 rw[Ix h,Iw h];by_cases g:shp C T/\Th C T a b
 ·rw[oIP g,oIP (show Hs (C,T) a b from g)]
 ·rw[oIN g,oIN (show ¬Hs (C,T) a b from g)]
theorem Jt{R A K:Int}{X:CC}{Y:TT'}{M:List PID}{D:CC}{U:TT'}{now rest:List PID}(hD:StK D U)(hl:Sm now):∀(k i:Nat),i+k=now.length->∀(C:CC)(T:TT'),StK C T->∀N,k<N ->
 (∃(e:Int)(i':Int)(C':CC)(T':TT'),e≠0/\bM cy N (0,(now.length:Int),(i:Int),D,U,0,0,(),(),(),0,R,A,X,Y,M,K,now,rest,C,T,())=some (.inl (e,(now.length:Int),i',true,D,U,0,0,(),(),(),0,R,A,X,Y,M,K,now,rest,C',T',()))/\
  bM cF N ((i:Int),R,A,X,Y,M,K,D,U,0,0,(),(),(),0,now,rest,R,A,C,T,M,K,())=some (.inl (e,R,A,X,Y,M,K,())))\/
 ∃(C':CC)(T':TT'),StK C' T'/\bM cy N (0,(now.length:Int),(i:Int),D,U,0,0,(),(),(),0,R,A,X,Y,M,K,now,rest,C,T,())=some (.inr (0,(now.length:Int),(now.length:Int),false,D,U,0,0,(),(),(),0,R,A,X,Y,M,K,now,rest,C',T',()))/\
  bM cF N ((i:Int),R,A,X,Y,M,K,D,U,0,0,(),(),(),0,now,rest,R,A,C,T,M,K,())=some (.inr ((now.length:Int),false,R,A,X,Y,M,K,D,U,0,0,(),(),(),0,now,rest,R,A,C',T',M,K,())):=by
 have Xa:now.length<=1099511627776:=hl;intro k
 induction k with
 |zero=>
  intro i hi C T h N hN;obtain⟨N,rfl⟩:∃m,N=m+1:=⟨N-1,by omega⟩
  obtain rfl:i=now.length:=by omega
  have e1:cy (0,(now.length:Int),(now.length:Int),D,U,0,0,(),(),(),0,R,A,X,Y,M,K,now,rest,C,T,())=some (.inr (.inr (0,(now.length:Int),(now.length:Int),false,D,U,0,0,(),(),(),0,R,A,X,Y,M,K,now,rest,C,T,()))):=by
   unfold cy;dsimp only;rw[oDF (by omega),oCF]
  have e2:cF ((now.length:Int),R,A,X,Y,M,K,D,U,0,0,(),(),(),0,now,rest,R,A,C,T,M,K,())=some (.inr (.inr ((now.length:Int),false,R,A,X,Y,M,K,D,U,0,0,(),(),(),0,now,rest,R,A,C,T,M,K,()))):=by
   unfold cF;delta bJ;dsimp only;rw[oDF (by omega),oCF]
  exact .inr ⟨C,T,h,by simp only[bM,e1,oBS],by simp only[bM,e2,oBS]⟩
 |succ k ih=>
  intro i hi C T h N hN;obtain⟨N,rfl⟩:∃m,N=m+1:=⟨N-1,by omega⟩
  have Yu:i<now.length:=by omega
  have hw:w64 ((i:Int)+1)=((i+1:Nat):Int):=by rw[bS (by omega) (by omega)];rfl
  have hg:=Ix hD now[i].1 now[i].2;by_cases g:Hs (D,U) now[i].1 now[i].2
  rotate_left
  ·rw[oIN g]at hg
   have he:(if shp D U then(30:Int)else 1)≠0:=by split<;>decide
   generalize(if shp D U then(30:Int)else 1)=e at he hg;refine .inl ⟨e,(i:Int),C,T,he,?_,?_⟩
   ·have s1:cy (0,(now.length:Int),(i:Int),D,U,0,0,(),(),(),0,R,A,X,Y,M,K,now,rest,C,T,())=some (.inr (.inl (e,(now.length:Int),(i:Int),true,D,U,0,0,(),(),(),0,R,A,X,Y,M,K,now,rest,C,T,()))):=by
     unfold cy;dsimp only;rw[oDT (show(i:Int)<(now.length:Int) by omega),oCT,bN];simp only[oBS];rw[bO Yu];simp only[oBS];rw[hg];simp only[oBS];rw[oBF he,oCF,bne_iff_ne.2 he,oCT]
    simp only[bM,s1,oBS]
   ·have s2:cF ((i:Int),R,A,X,Y,M,K,D,U,0,0,(),(),(),0,now,rest,R,A,C,T,M,K,())=some (.inr (.inl (e,R,A,X,Y,M,K,()))):=by
     unfold cF;delta bJ;dsimp only;rw[oDT (show(i:Int)<(now.length:Int) by omega),oCT,bN];simp only[oBS];rw[bO Yu];simp only[oBS];rw[LC hD,hg];simp only[oBS];rw[bne_iff_ne.2 he,oCT]
    simp only[bM,s2,oBS]
  rw[oIP g]at hg;have Xr:=PN hD (now[i].1,now[i].2);generalize pg (D,U).1 (D,U).2 (now[i].1,now[i].2)=p at hg Xr;have e1:=Lp h (x:=p.2.2.1) Xr.1 (v:=p.2.2.2) Xr.2 p.1 p.2.1;have e2:=Lo h (x:=p.2.2.1) Xr.1 (v:=p.2.2.2) Xr.2 p.1 p.2.1;have e3:=GV h (x:=p.2.2.1) (v:=p.2.2.2) Xr.2 (a:=p.1) (b:=p.2.1);generalize Dx C T p.1 p.2.1 p.2.2.1 p.2.2.2=r at e1 e2 e3
  have s1:cy (0,(now.length:Int),(i:Int),D,U,0,0,(),(),(),0,R,A,X,Y,M,K,now,rest,C,T,())=bif(r.2.2 != 0)then some (.inr (.inl (r.2.2,(now.length:Int),(i:Int),true,D,U,0,0,(),(),(),0,R,A,X,Y,M,K,now,rest,r.1,r.2.1,())))else some (.inl (r.2.2,(now.length:Int),((i+1:Nat):Int),D,U,0,0,(),(),(),0,R,A,X,Y,M,K,now,rest,r.1,r.2.1,())):=by
   unfold cy;dsimp only;rw[oDT (show(i:Int)<(now.length:Int) by omega),oCT,bN];simp only[oBS];rw[bO Yu];simp only[oBS];rw[hg];simp only[oBS];rw[beq_self_eq_true,oCT,e1];simp only[oBS];rw[hw]
  have s2:cF ((i:Int),R,A,X,Y,M,K,D,U,0,0,(),(),(),0,now,rest,R,A,C,T,M,K,())=bif(r.2.2 != 0)then some (.inr (.inl (r.2.2,R,A,X,Y,M,K,())))else some (.inl (((i+1:Nat):Int),R,A,X,Y,M,K,D,U,0,0,(),(),(),0,now,rest,R,A,r.1,r.2.1,M,K,())):=by
   unfold cF;delta bJ;dsimp only;rw[oDT (show(i:Int)<(now.length:Int) by omega),oCT,bN];simp only[oBS];rw[bO Yu];simp only[oBS];rw[LC hD,hg];simp only[oBS];rw[bne_self_eq_false,oCF,e2];simp only[oBS];rw[hw]
  by_cases he:r.2.2=0
  ·rw[bne_eq_false_iff_eq.2 he,oCF]at s1 s2;rw[he]at s1
   rcases ih (i+1) (by omega) r.1 r.2.1 (e3 he) N (by omega)with⟨e,i',C',T',g0,g1,g2⟩|⟨C',T',g0,g1,g2⟩
   ·exact .inl ⟨e,i',C',T',g0,by simp only[bM,s1,oBS];exact g1,by simp only[bM,s2,oBS];exact g2⟩
   ·exact .inr ⟨C',T',g0,by simp only[bM,s1,oBS];exact g1,by simp only[bM,s2,oBS];exact g2⟩
  ·rw[bne_iff_ne.2 he,oCT]at s1 s2;exact .inl ⟨r.2.2,(i:Int),r.1,r.2.1,he,by simp only[bM,s1,oBS],by simp only[bM,s2,oBS]⟩
theorem Gd{R A K:Int}{X:CC}{Y:TT'}{M:List PID}{D:CC}{U:TT'}(hJ:StK X Y)(hM:M.length<=1000000)(hD:StK D U)(n:Int):
 ∃(C:CC)(T:TT')(M':List PID)(K' e:Int),jX R A X Y M K D U n=some (R,A,C,T,M',K',e,())/\kY R A X Y M K D U n=some (R,A,C,T,M',K',e,())/\StK C T/\Sm M':=by
 have SR:Sm M:=by unfold Sm;omega
 unfold jX kY jq;rw[AV hJ,oBS];dsimp only;rw[zf SR];simp only[oBS];by_cases hn:n<0
 ·rw[oDT hn];exact⟨_,_,_,_,_,rfl,rfl,hJ,SR⟩
 rw[oDF hn,oCF,oCF,Oo SR,Jr SR];delta bJ;simp only[oBS]
 have Wn:(M.take (jl M.length n)).length<=1000000:=by rw[oLT];omega
 have hl2:(M.drop (jl M.length n)).length<=1000000:=by rw[List.length_drop];omega
 generalize M.take (jl M.length n)=now at Wn⊢;generalize M.drop (jl M.length n)=rest at hl2⊢
 rcases Jt (R:=R) (A:=A) (K:=K) (X:=X) (Y:=Y) (M:=M) (now:=now) (rest:=rest) hD (by unfold Sm;omega) now.length 0 (by omega) X Y hJ NN (eu (by omega))with⟨e,i',C',T',g0,g1,g2⟩|⟨C',T',g0,g1,g2⟩
 ·rw[show bM cy NN (0,(now.length:Int),0,D,U,0,0,(),(),(),0,R,A,X,Y,M,K,now,rest,X,Y,())=_ from g1,show bM cF NN (0,R,A,X,Y,M,K,D,U,0,0,(),(),(),0,now,rest,R,A,X,Y,M,K,())=_ from g2];dsimp only;rw[bne_iff_ne.2 g0,oCT];exact⟨_,_,_,_,_,rfl,rfl,hJ,SR⟩
 ·rw[show bM cy NN (0,(now.length:Int),0,D,U,0,0,(),(),(),0,R,A,X,Y,M,K,now,rest,X,Y,())=_ from g1,show bM cF NN (0,R,A,X,Y,M,K,D,U,0,0,(),(),(),0,now,rest,R,A,X,Y,M,K,())=_ from g2];dsimp only;rw[bne_self_eq_false,oCF];exact⟨_,_,_,_,_,rfl,rfl,g0,by unfold Sm;omega⟩
theorem OR{R A K:Int}{X:CC}{Y:TT'}{M:List PID}{C:CC}{T:TT'}{D:CC}{U:TT'}(hJ:StK X Y)(hM:M.length<=1000000)(h:StK C T)(h2:StK D U)(n:Int):cN R A X Y M K C T D U n=some (true,()):=by
 obtain⟨M1,e1,c1,c2,c3⟩:=A5 (R:=R) (A:=A) (K:=K) hJ hM h h2;obtain⟨C1,T1,M2,K2,e2,s1,s2,s3,s4⟩:=Gd (R:=R) (A:=A) (K:=K) hJ hM h2 n;unfold cN;rw[c1,c2,s1,s2];simp only[oBS];rw[beq_self_eq_true,beq_self_eq_true,oCT,oCT,G8 hJ c3];simp only[oBS,oCT];rw[G8 s3 s4];simp only[oBS,oCT];unfold iW jK;simp only[oBS];rw[beq_self_eq_true]
theorem FW(C:CC):(C.map λc=>List.replicate c.length ((0,(0,(0,0))):DCn))=zC (szs C):=by
 unfold zC szs;rw[List.map_map];refine List.map_congr_left λc _=>?_;show _=List.replicate (c.length:Int).toNat _;rw[oTN]
theorem C7{A:CC}{B:TT'}{C:CC}{T:TT'}(hA:StK A B)(h:StK C T)(hs:shp C T)(g:¬vo A B C T):cT A B C T 2 3=some (.inr (2,3,zC (szs C),zT T.length,pgs (szs C) T.length,0,0,())):=by
 have t4:=hs.2.1;unfold cT gL;rw[oH h.1,oDT hs];simp only[oBS,oNT,oCF];rw[w5 g hA.1 h.1 hA.2.2.2 h.2.2.2,oBS];delta bJ;dsimp only;rw[show((1:Int)==0)=false from rfl,oCF,bN];simp only[oBS];rw[show gl T.length T.length 8=true by unfold gl;simp;omega,oCT,pD h.1,oBS];dsimp only;rw[FX (m8 hs) (f:=0) (g:=0),oBS];dsimp only;rw[List.length_replicate,z7 (m8 hs) t4];rfl
def NT(C:CC)(T:TT')(i:Nat):Int×Int×Int×CC×TT'×Int×Int×Unit×Unit×Unit×Int×List PID×CC×TT'×Unit:=
 (2,3,(i:Int),C,T,0,0,(),(),(),0,pgs (szs C) T.length,(C.take i).map (λc=>List.replicate c.length ((0,(0,(0,0))):DCn)),zT T.length,())
theorem mk4{n:Nat}(h:n<=1000):gl n n 4=true:=by
 unfold gl;simp;omega
theorem Oa{C:CC}{T:TT'}(hs:shp C T)(i:Nat)(hi:i<C.length):dh (NT C T i)=some (.inl (NT C T (i+1))):=by
 have c4:=hs.1;have hz:=of_decide_eq_true (hs.2.2 _ (List.getElem_mem hi));unfold NT;unfold dh;delta bJ;dsimp only;rw[oDT (show(i:Int)<(C.length:Int) by omega),oCT,bN];simp only[oBS];rw[bO hi,oBS,bN,oBS,oBS,mk4 (by omega),oCT,bQ (by rw[List.length_map,oLT];omega) (by simp) (by omega) (by rw[List.length_map,oLT];simp;omega),oCT,bS (by omega) (by omega),<- eA hi,List.map_append];rfl
theorem PI{C:CC}{T:TT'}:dh (NT C T C.length)=some (.inr (2,3,(C.length:Int),false,C,T,0,0,(),(),(),0,pgs (szs C) T.length,zC (szs C),zT T.length,())):=by
 unfold NT;unfold dh;delta bJ;dsimp only;rw[oDF (by omega),oCF,List.take_length,FW C]
theorem Er{C:CC}{T:TT'}(hs:shp C T):bM dh NN (2,3,0,C,T,0,0,(),(),(),0,pgs (szs C) T.length,[],zT T.length,())=some (2,3,(C.length:Int),false,C,T,0,0,(),(),(),0,pgs (szs C) T.length,zC (szs C),zT T.length,()):=
 loop_seq (f:=dh) (st:=NT C T) (n:=C.length) (N:=NN) (eu (Nat.le_trans hs.1 (by omega))) (Oa hs) PI
theorem C6{A:CC}{B:TT'}{C:CC}{T:TT'}(hA:StK A B)(h:StK C T)(hs:shp C T)(g:¬vo A B C T):cW A B C T 2 3=some (2,3,zC (szs C),zT T.length,pgs (szs C) T.length,0,0,()):=by
 have t4:=hs.2.1;have c4:=hs.1;unfold cW;have l0:=Er hs;obtain⟨F,hF⟩:∃F,F=bM dh NN:=⟨_,rfl⟩;rw[<- hF]at l0⊢;clear hF;rw[jb h.1,oDT hs];simp only[oBS,oNT,oCF];rw[w6 g hA.1 h.1,oBS];delta bJ;dsimp only;rw[show((1:Int)==0)=false from rfl,oCF,nK h.1,oBS];dsimp only;rw[DM (m8 hs) t4,oBS];dsimp only;rw[bN];simp only[oBS];rw[show gl T.length T.length 8=true by unfold gl;simp;omega,oCT];rw[show F (2,3,0,C,T,0,0,(),(),(),0,pgs (szs C) T.length,[],List.replicate T.length (0,(0,(0,(0,(0,(0,(0,[]))))))),())=_ from l0,oBS]
theorem Bf{A:CC}{B:TT'}{C:CC}{T:TT'}(hA:StK A B)(h:StK C T)(g:vo A B C T):cT A B C T 2 3=some (.inl (2,3,A,B,dif A B C T,0,0,())):=by
 unfold cT gL;rw[oH h.1,oDT g.2.1];simp only[oBS,oNT,oCF];rw[A8 g hA.2.2.2 h.2.2.2,oBS];dsimp only;rw[beq_self_eq_true,oCT,AV hA];rfl
theorem Be{A:CC}{B:TT'}{C:CC}{T:TT'}(hA:StK A B)(h:StK C T)(g:vo A B C T):cW A B C T 2 3=some (2,3,A,B,dif A B C T,0,0,()):=by
 unfold cW;rw[jb h.1,oDT g.2.1];simp only[oBS,oNT,oCF];rw[Ba g hA.2.2.2 h.2.2.2,oBS];dsimp only;rw[beq_self_eq_true,oCT,CI hA];rfl
theorem Bd{A:CC}{B:TT'}{C:CC}{T:TT'}(h:StK C T)(hs:¬shp C T):cT A B C T 2 3=some (.inl (0,0,[],[],[],0,1,())):=by
 unfold cT gL;rw[oH h.1,oDF hs];rfl
theorem Bc{A:CC}{B:TT'}{C:CC}{T:TT'}(h:StK C T)(hs:¬shp C T):cW A B C T 2 3=some (0,0,[],[],[],0,1,()):=by
 unfold cW;rw[jb h.1,oDF hs];rfl
theorem FM{A:CC}{B:TT'}{C:CC}{T:TT'}(hA:StK A B)(h:StK C T):
 ∃(R q:Int)(X:CC)(Y:TT')(M:List PID)(K e:Int),(cT A B C T 2 3=some (.inl (R,q,X,Y,M,K,e,()))\/cT A B C T 2 3=some (.inr (R,q,X,Y,M,K,e,())))/\cW A B C T 2 3=some (R,q,X,Y,M,K,e,())/\StK X Y/\M.length<=20:=by
 by_cases hs:shp C T
 rotate_left
 ·exact⟨_,_,_,_,_,_,_,.inl (Bd h hs),Bc h hs,⟨by simp[Sm],(λc hc=>by cases hc),by simp[Sm],(λt ht=>by cases ht)⟩,Nat.zero_le _⟩
 by_cases g:vo A B C T
 ·exact⟨_,_,_,_,_,_,_,.inl (Bf hA h g),Be hA h g,hA,IG g.1⟩
 ·exact⟨_,_,_,_,_,_,_,.inr (C7 hA h hs g),C6 hA h hs g,FY (m8 hs) hs.2.1,nR (m8 hs) hs.2.1⟩
structure TsR (v:DTs):Prop where
 nums:∀x∈[v.1,v.2.1,v.2.2.1,v.2.2.2.1,v.2.2.2.2.1,v.2.2.2.2.2.1,v.2.2.2.2.2.2.1],R64 x
 regs:∀c∈v.2.2.2.2.2.2.2,o6 c
 len:v.2.2.2.2.2.2.2.length<=8
def Rg(C:CC)(T:TT'):Prop:=(∀r∈C,∀c∈r,o6 c)/\∀t∈T,TsR t
theorem C4{l:List Int}(hl:l.length<=400){k:Int}(hk:0<=k):∃(c:DCn)(k':Int),gm l k=some (c.1,c.2.1,c.2.2.1,c.2.2.2,l,k',())/\0<=k'/\o6 c:=by
 unfold gm;obtain⟨x,k1,e,_,_,h1⟩:=gj (n:=5) (by omega) (by omega) hl hk;rw[e];simp only[oBS];by_cases h:x=4
 ·rw[beq_iff_eq.2 h,oCT];obtain⟨x2,k2,e,u1,u2,h2⟩:=gj (n:=3) (by omega) (by omega) hl h1;rw[e];simp only[oBS];obtain⟨x3,k3,e,u3,u4,h3⟩:=gj (n:=8) (by omega) (by omega) hl h2;rw[e];exact⟨(1,0,x2,x3),k3,rfl,h3,by intro x hx;simp only[nE,List.mem_cons,List.not_mem_nil,or_false]at hx;unfold R64;omega⟩
 ·rw[oBF h,oCF];obtain⟨x2,k2,e,u1,u2,h2⟩:=gj (n:=40) (by omega) (by omega) hl h1;rw[e];exact⟨(0,wk .u16 x2,0,0),k2,rfl,h2,by intro x hx;have:=Dd x2;simp only[nE,List.mem_cons,List.not_mem_nil,or_false]at hx;unfold wk at hx;unfold R64;omega⟩
theorem F4{l:List Int}(hl:l.length<=400){k:Int}(hk:0<=k):∃(v:DTs)(k':Int),jm l k=some (v.1,v.2.1,v.2.2.1,v.2.2.2.1,v.2.2.2.2.1,v.2.2.2.2.2.1,v.2.2.2.2.2.2.1,v.2.2.2.2.2.2.2,l,k',())/\v.2.2.2.2.2.2.2.length<=8/\0<=k'/\TsR v:=by
 unfold jm;obtain⟨x1,k1,e,p1,q1,h1⟩:=gj (n:=5) (by omega) (by omega) hl hk;rw[e];simp only[oBS];obtain⟨x2,k2,e,p2,q2,h2⟩:=gj (n:=20) (by omega) (by omega) hl h1;rw[e];simp only[oBS];obtain⟨x3,k3,e,p3,q3,h3⟩:=gj (n:=30) (by omega) (by omega) hl h2;rw[e];simp only[oBS];obtain⟨x4,k4,e,p4,q4,h4⟩:=gj (n:=4) (by omega) (by omega) hl h3;rw[e];simp only[oBS];obtain⟨x5,k5,e,p5,q5,h5⟩:=gj (n:=4) (by omega) (by omega) hl h4;rw[e];simp only[oBS];obtain⟨x6,k6,e,p6,q6,h6⟩:=gj (n:=7) (by omega) (by omega) hl h5;rw[e];simp only[oBS];obtain⟨x7,k7,e,p7,q7,h7⟩:=gj (n:=9) (by omega) (by omega) hl h6;rw[e];simp only[oBS]
 let st:Int->Int->List DCn->_:=λi k r=>(i,l,k,(0:Int),(0:Int),(0:Int),(0:Int),(0:Int),(0:Int),(0:Int),(),x1,x2,x3,w64 (x4-1),w64 (x5-1),x6,wk .u16 x7,r,())
 have step:∀(i:Nat)(k:Int)(r:List DCn),0<=k->r.length=i->(∀c∈r,o6 c)->i<8->∃(k':Int)(r':List DCn),0<=k'/\r'.length=i+1/\(∀c∈r',o6 c)/\ff (st i k r)=some (.inl (st ((i+1:Nat):Int) k' r')):=by
  intro i k r hk hr hR hi;show ∃(k':Int)(r':List DCn),0<=k'/\r'.length=i+1/\(∀c∈r',o6 c)/\ff ((i:Int),l,k,0,0,0,0,0,0,0,(),x1,x2,x3,w64 (x4-1),w64 (x5-1),x6,wk .u16 x7,r,())=_;unfold ff;dsimp only;rw[oDT (show(i:Int)<8 by omega),oCT];obtain⟨c,k',e,YS,SX⟩:=C4 hl hk;rw[e];simp only[oBS];rw[bQ (by omega) (by simp) (by omega) (by rw[List.length_singleton];omega),oCT,bS (by omega) (by omega)];exact⟨k',r++[c],YS,by rw[List.length_append,List.length_singleton,hr],λx hx=>(List.mem_append.1 hx).elim (hR x) λh=>List.mem_singleton.1 h▸SX,rfl⟩
 have go:∀j i:Nat,i+j=8->∀(k:Int)(r:List DCn),0<=k->r.length=i->(∀c∈r,o6 c)->∀N,j<N->∃k' r',0<=k'/\r'.length=8/\(∀c∈r',o6 c)/\bM ff N (st i k r)=some (8,false,l,k',0,0,0,0,0,0,0,(),x1,x2,x3,w64 (x4-1),w64 (x5-1),x6,wk .u16 x7,r',()):=by
  intro j
  induction j with
  |zero=>
   intro i hi k r hk hr hR N hN;obtain⟨N,rfl⟩:∃m,N=m+1:=⟨N-1,by omega⟩;refine⟨k,r,hk,by omega,hR,?_⟩
   obtain rfl:i=8:=by omega
   rfl
  |succ j ih=>
   intro i hi k r hk hr hR N hN;obtain⟨N,rfl⟩:∃m,N=m+1:=⟨N-1,by omega⟩;obtain⟨k1,r1,Zz,Z8,hR1,e⟩:=step i k r hk hr hR (by omega);obtain⟨k2,r2,Zh,Xf,SS,e2⟩:=ih (i+1) (by omega) k1 r1 Zz Z8 hR1 N (by omega);refine⟨k2,r2,Zh,Xf,SS,?_⟩;simp only[bM,e,oBS];exact e2
 obtain⟨k8,r,hk8,hr,hR,e⟩:=go 8 0 rfl k7 [] h7 rfl (λc hc=>(by cases hc)) NN (by unfold NN;omega);rw[show bM ff NN (0,l,k7,0,0,0,0,0,0,0,(),x1,x2,x3,w64 (x4-1),w64 (x5-1),x6,wk .u16 x7,[],())=_ from e]
 exact⟨(x1,x2,x3,w64 (x4-1),w64 (x5-1),x6,wk .u16 x7,r),k8,rfl,by show r.length<=8;omega,hk8,⟨λx hx=>by
  have:=Dd x7;have e1:=bS (x:=x4-1) (by omega) (by omega);have e2:=bS (x:=x5-1) (by omega) (by omega);simp only[List.mem_cons,List.not_mem_nil,or_false]at hx;unfold wk at hx;unfold R64
  omega,hR,by show r.length<=8;omega⟩⟩
theorem Jv{l:List Int}(hl:l.length<=400){k:Int}(hk:0<=k):∃(C:CC)(T:TT')(k':Int),jW l k=some (C,T,l,k',())/\zn C T/\0<=k'/\Rg C T:=by
 unfold jW;obtain⟨x1,k1,e,a1,b1,h1⟩:=gj (n:=3) (by omega) (by omega) hl hk;rw[e];simp only[oBS]
 have row:∀(j:Nat)(o:Int)(C:CC)(k:Int)(r:List DCn),0<=k->r.length+j<=32->(∀c∈r,o6 c)->∀N,j<N->∃k' r',0<=k'/\r'.length=r.length+j/\(∀c∈r',o6 c)/\
  bM gV N (o,(j:Int)-1,l,k,(),(),C,(),r,())=some (o,-1,false,l,k',(),(),C,(),r',()):=by
  intro j o C
  induction j with
  |zero=>
   intro k r hk hr hR N hN;obtain⟨N,rfl⟩:∃m,N=m+1:=⟨N-1,by omega⟩;exact⟨k,r,hk,by omega,hR,rfl⟩
  |succ j ih=>
   intro k r hk hr hR N hN;obtain⟨N,rfl⟩:∃m,N=m+1:=⟨N-1,by omega⟩;obtain⟨c,k1,e,Zz,SX⟩:=C4 hl hk
   have e1:gV (o,((j+1:Nat):Int)-1,l,k,(),(),C,(),r,())=some (.inl (o,(j:Int)-1,l,k1,(),(),C,(),r++[c],())):=by
    unfold gV;dsimp only;rw[oDT (show((j+1:Nat):Int)-1>=0 by omega),oCT,e];simp only[oBS];rw[bQ (by omega) (by simp) (by omega) (by rw[List.length_singleton];omega),oCT,bS (by omega) (by omega),show((j+1:Nat):Int)-1-1=(j:Int)-1 by omega];rfl
   obtain⟨k2,r2,Zh,Xf,SS,e2⟩:=ih k1 (r++[c]) Zz (by rw[List.length_append,List.length_singleton];omega) (λx hx=>(List.mem_append.1 hx).elim (hR x) λh=>List.mem_singleton.1 h▸SX) N (by omega);refine⟨k2,r2,Zh,by rw[Xf,List.length_append,List.length_singleton];omega,SS,?_⟩;simp only[bM,e1,oBS];exact e2
 have Sg:∀(j:Nat)(C:CC)(k:Int),0<=k->C.length+j<=4->(∀c∈C,okZ (c.length:Int)=true)->(∀r∈C,∀c∈r,o6 c)->∀N,j<N->∃k' C',0<=k'/\C'.length=C.length+j/\(∀c∈C',okZ (c.length:Int)=true)/\(∀r∈C',∀c∈r,o6 c)/\
  bM gU N ((j:Int)-1,l,k,(),(),C,(),())=some (-1,false,l,k',(),(),C',(),()):=by
  intro j
  induction j with
  |zero=>
   intro C k hk hC ho hR N hN;obtain⟨N,rfl⟩:∃m,N=m+1:=⟨N-1,by omega⟩;exact⟨k,C,hk,by omega,ho,hR,rfl⟩
  |succ j ih=>
   intro C k hk hC ho hR N hN;obtain⟨N,rfl⟩:∃m,N=m+1:=⟨N-1,by omega⟩;obtain⟨y,k1,e,ya,yb,Zz⟩:=gj (n:=24) (by omega) (by omega) hl hk;obtain⟨k2,r,Zh,hr,hrR,e2⟩:=row (y.toNat+1) (((j+1:Nat):Int)-1) C k1 [] Zz (by rw[List.length_nil];omega) (λc hc=>(by cases hc)) NN (by unfold NN;omega);rw[show((y.toNat+1:Nat):Int)-1=y by omega]at e2;rw[List.length_nil]at hr
   have e1:gU (((j+1:Nat):Int)-1,l,k,(),(),C,(),())=some (.inl ((j:Int)-1,l,k2,(),(),C++[r],(),())):=by
    unfold gU;dsimp only;rw[oDT (show((j+1:Nat):Int)-1>=0 by omega),oCT,e];simp only[oBS];rw[e2];simp only[oBS];rw[bQ (by omega) (by simp) (by omega) (by rw[List.length_singleton];omega),oCT,bS (by omega) (by omega),show((j+1:Nat):Int)-1-1=(j:Int)-1 by omega];rfl
   obtain⟨k3,C3,WX,hC3,SB,QW,e3⟩:=ih (C++[r]) k2 Zh (by rw[List.length_append,List.length_singleton];omega) (by
    intro c hc;rcases List.mem_append.1 hc with hc|hc
    ·exact ho c hc
    ·rw[List.mem_singleton.1 hc]
     exact oDT (by omega)) (λx hx=>(List.mem_append.1 hx).elim (hR x) λh=>List.mem_singleton.1 h▸hrR) N (by omega)
   refine⟨k3,C3,WX,by rw[hC3,List.length_append,List.length_singleton];omega,SB,QW,?_⟩;simp only[bM,e1,oBS];exact e3
 obtain⟨k2,C,Zh,hC,ho,hCR,e2⟩:=Sg (x1.toNat+1) [] k1 h1 (by rw[List.length_nil];omega) (by simp) (λc hc=>(by cases hc)) NN (by unfold NN;omega);rw[show((x1.toNat+1:Nat):Int)-1=x1 by omega]at e2;rw[List.length_nil]at hC;rw[e2];simp only[oBS];obtain⟨x3,k3,e,a3,b3,h3⟩:=gj (n:=4) (by omega) (by omega) hl Zh;rw[e];simp only[oBS]
 have ths:∀(j:Nat)(T:TT')(k:Int),0<=k->T.length+j<=4->SmT T->(∀t∈T,TsR t)->∀N,j<N->∃k' T',0<=k'/\T'.length=T.length+j/\SmT T'/\(∀t∈T',TsR t)/\
  bM gT N ((j:Int),l,k,(),(),C,T,())=some (0,false,l,k',(),(),C,T',()):=by
  intro j
  induction j with
  |zero=>
   intro T k hk hT hs hR N hN;obtain⟨N,rfl⟩:∃m,N=m+1:=⟨N-1,by omega⟩;exact⟨k,T,hk,by omega,hs,hR,rfl⟩
  |succ j ih=>
   intro T k hk hT hs hR N hN;obtain⟨N,rfl⟩:∃m,N=m+1:=⟨N-1,by omega⟩;obtain⟨v,k1,e,hv,Zz,RY⟩:=F4 hl hk
   have e1:gT (((j+1:Nat):Int),l,k,(),(),C,T,())=some (.inl ((j:Int),l,k1,(),(),C,T++[v],())):=by
    unfold gT;dsimp only;rw[oDT (show((j+1:Nat):Int)>0 by omega),oCT,e];simp only[oBS];rw[bQ (by omega) (by simp) (by omega) (by rw[List.length_singleton];omega),oCT,bS (by omega) (by omega),show((j+1:Nat):Int)-1=(j:Int) by omega];rfl
   obtain⟨k3,T3,WX,hT3,hs3,QW,e3⟩:=ih (T++[v]) k1 Zz (by rw[List.length_append,List.length_singleton];omega) (by
    intro t ht;rcases List.mem_append.1 ht with ht|ht
    ·exact hs t ht
    ·rw[List.mem_singleton.1 ht];unfold Sm
     omega) (λx hx=>(List.mem_append.1 hx).elim (hR x) λh=>List.mem_singleton.1 h▸RY) N (by omega)
   refine⟨k3,T3,WX,by rw[hT3,List.length_append,List.length_singleton];omega,hs3,QW,?_⟩;simp only[bM,e1,oBS];exact e3
 obtain⟨k4,T,Sx,hT,hs,hTR,e4⟩:=ths x3.toNat [] k3 h3 (by rw[List.length_nil];omega) (by intro t ht;simp at ht) (λt ht=>(by cases ht)) NN (by unfold NN;omega);rw[show((x3.toNat:Nat):Int)=x3 by omega]at e4;rw[List.length_nil]at hT;rw[e4];exact⟨C,T,k4,rfl,⟨by omega,⟨by omega,by omega,ho⟩,hs⟩,Sx,hCR,hTR⟩
def Le(C:CC)(T:TT')(D:CC)(U:TT'):Prop:=PE C T D U/\Rg D U
theorem MH{C:CC}{T:TT'}(h:Rg C T){a b:Nat}{c:DCn}(hc:o6 c):Rg (C.modify a λe=>e.modify b λ_=>c) T:=by
 refine⟨λr hr x hx=>?_,h.2⟩;rcases rX hr with h1|⟨y,hy,rfl⟩
 ·exact h.1 r h1 x hx
 ·rcases rX hx with h2|⟨_,_,rfl⟩
  ·exact h.1 y hy x h2
  ·exact hc
theorem MG{C:CC}{T:TT'}(h:Rg C T){a:Nat}{v:DTs}(hv:TsR v):Rg C (T.modify a λ_=>v):=by
 refine⟨h.1,λt ht=>?_⟩;rcases rX ht with h1|⟨_,_,rfl⟩
 ·exact h.2 t h1
 ·exact hv
theorem MZ{C:CC}{T:TT'}(h:zn C T)(hg:Rg C T){n:Int}(hn:0<=n)(Wq:n<100){l:List Int}(hl:l.length<=400){k:Int}(hk:0<=k):
 ∃(D:CC)(U:TT')(k':Int),kX C T n l k=some (D,U,l,k',())/\PE C T D U/\0<=k'/\Rg D U:=by
 unfold kX;rw[LH h.2.1 h.2.2,oBS];dsimp only
 obtain⟨t,e,D,U,k',h1,h2,h3⟩:=oD (f:=ky) (λs=>∃(i:Nat)(k:Int)(D:CC)(U:TT'),s=(n,(i:Int),l,k,(),(),D,U,())/\(i:Int)<=n/\0<=k/\Le C T D U)
  (λt=>∃(D:CC)(U:TT')(k:Int),t=(n,n,false,l,k,(),(),D,U,())/\0<=k/\Le C T D U) (λs=>(n-s.2.1).toNat) (n:=NN) (s:=(n,0,l,k,(),(),C,T,())) ⟨0,k,C,T,rfl,hn,hk,⟨rfl,rfl,h.2.2⟩,hg⟩ (by unfold NN;show(n-0).toNat<_;omega) (by
  rintro s ⟨i,k,D,U,rfl,hi,hk,hL⟩;unfold ky;delta bJ;dsimp only;have hlD:=ww hL.1.1;have hD1:=h.1;have hD4:=h.2.1.1;have hU:=hL.1.2.1;have hU4:=h.2.1.2.1;by_cases hin:(i:Int)<n
  rotate_left
  ·rw[oDF hin]
   obtain rfl:(i:Int)=n:=by omega
   exact⟨_,rfl,D,U,k,rfl,hk,hL⟩
  rw[oDT hin,oCT]
  have SL:∀k0,0<=k0->Ok (((bZ (↑D.length) l k0).bind λ(x10,x11,x12,_)=>
   (cj x10).bind λVW=>
   (bV D VW).bind λVX=>
   (bV D VW).bind λVm=>
   (cj x10).bind λVY=>
   (bV D VY).bind λV6=>
   (bV D VY).bind λSl=>
   (bV D VY).bind λUV=>
   (bZ (↑UV.length) x11 x12).bind λ(x21,x22,x23,_)=>
   (gm x22 x23).bind λ(x24,x25,x26,x27,x28,x29,_)=>
   (cj x21).bind λSI=>
   (bV D VW).bind λQC=>
   (bV QC SI).bind λQD=>
   (bV D VW).bind λx33=>
   (bV x33 SI).bind λx34=>
   some (n,(i:Int),x28,x29,(),(),(List.modify D VW λe=>(List.modify e SI λe=>(x24,(x25,(x26,x27))))),U,())):Option (Int×Int×(List (Int))×Int×Unit×Unit×(List (List DCn))×(List DTs)×Unit))
   λr=>∃(k':Int)(D':CC)(U':TT'),r=(n,(i:Int),l,k',(),(),D',U',())/\0<=k'/\Le C T D' U':=by
   intro k0 VD;dsimp only;obtain⟨y,k1,e,ya,yb,Zz⟩:=gj (n:=(D.length:Int)) (by omega) (by omega) hl VD;rw[e];obtain⟨a,rfl⟩:∃a:Nat,y=a:=⟨y.toNat,by omega⟩
   have ha:a<D.length:=by omega
   simp only[oBS,bN,bO ha];have hok:1<=(D[a].length:Int)/\(D[a].length:Int)<=32:=of_decide_eq_true ((DN hL.1 h.2.1).2.2 _ (List.getElem_mem ha));obtain⟨z,k2,e,za,zb,Zh⟩:=gj (n:=(D[a].length:Int)) (by omega) (by omega) hl Zz;rw[e];obtain⟨b,rfl⟩:∃b:Nat,z=b:=⟨z.toNat,by omega⟩
   have hb:b<D[a].length:=by omega
   simp only[oBS];obtain⟨c,k3,e,WX,SX⟩:=C4 hl Zh;rw[e];simp only[oBS,bN,bO hb];exact⟨_,rfl,k3,_,U,rfl,WX,⟨(Ey λc=>oLM ..).trans hL.1.1,hL.1.2.1,hL.1.2.2⟩,MH hL.2 SX⟩
  refine Ok.bind (P:=λr=>∃(k':Int)(D':CC)(U':TT'),r=(n,(i:Int),l,k',(),(),D',U',())/\0<=k'/\Le C T D' U') ?_ ?_
  ·by_cases hp:(U.length:Int)>0
   rotate_left
   ·rw[oDF hp];exact SL k hk
   rw[oDT hp,oCT];obtain⟨y,k1,e,ya,yb,Zz⟩:=gj (n:=3) (by omega) (by omega) hl hk;rw[e];simp only[oBS];by_cases h2:y=2
   rotate_left
   ·rw[oBF h2];exact SL k1 Zz
   rw[beq_iff_eq.2 h2,oCT];obtain⟨z,k2,e,za,zb,Zh⟩:=gj (n:=(U.length:Int)) (by omega) (by omega) hl Zz;rw[e];obtain⟨a,rfl⟩:∃a:Nat,z=a:=⟨z.toNat,by omega⟩
   have ha:a<U.length:=by omega
   simp only[oBS];obtain⟨v,k3,e,hv,WX,RY⟩:=F4 hl Zh;rw[e];simp only[oBS,bN,bO ha];exact⟨_,rfl,k3,D,_,rfl,WX,⟨hL.1.1,(oLM ..).trans hL.1.2.1,wy hL.1.2.2 (show v.2.2.2.2.2.2.2.length<=1099511627776 by omega)⟩,MG hL.2 RY⟩
  ·rintro r ⟨k',D',U',rfl,YS,QV⟩;dsimp only;rw[bS (by omega) (by omega)]
   exact⟨_,rfl,⟨i+1,k',D',U',rfl,by omega,YS,QV⟩,by show(n-((i:Int)+1)).toNat<(n-(i:Int)).toNat;omega⟩)
 rw[e,h1];exact⟨D,U,k',rfl,h3.1,h2,h3.2⟩
def FV:List CT->CT
 | []=>.nat
 | [t]=>t
 |t::u::r=>.pair t (FV (u::r))
def nH:(l:List CT)->HL den l->den (FV l)
 | [],_=>(0:Nat)
 | [_],h=>h.1
 |_::u::r,h=>(h.1,nH (u::r) h.2)
def encL:(l:List CT)->HL den l->List TV
 | [],_=>[]
 |t::r,h=>enc t h.1++encL r h.2
theorem D6:∀(l:List CT)(h:HL den l),enc (FV l) (nH l h)=encL l h
 | [],_=>rfl
 | [_],h=>(List.append_nil _).symm
 |_::u::r,h=>by
  show enc _ h.1++enc (FV (u::r)) (nH (u::r) h.2)=_;rw[D6 (u::r) h.2];rfl
def Jh:(c:CT)->den c->Prop
 |.int k,n=>(Lit.int k n).wf=true
 |.str,s=>ByteArray.size s<=maxLen
 |.row _ t,xs=>List.length xs<=maxLen/\∀x∈xs,Jh t x
 |.pair a b,x=>Jh a x.1/\Jh b x.2
 |_,_=>True
def GoodL:(l:List CT)->HL den l->Prop
 | [],_=>True
 |t::r,h=>Jh t h.1/\GoodL r h.2
theorem AH:∀(l:List CT)(h:HL den l),GoodL l h->Jh (FV l) (nH l h)
 | [],_,_=>trivial
 | [_],_,g=>g.1
 |_::u::r,h,g=>⟨g.1,AH (u::r) h.2 g.2⟩
def appL:(l m:List CT)->HL den l->HL den m->HL den (l++m)
 | [],_,_,k=>k
 |_::r,m,h,k=>(h.1,appL r m h.2 k)
theorem D7:∀(l m:List CT)(h:HL den l)(k:HL den m),encL (l++m) (appL l m h k)=encL l h++encL m k
 | [],_,_,_=>rfl
 |t::r,m,h,k=>by
  show enc t h.1++encL (r++m) (appL r m h.2 k)=(enc t h.1++encL r h.2)++_;rw[D7 r m h.2 k,List.append_assoc]
theorem DY:∀(l m:List CT)(h:HL den l)(k:HL den m),GoodL l h->GoodL m k->GoodL (l++m) (appL l m h k)
 | [],_,_,_,_,g=>g
 |_::r,m,h,k,g,g'=>⟨g.1,DY r m h.2 k g.2 g'⟩
def RelL(w:World):List TV->List Value->Prop
 | [],[]=>True
 |t::ts,v::vs=>iq w (λ_=>True) t v/\RelL w ts vs
 |_,_=>False
theorem RelL.app{w:World}:∀{a:List TV}{x:List Value}{b:List TV}{y:List Value},RelL w a x->RelL w b y->RelL w (a++b) (x++y)
 | [],[],_,_,_,h=>h
 |_::a,_::x,_,_,g,h=>⟨g.1,RelL.app (a:=a) (x:=x) g.2 h⟩
 | [],_::_,_,_,g,_=>g.elim
 |_::_,[],_,_,g,_=>g.elim
theorem RelL.len{w:World}:∀{a:List TV}{x:List Value},RelL w a x->a.length=x.length
 | [],[],_=>rfl
 |_::a,_::x,g=>by rw[oLC,oLC,RelL.len (a:=a) (x:=x) g.2]
 | [],_::_,g=>g.elim
 |_::_,[],g=>g.elim
theorem RelL.get{w:World}:∀{a:List TV}{x:List Value},RelL w a x->∀j (h:j<a.length)(h':j<x.length),iq w (λ_=>True) a[j] x[j]
 |_::_,_::_,g,0,_,_=>g.1
 |_::a,_::x,g,j+1,h,h'=>RelL.get (a:=a) (x:=x) g.2 j (by simpa using h) (by simpa using h')
 | [],_,_,_,h,_=>by simp at h
 |_::_,[],g,_,_,_=>g.elim
def NW(P:Program)(g:TypeId->Option (List CT)):Nat->List Field->Option (List CT)
 |_,[]=>some []
 |off,f::fs=>match g f.type with
  |some l=>if f.offset=off/\l.length=P.cellsOf f.type then(NW P g (off+l.length) fs).map (l++·)else none
  |none=>none
def arF(P:Program)(e:TypeId)(i:Nat):Field:={ (default:Field)with type:=e,offset:=i*P.cellsOf e }
def rM(P:Program):Nat->TypeId->Option (List CT)
 |0,_=>none
 |n+1,t=>match P.underlying t with
  |some .bool=>some [.bool]
  |some (.int k)=>some [.int k]
  |some .string=>some [.str]
  |some (.slice e)=>match rM P n e with
   |some l=>if l.length=P.cellsOf e then some [.row false (FV l)]else none
   |none=>none
  |some (.struct fs)=>match NW P (rM P n) 0 fs.toList with
   |some l=>if l.length=P.cellsOf t then some l else none
   |none=>none
  |some (.array m e)=>match NW P (rM P n) 0 ((List.range m).map (arF P e))with
   |some l=>if l.length=P.cellsOf t then some l else none
   |none=>none
  |_=>none
theorem okWide_array{P:Program}{w:World}{r:Reach}{base:Nat}{t:TypeId}{v:Value}{n:Nat}{e:TypeId}(ht:P.underlying t=some (.array n e))(h:Value.okWide P w r base t v):∃cs,v=.agg cs/\cs.size=P.cellsOf t:=by
 simp only[Value.okWide,ht]at h;obtain⟨cs,h1,h2,_⟩:=h;exact⟨cs,h1,h2⟩
section
variable {H:Type} {ec:TypeId×Value->H} {P:Program} {w:World} {base:Nat} {spare:Nat->Bool} {held:Bool}
theorem Aj{g:TypeId->Option (List CT)}{m:Nat}{cs:List Value}
 (ih:∀t L,g t=some L->∀cs x,DataW.trod ec P w base spare held m t cs=some x->∃h:HL den L,GoodL L h/\RelL w (encL L h) cs):
 ∀(fs:List Field)(off:Nat)(L:List CT),NW P g off fs=some L->(∀f∈fs,∃x,DataW.trod ec P w base spare held m f.type ((cs.drop f.offset).take (P.cellsOf f.type))=some x)->
  ∃h:HL den L,GoodL L h/\RelL w (encL L h) ((cs.drop off).take L.length):=by
 intro fs
 induction fs with
 |nil=>
  intro off L hL _
  injection hL with hL
  subst hL;exact⟨(),trivial,trivial⟩
 |cons f fs R6=>
  intro off L hL hx;unfold NW at hL;split at hL
  ·rename_i l hg;split at hL
   ·rename_i ho;obtain⟨rfl,hlen⟩:=ho
    cases hr:NW P g (f.offset+l.length) fs with
    |none=>simp_all
    |some L2=>
     rw[hr]at hL
     injection hL with hL
     subst hL;obtain⟨x,h1⟩:=hx f List.mem_cons_self;obtain⟨h,g1,r1⟩:=ih _ _ hg _ _ h1;have ⟨k,g2,r2⟩:=R6 _ _ hr λf' Sr=>hx f' (List.mem_cons_of_mem _ Sr);refine⟨appL l L2 h k,DY _ _ _ _ g1 g2,?_⟩;rw[D7,List.length_append,List.take_add,List.drop_drop];rw[hlen];rw[hlen]at r2;exact r1.app r2
   ·cases hL
  ·cases hL
theorem Ev{n:Nat}{e t:TypeId}{YC:Nat}{cs:List Value}{x:DataW H×List MemPlace}(ht:P.underlying t=some (.array n e))(h:DataW.trod ec P w base spare held YC t cs=some x):
 ∃m,cs.length=P.cellsOf t/\∀i,i<n->∃y,DataW.trod ec P w base spare held m e ((cs.drop (i*P.cellsOf e)).take (P.cellsOf e))=some y:=by
 cases YC with
 |zero=>simp[DataW.trod]at h
 |succ m=>
  unfold DataW.trod at h;rw[ht]at h;split at h<;>simp_all;obtain⟨hl,xs,hp,hd⟩:=h;refine⟨m,λi hi=>?_⟩;have h1:=mapM_some_get hp i i (by simp[hi]);have h2:=mapM_some_length hp;rw[List.length_range]at h2;rw[oGE (by omega)]at h1;exact⟨_,_,h1⟩
theorem OT:∀(n:Nat)(t:TypeId)(L:List CT),rM P n t=some L->∀(YC:Nat)(cs:List Value)(x:DataW H×List MemPlace),DataW.trod ec P w base spare held YC t cs=some x ->
 ∃h:HL den L,GoodL L h/\RelL w (encL L h) cs:=by
 intro n
 induction n with
 |zero=>intro t L h;cases h
 |succ n ih=>
  intro t L hL YC cs x hx;unfold rM at hL;split at hL
  ·rename_i ht
   injection hL with hL
   subst hL;obtain⟨b,rfl,_⟩:=DataW.trod_bool ht hx;exact⟨(b,()),⟨trivial,trivial⟩,.v rfl,trivial⟩
  ·rename_i k ht
   injection hL with hL
   subst hL;obtain⟨z,rfl,_,hw⟩:=DataW.trod_int ht hx;exact⟨(z,()),⟨hw,trivial⟩,.v rfl,trivial⟩
  ·rename_i ht
   injection hL with hL
   subst hL;obtain⟨s,rfl,_,hs⟩:=DataW.trod_string ht hx;exact⟨(s,()),⟨hs,trivial⟩,.v rfl,trivial⟩
  ·rename_i e ht;split at hL
   ·rename_i l hl;split at hL
    ·rename_i hsz
     injection hL with hL
     subst hL
     rcases DataW.trod_slice ht hx with⟨rfl,_⟩|⟨a,len,cap,elems,rest,m,_,rfl,_,_,YM,hmax,Y9,Z6,_,_⟩
     ·exact⟨([],()),⟨⟨Nat.zero_le _,λx hx=>by cases hx⟩,trivial⟩,.sl (c:=[]) 1 (λ_ _=>undef) (λi h=>by simp at h) (Nat.le_refl _) (Nat.zero_le _) (λ_=>rfl) (λi j h=>by simp at h) (λi j h=>by simp at h),trivial⟩
     ·have QI:∀i:Fin len,∃p:HL den l×List Value,GoodL l p.1/\RelL w (encL l p.1) p.2/\w.cells? base (a.add (i.1*P.cellsOf e)) (P.cellsOf e)=some p.2:=by
       intro i;have h1:=Z6 i.1 i.2;rw[oGE (by omega)]at h1;obtain⟨cs',h2,h3⟩:=Option.bind_eq_some_iff.1 h1;obtain⟨h,g,r⟩:=ih _ _ hl _ _ _ h3;exact⟨(h,cs'),g,r,h2⟩
      obtain⟨f,hf⟩:=Classical.axiomOfChoice QI
      have QH:∀i,(encL l (f i).1).length=l.length:=λi=>by
       rw[(hf i).2.1.len,(World.cells?_some (hf i).2.2).2.1,hsz]
      have Z0:iq w (λ_=>True) (.sl ((List.ofFn λi:Fin len=>nH l (f i).1).map (enc (FV l)))) (.slice (some a) ((List.ofFn λi:Fin len=>nH l (f i).1).map (enc (FV l))).length cap):=by
       have el:((List.ofFn λi:Fin len=>nH l (f i).1).map (enc (FV l))).length=len:=by simp
       have eg:∀i (hi:i<((List.ofFn λi:Fin len=>nH l (f i).1).map (enc (FV l))).length),((List.ofFn λi:Fin len=>nH l (f i).1).map (enc (FV l)))[i]=encL l (f ⟨i,by omega⟩).1:=by
        intro i hi;simp[D6]
       refine .sl l.length (λi j=>if h:i<len then(f ⟨i,h⟩).2.getD j undef else undef) (λi hi=>by rw[eg i hi,QH]) (by rw[el];exact YM) hmax (λh=>by cases h) (λi j hi hj=>?_) (λi j hi hj=>?_)
       ·rw[el]at hi
        have cell:∀i' (ZT:i'<len) j',j'<l.length->w.cell? ((a.add (i'*l.length)).add j')=some ((f ⟨i',ZT⟩).2.getD j' undef):=by
         intro i' ZT j' ZY;have h1:=World.cells?_some (hf ⟨i',ZT⟩).2.2;have h2:=h1.2.2 j' (by omega);rw[hsz];rw[h2]
         have:j'<(f ⟨i',ZT⟩).2.length:=by rw[h1.2.1];omega
         simp[this]
        have h0:=World.cell?_spot (cell 0 (by omega) 0 (by omega));obtain⟨b,o,spot⟩:=a
        have TL:spot=none:=by simpa[Addr.add]using h0
        subst TL;refine⟨b,o,rfl,trivial,?_⟩;have h2:=cell i hi j hj;rw[Go.WideShapes.add_plain,Go.WideShapes.add_plain]at h2;rw[dif_pos hi,<- h2,Nat.add_assoc]
       ·rw[el]at hi;have hr:=(hf ⟨i,hi⟩).2.1
        have hj2:j<(encL l (f ⟨i,hi⟩).1).length:=by rw[eg i (by omega)]at hj;exact hj
        have UF:j<(f ⟨i,hi⟩).2.length:=by rw[<- hr.len];exact hj2
        have h3:=hr.get j hj2 UF
        have e1:(if h:i<len then(f ⟨i,h⟩).2.getD j undef else undef)=(f ⟨i,hi⟩).2[j]:=by
         rw[dif_pos hi];simp[UF]
        simp only[e1];have e2:((List.ofFn λi:Fin len=>nH l (f i).1).map (enc (FV l)))[i]'(by omega)=encL l (f ⟨i,hi⟩).1:=eg i (by omega);simp only[e2];exact h3
      rw[List.length_map,List.length_ofFn]at Z0;refine⟨(List.ofFn λi:Fin len=>nH l (f i).1,()),⟨⟨by rw[List.length_ofFn];omega,λx hx=>?_⟩,trivial⟩,Z0,trivial⟩;obtain⟨i,rfl⟩:=List.mem_ofFn.1 hx;exact AH _ _ (hf i).1
    ·cases hL
   ·cases hL
  ·rename_i fs ht;split at hL
   ·rename_i l hl;split at hL
    ·rename_i hsz
     injection hL with hL
     subst hL;obtain⟨xs,m,_,_,hlen,hxl,hf⟩:=DataW.trod_struct ht hx
     obtain⟨h,g,r⟩:=Aj (cs:=cs) (m:=m) (λt L hL cs x hx=>ih t L hL m cs x hx) fs.toList 0 l hl (by
      intro f Rf;obtain⟨i,hi,rfl⟩:=List.mem_iff_getElem.1 Rf
      have hi2:i<fs.size:=by simpa using hi
      have h1:=hf i fs[i] (by simp[hi2]);rw[oGE (by omega)]at h1
      exact⟨_,by simpa using h1⟩)
     refine⟨h,g,?_⟩;rw[List.drop_zero,hsz,<- hlen,List.take_length]at r;exact r
    ·cases hL
   ·cases hL
  ·rename_i na e ht;split at hL
   ·rename_i l hl;split at hL
    ·rename_i hsz
     injection hL with hL
     subst hL;obtain⟨m,hlen,hf⟩:=Ev ht hx
     obtain⟨h,g,r⟩:=Aj (cs:=cs) (m:=m) (λt L hL cs x hx=>ih t L hL m cs x hx) _ 0 l hl (by
      intro f Rf;obtain⟨i,hi,rfl⟩:=List.mem_map.1 Rf
      exact hf i (List.mem_range.1 hi))
     refine⟨h,g,?_⟩;rw[List.drop_zero,hsz,<- hlen,List.take_length]at r;exact r
    ·cases hL
   ·cases hL
  ·cases hL
theorem intake_arg(n:Nat){t:TypeId}{L:List CT}{v:Value}{d:DataW H}{p:List MemPlace}(hL:rM P n t=some L)(h:DataW.Trod ec P w base spare held t v d p):
 ∃h:HL den L,GoodL L h/\RelL w (encL L h) v.cells.toList:=by
 have ⟨YC,hf⟩:=h;exact OT n t L hL YC _ _ hf
end
theorem plain_one{w:World}{t:TV}{v:Value}(r:RelL w [t] [v]):Bl w t v:=r.1.plain
theorem plain_agg{w:World}{l:List TV}{cs:Array Value}(r:RelL w l cs.toList):Bl w (.agg l) (.agg cs):=by
 intro F V C G hF
 have hl:cs.size=l.length:=by rw[r.len];simp
 refine .agg hl λj hj=>?_
 have hj2:j<cs.toList.length:=by simp_all
 have h1:=(r.get j hj hj2).plain F V C G hF
 simp_all
theorem IS{c:DCn}(h:o6 c):R64 c.1/\R64 c.2.1:=⟨h _ (by simp[nE]),h _ (by simp[nE])⟩
theorem yR{C:CC}{T:TT'}(h:zn C T)(g:Rg C T):StQ C T:=by
 have h1:=h.2.1.1;have h2:=h.2.1.2.1
 exact⟨by omega,λr hr=>by
  have:=of_decide_eq_true (h.2.1.2.2 r hr)
  omega,by omega,λt ht=>Nat.le_trans (g.2 t ht).len (by omega),λr hr c hc=>IS (g.1 r hr c hc),λt ht=>(g.2 t ht).nums _ (by simp),λt ht c hc=>IS ((g.2 t ht).regs c hc)⟩
theorem P2:R64 (0:Int)/\R64 (0:Int):=by unfold R64;omega
theorem PP{C:CC}{T:TT'}(h:zn C T)(g:Rg C T){l:List Int}(hl:l.length<=400){k:Int}(hk:0<=k):
 ∃(D:CC)(U:TT')(k':Int),kx C T l k=some (D,U,l,k',())/\StQ D U/\0<=k':=by
 have c1:=h.1;have c4:=h.2.1.1;have t4:=h.2.1.2.1;have hS:=yR h g
 have hlen:∀r∈C,r.length<=32:=λr hr=>by
  have:=of_decide_eq_true (h.2.1.2.2 r hr);omega
 unfold kx;rw[LH h.2.1 h.2.2,oBS];dsimp only;obtain⟨x,k1,e,xa,xb,h1⟩:=gj (n:=4) (by omega) (by omega) hl hk;rw[e,oBS];dsimp only;by_cases x0:x=0
 ·rw[beq_iff_eq.2 x0,oCT,bQ (by omega) (by simp) (by omega) (by rw[List.length_singleton];omega),oCT];refine⟨C++[[]],T,k1,rfl,⟨?_,λc hc=>?_,hS.tlen,hS.tlens,λc hc=>?_,hS.codes,hS.regs⟩,h1⟩
  ·rw[List.length_append,List.length_singleton];omega
  ·rcases List.mem_append.1 hc with hc|hc
   ·exact hS.lens c hc
   ·rw[List.mem_singleton.1 hc];exact Nat.zero_le _
  ·rcases List.mem_append.1 hc with hc|hc
   ·exact hS.cells c hc
   ·rw[List.mem_singleton.1 hc];exact λx hx=>(by cases hx)
 rw[oBF x0,oCF];by_cases x1:x=1
 ·rw[beq_iff_eq.2 x1,oCT];simp only[bO (show 0<C.length by omega),oBS];obtain⟨y,k2,e,ya,yb,h2⟩:=gj (n:=40) (by omega) (by omega) hl h1;have Xa:=hlen _ (List.getElem_mem (show 0<C.length by omega));rw[e];obtain⟨n,rfl⟩:∃n:Nat,y=n:=⟨y.toNat,by omega⟩;simp only[oBS,bN];rw[bQ (by omega) (by rw[List.length_replicate];omega) (by omega) (by rw[List.length_replicate];omega),oCT];refine⟨_,T,k2,rfl,⟨?_,λc hc=>?_,hS.tlen,hS.tlens,λc hc=>?_,hS.codes,hS.regs⟩,h2⟩
  ·rw[oLM];omega
  ·obtain⟨i,hi,rfl⟩:=List.mem_iff_getElem.1 hc;rw[List.getElem_modify];split
   ·show(C[0]++List.replicate n _).length<=_;rw[List.length_append,List.length_replicate];omega
   ·exact hS.lens _ (List.getElem_mem _)
  ·obtain⟨i,hi,rfl⟩:=List.mem_iff_getElem.1 hc;rw[List.getElem_modify];split
   ·intro x hx
    rcases List.mem_append.1 (show x∈C[0]++List.replicate n _ from hx)with hx|hx
    ·exact hS.cells _ (List.getElem_mem _) x hx
    ·rw[(List.mem_replicate.1 hx).2];exact P2
   ·exact hS.cells _ (List.getElem_mem _)
 rw[oBF x1,oCF];by_cases x2:x=2
 ·rw[beq_iff_eq.2 x2,oCT,bQ (by omega) (by simp) (by omega) (by rw[List.length_singleton];omega),oCT];have hm:∀t∈T++[((0,(0,(0,(0,(0,(0,(0,[]))))))):DTs)],t∈T\/t=(0,(0,(0,(0,(0,(0,(0,[]))))))):=λt ht=>(List.mem_append.1 ht).imp id List.mem_singleton.1;refine⟨C,T++[(0,(0,(0,(0,(0,(0,(0,[])))))))],k1,rfl,⟨hS.len,hS.lens,?_,λt ht=>?_,hS.cells,λt ht=>?_,λt ht=>?_⟩,h1⟩
  ·rw[List.length_append,List.length_singleton];omega
  ·rcases hm t ht with ht|rfl
   ·exact hS.tlens t ht
   ·exact Nat.zero_le _
  ·rcases hm t ht with ht|rfl
   ·exact hS.codes t ht
   ·exact P2.1
  ·rcases hm t ht with ht|rfl
   ·exact hS.regs t ht
   ·exact λx hx=>(by cases hx)
 rw[oBF x2,oCF,show cR 1 C.length C.length=true by unfold cR;simp;omega,oCT];have hm:∀c∈px C 1 (Nat.sub C.length 1),c∈C:=λc hc=>List.mem_of_mem_drop (List.mem_of_mem_take hc);refine⟨_,T,k1,rfl,⟨?_,λc hc=>hS.lens c (hm c hc),hS.tlen,hS.tlens,λc hc=>hS.cells c (hm c hc),hS.codes,hS.regs⟩,h1⟩;show((C.drop 1).take _).length<=_;rw[oLT,List.length_drop];omega
theorem H3{C:CC}{T:TT'}(h:zn C T)(hg:Rg C T){l:List Int}(hl:l.length<=400)(b0 b1 b2 b3 b4:Bool)(m0 m1 m2:Int):∀(j i:Nat),i+j=6->∀(all:List ST)(k:Int),all.length=i->i<=5->(∀x∈all,zn x.1 x.2/\Rg x.1 x.2)->0<=k->∀N,j<N ->
 ∃(Yz:List ST)(k':Int),bM cG N (m0,m1,m2,b0,b1,b2,b3,b4,(i:Int),C,T,all,l,k,())=some (m0,m1,m2,b0,b1,b2,b3,b4,(Yz.length:Int),false,C,T,Yz,l,k',())/\2<=Yz.length/\Yz.length<=5/\(∀x∈Yz,zn x.1 x.2/\Rg x.1 x.2)/\0<=k':=by
 intro j
 induction j with
 |zero=>
  intro i hi all k ha h5;omega
 |succ j ih=>
  intro i hi all k ha h5 hA hk N hN;obtain⟨N,rfl⟩:∃m,N=m+1:=⟨N-1,by omega⟩;obtain⟨x,k1,e,xa,xb,h1⟩:=gj (n:=4) (by omega) (by omega) hl hk;by_cases g:(i:Int)<2+x
  ·obtain⟨y,k2,e2,ya,yb,h2⟩:=gj (n:=3) (by omega) (by omega) hl h1;obtain⟨D,U,k3,e3,q1,h3,q2⟩:=MZ h hg (n:=y) ya (by omega) hl h2
   have es:cG (m0,m1,m2,b0,b1,b2,b3,b4,(i:Int),C,T,all,l,k,())=some (.inl (m0,m1,m2,b0,b1,b2,b3,b4,((i+1:Nat):Int),C,T,all++[(D,U)],l,k3,())):=by
    unfold cG;dsimp only;rw[e,oBS];dsimp only;rw[bS (by omega) (by omega),oDT g,oCT,e2,oBS];dsimp only;rw[e3,oBS];dsimp only;rw[bQ (by omega) (by simp) (by omega) (by simp;omega),oCT,bS (by omega) (by omega)];rfl
   obtain⟨Yz,k',r1,r2⟩:=ih (i+1) (by omega) (all++[(D,U)]) k3 (by rw[List.length_append,ha];rfl) (by omega) (λx hx=>(List.mem_append.1 hx).elim (hA x) λw=>by
    rw[List.mem_singleton.1 w]
    exact⟨E8 h q1,q2⟩) h3 N (by omega)
   refine⟨Yz,k',?_,r2⟩;rw[bM,es];exact r1
  ·have es:cG (m0,m1,m2,b0,b1,b2,b3,b4,(i:Int),C,T,all,l,k,())=some (.inr (m0,m1,m2,b0,b1,b2,b3,b4,(i:Int),false,C,T,all,l,k1,())):=by
    unfold cG;dsimp only;rw[e,oBS];dsimp only;rw[bS (by omega) (by omega),oDF g,oCF]
   refine⟨all,k1,?_,by omega,by omega,hA,h1⟩;rw[bM,es,ha];rfl
theorem OL(l:List Int)(b0 b1 b2 b3 b4:Bool){m:Int}(hm:0<=m/\m<=255)(m1 m2:Int):iD l b0 b1 b2 b3 b4 m m1 m2=some (true,()):=by
 unfold iD;rw[PX,oBS];dsimp only;by_cases hl:l.length<=400
 rotate_left
 ·rw[oDF hl];simp only[Bool.not_false,oCT];rw[I3];rfl
 rw[oDT hl];simp only[oNT,oCF];obtain⟨C,T,k1,e,hd,h1,hg⟩:=Jv hl (Int.le_refl 0);rw[e,oBS];dsimp only;obtain⟨all,k2,e,a2,a5,hA,h2⟩:=H3 hd hg hl b0 b1 b2 b3 b4 m m1 m2 6 0 rfl [] k1 rfl (by omega) (λx hx=>(by cases hx)) h1 NN (by unfold NN;omega);rw[show bM cG NN (m,m1,m2,b0,b1,b2,b3,b4,0,C,T,[],l,k1,())=_ from e,oBS];dsimp only;rw[show wk .i64 m=m from wrap_i64 (by omega) (by omega)]
 have Ws:∃(Yz:List ST)(k':Int),(bif(decide (m<bJ all.length))then((cj m).bind λx22=>
  (bV all x22).bind λx23=>
  (bV all x22).bind λx24=>
  (kx x24.1 x24.2 l k2).bind λ(x25,x26,x27,x28,_)=>
  (cj m).bind λx29=>
  (bV all x29).bind λSI=>
  (bV all x29).bind λQC=>
  let QD:List ((List (List DCn))×List DTs):=(List.modify all x29 λe=>(x25,x26));
  some (m1,m2,b0,b1,b2,b3,b4,C,T,QD,x27,x28,()))else
  some (m1,m2,b0,b1,b2,b3,b4,C,T,all,l,k2,()):Option (Int×Int×Bool×Bool×Bool×Bool×Bool×(List (List DCn))×(List DTs)×(List ((List (List DCn))×List DTs))×(List (Int))×Int×Unit))=some (m1,m2,b0,b1,b2,b3,b4,C,T,Yz,l,k',())/\2<=Yz.length/\Yz.length<=5/\(∀s∈Yz,StQ s.1 s.2)/\0<=k':=by
  delta bJ;dsimp only;by_cases g:m<(all.length:Int)
  ·obtain⟨n,rfl⟩:∃n:Nat,m=n:=⟨m.toNat,by omega⟩
   have gn:n<all.length:=by omega
   rw[oDT g,oCT,bN,oBS,bO gn,oBS,oBS];obtain⟨D,U,k3,e,q,h3⟩:=PP (hA _ (List.getElem_mem gn)).1 (hA _ (List.getElem_mem gn)).2 hl h2;rw[e,oBS];dsimp only;rw[oBS,bO gn,oBS,oBS];refine⟨_,k3,rfl,by rw[oLM];exact a2,by rw[oLM];exact a5,λs hs=>?_,h3⟩;obtain⟨i,hi,rfl⟩:=List.mem_iff_getElem.1 hs;rw[List.getElem_modify];split
   ·exact q
   ·exact yR (hA _ (List.getElem_mem _)).1 (hA _ (List.getElem_mem _)).2
  ·rw[oDF g,oCF];exact⟨all,k2,rfl,a2,a5,λs hs=>yR (hA s hs).1 (hA s hs).2,h2⟩
 obtain⟨L,k3,e,l2,l5,hL,h3⟩:=Ws;rw[e,oBS];dsimp only;clear e;obtain⟨x,k4,e,xa,xb,h4⟩:=gj (n:=5) (by omega) (by omega) hl h3;rw[e,oBS];dsimp only;obtain⟨y,k5,e,ya,yb,h5⟩:=gj (n:=3) (by omega) (by omega) hl h4;rw[e,oBS];delta bJ;dsimp only;rw[bN,oBS,show cR 0 L.length 5=true by unfold cR;simp;omega,oCT];obtain⟨z,e,_,_⟩:=M0 (x:=m1) (n:=5) (by omega) (by omega);rw[e,oBS];dsimp only;rw[NK hL (by omega) (by unfold Sm px;rw[oLT];omega),oBS];dsimp only;rw[oNT,oCF,bO (show 0<L.length by omega),oBS,oBS,bO (show 1<L.length by omega),oBS,oBS];have q0:=(hL _ (List.getElem_mem (show 0<L.length by omega))).k;have q1:=(hL _ (List.getElem_mem (show 1<L.length by omega))).k;obtain⟨R,q,X,Y,M,K,er,hp,hr,hX,hM⟩:=FM q0 q1;obtain⟨z2,e2,_,_⟩:=M0 (x:=m2) (n:=8) (by omega) (by omega)
 have ZU:((cW L[0].1 L[0].2 L[1].1 L[1].2 2 3).bind λ(x60,x61,x62,x63,x64,x65,x66,_)=>
  bif(er==x66)then((fJ R q X Y M K x60 x61 x62 x63 x64 x65).bind λ(x67,_)=>
  bif x67 then((bV L 1).bind λx68=>
  (bV L 1).bind λQF=>
  (ld m2 8).bind λ(x70,_)=>
  let x71:Int:=(w64 (x70-1));
  (cN x60 x61 x62 x63 x64 x65 QF.1 QF.2 C T x71).bind λ(x72,_)=>
  bif x72 then((bV L 0).bind λx73=>
  (bV L 0).bind λQG=>
  (cN x60 x61 x62 x63 x64 x65 C T QG.1 QG.2 2).bind λ(x75,_)=>
  bif x75 then((fP).bind λ(x76,_)=>
  some (x76,()))else
  some (false,()))else
  some (false,()))else
  some (false,()))else
  some (false,()):Option (Bool×Unit))=some (true,()):=by
  have hC:=(yR hd hg).k;rw[hr,oBS];dsimp only;rw[beq_self_eq_true,oCT,G8 hX (by unfold Sm;omega),oBS];dsimp only;rw[oCT,bO (show 1<L.length by omega),oBS,oBS,e2,oBS];dsimp only;rw[OR hX (by omega) q1 hC,oBS];dsimp only;rw[oCT,bO (show 0<L.length by omega),oBS,oBS,OR hX (by omega) hC q0,oBS];dsimp only;rw[oCT,I3];rfl
 rcases hp with hp|hp
 ·rw[hp];dsimp only;rw[bO (show 0<L.length by omega),oBS,oBS,bO (show 1<L.length by omega),oBS,oBS]at *;exact ZU
 ·rw[hp];dsimp only;rw[bO (show 0<L.length by omega),oBS,oBS,bO (show 1<L.length by omega),oBS,oBS]at *;exact ZU
theorem law_RepairMade{h0:HL den [RI]}{h1:HL den [.bool,.bool,.bool,.bool,.bool]}{h2:HL den [.int .u8]}{h3 h4:HL den [I64]}(g0:GoodL _ h0)(g1:GoodL _ h1)(g2:GoodL _ h2)(g3:GoodL _ h3)(g4:GoodL _ h4):lF.g (appL [RI] _ h0 (appL [.bool,.bool,.bool,.bool,.bool] _ h1 (appL [.int .u8] _ h2 (appL [I64] _ h3 (appL [I64] _ h4 ())))))=some (true,()):=OL h0.1 h1.1 h1.2.1 h1.2.2.1 h1.2.2.2.1 h1.2.2.2.2.1 (by
 have h3:(Lit.int .u8 h2.1).wf=true:=g2.1;simp[Lit.wf,IntKind.min,IntKind.max,IntKind.signed,IntKind.bits]at h3;show 0<=h2.1/\h2.1<=255
 omega) h3.1 h4.1
end Go.Proofs.YtakfoejcjdcgbaaGreat
