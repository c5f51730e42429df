/- Part of the proof; no condition. -/
import Derived.Test.YtakfoejcjdcgbaaGreatRa
import Derived.Laws.StructEq
import Derived.Laws.BytesString
import Derived.Laws.NewFold
import Derived.Laws.IdiomCopy
import Derived.LoopN
import Derived.Orders
import Derived.Scope
import Derived.Lib.SlicesCompact
set_option linter.unusedVariables false
set_option linter.unusedSimpArgs false
namespace Go.Proofs.YtakfoejcjdcgbaaGreat
open Go.RowKit
section
variable {P:Program} {M:Fm} {σ σ':St} {H:List TV} {xs:List Value} {ts:Array Value} {w:World} {G:Gh}
theorem Inv.rehandL(hI:Inv M σ H xs ts w G){w':World}{H':List TV}{xs':List Value}{f:Nat->Nat->Prop}{Fx:Nat->Prop}(hw:∀k,k<w.heap.size->(∀j,¬G.φ M.hr j k)->w'.heap[k]?=w.heap[k]?)(hs:w.heap.size<=w'.heap.size)
 (ho:w'.os=w.os)(ht:w'.tape=w.tape)(hu:w'.output=w.output)(hlen:H'.length=xs'.length)(hf:∀j k,f j k->j<H'.length/\((∃i,G.φ M.hr i k)\/w.heap.size<=k))(hdis:∀j j' k,f j k->f j' k->j=j')
 (hFx:∀k,Fx k->(G.F M.A k\/(∃i,G.φ M.hr i k)\/w.heap.size<=k)/\∀j,¬f j k)(hown:∀j (h:j<H'.length),(H'[j]=.dead/\∀k,¬f j k)\/fa w' Fx (f j) H'[j] (xs'.getD j undef)):
 ∃G',Inv M σ H' xs' ts w' G'/\ij M w σ H G w' σ H' G'/\G'.β=G.β/\∀r o k,r≠1->(G'.φ r o k↔G.φ r o k):=by
 let G':Gh:=⟨G.β,λr o=>if r=M.hr then xs'.getD o undef else G.η r o,λr o k=>if r=M.hr then f o k else G.φ r o k⟩
 have Z':∀r o k,G'.φ r o k->(r=M.hr/\f o k)\/(r≠M.hr/\G.φ r o k):=by
  intro r o k hk;simp only[G']at hk;by_cases e:r=M.hr
  ·rw[oIP e]at hk;exact .inl ⟨e,hk⟩
  ·rw[oIN e]at hk;exact .inr ⟨e,hk⟩
 have Zz:∀k,G.F M.A k->k<w.heap.size->G'.F M.A k:=by
  rintro k ⟨a1,a2,a3⟩ hk;refine⟨a1,λr o h=>?_,a3⟩
  rcases Z' r o k h with⟨_,h1⟩|⟨_,h1⟩
  ·rcases(hf _ k h1).2 with⟨j,h2⟩|h2
   ·exact a2 _ _ h2
   ·omega
  ·exact a2 _ _ h1
 have Yy:∀k,G.F M.A k->k<w.heap.size->w'.heap[k]?=w.heap[k]?:=λk ⟨_,a2,_⟩ hk=>hw k hk λj=>a2 _ _;have hφ:∀r o,r≠M.hr->∀k,G.φ r o k->w'.heap[k]?=w.heap[k]?:=λr o h k hk=>hw k (hI.core.live hk) λj hj=>h (hI.core.dis _ _ _ _ k hk hj).1;have Zb:∀r b o n,G.β r=some (b,o,n)->w'.heap[b]?=w.heap[b]?:=λr b o n hb=>hw b (hI.core.boxlt hb) λj=>hI.core.boxf r b o n hb _ _;have hk:=mh (H':=H') (G':=G') hI hw rfl (λr o h=>by simp[G',show r≠M.hr from h])
 have P2:∀r o k,r≠M.hr->G.φ r o k->∀j,¬f j k:=by
  intro r o k h hk j Sx
  rcases(hf j k Sx).2 with⟨i,h2⟩|h2
  ·exact h (hI.core.dis _ _ _ _ k hk h2).1
  ·have:=hI.core.live hk;omega
 have hF:=hI.fram
 have We:∀k,((∃i,G.φ M.hr i k)\/w.heap.size<=k)->M.A k:=by
  rintro k (⟨i,h⟩|h)
  ·exact hI.core.allow _ _ k h
  ·exact M.hA k (Nat.le_trans hF.size h)
 have Vg:∀k,((∃i,G.φ M.hr i k)\/w.heap.size<=k)->∀r b o n,G.β r=some (b,o,n)->k≠b:=by
  rintro k (⟨i,h⟩|h) r b o n hb rfl
  ·exact hI.core.boxf r k o n hb _ _ h
  ·have:=hI.core.boxlt hb;omega
 have Q3:∀k,Fx k->G'.F M.A k:=by
  intro k hk;obtain⟨h1,h2⟩:=hFx k hk;refine⟨?_,λr o h=>?_,λr b o n hb=>?_⟩
  ·rcases h1 with h1|h1
   ·exact h1.1
   ·exact We k h1
  ·rcases Z' r o k h with⟨_,h3⟩|⟨h3,h4⟩
   ·exact h2 _ h3
   ·rcases h1 with h1|⟨i,h1⟩|h1
    ·exact h1.2.1 _ _ h4
    ·exact h3 (hI.core.dis _ _ _ _ k h4 h1).1
    ·have:=hI.core.live h4;omega
  ·rcases h1 with h1|h1
   ·exact h1.2.2 r b o n hb
   ·exact Vg k h1 r b o n hb
 have ZF:iM M.A (b5 M σ H') w' G':=by
  refine⟨λr o=>?_,λr b o0 n hb=>?_,λr b o0 n hb o ho=>?_,hI.core.boxd,λr b o n hb r2 o2 hk=>?_,λr1 o1 r2 o2 k h1 h2=>?_,λr o k h=>?_⟩
  ·by_cases e:r=M.hr
   ·subst e
    have ZO:∀k,G'.φ M.hr o k↔f o k:=λk=>by simp[G']
    by_cases e2:o<H'.length
    ·have hv:G'.val w' M.hr o=xs'.getD o undef:=by unfold Gh.val;simp only[G',hI.hr_none,if_true]
     rw[hv,iI]
     have e3:H'.getD o .dead=H'[o]:=by simp[e2]
     rw[e3]
     rcases hown o e2 with⟨h1,h2⟩|h1
     ·left;exact⟨h1,λk hk=>h2 k ((ZO k).1 hk)⟩
     ·right;exact(h1.frame (λ_ _=>rfl) (λ_ _ _=>rfl) (λk h _=>Q3 k h)).refp λk=>(ZO k).symm
    ·left;exact⟨by rw[iI];simp[e2],λk hk=>e2 (hf o k ((ZO k).1 hk)).1⟩
   ·have hv:G'.val w' r o=G.val w r o:=gh rfl (by simp[G',e]) (Zb r)
    have ZO:∀k,G'.φ r o k↔G.φ r o k:=λk=>by simp[G',e]
    rw[bW e,hv];have hc:=hI.core.cell r o;rw[bW e]at hc
    rcases hc with⟨a1,a2⟩|a2
    ·left;exact⟨a1,λk hk=>a2 k ((ZO k).1 hk)⟩
    ·right;exact(a2.frame (hφ r o e) Yy Zz).refp λk=>(ZO k).symm
  ·obtain⟨cur,e',fz,a1,a2,a3⟩:=hI.core.box r b o0 n hb;exact⟨cur,e',fz,by rw[Zb r b o0 n hb];exact a1,a2,λj hj=>by rw[World.frozen?_of_block (w:=w) (Zb r b o0 n hb)];exact a3 j hj⟩
  ·have e:r≠M.hr:=λe=>by
    have Zx:G.β r=some (b,o0,n):=hb;rw[e,hI.hr_none]at Zx;simp at Zx
   have:=hI.core.boxc r b o0 n hb o ho;rw[bW e]at this⊢;exact this
  ·rcases Z' r2 o2 b hk with⟨_,h1⟩|⟨_,h1⟩
   ·exact Vg b (hf _ b h1).2 r b o n hb rfl
   ·exact hI.core.boxf r b o n hb _ _ h1
  ·rcases Z' r1 o1 k h1 with⟨a1,a3⟩|⟨a1,a2⟩
   ·rcases Z' r2 o2 k h2 with⟨b1,b3⟩|⟨b1,b2⟩
    ·exact⟨a1.trans b1.symm,hdis _ _ k a3 b3⟩
    ·exact absurd a3 (P2 _ _ k b1 b2 _)
   ·rcases Z' r2 o2 k h2 with⟨b1,b3⟩|⟨b1,b2⟩
    ·exact absurd b3 (P2 _ _ k a1 a2 _)
    ·exact hI.core.dis _ _ _ _ k a2 b2
  ·rcases Z' r o k h with⟨_,a3⟩|⟨a1,a2⟩
   ·exact We k (hf _ k a3).2
   ·exact hI.core.allow _ _ k a2
 refine⟨G',⟨ZF,λi=>(hI.tmr i).keep hk Yy Zz,?_,hI.keys,hI.size,hlen,λj hj=>by simp[G'],hI.shape,λi x h0 h=>by simp only[G',oIN (show ¬ 2*i+3=M.hr from λe=>M.odd_ne i (p:=True) ⟨e,trivial⟩)];exact hI.kept i x h0 h⟩,⟨hs,hk,Yy,Zz⟩,rfl,λr o k h=>by simp[G',show r≠M.hr from h]⟩;refine⟨ho.trans hF.os,ht.trans hF.tape,hu.trans hF.output,Nat.le_trans hF.size hs,λk a1 a2 a3=>?_,λr b o n hp=>?_,λr o k h=>?_,hF.box,hF.even⟩
 ·rw[hw k (Nat.lt_of_lt_of_le a1 hF.size) λj hj=>?_]
  ·exact hF.old k a1 a2 a3
  ·rcases hF.own _ _ k hj with h|h
   ·exact a2 h
   ·omega
 ·obtain⟨a1,cur0,cur,e',fz,a2,a3,a4⟩:=hF.par r b o n hp;exact⟨a1,cur0,cur,e',fz,a2,by rw[Zb r b o n a1];exact a3,a4⟩
 ·rcases Z' r o k h with⟨_,a3⟩|⟨a1,a2⟩
  ·rcases(hf _ k a3).2 with⟨j,h2⟩|h2
   ·exact hF.own _ _ k h2
   ·exact .inr (Nat.le_trans hF.size h2)
  ·exact hF.own _ _ k a2
theorem Inv.dropImm(hI:Inv M σ H xs ts w G)(Zu:∀j (h:j<H.length),H[j]≠.dead):∃G',jM M w ts σ H G σ [] [] G'/\∀j (h:j<H.length),io w (G'.F M.A) H[j].imm (xs.getD j undef):=by
 obtain⟨G',ZK,hm,hβ,hφ⟩:=hI.rehandL (w':=w) (H':=[]) (xs':=[]) (f:=λ_ _=>False) (Fx:=λ_=>False) (λ_ _ _=>rfl) (Nat.le_refl _) rfl rfl rfl rfl (λ_ _ h=>h.elim) (λ_ _ _ h=>h.elim) (λ_ h=>h.elim) (λj h=>by simp at h)
 have U5:∀k,G.F M.A k->G'.F M.A k:=by
  rintro k ⟨a1,a2,a3⟩;refine⟨a1,λr o h=>?_,λr b o n hb=>a3 r b o n (hβ ▸ hb)⟩;by_cases hr:r=1
  ·have:=ZK.phi_dead (r:=r) (o:=o) (by rw[hr,show(1:Nat)=M.hr from rfl,iI];simp)
   simp_all
  ·simp_all
 refine⟨G',⟨ZK,U5,hm.keeps,rfl⟩,λj hj=>?_⟩;refine(hI.hand_own hj (Zu j hj)).share'.frame (λ_ _ _=>rfl) λk hk _=>?_;rcases hk with hk|hk
 ·simp_all
 ·refine⟨hI.core.allow _ _ k hk,λr o h=>?_,λr b o n hb=>?_⟩
  ·by_cases hr:r=1
   ·have:=ZK.phi_dead (r:=r) (o:=o) (by rw[hr,show(1:Nat)=M.hr from rfl,iI];simp)
    simp_all
   ·exact hr (hI.core.dis _ _ _ _ k ((hφ r o k hr).1 h) hk).1
  ·rintro rfl;exact hI.core.boxf r k o n (hβ ▸ hb) _ _ hk
end
section
variable {P:Program} {M:Fm} {σ σ':St} {a:Act} {w:World} {G:Gh} {o:Oper}
theorem Iv{cs:List TV}{xs:List Value}(hI:Inv M σ [] [] a.tmps w G){d:Nat}(hd:o.dst=some d)(hN:M.ok d)(e:TypeId)(hl:xs.length=cs.length)(WX:∀j (h:j<cs.length),ImF w (G.F M.A) cs[j] (xs.getD j undef)){w0:World}
 (hr:(wr d (.ip cs)).run σ=some ((),σ'))(hrun:(execOp a.eval o).run P w0=.ok (.value (.pointer (some ⟨w.heap.size,0,none⟩))) (w.alloc (.cells xs.toArray e))):jB P M σ' a o w0:=by
 obtain⟨w1,WA⟩:∃w1,w1=w.alloc (.cells xs.toArray e):=⟨_,rfl⟩
 have YM:w1.heap=w.heap.push (.cells xs.toArray e):=by rw[WA];rfl
 have ZA:∀k,k<w.heap.size->w1.heap[k]?=w.heap[k]?:=by
  intro k hk;rw[YM];simp[Array.getElem?_push,show k≠w.heap.size by omega]
 have ZD:w1.heap[w.heap.size]?=some (.cells xs.toArray e (0,0)):=by rw[YM];simp
 obtain⟨Z3,_⟩:=hI.grow (w':=w1) ZA (by rw[YM];simp) (by rw[WA];rfl) (by rw[WA];rfl) (by rw[WA];rfl);simp only[wr,SP.run,oSJ,oPJ,true_and]at hr;subst hr;rw[<- WA]at hrun;refine⟨_,_,_,G,hrun,.inl rfl,?_⟩;rw[hd];refine Z3.wrT hN (.ip (λj=>xs.getD j undef) (λj hj=>⟨⟨M.hA _ hI.fram.size,λr o h=>Nat.lt_irrefl _ (hI.core.live h),λr b o n hb e=>Nat.lt_irrefl _ (e▸hI.core.boxlt hb)⟩,?_⟩) λj hj=>(WX j hj).frame (λk _ hk=>ZA k hk) λk h _=>h);rw[cell_of_row _ _ _ _ _ _ ZD]
 have ZY:j<xs.length:=by omega
 simp[ZY]
theorem Jq(hI:Inv M σ [] [] a.tmps w G){d n:Nat}(hd:o.dst=some d)(hN:M.ok d){x:Opd}{x':Operand}{e:TypeId}(hx:bK x'=some x)(ho:o.op=.box e x')
 (hr:(ev1 d (.boxi n x)).run σ=some ((),σ')):jB P M σ' a o w:=by
 simp only[ev1]at hr;obtain⟨t,σ1,h1,h2⟩:=bG hr;obtain⟨rfl,ht⟩:=cr hI.tmr hx h1;split at h2
 ·rename_i WX;split at h2
  case isFalse=>simp[SP.run]at h2
  have Zt:=(ht.imF WX).one;refine Iv hI hd hN e (xs:=[a.eval x']) rfl (λj hj=>?_) h2 ?_
  ·obtain rfl:j=0:=by simpa using hj
   exact ht.imF WX
  ·have hz:(a.eval x').cells=#[a.eval x']:=by
    generalize a.eval x'=z at Zt
    cases z<;>first|rfl|simp[Value.oneCell']at Zt
   simp[execOp,ho,Instr.box,newVar,newRow,hz]
 ·obtain⟨l,σ2,h3,h4⟩:=bG h2;obtain⟨G1,hg,Zt,hok,hlen⟩:=nz hI ht h3;split at h4
  case isFalse=>simp[SP.run]at h4
  obtain⟨G2,ZL,ZM⟩:=hg.1.dropImm (pH hok);refine Iv ZL.1 hd hN e (xs:=(a.eval x').cells.toList) (by simp[hlen]) (λj hj=>?_) h4 ?_
  ·have ZY:j<l.length:=by simpa using hj
   have:=ZM j ZY;rw[List.getElem_map];exact .im this
  ·simp[execOp,ho,Instr.box,newVar,newRow]
end
def As(g:TypeId->Option (List FK)):Nat->List Field->Option (List FK)
 |_,[]=>some []
 |off,f::fs=>
  if f.name≠"_"/\f.offset=off then
   match g f.type with
   |some ks=>(As g (off+ks.length) fs).map (ks++·)
   |none=>none
  else none
def oW(P:Program):Nat->TypeId->Option (List FK)
 |0,_=>none
 |d+1,t=>
  match P.underlying t with
  |some .bool=>some [.b]
  |some (.int _)=>some [.i]
  |some .string=>some [.s]
  |some (.struct fs)=>
   if P.stoodInHeld t then none
   else match As (oW P d) 0 fs.toList with
    |some ks=>if(P.info? t).map (·.size)=some ks.length then some ks else none
    |none=>none
  |_=>none
theorem Ex{α β:Type}{f:α->β}{o:Option α}{b:β}(h:o.map f=some b):∃a,o=some a/\f a=b:=by
 simp_all
theorem Cb:∀{ks:List FK}{xs ys:List Value}{r:Bool},cA ks xs ys=some r->xs.length=ks.length/\ys.length=ks.length:=by
 intro ks
 induction ks with
 |nil=>
  intro xs ys r h;cases xs<;>cases ys<;>simp[cA]at h⊢
 |cons k ks ih=>
  intro xs ys r h
  cases xs with
  |nil=>cases k<;>simp[cA]at h
  |cons x xs=>
   cases ys with
   |nil=>cases k<;>cases x<;>simp[cA]at h
   |cons y ys=>
    cases k<;>cases x<;>cases y<;>simp only[cA]at h<;>first|(simp at h;done)|skip
    ·split at h
     ·obtain⟨r',h1,_⟩:=Ex h;have:=ih h1;simp[this.1,this.2]
     ·simp at h
    ·obtain⟨r',h1,_⟩:=Ex h;have:=ih h1;simp[this.1,this.2]
    ·obtain⟨r',h1,_⟩:=Ex h;have:=ih h1;simp[this.1,this.2]
theorem vV:∀{k1 k2:List FK}{xs ys:List Value}{r:Bool},cA (k1++k2) xs ys=some r ->
 ∃r1 r2,cA k1 (xs.take k1.length) (ys.take k1.length)=some r1/\cA k2 (xs.drop k1.length) (ys.drop k1.length)=some r2/\r=(r1&&r2):=by
 intro k1
 induction k1 with
 |nil=>intro k2 xs ys r h;exact⟨true,r,rfl,h,rfl⟩
 |cons k k1 ih=>
  intro k2 xs ys r h;simp only[List.cons_append]at h
  cases xs with
  |nil=>cases k<;>simp[cA]at h
  |cons x xs=>
   cases ys with
   |nil=>cases k<;>cases x<;>simp[cA]at h
   |cons y ys=>
    have fin:∀(q:Bool)(h:(cA (k1++k2) xs ys).map (q && ·)=some r)(hq:∀X Y,cA (k::k1) (x::X) (y::Y)=(cA k1 X Y).map (q && ·)),∃r1 r2,cA (k::k1) ((x::xs).take (k::k1).length) ((y::ys).take (k::k1).length)=some r1/\cA k2 ((x::xs).drop (k::k1).length) ((y::ys).drop (k::k1).length)=some r2/\r=(r1&&r2):=by
     intro q h hq;obtain⟨r',h1,h2⟩:=Ex h;obtain⟨r1,r2,a1,a2,a3⟩:=ih h1;refine⟨q&&r1,r2,?_,by simpa using a2,by rw[<- h2,a3,Bool.and_assoc]⟩;simp only[oLC,List.take_succ_cons];rw[hq,a1];rfl
    cases k<;>cases x<;>cases y<;>simp only[cA]at h<;>first|(simp at h;done)|skip
    ·split at h
     ·rename_i e;exact fin _ h λX Y=>by simp only[cA,oIP e]
     ·simp at h
    ·exact fin _ h λX Y=>rfl
    ·exact fin _ h λX Y=>rfl
section
variable {P:Program} {w:World}
theorem uP{d D:Nat}{g:TypeId->Option (List FK)}
 (ih:∀t ks,g t=some ks->∀(xs ys:Array Value) off r,cA ks ((xs.toList.drop off).take ks.length) ((ys.toList.drop off).take ks.length)=some r->∃a b,(part t xs off).run P w=.ok a w/\(part t ys off).run P w=.ok b w/\(Op.equalIn D t a b).run P w=.ok r w)(xs ys:Array Value):
 ∀(fs:List Field)(o:Nat)(ks:List FK)(r:Bool),As g o fs=some ks->cA ks (xs.toList.drop o) (ys.toList.drop o)=some r->(Op.eqFields D xs ys fs).run P w=.ok r w:=by
 intro fs
 induction fs with
 |nil=>
  intro o ks r h he;simp only[As,oSJ]at h;subst h
  have hr:r=true:=by
   revert he;generalize xs.toList.drop o=X;generalize ys.toList.drop o=Y;intro he;cases X<;>cases Y<;>simp[cA]at he;exact he
  subst hr;rfl
 |cons f fs Sc=>
  intro o ks r h he;simp only[As]at h;split at h
  case isFalse=>simp at h
  rename_i hf;split at h
  case h_2=>simp at h
  rename_i k1 Y9;obtain⟨k2,YJ,rfl⟩:=Ex h;obtain⟨r1,r2,a1,a2,rfl⟩:=vV he;obtain⟨a,b,p1,p2,p3⟩:=ih f.type k1 Y9 xs ys o r1 a1;rw[List.drop_drop,List.drop_drop]at a2;have ZW:=Sc (o+k1.length) k2 r2 YJ a2;simp only[Op.eqFields];rw[oIP hf.1,hf.2];simp only[Sem.run_bind,p1,p2,p3,Result.andThen_ok]
  cases r1 with
  |false=>simp
  |true=>simp_all
theorem GZ:∀(d:Nat)(t:TypeId)(ks:List FK),oW P d t=some ks->∀D,d<=D->∀(xs ys:Array Value)(off:Nat)(r:Bool),cA ks ((xs.toList.drop off).take ks.length) ((ys.toList.drop off).take ks.length)=some r ->
 ∃a b,(part t xs off).run P w=.ok a w/\(part t ys off).run P w=.ok b w/\(Op.equalIn D t a b).run P w=.ok r w:=by
 intro d
 induction d with
 |zero=>intro t ks h;simp[oW]at h
 |succ d ih=>
  intro t ks h D hD xs ys off r he;obtain⟨D',rfl⟩:∃D',D=D'+1:=⟨D-1,by omega⟩;simp only[oW]at h
  have one:∀(Sr:TypeDesc)(k:FK),P.underlying t=some Sr->(∀f,Sr≠.struct f)->(∀n e,Sr≠.array n e)->ks=[k]->∃x y,xs[off]?=some x/\ys[off]?=some y/\cA [k] [x] [y]=some r/\(part t xs off).run P w=.ok x w/\(part t ys off).run P w=.ok y w:=by
   rintro Sr k hu h1 h2 rfl;obtain⟨l1,l2⟩:=Cb he
   obtain⟨x,hx⟩:∃x,xs.toList.drop off=x::(xs.toList.drop (off+1)):=by
    have:off<xs.toList.length:=by simp at l1⊢;omega
    exact⟨_,List.drop_eq_getElem_cons this⟩
   obtain⟨y,hy⟩:∃y,ys.toList.drop off=y::(ys.toList.drop (off+1)):=by
    have:off<ys.toList.length:=by simp at l2⊢;omega
    exact⟨_,List.drop_eq_getElem_cons this⟩
   have WP:xs[off]?=some x:=by
    have:=congrArg (λl=>l[0]?) hx;simpa using this
   have Um:ys[off]?=some y:=by
    have:=congrArg (λl=>l[0]?) hy;simpa using this
   rw[hx,hy]at he;exact⟨x,y,WP,Um,by simpa using he,by simp[part,lQ hu h1 h2,WP],by simp[part,lQ hu h1 h2,Um]⟩
  split at h
  ·rename_i hu
   injection h with h
   obtain⟨x,y,_,_,e,p1,p2⟩:=one _ .b hu (λ_ h=>by cases h) (λ_ _ h=>by cases h) h.symm;refine⟨x,y,p1,p2,?_⟩;cases x<;>cases y<;>simp[cA]at e;simp[Op.equalIn,run_underlying hu,e]
  ·rename_i k0 hu
   injection h with h
   obtain⟨x,y,_,_,e,p1,p2⟩:=one _ .i hu (λ_ h=>by cases h) (λ_ _ h=>by cases h) h.symm;refine⟨x,y,p1,p2,?_⟩
   cases x<;>cases y<;>simp only[cA]at e<;>first|(simp at e;done)|skip
   rename_i ka a kb b;split at e
   ·rename_i hk;subst hk;simp at e;simp[Op.equalIn,run_underlying hu,e]
   ·simp at e
  ·rename_i hu
   injection h with h
   obtain⟨x,y,_,_,e,p1,p2⟩:=one _ .s hu (λ_ h=>by cases h) (λ_ _ h=>by cases h) h.symm;refine⟨x,y,p1,p2,?_⟩;cases x<;>cases y<;>simp[cA]at e;simp[Op.equalIn,run_underlying hu,e]
  ·rename_i fs hu;split at h
   case isTrue=>simp at h
   rename_i hst;split at h
   case h_2=>simp at h
   rename_i UZ Rn;split at h
   case isFalse=>simp at h
   rename_i hsz
   injection h with h
   subst h
   have Y6:(sizeOf t).run P w=.ok UZ.length w:=by
    unfold sizeOf typeInfo
    cases hi:P.info? t with
    |none=>simp[hi]at hsz
    |some i=>simp[hi]at hsz;simp[hi,hsz]
   have Vl:∀zs:Array Value,(part t zs off).run P w=.ok (.agg (zs.extract off (off+UZ.length))) w:=λzs=>by
    simp[part,kx hu (.inl ⟨_,rfl⟩),Y6]
   refine⟨_,_,Vl xs,Vl ys,?_⟩
   have Sy:P.fieldsOf t=fs:=by simp[Program.fieldsOf,hu]
   rw[run_equalIn_struct w D' t _ _ (by rw[Sy];exact hu) (by simpa using hst),Sy];refine uP (d:=d) (g:=oW P d) (λt ks h xs ys off r he=>ih t ks h D' (by omega) xs ys off r he) _ _ fs.toList 0 UZ r Rn ?_
   have e:∀zs:Array Value,(zs.extract off (off+UZ.length)).toList.drop 0=(zs.toList.drop off).take UZ.length:=λzs=>by
    simp[List.extract_eq_take_drop]
   rw[e,e];exact he
  ·simp at h
theorem Ia{d D:Nat}{t:TypeId}{ks:List FK}{fs:Array Field}(h:oW P (d+1) t=some ks)(hu:P.underlying t=some (.struct fs))(hD:d<=D){xs ys:Array Value}{r:Bool}(he:cA ks xs.toList ys.toList=some r):(Op.equalIn (D+1) t (.agg xs) (.agg ys)).run P w=.ok r w:=by
 simp only[oW,hu]at h;split at h
 case isTrue=>simp at h
 split at h
 case h_2=>simp at h
 rename_i UZ Rn;split at h
 case isFalse=>simp at h
 have Sy:P.fieldsOf t=fs:=by simp[Program.fieldsOf,hu]
 rw[run_equalIn_struct w D t _ _ (by simp_all) (by simp_all),Sy];exact uP (d:=d) (λt ks h xs ys off r he=>GZ d t ks h D hD xs ys off r he) _ _ fs.toList 0 UZ r Rn (by simp_all)
variable {M:Fm} {σ σ':St} {G:Gh} {a:Act} {o:Oper}
theorem Kd{F:Nat->Prop}{V:Vs}{C:Cs}:∀{l:List TV}{vs:List Value},co l=some vs->vs.length=l.length/\∀j (h:j<l.length)(h':j<vs.length)(x:Value),TmR w F V C G l[j] x->x=vs[j]:=by
 intro l
 induction l with
 |nil=>intro vs h;simp[co]at h;subst h;exact⟨rfl,λj h=>by simp at h⟩
 |cons t l ih=>
  intro vs h
  cases t with
  |v z=>
   obtain⟨vs',h1,rfl⟩:=Ex h;have ⟨e,h2⟩:=ih h1;refine⟨by simp[e],λj hj ZY x hx=>?_⟩
   cases j with
   |zero=>exact hx.v_inv.1
   |succ j=>exact h2 j (by simp_all) (by simp_all) x hx
  |_=>simp[co]at h
theorem An{F:Nat->Prop}{V:Vs}{C:Cs}{l:List TV}{vs:List Value}{x:Value}(h:co l=some vs)(hx:TmR w F V C G (.agg l) x):x=.agg vs.toArray:=by
 obtain⟨xs,rfl,hl,hj⟩:=Fh hx;obtain⟨e,h2⟩:=Kd h;congr 1;apply Array.ext
 ·simp_all
 ·intro j h1 h3;have:=h2 j (by omega) (by omega) _ (hj j (by omega))
  have e2:xs.getD j undef=xs[j]:=by simp[h1]
  simp_all
theorem Gb(hI:Inv M σ [] [] a.tmps w G){d:Nat}(hd:o.dst=some d)(hN:M.ok d){x y:Opd}{x' y':Operand}{op:BinOp}{neg:Bool}{t yt:TypeId}{ks:List FK}{fs:Array Field}(hx:bK x'=some x)(hy:bK y'=some y)(ho:o.op=.binOp op t x' y' yt)(hop:(op=.eql/\neg=false)\/(op=.neq/\neg=true))
 (hu:P.underlying t=some (.struct fs))(hk:oW P 50 t=some ks)(WL:P.eqGuardType P.depth t=false)(hr:(ev1 d (.eqa ks neg x y)).run σ=some ((),σ')):jB P M σ' a o w:=by
 simp only[ev1]at hr;obtain⟨t1,σ1,h1,h2⟩:=bG hr;obtain⟨rfl,Z2⟩:=cr hI.tmr hx h1;obtain⟨t2,σ2,h3,h4⟩:=bG h2;obtain⟨rfl,XD⟩:=cr hI.tmr hy h3
 cases t1 with
 |agg l1=>
  cases t2 with
  |agg l2=>
   simp only at h4;obtain⟨QI,σ3,h5,h6⟩:=bG h4;obtain⟨e1,rfl⟩:=mr h5;obtain⟨vs2,σ4,h7,h8⟩:=bG h6;obtain⟨e2,rfl⟩:=mr h7;obtain⟨r,σ5,h9,ZS⟩:=bG h8;obtain⟨e3,rfl⟩:=mr h9;have ex:=An e1 Z2;have ey:=An e2 XD;have hq:(Op.equalIn 10000 t (.agg QI.toArray) (.agg vs2.toArray)).run P w=.ok r w:=Ia (d:=49) (D:=9999) hk hu (by omega) (by simpa using e3);have hg:(eqGuard op t x' y' (.agg QI.toArray) (.agg vs2.toArray)).run P w=.ok () w:=run_eqGuard_agg w op t x' y' _ _ WL;refine fG hI hd hN (.v rfl) ZS ?_
   rcases hop with⟨rfl,rfl⟩|⟨rfl,rfl⟩
   ·simp[execOp,ho,ex,ey,hg,run_eql_struct,hq]
   ·simp[execOp,ho,ex,ey,hg,run_neq_struct,hq]
  |_=>simp[SP.run]at h4
 |_=>simp[SP.run]at h4
end
section
variable {P:Program} {M:Fm} {σ σ':St} {H:List TV} {xs:List Value} {ts:Array Value} {w:World} {G:Gh} {a:Act} {o:Oper}
theorem EQ(mx:Bool)(k:IntKind):∀(r:List Value)(x m:Int),sn mx k x r=some m->(r.foldlM (if mx then Builtin.max2 else Builtin.min2) (.int k x)).run P w=.ok (.int k m) w:=by
 intro r
 induction r with
 |nil=>
  intro x m h;simp[sn]at h
  simp_all
 |cons y r ih=>
  intro x m h
  cases y with
  |int k' b=>
   simp only[sn]at h;split at h
   ·rename_i hk;have:=ih _ _ h
    cases mx with
    |true=>
     simpa[Builtin.max2]using this
    |false=>
     simpa[Builtin.min2]using this
   ·simp at h
  |_=>simp[sn]at h
theorem KN(hI:Inv M σ [] [] a.tmps w G){d:Nat}(hd:o.dst=some d)(hN:M.ok d){mx:Bool}{l:List Opd}{args:Array Operand}{Vu:Array TypeId}(hc:args.toList.map bK=l.map some)(ho:o.op=.call { callee:=.builtin (if mx then .max else .min),args:=args,argTypes:=Vu })
 (hr:(ev1 d (.mm mx l)).run σ=some ((),σ')):jB P M σ' a o w:=by
 simp only[ev1]at hr;obtain⟨r,σ1,h1,h2⟩:=bG hr
 obtain⟨rfl,e2,e3⟩:=Hh (R:=λy x'=>y=a.eval x') (λx x' y σ' hx hy=>by
  obtain⟨t,σ2,q1,q2⟩:=bG hy;obtain⟨rfl,ht⟩:=cr hI.tmr hx q1;obtain⟨rfl,rfl⟩:=mi q2
  exact⟨rfl,(ht.v_inv).1.symm⟩) hc h1
 have V8:args.toList.map a.eval=r:=by
  apply List.ext_getElem
  ·simp[e2]
  ·intro k hk YI;have:=e3 k YI (by simpa using hk);simpa using this.symm
 split at h2
 case h_2=>simp[SP.run]at h2
 rename_i k x rest;obtain⟨m,σ2,h3,h4⟩:=bG h2;obtain⟨hm,rfl⟩:=mr h3;refine fG hI hd hN (x:=.int k m) (.v rfl) h4 ?_;have hf:=EQ (P:=P) (w:=w) mx k rest x m hm
 have ha:(args.map a.eval).toList=.int k x::rest:=by rw[Array.toList_map];exact V8
 cases mx with
 |true=>
  simp only[if_true]at hf ho;simp[execOp,ho,resolve,invoke,builtin,Builtin.max_,V8,hf]
 |false=>
  simp only[Bool.false_eq_true,if_false]at hf ho;simp[execOp,ho,resolve,invoke,builtin,Builtin.min_,V8,hf]
theorem Jm(hI:Inv M σ [] [] a.tmps w G){d:Nat}(hd:o.dst=some d)(hN:M.ok d){x i:Opd}{x' i':Operand}{t e n sz:Nat}(hx:bK x'=some x)(hi:bK i'=some i)(ho:o.op=.indexAddr t x' i')
 (hu:P.underlying t=some (.array n e))(hs:(P.info? e).map (·.size)=some sz)(hr:(ev1 d (.idxa n sz x i)).run σ=some ((),σ')):jB P M σ' a o w:=by
 have Y6:(sizeOf e).run P w=.ok sz w:=by
  unfold sizeOf typeInfo
  cases hi:P.info? e with
  |none=>simp[hi]at hs
  |some i=>simp[hi]at hs;simp[hi,hs]
 simp only[ev1]at hr;obtain⟨tx,σ1,h1,h2⟩:=bG hr;obtain⟨rfl,Z2⟩:=cr hI.tmr hx h1;obtain⟨ti,σ2,h3,h4⟩:=bG h2;obtain⟨rfl,VH⟩:=cr hI.tmr hi h3;obtain⟨k,σ3,h5,h6⟩:=bG h4;obtain⟨ik,m,rfl,Xp,hk,rfl⟩:=ja h5;obtain⟨ei,_⟩:=VH.v_inv
 cases tx with
 |ptr p vs=>
  simp only at h6;obtain⟨_,σ2,h7,h8⟩:=bG h6;have e1:σ2=σ3:=(bU h7).1;have e2:=(bU h7).2;subst e1;split at h8
  case isFalse=>simp[SP.run]at h8
  rename_i hc;simp only[oBA,oDE]at hc;obtain⟨RB,Zl⟩:=hc;generalize hz:a.eval x'=z at Z2
  cases Z2 with
  |ptr V0 h0 hv h=>
   obtain⟨Z8,ad,t0,ha,rfl,VF⟩:=h e2
   have Qh:m<(n:Int):=by omega
   refine fG hI hd hN (x:=.pointer (some (ad.add (k*sz)))) ?_ h8 (by subst hk;simp[execOp,ho,hz,ei,Instr.indexAt,asIntOf,Instr.sureAddr,run_underlying hu,Xp,Qh,Y6]);refine .ptr V0 h0 (by rw[CI];exact hv) λ_=>⟨by rw[dh];exact Z8,⟨ad.block,ad.off+k*sz,none⟩,?_⟩;have Zn:=jz ha
   have X4:ad.add (k*sz)=⟨ad.block,ad.off+k*sz,none⟩:=by
    obtain⟨b,ob,sp⟩:=ad;simp only at Zn;subst Zn;exact cY b ob (k*sz)
   rcases p.add_cases (k*sz)with⟨q1,q2⟩|⟨hs',i,sz',o',q1,q2⟩
   ·exact⟨b5 M σ2 [] p.root (p.off+k*sz),lu _ ha,by rw[X4],by rw[q2];rfl⟩
   ·have hlt:o'+k*sz<sz':=by
     unfold bS.fits at Zl;rw[q1]at Zl;simpa using Zl
    rw[q1]at VF;obtain⟨t',YS⟩:=Dy VF hlt;exact⟨t',lu _ ha,by rw[X4],by rw[q2];exact YS⟩
 |_=>simp[SP.run]at h6
theorem Lz(hI:Inv M σ [] [] a.tmps w G){d:Nat}(hd:o.dst=some d)(hN:M.ok d){x:Opd}{x':Operand}{s t e:TypeId}(hx:bK x'=some x)(ho:o.op=.convert s t x')(hs:P.underlying s=some .string)(ht:P.underlying t=some (.slice e))(he:P.underlying e=some (.int .u8))
 (hr:(ev1 d (.s2b x)).run σ=some ((),σ')):jB P M σ' a o w:=by
 simp only[ev1]at hr;obtain⟨tx,σ1,h1,h2⟩:=bG hr;obtain⟨rfl,Z2⟩:=cr hI.tmr hx h1
 cases tx with
 |v y=>
  obtain⟨ex,_⟩:=Z2.v_inv
  cases y with
  |string str=>
   simp only at h2;split at h2
   case isFalse=>simp[SP.run]at h2
   rename_i hsz;obtain⟨n,hn⟩:∃n,n=w.tape w.drawn (.appendCap str.size 0 e):=⟨_,rfl⟩;obtain⟨cap,hcap⟩:∃cap,cap=str.size+n%(2 ^ 63-str.size):=⟨_,rfl⟩
   have PZ:str.size<=cap:=by omega
   have Wh:cap<=maxLen:=by
    have:n%(2 ^ 63-str.size)<2 ^ 63-str.size:=Nat.mod_lt _ (by omega);show cap<=2 ^ 63-1;omega
   obtain⟨row,hrow⟩:∃row:Array Value,row=(str.data.map λb=>Value.int .u8 b.toNat)++Array.replicate (cap-str.size) (.int .u8 0):=⟨_,rfl⟩;obtain⟨w1,WA⟩:∃w1,w1=w.drew.alloc (.cells row e):=⟨_,rfl⟩
   have YM:w1.heap=w.heap.push (.cells row e):=by rw[WA];rfl
   have hsh:w1.shape? w.heap.size=some (e,row.size):=by
    unfold World.shape?;rw[YM];simp
   have hrun:(execOp a.eval o).run P w=.ok (.value (.slice (some ⟨w.heap.size,0,none⟩) str.size cap)) (w1.freeze ⟨w.heap.size,row.size,none⟩ 1):=by
    simp only[execOp,ho,ex,convert,Sem.run_bind,run_underlying hs,run_underlying ht,run_underlying he,Result.andThen_ok,Conv.stringToBytes,run_choose_drew,Question.forced,Bool.false_eq_true,if_false,Question.cut,newRow,run_newObj_alloc,Sem.run_pure];rw[<- hn,<- hcap,<- hrow];simp only[show w.drew.heap.size=w.heap.size from rfl,<- WA,markStringish,Sem.run_bind,run_shape,Result.andThen_ok,hsh,run_freeze,Sem.run_pure]
   have ZA:∀k,k<w.heap.size->(w1.freeze ⟨w.heap.size,row.size,none⟩ 1).heap[k]?=w.heap[k]?:=by
    intro k hk;unfold World.freeze;rw[oIN (by decide)];simp only;rw[Array.getElem?_modify];rw[oIN (by omega),YM];simp[Array.getElem?_push,show k≠w.heap.size by omega]
   have ZD:∃fz,(w1.freeze ⟨w.heap.size,row.size,none⟩ 1).heap[w.heap.size]?=some (.cells row e fz):=by
    unfold World.freeze;rw[oIN (by decide)];simp only;rw[Array.getElem?_modify,oIP rfl,YM];exact⟨_,by simp only[Array.getElem?_push_size,oMS];rfl⟩
   obtain⟨fz,ZD⟩:=ZD;obtain⟨Z3,_⟩:=hI.grow (w':=w1.freeze ⟨w.heap.size,row.size,none⟩ 1) ZA (by unfold World.freeze;rw[oIN (by decide)];simp[YM]) (by rw[WA];rfl) (by rw[WA];rfl) (by rw[WA];rfl);simp only[wr,SP.run,oSJ,oPJ,true_and]at h2;subst h2;refine⟨_,_,_,G,hrun,.inl rfl,?_⟩;rw[hd]
   have SW:(om str).length=str.size:=by unfold om;rw[List.length_map,Array.length_toList];rfl
   refine Z3.wrT hN (.sl ?_)
   have WX:io (w1.freeze ⟨w.heap.size,row.size,none⟩ 1) (G.F M.A) (.sl (om str)) (.slice (some ⟨w.heap.size,0,none⟩) (om str).length cap):=by
    refine .sl 1 (λi _=>.int .u8 (str.data.getD i 0).toNat) (λi h=>by simp[om]) (by omega) Wh (λh=>by simp at h) (λi j hi hj=>⟨w.heap.size,0,rfl,?_,?_⟩) λi j h h'=>?_
    ·exact⟨M.hA _ hI.fram.size,λr o h=>Nat.lt_irrefl _ (hI.core.live h),λr b o n hb e=>Nat.lt_irrefl _ (e▸hI.core.boxlt hb)⟩
    ·have Vc:j=0:=by omega
     subst Vc;rw[cell_of_row _ _ _ _ _ _ ZD]
     have ZT:i<str.data.size:=by rw[SW]at hi;exact hi
     have hg:str.data[i]?=some str.data[i]:=Array.getElem?_eq_getElem ZT;rw[hrow];simp[Array.getElem?_append,show i<str.size from ZT,Array.getD_eq_getD_getElem?,hg]
    ·have Vc:j=0:=by simp[om]at h';omega
     subst Vc
     have ZT:i<str.data.size:=by rw[SW]at h;exact h
     have:(om str)[i][0]=.v (.int .u8 (str.data.getD i 0).toNat):=by
      have hg:str.data[i]?=some str.data[i]:=Array.getElem?_eq_getElem ZT;simp[om,Array.getD_eq_getD_getElem?,hg]
     rw[this];exact .v rfl
   rw[SW]at WX;exact WX
  |_=>simp[SP.run]at h2
 |_=>simp[SP.run]at h2
theorem Iw{c:List (List TV)}:∀{ns:List Int},wa c=some ns->ns.length=c.length/\∀i (h:i<c.length)(h':i<ns.length),c[i]=[.v (.int .u8 ns[i])]:=by
 induction c with
 |nil=>intro ns h;simp only[wa,oSJ]at h;subst h;exact⟨rfl,λi h=>by simp at h⟩
 |cons e c ih=>
  intro ns h;unfold wa at h;split at h
  ·simp_all
  ·rename_i n r h1
   injection h1 with h1 h2
   subst h1;subst h2
   cases hb:wa c with
   |none=>simp_all
   |some l=>
    simp[hb]at h;subst h;obtain⟨e1,e2⟩:=ih hb;refine⟨by simp[e1],λi hi ZT=>?_⟩
    cases i with
    |zero=>rfl
    |succ i=>simp_all
  ·simp at h
theorem LU(hI:Inv M σ [] [] a.tmps w G){d:Nat}(hd:o.dst=some d)(hN:M.ok d){x:Opd}{x':Operand}{s t e:TypeId}(hx:bK x'=some x)(ho:o.op=.convert s t x')(hs:P.underlying s=some (.slice e))(ht:P.underlying t=some .string)(he:P.underlying e=some (.int .u8))
 (hr:(ev1 d (.b2s x)).run σ=some ((),σ')):jB P M σ' a o w:=by
 simp only[ev1]at hr;obtain⟨tx,σ1,h1,h2⟩:=bG hr;obtain⟨rfl,Z2⟩:=cr hI.tmr hx h1;obtain⟨t',σ2,h3,h4⟩:=bG h2;obtain⟨G1,ZB,_⟩:=fK hI Z2 h3;simp only[List.nil_append]at ZB;obtain⟨G2,ZL,_⟩:=ZB.1.drop
 have fin:∀str ad len cap,a.eval x'=.slice ad len cap->(Conv.bytesToString (.slice ad len cap)).run P w=.ok (.string str) w->(wr d (.v (.string str))).run σ2=some ((),σ')->jB P M σ' a o w:=by
  intro str ad len cap ex hrun hw;refine fG ZL.1 hd hN (x:=.string str) (.v rfl) hw ?_;simp only[execOp,ho,Sem.run_bind,ex]
  have:(convert s t (.slice ad len cap)).run P w=.ok (.string str) w:=by
   unfold convert;simp only[Sem.run_bind,run_underlying hs,run_underlying ht,run_underlying he,Result.andThen_ok];exact hrun
  rw[this];rfl
 have hown:=λh=>ZB.1.hand_own (j:=0) (by simp) h;simp only[List.getElem_cons_zero,List.getD_cons_zero]at hown;split at h4
 ·rename_i c;obtain⟨str,σ3,h5,h6⟩:=bG h4;obtain⟨hb,rfl⟩:=mr h5;have hown:=hown (by simp);generalize hz:a.eval x'=z at hown
  cases hown with
  |sl hfp h=>
   cases h with
   | @sl _ ad cap sz u hsz hcap hmax hnil hcell hrec=>
    unfold bstr at hb
    cases hbn:wa c with
    |none=>simp[hbn]at hb
    |some ns=>
     simp only[hbn,oMS,oSJ]at hb;obtain⟨hl,Z6⟩:=Iw hbn;refine fin str _ _ _ hz ?_ h6
     cases ad with
     |none=>
      have Rd:c.length=0:=by have:=hnil rfl;omega
      have hns:ns=[]:=oEN (by omega);subst hns;rw[<- hb];rfl
     |some ad=>
      rw[<- hb];refine run_bytesToString w ad c.length cap ns ?_
      have:=run_loadCells_list (P:=P) w ad (ns.map (Value.int .u8)) λj v hj=>by
       have hjl:j<ns.length:=by
        rcases Nat.lt_or_ge j ns.length with h|h
        ·exact h
        ·rw[oGN (by simpa using h)]at hj;simp at hj
       have Wo:j<c.length:=by omega
       have e1:=Z6 j Wo hjl
       have YR:sz=1:=by rw[<- hsz j Wo,e1];rfl
       subst YR;obtain⟨b,o',hab,hF,Zi⟩:=hcell j 0 Wo (by omega)
       injection hab with hab
       subst hab;have hr:=hrec j 0 Wo (by rw[e1];simp)
       have e2:c[j][0]'(by rw[e1];simp)=.v (.int .u8 ns[j]):=by simp[e1]
       rw[e2]at hr
       have hu:u j 0=.int .u8 ns[j]:=by
        generalize u j 0=y at hr;cases hr;rfl
       have hv:v=.int .u8 ns[j]:=by simpa[hjl]using hj.symm
       rw[hv,<- hu,cY];simpa using Zi
      simpa[hl]using this
 ·have hown:=hown (by simp);generalize hz:a.eval x'=z at hown
  cases hown with
  | @nil _ ad hfp=>
   refine fin .empty _ _ _ hz ?_ h4
   cases ad with
   |none=>rfl
   |some ad=>
    have:=run_bytesToString (P:=P) w ad 0 0 [] (by simp[loadCells,loadCellsFrom]);simpa using this
  | @ow _ _ b cap cur e' sz' u f hfp hb hsz hcap hz0 hmax hcur hcell hrec hnb hdis=>
   refine fin .empty _ _ _ hz ?_ h4;have:=run_bytesToString (P:=P) w ⟨b,0,none⟩ 0 cap [] (by simp[loadCells,loadCellsFrom]);simpa using this
 ·simp[SP.run]at h4
theorem Jr(hI:Inv M σ [] [] a.tmps w G){d:Nat}{mv:Bool}(hd:o.dst=some d)(hN:M.ok d){t e n sz:TypeId}{parts:Array (Nat×Operand)}{ps:List (Nat×Nat×Opd)}{z:List Value}(ho:o.op=.build t parts)(hu:P.underlying t=some (.array n e))
 (hz:(P.info? t).bind (·.zero.map (·.cells.toList))=some z)(hs:(P.info? e).map (·.size)=some sz)(hp1:parts.size=ps.length)
 (hp2:∀k (h:k<parts.size)(h':k<ps.length),bK parts[k].2=some ps[k].2.2/\ps[k].1=parts[k].1*sz/\ps[k].2.1=sz/\ps[k].1+ps[k].2.1<=z.length)
 (hr:(ev1 d (.bld z mv ps)).run σ=some ((),σ')):jB P M σ' a o w:=by
 simp only[ev1]at hr;split at hr
 case isFalse=>simp[SP.run]at hr
 rename_i hok;obtain⟨l,σ1,h1,h2⟩:=bG hr;obtain⟨l',σ2,h3,h4⟩:=bG h2
 obtain⟨G1,g1,UQ,XX⟩:=nw (a:=a) (pv:=parts.toList.map (·.2)) hI (by
  apply List.ext_getElem
  ·simp[hp1]
  ·intro k hk YI;have:=(hp2 k (by simpa using hk) (by simpa using YI)).1
   simpa using this) h1
 simp only[List.nil_append]at g1;obtain⟨G2,Z3,_,hl2,Yr⟩:=qg (λ_=>hN.2) g1.1 UQ h3;obtain⟨ys,V3⟩:∃ys,ys=(parts.toList.map (·.2)).flatMap (λx=>(a.eval x).cells.toList):=⟨_,rfl⟩;rw[<- V3]at g1 Yr
 have hlen:l'.length=ys.length:=by rw[hl2];exact g1.1.hand
 have XE:∀j (h:j<(z.map cf).length)(h':j<z.length),TmR w (G2.F M.A) σ2.v (b5 M σ2 []) G2 (z.map cf)[j] z[j]:=λj h h'=>by simp only[List.getElem_map];exact qd _
 obtain⟨r1,r2⟩:=mR (R:=TmR w (G2.F M.A) σ2.v (b5 M σ2 []) G2) ps l' ys (z.map cf) z (by simp) XE hlen (λj h h'=>by have:=Yr j h;simpa[h']using this);refine fG Z3 hd hN (x:=.agg (kH z ps ys).toArray) (.agg (by simp[r1]) λj hj=>by have:=r2 j hj (by omega);simpa[show j<(kH z ps ys).length by omega]using this) h4 ?_
 cases hi:P.info? t with
 |none=>simp[hi]at hz
 |some i=>
  simp only[hi,oBS]at hz
  cases hiz:i.zero with
  |none=>simp[hiz]at hz
  |some v=>
   simp only[hiz,oMS,oSJ]at hz
   have V9:(zeroValue t).run P w=.ok v w:=by simp[zeroValue,typeInfo,hi,hiz]
   have Y6:(sizeOf e).run P w=.ok sz w:=by
    unfold sizeOf typeInfo
    cases hi:P.info? e with
    |none=>simp[hi]at hs
    |some i=>simp[hi]at hs;simp[hi,hs]
   have YH:=uI (place:=λi=>some (i*sz,sz)) (parts.toList.map λp=>(p.1,a.eval p.2)) ps v.cells (by simp[hp1]) (λk h h'=>by
    have hk:k<parts.size:=by simpa using h
    obtain⟨q1,q2,q3,q5⟩:=hp2 k hk h';have q4:=XX k h' (by simpa using hk);refine⟨by simp[q2,q3],by simpa using q4,?_⟩;rw[<- hz]at q5
    simpa using q5)
   have ZE:((parts.toList.map λp=>(p.1,a.eval p.2)).flatMap (·.2.cells.toList))=ys:=by rw[V3];simp[List.flatMap_map]
   rw[ZE,hz]at YH;simp only[execOp,ho,Instr.build,Sem.run_bind,V9,Result.andThen_ok,run_underlying hu,Y6,Array.toList_map];rw[YH];simp
end
theorem sa{α:Type}{l:List α}{i:Nat}{x:α}{f g:α->α}(h:l[i]?=some x)(e:f x=g x):l.modify i f=l.modify i g:=by
 apply List.ext_getElem?
 grind
theorem B4{hs:List Hop}{i sz j:Nat}{c:List (List TV)}{el:List TV}{t1:TV}:∀{t:TV},b7 t hs=some (.ow c)->c[i]?=some el->el.length=sz->el[j]?=some t1->b7 t (hs++[(i,sz,j)])=some t1:=by
 induction hs with
 |nil=>
  intro t h h1 h2 h3;simp[b7]at h;subst h;simp[b7,h1,h2,h3]
 |cons hp hs ih=>
  intro t h h1 h2 h3;obtain⟨c0,el0,t0,rfl,k1,k2,k3,k4⟩:=eB h;simp[b7]
  simp_all
theorem Bm{hs:List Hop}{i sz j:Nat}{c:List (List TV)}{x:TV}:∀{t:TV},b7 t hs=some (.ow c)->eE t (hs++[(i,sz,j)]) x=eE t hs (.ow (c.modify i λel=>el.modify j λ_=>x)):=by
 induction hs with
 |nil=>
  intro t h;simp[b7]at h;subst h;simp[eE]
 |cons hp hs ih=>
  intro t h;obtain⟨c0,el0,t0,rfl,k1,k2,k3,k4⟩:=eB h;simp only[List.cons_append,eE];congr 1;refine sa k1 (sa k3 (ih k4))
theorem Gq{hs:List Hop}{x y:TV}:∀{t:TV},eE (eE t hs y) hs x=eE t hs x:=by
 induction hs with
 |nil=>intro t;rfl
 |cons hp hs ih=>
  obtain⟨a,b,d⟩:=hp;intro t
  cases t with
  |ow c=>
   simp only[eE];congr 1;apply List.ext_getElem?;intro k;simp only[List.getElem?_modify];by_cases hk:a=k
   ·subst hk
    cases c[a]? with
    |none=>rfl
    |some el=>
     simp only[if_true,Option.map_eq_map,oMS];congr 1;apply List.ext_getElem?;intro k;simp only[List.getElem?_modify,Option.map_eq_map];by_cases hk:d=k
     ·subst hk
      cases el[d]? with
      |none=>rfl
      |some t1=>simp[ih]
     ·cases el[k]?<;>simp[hk]
   ·cases c[k]?<;>simp[hk]
  |_=>rfl
theorem rm{α:Type}(l:List (Nat×α))(i:Nat)(x y:α):dp (dp l i x) i y=dp l i y:=by
 induction l with
 |nil=>simp[dp]
 |cons h r ih=>
  have ⟨k,v⟩:=h;by_cases hk:k=i
  ·subst hk;simp[dp]
  ·simp[hk,dp,ih]
theorem AW{w:World}{hs:List Hop}{k sz n cap j:Nat}{ad:Addr}:∀{x:Value},hvT w x hs=some (.slice (some ad) n cap)->k<n->ct w x (hs++[(k,sz,j)])=some ⟨ad.block,ad.off+(k*sz+j),none⟩:=by
 induction hs with
 |nil=>
  intro x h hk;simp only[hvT,oSJ]at h;subst h;simp[ct,hk]
 |cons hp hs ih=>
  intro x h hk;simp only[hvT]at h
  cases x with
  |slice a l c=>
   cases a with
   |none=>cases hs<;>simp[ct]at h
   |some a=>
    obtain⟨hd,tl,XI⟩:∃hd tl,hs++[(k,sz,j)]=hd::tl:=by cases hs<;>exact⟨_,_,rfl⟩
    cases hs with
    |nil=>
     simp only[ct]at h;split at h
     ·rename_i hi;simp at h;simp only[List.cons_append,List.nil_append,ct,hi,if_true,h,hk]
     ·simp at h
    |cons hp2 YK=>
     simp only[ct]at h;split at h
     ·rename_i hi;split at h
      ·rename_i y hy;rw[List.cons_append,XI];simp[ct,hi,if_true,hy];rw[<- XI];exact ih (by simpa[hvT]using h) hk
      ·simp at h
     ·simp at h
  |_=>cases hs<;>simp[ct]at h
section
variable {P:Program} {M:Fm} {σ σ':St} {H:List TV} {xs:List Value} {ts:Array Value} {w:World} {G:Gh} {a:Act} {o:Oper}
def St.sub(σ:St)(p:bS)(l:List TV)(t:TV):St:=⟨σ.tm,dp σ.ce p.root (l.set p.off (eE (σ.c p.root p.off) p.hops t)),σ.vr⟩
theorem A3{p:bS}{l:List TV}{t:TV}(hl:p.off<l.length):(σ.sub p l t).c p.root p.off=eE (σ.c p.root p.off) p.hops t:=by
 simp[St.c,St.sub,cg];simp[hl]
theorem Jy(hI:Inv M σ [] [] ts w G){p:bS}{c:List (List TV)}{el:List TV}{b n cap i sz j:Nat}{old v:Value}(Z8:p.root≠1)(ZP:G.hv w p=some (.slice (some ⟨b,0,none⟩) n cap))(hg:b7 (σ.c p.root p.off) p.hops=some (.ow c))(hin:i<n)
 (hi:c[i]?=some el)(hl:el.length=sz)(hj:el[j]?=some (.v old))(hv:gc v=true){l:List TV}(hal:b9 σ.ce p.root=some l)(hol:p.off<l.length):
 ∃G',Inv M (σ.sub p l (.ow (c.modify i λel=>el.modify j λ_=>.v v))) [] [] ts (w.setCell ⟨b,i*sz+j,none⟩ v) G'/\(w.cell? ⟨b,i*sz+j,none⟩).isSome=true/\w.frozen? ⟨b,i*sz+j,none⟩=false/\G'.hv (w.setCell ⟨b,i*sz+j,none⟩ v) p=some (.slice (some ⟨b,0,none⟩) n cap):=by
 obtain⟨G1,ZB⟩:=hI.addHand (x:=v) (.v (λ_ h=>h) hv)
 have UF:b7 (b5 M σ [] p.root p.off) p.hops=some (.ow c):=by rw[bW (Z8)];exact hg
 obtain⟨c1,Wn,_,_⟩:=ZB.2.2.1.hdr p _ c Z8 rfl ZP UF
 obtain⟨hd,tl,XI⟩:∃hd tl,p.hops++[(i,sz,j)]=hd::tl:=by cases p.hops<;>exact⟨_,_,rfl⟩
 have Z5:G1.addrB w ⟨p.root,p.off,p.hops++[(i,sz,j)]⟩=some ⟨b,i*sz+j,none⟩:=by
  have:=AW (sz:=sz) (j:=j) Wn hin;unfold Gh.addrB
  simp_all
 have P4:=B4 hg hi hl hj
 have Rr:b7 (b5 M σ [.v v] p.root p.off) (p.hops++[(i,sz,j)])=some (.v old):=by rw[bW (Z8)];exact P4
 have hrun:(sK ⟨p.root,p.off,p.hops++[(i,sz,j)]⟩ (.v v)).run σ=some ((),σ.sub p l (.ow (c.modify i λel=>el.modify j λ_=>.v v))):=by
  simp only[sK,SP.run,P4,lG,Bool.or_self,Bool.false_eq_true,if_false,hal,hol,if_true];rw[Bm hg];rfl
 obtain⟨⟨u,hu⟩,Xm,G2,Z3,hm,Zv,hβ⟩:=ZB.1.put (p:=⟨p.root,p.off,p.hops++[(i,sz,j)]⟩) (j:=0) Z8 Z5 Rr (by simp) (by simp) (by simpa using hrun)
 have Yl:=Z3.clear (by intro k hk;have:k=0:=by simp at hk;omega
                       simp)
 have Rq:b7 (b5 M σ [.v v] p.root p.off) p.hops=some (.ow c):=by rw[bW (Z8)];exact hg
 obtain⟨c2,Y3,_,_⟩:=hm.keeps.hdr p _ c Z8 rfl Wn Rq;exact⟨G2,Yl,by simp_all,Xm,Y3⟩
theorem s8{c:List (List TV)}{i j i' j':Nat}{x:TV}{el:List TV}{y:TV}(h:c[i']?=some el)(hy:el[j']?=some y)(hne:¬(i'=i/\j'=j)):
 ∃Wa,(c.modify i λel=>el.modify j λ_=>x)[i']?=some Wa/\Wa[j']?=some y:=by
 by_cases hi:i=i'
 ·subst hi
  have hj:¬j=j':=by omega
  simp_all
 ·simp_all
theorem JF{p:bS}{b n cap sz:Nat}(Z8:p.root≠1)(hsz:0<sz):∀(vals:List Value)(c:List (List TV))(o:Nat)(σ:St)(w:World)(G:Gh)(l:List TV),vals≠[]->Inv M σ [] [] ts w G->G.hv w p=some (.slice (some ⟨b,0,none⟩) n cap)->b7 (σ.c p.root p.off) p.hops=some (.ow c)->n=c.length ->
 (∀el∈c,el.length=sz)->(∀v∈vals,gc v=true)->(∀t,o<=t->t<o+vals.length->∃el y,c[t/sz]?=some el/\el[t%sz]?=some (.v y))->b9 σ.ce p.root=some l->p.off<l.length ->
 (∃G',Inv M (σ.sub p l (.ow (lS sz c o vals))) [] [] ts (w.setCells b o vals) G')/\∀j,j<vals.length->(w.cell? ⟨b,o+j,none⟩).isSome=true/\w.frozen? ⟨b,o+j,none⟩=false:=by
 intro vals
 induction vals with
 |nil=>intro c o σ w G l h;exact absurd rfl h
 |cons v vals ih=>
  intro c o σ w G l _ hI ZP hg hn hlen Qy ZE hal hol;obtain⟨el,y,h1,h2⟩:=ZE o (Nat.le_refl _) (by simp);have Zd:el.length=sz:=hlen el (List.mem_of_getElem? h1)
  have hio:o/sz<n:=by rw[hn];exact(oGS h1).1
  have ho:o/sz*sz+o%sz=o:=by rw[Nat.mul_comm];exact Nat.div_add_mod o sz
  obtain⟨G1,hI1,YR,Rk,Wn⟩:=Jy hI Z8 ZP hg hio h1 Zd h2 (Qy v (by simp)) hal hol;rw[ho]at hI1 YR Rk Wn
  cases vals with
  |nil=>
   refine⟨⟨G1,hI1⟩,λj hj=>?_⟩
   obtain rfl:j=0:=by simp at hj;omega
   exact⟨YR,Rk⟩
  |cons v2 vals=>
   obtain⟨c1,Zg⟩:∃c1,c1=c.modify (o/sz) λel=>el.modify (o%sz) λ_=>.v v:=⟨_,rfl⟩;rw[<- Zg]at hI1;obtain⟨l1,Wp⟩:∃l1,l1=l.set p.off (eE (σ.c p.root p.off) p.hops (.ow c1)):=⟨_,rfl⟩;have Qr:(σ.sub p l (.ow c1)).c p.root p.off=eE (σ.c p.root p.off) p.hops (.ow c1):=A3 hol
   obtain⟨⟨G2,Z3⟩,Zp⟩:=ih c1 (o+1) (σ.sub p l (.ow c1)) _ G1 l1 (by simp) hI1 Wn (by rw[Qr];exact vT hg) (by rw[hn,Zg];simp) (λWa UE=>by
    have hml:=lz c (o/sz) (o%sz) (λ_=>.v v);have:Wa.length∈c1.map List.length:=List.mem_map_of_mem UE;rw[Zg,hml]at this;obtain⟨e3,e4,e5⟩:=List.mem_map.1 this
    rw[<- e5];exact hlen e3 e4) (λx hx=>Qy x (by simp at hx⊢;exact .inr hx)) (λt VV Yr=>by
    obtain⟨Wa,y',q1,q2⟩:=ZE t (by omega) (by simp at Yr⊢;omega)
    obtain⟨QT,q3,q4⟩:=s8 (x:=.v v) q1 q2 (i:=o/sz) (j:=o%sz) (by
     rintro⟨e1,e2⟩;have h3:=Nat.div_add_mod t sz;have h4:=Nat.div_add_mod o sz;rw[e1,e2]at h3
     omega)
    exact⟨QT,y',by rw[Zg];exact q3,q4⟩) (by simp[St.sub,cg,Wp]) (by rw[Wp];simpa using hol)
   refine⟨⟨G2,?_⟩,λj hj=>?_⟩
   ·have e:(σ.sub p l (.ow c1)).sub p l1 (.ow (lS sz c1 (o+1) (v2::vals)))=σ.sub p l (.ow (lS sz c o (v::v2::vals))):=by
     unfold St.sub;have RV:(St.c ⟨σ.tm,dp σ.ce p.root (l.set p.off (eE (σ.c p.root p.off) p.hops (.ow c1))),σ.vr⟩ p.root p.off)=eE (σ.c p.root p.off) p.hops (.ow c1):=Qr;rw[RV,Gq,rm,Wp,List.set_set];simp only[lS,<- Zg]
    rw[e]at Z3;exact Z3
   ·cases j with
    |zero=>exact⟨YR,Rk⟩
    |succ j=>
     have:=Zp j (by simpa using hj);rw[show o+1+j=o+(j+1) by omega,World.frozen?_setCell]at this;refine⟨?_,this.2⟩
     have hne:(⟨b,o,none⟩:Addr)≠⟨b,o+(j+1),none⟩:=λe=>by have:=congrArg Addr.off e;simp at this
     rw[World.cell?_setCell_other w _ _ _ hne]at this;exact this.1
theorem Am:∀{l:List TV}{vs:List Value},co l=some vs->vs.length=l.length/\∀j (h:j<l.length)(h':j<vs.length),l[j]=.v vs[j]:=by
 intro l
 induction l with
 |nil=>intro vs h;simp[co]at h;subst h;exact⟨rfl,λj h=>by simp at h⟩
 |cons t l ih=>
  intro vs h
  cases t with
  |v x=>
   simp[co]at h
   cases hl:co l with
   |none=>simp_all
   |some r=>
    simp[hl]at h;subst h;have ⟨e1,e2⟩:=ih hl;refine⟨by simp[e1],λj hj ZY=>?_⟩
    cases j with
    |zero=>rfl
    |succ j=>simp_all
  |_=>simp[co]at h
theorem za{c:List (List TV)}{sz m:Nat}(hs:∀i (h:i<c.length),c[i].length=sz)(hm:m<=c.length):(c.take m).flatten.length=m*sz:=by
 rw[uD (sz:=sz) λi h=>by simp_all];simp[hm]
theorem rB{F fp:Nat->Prop}{t:TV}{v x:Value}{c c2:List (List TV)}{sz lo n cap:Nat}{ad:Option Addr}(h:fa w F fp t v)(ht:t=.ow c\/t=.sl c)(hs:∀i (h:i<c.length),c[i].length=sz)(Z4:0<sz)(Zp:c2=(c.drop lo).take n)(X2:lo+n<=c.length)
 (hx:x=.slice ad n cap)(Zf:0<n->∃b o len Z1,v=.slice (some ⟨b,o,none⟩) len Z1/\ad=some ⟨b,o+lo*sz,none⟩)(Ts:ad=none->n=0){m:Nat}{vs:List Value}(hm:m<=c2.length)(hf:co (c2.take m).flatten=some vs):(Builtin.firstCells sz m x).run P w=.ok vs.toArray w:=by
 subst hx
 have Re:c2.length=n:=by rw[Zp];simp;omega
 have YK:∀i (h:i<c2.length),c2[i].length=sz:=λi h=>by
  subst Zp;simp only[List.getElem_take,List.getElem_drop];exact hs _ (by simp at h;omega)
 obtain⟨e1,e2⟩:=Am hf;have ZE:=za YK hm
 cases ad with
 |none=>
  have hn:=Ts rfl
  have UK:m=0:=by omega
  subst UK;have:vs=[]:=oEN (by rw[e1,ZE];omega);subst this;rfl
 |some ad=>
  show(loadCells ad (m*sz)).run P w=_;obtain⟨a,capX,vals,f,rfl,YX,ZV,hrec,_⟩:=h.rows ht hs
  have UX:vs.length=m*sz:=by rw[e1,ZE]
  have:=run_loadCells_list (P:=P) w ad vs λj y hj=>by
   have hjl:j<vs.length:=by
    rcases Nat.lt_or_ge j vs.length with h|h
    ·exact h
    ·rw[oGN h]at hj;simp at hj
   have Rw:j<m*sz:=by omega
   have hq:j/sz<m:=(Nat.div_lt_iff_lt_mul Z4).2 Rw;have hr:j%sz<sz:=Nat.mod_lt _ Z4
   have Qp:j/sz<c2.length:=by omega
   have Xo:lo+j/sz<c.length:=by omega
   have VR:j%sz<(c[lo+j/sz]).length:=by rw[hs _ Xo];exact hr
   have YZ:(lo+j/sz)*sz+j%sz=lo*sz+j:=by
    rw[Nat.add_mul];have:=Nat.div_add_mod j sz;rw[Nat.mul_comm]at this;omega
   have hown:=hrec (lo+j/sz) (j%sz) Xo VR;rw[YZ]at hown
   have Zd:c[lo+j/sz][j%sz]=.v y:=by
    have h1:=e2 j (by rw[ZE];exact Rw) hjl;have h2:=mE (c:=c2.take m) (sz:=sz) (λi h=>by simpa using YK i (by simp at h;omega)) (i:=j/sz) (j:=j%sz) (by simp;omega) (by rw[List.getElem_take,YK _ Qp];exact hr);rw[show j/sz*sz+j%sz=j by rw[Nat.mul_comm];exact Nat.div_add_mod j sz,oGE (by rw[ZE];exact Rw),h1]at h2
    injection h2 with h2
    have h3:(c2.take m)[j/sz]'(by simp;omega)=c[lo+j/sz]:=by
     subst Zp;simp
    have hy:vs[j]=y:=by simpa[hjl]using hj
    rw[<- hy,h2];simp only[h3]
   rw[Zd]at hown
   have WO:vals.getD (lo*sz+j) undef=y:=by
    cases hown with
    |v hfp ZE=>rfl
   have hlt:lo*sz+j<vals.length:=by
    rw[YX]
    have:(lo+j/sz)*sz+sz<=c.length*sz:=by
     have:(lo+j/sz+1)*sz<=c.length*sz:=Nat.mul_le_mul_right _ Xo;rw[Nat.add_mul,Nat.one_mul]at this;exact this
    omega
   obtain⟨b,o,hab,Zi⟩:=ZV (lo*sz+j) y (by rw[oGE hlt];rw[oGD,oGE hlt]at WO;simpa using WO);obtain⟨b',o',len,Z1,YL,Uw⟩:=Zf (by rw[<- Re];exact Nat.lt_of_le_of_lt (Nat.zero_le _) Qp)
   injection YL with YL _ _
   rw[YL]at hab
   injection hab with hab
   injection hab with hb ho _
   subst hb;subst ho
   injection Uw with Uw
   rw[Uw,cY,show o'+lo*sz+j=o'+(lo*sz+j) by omega];exact Zi
  rw[UX]at this;exact this
theorem EY(hI:Inv M σ [] [] ts w G){u:TV}{v:Value}(hu:TmR w (G.F M.A) σ.v (b5 M σ []) G u v){c2:List (List TV)}(hr:(contentOf u).run σ=some (c2,σ')):σ'=σ/\∀sz,0<sz->(∀i (h:i<c2.length),c2[i].length=sz)->
 ∃ad cap,v=.slice ad c2.length cap/\∀m vs,m<=c2.length->co (c2.take m).flatten=some vs->(Builtin.firstCells sz m v).run P w=.ok vs.toArray w:=by
 cases u with
 |sl c=>
  simp only[contentOf,SP.run,oSJ,oPJ]at hr;obtain⟨rfl,rfl⟩:=hr;refine⟨rfl,λsz Z4 hs=>?_⟩
  cases hu with
  |sl h=>
   have hown:fa w (G.F M.A) (λ_=>False) (.sl c) v:=.sl (λ_ h=>h) h;obtain⟨ad,cap,hv,_⟩:=h.hdr;refine⟨ad,cap,hv,λm vs hm hf=>rB (lo:=0) (n:=c.length) hown (.inr rfl) hs Z4 (by simp) (by simp) hv (λhn=>?_) (λhe=>?_) hm hf⟩
   ·cases h with
    | @sl _ a cap sz' u hsz hcap hmax hnil hcell hrec=>
     have e:sz'=sz:=by rw[<- hsz 0 hn,hs 0 hn]
     subst e;obtain⟨b,o,ha,_,_⟩:=hcell 0 0 hn Z4
     injection hv with hv _ _
     exact⟨b,o,_,_,by rw[ha],by rw[<- hv,ha];simp⟩
   ·cases h with
    | @sl _ a cap sz' u hsz hcap hmax hnil hcell hrec=>
     injection hv with hv _ _
     rw[hv]at hnil;have:=hnil he;omega
 |ow c=>
  cases hu with
  | @nil ad=>
   simp only[contentOf,SP.run,oSJ,oPJ]at hr;obtain⟨rfl,rfl⟩:=hr;refine⟨rfl,λsz Z4 hs=>⟨ad,0,rfl,λm vs hm hf=>?_⟩⟩
   have UK:m=0:=by simpa using hm
   subst UK;simp only[List.take_zero,List.flatten_nil,co,oSJ]at hf;subst hf;cases ad<;>simp[Builtin.firstCells,loadCells,loadCellsFrom]
 |pk p vs=>
  simp only[contentOf]at hr;obtain⟨_,σ1,h1,h2⟩:=bG hr;have e1:σ1=σ:=(bU h1).1;have e2:=(bU h1).2;subst e1;obtain⟨tt,σ2,h3,h4⟩:=bG h2;obtain⟨e3,hg⟩:=cX h3;have e3:σ2=σ1:=e3;subst e3
  cases hu with
  |pk V0 h0 hv h=>
   obtain⟨Z8,c,ZP,ZN⟩:=h e2
   have ZQ:b7 (σ2.c p.root p.off) p.hops=some (.ow c):=by rw[bW (by exact Z8)]at ZN;exact ZN
   rw[ZQ]at hg
   injection hg with hg
   subst hg;simp only[SP.run,oSJ,oPJ]at h4;obtain⟨rfl,rfl⟩:=h4;refine⟨rfl,λsz Z4 hs=>?_⟩;obtain⟨fp,hown⟩:=nI hI ZP ZN;obtain⟨ad,cap,YL,_⟩:=hown.hdr;refine⟨ad,cap,YL,λm vs hm hf=>rB (lo:=0) (n:=c.length) hown (.inl rfl) hs Z4 (by simp) (by simp) YL (λhn=>?_) (λhe=>?_) hm hf⟩
   ·cases hown with
    |nil=>simp at hn
    | @ow _ _ b cap cur e' sz' u f hfp hb hsz hcap hz0 hmax hcur hcell hrec hnb hdis=>
     injection YL with YL _ _
     exact⟨b,0,_,_,rfl,by rw[<- YL];simp⟩
   ·cases hown with
    |nil=>rfl
    | @ow _ _ b cap cur e' sz' u f hfp hb hsz hcap hz0 hmax hcur hcell hrec hnb hdis=>
     injection YL with YL _ _
     rw[he]at YL;simp at YL
 |pw p vs Za lo n=>
  simp only[contentOf]at hr;obtain⟨_,σ1,h1,h2⟩:=bG hr;have e1:σ1=σ:=(bU h1).1;have e2:=(bU h1).2;subst e1;obtain⟨tt,σ2,h3,h4⟩:=bG h2;obtain⟨e3,hg⟩:=cX h3;have e3:σ2=σ1:=e3;subst e3
  cases hu with
  |pw V0 h0 hv h=>
   obtain⟨Z8,c,hd,ZP,ZN,X2,a,cap,hx,XL,XK,hnil,X9,Zf⟩:=h e2
   have ZQ:b7 (σ2.c p.root p.off) p.hops=some (.ow c):=by rw[bW (by exact Z8)]at ZN;exact ZN
   rw[ZQ]at hg
   injection hg with hg
   subst hg;simp only[SP.run,oSJ,oPJ]at h4;obtain⟨rfl,rfl⟩:=h4;refine⟨rfl,λsz Z4 hs=>?_⟩
   have hl2:((c.drop lo).take n).length=n:=by simp;omega
   obtain⟨fp,hown⟩:=nI hI ZP ZN;by_cases hn:n=0
   ·subst hn;refine⟨a,cap,by rw[hl2];exact hx,λm vs hm hf=>?_⟩
    have UK:m=0:=by omega
    subst UK;simp only[List.take_zero,List.flatten_nil,co,oSJ]at hf;subst hf;rw[hx]
    cases a with
    |none=>rfl
    |some a=>simp[Builtin.firstCells,loadCells,loadCellsFrom]
   ·have RX:Za=sz:=by
     rw[<- hs 0 (by omega)];simp only[List.getElem_take,List.getElem_drop];exact(X9 _ (by omega)).symm
    subst RX;refine⟨a,cap,by rw[hl2];exact hx,λm vs hm hf=>rB (lo:=lo) (n:=n) hown (.inl rfl) X9 Z4 rfl X2 hx (λhn=>?_) (λhe=>?_) hm hf⟩
    ·obtain⟨b,len,Z1,q1,q2⟩:=Zf (by omega);exact⟨b,0,len,Z1,q1,by rw[q2];simp⟩
    ·obtain⟨b,len,Z1,q1,q2⟩:=Zf (by omega);rw[he]at q2;simp at q2
 |_=>simp[contentOf,SP.run]at hr
theorem pY{t t' ty e:TypeId}{sz:Nat}(hu:P.underlying t=some (.slice e))(hs:(P.info? e).map (·.size)=some sz){v:Value}{Xy:Option Addr}{n2 YA:Nat}(hv:v=.slice Xy n2 YA){ad:Option Addr}{n cap:Nat}{vs:List Value}(hf:(Builtin.firstCells sz (min n2 n) v).run P w=.ok vs.toArray w)
 {w':World}(hst:match ad with|some a=>(storeCells a vs).run P w=.ok () w'|none=>w'=w):
 (Builtin.copy_ #[t,t'] ty #[.slice ad n cap,v]).run P w=.ok (goInt ((min n2 n:Nat):Int)) w':=by
 subst hv
 cases hq:P.info? e with
 |none=>simp_all
 |some i=>
  have hi:i.size=sz:=by simp_all
  cases ad with
  |none=>
   subst hst;simp[Builtin.copy_,run_underlying hu,Builtin.lenOf,sizeOf,typeInfo,hq,hi,hf]
  |some a=>
   simp[Builtin.copy_,run_underlying hu,Builtin.lenOf,sizeOf,typeInfo,hq,hi,hf,hst]
theorem LP(hI:Inv M σ [] [] a.tmps w G){d:Nat}(hd:o.dst=some d)(hN:M.ok d){x y:Opd}{x' y':Operand}{t t' e sz:TypeId}(hx:bK x'=some x)(hy:bK y'=some y)(ho:o.op=.call { callee:=.builtin .copy,args:=#[x',y'],argTypes:=#[t,t'] })
 (hu:P.underlying t=some (.slice e))(hs:(P.info? e).map (·.size)=some sz)(hr:(ev1 d (.cpy sz x y)).run σ=some ((),σ')):jB P M σ' a o w:=by
 simp only[ev1]at hr;obtain⟨tx,σ1,h1,h2⟩:=bG hr;obtain⟨rfl,Z2⟩:=cr hI.tmr hx h1;obtain⟨ty,σ2,h3,h4⟩:=bG h2;obtain⟨rfl,XD⟩:=cr hI.tmr hy h3;obtain⟨c2,σ3,h5,h6⟩:=bG h4;obtain⟨rfl,U9⟩:=EY hI XD h5
 have ZH:∀r w',(Builtin.copy_ #[t,t'] o.type #[a.eval x',a.eval y']).run P w=.ok r w'->(execOp a.eval o).run P w=.ok (.value r) w':=by
  intro r w' h;simp[execOp,ho,resolve,invoke,builtin,h]
 have fin:∀(p:bS)(c:List (List TV))(lo n:Nat)(vd Uf:Value)(ad:Option Addr)(cap:Nat),p.root≠1->G.hv w p=some Uf->b7 (σ3.c p.root p.off) p.hops=some (.ow c)->a.eval x'=vd->vd=.slice ad n cap->lo+n<=c.length ->
  (∀b0 len Z1,Uf=.slice (some ⟨b0,0,none⟩) len Z1->True)->(0<n->∃b len Z1,Uf=.slice (some ⟨b,0,none⟩) len Z1/\len=c.length/\ad=some ⟨b,lo*sz,none⟩)->(yG d p (σ3.c p.root p.off) (Kl sz c c2 lo n)).run σ3=some ((),σ')->jB P M σ' a o w:=by
  intro p c lo n vd Uf ad cap Z8 ZP hg Qx Wz X2 _ Yd hrun;unfold Kl at hrun;split at hrun
  ·rename_i ZE;split at hrun
   case isFalse=>simp[yG,SP.run]at hrun
   rename_i YC;simp only[oBA,oDE,List.all_eq_true,beq_iff_eq]at YC;obtain⟨Xy,YA,VX,Xl⟩:=U9 sz YC.1 λi h=>YC.2 _ (List.getElem_mem h);have hf:=Xl (min c2.length n) [] (Nat.min_le_left _ _) ZE;have S1:=pY (t':=t') (ty:=o.type) (ad:=ad) (n:=n) (cap:=cap) (w':=w) hu hs VX hf (by cases ad<;>rfl);simp only[yG]at hrun;refine fG hI hd hN (.v rfl) hrun (ZH _ _ ?_);rw[Qx,Wz];exact S1
  ·rename_i v vs ZE;split at hrun
   case isFalse=>simp[yG,SP.run]at hrun
   rename_i YC;simp only[oBA,oDE,List.all_eq_true,beq_iff_eq]at YC;obtain⟨⟨⟨⟨⟨k1,k2⟩,k3⟩,k4⟩,k5⟩,k6⟩:=YC;have XX:∀i (h:i<c2.length),c2[i].length=sz:=λi h=>k3 _ (List.getElem_mem h);obtain⟨Xy,YA,VX,Xl⟩:=U9 sz k1 XX;have hf:=Xl (min c2.length n) (v::vs) (Nat.min_le_left _ _) ZE
   have YX:(v::vs).length=min c2.length n*sz:=by rw[(Am ZE).1,za XX (Nat.min_le_left _ _)]
   have Xp:0<n:=by
    rcases Nat.eq_zero_or_pos n with h|h
    ·subst h;simp at YX
    ·exact h
   obtain⟨b,len,Z1,Rt,hlen,Zf⟩:=Yd Xp;subst hlen;rw[Rt]at ZP;simp only[yG]at hrun;obtain⟨l,hl,hol,h7⟩:=b8 hrun;have Qh:min c2.length n<=n:=Nat.min_le_right _ _
   obtain⟨⟨G1,hI1⟩,hcell⟩:=JF Z8 k1 (v::vs) c (lo*sz) σ3 w G l (by simp) hI ZP hg rfl (λel Zd=>k2 el Zd) k6 (λt VV Yr=>by
    rw[YX]at Yr;have US:lo<=t/sz:=(Nat.le_div_iff_mul_le k1).2 VV;have XC:t/sz<lo+min c2.length n:=(Nat.div_lt_iff_lt_mul k1).2 (by rw[Nat.add_mul];exact Yr);have V8:t%sz<sz:=Nat.mod_lt _ k1;have P7:t/sz<c.length:=Nat.lt_of_lt_of_le XC k4
    have Zy:c[t/sz]∈(c.drop lo).take (min c2.length n):=by
     obtain⟨q,hq⟩:∃q,t/sz=lo+q:=⟨t/sz-lo,by rw[Nat.add_sub_cancel' US]⟩;simp only[hq];rw[hq]at XC;refine List.mem_of_getElem? (i:=q) ?_;rw[List.getElem?_take,oIP (Nat.lt_of_add_lt_add_left XC),List.getElem?_drop];exact oGE _
    have hlt:t%sz<c[t/sz].length:=by rw[k2 _ (List.getElem_mem P7)];exact V8
    have Tk:=k5 _ Zy _ (List.getElem_mem hlt);refine⟨c[t/sz],?_⟩
    cases hcv:c[t/sz][t%sz]with
    |v y=>exact⟨y,oGE P7,by rw[oGE hlt,hcv]⟩
    |_=>rw[hcv]at Tk;simp[isV]at Tk) hl hol
   have hst:=run_storeCells_cells (P:=P) b (lo*sz) (v::vs) 0 w (λj hj=>by simpa using(hcell j hj).1) (λj hj=>by simpa using(hcell j hj).2) (λu hu=>pQ (k6 u hu));have S1:=pY (t':=t') (ty:=o.type) (ad:=ad) (n:=n) (cap:=cap) (w':=w.setCells b (lo*sz) (v::vs)) hu hs VX hf (by rw[Zf];simpa using hst);have RU:=ZH _ _ (by rw[Qx,Wz];exact S1);simp only[wr,SP.run,oSJ,oPJ,true_and]at h7;have e9:σ'={ σ3.sub p l (.ow (lS sz c (lo*sz) (v::vs)))with tm:=dp (σ3.sub p l (.ow (lS sz c (lo*sz) (v::vs)))).tm d (.v (.int .i64 ((min c2.length n:Nat):Int))) }:=h7.symm;rw[e9];refine⟨_,_,_,G1,RU,.inl rfl,?_⟩;rw[hd];exact hI1.wrT hN (.v rfl)
  ·simp[yG,SP.run]at hrun
 cases tx with
 |pk p vs=>
  simp only at h6;obtain⟨_,σ4,h7,h8⟩:=bG h6;have e1:σ4=σ3:=(bU h7).1;have e2:=(bU h7).2;subst e1;simp only[SP.run]at h8;generalize hz:a.eval x'=z at Z2
  cases Z2 with
  |pk V0 h0 hv h=>
   obtain⟨Z8,c,ZP,ZN⟩:=h e2
   have ZQ:b7 (σ4.c p.root p.off) p.hops=some (.ow c):=by rw[bW (by exact Z8)]at ZN;exact ZN
   rw[ZQ]at h8;simp only at h8;obtain⟨fp,hown⟩:=nI hI ZP ZN;obtain⟨ad,cap,V9,_⟩:=hown.hdr;refine fin p c 0 c.length z z ad cap Z8 ZP ZQ hz V9 (by simp) (λ_ _ _ _=>trivial) (λhn=>?_) h8
   cases hown with
   |nil=>simp at hn
   | @ow _ _ b cap0 cur e' sz' u f hfp hb hsz hcap hz0 hmax hcur hcell hrec hnb hdis=>
    injection V9 with V9 _ _
    exact⟨b,_,_,rfl,rfl,by rw[<- V9];simp⟩
 |pw p vs sz' lo n=>
  simp only at h6;obtain⟨_,σ4,h7,h8⟩:=bG h6;have e1:σ4=σ3:=(bU h7).1;have e2:=(bU h7).2;subst e1;simp only[SP.run]at h8;generalize hz:a.eval x'=z at Z2
  cases Z2 with
  |pw V0 h0 hv h=>
   obtain⟨Z8,c,hd',ZP,ZN,X2,ad,cap,hxv,XL,XK,hnil,X9,Zf⟩:=h e2
   have ZQ:b7 (σ4.c p.root p.off) p.hops=some (.ow c):=by rw[bW (by exact Z8)]at ZN;exact ZN
   rw[ZQ]at h8;simp only at h8;split at h8
   case isFalse=>simp[SP.run]at h8
   rename_i XW;subst XW;obtain⟨fp,hown⟩:=nI hI ZP ZN;refine fin p c lo n z hd' ad cap Z8 ZP ZQ hz hxv X2 (λ_ _ _ _=>trivial) (λhn=>?_) h8;obtain⟨b,len,Z1,q1,q2⟩:=Zf (by omega);obtain⟨ad3,SM,q3,_⟩:=hown.hdr;rw[q1]at q3
   injection q3 with _ q3 _
   exact⟨b,len,Z1,q1,q3,q2⟩
 |_=>simp[SP.run]at h6
end
section
variable {P:Program} {M:Fm} {σ σ':St} {H:List TV} {xs:List Value} {ts:Array Value} {w:World} {G:Gh} {a:Act} {o:Oper}
theorem Inv.rehandS(hI:Inv M σ H xs ts w G){w':World}{t':TV}{v':Value}(hw:∀k,k<w.heap.size->(∀j,¬G.φ M.hr j k)->w'.heap[k]?=w.heap[k]?)(hs:w.heap.size<=w'.heap.size)
 (ho:w'.os=w.os)(ht:w'.tape=w.tape)(hu:w'.output=w.output)(hown:io w' (λk=>(G.F M.A k/\k<w.heap.size)\/∃j,G.φ M.hr j k) t' v'):
 ∃G',Inv M σ [t'] [v'] ts w' G'/\ij M w σ H G w' σ [t'] G'/\G'.β=G.β:=by
 let fp':Nat->Prop:=λ_=>False
 have hfp:∀k,fp' k->(∃j,G.φ M.hr j k)\/w.heap.size<=k:=λk h=>h.elim
 let G':Gh:=⟨G.β,λr o=>if r=M.hr then v' else G.η r o,λr o k=>if r=M.hr then(if o=0 then fp' k else False)else G.φ r o k⟩
 have Z':∀r o k,G'.φ r o k->(r=M.hr/\o=0/\fp' k)\/(r≠M.hr/\G.φ r o k):=by
  intro r o k hk;simp only[G']at hk;by_cases e:r=M.hr
  ·rw[oIP e]at hk;by_cases e2:o=0
   ·rw[oIP e2]at hk;exact .inl ⟨e,e2,hk⟩
   ·rw[oIN e2]at hk;exact hk.elim
  ·rw[oIN e]at hk;exact .inr ⟨e,hk⟩
 have Zz:∀k,G.F M.A k->k<w.heap.size->G'.F M.A k:=by
  rintro k ⟨a1,a2,a3⟩ hk;refine⟨a1,λr o h=>?_,a3⟩
  rcases Z' r o k h with⟨_,_,h1⟩|⟨_,h1⟩
  ·rcases hfp k h1 with⟨j,h2⟩|h2
   ·exact a2 _ _ h2
   ·omega
  ·exact a2 _ _ h1
 have hHF:∀k,(∃j,G.φ M.hr j k)->G'.F M.A k:=by
  rintro k ⟨j,hj⟩;refine⟨hI.core.allow _ _ k hj,λr o h=>?_,λr b o n hb e=>hI.core.boxf r b o n hb _ _ (e▸hj)⟩
  rcases Z' r o k h with⟨_,_,h1⟩|⟨h1,h2⟩
  ·exact h1
  ·exact h1 (hI.core.dis _ _ _ _ k h2 hj).1
 have Yy:∀k,G.F M.A k->k<w.heap.size->w'.heap[k]?=w.heap[k]?:=λk ⟨_,a2,_⟩ hk=>hw k hk λj=>a2 _ _;have hφ:∀r o,r≠M.hr->∀k,G.φ r o k->w'.heap[k]?=w.heap[k]?:=λr o h k hk=>hw k (hI.core.live hk) λj hj=>h (hI.core.dis _ _ _ _ k hk hj).1;have Zb:∀r b o n,G.β r=some (b,o,n)->w'.heap[b]?=w.heap[b]?:=λr b o n hb=>hw b (hI.core.boxlt hb) λj=>hI.core.boxf r b o n hb _ _;have hk:=mh (H':=[t']) (G':=G') hI hw rfl (λr o h=>by simp[G',show r≠M.hr from h])
 have Wl:∀r o k,r≠M.hr->G.φ r o k->¬fp' k:=by
  intro r o k h hk hf
  rcases hfp k hf with⟨j,h2⟩|h2
  ·exact h (hI.core.dis _ _ _ _ k hk h2).1
  ·have:=hI.core.live hk;omega
 have hF:=hI.fram
 have ZF:iM M.A (b5 M σ [t']) w' G':=by
  refine⟨λr o=>?_,λr b o0 n hb=>?_,λr b o0 n hb o ho=>?_,hI.core.boxd,λr b o n hb r2 o2 hk=>?_,λr1 o1 r2 o2 k h1 h2=>?_,λr o k h=>?_⟩
  ·by_cases e:r=M.hr
   ·subst e;by_cases e2:o=0
    ·subst e2;right
     have hv:G'.val w' M.hr 0=v':=by unfold Gh.val;simp only[G',hI.hr_none,if_true]
     rw[hv,iI]
     exact(hown.toOwn.frame (λ_ _=>rfl) (λ_ _ _=>rfl) (λk h _=>h.elim (λh=>Zz k h.1 h.2) (hHF k))).refp λk=>by simp[G',fp']
    ·left;refine⟨by rw[iI];simp[e2],λk hk=>by simp[G',e2]at hk⟩
   ·have hv:G'.val w' r o=G.val w r o:=gh rfl (by simp[G',e]) (Zb r)
    have ZO:∀k,G'.φ r o k↔G.φ r o k:=λk=>by simp[G',e]
    rw[bW e,hv];have hc:=hI.core.cell r o;rw[bW e]at hc
    rcases hc with⟨a1,a2⟩|a2
    ·left;exact⟨a1,λk hk=>a2 k ((ZO k).1 hk)⟩
    ·right;exact(a2.frame (hφ r o e) Yy Zz).refp λk=>(ZO k).symm
  ·obtain⟨cur,e',fz,a1,a2,a3⟩:=hI.core.box r b o0 n hb;exact⟨cur,e',fz,by rw[Zb r b o0 n hb];exact a1,a2,λj hj=>by rw[World.frozen?_of_block (w:=w) (Zb r b o0 n hb)];exact a3 j hj⟩
  ·have e:r≠M.hr:=λe=>by
    have Zx:G.β r=some (b,o0,n):=hb;rw[e,hI.hr_none]at Zx;simp at Zx
   have:=hI.core.boxc r b o0 n hb o ho;rw[bW e]at this⊢;exact this
  ·rcases Z' r2 o2 b hk with⟨_,_,h1⟩|⟨_,h1⟩
   ·rcases hfp b h1 with⟨j,h2⟩|h2
    ·exact hI.core.boxf r b o n hb _ _ h2
    ·have:=hI.core.boxlt hb;omega
   ·exact hI.core.boxf r b o n hb _ _ h1
  ·rcases Z' r1 o1 k h1 with⟨a1,a2,a3⟩|⟨a1,a2⟩
   ·rcases Z' r2 o2 k h2 with⟨b1,b2,b3⟩|⟨b1,b2⟩
    ·exact⟨a1.trans b1.symm,a2.trans b2.symm⟩
    ·exact absurd a3 (Wl _ _ k b1 b2)
   ·rcases Z' r2 o2 k h2 with⟨b1,b2,b3⟩|⟨b1,b2⟩
    ·exact absurd b3 (Wl _ _ k a1 a2)
    ·exact hI.core.dis _ _ _ _ k a2 b2
  ·rcases Z' r o k h with⟨a1,a2,a3⟩|⟨a1,a2⟩
   ·rcases hfp k a3 with⟨j,h2⟩|h2
    ·exact hI.core.allow _ _ k h2
    ·exact M.hA k (Nat.le_trans hF.size h2)
   ·exact hI.core.allow _ _ k a2
 refine⟨G',⟨ZF,λi=>(hI.tmr i).keep hk Yy Zz,?_,hI.keys,hI.size,rfl,λj hj=>?_,hI.shape,λi x h0 h=>by simp only[G',oIN (show ¬ 2*i+3=M.hr from λe=>M.odd_ne i (p:=True) ⟨e,trivial⟩)];exact hI.kept i x h0 h⟩,⟨hs,hk,Yy,Zz⟩,rfl⟩
 ·refine⟨ho.trans hF.os,ht.trans hF.tape,hu.trans hF.output,Nat.le_trans hF.size hs,λk a1 a2 a3=>?_,λr b o n hp=>?_,λr o k h=>?_,hF.box,hF.even⟩
  ·rw[hw k (Nat.lt_of_lt_of_le a1 hF.size) λj hj=>?_]
   ·exact hF.old k a1 a2 a3
   ·rcases hF.own _ _ k hj with h|h
    ·exact a2 h
    ·omega
  ·obtain⟨a1,cur0,cur,e',fz,a2,a3,a4⟩:=hF.par r b o n hp;exact⟨a1,cur0,cur,e',fz,a2,by rw[Zb r b o n a1];exact a3,a4⟩
  ·rcases Z' r o k h with⟨a1,a2,a3⟩|⟨a1,a2⟩
   ·rcases hfp k a3 with⟨j,h2⟩|h2
    ·exact hF.own _ _ k h2
    ·exact .inr (Nat.le_trans hF.size h2)
   ·exact hF.own _ _ k a2
 ·obtain rfl:j=0:=by simp at hj;omega
  simp[G']
def vW(k lo i:Nat):Nat:=if i<k then i else lo+(i-k)
theorem MS{c:List (List TV)}{k lo m i:Nat}(hk:k<=lo)(hl:lo+m<=c.length)(hi:i<k+m):∃h:vW k lo i<c.length,(c.take k++(c.drop lo).take m)[i]?=some c[vW k lo i]:=by
 have h:vW k lo i<c.length:=by unfold vW;split<;>omega
 refine⟨h,?_⟩
 have hkl:(c.take k).length=k:=by rw[oLT];omega
 by_cases e:i<k
 ·have e2:vW k lo i=i:=by unfold vW;rw[oIP e]
  rw[List.getElem?_append_left (by omega),List.getElem?_take,oIP e];simp only[e2];exact oGE (by omega)
 ·have e2:vW k lo i=lo+(i-k):=by unfold vW;rw[oIN e]
  rw[List.getElem?_append_right (by omega),hkl,List.getElem?_take,oIP (by omega),List.getElem?_drop];simp only[e2];exact oGE (by omega)
theorem MR{F fp F':Nat->Prop}{c:List (List TV)}{b n capv sz k lo m cap:Nat}{w':World}{ad:Option Addr}{vals:List Value}{f:Nat->Nat->Nat->Prop}
 (YX:vals.length=c.length*sz)(hrec:∀i j (hi:i<c.length)(hj:j<c[i].length),fa w F (f i j) c[i][j] (vals.getD (i*sz+j) undef))(hfp:∀i j k,f i j k->i<c.length/\j<sz/\fp k)(hnb:∀i j,¬f i j b)
 (hs:∀i (h:i<c.length),c[i].length=sz)(hb:fp b)(SR:¬F b)(hk:k<=lo)(hl:lo+m<=c.length)(hcap:k+m<=cap)(hmax:cap<=maxLen)(hnil:ad=none->cap=0)(Zf:0<k+m->ad=some ⟨b,0,none⟩)
 (Q1:∀k,F k\/fp k->k<w.heap.size->F' k)(hF'b:F' b)(hw:∀k,k≠b->k<w.heap.size->w'.heap[k]?=w.heap[k]?)
 (hcell:∀i j,i<k+m->j<sz->w'.cell? ⟨b,i*sz+j,none⟩=some (vals.getD (vW k lo i*sz+j) undef)):
 io w' F' (TV.ow (c.take k++(c.drop lo).take m)).imm (.slice ad (k+m) cap):=by
 have hlen:((c.take k++(c.drop lo).take m).map λe=>e.map TV.imm).length=k+m:=by
  rw[List.length_map,List.length_append,oLT,oLT,List.length_drop];omega
 have Z6:∀i (hi:i<((c.take k++(c.drop lo).take m).map λe=>e.map TV.imm).length),∃h:vW k lo i<c.length,((c.take k++(c.drop lo).take m).map λe=>e.map TV.imm)[i]=c[vW k lo i].map TV.imm:=λi hi=>by
  obtain⟨h,e⟩:=MS (c:=c) hk hl (show i<k+m by omega);refine⟨h,?_⟩;rw[List.getElem_map];congr 1;obtain⟨_,e⟩:=oGS e;exact e
 have Z0:=io.sl (w:=w') (F:=F') (c:=(c.take k++(c.drop lo).take m).map λe=>e.map TV.imm) (a:=ad) (cap:=cap) sz (λi j=>vals.getD (vW k lo i*sz+j) undef) (λi hi=>?_) (by omega) hmax hnil (λi j hi hj=>?_) (λi j hi hj=>?_)
 ·rw[fH];rw[hlen]at Z0;exact Z0
 ·obtain⟨h,e⟩:=Z6 i hi;rw[e,List.length_map];exact hs _ h
 ·refine⟨b,0,Zf (by omega),hF'b,?_⟩;rw[Nat.zero_add];exact hcell i j (by omega) hj
 ·obtain⟨h,e⟩:=Z6 i hi
  have ZY:j<c[vW k lo i].length:=by
   have e2:=congrArg List.length e;rw[List.length_map]at e2;omega
  have e3:((c.take k++(c.drop lo).take m).map λe=>e.map TV.imm)[i][j]=(c[vW k lo i][j]).imm:=by simp only[e,List.getElem_map]
  rw[e3];refine(hrec _ j h ZY).share'.frame (λq hq hlt=>hw q (λe=>?_) hlt) (λq hq hlt=>Q1 q (hq.imp id λh=>(hfp _ _ _ h).2.2) hlt);subst e;rcases hq with hq|hq
  ·exact SR hq
  ·exact hnb _ _ hq
theorem Inv.del{c:List (List TV)}{v:Value}{sz k lo m cap:Nat}{ad:Option Addr}(hI:Inv M σ [.ow c] [v] ts w G)(hs:∀i (h:i<c.length),c[i].length=sz)(hk:k<=lo)(hl:lo+m<=c.length)(hcap:k+m<=cap)(hmax:cap<=maxLen)(hnil:ad=none->cap=0)
 (Q8:0<cap->∃b len Z1,v=.slice (some ⟨b,0,none⟩) len Z1/\ad=some ⟨b,0,none⟩)(t ty e:TypeId)(i:TypeInfo)(ht:P.underlying t=some (.slice e))(hi:P.info? e=some i)(hsz:i.size=sz)(a2:Option Addr)(YA:Nat)
 (Wd:0<m->∀b len Z1,v=.slice (some ⟨b,0,none⟩) len Z1->a2=some ⟨b,lo*sz,none⟩):
 ∃w' G',(Builtin.append_ #[t,t] ty #[.slice ad k cap,.slice a2 m YA]).run P w=.ok (.slice ad (k+m) cap) w'/\Inv M σ [(TV.ow (c.take k++(c.drop lo).take m)).imm] [.slice ad (k+m) cap] ts w' G':=by
 subst hsz;have hown:=hI.hand_own (j:=0) (by simp) (by simp);simp only[List.getElem_cons_zero,List.getD_cons_zero]at hown;by_cases hz:k+m=0
 ·obtain rfl:k=0:=by omega
  obtain rfl:m=0:=by omega
  obtain⟨G',h1,_,_⟩:=hI.rehandS (w':=w) (t':=(TV.ow (c.take 0++(c.drop lo).take 0)).imm) (v':=.slice ad (0+0) cap) (λ_ _ _=>rfl) (Nat.le_refl _) rfl rfl rfl (by
   rw[fH];simp only[List.take_zero,List.append_nil,List.map_nil]
   exact io.sl (c:=[]) i.size (λ_ _=>.nilFunc) (by simp) (by simp) hmax hnil (by simp) (by simp))
  exact⟨w,G',fB w t ty e i ht hi ad 0 cap (by omega) a2 YA,h1⟩
 ·obtain⟨b,len,Z1,rfl,rfl⟩:=Q8 (by omega);have Sv:=hown
  cases hown with
  |nil=>simp at hl;omega
  | @ow _ _ _ _ cur e' sz' u f0 hfp hb hsz S1 hz0 Qg hcur hcell hrec hnb hdis=>
   have XW:sz'=i.size:=by rw[<- hsz 0 (by omega),hs 0 (by omega)]
   subst XW;obtain⟨a',SM,vals,f,e1,YX,TS,XZ,Xt,Xh,UW,Wy⟩:=Sv.rows (.inl rfl) hs
   injection e1 with e1 _ e2
   subst e1;subst e2;have VY:∀i j,¬f i j b:=λi j=>Wy i j b 0 rfl rfl;have hbφ:G.φ M.hr 0 b:=(hfp b).2 (.inl rfl);have SR:¬G.F M.A b:=λh=>h.2.1 _ _ hbφ
   have YW:∀q,q<c.length*i.size->cur[q]?=vals[q]?:=by
    intro q hq
    have XC:q<vals.length:=by omega
    obtain⟨b',o',e3,e4⟩:=TS q _ (oGE XC)
    injection e3 with e3;injection e3 with e3 e5;subst e3;subst e5
    rw[cell_of_row w b _ _ _ _ hb,Nat.zero_add]at e4;rw[oGE XC,<- e4]
   have hlt:∀p j,p<c.length->j<i.size->p*i.size+j<c.length*i.size:=λp j hp hj=>by
    calc p*i.size+j<p*i.size+i.size:=by omega
     _=(p+1)*i.size:=by rw[Nat.succ_mul]
     _<=c.length*i.size:=Nat.mul_le_mul_right _ hp
   have Rs:∀p j,p<c.length->j<i.size->vals[p*i.size+j]?=some (vals.getD (p*i.size+j) undef):=λp j hp hj=>by
    have:=hlt p j hp hj;rw[oGD,oGE (by omega)];rfl
   have fin:∀(w':World),(∀q,q≠b->w'.heap[q]?=w.heap[q]?)->w.heap.size<=w'.heap.size->w'.os=w.os->w'.tape=w.tape->w'.output=w.output ->
    (∀p j,p<k+m->j<i.size->w'.cell? ⟨b,p*i.size+j,none⟩=some (vals.getD (vW k lo p*i.size+j) undef))->∃G',Inv M σ [(TV.ow (c.take k++(c.drop lo).take m)).imm] [.slice (some ⟨b,0,none⟩) (k+m) cap] ts w' G':=by
    intro w' h1 h2 h3 h4 h5 h6
    obtain⟨G',q1,_,_⟩:=hI.rehandS (w':=w') (t':=(TV.ow (c.take k++(c.drop lo).take m)).imm) (v':=.slice (some ⟨b,0,none⟩) (k+m) cap) (λq _ hq=>h1 q λe=>hq 0 (e▸hbφ)) h2 h3 h4 h5
     (MR (w:=w) (F:=G.F M.A) (fp:=G.φ M.hr 0) (n:=0) (capv:=0) YX XZ Xt VY hs hbφ SR hk hl hcap hmax hnil (λ_=>rfl) (λq hq hlt=>hq.imp (λh=>⟨h,hlt⟩) λh=>⟨0,h⟩) (.inr ⟨0,hbφ⟩) (λq hq _=>h1 q hq) h6)
    exact⟨G',q1⟩
   rcases Nat.eq_zero_or_pos m with hm|hm
   ·subst hm
    obtain⟨G',q1⟩:=fin w (λ_ _=>rfl) (Nat.le_refl _) rfl rfl rfl (λp j hp hj=>by
     have e:vW k lo p=p:=by unfold vW;rw[oIP (by omega)]
     rw[e,cell_of_row w b _ _ _ _ hb,YW _ (hlt p j (by omega) hj)]
     exact Rs p j (by omega) hj)
    exact⟨w,G',fB w t ty e i ht hi _ k cap (by omega) a2 YA,q1⟩
   ·obtain rfl:=Wd hm b _ _ rfl;obtain⟨news,Ze⟩:∃news,news=(vals.drop (lo*i.size)).take (m*i.size):=⟨_,rfl⟩
    have hlm:lo*i.size+m*i.size<=vals.length:=by rw[YX,<- Nat.add_mul];exact Nat.mul_le_mul_right _ hl
    have Yi:news.length=m*i.size:=by rw[Ze,oLT,List.length_drop];omega
    have Qi:∀q,q<m*i.size->news[q]?=vals[lo*i.size+q]?:=λq hq=>by rw[Ze,List.getElem?_take,oIP hq,List.getElem?_drop]
    have WJ:c.length*i.size<=cur.size:=by rw[hcur];exact Nat.mul_le_mul_right _ S1
    have hkm:k*i.size+m*i.size<=c.length*i.size:=by rw[<- Nat.add_mul];exact Nat.mul_le_mul_right _ (by omega)
    have hr:=mW (P:=P) w t ty e e' i ht hi b k cap cur hb ⟨b,lo*i.size,none⟩ m YA news Yi (λj u hj=>by
     have hjl:j<m*i.size:=by rw[<- Yi];exact(oGS hj).1
     rw[Qi j hjl]at hj;rw[cY,cell_of_row w b _ _ _ _ hb,YW _ (by omega)]
     exact hj) (λu hu=>UW u (by rw[Ze]at hu;exact List.mem_of_mem_drop (List.mem_of_mem_take hu))) hcap (by omega)
    have ZD:=setRow_heap w b cur (cur.toList.take (k*i.size)++news++cur.toList.drop (k*i.size+news.length)).toArray e' (0,0) hb
    obtain⟨G',q1⟩:=fin _ (λq hq=>setRow_other w b q _ hq) (by simp) rfl rfl rfl (λp j hp hj=>by
     rw[cell_of_row _ b _ _ _ _ ZD]
     have hkt:(cur.toList.take (k*i.size)).length=k*i.size:=by rw[oLT,Array.length_toList];omega
     simp only[List.getElem?_toArray];by_cases e:p<k
     ·have e2:vW k lo p=p:=by unfold vW;rw[oIP e]
      have h3:p*i.size+j<k*i.size:=by
       calc p*i.size+j<p*i.size+i.size:=by omega
        _=(p+1)*i.size:=by rw[Nat.succ_mul]
        _<=k*i.size:=Nat.mul_le_mul_right _ e
      rw[List.append_assoc,List.getElem?_append_left (by omega),List.getElem?_take,oIP h3,Array.getElem?_toList,YW _ (hlt p j (by omega) hj),e2];exact Rs p j (by omega) hj
     ·have e2:vW k lo p=lo+(p-k):=by unfold vW;rw[oIN e]
      have h3:k*i.size<=p*i.size:=Nat.mul_le_mul_right _ (by omega)
      have h4:p*i.size+j-k*i.size=(p-k)*i.size+j:=by rw[Nat.sub_mul];omega
      have h5:(p-k)*i.size+j<m*i.size:=by
       calc (p-k)*i.size+j<(p-k)*i.size+i.size:=by omega
        _=(p-k+1)*i.size:=by rw[Nat.succ_mul]
        _<=m*i.size:=Nat.mul_le_mul_right _ (by omega)
      rw[List.append_assoc,List.getElem?_append_right (by omega),hkt,h4,List.getElem?_append_left (by omega),Qi _ h5,e2,<- Rs (lo+(p-k)) j (by omega) hj,Nat.add_mul,Nat.add_assoc])
    exact⟨_,G',hr,q1⟩
theorem LO(hI:Inv M σ [] [] a.tmps w G){d sz:Nat}(hd:o.dst=some d)(hN:M.ok d){s x:Opd}{s' x':Operand}{t e:TypeId}{i:TypeInfo}(hs:bK s'=some s)(hx:bK x'=some x)
 (ho:o.op=.call { callee:=.builtin .append,args:=#[s',x'],argTypes:=#[t,t] })(hu:P.underlying t=some (.slice e))(hi:P.info? e=some i)(hsz:i.size=sz)
 (hr:(ev1 d (.del sz s x)).run σ=some ((),σ')):jB P M σ' a o w:=by
 simp only[ev1]at hr;obtain⟨t1,σ1,h1,h2⟩:=bG hr;obtain⟨rfl,YR⟩:=cr hI.tmr hs h1;obtain⟨t2,σ2,h3,h4⟩:=bG h2;obtain⟨rfl,Z2⟩:=cr hI.tmr hx h3;generalize hz1:a.eval s'=z1 at YR;generalize hz2:a.eval x'=z2 at Z2
 cases YR with
 | @pw p vs s1 l1 k _ V0 h0 hv hok=>
  cases Z2 with
  | @pw p2 vs2 s2 lo m _ V2 h20 VX XN=>
   simp only at h4;split at h4
   case isFalse=>simp[SP.run]at h4
   rename_i hc;simp only[oBA,beq_iff_eq,List.isEmpty_iff]at hc;obtain⟨⟨⟨⟨⟨⟨c1,c2⟩,c3⟩,c4⟩,c5⟩,c6⟩,c7⟩:=hc;obtain⟨r,off,hops⟩:=p;obtain⟨r2,T2,Ql⟩:=p2;simp only at c1 c2 c3 c4;subst c1 c2 c3 c4 c5 c6 c7;obtain⟨tt,σ3,h5,h6⟩:=bG h4;have J':=h5;simp only[take1]at J';obtain⟨_,σ4,h7,h8⟩:=bG J';have e1:σ4=σ2:=(bU h7).1;have e2:=(bU h7).2;subst e1;obtain⟨Z8,c,hd',ZP,ZN,X2,ad,cap,rfl,XL,XK,hnil,X9,Zf⟩:=hok e2;obtain⟨_,c',hd2,Y3,WV,hln2,Xy,YA,rfl,RL,hmx2,Qj,_,Q4⟩:=XN e2;rw[ZP]at Y3
   injection Y3 with Y3
   subst Y3;rw[ZN]at WV
   injection WV with WV
   injection WV with WV
   subst WV;have Xr:TmR w (G.F M.A) σ4.v (b5 M σ4 []) G (.pk ⟨r2,T2,[]⟩ vs2) hd':=.pk V0 h0 hv λ_=>⟨Z8,c,ZP,ZN⟩;obtain⟨G1,g1,_⟩:=fK hI Xr h5;simp only[List.nil_append]at g1
   have htt:tt=.ow c:=by
    have ZQ:b7 (σ4.c r2 T2) []=some (.ow c):=by rw[<- ZN,bW (by exact Z8)]
    simp only[b7,oSJ]at ZQ;simp only[SP.run,b7,ZQ]at h8;obtain⟨l,hl,hol,h9⟩:=b8 h8;simp only[SP.run,oSJ,oPJ]at h9;exact h9.1.symm
   subst htt;simp only at h6;split at h6
   case isFalse=>simp[SP.run]at h6
   rename_i Z9;simp only[oBA,oDE]at Z9;obtain⟨⟨⟨_,k2⟩,k3⟩,k4⟩:=Z9
   obtain rfl:l1=0:=by omega
   obtain⟨w',G',hrun,ZK⟩:=g1.1.del (P:=P) (sz:=s2) (ad:=ad) (cap:=cap) X9 k3 k4 (by omega) XK hnil (λhp=>by
    obtain⟨b,len,Z1,q1,q2⟩:=Zf hp
    exact⟨b,len,Z1,q1,by rw[q2];simp⟩) t o.type e i hu hi hsz Xy YA (λhm b len Z1 q=>by
    obtain⟨b',len',SM,q1,q2⟩:=Q4 (by omega);rw[q]at q1
    injection q1 with q1 _ _
    injection q1 with q1
    injection q1 with q1
    rw[q2,q1])
   refine mD ZK hd hN (λj hj=>?_) h6 (.inr ⟨rfl,_,rfl,rfl⟩) (w0:=w) ?_
   ·obtain rfl:j=0:=by simp at hj;omega
    left;simp[fH,cq]
   ·simp[execOp,ho,resolve,invoke,builtin,hz1,hz2,hrun]
  |_=>simp[SP.run]at h4
 |_=>cases t2<;>simp[SP.run]at h4
end
def vo(P:Program)(t:TypeId):Option Nat:=(P.info? t).map (·.size)
def KH(P:Program)(t:TypeId):Option (List Value):=(P.info? t).bind (·.zero.map (·.cells.toList))
def zG(P:Program)(t:TypeId):Option (Option Nat):=
 match P.underlying t with
 |some (.struct _)=>(vo P t).map some
 |some (.array _ _)=>(vo P t).map some
 |some _=>some none
 |none=>none
def wt:Option Operand->Option (Option Opd)
 |none=>some none
 |some x=>(bK x).map some
def nK{α β:Type}(f:α->Option β):List α->Option (List β)
 | []=>some []
 |x::r=>match f x,nK f r with|some y,some l=>some (y::l)|_,_=>none
def nY(b:Bool):Option Unit:=if b then some ()else none
def O1(mv n:Nat)(x:Opd):TOp:=if mv=3 then .boxi n x else .box n (mv==1) x
def eY(P:Program)(mv:Nat):Op->Option TOp
 |.move x=>match x with
  |.const (.agg cs)=>some (.asn true (.c (.agg cs)))
  |x=>if mv=4 then(bK x).map (.asn true)else(bK x).map .mov
 |.assign x=>if mv=2 then(bK x).map .mov else(bK x).map (.asn (mv==1))
 |.pick c a b=>do some (.pick (<- bK c) (<- bK a) (<- bK b))
 |.alloc e=>(KH P e).map .alloc
 |.box e x=>do some (O1 mv (<- vo P e) (<- bK x))
 |.load t a=>do some (.load (<- zG P t) (<- bK a))
 |.store t a x=>do
  let n <- vo P t
  nY (decide (0<n))
  some (.store n (mv==1) (<- bK a) (<- bK x))
 |.nilCheck x=>(bK x).map .nilc
 |.binOp op t x y _=>
  match P.underlying t with
  |some .bool=>match op with
   |.eql=>do some (.bnb false (<- bK x) (<- bK y))
   |.neq=>do some (.bnb true (<- bK x) (<- bK y))
   |_=>none
  |some (.int _)=>do some (.bin op (<- bK x) (<- bK y))
  |some .string=>do some (.bin op (<- bK x) (<- bK y))
  |some (.struct _)=>
   if P.eqGuardType P.depth t then none
   else match oW P 50 t with
    |some ks=>match op with
     |.eql=>do some (.eqa ks false (<- bK x) (<- bK y))
     |.neq=>do some (.eqa ks true (<- bK x) (<- bK y))
     |_=>none
    |none=>none
  |_=>none
 |.unOp op _ x=>(bK x).map (.un op)
 |.convert s d x=>
  match P.underlying s,P.underlying d with
  |some (.int _),some (.int k)=>(bK x).map (.conv k)
  |some .string,some (.slice e)=>match P.underlying e with
   |some (.int .u8)=>(bK x).map .s2b
   |_=>none
  |some (.slice e),some .string=>match P.underlying e with
   |some (.int .u8)=>(bK x).map .b2s
   |_=>none
  |_,_=>none
 |.fieldAddr s x f=>
  match P.underlying s with
  |some (.struct fs)=>match fs[f]? with
   |some fd=>match vo P fd.type with
    |some (_+1)=>(bK x).map (.fld fd.offset)
    |_=>none
   |none=>none
  |_=>none
 |.field s x f=>
  match P.underlying s with
  |some (.struct fs)=>match fs[f]? with
   |some fd=>do some (.fldv fd.offset (<- zG P fd.type) (<- bK x))
   |none=>none
  |_=>none
 |.indexAddr t x i=>
  match P.underlying t with
  |some (.slice e)=>do some (.idx (<- vo P e) (<- bK x) (<- bK i))
  |some (.array n e)=>do some (.idxa n (<- vo P e) (<- bK x) (<- bK i))
  |_=>none
 |.index t x i=>
  match P.underlying t with
  |some .string=>do some (.ixs (<- bK x) (<- bK i))
  |_=>none
 |.extract x i=>(bK x).map λx=>.ext x i
 |.makeSlice t l c=>
  match P.underlying t with
  |some (.slice e)=>match P.info? e with
   |some i=>match i.zero with
    |some z=>do
     nY (decide (i.bytes<=16777216*i.size)&&decide (0<i.size))
     let a <- bK l
     let b <- bK c
     some (if mv=5 then .mki i.size z.cells.toList a b else .mks i.size z.cells.toList a b)
    |none=>none
   |none=>none
  |_=>none
 |.slice t x lo hi mx=>
  match mx with
  |some m=>match hi,P.underlying t with
   |some h,some (.slice e)=>do
    nY (Ft lo&&tI h&&tI m)
    let _ <- vo P e
    some (.emp (<- bK x))
   |_,_=>none
  |none=>match P.underlying t with
   |some (.slice e)=>do some (.slc (<- vo P e) (<- bK x) (<- wt lo) (<- wt hi))
   |some (.array n e)=>match lo with
    |none=>do
     nY (decide (vo P e=some 1))
     some (.sla n (<- bK x) (<- wt hi))
    |some _=>none
   |_=>none
 |.makeFunc fn first caps=>
  match fn with
  |.func f=>do
   nY (first.size==0)
   some (.mkf f (<- nK bK caps.toList))
  |_=>none
 |.buildSlice t len parts=>
  match P.underlying t with
  |some (.slice e)=>match P.info? e with
   |some i=>do
    nY ((i.zero.isSome||len*i.size==0)&&decide (len*i.size<=16777216)&&decide (len<=16777216)&&parts.toList.map (·.1)==List.range len)
    some (.bsl i.size (mv==1) len (<- nK (λp=>bK p.2) parts.toList))
   |none=>none
  |_=>none
 |.build t parts=>
  match P.underlying t,KH P t with
  |some (.struct fs),some z=>do
   nY (fs.toList.all λf=>(vo P f.type).isSome)
   let ps <- nK (λp=>match fs[p.1]? with
    |some f=>match vo P f.type,bK p.2 with
     |some n,some x=>if f.offset+n<=z.length then some (f.offset,n,x)else none
     |_,_=>none
    |none=>none) parts.toList
   some (.bld z (mv==1) ps)
  |some (.array _ e),some z=>match vo P e with
   |some sz=>do
    let ps <- nK (λp=>match bK p.2 with
     |some x=>if p.1*sz+sz<=z.length then some (p.1*sz,sz,x)else none
     |none=>none) parts.toList
    some (.bld z (mv==1) ps)
   |none=>none
  |_,_=>none
 |.call c=>
  match c with
  | { callee:=.builtin .append,args,argTypes }=>match args.toList,argTypes.toList with
   | [s,x],[t,t']=>if t=t' then
    match P.underlying t with
    |some (.slice e)=>match P.info? e with
     |some i=>match i.zero with
      |some z=>do
       nY (z.cells.size==i.size&&decide (0<i.size))
       let a <- bK s
       let b <- bK x
       some (if mv=6 then .del i.size a b else .app i.size i.bytes (mv==1) (z.cells.all gc) a b)
      |none=>none
     |none=>none
    |_=>none
    else match P.underlying t,P.underlying t' with
     |some (.slice e),some (.int _)=>match P.info? e with
      |some i=>match i.zero with
       |some z=>do
        nY (decide (0<i.size))
        some (.apz i.size i.bytes z.cells.toList (<- bK s) (<- bK x))
       |none=>none
      |none=>none
     |_,_=>none
   |_,_=>none
  | { callee:=.builtin .copy,args,argTypes }=>match args.toList,argTypes.toList with
   | [x,y],[t,_]=>match P.underlying t with
    |some (.slice e)=>do some (.cpy (<- vo P e) (<- bK x) (<- bK y))
    |_=>none
   |_,_=>none
  | { callee:=.builtin .min,args,argTypes:=_ }=>(nK bK args.toList).map (.mm false)
  | { callee:=.builtin .max,args,argTypes:=_ }=>(nK bK args.toList).map (.mm true)
  | { callee:=.builtin .len,args,argTypes }=>match args.toList,argTypes.toList with
   | [x],[t]=>match P.underlying t with
    |some (.slice _)=>(bK x).map .len
    |some .string=>(bK x).map .lens
    |_=>none
   |_,_=>none
  |_=>none
 |_=>none
theorem ui{P:Program}{t:TypeId}{n:Option Nat}(h:zG P t=some n):DW P t n:=by
 unfold zG at h;split at h
 ·rename_i f hu
  cases hs:vo P t with
  |none=>simp_all
  |some k=>simp[hs]at h;subst h;exact⟨⟨_,hu,.inl ⟨_,rfl⟩⟩,hs⟩
 ·rename_i n e hu
  cases hs:vo P t with
  |none=>simp_all
  |some k=>simp[hs]at h;subst h;exact⟨⟨_,hu,.inr ⟨_,_,rfl⟩⟩,hs⟩
 ·rename_i d YD hd2 hu
  injection h with h
  subst h;exact⟨d,hu,λf e=>YD f (by rw[<- e]),λn e' e=>hd2 n e' (by rw[<- e])⟩
 ·simp at h
theorem uc{x:Option Operand}{y:Option Opd}(h:wt x=some y):x.map bK=y.map some:=by
 cases x with
 |none=>simp[wt]at h;subst h;rfl
 |some x=>
  simp[wt]at h
  cases hc:bK x with
  |none=>simp_all
  |some z=>simp[hc]at h;subst h;simp[hc]
theorem lU{α β:Type}{f:α->Option β}:∀{l:List α}{r:List β},nK f l=some r->l.map f=r.map some:=by
 intro l
 induction l with
 |nil=>intro r h;simp[nK]at h;subst h;rfl
 |cons x l ih=>
  intro r h;simp[nK]at h
  cases hx:f x with
  |none=>simp_all
  |some y=>
   cases hl:nK f l with
   |none=>simp_all
   |some q=>simp[hx,hl]at h;subst h;simp[hx,ih hl]
theorem iH{b:Bool}{u:Unit}(h:nY b=some u):b=true:=by
 unfold nY at h
 simp_all
theorem bO{α β:Type}{x:Option α}{f:α->Option β}{y:β}(h:(x >>= f)=some y):∃a,x=some a/\f a=some y:=by
 cases x with
 |none=>simp_all
 |some a=>simp_all
theorem ge{α β:Type}{x:Option α}{f:α->β}{y:β}(h:x.map f=some y):∃a,x=some a/\f a=y:=by
 simp_all
section
variable {P:Program} {M:Fm} {σ σ':St} {ts:Array Value} {w:World} {G:Gh} {a:Act} {o:Oper}
theorem LB(hI:Inv M σ [] [] a.tmps w G){d:Nat}(hd:o.dst=some d)(hN:M.ok d)(Y4:M.pr (2*d+2)=none){mv:Nat}{t:TOp}(hc:eY P mv o.op=some t)(hr:(ev1 d t).run σ=some ((),σ'))(hns:¬ ∃ty x y,o.op=.store ty x y):jB P M σ' a o w:=by
 cases ho:o.op with
 |move x=>
  rw[ho]at hc;simp only[eY]at hc;split at hc
  ·injection hc with hc
   subst hc;exact Bk hI hd hN rfl (.inr ho) hr
  ·split at hc
   ·obtain⟨y,hy,rfl⟩:=ge hc;exact Bk hI hd hN hy (.inr ho) hr
   ·obtain⟨y,hy,rfl⟩:=ge hc;exact F3 hI hd hN hy (.inl ho) hr
 |assign x=>
  rw[ho]at hc;simp only[eY]at hc;split at hc
  ·obtain⟨y,hy,rfl⟩:=ge hc;exact F3 hI hd hN hy (.inr ho) hr
  ·obtain⟨y,hy,rfl⟩:=ge hc;exact Bk hI hd hN hy (.inl ho) hr
 |pick c x y=>
  rw[ho]at hc;simp only[eY]at hc;obtain⟨c1,h1,hc⟩:=bO hc;obtain⟨x1,h2,hc⟩:=bO hc;obtain⟨y1,h3,hc⟩:=bO hc
  injection hc with hc
  subst hc;exact Ji hI hd hN h1 h2 h3 ho hr
 |alloc e=>
  rw[ho]at hc;obtain⟨z,hz,rfl⟩:=ge hc;exact Gi hI hd hN Y4 ho hz hr
 |box e x=>
  rw[ho]at hc;simp only[eY]at hc;obtain⟨n,h1,hc⟩:=bO hc;obtain⟨y,h2,hc⟩:=bO hc
  injection hc with hc
  subst hc;unfold O1 at hr;split at hr
  ·exact Jq hI hd hN h2 ho hr
  ·exact LR hI hd hN Y4 h2 ho hr
 |load t' x=>
  rw[ho]at hc;simp only[eY]at hc;obtain⟨n,h1,hc⟩:=bO hc;obtain⟨y,h2,hc⟩:=bO hc
  injection hc with hc
  subst hc;exact Jk hI hd hN h2 ho (ui h1) hr
 |nilCheck x=>
  rw[ho]at hc;obtain⟨y,hy,rfl⟩:=ge hc;exact Jj hI hd hN hy ho hr
 |binOp op ty x y yt=>
  rw[ho]at hc;simp only[eY]at hc
  have Z0:(do some (TOp.bin op (<- bK x) (<- bK y)):Option TOp)=some t->jB P M σ' a o w:=by
   intro hc;obtain⟨x1,h2,hc⟩:=bO hc;obtain⟨y1,h3,hc⟩:=bO hc
   injection hc with hc
   subst hc;exact LT hI hd hN h2 h3 ho hr
  split at hc
  ·rename_i hu;split at hc
   ·obtain⟨x1,h2,hc⟩:=bO hc;obtain⟨y1,h3,hc⟩:=bO hc
    injection hc with hc
    subst hc;exact Gg hI hd hN h2 h3 ho (.inl ⟨rfl,rfl⟩) hu hr
   ·obtain⟨x1,h2,hc⟩:=bO hc;obtain⟨y1,h3,hc⟩:=bO hc
    injection hc with hc
    subst hc;exact Gg hI hd hN h2 h3 ho (.inr ⟨rfl,rfl⟩) hu hr
   ·simp at hc
  ·exact Z0 hc
  ·exact Z0 hc
  ·rename_i fs hu;split at hc
   case isTrue=>simp at hc
   rename_i WL;split at hc
   case h_2=>simp at hc
   rename_i ks hk;split at hc
   ·obtain⟨x1,h2,hc⟩:=bO hc;obtain⟨y1,h3,hc⟩:=bO hc
    injection hc with hc
    subst hc;exact Gb hI hd hN h2 h3 ho (.inl ⟨rfl,rfl⟩) hu hk (by simpa using WL) hr
   ·obtain⟨x1,h2,hc⟩:=bO hc;obtain⟨y1,h3,hc⟩:=bO hc
    injection hc with hc
    subst hc;exact Gb hI hd hN h2 h3 ho (.inr ⟨rfl,rfl⟩) hu hk (by simpa using WL) hr
   ·simp at hc
  ·simp at hc
 |unOp op ty x=>
  rw[ho]at hc;obtain⟨y,hy,rfl⟩:=ge hc;exact NQ hI hd hN hy ho hr
 |convert s dd x=>
  rw[ho]at hc;simp only[eY]at hc;split at hc
  ·rename_i ks k hs WK;obtain⟨y,hy,rfl⟩:=ge hc;exact Jp hI hd hN hy ho hs WK hr
  ·rename_i e hs WK;split at hc
   ·rename_i he;obtain⟨y,hy,rfl⟩:=ge hc;exact Lz hI hd hN hy ho hs WK he hr
   ·simp at hc
  ·rename_i e hs WK;split at hc
   ·rename_i he;obtain⟨y,hy,rfl⟩:=ge hc;exact LU hI hd hN hy ho hs WK he hr
   ·simp at hc
  ·simp at hc
 |fieldAddr s x f=>
  rw[ho]at hc;simp only[eY]at hc;split at hc
  ·rename_i fs hu;split at hc
   ·rename_i fd hf;split at hc
    ·rename_i n hs;obtain⟨y,hy,rfl⟩:=ge hc;exact LL hI hd hN hy ho hu hf ⟨_,hs⟩ hr
    ·simp at hc
   ·simp at hc
  ·simp at hc
 |field s x f=>
  rw[ho]at hc;simp only[eY]at hc;split at hc
  ·rename_i fs hu;split at hc
   ·rename_i fd hf;obtain⟨n,h1,hc⟩:=bO hc;obtain⟨y,h2,hc⟩:=bO hc
    injection hc with hc
    subst hc;exact Jo hI hd hN h2 ho hu hf (ui h1) hr
   ·simp at hc
  ·simp at hc
 |indexAddr ty x i=>
  rw[ho]at hc;simp only[eY]at hc;split at hc
  ·rename_i e hu;obtain⟨n,h1,hc⟩:=bO hc;obtain⟨y,h2,hc⟩:=bO hc;obtain⟨z,h3,hc⟩:=bO hc
   injection hc with hc
   subst hc;exact LJ hI hd hN h2 h3 ho hu h1 hr
  ·rename_i n e hu;obtain⟨sz,h1,hc⟩:=bO hc;obtain⟨y,h2,hc⟩:=bO hc;obtain⟨z,h3,hc⟩:=bO hc
   injection hc with hc
   subst hc;exact Jm hI hd hN h2 h3 ho hu h1 hr
  ·simp at hc
 |index ty x i=>
  rw[ho]at hc;simp only[eY]at hc;split at hc
  ·rename_i hu;obtain⟨y,h2,hc⟩:=bO hc;obtain⟨z,h3,hc⟩:=bO hc
   injection hc with hc
   subst hc;exact LH hI hd hN h2 h3 ho hu hr
  ·simp at hc
 |extract x i=>
  rw[ho]at hc;obtain⟨y,hy,rfl⟩:=ge hc;exact LM hI hd hN hy ho hr
 |makeSlice ty l c=>
  rw[ho]at hc;simp only[eY]at hc;split at hc
  ·rename_i e hu;split at hc
   ·rename_i i hi;split at hc
    ·rename_i z hz;obtain⟨u,h1,hc⟩:=bO hc;obtain⟨y,h2,hc⟩:=bO hc;obtain⟨y2,h3,hc⟩:=bO hc
     injection hc with hc
     subst hc;have hg:=iH h1;simp only[oBA,oDE]at hg;split at hr
     ·exact LE hI hd hN h2 h3 ho hu hi hz rfl rfl hg.1 hg.2 hr
     exact LD hI hd hN h2 h3 ho hu hi hz rfl rfl hg.1 hg.2 hr
    ·simp at hc
   ·simp at hc
  ·simp at hc
 |slice ty x lo hi mx=>
  rw[ho]at hc;simp only[eY]at hc;split at hc
  ·split at hc
   ·rename_i m h e hu;obtain⟨_,hg,hc⟩:=bO hc;obtain⟨n,h1,hc⟩:=bO hc;obtain⟨y,h2,hc⟩:=bO hc
    injection hc with hc
    subst hc;have hg:=iH hg;simp only[oBA]at hg;exact LN hI hd hN h2 ho hg.1.1 hg.1.2 hg.2 hu h1 hr
   ·simp at hc
  ·split at hc
   ·rename_i e hu;obtain⟨n,h1,hc⟩:=bO hc;obtain⟨y,h2,hc⟩:=bO hc;obtain⟨l1,h3,hc⟩:=bO hc;obtain⟨h4,h5,hc⟩:=bO hc
    injection hc with hc
    subst hc;exact Lx hI hd hN h2 (uc h3) (uc h5) ho hu h1 hr
   ·rename_i n e hu;split at hc
    ·obtain⟨_,hg,hc⟩:=bO hc;obtain⟨y,h2,hc⟩:=bO hc;obtain⟨h4,h5,hc⟩:=bO hc
     injection hc with hc
     subst hc;have hg:=iH hg;exact Ly hI hd hN h2 (uc h5) ho hu (of_decide_eq_true hg) hr
    ·simp at hc
   ·simp at hc
 |makeFunc fn first caps=>
  rw[ho]at hc;simp only[eY]at hc;split at hc
  ·rename_i f;obtain⟨u,h1,hc⟩:=bO hc;obtain⟨l,h2,hc⟩:=bO hc
   injection hc with hc
   subst hc;have hg:=iH h1
   have hf:first=#[]:=by simpa using hg
   subst hf;exact LF hI hd hN (lU h2) ho hr
  ·simp at hc
 |buildSlice ty len parts=>
  rw[ho]at hc;simp only[eY]at hc;split at hc
  ·rename_i e hu;split at hc
   ·rename_i i hi;obtain⟨u,h1,hc⟩:=bO hc;obtain⟨l,h2,hc⟩:=bO hc
    injection hc with hc
    subst hc;have hg:=iH h1;simp only[oBA,Bool.or_eq_true,oDE,beq_iff_eq]at hg;obtain⟨⟨⟨g1,g2⟩,g3⟩,g4⟩:=hg;refine LQ hI hd hN ho hu hi rfl (λh0=>?_) g4 (lU h2) g2 g3 hr;rcases g1 with g1|g1
    ·exact Option.isSome_iff_exists.1 g1
    ·omega
   ·simp at hc
  ·simp at hc
 |build ty parts=>
  rw[ho]at hc;simp only[eY]at hc;split at hc
  ·rename_i fs z hu hz;obtain⟨u,h1,hc⟩:=bO hc;obtain⟨ps,h2,hc⟩:=bO hc
   injection hc with hc
   subst hc;have hg:=iH h1;simp only[List.all_eq_true]at hg;have hm:=lU h2;refine LS hI hd hN (szf:=λf=>(vo P f.type).getD 0) ho hu hz (λf hf=>?_) ?_ (λk h h'=>?_) hr
   ·have:=hg f hf;obtain⟨n,hn⟩:=Option.isSome_iff_exists.1 this;rw[hn];exact hn
   ·have:=congrArg List.length hm;simpa using this
   ·have hk:(parts.toList.map (λp=>match fs[p.1]? with
     |some f=>match vo P f.type,bK p.2 with
      |some n,some x=>if f.offset+n<=z.length then some (f.offset,n,x)else none
      |_,_=>none
     |none=>none))[k]?=(ps.map some)[k]?:=by rw[hm]
    simp only[List.getElem?_map,oGE h',oMS,Array.getElem?_toList,Array.getElem?_eq_getElem h]at hk
    cases hf:fs[parts[k].1]? with
    |none=>simp[hf]at hk
    |some f=>
     cases hs:vo P f.type with
     |none=>simp[hf,hs]at hk
     |some n=>
      cases hx:bK parts[k].2 with
      |none=>simp[hf,hs,hx]at hk
      |some x=>
       simp only[hf,hs,hx,oSJ]at hk;split at hk
       ·rename_i YN
        injection hk with hk
        rw[<- hk];exact⟨rfl,by simp[hs],YN⟩
       ·simp at hk
  ·rename_i n e z hu hz;split at hc
   ·rename_i sz hsz;obtain⟨ps,h2,hc⟩:=bO hc
    injection hc with hc
    subst hc;have hm:=lU h2;refine Jr hI hd hN ho hu hz hsz ?_ (λk h h'=>?_) hr
    ·have:=congrArg List.length hm;simpa using this
    ·have hk:(parts.toList.map (λp=>match bK p.2 with
      |some x=>if p.1*sz+sz<=z.length then some (p.1*sz,sz,x)else none
      |none=>none))[k]?=(ps.map some)[k]?:=by rw[hm]
     simp only[List.getElem?_map,oGE h',oMS,Array.getElem?_toList,Array.getElem?_eq_getElem h]at hk
     cases hx:bK parts[k].2 with
     |none=>simp[hx]at hk
     |some x=>
      simp only[hx,oSJ]at hk;split at hk
      ·rename_i YN
       injection hk with hk
       rw[<- hk];exact⟨rfl,rfl,rfl,YN⟩
      ·simp at hk
   ·simp at hc
  ·simp at hc
 |call c=>
  rw[ho]at hc;simp only[eY]at hc;split at hc
  ·rename_i args argTypes;split at hc
   ·rename_i s x t1 t2 ea et
    have ea:args=#[s,x]:=by rw[<- Array.toArray_toList (xs:=args),ea]
    have et:argTypes=#[t1,t2]:=by rw[<- Array.toArray_toList (xs:=argTypes),et]
    subst ea;subst et;split at hc
    ·rename_i R0;subst R0;split at hc
     ·rename_i e hu;split at hc
      ·rename_i i hi;split at hc
       ·rename_i z hz;obtain⟨u,h1,hc⟩:=bO hc;obtain⟨y,h2,hc⟩:=bO hc;obtain⟨y2,h3,hc⟩:=bO hc
        injection hc with hc
        subst hc;have hg:=iH h1;simp only[oBA,oDE,beq_iff_eq]at hg;split at hr
        ·exact LO hI hd hN h2 h3 ho hu hi rfl hr
        exact LW hI hd hN h2 h3 ho hu hi hz hg.1 rfl rfl hg.2 hr
       ·simp at hc
      ·simp at hc
     ·simp at hc
    ·split at hc
     ·rename_i e kn hu WM;split at hc
      ·rename_i i hi;split at hc
       ·rename_i z hz;obtain⟨u,h1,hc⟩:=bO hc;obtain⟨y,h2,hc⟩:=bO hc;obtain⟨y2,h3,hc⟩:=bO hc
        injection hc with hc
        subst hc;have hg:=iH h1;exact LV hI hd hN h2 h3 ho hu WM hi hz rfl rfl rfl (of_decide_eq_true hg) hr
       ·simp at hc
      ·simp at hc
     ·simp at hc
   ·simp at hc
  ·rename_i args argTypes;split at hc
   ·rename_i x y t1 t2 ea et
    have ea:args=#[x,y]:=by rw[<- Array.toArray_toList (xs:=args),ea]
    have et:argTypes=#[t1,t2]:=by rw[<- Array.toArray_toList (xs:=argTypes),et]
    subst ea;subst et;split at hc
    ·rename_i e hu;obtain⟨sz,h1,hc⟩:=bO hc;obtain⟨y1,h2,hc⟩:=bO hc;obtain⟨y2,h3,hc⟩:=bO hc
     injection hc with hc
     subst hc;exact LP hI hd hN h2 h3 ho hu h1 hr
    ·simp at hc
   ·simp at hc
  ·rename_i args argTypes;obtain⟨l,h1,rfl⟩:=ge hc;exact KN (mx:=false) hI hd hN (lU h1) ho hr
  ·rename_i args argTypes;obtain⟨l,h1,rfl⟩:=ge hc;exact KN (mx:=true) hI hd hN (lU h1) ho hr
  ·rename_i args argTypes;split at hc
   ·rename_i x t1 ea et
    have ea:args=#[x]:=by rw[<- Array.toArray_toList (xs:=args),ea]
    have et:argTypes=#[t1]:=by rw[<- Array.toArray_toList (xs:=argTypes),et]
    subst ea;subst et;split at hc
    ·rename_i e hu;obtain⟨y,hy,rfl⟩:=ge hc;exact LG hI hd hN hy ho hu hr
    ·rename_i hu;obtain⟨y,hy,rfl⟩:=ge hc;exact Jl hI hd hN hy ho hu hr
    ·simp at hc
   ·simp at hc
  ·simp at hc
 |store ty x y=>
  rw[ho]at hc;simp only[eY]at hc;obtain⟨n,h1,hc⟩:=bO hc;obtain⟨u,h2,hc⟩:=bO hc;obtain⟨x1,h3,hc⟩:=bO hc;obtain⟨y1,h4,hc⟩:=bO hc
  injection hc with hc
  subst hc;exact absurd hns (by simp[ho])
 |_=>rw[ho]at hc;simp[eY]at hc
end
inductive Loc where
 |t (i:Nat)
 |c (r o:Nat)
 |h (r o:Nat)
 |n (r:Nat)
 |v (q:Key)
 deriving DecidableEq
def Loc.hit:Loc->Loc->Bool
 |.t i,.t j=>i==j
 |.c r o,.c r' o'=>r==r'&&o==o'
 |.n r,.n r'=>r==r'
 |.n r,.c r' _=>r==r'
 |.h r o,.h r' o'=>r==r'&&o==o'
 |.n r,.h r' _=>r==r'
 |.v q,.v q'=>q==q'
 |_,_=>false
abbrev oN:=List Loc×List Loc
def hdW(r o:Nat)(t t':TV):List Loc:=if t'.hd=t.hd then[]else[.h r o]
def SP.foot{α:Type}:SP α->St->oN
 |.ret _,_=>([],[])
 |.fail,_=>([],[])
 |.rdT i k,σ=>(.t i::((k (σ.t i)).foot σ).1,((k (σ.t i)).foot σ).2)
 |.rdC r o k,σ=>(.c r o::((k (σ.c r o)).foot σ).1,((k (σ.c r o)).foot σ).2)
 |.rdH r o k,σ=>(.h r o::((k (σ.c r o).hd).foot σ).1,((k (σ.c r o).hd).foot σ).2)
 |.rdV q k,σ=>(.v q::((k (σ.v q)).foot σ).1,((k (σ.v q)).foot σ).2)
 |.wrT i t k,σ=>((k.foot { σ with tm:=dp σ.tm i t }).1,.t i::(k.foot { σ with tm:=dp σ.tm i t }).2)
 |.wrC r o t k,σ=>
  match b9 σ.ce r with
  |some l=>if o<l.length then(.n r :: .h r o::(k.foot { σ with ce:=dp σ.ce r (l.set o t) }).1,.c r o::(hdW r o (σ.c r o) t++(k.foot { σ with ce:=dp σ.ce r (l.set o t) }).2))else([],[])
  |none=>([],[])
 |.new r l k,σ=>(.v (r,0,0)::(k.foot { σ with ce:=dp σ.ce r l,vr:=nv σ.vr (r,0,0) }).1,.n r :: .v (r,0,0)::(k.foot { σ with ce:=dp σ.ce r l,vr:=nv σ.vr (r,0,0) }).2)
 |.bump q k,σ=>(.v q::(k.foot { σ with vr:=nv σ.vr q }).1,.v q::(k.foot { σ with vr:=nv σ.vr q }).2)
def gG(σ σ':St):Loc->Prop
 |.t i=>b9 σ.tm i=b9 σ'.tm i
 |.c r o=>σ.c r o=σ'.c r o
 |.h r o=>(σ.c r o).hd=(σ'.c r o).hd
 |.n r=>(b9 σ.ce r).map List.length=(b9 σ'.ce r).map List.length
 |.v q=>σ.v q=σ'.v q
def M9(σ σ':St):Prop:=∀x,gG σ σ' x
theorem gG.refl(σ:St)(x:Loc):gG σ σ x:=by cases x<;>rfl
theorem gG.symm{σ σ':St}{x:Loc}(h:gG σ σ' x):gG σ' σ x:=by cases x<;>exact Eq.symm h
theorem gG.trans{σ σ' σ'':St}{x:Loc}(h:gG σ σ' x)(h':gG σ' σ'' x):gG σ σ'' x:=by cases x<;>exact Eq.trans h h'
theorem IT{σ:St}{r o:Nat}{t:TV}{l:List TV}(h:b9 σ.ce r=some l)(ho:o<l.length)(r' o':Nat):St.c { σ with ce:=dp σ.ce r (l.set o t) } r' o'=if r'=r/\o'=o then t else σ.c r' o':=by
 have:=congrFun (congrFun (we (t:=t) h ho) r') o';exact this
theorem Pf{σ:St}{r:Nat}{l l':List TV}(h:b9 σ.ce r=some l)(hl:l'.length=l.length)(r':Nat):(b9 (dp σ.ce r l') r').map List.length=(b9 σ.ce r').map List.length:=by
 rw[cg]
 grind
theorem Fb{σ:St}{r:Nat}{l:List TV}{vr:List (Key×Nat)}(r' o':Nat):St.c { σ with ce:=dp σ.ce r l,vr:=vr } r' o'=if r'=r then l.getD o' .dead else σ.c r' o':=by
 unfold St.c;simp[cg];by_cases e:r=r'
 ·simp_all
 ·rw[oIN e,oIN (Ne.symm e)]
theorem iq{α:Type}{s:SP α}:∀{σ:St}{a:α}{τ:St},s.run σ=some (a,τ)->∀x,(∀w∈(s.foot σ).2,w.hit x=false)->gG σ τ x:=by
 induction s with
 |ret a=>intro σ b τ h x _;simp only[SP.run,oSJ,oPJ]at h;rw[h.2];exact gG.refl _ _
 |fail=>intro σ b τ h;simp[SP.run]at h
 |rdT i k ih=>intro σ b τ h x hx;exact ih _ h x hx
 |rdC r o k ih=>intro σ b τ h x hx;exact ih _ h x hx
 |rdH r o k ih=>intro σ b τ h x hx;exact ih _ h x hx
 |rdV q k ih=>intro σ b τ h x hx;exact ih _ h x hx
 |wrT i t k ih=>
  intro σ b τ h x hx;refine gG.trans ?_ (ih h x λw hw=>hx w (by simp[SP.foot,hw]));have h1:=hx (.t i) (by simp[SP.foot])
  cases x with
  |t j=>
   simp only[Loc.hit,beq_eq_false_iff_ne,ne_eq]at h1;simp[gG,cg,h1]
  |_=>exact rfl
 |wrC r o t k ih=>
  intro σ b τ h x hx;obtain⟨l,hl,ho,h2⟩:=b8 h;simp only[SP.foot,hl,ho,if_true]at hx;refine gG.trans ?_ (ih h2 x λw hw=>hx w (by simp[hw]));have h1:=hx (.c r o) (by simp)
  cases x with
  |c r' o'=>
   simp only[Loc.hit,Bool.and_eq_false_imp,beq_iff_eq,beq_eq_false_iff_ne,ne_eq]at h1;show σ.c r' o'=_;rw[IT hl ho,oIN];omega
  |h r' o'=>
   show(σ.c r' o').hd=TV.hd (St.c _ r' o');rw[IT hl ho];split
   ·rename_i e;obtain⟨e1,e2⟩:=e;subst e1;subst e2;by_cases hh:t.hd=(σ.c r' o').hd
    ·exact hh.symm
    ·have:=hx (.h r' o') (by simp[hdW,hh]);simp[Loc.hit]at this
   ·rfl
  |n r'=>exact(Pf hl (by simp) r').symm
  |_=>exact rfl
 |new r l k ih=>
  intro σ b τ h x hx;refine gG.trans ?_ (ih h x λw hw=>hx w (by simp[SP.foot,hw]));have h1:=hx (.n r) (by simp[SP.foot]);have h2:=hx (.v (r,0,0)) (by simp[SP.foot])
  cases x with
  |t j=>exact rfl
  |c r' o'=>
   simp only[Loc.hit,beq_eq_false_iff_ne,ne_eq]at h1;show σ.c r' o'=_;rw[Fb,oIN (Ne.symm h1)]
  |h r' o'=>
   simp only[Loc.hit,beq_eq_false_iff_ne,ne_eq]at h1;show(σ.c r' o').hd=TV.hd (St.c _ r' o');rw[Fb,oIN (Ne.symm h1)]
  |n r'=>
   simp only[Loc.hit,beq_eq_false_iff_ne,ne_eq]at h1;simp[gG,cg,h1]
  |v q=>
   simp only[Loc.hit,beq_eq_false_iff_ne,ne_eq]at h2;show pd σ.vr q=pd (nv σ.vr (r,0,0)) q;rw[ff,oIN h2];rfl
 |bump q k ih=>
  intro σ b τ h x hx;refine gG.trans ?_ (ih h x λw hw=>hx w (by simp[SP.foot,hw]));have h2:=hx (.v q) (by simp[SP.foot])
  cases x with
  |v q'=>
   simp only[Loc.hit,beq_eq_false_iff_ne,ne_eq]at h2;show pd σ.vr q'=pd (nv σ.vr q) q';rw[ff,oIN h2];rfl
  |_=>exact rfl
theorem ki{α:Type}{s:SP α}:∀{σ σ':St}{a:α}{τ:St},s.run σ=some (a,τ)->(∀x∈(s.foot σ).1,gG σ σ' x)->
 s.foot σ'=s.foot σ/\∃ τ',s.run σ'=some (a,τ')/\∀x,(gG σ σ' x\/∃w∈(s.foot σ).2,w.hit x=true)->gG τ τ' x:=by
 induction s with
 |ret a=>
  intro σ σ' b τ h hr;obtain⟨rfl,rfl⟩:=h;exact⟨rfl,σ',rfl,λx hx=>hx.elim id λ⟨w,hw,_⟩=>by simp[SP.foot]at hw⟩
 |fail=>intro σ σ' b τ h;simp[SP.run]at h
 |rdT i k ih=>
  intro σ σ' b τ h hr
  have h1:σ.t i=σ'.t i:=by
   have:b9 σ.tm i=b9 σ'.tm i:=hr (.t i) (by simp[SP.foot]);simp[St.t,this]
  obtain⟨e,τ',h2,h3⟩:=ih _ h λx hx=>hr x (by simp[SP.foot,hx]);refine⟨by simp only[SP.foot];rw[<- h1,e],τ',by simp only[SP.run];rw[<- h1];exact h2,h3⟩
 |rdC r o k ih=>
  intro σ σ' b τ h hr;have h1:σ.c r o=σ'.c r o:=hr (.c r o) (by simp[SP.foot]);obtain⟨e,τ',h2,h3⟩:=ih _ h λx hx=>hr x (by simp[SP.foot,hx]);refine⟨by simp only[SP.foot];rw[<- h1,e],τ',by simp only[SP.run];rw[<- h1];exact h2,h3⟩
 |rdH r o k ih=>
  intro σ σ' b τ h hr;have h1:(σ.c r o).hd=(σ'.c r o).hd:=hr (.h r o) (by simp[SP.foot]);obtain⟨e,τ',h2,h3⟩:=ih _ h λx hx=>hr x (by simp[SP.foot,hx]);refine⟨by simp only[SP.foot];rw[<- h1,e],τ',by simp only[SP.run];rw[<- h1];exact h2,h3⟩
 |rdV q k ih=>
  intro σ σ' b τ h hr;have h1:σ.v q=σ'.v q:=hr (.v q) (by simp[SP.foot]);obtain⟨e,τ',h2,h3⟩:=ih _ h λx hx=>hr x (by simp[SP.foot,hx]);refine⟨by simp only[SP.foot];rw[<- h1,e],τ',by simp only[SP.run];rw[<- h1];exact h2,h3⟩
 |wrT i t k ih=>
  intro σ σ' b τ h hr
  have hal:∀x,(gG σ σ' x\/x=.t i)->gG { σ with tm:=dp σ.tm i t } { σ' with tm:=dp σ'.tm i t } x:=by
   rintro x (hx|rfl)
   ·cases x with
    |t j=>
     show b9 (dp σ.tm i t) j=b9 (dp σ'.tm i t) j;rw[cg,cg];split
     ·rfl
     ·exact hx
    |_=>exact hx
   ·show b9 (dp σ.tm i t) i=b9 (dp σ'.tm i t) i;rw[cg,cg];simp
  obtain⟨e,τ',h2,h3⟩:=ih (σ':={ σ' with tm:=dp σ'.tm i t }) h λx hx=>hal x (.inl (hr x (by simp[SP.foot,hx])));refine⟨by simp only[SP.foot];rw[e],τ',h2,λx hx=>h3 x ?_⟩;rcases hx with hx|⟨w,hw,hh⟩
  ·exact .inl (hal x (.inl hx))
  ·simp only[SP.foot,List.mem_cons]at hw;rcases hw with rfl|hw
   ·left;refine hal x (.inr ?_);cases x<;>simp[Loc.hit]at hh;rw[hh]
   ·exact .inr ⟨w,hw,hh⟩
 |wrC r o t k ih=>
  intro σ σ' b τ h hr;obtain⟨l,hl,ho,h0⟩:=b8 h;simp only[SP.foot,hl,ho,if_true]at hr⊢;have hn:(b9 σ.ce r).map List.length=(b9 σ'.ce r).map List.length:=hr (.n r) (by simp)
  obtain⟨l',Yw,Uh⟩:∃l',b9 σ'.ce r=some l'/\l'.length=l.length:=by
   rw[hl]at hn
   cases ha:b9 σ'.ce r with
   |none=>rw[ha]at hn;simp at hn
   |some l'=>rw[ha]at hn;exact⟨l',rfl,by simpa using hn.symm⟩
  have Zj:o<l'.length:=by omega
  have hh:(σ.c r o).hd=(σ'.c r o).hd:=hr (.h r o) (by simp)
  have hW:hdW r o (σ'.c r o) t=hdW r o (σ.c r o) t:=by unfold hdW;rw[hh]
  have hal:∀x,(gG σ σ' x\/x=.c r o\/x=.h r o)->gG { σ with ce:=dp σ.ce r (l.set o t) } { σ' with ce:=dp σ'.ce r (l'.set o t) } x:=by
   rintro x (hx|rfl|rfl)
   ·cases x with
    |c r' o'=>
     show St.c _ r' o'=St.c _ r' o';rw[IT hl ho,IT Yw Zj];split
     ·rfl
     ·exact hx
    |h r' o'=>
     show TV.hd (St.c _ r' o')=TV.hd (St.c _ r' o');rw[IT hl ho,IT Yw Zj];split
     ·rfl
     ·exact hx
    |n r'=>
     show Option.map _ _=Option.map _ _;rw[Pf hl (by simp),Pf Yw (by simp)];exact hx
    |_=>exact hx
   ·show St.c _ r o=St.c _ r o;rw[IT hl ho,IT Yw Zj];simp
   ·show TV.hd (St.c _ r o)=TV.hd (St.c _ r o);rw[IT hl ho,IT Yw Zj];simp
  obtain⟨e,τ',h2,h3⟩:=ih (σ':={ σ' with ce:=dp σ'.ce r (l'.set o t) }) h0 λx hx=>hal x (.inl (hr x (by simp[hx])));refine⟨by simp only[Yw,Zj,if_true];rw[e,hW],τ',by simp only[SP.run,Yw,Zj,if_true];exact h2,λx hx=>h3 x ?_⟩;rcases hx with hx|⟨w,hw,hh⟩
  ·exact .inl (hal x (.inl hx))
  ·simp only[List.mem_cons,List.mem_append]at hw;rcases hw with rfl|hw|hw
   ·left;refine hal x (.inr (.inl ?_));cases x<;>simp[Loc.hit]at hh;rw[hh.1,hh.2]
   ·left;refine hal x (.inr (.inr ?_));unfold hdW at hw;split at hw
    ·simp at hw
    ·simp only[List.mem_singleton]at hw;subst hw;cases x<;>simp[Loc.hit]at hh;rw[hh.1,hh.2]
   ·exact .inr ⟨w,hw,hh⟩
 |new r l k ih=>
  intro σ σ' b τ h hr;have hv:σ.v (r,0,0)=σ'.v (r,0,0):=hr (.v (r,0,0)) (by simp[SP.foot])
  have hal:∀x,(gG σ σ' x\/(Loc.n r).hit x=true)->gG { σ with ce:=dp σ.ce r l,vr:=nv σ.vr (r,0,0) } { σ' with ce:=dp σ'.ce r l,vr:=nv σ'.vr (r,0,0) } x:=by
   intro x hx
   cases x with
   |t j=>rcases hx with hx|hx
         ·exact hx
         ·simp[Loc.hit]at hx
   |c r' o'=>
    show St.c _ r' o'=St.c _ r' o';rw[Fb,Fb];split
    ·rfl
    ·rename_i e;rcases hx with hx|hx
     ·exact hx
     ·simp[Loc.hit]at hx;exact absurd hx.symm e
   |h r' o'=>
    show TV.hd (St.c _ r' o')=TV.hd (St.c _ r' o');rw[Fb,Fb];split
    ·rfl
    ·rename_i e;rcases hx with hx|hx
     ·exact hx
     ·simp[Loc.hit]at hx;exact absurd hx.symm e
   |n r'=>
    show Option.map _ (b9 (dp _ _ _) _)=Option.map _ (b9 (dp _ _ _) _);rw[cg,cg];split
    ·rfl
    ·rename_i e;rcases hx with hx|hx
     ·exact hx
     ·simp[Loc.hit]at hx;exact absurd hx e
   |v q=>
    show pd (nv _ _) q=pd (nv _ _) q;rw[ff,ff];rcases hx with hx|hx
    ·have hx:pd σ.vr q=pd σ'.vr q:=hx;rw[hx]
    ·simp[Loc.hit]at hx
  obtain⟨e,τ',h2,h3⟩:=ih (σ':={ σ' with ce:=dp σ'.ce r l,vr:=nv σ'.vr (r,0,0) }) h λx hx=>hal x (.inl (hr x (by simp[SP.foot,hx])));refine⟨by simp only[SP.foot];rw[e],τ',h2,λx hx=>h3 x ?_⟩;rcases hx with hx|⟨w,hw,hh⟩
  ·exact .inl (hal x (.inl hx))
  ·simp only[SP.foot,List.mem_cons]at hw;rcases hw with rfl|rfl|hw
   ·exact .inl (hal x (.inr hh))
   ·left;refine hal x (.inl ?_);cases x<;>simp[Loc.hit]at hh;rw[<- hh];exact hv
   ·exact .inr ⟨w,hw,hh⟩
 |bump q k ih=>
  intro σ σ' b τ h hr;have hv:σ.v q=σ'.v q:=hr (.v q) (by simp[SP.foot])
  have hal:∀x,gG σ σ' x->gG { σ with vr:=nv σ.vr q } { σ' with vr:=nv σ'.vr q } x:=by
   intro x hx
   cases x with
   |v q'=>
    show pd (nv _ _) q'=pd (nv _ _) q';rw[ff,ff];have hx:pd σ.vr q'=pd σ'.vr q':=hx;rw[hx]
   |_=>exact hx
  obtain⟨e,τ',h2,h3⟩:=ih (σ':={ σ' with vr:=nv σ'.vr q }) h λx hx=>hal x (hr x (by simp[SP.foot,hx]));refine⟨by simp only[SP.foot];rw[e],τ',h2,λx hx=>h3 x ?_⟩;rcases hx with hx|⟨w,hw,hh⟩
  ·exact .inl (hal x hx)
  ·simp only[SP.foot,List.mem_cons]at hw;rcases hw with rfl|hw
   ·left;refine hal x ?_;cases x<;>simp[Loc.hit]at hh;rw[<- hh];exact hv
   ·exact .inr ⟨w,hw,hh⟩
def EE(a b:List Loc):Bool:=a.any λw=>b.any λx=>w.hit x
def mG(a b:oN):Bool:=EE a.2 b.1||EE a.2 b.2||EE b.2 a.1||EE b.2 a.2
theorem oF{a b:List Loc}(h:EE a b=false):∀w∈a,∀x∈b,w.hit x=false:=by
 simp[EE]at h
 simp_all
theorem J3{w w' x:Loc}(h:w.hit x=true)(h':w'.hit x=true):w.hit w'=true\/w'.hit w=true:=by
 cases x<;>cases w<;>simp[Loc.hit]at h<;>cases w'<;>simp[Loc.hit]at h'⊢<;>simp_all
theorem D0{A B:SP Unit}{σ σ1 σ2:St}(hA:A.run σ=some ((),σ1))(hB:B.run σ1=some ((),σ2))(hc:mG (A.foot σ) (B.foot σ1)=false):
 ∃ σ1' σ2',B.run σ=some ((),σ1')/\A.run σ1'=some ((),σ2')/\M9 σ2 σ2'/\B.foot σ=B.foot σ1/\A.foot σ1'=A.foot σ:=by
 simp only[mG,Bool.or_eq_false_iff]at hc;obtain⟨⟨⟨c1,c2⟩,c3⟩,c4⟩:=hc;have hR:=λx hx=>(iq hA x λw hw=>oF c1 w hw x hx).symm;obtain⟨e1,σ1',Su,hB2⟩:=ki hB hR;have Xm:∀x,(∀w∈(B.foot σ1).2,w.hit x=false)->gG σ σ1' x:=λx hx=>iq Su x (by simp_all);have hR2:=λx hx=>Xm x λw hw=>oF c3 w hw x hx;obtain⟨e2,σ2',O',hA2⟩:=ki hA hR2;refine⟨σ1',σ2',Su,O',λx=>?_,e1,e2⟩;by_cases hx:∃w∈(B.foot σ1).2,w.hit x=true
 ·obtain⟨w,hw,hh⟩:=hx;refine gG.trans (hB2 x (.inr ⟨w,hw,hh⟩)) (iq O' x λw' R4=>?_);rw[e2]at R4
  cases hh':w'.hit x with
  |false=>rfl
  |true=>
   rcases J3 hh hh' with h|h
   ·rw[oF c4 w hw w' R4]at h;simp at h
   ·rw[oF c2 w' R4 w hw]at h;simp at h
 ·have hx':∀w∈(B.foot σ1).2,w.hit x=false:=λw hw=>by
   simp_all
  refine gG.trans (iq hB x hx').symm (hA2 x ?_)
  simp_all
theorem vm{α:Type}{s:SP α}{σ σ':St}{a:α}{τ:St}(h:s.run σ=some (a,τ))(hs:M9 σ σ'):s.foot σ'=s.foot σ/\∃ τ',s.run σ'=some (a,τ')/\M9 τ τ':=by
 have ⟨e,τ',h1,h2⟩:=ki h λx _=>hs x;exact⟨e,τ',h1,λx=>h2 x (.inl (hs x))⟩
def oO(pg:Nat->SP Unit):List Nat->St->Option (List (Nat×oN)×St)
 | [],σ=>some ([],σ)
 |i::r,σ=>((pg i).run σ).bind λx=>(oO pg r x.2).bind λy=>some ((i,(pg i).foot σ)::y.1,y.2)
theorem Eo{pg:Nat->SP Unit}:∀{L:List Nat}{σ σ':St}{fs:List (Nat×oN)}{τ:St},oO pg L σ=some (fs,τ)->M9 σ σ'->∃ τ',oO pg L σ'=some (fs,τ')/\M9 τ τ':=by
 intro L
 induction L with
 |nil=>
  intro σ σ' fs τ h hs;obtain⟨rfl,rfl⟩:=h;exact⟨σ',rfl,hs⟩
 |cons i L ih=>
  intro σ σ' fs τ h hs;have ⟨⟨u,σ1⟩,h1,h2⟩:=bO h;have ⟨⟨QU,τ0⟩,h3,h4⟩:=bO h2
  injection h4 with h4
  injection h4 with h4 h5
  subst h5;have ⟨e,σ1',k1,k2⟩:=vm h1 hs;have ⟨τ',k3,k4⟩:=ih h3 k2;exact⟨τ',by simp[oO,k1,k3,e];rw[h4],k4⟩
theorem Bp{pg:Nat->SP Unit}{i:Nat}{post:List Nat}:∀{pre:List Nat}{σ:St}{fs:List (Nat×oN)}{τ:St},oO pg (pre++i::post) σ=some (fs,τ)->
 (∀Yc F W7,fs=Yc++(i,F)::W7->Yc.map (·.1)=pre->∀y∈Yc,mG y.2 F=false)->
 ∃ σ' τ' Yc F W7,fs=Yc++(i,F)::W7/\Yc.map (·.1)=pre/\(pg i).run σ=some ((),σ')/\(pg i).foot σ=F/\oO pg (pre++post) σ'=some (Yc++W7,τ')/\M9 τ τ':=by
 intro pre
 induction pre with
 |nil=>
  intro σ fs τ h _;obtain⟨⟨u,σ1⟩,h1,h2⟩:=bO h;obtain⟨⟨QU,τ0⟩,h3,h4⟩:=bO h2
  injection h4 with h4
  injection h4 with h4 h5
  subst h5;exact⟨σ1,τ0,[],_,QU,h4.symm,rfl,h1,rfl,h3,λx=>gG.refl _ _⟩
 |cons j pre ih=>
  intro σ fs τ h hc;obtain⟨⟨u,σ1⟩,h1,h2⟩:=bO h;obtain⟨⟨QU,τ0⟩,h3,h4⟩:=bO h2
  injection h4 with h4
  injection h4 with h4 h5
  subst h5;obtain⟨σ2,τ',Yc,F,W7,e1,e2,k1,k2,k3,k4⟩:=ih h3 λYc F W7 e e' y hy=>hc ((j,(pg j).foot σ)::Yc) F W7 (by rw[<- h4,e];rfl) (by simp[e']) y (by simp[hy])
  have Zi:mG ((pg j).foot σ) ((pg i).foot σ1)=false:=by
   rw[k2];exact hc ((j,(pg j).foot σ)::Yc) F W7 (by rw[<- h4,e1];rfl) (by simp[e2]) (j,(pg j).foot σ) (by simp)
  obtain⟨σ1',σ2',m1,m2,m3,m4,m5⟩:=D0 h1 k1 Zi;obtain⟨τ2,n1,n2⟩:=Eo k3 m3;refine⟨σ1',τ2,(j,(pg j).foot σ)::Yc,F,W7,by rw[<- h4,e1];rfl,by simp[e2],m1,m4.trans k2,?_,λx=>(k4 x).trans (n2 x)⟩;simp only[List.cons_append,oO,m2,oBS,n1,m5]
def gB(deps:List (List Nat)):List (Nat×oN)->Bool
 | []=>true
 |(j,F)::r=>(r.all λy=>!mG F y.2||(deps.getD y.1 []).contains j)&&gB deps r
structure gE where
 dst:Option Nat
 guard:Option (Nat×Bool)
 op:TOp
inductive gF where
 |skip
 |nrm (pers:List Nat×List Nat)
 |reg (id:Nat) (draw:Option (List (List Nat))) (ops:List gE) (pers:List Nat×List Nat)
 |seq (a b:gF)
 |cond (c:Opd) (a b:gF)
 |block (id:Nat) (b:gF)
 |loop (b:gF)
 |sc (b:gF)
 |exit (id:Nat)
 |ret
 |pre (l:List (Nat×Option Nat)) (a:gF)
 |post (a:gF) (l:List (Nat×Option Nat))
 |frz (i n:Nat) (a:gF)
inductive iO where
 |normal
 |exit (id:Nat)
 |ret
def renorm0(L:List Nat)(σ:St):TV->TV
 |.ptr p vs=>if L.contains p.root&&vs==gY σ.v p.root p.off p.hops.length then .ptr p (gY (λ_=>0) p.root p.off p.hops.length)else .dead
 |.pk p vs=>if L.contains p.root&&vs==gY σ.v p.root p.off (p.hops.length+1)then .pk p (gY (λ_=>0) p.root p.off (p.hops.length+1))else .dead
 |.pw p vs sz lo n=>if L.contains p.root&&vs==gY σ.v p.root p.off (p.hops.length+1)then .pw p (gY (λ_=>0) p.root p.off (p.hops.length+1)) sz lo n else .dead
 |.v x=>.v x
 |.sl c=>.sl c
 |.ip cs=>.ip cs
 |.ow []=>.ow []
 |.tup []=>.tup []
 |_=>.dead
def renorm(L:List Nat)(σ:St):TV->TV
 |.agg l=>.agg (l.map (renorm0 L σ))
 |.fn f l=>.fn f (l.map (renorm0 L σ))
 |t=>renorm0 L σ t
def normT(L:List Nat)(σ:St):List Nat->List (Nat×TV)
 | []=>[]
 |i::r=>match b9 σ.tm i with|some t=>(i,renorm L σ t)::normT L σ r|none=>normT L σ r
def normC(σ:St):List Nat->List (Nat×List TV)
 | []=>[]
 |r::l=>match b9 σ.ce r with|some c=>(r,c)::normC σ l|none=>normC σ l
abbrev Prs:=List Nat×List Nat
def St.norm(σ:St)(pers:Prs):St:=⟨normT pers.2 σ pers.1,normC σ pers.2,[]⟩
def evop(call:Option Nat->TOp->SP Unit)(dst:Option Nat)(op:TOp):SP Unit:=
 match op with
 |.call k f args=>call dst (.call k f args)
 |.store n mv a x=>match dst with|none=>ev1 0 (.store n mv a x)|some _=>.fail
 |op=>match dst with|some d=>ev1 d op|none=>.fail
def w8(call:Option Nat->TOp->SP Unit)(o:gE)(σ:St):Option St:=
 match o.guard with
 |none=>((evop call o.dst o.op).run σ).map (·.2)
 |some (j,want)=>
  match σ.t j with
  |.v (.bool b)=>if b=want then((evop call o.dst o.op).run σ).map (·.2)else match o.dst with|some d=>some { σ with tm:=dp σ.tm d (.tup []) } |none=>some σ
  |.tup []=>match o.dst with|some d=>some { σ with tm:=dp σ.tm d (.tup []) } |none=>some σ
  |_=>none
def pZ(call:Option Nat->TOp->SP Unit):List gE->St->Option St
 | [],σ=>some σ
 |o::r,σ=>(w8 call o σ).bind (pZ call r)
def setNo(dst:Option Nat):SP Unit:=match dst with|some d=>.wrT d (.tup []) (.ret ())|none=>.ret ()
def spOp(call:Option Nat->TOp->SP Unit)(o:gE):SP Unit:=
 match o.guard with
 |none=>evop call o.dst o.op
 |some (j,want)=>.rdT j λt=>match t with
  |.v (.bool b)=>if b=want then evop call o.dst o.op else setNo o.dst
  |.tup []=>setNo o.dst
  |_=>.fail
def A0:gE:=⟨none,none,.lens (.t 0)⟩
theorem CP{call:Option Nat->TOp->SP Unit}{o:gE}{σ σ':St}(h:(spOp call o).run σ=some ((),σ')):w8 call o σ=some σ':=by
 have Zq:∀{σ'},(setNo o.dst).run σ=some ((),σ')->(match o.dst with|some d=>some { σ with tm:=dp σ.tm d (.tup []) } |none=>some σ)=some σ':=by
  intro σ' h;unfold setNo at h
  cases hd:o.dst with
  |none=>rw[hd]at h;simp only[SP.run,oSJ,oPJ,true_and]at h;simp[h]
  |some d=>rw[hd]at h;simp only[SP.run,oSJ,oPJ,true_and]at h;simp[h]
 unfold spOp at h;unfold w8
 cases hg:o.guard with
 |none=>simp_all
 |some g=>
  rw[hg]at h;simp[SP.run]at h⊢;split at h
  ·grind
  ·simp_all
  ·simp[SP.run]at h
def Mx(f:St->Option (iO×St)):Nat->St->Option (iO×St)
 |0,_=>none
 |n+1,σ=>(f σ).bind λx=>match x.1 with|.normal=>Mx f n x.2|e=>some (e,x.2)
def shr1(x:Nat×Option Nat):SP Unit:=.rdT x.1 λt=>match x.2,t with
 |none,.pk p vs=>(take1 false (.pk p vs)).bind λt'=>.wrT x.1 t'.imm (.ret ())
 |some off,.ptr p vs=>(chk p p.hops.length vs).bind λ_=>if p.fits off then(getPl (p.add off)).bind λt=>match t with
  |.ow c=>(peek1 (p.add off) (.ow c)).bind λt'=>(take1 false t').bind λ_=>.ret ()
  |_=>.ret ()
  else .fail
 |_,_=>.ret ()
def shrs:List (Nat×Option Nat)->SP Unit
 | []=>.ret ()
 |x::r=>(shr1 x).bind λ_=>shrs r
def St.anew(σ:St):St:=σ.norm (σ.tm.map (·.1),σ.ce.map (·.1))
def Ep(r:Nat):Nat->Nat->SP (List TV)
 |0,_=>.ret []
 |n+1,o=>.rdC r o λt=>if zS t then(Ep r n (o+1)).bind λl=>.ret (t::l)else .fail
def Np(i n:Nat):SP Unit:=
 if 1000<=n then .ret ()else
 .rdT i λt=>match t with
 |.ptr p vs=>if p.root=2*i+2/\p.off=0/\p.hops=[]then(chk p 0 vs).bind λ_=>(Ep p.root n 0).bind λl=>.new p.root [] (.wrT i (.ip l) (.ret ()))else .fail
 |_=>.fail
def runC(call:Option Nat->TOp->SP Unit)(N:Nat):gF->St->Option (iO×St)
 |.skip,σ=>some (.normal,σ)
 |.nrm pers,σ=>some (.normal,σ.norm pers)
 |.reg _ draw ops pers,σ=>
  match draw with
  |none=>(pZ call ops σ).map fun σ'=>(.normal,σ'.norm pers)
  |some deps=>(oO (λi=>spOp call (ops.getD i A0)) (List.range ops.length) σ).bind λx=>if gB deps x.1 then some (.normal,x.2.norm pers)else none
 |.seq a b,σ=>(runC call N a σ).bind λx=>match x.1 with|.normal=>runC call N b x.2|e=>some (e,x.2)
 |.cond c a b,σ=>((opd c).run σ).bind λx=>match x.1 with|.v (.bool true)=>runC call N a σ |.v (.bool false)=>runC call N b σ |_=>none
 |.block id b,σ=>(runC call N b σ).bind λx=>match x.1 with|.exit i=>if i=id then some (.normal,x.2)else some (.exit i,x.2)|e=>some (e,x.2)
 |.loop b,σ=>Mx (runC call N b) N σ
 |.sc b,σ=>runC call N b σ
 |.exit id,σ=>some (.exit id,σ)
 |.ret,σ=>some (.ret,σ)
 |.pre l a,σ=>((shrs l).run σ).bind λx=>runC call N a x.2.anew
 |.frz i n a,σ=>((Np i n).run σ).bind λx=>runC call N a x.2.anew
 |.post a l,σ=>(runC call N a σ).bind λx=>((shrs l).run x.2).bind λy=>some (x.1,y.2.anew)
section norm
variable {M:Fm} {σ σ':St} {ts:Array Value} {w:World} {G:Gh}
theorem Fi(L:List Nat)(σ:St)(l:List Nat)(i:Nat):b9 (normT L σ l) i=if i∈l then(b9 σ.tm i).map (renorm L σ)else none:=by
 induction l with
 |nil=>simp[normT,b9]
 |cons j r ih=>
  simp[normT];by_cases hj:j=i
  ·subst hj
   cases h:b9 σ.tm j with
   |none=>simp_all
   |some t=>simp[b9]
  ·cases h:b9 σ.tm j with
   |none=>simp[ih,Ne.symm hj]
   |some t=>simp[b9,hj,ih,Ne.symm hj]
theorem rW(σ:St)(l:List Nat)(r:Nat):b9 (normC σ l) r=if r∈l then b9 σ.ce r else none:=by
 induction l with
 |nil=>simp[normC,b9]
 |cons j l ih=>
  simp[normC];by_cases hj:j=r
  ·subst hj
   cases h:b9 σ.ce j with
   |none=>simp_all
   |some t=>simp[b9]
  ·cases h:b9 σ.ce j with
   |none=>simp[ih,Ne.symm hj]
   |some t=>simp[b9,hj,ih,Ne.symm hj]
theorem Inv.norm(hI:Inv M σ [] [] ts w G)(pers:Prs):∃G',Inv M (σ.norm pers) [] [] ts w G':=by
 obtain⟨L,hL⟩:∃L,L=pers.2:=⟨_,rfl⟩
 have hc:∀r o,(σ.norm pers).c r o=if r∈L then σ.c r o else .dead:=by
  intro r o;unfold St.c St.norm;simp only[<- hL,rW];by_cases h:r∈L<;>simp[h]
 have hE:∀r o,b5 M (σ.norm pers) [] r o=if r∈L then b5 M σ [] r o else .dead:=by
  intro r o;unfold b5;by_cases h:r=M.hr
  ·simp[h]
  ·simp only[oIN h,hc]
 let G':Gh:=⟨G.β,G.η,λr o k=>if r∈L then G.φ r o k else False⟩
 have Z':∀r o k,G'.φ r o k->G.φ r o k:=by
  intro r o k hk;simp only[G']at hk;split at hk
  ·exact hk
  ·exact hk.elim
 have YE:=iM.ghost (C':=b5 M (σ.norm pers) []) (G':=G') hI.core rfl (λk ⟨r,o,h⟩=>⟨r,o,Z' r o k h⟩) (λr1 o1 r2 o2 k h1 h2=>hI.core.dis _ _ _ _ k (Z' _ _ k h1) (Z' _ _ k h2))
  (λr b o0 n hb o ho=>by
   rw[hE];split
   ·exact hI.core.boxc r b o0 n hb o ho
   ·rfl)
  (λr o=>by
   by_cases h:r∈L
   ·left;exact⟨by rw[hE,oIP h],λk=>by simp[G',h],rfl⟩
   ·right;left;exact⟨by rw[hE,oIN h],λk hk=>by simp[G',h]at hk⟩)
 have hv0:(σ.norm pers).v=λ_=>0:=by funext q;rfl
 have UT:∀{t:TV}{x:Value},TmR w (G.F M.A) σ.v (b5 M σ []) G t x->TmR w (G'.F M.A) (σ.norm pers).v (b5 M (σ.norm pers) []) G' (renorm0 L σ t) x:=by
  intro t x h;rw[hv0]
  cases h with
  |v h=>exact .v h
  |nil=>exact .nil
  |sl h=>exact .sl (h.frame (λ_ _ _=>rfl) λk hk _=>YE.2 k hk)
  |dead=>exact .dead
  | @ptr p vs x V0 h0 hv hok=>
   simp only[renorm0];split
   ·rename_i hc;simp only[oBA,List.contains_iff_mem,beq_iff_eq]at hc;refine .ptr (λ_=>0) (λ_=>Nat.le_refl _) rfl λ_=>?_;obtain⟨h1,ad,t,h2,h3,h4⟩:=hok hc.2;exact⟨h1,ad,t,jg h2 rfl λ_=>rfl,h3,by rw[hE,oIP hc.1];exact h4⟩
   ·exact .dead
  |ip u Zi hr=>exact .ip u (λj hj=>⟨YE.2 _ (Zi j hj).1,(Zi j hj).2⟩) λj hj=>(hr j hj).frame (λ_ _ _=>rfl) λk hk _=>YE.2 k hk
  | @pk p vs x V0 h0 hv hok=>
   simp only[renorm0];split
   ·rename_i hc;simp only[oBA,List.contains_iff_mem,beq_iff_eq]at hc;refine .pk (λ_=>0) (λ_=>Nat.le_refl _) rfl λ_=>?_;obtain⟨h1,c,h2,h3⟩:=hok hc.2;exact⟨h1,c,h2,by rw[hE,oIP hc.1];exact h3⟩
   ·exact .dead
  | @pw p vs sz lo n x V0 h0 hv hok=>
   simp only[renorm0];split
   ·rename_i hc;simp only[oBA,List.contains_iff_mem,beq_iff_eq]at hc;refine .pw (λ_=>0) (λ_=>Nat.le_refl _) rfl λ_=>?_;obtain⟨h1,c,hd,h2,h3,h4⟩:=hok hc.2;exact⟨h1,c,hd,h2,by rw[hE,oIP hc.1];exact h3,h4⟩
   ·exact .dead
  |agg hl h=>exact .dead
  | @tup l xs hl h=>
   cases l with
   |nil=>exact .tup hl λj hj=>by simp at hj
   |cons=>exact .dead
  |fn hl h=>exact .dead
 have RU:∀{t:TV}{x:Value},TmR w (G.F M.A) σ.v (b5 M σ []) G t x->TmR w (G'.F M.A) (σ.norm pers).v (b5 M (σ.norm pers) []) G' (renorm L σ t) x:=by
  intro t x h;have h0:=UT h
  cases h with
  | @agg l xs hl h=>exact .agg (by simpa using hl) λj hj=>by simpa using UT (h j (by simpa using hj))
  | @fn f l xs hl h=>exact .fn (by simpa using hl) λj hj=>by simpa using UT (h j (by simpa using hj))
  |_=>exact h0
 refine⟨G',YE.1,λi=>?_,hI.fram.ghost rfl (λk ⟨r,o,h⟩=>⟨r,o,Z' r o k h⟩),λr l h=>?_,hI.size,rfl,λj hj=>by simp at hj,λr b o n hb l h=>?_,hI.kept⟩
 ·have e:(σ.norm pers).t i=if i∈pers.1 then(match b9 σ.tm i with|some t=>renorm L σ t|none=>.dead)else .dead:=by
   unfold St.t St.norm;simp only[<- hL,Fi];by_cases h:i∈pers.1
   ·simp only[h,if_true];cases b9 σ.tm i<;>rfl
   ·simp[h]
  rw[e];split
  ·cases ha:b9 σ.tm i with
   |none=>exact .dead
   |some t=>
    have:=hI.tmr i
    have et:σ.t i=t:=by simp[St.t,ha]
    rw[et]at this;exact RU this
  ·exact .dead
 ·have:b9 (normC σ L) r=some l:=by rw[hL];exact h
  rw[rW]at this;split at this
  ·exact hI.keys r l this
  ·simp at this
 ·have:b9 (normC σ L) r=some l:=by rw[hL];exact h
  rw[rW]at this;split at this
  ·exact hI.shape r b o n hb l this
  ·simp at this
end norm
def KC(P:Program)(M:Fm)(σ':St)(a:Act)(o:Oper)(w:World):Prop:=
 ∀(K:Act->World->Prop)(Q:Exit->Act->World->Prop),(∀a' w' G',Inv M σ' [] [] a'.tmps w' G'->a'.defers=a.defers->K a' w')->o.wp P a w K Q
theorem gu(a:Act)(d:Option Tmp)(v:Value):(a.put d v).defers=a.defers:=by cases d<;>rfl
theorem jB.simO{P:Program}{M:Fm}{σ':St}{a:Act}{o:Oper}{w:World}(h:jB P M σ' a o w):KC P M σ' a o w:=by
 have ⟨nx,x,w',G',hrun,Tu,hI⟩:=h;intro K Q hK;unfold Oper.wp;rw[hrun];rcases Tu with rfl|⟨rfl,rfl⟩
 all_goals exact hK _ w' G' hI (gu _ _ _)
structure sD (P:Program)(M:Fm)(isCall:Op->TOp->Prop)(ops:Array Oper)(o:Oper)(t:gE):Prop where
 dst:t.dst=o.dst
 lt:∀d,o.dst=some d->M.ok d/\M.pr (2*d+2)=none
 guard:(o.guard=none/\t.guard=none)\/∃j want dj,o.guard=some (j,want)/\t.guard=some (dj,want)/\(ops[j]?).bind (·.dst)=some dj
 op:(∃mv,eY P mv o.op=some t.op)\/isCall o.op t.op
def vi(P:Program)(M:Fm)(isCall:Op->TOp->Prop)(call:Option Nat->TOp->SP Unit):Prop:=
 ∀(o:Oper)(t:TOp)(σ σ':St)(a:Act)(w:World)(G:Gh),isCall o.op t->(∀d,o.dst=some d->M.ok d/\M.pr (2*d+2)=none)->Inv M σ [] [] a.tmps w G->(evop call o.dst t).run σ=some ((),σ')->KC P M σ' a o w
section
variable {P:Program} {M:Fm} {σ σ':St} {w:World} {G:Gh} {a:Act} {o:Oper} {isCall:Op->TOp->Prop} {call:Option Nat->TOp->SP Unit} {ops:Array Oper}
theorem Cp{mv:Nat}{op:Op}{t:TOp}(h:eY P mv op=some t):∀k f args,t≠.call k f args:=by
 rintro k f args rfl;cases op<;>simp only[eY]at h
 case move x=>(repeat' split at h)<;>first|(simp at h;done)|(obtain⟨_,_,h⟩:=ge h;simp at h)
 case assign x=>split at h<;>(obtain⟨_,_,h⟩:=ge h;simp at h)
 case pick=>obtain⟨_,_,h⟩:=bO h;obtain⟨_,_,h⟩:=bO h;obtain⟨_,_,h⟩:=bO h;simp at h
 case alloc=>obtain⟨_,_,h⟩:=ge h;simp at h
 case box=>obtain⟨_,_,h⟩:=bO h;obtain⟨_,_,h⟩:=bO h;unfold O1 at h;split at h<;>simp at h
 case build=>(repeat' split at h)<;>first|(simp at h;done)|(obtain⟨_,_,h⟩:=bO h;obtain⟨_,_,h⟩:=bO h;simp at h)|(obtain⟨_,_,h⟩:=bO h;simp at h)
 case buildSlice=>(repeat' split at h)<;>first|(simp at h;done)|(obtain⟨_,_,h⟩:=bO h;obtain⟨_,_,h⟩:=bO h;simp at h)
 case load=>obtain⟨_,_,h⟩:=bO h;obtain⟨_,_,h⟩:=bO h;simp at h
 case store=>obtain⟨_,_,h⟩:=bO h;obtain⟨_,_,h⟩:=bO h;obtain⟨_,_,h⟩:=bO h;obtain⟨_,_,h⟩:=bO h;simp at h
 case nilCheck=>obtain⟨_,_,h⟩:=ge h;simp at h
 case binOp=>(repeat' split at h)<;>first|(simp at h;done)|(obtain⟨_,_,h⟩:=bO h;obtain⟨_,_,h⟩:=bO h;simp at h)
 case unOp=>obtain⟨_,_,h⟩:=ge h;simp at h
 case convert=>(repeat' split at h)<;>first|(simp at h;done)|(obtain⟨_,_,h⟩:=ge h;simp at h)
 case makeFunc=>split at h<;>first|(simp at h;done)|(obtain⟨_,_,h⟩:=bO h;obtain⟨_,_,h⟩:=bO h;simp at h)
 case makeSlice=>(repeat' split at h)<;>first|(simp at h;done)|(obtain⟨_,_,h⟩:=bO h;obtain⟨_,_,h⟩:=bO h;obtain⟨_,_,h⟩:=bO h;simp at h)
 case slice=>(repeat' split at h)<;>first|(simp at h;done)|(obtain⟨_,_,h⟩:=bO h;obtain⟨_,_,h⟩:=bO h;obtain⟨_,_,h⟩:=bO h;simp at h;done)|(obtain⟨_,_,h⟩:=bO h;obtain⟨_,_,h⟩:=bO h;obtain⟨_,_,h⟩:=bO h;obtain⟨_,_,h⟩:=bO h;simp at h)
 case fieldAddr=>(repeat' split at h)<;>first|(simp at h;done)|(obtain⟨_,_,h⟩:=ge h;simp at h)
 case field=>(repeat' split at h)<;>first|(simp at h;done)|(obtain⟨_,_,h⟩:=bO h;obtain⟨_,_,h⟩:=bO h;simp at h)
 case indexAddr=>(repeat' split at h)<;>first|(simp at h;done)|(obtain⟨_,_,h⟩:=bO h;obtain⟨_,_,h⟩:=bO h;obtain⟨_,_,h⟩:=bO h;simp at h)
 case index=>(repeat' split at h)<;>first|(simp at h;done)|(obtain⟨_,_,h⟩:=bO h;obtain⟨_,_,h⟩:=bO h;simp at h)
 case extract=>obtain⟨_,_,h⟩:=ge h;simp at h
 case call=>(repeat' split at h)<;>first|(simp at h;done)|(obtain⟨_,_,h⟩:=bO h;obtain⟨_,_,h⟩:=bO h;obtain⟨_,_,h⟩:=bO h;simp at h)|(obtain⟨_,_,h⟩:=ge h;simp at h)
 all_goals simp at h
theorem C3(hI:Inv M σ [] [] a.tmps w G){t:gE}(hok:sD P M isCall ops o t)(Zk:vi P M isCall call)(hr:(evop call t.dst t.op).run σ=some ((),σ')):KC P M σ' a o w:=by
 rcases hok.op with⟨mv,hc⟩|hc
 ·have SD:=Cp hc;by_cases hst:∃ty x y,o.op=.store ty x y
  ·obtain⟨ty,x,y,ho⟩:=hst;rw[ho]at hc;simp only[eY]at hc;obtain⟨n,h1,hc⟩:=bO hc;obtain⟨u,h2,hc⟩:=bO hc;obtain⟨x1,h3,hc⟩:=bO hc;obtain⟨y1,h4,hc⟩:=bO hc
   injection hc with hc
   rw[<- hc]at hr;simp only[evop]at hr
   cases hd:t.dst with
   |some d=>simp[hd,SP.run]at hr
   |none=>
    simp only[hd]at hr;have hg:=iH h2;exact(FR hI (d:=0) (by rw[<- hok.dst,hd]) h3 h4 ho h1 (by simpa using hg) hr).simO
  ·cases hd:t.dst with
   |none=>
    exfalso;rw[hd]at hr
    cases ht:t.op<;>rw[ht]at hr<;>simp only[evop,SP.run]at hr<;>first|(simp at hr;done)|skip
    ·rename_i n QF a' x';rw[ht]at hc;cases ho:o.op<;>rw[ho]at hc hst<;>simp only[eY]at hc
     case store=>exact hst ⟨_,_,_,rfl⟩
     case move x=>(repeat' split at hc)<;>first|(simp at hc;done)|(obtain⟨_,_,h⟩:=ge hc;simp at h)
     case assign x=>split at hc<;>(obtain⟨_,_,h⟩:=ge hc;simp at h)
     case pick=>obtain⟨_,_,h⟩:=bO hc;obtain⟨_,_,h⟩:=bO h;obtain⟨_,_,h⟩:=bO h;simp at h
     case alloc=>obtain⟨_,_,h⟩:=ge hc;simp at h
     case box=>obtain⟨_,_,h⟩:=bO hc;obtain⟨_,_,h⟩:=bO h;unfold O1 at h;split at h<;>simp at h
     case build=>(repeat' split at hc)<;>first|(simp at hc;done)|(obtain⟨_,_,h⟩:=bO hc;obtain⟨_,_,h⟩:=bO h;simp at h)|(obtain⟨_,_,h⟩:=bO hc;simp at h)
     case buildSlice=>(repeat' split at hc)<;>first|(simp at hc;done)|(obtain⟨_,_,h⟩:=bO hc;obtain⟨_,_,h⟩:=bO h;simp at h)
     case load=>obtain⟨_,_,h⟩:=bO hc;obtain⟨_,_,h⟩:=bO h;simp at h
     case nilCheck=>obtain⟨_,_,h⟩:=ge hc;simp at h
     case binOp=>(repeat' split at hc)<;>first|(simp at hc;done)|(obtain⟨_,_,h⟩:=bO hc;obtain⟨_,_,h⟩:=bO h;simp at h)
     case unOp=>obtain⟨_,_,h⟩:=ge hc;simp at h
     case convert=>(repeat' split at hc)<;>first|(simp at hc;done)|(obtain⟨_,_,h⟩:=ge hc;simp at h)
     case makeFunc=>split at hc<;>first|(simp at hc;done)|(obtain⟨_,_,h⟩:=bO hc;obtain⟨_,_,h⟩:=bO h;simp at h)
     case makeSlice=>(repeat' split at hc)<;>first|(simp at hc;done)|(obtain⟨_,_,h⟩:=bO hc;obtain⟨_,_,h⟩:=bO h;obtain⟨_,_,h⟩:=bO h;simp at h)
     case slice=>(repeat' split at hc)<;>first|(simp at hc;done)|(obtain⟨_,_,h⟩:=bO hc;obtain⟨_,_,h⟩:=bO h;obtain⟨_,_,h⟩:=bO h;simp at h;done)|(obtain⟨_,_,h⟩:=bO hc;obtain⟨_,_,h⟩:=bO h;obtain⟨_,_,h⟩:=bO h;obtain⟨_,_,h⟩:=bO h;simp at h)
     case fieldAddr=>(repeat' split at hc)<;>first|(simp at hc;done)|(obtain⟨_,_,h⟩:=ge hc;simp at h)
     case field=>(repeat' split at hc)<;>first|(simp at hc;done)|(obtain⟨_,_,h⟩:=bO hc;obtain⟨_,_,h⟩:=bO h;simp at h)
     case indexAddr=>(repeat' split at hc)<;>first|(simp at hc;done)|(obtain⟨_,_,h⟩:=bO hc;obtain⟨_,_,h⟩:=bO h;obtain⟨_,_,h⟩:=bO h;simp at h)
     case index=>(repeat' split at hc)<;>first|(simp at hc;done)|(obtain⟨_,_,h⟩:=bO hc;obtain⟨_,_,h⟩:=bO h;simp at h)
     case extract=>obtain⟨_,_,h⟩:=ge hc;simp at h
     case call=>(repeat' split at hc)<;>first|(simp at hc;done)|(obtain⟨_,_,h⟩:=bO hc;obtain⟨_,_,h⟩:=bO h;obtain⟨_,_,h⟩:=bO h;simp at h)|(obtain⟨_,_,h⟩:=ge hc;simp at h)
     all_goals simp at hc
    ·exact absurd ht (SD _ _ _)
   |some d=>
    have WK:o.dst=some d:=by rw[<- hok.dst,hd]
    obtain⟨h1,h2⟩:=hok.lt d WK
    have X7:(ev1 d t.op).run σ=some ((),σ'):=by
     rw[hd]at hr
     cases ht:t.op<;>rw[ht]at hr<;>simp only[evop]at hr<;>first|exact hr|(simp[SP.run]at hr;done)|exact absurd ht (SD _ _ _)
    exact(LB hI WK h1 h2 hc X7 hst).simO
 ·exact Zk o t.op σ σ' a w G hc hok.lt hI (by rw[<- hok.dst];exact hr)
theorem y8{F:Nat->Prop}{V:Vs}{C:Cs}:TmR w F V C G (.tup []) undef:=.tup (by simp) λj hj=>by simp at hj
theorem LA{tops:List gE}(hlen:tops.length=ops.size)(hok:∀i (h:i<ops.size)(h':i<tops.length),sD P M isCall ops ops[i] tops[i])(Zk:vi P M isCall call){Q:Exit->Act->World->Prop}:
 ∀(L:List Nat)(σ:St)(a:Act)(w:World)(G:Gh),(∀i∈L,i<ops.size)->Inv M σ [] [] a.tmps w G->pZ call (L.map λi=>tops.getD i ⟨none,none,.lens (.t 0)⟩) σ=some σ' ->
  (∀a' w' G',Inv M σ' [] [] a'.tmps w' G'->a'.defers=a.defers->Q .normal a' w')->wpOps P ops Q L a w:=by
 intro L
 induction L with
 |nil=>
  intro σ a w G _ hI hr hQ;simp only[List.map_nil,pZ,oSJ]at hr;subst hr;exact hQ a w G hI rfl
 |cons i L ih=>
  intro σ a w G hL hI hr hQ;have hi:i<ops.size:=hL i (by simp)
  have ZT:i<tops.length:=by omega
  simp only[List.map_cons,pZ]at hr
  have e:tops.getD i ⟨none,none,.lens (.t 0)⟩=tops[i]:=by simp[ZT]
  rw[e]at hr
  cases hro:w8 call tops[i] σ with
  |none=>simp[hro]at hr
  |some σ1=>
   simp only[hro,oBS]at hr;have hop:=hok i hi ZT;simp only[wpOps,Array.getElem?_eq_getElem hi]
   have go:(evop call tops[i].dst tops[i].op).run σ=some ((),σ1)->ops[i].wp P a w (wpOps P ops Q L) Q:=λh=>by
    refine C3 hI hop Zk h _ _ λa' w' G' ZK hd=>?_;exact ih σ1 a' w' G' (λj hj=>hL j (by simp[hj])) ZK hr (λa2 w2 G2 h2 hd2=>hQ a2 w2 G2 h2 (hd2.trans hd))
   have skip:(match tops[i].dst with|some d=>some { σ with tm:=dp σ.tm d (.tup []) } |none=>some σ)=some σ1->wpOps P ops Q L (a.put ops[i].dst undef) w:=λh=>by
    rw[hop.dst]at h
    cases hd:ops[i].dst with
    |none=>
     rw[hd]at h
     injection h with h
     subst h;exact ih σ a w G (λj hj=>hL j (by simp[hj])) hI hr hQ
    |some d=>
     rw[hd]at h
     injection h with h
     subst h;exact ih _ (a.put (some d) undef) w G (λj hj=>hL j (by simp[hj])) (hI.wrT (hop.lt d hd).1 y8) hr (λa2 w2 G2 h2 hd2=>hQ a2 w2 G2 h2 hd2)
   unfold w8 at hro
   rcases hop.guard with⟨g1,g2⟩|⟨j,want,dj,g1,g2,g3⟩
   ·rw[oIP (by simp[Region.wanted,g1])];left;simp only[g2]at hro;obtain⟨⟨u,σ2⟩,h1,h2⟩:=ge hro;exact go (by rw[h1];simp only at h2;rw[h2])
   ·simp only[g2]at hro
    have hy:yielded ops a.tmps j=match(a.tmps[dj]?:Option Value)with|some (.bool b)=>some b|_=>none:=by
     unfold yielded;rw[g3];rfl
    have Zv:=hI.tmr dj
    cases hs:σ.t dj with
    |v x=>
     rw[hs]at Zv hro;obtain⟨hx,_⟩:=Zv.v_inv
     cases x with
     |bool b=>
      have Z6:a.tmps[dj]?=some (.bool b):=by
       rw[Array.getD_eq_getD_getElem?]at hx
       cases hq:a.tmps[dj]? with
       |none=>rw[hq]at hx;simp[undef]at hx
       |some v=>rw[hq]at hx;simp at hx;rw[hx]
      have VZ:yielded ops a.tmps j=some b:=by rw[hy,Z6]
      simp only at hro;by_cases hb:b=want
      ·rw[oIP hb]at hro;rw[oIP (by simp[Region.wanted,g1,VZ,hb])];left;obtain⟨⟨u,σ2⟩,h1,h2⟩:=ge hro;exact go (by rw[h1];simp only at h2;rw[h2])
      ·rw[oIN hb]at hro;rw[oIN (by simp[Region.wanted,g1,VZ,hb])];exact skip hro
     |_=>simp at hro
    |tup l=>
     rw[hs]at Zv hro
     cases l with
     |nil=>
      have hu:a.tmps.getD dj undef=undef:=by
       generalize a.tmps.getD dj undef=z at Zv
       cases Zv with
       | @tup _ xs hl _=>have:xs=#[]:=by apply Array.eq_empty_of_size_eq_zero;simpa using hl
                         rw[this];rfl
      have VZ:yielded ops a.tmps j=none:=by
       rw[hy];rw[Array.getD_eq_getD_getElem?]at hu
       cases hq:a.tmps[dj]? with
       |none=>rfl
       |some v=>
        rw[hq]at hu;simp only[Option.getD_some]at hu;rw[hu];rfl
      simp only at hro;rw[oIN (by simp[Region.wanted,g1,VZ])];exact skip hro
     |cons=>simp at hro
    |_=>rw[hs]at hro;simp at hro
end
section
variable {P:Program} {M:Fm} {σ σ':St} {H:List TV} {xs:List Value} {ts:Array Value} {w:World} {G:Gh} {a:Act} {o:Oper} {isCall:Op->TOp->Prop} {call:Option Nat->TOp->SP Unit} {ops:Array Oper}
theorem Inv.congr(hI:Inv M σ H xs ts w G)(hs:M9 σ σ'):Inv M σ' H xs ts w G:=by
 have hc:b5 M σ' H=b5 M σ H:=by
  funext r o;unfold b5;split
  ·rfl
  ·exact(hs (.c r o)).symm
 have hv:σ'.v=σ.v:=by funext q;exact(hs (.v q)).symm
 have hn:∀r l,b9 σ'.ce r=some l->∃l0,b9 σ.ce r=some l0/\l0.length=l.length:=by
  intro r l h;have h1:(b9 σ.ce r).map List.length=(b9 σ'.ce r).map List.length:=hs (.n r);rw[h]at h1
  cases ha:b9 σ.ce r with
  |none=>rw[ha]at h1;simp at h1
  |some l0=>rw[ha]at h1;exact⟨l0,rfl,by simpa using h1⟩
 refine⟨by rw[hc];exact hI.core,λi=>?_,hI.fram,λr l h=>?_,hI.size,hI.hand,hI.hval,λr b o n hb l h=>?_,hI.kept⟩
 ·have ht:σ'.t i=σ.t i:=by
   have:b9 σ.tm i=b9 σ'.tm i:=hs (.t i);simp[St.t,this]
  rw[hc,hv,ht];exact hI.tmr i
 ·obtain⟨l0,h1,_⟩:=hn r l h;exact hI.keys r l0 h1
 ·obtain⟨l0,h1,h2⟩:=hn r l h;rw[<- h2];exact hI.shape r b o n hb l0 h1
theorem I9{t:gE}{i:Nat}{Q:Exit->Act->World->Prop}{K:Act->World->Prop}(hi:i<ops.size)(hop:sD P M isCall ops ops[i] t)(Zk:vi P M isCall call)(hI:Inv M σ [] [] a.tmps w G)(hro:w8 call t σ=some σ')
 (hK:∀a' w' G',Inv M σ' [] [] a'.tmps w' G'->a'.defers=a.defers->K a' w'):wpOp P ops Q i K a w:=by
 unfold wpOp;simp only[Array.getElem?_eq_getElem hi]
 have go:(evop call t.dst t.op).run σ=some ((),σ')->ops[i].wp P a w K Q:=λh=>by
  exact C3 hI hop Zk h _ _ hK
 have skip:(match t.dst with|some d=>some { σ with tm:=dp σ.tm d (.tup []) } |none=>some σ)=some σ'->K (a.put ops[i].dst undef) w:=λh=>by
  rw[hop.dst]at h
  cases hd:ops[i].dst with
  |none=>
   rw[hd]at h
   injection h with h
   subst h;exact hK a w G hI rfl
  |some d=>
   rw[hd]at h
   injection h with h
   subst h;exact hK (a.put (some d) undef) w G (hI.wrT (hop.lt d hd).1 y8) rfl
 unfold w8 at hro
 rcases hop.guard with⟨g1,g2⟩|⟨j,want,dj,g1,g2,g3⟩
 ·rw[oIP (by simp[Region.wanted,g1])];left;simp only[g2]at hro;obtain⟨⟨u,σ2⟩,h1,h2⟩:=ge hro;exact go (by rw[h1];simp only at h2;rw[h2])
 ·simp only[g2]at hro
  have hy:yielded ops a.tmps j=match(a.tmps[dj]?:Option Value)with|some (.bool b)=>some b|_=>none:=by
   unfold yielded;rw[g3];rfl
  have Zv:=hI.tmr dj
  cases hs:σ.t dj with
  |v x=>
   rw[hs]at Zv hro;obtain⟨hx,_⟩:=Zv.v_inv
   cases x with
   |bool b=>
    have Z6:a.tmps[dj]?=some (.bool b):=by
     rw[Array.getD_eq_getD_getElem?]at hx
     cases hq:a.tmps[dj]? with
     |none=>rw[hq]at hx;simp[undef]at hx
     |some v=>rw[hq]at hx;simp at hx;rw[hx]
    have VZ:yielded ops a.tmps j=some b:=by rw[hy,Z6]
    simp only at hro;by_cases hb:b=want
    ·rw[oIP hb]at hro;rw[oIP (by simp[Region.wanted,g1,VZ,hb])];left;obtain⟨⟨u,σ2⟩,h1,h2⟩:=ge hro
     simp_all
    ·rw[oIN hb]at hro;rw[oIN (by simp[Region.wanted,g1,VZ,hb])];exact skip hro
   |_=>simp at hro
  |tup l=>
   rw[hs]at Zv hro
   cases l with
   |nil=>
    have hu:a.tmps.getD dj undef=undef:=by
     generalize a.tmps.getD dj undef=z at Zv
     cases Zv with
     | @tup _ xs hl _=>have:xs=#[]:=by apply Array.eq_empty_of_size_eq_zero;simpa using hl
                       rw[this];rfl
    have VZ:yielded ops a.tmps j=none:=by
     rw[hy];rw[Array.getD_eq_getD_getElem?]at hu
     cases hq:a.tmps[dj]? with
     |none=>rfl
     |some v=>
      rw[hq]at hu;simp only[Option.getD_some]at hu;rw[hu];rfl
    rw[oIN (by simp[Region.wanted,g1,VZ])];exact skip hro
   |cons=>simp at hro
  |_=>rw[hs]at hro;simp at hro
structure vh (ops:Array Oper)(deps:List (List Nat)):Prop where
 back:∀i (h:i<ops.size),∀e∈ops[i].after,Region.binds .any e=true->e.on<i
 dep:∀i (h:i<ops.size),∀j∈deps.getD i [],∃e∈ops[i].after,Region.binds .any e=true/\(e.on=j\/j∈deps.getD e.on [])
theorem r9{deps:List (List Nat)}{x:Nat×oN}:∀{l l':List (Nat×oN)},gB deps (l++x::l')=true->gB deps (l++l')=true/\∀y∈l,mG y.2 x.2=false\/y.1∈deps.getD x.1 []:=by
 intro l
 induction l with
 |nil=>
  intro l' h;simp only[List.nil_append,gB,oBA]at h
  simp_all
 |cons z l ih=>
  intro l' h;simp only[List.cons_append,gB,oBA,List.all_eq_true]at h;obtain⟨h1,h2⟩:=ih h.2;refine⟨by simp only[List.cons_append,gB,oBA,List.all_eq_true];exact⟨λy hy=>h.1 y (by rcases List.mem_append.1 hy with hy|hy<;>simp[hy]),h1⟩,λy hy=>?_⟩;rcases List.mem_cons.1 hy with rfl|hy
  ·simp_all
  ·exact h2 y hy
theorem LX{tops:List gE}{deps:List (List Nat)}(hlen:tops.length=ops.size)(hok:∀i (h:i<ops.size)(h':i<tops.length),sD P M isCall ops ops[i] tops[i])(Zk:vi P M isCall call)(Y2:vh ops deps){Q:Exit->Act->World->Prop}:
 ∀(n:Nat)(C:List Nat)(listed:Array Bool)(σ:St)(a:Act)(w:World)(G:Gh)(fs:List (Nat×oN))(τ:St),C.length=n->listed.size=ops.size->C.Pairwise (· < ·)->(∀j,j∈C↔j<ops.size/\listed.getD j true=false)->
  (∀i,listed.getD i false=true->∀j∈deps.getD i [],listed.getD j false=true)->Inv M σ [] [] a.tmps w G->oO (λi=>spOp call (tops.getD i A0)) C σ=some (fs,τ)->gB deps fs=true ->
  (∀a' w' G',Inv M τ [] [] a'.tmps w' G'->a'.defers=a.defers->Q .normal a' w')->wpAny P .any ops Q n listed a w:=by
 have WL:∀{listed:Array Bool},listed.size=ops.size->∀j,j<ops.size->(listed.getD j true=false↔¬listed.getD j false=true):=by
  intro listed hs j hj
  have:j<listed.size:=by omega
  simp[Array.getD_eq_getD_getElem?,this]
 intro n
 induction n with
 |zero=>
  intro C listed σ a w G fs τ hC hs YP Zy Zi hI hr hp hQ;have hC:C=[]:=oEN hC;subst hC;obtain⟨rfl,rfl⟩:=hr;refine⟨?_,hQ a w G hI rfl⟩;apply List.eq_nil_iff_forall_not_mem.2;intro j hj;obtain⟨h1,o,h2,_⟩:=mem_ready.1 hj;have:=(Zy j).2 ⟨(Array.getElem?_eq_some_iff.1 h2).1,h1⟩;simp at this
 |succ n ih=>
  intro C listed σ a w G fs τ hC hs YP Zy Zi hI hr hp hQ;refine⟨λhnil=>?_,λi hi=>?_⟩
  ·exfalso
   cases C with
   |nil=>simp at hC
   |cons h C=>
    have hh:=(Zy h).1 (by simp)
    have:h∈Region.ready .any ops listed:=by
     refine mem_ready.2 ⟨hh.2,ops[h]'hh.1,Array.getElem?_eq_getElem hh.1,λe he hb=>?_⟩;have hlt:=Y2.back h hh.1 e he hb
     have P1:e.on<ops.size:=by omega
     cases hl:listed.getD e.on false with
     |true=>rfl
     |false=>
      have hm:=(Zy e.on).2 ⟨P1,(WL hs _ P1).2 (by rw[hl];simp)⟩;rcases List.mem_cons.1 hm with e1|e1
      ·omega
      ·have:=(List.pairwise_cons.1 YP).1 _ e1;omega
    rw[hnil]at this;simp at this
  ·obtain⟨h1,o,h2,h3⟩:=mem_ready.1 hi;have Tj:i<ops.size:=(Array.getElem?_eq_some_iff.1 h2).1
   have hoe:o=ops[i]:=by rw[Array.getElem?_eq_getElem Tj]at h2;injection h2 with h2;exact h2.symm
   subst hoe;have hiC:=(Zy i).2 ⟨Tj,h1⟩;obtain⟨pre,post,rfl⟩:=List.append_of_mem hiC
   have S3:∀j∈deps.getD i [],listed.getD j false=true:=λj hj=>by
    obtain⟨e,he,hb,h4⟩:=Y2.dep i Tj j hj;have hl:=h3 e he hb;rcases h4 with rfl|h4
    ·exact hl
    ·exact Zi _ hl j h4
   have UA:∀Yc F W7,fs=Yc++(i,F)::W7->Yc.map (·.1)=pre->∀y∈Yc,mG y.2 F=false:=by
    rintro Yc F W7 rfl TG y hy
    rcases(r9 hp).2 y hy with h|h
    ·exact h
    ·have hyC:y.1∈pre++i::post:=by rw[<- TG];exact List.mem_append_left _ (List.mem_map_of_mem hy)
     have:=(Zy y.1).1 hyC;exact absurd (S3 _ h) ((WL hs _ this.1).1 this.2)
   obtain⟨σ',τ',Yc,F,W7,rfl,TG,hrun,_,ZW,Y5⟩:=Bp hr UA
   have ZT:i<tops.length:=by omega
   have e:tops.getD i A0=tops[i]:=by simp[ZT]
   simp only[e]at hrun;refine I9 Tj (hok i Tj ZT) Zk hI (CP hrun) λa' w' G' ZK hd=>?_
   have hne:∀j∈pre++post,j≠i:=λj hj e=>by
    subst e;rw[List.pairwise_append]at YP;rcases List.mem_append.1 hj with hj|hj
    ·have:=YP.2.2 j hj j (by simp);omega
    ·have:=(List.pairwise_cons.1 YP.2.1).1 j hj;omega
   refine ih (pre++post) (listed.setIfInBounds i true) σ' a' w' G' (Yc++W7) τ' (by simp at hC⊢;omega) (by simp[hs]) ?_ (λj=>?_) (λk hk j hj=>?_) ZK ZW (r9 hp).1 λa2 w2 G2 h4 h5=>hQ a2 w2 G2 (h4.congr λx=>(Y5 x).symm) (h5.trans hd)
   ·refine YP.sublist ?_;exact List.Sublist.append_left (List.sublist_cons_self i post) pre
   ·constructor
    ·intro hj
     have hjC:j∈pre++i::post:=by rcases List.mem_append.1 hj with hj|hj<;>simp[hj]
     have:=(Zy j).1 hjC;exact⟨this.1,by rw[getD_set_ne true (Ne.symm (hne j hj))];exact this.2⟩
    ·rintro⟨hj1,hj2⟩
     have P8:j≠i:=by
      rintro rfl
      have:j<listed.size:=by omega
      simp[Array.getD_eq_getD_getElem?,this]at hj2
     rw[getD_set_ne true (Ne.symm P8)]at hj2;have:=(Zy j).2 ⟨hj1,hj2⟩;rcases List.mem_append.1 this with h|h
     ·exact List.mem_append_left _ h
     ·rcases List.mem_cons.1 h with h|h
      ·exact absurd h P8
      ·exact List.mem_append_right _ h
   ·by_cases hki:k=i
    ·subst hki;exact getD_set_true (S3 j hj)
    ·rw[getD_set_ne false (Ne.symm hki)]at hk;exact getD_set_true (Zi k hk j hj)
theorem C4{tops:List gE}{deps:List (List Nat)}{id:Nat}(hm:P.follows .mixedOrders=true)(hlen:tops.length=ops.size)(hok:∀i (h:i<ops.size)(h':i<tops.length),sD P M isCall ops ops[i] tops[i])(Zk:vi P M isCall call)(Y2:vh ops deps)
 {Q:Exit->Act->World->Prop}{fs:List (Nat×oN)}{τ:St}(hI:Inv M σ [] [] a.tmps w G)(hr:oO (λi=>spOp call (tops.getD i A0)) (List.range tops.length) σ=some (fs,τ))(hp:gB deps fs=true)
 (hQ:∀a' w' G',Inv M τ [] [] a'.tmps w' G'->a'.defers=a.defers->Q .normal a' w'):(Code.region id ops true).wp P Q a w:=by
 refine wp_region_any hm ?_
 have ZK:Inv M σ [] [] a.tmps { w with drawn:=w.drawn+1 } G:=by
  exact(hI.grow (w':={ w with drawn:=w.drawn+1 }) (λ_ _=>rfl) (Nat.le_refl _) rfl rfl rfl).1
 refine LX hlen hok Zk Y2 ops.size (List.range ops.size) _ σ a _ G fs τ (by simp) (by simp) List.pairwise_lt_range (λj=>?_) (λi hi=>?_) ZK (by simp_all) hp hQ
 ·simp_all
 ·exfalso;rw[Array.getD_eq_getD_getElem?,Array.getElem?_replicate]at hi;split at hi<;>simp at hi
end
def SP.quiet{α:Type}(d:Nat)(S:List Nat):SP α->Prop
 |.ret _=>True
 |.fail=>True
 |.rdT i k=>i∈S/\∀t,(k t).quiet d S
 |.rdC _ _ k=>∀t,(k t).quiet d S
 |.rdH _ _ k=>∀t,(k t).quiet d S
 |.rdV _ k=>∀n,(k n).quiet d S
 |.wrT i _ k=>i=d/\k.quiet d S
 |.wrC _ _ _ _=>False
 |.new _ _ _=>False
 |.bump _ _=>False
theorem bH{α β:Type}{d:Nat}{S:List Nat}{s:SP α}{f:α->SP β}(h:s.quiet d S)(hf:∀a,(f a).quiet d S):(s.bind f).quiet d S:=by
 induction s with
 |ret a=>exact hf a
 |fail=>exact trivial
 |rdT i k ih=>exact⟨h.1,λt=>ih t (h.2 t)⟩
 |rdC r o k ih=>exact λt=>ih t (h t)
 |rdH r o k ih=>exact λt=>ih t (h t)
 |rdV q k ih=>exact λn=>ih n (h n)
 |wrT i t k ih=>exact⟨h.1,ih h.2⟩
 |wrC r o t k ih=>exact h.elim
 |new r l k ih=>exact h.elim
 |bump q k ih=>exact h.elim
theorem mS{α:Type}{d:Nat}{S:List Nat}{s:SP α}(h:s.quiet d S)(σ:St):(∀x∈(s.foot σ).2,x=.t d)/\∀i,Loc.t i∈(s.foot σ).1->i∈S:=by
 induction s generalizing σ with
 |ret a=>exact⟨λx hx=>by simp[SP.foot]at hx,λi hi=>by simp[SP.foot]at hi⟩
 |fail=>exact⟨λx hx=>by simp[SP.foot]at hx,λi hi=>by simp[SP.foot]at hi⟩
 |rdT i k ih=>
  obtain⟨h1,h2⟩:=ih _ (h.2 (σ.t i)) σ;refine⟨h1,λj hj=>?_⟩;simp only[SP.foot,List.mem_cons]at hj;rcases hj with hj|hj
  ·injection hj with hj;subst hj;exact h.1
  ·exact h2 j hj
 |rdC r o k ih=>
  obtain⟨h1,h2⟩:=ih _ (h (σ.c r o)) σ;refine⟨h1,λj hj=>?_⟩;simp only[SP.foot]at hj
  simp_all
 |rdH r o k ih=>
  obtain⟨h1,h2⟩:=ih _ (h (σ.c r o).hd) σ;refine⟨h1,λj hj=>?_⟩;simp only[SP.foot,List.mem_cons]at hj
  simp_all
 |rdV q k ih=>
  obtain⟨h1,h2⟩:=ih _ (h (σ.v q)) σ;refine⟨h1,λj hj=>?_⟩;simp only[SP.foot,List.mem_cons]at hj
  simp_all
 |wrT i t k ih=>
  obtain⟨h1,h2⟩:=ih h.2 { σ with tm:=dp σ.tm i t };refine⟨λx hx=>?_,h2⟩;simp only[SP.foot,List.mem_cons]at hx;rcases hx with hx|hx
  ·rw[hx,h.1]
  ·exact h1 x hx
 |wrC r o t k ih=>exact h.elim
 |new r l k ih=>exact h.elim
 |bump q k ih=>exact h.elim
def fA:Opd->List Nat
 |.t i=>[i]
 |_=>[]
def ew:TOp->Option (List Nat)
 |.mov (.t i)=>some [i]
 |.mov (.c x)=>match pt x with|.v _=>some []|_=>none
 |.pick c a b=>some (fA c++(fA a++fA b))
 |.load _ a=>some (fA a)
 |.nilc x=>some (fA x)
 |.fld _ a=>some (fA a)
 |.fldv _ _ x=>some (fA x)
 |.idx _ x i=>some (fA x++fA i)
 |.idxa _ _ x i=>some (fA x++fA i)
 |.ext x _=>some (fA x)
 |.bin _ x y=>some (fA x++fA y)
 |.bnb _ x y=>some (fA x++fA y)
 |.eqa _ _ x y=>some (fA x++fA y)
 |.un _ x=>some (fA x)
 |.conv _ x=>some (fA x)
 |.len x=>some (fA x)
 |.lens x=>some (fA x)
 |.ixs x i=>some (fA x++fA i)
 |_=>none
section
variable {d:Nat} {S:List Nat}
theorem cw{x:Opd}(h:∀i∈fA x,i∈S):(opd x).quiet d S:=by
 cases x with
 |t i=>exact⟨h i (by simp[fA]),λ_=>trivial⟩
 |_=>exact trivial
theorem rE{l:List Key}:(rdVs l).quiet d S:=by
 induction l with
 |nil=>exact trivial
 |cons q l ih=>exact λn=>bH ih λ_=>trivial
theorem jo{p:bS}{n:Nat}{vs:List Nat}:(chk p n vs).quiet d S:=bH rE λl=>by split<;>exact trivial
theorem kB{p:bS}:(getPl p).quiet d S:=λtv=>by
 show SP.quiet d S (match b7 tv p.hops with|some t=>SP.ret t|none=>SP.fail);cases b7 tv p.hops<;>exact trivial
theorem wq{p:bS}:(MG p).quiet d S:=by
 unfold MG;split
 ·exact λ_=>trivial
 ·exact bH kB λ_=>trivial
theorem pm{p:bS}{t:TV}:(peek1 p t).quiet d S:=by
 cases t with
 |ow c=>exact bH rE λ_=>trivial
 |_=>exact trivial
theorem Br{p:bS}:(peekP p).quiet d S:=by
 unfold peekP;split
 ·refine λh=>?_
  cases h with
  |some ls=>exact bH rE λ_=>trivial
  |none=>exact bH kB λ_=>pm
 ·exact bH kB λ_=>pm
theorem Bs:∀{n:Nat}{p:bS},(peekL p n).quiet d S:=by
 intro n
 induction n with
 |zero=>intro p;exact trivial
 |succ n ih=>
  refine bH kB λt=>bH pm λt'=>?_;split
  ·exact trivial
  ·split
   ·exact bH ih λ_=>trivial
   ·exact trivial
theorem cH{t:TV}:(wr d t).quiet d S:=⟨rfl,trivial⟩
theorem iY{t:TV}:(rq t).quiet d S:=by cases t<;>exact trivial
theorem pn{t:TV}:(natOf t).quiet d S:=by
 cases t with
 |v x=>
  cases x with
  |int k n=>cases n<;>exact trivial
  |_=>exact trivial
 |_=>exact trivial
theorem kA{α:Type}{o:Option α}:(ig o).quiet d S:=by cases o<;>exact trivial
theorem zw{t:TV}:(jq t).quiet d S:=by
 cases t with
 |pk p vs=>exact bH jo λ_=>bH wq λt=>by cases t<;>exact trivial
 |pw p vs sz lo n=>exact bH jo λ_=>trivial
 |ow c=>cases c<;>exact trivial
 |_=>exact trivial
theorem zx{op:TOp}(h:ew op=some S):(ev1 d op).quiet d S:=by
 cases op with
 |mov x=>
  cases x with
  |t i=>
   simp only[ew,oSJ]at h;subst h;refine bH (cw λj hj=>by simpa[fA]using hj) λt=>?_
   cases t with
   |ow c=>exact trivial
   |agg l=>
    simp only;split
    ·exact trivial
    ·exact cH
   |_=>exact cH
  |c x=>
   simp only[ew]at h;split at h
   ·rename_i y hy
    have e:ev1 d (.mov (.c x))=wr d (.v y):=by simp only[ev1,opd,hy,SP.bind]
    rw[e];exact cH
   ·simp at h
  |f _=>simp[ew]at h
 |pick c a b=>
  simp only[ew,oSJ]at h;subst h;refine bH (cw λj hj=>by simp[hj]) λt=>?_;split
  ·rename_i bb
   refine bH ?_ λt=>by split<;>first|exact cH|exact trivial
   cases bb
   ·exact cw λj hj=>by simp at hj;simp[hj]
   ·exact cw λj hj=>by simp at hj;simp[hj]
  ·exact trivial
 |load n a=>
  simp only[ew,oSJ]at h;subst h;refine bH (cw λj hj=>by simpa using hj) λt=>?_;split
  ·refine bH jo λ_=>?_
   cases n with
   |none=>exact bH Br λ_=>cH
   |some n=>exact bH Bs λ_=>cH
  ·split<;>first|exact cH|exact trivial
  ·exact trivial
 |nilc x=>
  simp only[ew,oSJ]at h;subst h;refine bH (cw λj hj=>by simpa using hj) λt=>?_;split
  ·exact bH jo λ_=>cH
  ·exact cH
  ·exact cH
  ·exact trivial
 |fld off a=>
  simp only[ew,oSJ]at h;subst h;refine bH (cw λj hj=>by simpa using hj) λt=>?_;split
  ·refine bH jo λ_=>?_
   split<;>first|exact cH|exact trivial
  ·split<;>first|exact cH|exact trivial
  ·exact trivial
 |fldv off n x=>
  simp only[ew,oSJ]at h;subst h;refine bH (cw λj hj=>by simpa using hj) λt=>?_
  (repeat' split)<;>first|exact cH|exact trivial
 |idx sz x i=>
  simp only[ew,oSJ]at h;subst h;refine bH (cw λj hj=>by simp[hj]) λt=>bH (cw λj hj=>by simp[hj]) λti=>bH pn λk=>?_;split
  ·exact bH jo λ_=>bH wq λt=>by(repeat' split)<;>first|exact cH|exact trivial
  ·exact bH jo λ_=>bH kB λt=>by(repeat' split)<;>first|exact cH|exact trivial
  ·split<;>first|exact cH|exact trivial
  ·exact trivial
 |idxa n sz x i=>
  simp only[ew,oSJ]at h;subst h;refine bH (cw λj hj=>by simp[hj]) λt=>bH (cw λj hj=>by simp[hj]) λti=>bH pn λk=>?_;split
  ·exact bH jo λ_=>by split<;>first|exact cH|exact trivial
  ·exact trivial
 |ext x i=>
  simp only[ew,oSJ]at h;subst h;refine bH (cw λj hj=>by simpa using hj) λt=>?_
  (repeat' split)<;>first|exact cH|exact trivial
 |bin op x y=>
  simp only[ew,oSJ]at h;subst h;refine bH (cw λj hj=>by simp[hj]) λt=>bH (cw λj hj=>by simp[hj]) λti=>bH iY λ_=>bH iY λ_=>bH kA λr=>?_
  split<;>first|exact cH|exact trivial
 |bnb neg x y=>
  simp only[ew,oSJ]at h;subst h;refine bH (cw λj hj=>by simp[hj]) λt=>bH (cw λj hj=>by simp[hj]) λti=>bH iY λ_=>bH iY λ_=>?_
  split<;>first|exact cH|exact trivial
 |eqa ks neg x y=>
  simp only[ew,oSJ]at h;subst h;refine bH (cw λj hj=>by simp[hj]) λt=>bH (cw λj hj=>by simp[hj]) λti=>?_;split
  ·exact bH kA λ_=>bH kA λ_=>bH kA λ_=>cH
  ·exact trivial
 |un op x=>
  simp only[ew,oSJ]at h;subst h;refine bH (cw λj hj=>by simpa using hj) λt=>bH iY λ_=>bH kA λr=>?_
  split<;>first|exact cH|exact trivial
 |conv k x=>
  simp only[ew,oSJ]at h;subst h;refine bH (cw λj hj=>by simpa using hj) λt=>bH iY λ_=>?_
  split<;>first|exact cH|exact trivial
 |len x=>
  simp only[ew,oSJ]at h;subst h;exact bH (cw λj hj=>by simpa using hj) λt=>bH zw λ_=>cH
 |lens x=>
  simp only[ew,oSJ]at h;subst h;refine bH (cw λj hj=>by simpa using hj) λt=>?_
  split<;>first|exact cH|exact trivial
 |ixs x i=>
  simp only[ew,oSJ]at h;subst h;refine bH (cw λj hj=>by simp[hj]) λt=>bH (cw λj hj=>by simp[hj]) λti=>bH pn λk=>?_
  (repeat' split)<;>first|exact cH|exact trivial
 |_=>simp[ew]at h
end
def Db(t:gE):Option (Nat×List Nat):=
 match t.dst,ew t.op with
 |some d,some S=>some (d,(match t.guard with|some (j,_)=>j::S|none=>S))
 |_,_=>none
theorem sE{α:Type}{d:Nat}{S S':List Nat}(hs:∀i∈S,i∈S'){s:SP α}(h:s.quiet d S):s.quiet d S':=by
 induction s with
 |ret a=>exact trivial
 |fail=>exact trivial
 |rdT i k ih=>exact⟨hs i h.1,λt=>ih t (h.2 t)⟩
 |rdC r o k ih=>exact λt=>ih t (h t)
 |rdH r o k ih=>exact λt=>ih t (h t)
 |rdV q k ih=>exact λn=>ih n (h n)
 |wrT i t k ih=>exact⟨h.1,ih h.2⟩
 |wrC r o t k ih=>exact h.elim
 |new r l k ih=>exact h.elim
 |bump q k ih=>exact h.elim
theorem wo{call:Option Nat->TOp->SP Unit}{t:gE}{d:Nat}{S:List Nat}(h:Db t=some (d,S)):(spOp call t).quiet d S:=by
 unfold Db at h;split at h
 case h_2=>simp at h
 rename_i d' S' hd hq
 injection h with h
 injection h with h1 h2
 subst h1
 have Yn:(evop call t.dst t.op)=ev1 d' t.op:=by
  rw[hd]
  cases hop:t.op<;>rw[hop]at hq<;>first|rfl|simp[ew]at hq
 have Zq:(setNo t.dst).quiet d' S:=by rw[hd];exact⟨rfl,trivial⟩
 unfold spOp
 cases hg:t.guard with
 |none=>
  rw[hg]at h2;subst h2;rw[Yn];exact zx hq
 |some g=>
  obtain⟨j,want⟩:=g;rw[hg]at h2;subst h2;refine⟨by simp,λtv=>?_⟩;show SP.quiet d' (j::S') (match tv with|.v (.bool b)=>if b=want then evop call t.dst t.op else setNo t.dst|.tup []=>setNo t.dst|_=>.fail);split
  ·split
   ·rw[Yn];exact sE (by simp +contextual) (zx hq)
   ·exact Zq
  ·exact Zq
  ·exact trivial
def KV(deps:List (List Nat))(tops:List gE)(i j:Nat):Bool:=
 (deps.getD j []).contains i||(match Db (tops.getD i A0),Db (tops.getD j A0)with
  |some (di,Si),some (dj,Sj)=>di != dj && !Sj.contains di && !Si.contains dj
  |_,_=>false)
def wi(deps:List (List Nat))(tops:List gE):List Nat->Bool
 | []=>true
 |i::r=>(r.all λj=>KV deps tops i j)&&wi deps tops r
theorem Bt{a b:oN}{da db:Nat}{Sa Sb:List Nat}(ha:(∀x∈a.2,x=.t da)/\∀i,Loc.t i∈a.1->i∈Sa)(hb:(∀x∈b.2,x=.t db)/\∀i,Loc.t i∈b.1->i∈Sb)(h1:da≠db)(h2:da ∉ Sb)(h3:db ∉ Sa):mG a b=false:=by
 have hm:∀(l l':List Loc)(d d':Nat)(S:List Nat),(∀x∈l,x=.t d)->((∀x∈l',x=.t d')/\d≠d'\/(∀i,Loc.t i∈l'->i∈S)/\d ∉ S)->EE l l'=false:=by
  intro l l' d d' S hl Yw;unfold EE;simp;intro w hw x hx;rw[hl w hw]
  cases x with
  |t i=>
   simp[Loc.hit,beq_eq_false_iff_ne];intro e
   rcases Yw with⟨q1,q2⟩|⟨q1,q2⟩
   ·have:=q1 _ hx;injection this with this;omega
   ·simp_all
  |_=>rfl
 unfold mG;rw[hm a.2 b.1 da 0 Sb ha.1 (.inr ⟨hb.2,h2⟩),hm a.2 b.2 da db [] ha.1 (.inl ⟨hb.1,h1⟩),hm b.2 a.1 db 0 Sa hb.1 (.inr ⟨ha.2,h3⟩),hm b.2 a.2 db da [] hb.1 (.inl ⟨ha.1,Ne.symm h1⟩)];rfl
theorem En{call:Option Nat->TOp->SP Unit}{tops:List gE}{deps:List (List Nat)}:∀{L:List Nat}{σ τ:St}{fs:List (Nat×oN)},wi deps tops L=true->oO (λi=>spOp call (tops.getD i A0)) L σ=some (fs,τ)->
 gB deps fs=true/\fs.map (·.1)=L/\∀y∈fs,∃ σ1,y.2=(spOp call (tops.getD y.1 A0)).foot σ1:=by
 intro L
 induction L with
 |nil=>
  intro σ τ fs _ hr;obtain⟨rfl,rfl⟩:=hr;exact⟨rfl,rfl,λy hy=>by simp at hy⟩
 |cons i L ih=>
  intro σ τ fs hs hr;simp only[wi,oBA,List.all_eq_true]at hs;simp only[oO]at hr;obtain⟨x,h1,h2⟩:=bO hr;obtain⟨y,h3,h4⟩:=bO h2;obtain⟨rfl,rfl⟩:=h4;obtain⟨Yc,τ1⟩:=y;obtain⟨q1,q2,q3⟩:=ih hs.2 h3;refine⟨?_,by simp[q2],λz hz=>?_⟩
  ·simp only[gB,oBA,List.all_eq_true];refine⟨λz hz=>?_,q1⟩
   have hzL:z.1∈L:=by rw[<- q2];exact List.mem_map_of_mem hz
   have hp:=hs.1 z.1 hzL;unfold KV at hp;simp only[Bool.or_eq_true]at hp⊢;rcases hp with hp|hp
   ·exact .inr hp
   ·left;split at hp
    ·rename_i di Si dj Sj e1 e2;simp only[oBA,bne_iff_ne,ne_eq,Bool.not_eq_true',List.contains_eq_mem,decide_eq_false_iff_not]at hp;obtain⟨σ1,e3⟩:=q3 z hz;have:=Bt (mS (wo (call:=call) e1) σ) (mS (wo (call:=call) e2) σ1) hp.1.1 hp.1.2 hp.2
     simp_all
    ·simp at hp
  ·rcases List.mem_cons.1 hz with rfl|hz
   ·exact⟨σ,rfl⟩
   ·exact q3 z hz
theorem Jv{call:Option Nat->TOp->SP Unit}{o:gE}{σ σ':St}(h:w8 call o σ=some σ'):(spOp call o).run σ=some ((),σ'):=by
 have Zq:∀{σ'},(match o.dst with|some d=>some { σ with tm:=dp σ.tm d (.tup []) } |none=>some σ)=some σ'->(setNo o.dst).run σ=some ((),σ'):=by
  intro σ' h;unfold setNo
  cases hd:o.dst with
  |none=>rw[hd]at h;simp at h;simp[SP.run,h]
  |some d=>rw[hd]at h;simp at h;simp[SP.run,h]
 have hm:∀{s:SP Unit}{σ'},(s.run σ).map (·.2)=some σ'->s.run σ=some ((),σ'):=by simp_all
 unfold w8 at h;unfold spOp
 cases hg:o.guard with
 |none=>rw[hg]at h;exact hm h
 |some g=>
  rw[hg]at h;simp only[SP.run]at h⊢;split at h
  ·split at h
   ·rename_i Ux;rw[oIP Ux];exact hm h
   ·rename_i Ux;rw[oIN Ux];exact Zq h
  ·exact Zq h
  ·simp at h
theorem Gy{call:Option Nat->TOp->SP Unit}{tops:List gE}:∀{L:List Nat}{σ τ:St},pZ call (L.map λi=>tops.getD i A0) σ=some τ->∃fs,oO (λi=>spOp call (tops.getD i A0)) L σ=some (fs,τ):=by
 intro L
 induction L with
 |nil=>intro σ τ h;simp[pZ]at h;subst h;exact⟨[],rfl⟩
 |cons i L ih=>
  intro σ τ h;have ⟨σ1,h1,h2⟩:=bO h;have ⟨fs,h3⟩:=ih h2;refine⟨(i,(spOp call (tops.getD i A0)).foot σ)::fs,?_⟩;simp only[oO,Jv h1,oBS,h3]
theorem Er(tops:List gE):(List.range tops.length).map (λi=>tops.getD i A0)=tops:=by
 apply List.ext_getElem?;intro i;by_cases h:i<tops.length
 ·simp[h]
 ·simp_all
def fJ(P:Program)(M:Fm)(isCall:Op->TOp->Prop):gF->Code->Prop
 |.skip,c=>c=.skip
 |.nrm _,c=>c=.skip
 |.reg _ draw tops _,c=>∃id ops dr,c=.region id ops dr/\tops.length=ops.size/\(∀i (h:i<ops.size)(h':i<tops.length),sD P M isCall ops ops[i] tops[i])/\match draw with
  |some deps=>dr=true/\vh ops deps/\P.follows .mixedOrders=true
  |none=>dr=true->∃deps,vh ops deps/\P.follows .mixedOrders=true/\wi deps tops (List.range tops.length)=true
 |.seq x y,c=>∃x' y',c=.seq x' y'/\fJ P M isCall x x'/\fJ P M isCall y y'
 |.cond k x y,c=>∃k' x' y',c=.cond k' x' y'/\bK k'=some k/\fJ P M isCall x x'/\fJ P M isCall y y'
 |.block id x,c=>∃x',c=.block id x'/\fJ P M isCall x x'
 |.loop x,c=>∃x',c=.loop x'/\fJ P M isCall x x'
 |.sc x,c=>(∃l,c=.label l/\x=.skip)\/∃x',c=.scope x'/\fJ P M isCall x x'
 |.exit id,c=>c=.exit id
 |.ret,c=>c=.ret
 |.pre l x,c=>(∀y∈l,M.ok y.1)/\fJ P M isCall x c
 |.frz i _ x,c=>(M.ok i/\M.pr (2*i+2)=none)/\fJ P M isCall x c
 |.post x l,c=>(∀y∈l,M.ok y.1)/\fJ P M isCall x c
def iO.toExit:iO->Exit
 |.normal=>.normal
 |.exit id=>.exit id
 |.ret=>.ret
section
variable {P:Program} {M:Fm} {isCall:Op->TOp->Prop} {call:Option Nat->TOp->SP Unit}
theorem io.toTm{w:World}{F:Nat->Prop}{V:Vs}{C:Cs}{G:Gh}{t:TV}{x:Value}(h:io w F t x):TmR w F V C G t x:=by
 exact(ImF.im h).toTm
theorem LY{σ σ':St}{ts:Array Value}{w:World}{G:Gh}(hI:Inv M σ [] [] ts w G){x:Nat×Option Nat}(hx:M.ok x.1)(hr:(shr1 x).run σ=some ((),σ')):∃G',Inv M σ' [] [] ts w G':=by
 obtain⟨i,off⟩:=x
 have Yo:some ((),σ)=some ((),σ')->∃G',Inv M σ' [] [] ts w G':=λh=>by
  simp only[oSJ,oPJ,true_and]at h;exact⟨G,h▸hI⟩
 have Zv:=hI.tmr i
 have drop:∀{t t':TV}{v:Value}{σ1:St}{H:List TV},TmR w (G.F M.A) σ.v (b5 M σ []) G t v->(take1 false t).run σ=some (t',σ1)->t'≠.dead->∃G2,Inv M σ1 [] [] ts w G2/\TmR w (G2.F M.A) σ1.v (b5 M σ1 []) G2 t'.imm v/\σ1.tm=σ.tm:=by
  intro t t' v σ1 H ht h1 Zu;obtain⟨G1,hg,_⟩:=fK hI ht h1
  obtain⟨G2,ZL,ZM⟩:=hg.1.dropImm (λj hj=>by
   obtain rfl:j=0:=by simpa using hj
   exact Zu)
  have h0:=ZM 0 (by simp);simp only[List.nil_append,List.getElem_cons_zero,List.getD_cons_zero]at h0;refine⟨G2,ZL.1,?_,ZL.2.2.2.trans hg.2.2.2⟩;exact h0.toTm
 unfold shr1 at hr;simp only[SP.run]at hr
 cases off with
 |none=>
  cases ht:σ.t i with
  |pk p vs=>
   rw[ht]at hr Zv;simp only at hr;obtain⟨t',σ1,h1,h2⟩:=bG hr;simp only[SP.run,oSJ,oPJ,true_and]at h2
   have Zu:t'≠.dead:=by
    intro e
    rcases iT h1 with h|h<;>rw[e]at h<;>simp[cq,kf]at h
   obtain⟨G2,Z3,Yr,_⟩:=drop (H:=[]) Zv h1 Zu;refine⟨G2,?_⟩;rw[<- h2];have:=Z3.wrT hx Yr
   have e:ts.setIfInBounds i (ts.getD i undef)=ts:=by
    apply Array.ext
    ·simp
    ·intro j h3 h4;rw[Array.getElem_setIfInBounds (by simpa using h4)];split
     ·rename_i e;subst e;simp[Array.getD_eq_getD_getElem?,h4]
     ·rfl
   rw[e]at this;exact this
  |_=>rw[ht]at hr;exact Yo hr
 |some off=>
  cases ht:σ.t i with
  |ptr p vs=>
   rw[ht]at hr Zv;simp only at hr;obtain⟨_,σ1,h1,h2⟩:=bG hr;have e1:σ1=σ:=(bU h1).1;have e2:=(bU h1).2;subst e1;split at h2
   case isFalse=>simp[SP.run]at h2
   obtain⟨t,σ2,h3,h4⟩:=bG h2;obtain⟨e3,hg⟩:=cX h3;have e3:σ2=σ1:=e3;subst e3
   cases t with
   |ow c=>
    simp only at h4;obtain⟨t',σ3,h5,h6⟩:=bG h4;obtain⟨t2,σ4,h7,h8⟩:=bG h6;simp only[SP.run,oSJ,oPJ,true_and]at h8;subst h8
    cases Zv with
    |ptr V0 h0 hv h=>
     obtain⟨Z8,ad,t0,ha,_,_⟩:=h e2
     have V8:(p.add off).root≠1:=by rw[dh];exact Z8
     obtain⟨hB,u,fp,YU,hown,VX⟩:=hI.named V8 (lu off ha) hg (by simp);obtain⟨rfl,YS⟩:=qb hI V8 hg hown VX h5
     have Zu:t2≠.dead:=by
      intro e
      rcases iT h7 with h|h<;>rw[e]at h<;>simp[cq,kf]at h
     obtain⟨G2,Z3,_,_⟩:=drop (H:=[]) YS h7 Zu;exact⟨G2,Z3⟩
   |_=>exact Yo h4
  |_=>rw[ht]at hr;exact Yo hr
theorem Gj{ts:Array Value}{w:World}:∀{l:List (Nat×Option Nat)}{σ σ':St}{G:Gh},Inv M σ [] [] ts w G->(∀y∈l,M.ok y.1)->(shrs l).run σ=some ((),σ')->∃G',Inv M σ' [] [] ts w G':=by
 intro l
 induction l with
 |nil=>
  intro σ σ' G hI _ hr;simp only[shrs,SP.run,oSJ,oPJ,true_and]at hr;exact⟨G,hr▸hI⟩
 |cons x l ih=>
  intro σ σ' G hI hl hr;obtain⟨_,σ1,h1,h2⟩:=bG hr;obtain⟨G1,hI1⟩:=LY hI (hl x (by simp)) h1;exact ih hI1 (λy hy=>hl y (by simp[hy])) h2
theorem Inv.unbox{σ:St}{ts:Array Value}{w:World}{G:Gh}(hI:Inv M σ [] [] ts w G)(r:Nat)(h1:r≠1)(Y4:M.pr r=none):
 ∃G',Inv M (σ.root r []) [] [] ts w G'/\(∀k,G.F M.A k->G'.F M.A k)/\∀b o n,G.β r=some (b,o,n)->G'.F M.A b:=by
 have Z7:r≠M.hr:=h1
 let G':Gh:=⟨λr'=>if r'=r then none else G.β r',G.η,λr' o k=>if r'=r then False else G.φ r' o k⟩
 have Z':∀r' o k,G'.φ r' o k->G.φ r' o k/\r'≠r:=by
  intro r' o k hk;simp only[G']at hk;by_cases e:r'=r
  ·rw[oIP e]at hk;exact hk.elim
  ·rw[oIN e]at hk;exact⟨hk,e⟩
 have X5:∀r' x,G'.β r'=some x->G.β r'=some x/\r'≠r:=by
  intro r' x hb;simp only[G']at hb;by_cases e:r'=r
  ·rw[oIP e]at hb;cases hb
  ·rw[oIN e]at hb;exact⟨hb,e⟩
 have Zz:∀k,G.F M.A k->G'.F M.A k:=by
  rintro k ⟨a1,a2,a3⟩;exact⟨a1,λr' o h=>a2 r' o (Z' r' o k h).1,λr' b o n hb=>a3 r' b o n (X5 r' _ hb).1⟩
 have hval:∀r' o,r'≠r->G'.val w r' o=G.val w r' o:=λr' o hne=>gh (by simp[G',hne]) rfl λb o n hb=>rfl
 have XA:∀r' o,b5 M (σ.root r []) [] r' o=if r'=M.hr then .dead else if r'=r then([]:List TV).getD o .dead else b5 M σ [] r' o:=λr' o=>uM r' o hI
 have ZF:iM M.A (b5 M (σ.root r []) []) w G':=by
  refine⟨λr' o=>?_,λr' b o0 n hb=>hI.core.box r' b o0 n (X5 _ _ hb).1,λr' b o0 n hb o ho=>?_,λr1 r2 b o n o' n' ZR ZZ=>hI.core.boxd r1 r2 b o n o' n' (X5 _ _ ZR).1 (X5 _ _ ZZ).1,λr' b o n hb r2 o2 hk=>hI.core.boxf r' b o n (X5 _ _ hb).1 r2 o2 (Z' _ _ _ hk).1,λr1 o1 r2 o2 k Y9 YJ=>hI.core.dis _ _ _ _ k (Z' _ _ _ Y9).1 (Z' _ _ _ YJ).1,λr' o k hk=>hI.core.allow _ _ k (Z' _ _ _ hk).1⟩
  ·rw[XA];by_cases e1:r'=M.hr
   ·left;refine⟨by simp[e1],λk hk=>?_⟩;have h2:=(Z' _ _ _ hk).1;rw[e1]at h2;exact hI.phi_dead (by rw[iI];simp) k h2
   ·rw[oIN e1];by_cases e2:r'=r
    ·left;exact⟨by simp[e2],λk hk=>(Z' _ _ _ hk).2 e2⟩
    ·rw[oIN e2,hval r' o e2]
     have ZO:∀k,G'.φ r' o k↔G.φ r' o k:=λk=>by simp[G',e2]
     rcases hI.core.cell r' o with⟨a1,a2⟩|a2
     ·left;exact⟨a1,λk hk=>a2 k ((ZO k).1 hk)⟩
     ·right;exact(a2.frame (λk _=>rfl) (λk _ _=>rfl) λk h _=>Zz k h).refp λk=>(ZO k).symm
  ·obtain⟨ZR,e2⟩:=X5 _ _ hb;rw[XA];by_cases e1:r'=M.hr
   ·simp[e1]
   ·rw[oIN e1,oIN e2];exact hI.core.boxc r' b o0 n ZR o ho
 have hk:gf w w σ.v (σ.root r []).v (b5 M σ []) (b5 M (σ.root r []) []) G G':=by
  refine gf.root hI.core r (λk _=>rfl) (λq=>by rw[fI];omega) (by rw[fI];simp) (λr' o hne Us=>?_) (λr' hne _=>by simp[G',hne]) (λ_ _ _ _=>rfl);rw[XA];have:r'≠M.hr:=Us;simp[this,hne]
 have hF:=hI.fram;refine⟨G',⟨ZF,λi=>(hI.tmr i).keep hk (λk _ h=>rfl) (λk h _=>Zz k h),?_,λr' l h=>?_,hI.size,rfl,λj hj=>by simp at hj,λr' b o n hb l h=>?_,hI.kept⟩,Zz,λb o n hb=>?_⟩
 ·refine⟨hF.os,hF.tape,hF.output,hF.size,hF.old,λr' b o n hp=>?_,λr' o k hk=>hF.own _ _ k (Z' _ _ _ hk).1,λr' b o n hb=>hF.box r' b o n (X5 _ _ hb).1,λr' hb=>?_⟩
  ·obtain⟨a1,a2⟩:=hF.par r' b o n hp
   have hne:r'≠r:=λe=>by rw[e,Y4]at hp;simp at hp
   exact⟨by simp[G',hne,a1],a2⟩
  ·refine hF.even r' λe=>hb ?_;simp only[G'];by_cases e2:r'=r
   ·rw[oIP e2]
   ·rw[oIN e2];exact e
 ·rw[show(σ.root r []).ce=dp σ.ce r []from rfl,cg]at h;split at h
  ·rename_i e1;rw[<- e1];exact h1
  ·exact hI.keys r' l h
 ·obtain⟨ZR,e1⟩:=X5 _ _ hb;rw[show(σ.root r []).ce=dp σ.ce r []from rfl,cg,oIN (Ne.symm e1)]at h;exact hI.shape r' b o n ZR l h
 ·refine⟨?_,λr' o' h=>hI.core.boxf r b o n hb r' o' (Z' _ _ _ h).1,λr' b' o' n' h e=>?_⟩
  ·rcases hF.box r b o n hb with h|⟨_,h⟩
   ·rw[Y4]at h;cases h
   ·exact M.hA _ h
  ·subst e;obtain⟨h2,h3⟩:=X5 _ _ h;exact h3 (hI.core.boxd r r' b o n o' n' hb h2).symm
theorem GG{r:Nat}:∀{n o:Nat}{σ σ':St}{l:List TV},(Ep r n o).run σ=some (l,σ')->σ'=σ/\∀j (h:j<l.length),l[j]=σ.c r (o+j)/\zS l[j]=true:=by
 intro n
 induction n with
 |zero=>
  intro o σ σ' l h;simp only[Ep,SP.run,oSJ,oPJ]at h;obtain⟨rfl,rfl⟩:=h;exact⟨rfl,λj h=>by simp at h⟩
 |succ n ih=>
  intro o σ σ' l h;simp only[Ep,SP.run]at h;split at h
  case isFalse=>simp[SP.run]at h
  rename_i hi;obtain⟨l',σ1,h1,h2⟩:=bG h;simp only[SP.run,oSJ,oPJ]at h2;obtain⟨rfl,rfl⟩:=h2;obtain⟨rfl,h3⟩:=ih h1;refine⟨rfl,λj hj=>?_⟩
  cases j with
  |zero=>exact⟨rfl,hi⟩
  |succ j=>
   have:=h3 j (by simpa using hj);rw[List.getElem_cons_succ,show o+(j+1)=o+1+j by omega];exact this
theorem Om{σ σ':St}{ts:Array Value}{w:World}{G:Gh}(hI:Inv M σ [] [] ts w G){i n:Nat}(hi:M.ok i)(Y4:M.pr (2*i+2)=none)(hr:(Np i n).run σ=some ((),σ')):∃G',Inv M σ' [] [] ts w G':=by
 unfold Np at hr;split at hr
 ·simp only[SP.run,oSJ,oPJ,true_and]at hr;subst hr;exact⟨G,hI⟩
 simp only[SP.run]at hr;have Zv:=hI.tmr i
 cases ht:σ.t i with
 |ptr p vs=>
  rw[ht]at hr Zv;simp only at hr;split at hr
  case isFalse=>simp[SP.run]at hr
  rename_i hc;obtain⟨c1,c2,c3⟩:=hc;obtain⟨_,σ1,h1,h2⟩:=bG hr;have e1:σ1=σ:=(bU h1).1;have e2:=(bU h1).2;subst e1;obtain⟨l,σ2,h3,h4⟩:=bG h2;obtain⟨rfl,hl⟩:=GG h3;simp only[SP.run,oSJ,oPJ,true_and]at h4;subst h4;generalize hx:ts.getD i undef=x at Zv
  cases Zv with
  |ptr V0 h0 hv h=>
   obtain⟨Z8,ad,t0,ha,hxa,_⟩:=h (by rw[c3];exact e2);obtain⟨G',ZK,Zz,SR⟩:=hI.unbox p.root Z8 (by rw[c1];exact Y4);unfold Gh.addr at ha;rw[c3]at ha
   cases hb:G.β p.root with
   |none=>simp[hb]at ha
   |some y=>
    obtain⟨b,o0,n0⟩:=y;rw[hb,c2]at ha;simp only[oSJ]at ha;subst ha;refine⟨G',?_⟩
    have hcell:∀j (h:j<l.length),w.cell? ⟨b,o0+j,none⟩=some (G.val w p.root j)/\fa w (G.F M.A) (G.φ p.root j) l[j] (G.val w p.root j):=λj hj=>by
     obtain⟨g1,g2⟩:=hl j hj;rw[Nat.zero_add]at g1
     have Zu:b5 M σ2 [] p.root j≠.dead:=by
      rw[bW (show p.root≠M.hr from Z8),<- g1];intro e;rw[e]at g2;cases g2
     refine⟨hI.core.boxcell hb (Nat.lt_of_not_le λYN=>Zu (hI.core.boxc _ _ _ _ hb j YN)),?_⟩;have:=hI.core.own Zu;rw[bW (show p.root≠M.hr from Z8),<- g1]at this;exact this
    have h5:=ZK.wrT hi (t:=.ip l) (x:=x) (by
     rw[hxa];refine .ip (λj=>G.val w p.root j) (λj hj=>⟨SR _ _ _ hb,(hcell j hj).1⟩) λj hj=>?_;have g2:=(hl j hj).2;have g3:=(hcell j hj).2;generalize l[j]=t at g2 g3⊢;generalize G.val w p.root j=z at g3⊢
     cases g3 with
     |v hfp h=>exact .im (.v h)
     |sl hfp h=>exact .im (h.frame (λk _ _=>rfl) λk hk _=>Zz k hk)
     |_=>cases g2)
    have e:ts.setIfInBounds i x=ts:=by
     rw[<- hx];apply Array.ext
     ·simp
     ·intro j h3 h4;rw[Array.getElem_setIfInBounds (by simpa using h4)];split
      ·rename_i e;subst e;simp[Array.getD_eq_getD_getElem?,h4]
      ·rfl
    rw[e]at h5;exact h5
 |_=>rw[ht]at hr;simp[SP.run]at hr
theorem C5(Zk:vi P M isCall call)(N:Nat):∀(tc:gF)(c:Code)(σ:St)(e:iO)(σ':St)(a:Act)(w:World)(G:Gh)(Q:Exit->Act->World->Prop),fJ P M isCall tc c->runC call N tc σ=some (e,σ')->Inv M σ [] [] a.tmps w G ->
 (∀a' w' G',Inv M σ' [] [] a'.tmps w' G'->a'.defers=a.defers->Q e.toExit a' w')->c.wp P Q a w:=by
 intro tc
 induction tc with
 |skip=>
  intro c σ e σ' a w G Q hc hr hI hQ;simp only[fJ]at hc;subst hc;simp only[runC,oSJ,oPJ]at hr;obtain⟨rfl,rfl⟩:=hr;exact wp_skip (hQ a w G hI rfl)
 |nrm pers=>
  intro c σ e σ' a w G Q hc hr hI hQ;simp only[fJ]at hc;subst hc;simp only[runC,oSJ,oPJ]at hr;obtain⟨rfl,rfl⟩:=hr;obtain⟨G2,Z3⟩:=hI.norm pers;exact wp_skip (hQ a w G2 Z3 rfl)
 |reg id draw tops pers=>
  intro c σ e σ' a w G Q hc hr hI hQ;obtain⟨id',ops,dr,rfl,hlen,hok,hdr⟩:=hc;simp only[runC]at hr
  cases draw with
  |some deps=>
   simp only at hr;obtain⟨⟨fs,τ⟩,h1,h2⟩:=bO hr;simp only at h2;split at h2
   ·rename_i hp
    injection h2 with h2
    injection h2 with h2 h3
    subst h2;subst h3;obtain⟨rfl,Y2,hm⟩:=hdr;refine C4 hm hlen hok Zk Y2 hI h1 hp λa' w' G' ZK hd'=>?_;obtain⟨G2,Z3⟩:=ZK.norm pers;exact hQ a' w' G2 Z3 hd'
   ·simp at h2
  |none=>
   simp only at hr;obtain⟨σ1,h1,h2⟩:=ge hr
   injection h2 with h2 h3
   subst h2;subst h3
   cases dr with
   |true=>
    obtain⟨deps,Y2,hm,hst⟩:=hdr rfl;obtain⟨fs,ZE⟩:=Gy (tops:=tops) (L:=List.range tops.length) (by rw[Er];exact h1);refine C4 hm hlen hok Zk Y2 hI ZE (En hst ZE).1 λa' w' G' ZK hd'=>?_;obtain⟨G2,Z3⟩:=ZK.norm pers;exact hQ a' w' G2 Z3 hd'
   |false=>
   refine wp_region ?_
   have hm:(List.range ops.size).map (λi=>tops.getD i ⟨none,none,.lens (.t 0)⟩)=tops:=by
    apply List.ext_getElem?;intro i;by_cases h:i<ops.size
    ·simp[h,hlen]
    ·rw[oGN (by simpa using h),oGN (by omega)]
   refine LA hlen hok Zk (List.range ops.size) σ a w G (λi hi=>by simpa using hi) hI (by rw[hm];exact h1) λa' w' G' ZK hd'=>?_;obtain⟨G2,Z3⟩:=ZK.norm pers;exact hQ a' w' G2 Z3 hd'
 |seq x y Yb UY=>
  intro c σ e σ' a w G Q hc hr hI hQ;obtain⟨x',y',rfl,hx,hy⟩:=hc;simp only[runC]at hr;obtain⟨⟨e1,σ1⟩,h1,h2⟩:=bO hr;refine wp_seq (Yb x' σ e1 σ1 a w G _ hx h1 hI λa' w' G' ZK hd=>?_)
  cases e1 with
  |normal=>exact UY y' σ1 e σ' a' w' G' Q hy h2 ZK λa2 w2 G2 h3 h4=>hQ a2 w2 G2 h3 (h4.trans hd)
  |exit id=>
   simp only[oSJ,oPJ]at h2;obtain⟨rfl,rfl⟩:=h2;exact hQ a' w' G' ZK hd
  |ret=>
   simp only[oSJ,oPJ]at h2;obtain⟨rfl,rfl⟩:=h2;exact hQ a' w' G' ZK hd
 |cond k x y Yb UY=>
  intro c σ e σ' a w G Q hc hr hI hQ;obtain⟨k',x',y',rfl,hk,hx,hy⟩:=hc;simp only[runC]at hr;obtain⟨⟨t,σ1⟩,h1,h2⟩:=bO hr;obtain⟨rfl,ht⟩:=cr hI.tmr hk h1
  cases t with
  |v z=>
   obtain⟨hz,_⟩:=ht.v_inv
   cases z with
   |bool b=>
    cases b with
    |true=>exact wp_cond_true hz (Yb x' _ e σ' a w G Q hx h2 hI hQ)
    |false=>exact wp_cond_false hz (UY y' _ e σ' a w G Q hy h2 hI hQ)
   |_=>simp at h2
  |_=>simp at h2
 |block id x Yb=>
  intro c σ e σ' a w G Q hc hr hI hQ;obtain⟨x',rfl,hx⟩:=hc;simp only[runC]at hr;obtain⟨⟨e1,σ1⟩,h1,h2⟩:=bO hr;refine wp_block (Yb x' σ e1 σ1 a w G _ hx h1 hI λa' w' G' ZK hd=>?_)
  cases e1 with
  |normal=>
   simp only[oSJ,oPJ]at h2;obtain⟨rfl,rfl⟩:=h2;exact hQ a' w' G' ZK hd
  |exit i=>
   simp only at h2;simp only[iO.toExit,Exit.inBlock];split at h2
   ·rename_i hi;simp only[oSJ,oPJ]at h2;obtain⟨rfl,rfl⟩:=h2;rw[oIP hi];exact hQ a' w' G' ZK hd
   ·rename_i hi;simp only[oSJ,oPJ]at h2;obtain⟨rfl,rfl⟩:=h2;rw[oIN hi];exact hQ a' w' G' ZK hd
  |ret=>
   simp only[oSJ,oPJ]at h2;obtain⟨rfl,rfl⟩:=h2;exact hQ a' w' G' ZK hd
 |loop x Yb=>
  intro c σ e σ' a w G Q hc hr hI hQ;obtain⟨x',rfl,hx⟩:=hc;simp only[runC]at hr
  have Z0:∀(n:Nat)(σ:St)(a:Act)(w:World)(G:Gh)(d:List Deferred),a.defers=d->Mx (runC call N x) n σ=some (e,σ')->Inv M σ [] [] a.tmps w G->(∀a' w' G',Inv M σ' [] [] a'.tmps w' G'->a'.defers=d->Q e.toExit a' w')->Code.rounds P x' Q n a w:=by
   intro n
   induction n with
   |zero=>intro σ a w G d _ hr;simp[Mx]at hr
   |succ n ih=>
    intro σ a w G d hd hr hI hQ;simp only[Mx]at hr;obtain⟨⟨e1,σ1⟩,h1,h2⟩:=bO hr;rw[rounds_succ];refine Yb x' σ e1 σ1 a w G _ hx h1 hI λa' w' G' ZK hd'=>?_
    cases e1 with
    |normal=>exact ih σ1 a' w' G' d (hd'.trans hd) h2 ZK hQ
    |exit i=>
     simp only[oSJ,oPJ]at h2;obtain⟨rfl,rfl⟩:=h2;exact hQ a' w' G' ZK (hd'.trans hd)
    |ret=>
     simp only[oSJ,oPJ]at h2;obtain⟨rfl,rfl⟩:=h2;exact hQ a' w' G' ZK (hd'.trans hd)
  exact wp_loop_rounds N (Z0 N σ a w G a.defers rfl hr hI hQ)
 |sc x Yb=>
  intro c σ e σ' a w G Q hc hr hI hQ;simp only[runC]at hr
  rcases hc with⟨l,rfl,rfl⟩|⟨x',rfl,hx⟩
  ·simp only[runC,oSJ,oPJ]at hr;obtain⟨rfl,rfl⟩:=hr;exact wp_label (hQ a w G hI rfl)
  ·refine wp_scope_straight (Yb x' σ e σ' a w G _ hx hr hI λa' w' G' ZK hd=>?_);cases e<;>exact hQ a' w' G' ZK hd
 |exit id=>
  intro c σ e σ' a w G Q hc hr hI hQ;simp only[fJ]at hc;subst hc;simp only[runC,oSJ,oPJ]at hr;obtain⟨rfl,rfl⟩:=hr;exact wp_exit (hQ a w G hI rfl)
 |ret=>
  intro c σ e σ' a w G Q hc hr hI hQ;simp only[fJ]at hc;subst hc;simp only[runC,oSJ,oPJ]at hr;obtain⟨rfl,rfl⟩:=hr;exact wp_ret (hQ a w G hI rfl)
 |frz i n x Yb=>
  intro c σ e σ' a w G Q hc hr hI hQ;obtain⟨hl,hx⟩:=hc;simp only[runC]at hr;obtain⟨⟨u,σ1⟩,h1,h2⟩:=bO hr;obtain⟨G1,hI1⟩:=Om hI hl.1 hl.2 h1;obtain⟨G2,Z3⟩:=hI1.norm (σ1.tm.map (·.1),σ1.ce.map (·.1));exact Yb c σ1.anew e σ' a w G2 Q hx h2 Z3 hQ
 |pre l x Yb=>
  intro c σ e σ' a w G Q hc hr hI hQ;obtain⟨hl,hx⟩:=hc;simp only[runC]at hr;obtain⟨⟨u,σ1⟩,h1,h2⟩:=bO hr;obtain⟨G1,hI1⟩:=Gj hI hl h1;obtain⟨G2,Z3⟩:=hI1.norm (σ1.tm.map (·.1),σ1.ce.map (·.1));exact Yb c σ1.anew e σ' a w G2 Q hx h2 Z3 hQ
 |post x l Yb=>
  intro c σ e σ' a w G Q hc hr hI hQ;obtain⟨hl,hx⟩:=hc;simp only[runC]at hr;obtain⟨⟨e1,σ1⟩,h1,h2⟩:=bO hr;obtain⟨⟨u,σ2⟩,h3,h4⟩:=bO h2;simp only[oSJ,oPJ]at h4;obtain⟨rfl,rfl⟩:=h4;refine Yb c σ e1 σ1 a w G Q hx h1 hI λa' w' G' ZK hd=>?_;obtain⟨G2,Z3⟩:=Gj ZK hl h3;obtain⟨G3,Yl⟩:=Z3.norm (σ2.tm.map (·.1),σ2.ce.map (·.1));exact hQ a' w' G3 Yl hd
end
inductive TRs where
 |tmp (t:Nat)
 |cell (t:Nat) (n:Option Nat)
structure TFn where
 np:Nat
 pp:List Nat
 nt:Nat
 body:gF
 res:List TRs
def Oe(np r:Nat):Bool:=r%2==0&&decide (r<2*np+2)
def takeR1(np:Nat)(t:TV):SP TV:=
 match t with
 |.pk p vs=>take1 (!Oe np p.root) (.pk p vs)
 |t=>take1 true t
def takeRL(np:Nat):List TV->SP (List TV)
 | []=>.ret []
 |t::r=>(takeR1 np t).bind λt'=>(takeRL np r).bind λr'=>.ret (t'::r')
def takeRV(np:Nat)(t:TV):SP (List TV×RSh):=
 match t with
 |.agg l=>(takeRL np l).bind λl'=>.ret (l',.agg l'.length)
 |t=>(takeR1 np t).bind λt'=>.ret ([t'],.one)
def res1(np:Nat):TRs->SP (List TV×RSh)
 |.tmp t=>.rdT t λtv=>takeRV np tv
 |.cell t n=>.rdT t λtv=>match tv with
  |.ptr p vs=>(chk p p.hops.length vs).bind λ_=>match n with
   |none=>(getPl p).bind λt=>(peek1 p t).bind λt'=>takeRV np t'
   |some n=>(peekL p n).bind λl=>takeRV np (.agg l)
  |_=>.fail
def resL(np:Nat):List TRs->SP (List TV×List RSh)
 | []=>.ret ([],[])
 |r::rs=>(res1 np r).bind λx=>(resL np rs).bind λy=>.ret (x.1++y.1,x.2::y.2)
def A2:TV->Bool
 |.v x=>gc x
 |_=>false
def unV:TV->Value
 |.v x=>x
 |_=>undef
def onesOf:List TV->List RSh
 | []=>[]
 |_::r=>.one::onesOf r
def flatsR:List TRs->SP (List TV)
 | []=>.ret []
 |.tmp t::r=>.rdT t λtv=>if A2 tv then(flatsR r).bind λl=>.ret (tv::l)else .fail
 |.cell _ _::_=>.fail
def resF(np:Nat):List TRs->SP (List TV×List RSh)
 |.tmp t::r=>.rdT t λtv=>match tv with
  |.ptr p vs=>(chk p p.hops.length vs).bind λ_=>(flatsR r).bind λl=>.ret (.ptr p vs::l,.ptr::onesOf l)
  |_=>resL np (.tmp t::r)
 |qs=>resL np qs
def C7(t:TV):List TV->TV
 | []=>t
 |y::l=>.tup (t::y::l)
def wm(x:Value):List Value->Value
 | []=>x
 |y::l=>.tuple (x::y::l).toArray
theorem Gp{w:World}{F:Nat->Prop}{V:Vs}{C:Cs}{G:Gh}{t:TV}{x:Value}(h:TmR w F V C G t x):∀{l:List TV},l.all A2=true->TmR w F V C G (C7 t l) (wm x (l.map unV)):=by
 intro l hl
 have ZX:∀j (hj:j<l.length),TmR w F V C G l[j] (unV l[j]):=by
  intro j hj;have:=List.all_eq_true.1 hl l[j] (List.getElem_mem hj)
  cases hc:l[j]with
  |v y=>rw[hc]at this;exact .v this
  |_=>rw[hc]at this;simp[A2]at this
 cases l with
 |nil=>exact h
 |cons y l=>
  refine .tup (by simp) λj hj=>?_
  cases j with
  |zero=>exact h
  |succ j=>
   have ZY:j<(y::l).length:=by simp_all
   have e:(x::unV y::l.map unV).toArray.getD (j+1) undef=unV (y::l)[j]:=by
    have e0:((y::l).map unV)[j]?=some (unV (y::l)[j]):=by rw[List.getElem?_map,oGE ZY];rfl
    simp_all
   simp_all
def fC:List RSh->List Value->List Value
 | [],_=>[]
 |.one::r,ys=>ys.headD undef::fC r ys.tail
 |.agg n::r,ys=>.agg (ys.take n).toArray::fC r (ys.drop n)
 |.ptr::r,ys=>undef::fC r ys
def kz(sh:List RSh)(ys:List Value):Value:=
 match fC sh ys with
 | [x]=>x
 |l=>.tuple l.toArray
section
variable {P:Program} {M:Fm} {σ σ':St} {H:List TV} {xs:List Value} {ts:Array Value} {w:World} {G:Gh}
theorem zb(np:Nat)(t:TV):∃mv,takeR1 np t=take1 mv t:=by
 cases t<;>first|exact⟨true,rfl⟩|exact⟨_,rfl⟩
theorem FE{np:Nat}:∀{l l':List TV}{ys:List Value}{σ σ':St}{H:List TV}{xs:List Value}{G:Gh},Inv M σ H xs ts w G->l.length=ys.length->(∀j (h:j<l.length),TmR w (G.F M.A) σ.v (b5 M σ H) G l[j] (ys.getD j undef))->
 (takeRL np l).run σ=some (l',σ')->l'.length=l.length/\(∃G',jM M w ts σ H G σ' (H++l') (xs++ys) G')/\∀j (h:j<l'.length),cq l'[j]=true\/kf l'[j]=true:=by
 intro l
 induction l with
 |nil=>
  intro l' ys σ σ' H xs G hI hl _ hr;obtain⟨rfl,rfl⟩:=hr;have:=oEN (by simpa using hl.symm);subst this;exact⟨rfl,⟨G,by simpa using jM.refl hI⟩,λj h=>by simp at h⟩
 |cons t l ih=>
  intro l' ys σ σ' H xs G hI hl ht hr
  cases ys with
  |nil=>simp at hl
  |cons y ys=>
   obtain⟨t',σ1,h1,h2⟩:=bG hr;obtain⟨r',σ2,h3,h4⟩:=bG h2;obtain⟨rfl,rfl⟩:=h4;obtain⟨mv,RH⟩:=zb np t;rw[RH]at h1;obtain⟨G1,ZB,ho⟩:=fK hI (ht 0 (by simp)) h1;obtain⟨e,⟨G2,ZL⟩,hok⟩:=ih (l':=r') ZB.1 (by simpa using hl) (λj hj=>ZB.tm (by have:=ht (j+1) (by simpa using hj);simpa using this)) h3;refine⟨by simp[e],⟨G2,by simpa using ZB.trans ZL⟩,λj hj=>?_⟩
   cases j with
   |zero=>exact iT h1
   |succ j=>exact hok j (by simpa using hj)
theorem tO{np:Nat}{t:TV}{x:Value}{r:List TV×RSh}(hI:Inv M σ H xs ts w G)(hx:TmR w (G.F M.A) σ.v (b5 M σ H) G t x)(hr:(takeRV np t).run σ=some (r,σ')):
 ∃ys G',jM M w ts σ H G σ' (H++r.1) (xs++ys) G'/\r.1.length=ys.length/\(∀j (h:j<r.1.length),cq r.1[j]=true\/kf r.1[j]=true)/\∀(rest:List RSh)(zs:List Value),fC (r.2::rest) (ys++zs)=x::fC rest zs:=by
 by_cases ht:∃q,t=.agg q
 ·obtain⟨q,rfl⟩:=ht;obtain⟨l',σ1,h1,h2⟩:=bG hr;obtain⟨rfl,rfl⟩:=h2;obtain⟨vs,rfl,hl,hj⟩:=Fh hx;obtain⟨e1,⟨G',hg⟩,hok⟩:=FE (ys:=vs.toList) hI (by simp[hl]) (λj h=>by simp_all) h1;refine⟨vs.toList,G',hg,by simp[e1,hl],hok,λrest zs=>?_⟩
  have hn:l'.length=vs.toList.length:=by simp_all
  simp only[fC,hn,List.take_left,List.drop_left,Array.toArray_toList]
 ·have e:takeRV np t=(takeR1 np t).bind λt'=>.ret ([t'],.one):=by
   cases t<;>first|rfl|exact absurd ⟨_,rfl⟩ ht
  rw[e]at hr;obtain⟨t',σ1,h1,h2⟩:=bG hr;obtain⟨rfl,rfl⟩:=h2;obtain⟨mv,RH⟩:=zb np t;rw[RH]at h1;obtain⟨G',hg,ho⟩:=fK hI hx h1;refine⟨[x],G',hg,rfl,λj hj=>?_,λrest zs=>rfl⟩
  obtain rfl:j=0:=by simp_all
  exact iT h1
def CH(P:Program):TRs->ResultVar->Prop
 |.tmp t,r=>r=.tmp t
 |.cell t n,r=>∃ty,r=.cell t ty/\DW P ty n
theorem Mb{np:Nat}{q:TRs}{q':ResultVar}{r:List TV×RSh}(hI:Inv M σ H xs ts w G)(hq:CH P q q')(hr:(res1 np q).run σ=some (r,σ')):
 ∃x ys G',(match q' with|.tmp t=>(pure (ts.getD t undef):Sem Value)|.cell a t=>do loadVar t (<- asAddr (ts.getD a undef))).run P w=.ok x w/\jM M w ts σ H G σ' (H++r.1) (xs++ys) G'/\r.1.length=ys.length /\
  (∀j (h:j<r.1.length),cq r.1[j]=true\/kf r.1[j]=true)/\∀(rest:List RSh)(zs:List Value),fC (r.2::rest) (ys++zs)=x::fC rest zs:=by
 cases q with
 |tmp t=>
  have hq:q'=.tmp t:=hq;subst hq;obtain⟨ys,G',h1,h2,h3,h4⟩:=tO hI (hI.tmr t) hr;exact⟨_,ys,G',rfl,h1,h2,h3,h4⟩
 |cell t n=>
  obtain⟨ty,rfl,hn⟩:=hq;simp only[res1,SP.run]at hr;have Zv:=hI.tmr t
  cases hs:σ.t t with
  |ptr p vs=>
   rw[hs]at hr Zv;simp only at hr;obtain⟨_,σ2,h3,h4⟩:=bG hr;have e1:σ2=σ:=(bU h3).1;have e2:=(bU h3).2;subst e1;generalize hz:ts.getD t undef=z at Zv
   cases Zv with
   |ptr V0 h0 hv h=>
    obtain⟨Z8,ad,t0,ha,rfl,_⟩:=h e2
    cases n with
    |none=>
     obtain⟨dd,hu,YD,hd2⟩:=hn;simp only at h4;obtain⟨t1,σ3,h5,h6⟩:=bG h4;obtain⟨e3,hg⟩:=cX h5;have e3:σ3=σ2:=e3;subst e3;obtain⟨t',σ4,h7,h8⟩:=bG h6;obtain⟨hB,u,fp,YU,hown,ZP⟩:=hI.named Z8 ha hg (oE h7);obtain⟨rfl,YS⟩:=qb hI Z8 hg hown ZP h7;obtain⟨ys,G',k1,k2,k3,k4⟩:=tO hI YS h8;refine⟨u,ys,G',?_,k1,k2,k3,k4⟩;show((do loadVar ty (<- asAddr (ts.getD t undef))):Sem Value).run P w=_;rw[hz];simp[asAddr,loadVar,lQ hu YD hd2,YU]
    |some n=>
     obtain⟨⟨dd,hu,YD⟩,hsz⟩:=hn;simp only at h4;obtain⟨l,σ3,h5,h6⟩:=bG h4;obtain⟨rfl,e3,us,e4,e5⟩:=Dg hI Z8 ha h5
     have Q7:TmR w (G.F M.A) σ3.v (b5 M σ3 H) G (.agg l) (.agg us.toArray):=.agg (by simp[e3,e4]) λj hj=>by have:=(e5 j hj (by omega)).2;simpa[show j<us.length by omega]using this
     obtain⟨ys,G',k1,k2,k3,k4⟩:=tO hI Q7 h6;refine⟨_,ys,G',?_,k1,k2,k3,k4⟩;have Zn:=jz ha
     have ZV:=run_loadCells_list (P:=P) w ad us λj v hj=>by
      obtain⟨hlt,rfl⟩:=oGS hj;have:=(e5 j (by omega) hlt).1;obtain⟨b,o,s⟩:=ad;simp only at Zn;subst Zn;rw[cY];exact this
     have Y6:(sizeOf ty).run P w=.ok n w:=by
      unfold sizeOf typeInfo
      cases hi:P.info? ty with
      |none=>simp[hi]at hsz
      |some i=>simp[hi]at hsz;simp[hi,hsz]
     rw[e4]at ZV;show((do loadVar ty (<- asAddr (ts.getD t undef))):Sem Value).run P w=_;rw[hz];simp[asAddr,loadVar,kx hu YD,Y6,ZV]
  |_=>rw[hs]at hr;simp[SP.run]at hr
theorem Ma{np:Nat}:∀{qs:List TRs}{qs':List ResultVar}{r:List TV×List RSh}{σ σ':St}{H:List TV}{xs:List Value}{G:Gh},Inv M σ H xs ts w G->qs.length=qs'.length->(∀k (h:k<qs.length)(h':k<qs'.length),CH P qs[k] qs'[k])->(resL np qs).run σ=some (r,σ')->
 ∃vs ys G',(qs'.mapM λ(q:ResultVar)=>(match q with|.tmp t=>(pure (ts.getD t undef):Sem Value)|.cell a t=>do loadVar t (<- asAddr (ts.getD a undef)))).run P w=.ok vs w/\jM M w ts σ H G σ' (H++r.1) (xs++ys) G'/\r.1.length=ys.length /\
  (∀j (h:j<r.1.length),cq r.1[j]=true\/kf r.1[j]=true)/\fC r.2 ys=vs:=by
 intro qs
 induction qs with
 |nil=>
  intro qs' r σ σ' H xs G hI hl _ hr;have:qs'=[]:=oEN (by simpa using hl.symm);subst this;obtain⟨rfl,rfl⟩:=hr;exact⟨[],[],G,by simp,by simpa using jM.refl hI,rfl,λj h=>by simp at h,rfl⟩
 |cons q qs ih=>
  intro qs' r σ σ' H xs G hI hl hok hr
  cases qs' with
  |nil=>simp at hl
  |cons q' qs'=>
   obtain⟨x,σ1,h1,h2⟩:=bG hr;obtain⟨y,σ2,h3,h4⟩:=bG h2;obtain⟨rfl,rfl⟩:=h4;obtain⟨v,ys,G1,k1,k2,k3,k4,k5⟩:=Mb hI (hok 0 (by simp) (by simp)) h1;obtain⟨vs,zs,G2,l1,l2,l3,l4,l5⟩:=ih (qs':=qs') k2.1 (by simpa using hl) (λk h h'=>hok (k+1) (by simpa using h) (by simpa using h')) h3;refine⟨v::vs,ys++zs,G2,?_,by simpa using k2.trans l2,by simp[k3,l3],λj hj=>?_,?_⟩
   ·rw[List.mapM_cons,Sem.run_bind];refine(congrArg (λr=>Result.andThen r _) k1).trans ?_;simp only[Result.andThen_ok,Sem.run_bind,l1,Sem.run_pure]
   ·by_cases hjl:j<x.1.length
    ·rw[List.getElem_append_left hjl];exact k4 j hjl
    ·rw[List.getElem_append_right (by omega)];exact l4 _ _
   ·rw[k5,l5]
theorem H6:∀{qs:List TRs}{qs':List ResultVar}{l:List TV}{σ σ':St}{G:Gh},Inv M σ [] [] ts w G->qs.length=qs'.length->(∀k (h:k<qs.length)(h':k<qs'.length),CH P qs[k] qs'[k])->(flatsR qs).run σ=some (l,σ')->
 σ'=σ/\l.all A2=true/\(qs'.mapM λ(q:ResultVar)=>(match q with|.tmp t=>(pure (ts.getD t undef):Sem Value)|.cell a t=>do loadVar t (<- asAddr (ts.getD a undef)))).run P w=.ok (l.map unV) w:=by
 intro qs
 induction qs with
 |nil=>
  intro qs' l σ σ' G hI hl _ hr;have:qs'=[]:=oEN (by simpa using hl.symm);subst this;obtain⟨rfl,rfl⟩:=hr;exact⟨rfl,rfl,by simp⟩
 |cons q qs ih=>
  intro qs' l σ σ' G hI hl hok hr
  cases qs' with
  |nil=>simp at hl
  |cons q' qs'=>
   cases q with
   |cell t n=>simp[flatsR,SP.run]at hr
   |tmp t=>
    have hq:q'=.tmp t:=hok 0 (by simp) (by simp);subst hq;simp only[flatsR,SP.run]at hr;split at hr
    case isFalse=>simp[SP.run]at hr
    rename_i hf;obtain⟨r,σ1,h1,h2⟩:=bG hr;simp only[SP.run,oSJ,oPJ]at h2;obtain⟨rfl,rfl⟩:=h2;obtain⟨rfl,k2,k3⟩:=ih (qs':=qs') hI (by simpa using hl) (λk h h'=>hok (k+1) (by simpa using h) (by simpa using h')) h1;refine⟨rfl,by rw[List.all_cons,hf,k2];rfl,?_⟩;have hv:=hI.tmr t
    have e:ts.getD t undef=unV (σ1.t t):=by
     cases hc:σ1.t t with
     |v x=>
      rw[hc]at hv
      cases hv with
      |v _=>rfl
     |_=>rw[hc]at hf;simp[A2]at hf
    rw[List.mapM_cons,Sem.run_bind];simp only[Result.andThen_ok,Sem.run_bind,k3,Sem.run_pure];rw[e];rfl
end
section
variable {P:Program} {M:Fm} {σ σ':St} {H:List TV} {xs:List Value} {ts:Array Value} {w:World} {G:Gh}
theorem Inv.trunc(hI:Inv M σ H xs ts w G){k:Nat}(hd:∀j (h:j<H.length),k<=j->H[j]=.dead):Inv M σ (H.take k) (xs.take k) ts w G/\b5 M σ (H.take k)=b5 M σ H:=by
 have e:b5 M σ (H.take k)=b5 M σ H:=by
  funext r o;unfold b5;split
  ·simp only[oGD,List.getElem?_take];split
   ·rfl
   ·rename_i ho;by_cases h:o<H.length
    ·rw[oGE h,hd o h (by omega)];rfl
    ·rw[oGN (by omega)]
  ·rfl
 refine⟨⟨by rw[e];exact hI.core,λi=>by rw[e];exact hI.tmr i,hI.fram,hI.keys,hI.size,by simp[hI.hand],λj hj=>?_,hI.shape,hI.kept⟩,e⟩
 have h2:j<k/\j<xs.length:=by simp at hj;omega
 rw[hI.hval j h2.2];simp[oGD,List.getElem?_take,h2.1]
theorem rz(b:Nat)(vs:List Value):∀(o:Nat)(w:World){k:Nat},k≠b->(w.setCells b o vs).heap[k]?=w.heap[k]?:=by
 induction vs with
 |nil=>intro o w k h;rfl
 |cons v r ih=>
  intro o w k h;simp[World.setCells];rw[ih _ _ h];exact cc w _ v h
theorem vp(b:Nat)(vs:List Value):∀(o:Nat)(w:World){cur:Array Value}{e:TypeId}{fz:Nat×Nat},w.heap[b]?=some (.cells cur e fz)->
 ∃YB,(w.setCells b o vs).heap[b]?=some (.cells YB e fz)/\YB.size=cur.size/\∀j,YB[j]?=if o<=j/\j<o+vs.length/\j<cur.size then vs[j-o]? else cur[j]?:=by
 induction vs with
 |nil=>intro o w cur e fz h;exact⟨cur,h,rfl,λj=>by rw[oIN (by simp;omega)]⟩
 |cons v r ih=>
  intro o w cur e fz h;obtain⟨YB,h1,h2,h3⟩:=ih (o+1) _ (iD w b o v h);refine⟨YB,h1,by rw[h2];simp,λj=>?_⟩;rw[h3];simp;by_cases hj:j=o
  ·subst hj;rw[oIN (by omega)];by_cases hs:j<cur.size
   ·rw[oIP (by omega)];simp[hs]
   ·rw[oIN (by omega)];simp[hs]
  ·by_cases hc:o+1<=j/\j<o+1+r.length/\j<cur.size
   ·rw[oIP hc,oIP (by omega)];rw[show j-o=(j-(o+1))+1 by omega];simp
   ·rw[oIN hc,oIN (by omega)];rw[Array.getElem?_setIfInBounds,oIN (Ne.symm hj)]
theorem pX(b:Nat)(vs:List Value):∀(o:Nat)(w:World),w.setCells b o vs={ w with heap:=(w.setCells b o vs).heap }:=by
 induction vs with
 |nil=>intro o w;rfl
 |cons v r ih=>
  intro o w;simp[World.setCells]
  have h:w.setCell ⟨b,o,none⟩ v={ w with heap:=(w.setCell ⟨b,o,none⟩ v).heap }:=by
   unfold World.setCell
   simp_all
  rw[ih];rw[h]
def gd(w W:World)(b:Nat):World:=match w.heap[b]? with|some x=>{ W with heap:=W.heap.setIfInBounds b x } |none=>W
theorem oB{w W:World}{b k:Nat}(h:k≠b):(gd w W b).heap[k]?=W.heap[k]?:=by
 unfold gd;split
 ·simp[Ne.symm h]
 ·rfl
theorem rC{w W:World}{b:Nat}(h:b<W.heap.size)(h2:b<w.heap.size):(gd w W b).heap[b]?=w.heap[b]?:=by
 unfold gd
 simp_all
theorem kY{w W:World}{b:Nat}:(gd w W b).heap.size=W.heap.size:=by
 unfold gd
 grind
theorem r8{w W:World}{b:Nat}:(gd w W b).os=W.os/\(gd w W b).tape=W.tape/\(gd w W b).output=W.output/\(gd w W b).drawn=W.drawn:=by
 unfold gd
 grind
theorem sJ{w W:World}{b o:Nat}{vs:List Value}{cur0 cur:Array Value}{e:TypeId}{fz:Nat×Nat}(h0:w.heap[b]?=some (.cells cur0 e fz))(h1:W.heap[b]?=some (.cells cur e fz))(hs:cur.size=cur0.size)
 (VO:∀j,(j<o\/o+vs.length<=j)->cur[j]?=cur0[j]?)(hin:∀j (h:j<vs.length),cur[o+j]?=some vs[j]):(gd w W b).setCells b o vs=W:=by
 have hbW:=(Array.getElem?_eq_some_iff.1 h1).1;have Ux:=(Array.getElem?_eq_some_iff.1 h0).1;rw[pX];obtain⟨r1,r2,r3,r4⟩:=r8 (w:=w) (W:=W) (b:=b)
 have YM:((gd w W b).setCells b o vs).heap=W.heap:=by
  apply Array.ext_getElem?;intro k;by_cases hk:k=b
  ·subst hk;obtain⟨YB,e1,e2,e3⟩:=vp k vs o (gd w W k) ((rC hbW Ux).trans h0);rw[e1,h1];congr 2;apply Array.ext_getElem?;intro j;rw[e3];split
   ·rename_i hj;have:=hin (j-o) (by omega)
    simp_all
   ·rename_i hj;by_cases hjs:j<cur0.size
    ·exact(VO j (by omega)).symm
    ·simp_all
  ·rw[rz b vs o _ hk,oB hk]
 simp_all
end
structure Fn (H:List TV)(xs:List Value)(w:World)(G:Gh)(A:Nat->Prop)(pr:Nat->Option (Nat×Nat×Nat))(bs:Nat->Nat)(ce:List (Nat×List TV))(ow:Nat->Option Nat):Prop where
 even:∀r b o n,pr r=some (b,o,n)->r%2=0/\0<n
 cells:∀r b o n,pr r=some (b,o,n)->∃l,b9 ce r=some l/\l.length=n/\∀j (h:j<l.length),∃h':bs r+j<H.length,l[j]=H[bs r+j]/\l[j]≠.dead
 only:∀r l,b9 ce r=some l->pr r≠none\/ow r≠none
 owc:∀r j,ow r=some j->r%2=1/\r≠1/\∃(c:List (List TV))(h:j<H.length),b9 ce r=some [.ow c]/\H[j]=.ow c
 owa:∀r j r' b o n,ow r=some j->pr r'=some (b,o,n)->∀j',j'<n->bs r'+j'≠j
 owi:∀r r' j,ow r=some j->ow r'=some j->r=r'
 apart:∀r b o n r' b' o' n',pr r=some (b,o,n)->pr r'=some (b',o',n')->∀j j',j<n->j'<n'->bs r+j=bs r'+j'->r=r'
 inj:∀r b o n r' o' n',pr r=some (b,o,n)->pr r'=some (b,o',n')->r=r'
 notF:∀r b o n,pr r=some (b,o,n)->¬G.F A b
 notH:∀r b o n,pr r=some (b,o,n)->∀j,¬G.φ 1 j b
 here:∀r b o n,pr r=some (b,o,n)->∀j,j<n->w.cell? ⟨b,o+j,none⟩=some (xs.getD (bs r+j) undef)/\w.frozen? ⟨b,o+j,none⟩=false
def Fm.into(M:Fm)(w:World)(G:Gh)(pr:Nat->Option (Nat×Nat×Nat))(N:Nat)(kp:Nat->Option Value):Fm where
 w0:=w
 A:=λk=>G.F M.A k\/(∃j,G.φ 1 j k)\/w.heap.size<=k
 W0:=λk=>∃j,G.φ 1 j k
 pr:=pr
 N:=N
 hA:=λk h=>.inr (.inr h)
 kp:=kp
def Gh.into(G:Gh)(pr:Nat->Option (Nat×Nat×Nat))(bs:Nat->Nat)(ow:Nat->Option Nat)(xs:List Value):Gh:=
 ⟨pr,λr _=>match ow r with|some j=>xs.getD j undef|none=>undef,λr o k=>(∃b o0 n,pr r=some (b,o0,n)/\o<n/\G.φ 1 (bs r+o) k)\/∃j,ow r=some j/\o=0/\G.φ 1 j k⟩
theorem ir{G:Gh}{pr:Nat->Option (Nat×Nat×Nat)}{bs:Nat->Nat}{ow:Nat->Option Nat}{xs:List Value}{r o k:Nat}(h:(G.into pr bs ow xs).φ r o k):∃j,G.φ 1 j k:=by
 rcases h with⟨_,_,_,_,_,h⟩|⟨_,_,_,h⟩<;>exact⟨_,h⟩
section
variable {P:Program} {M:Fm} {σ σ':St} {H:List TV} {xs:List Value} {ts:Array Value} {w:World} {G:Gh}
variable {pr:Nat->Option (Nat×Nat×Nat)} {bs:Nat->Nat} {ce:List (Nat×List TV)} {ow:Nat->Option Nat} {kp:Nat->Option Value}
theorem Fn.F(hh:Fn H xs w G M.A pr bs ce ow){N k:Nat}(h:G.F M.A k):(G.into pr bs ow xs).F (M.into w G pr N kp).A k:=
 ⟨.inl h,λr o hφ=>by obtain⟨j,h3⟩:=ir hφ;exact h.2.1 _ _ h3,λr b o n hb e=>hh.notF r b o n hb (e▸h)⟩
theorem oM{w:World}{b o:Nat}{v:Value}(h:w.cell? ⟨b,o,none⟩=some v):∃cur e fz,w.heap[b]?=some (.cells cur e fz)/\o<cur.size/\cur[o]?=some v:=by
 unfold World.cell? at h;split at h
 ·rename_i cur e fz hb
  grind
 ·simp at h
theorem Inv.enter(hI:Inv M σ H xs ts w G)(hh:Fn H xs w G M.A pr bs ce ow){tm:List (Nat×TV)}{X1:Array Value}{N:Nat}(hN:X1.size=N)(hkp:∀i x,kp i=some x->(G.into pr bs ow xs).η (2*i+3) 0=x)
 (ht:∀i,TmR w ((G.into pr bs ow xs).F (M.into w G pr N kp).A) (λ_=>0) (b5 (M.into w G pr N kp) ⟨tm,ce,[]⟩ []) (G.into pr bs ow xs) ((b9 tm i).getD .dead) (X1.getD i undef)):
 Inv (M.into w G pr N kp) ⟨tm,ce,[]⟩ [] [] X1 w (G.into pr bs ow xs):=by
 have Yn:∀r b o n,pr r=some (b,o,n)->r≠1:=λr b o n h e=>by have:=(hh.even r b o n h).1;omega
 have Zq:∀r b o n,pr r=some (b,o,n)->ow r=none:=λr b o n h=>by
  cases e:ow r with
  |none=>rfl
  |some j=>have:=(hh.even r b o n h).1;have:=(hh.owc r j e).1;omega
 have hne:∀r l,b9 ce r=some l->r≠1:=by
  intro r l h;rcases hh.only r l h with h1|h1
  ·cases hp:pr r with
   |none=>exact absurd hp h1
   |some x=>exact Yn r _ _ _ hp
  ·cases hp:ow r with
   |none=>exact absurd hp h1
   |some j=>exact(hh.owc r j hp).2.1
 have hcell:∀r o,b5 (M.into w G pr N kp) ⟨tm,ce,[]⟩ [] r o=match b9 ce r with|some l=>l.getD o .dead|none=>.dead:=by
  intro r o;unfold b5;split
  ·rename_i e
   cases hc:b9 ce r with
   |none=>simp
   |some l=>exact absurd e (hne r l hc)
  ·rfl
 refine⟨⟨λr o=>?_,λr b o0 n hb=>?_,λr b o0 n hb o ho=>?_,λr r' b o n o' n' h1 h2=>hh.inj r b o n r' o' n' h1 h2,λr b o n hb r' o' hφ=>by obtain⟨j,h3⟩:=ir hφ;exact hh.notH r b o n hb _ h3,λr1 o1 r2 o2 k Y9 YJ=>?_,λr o k hφ=>.inr (.inl (ir hφ))⟩,ht,?_,λr l h=>hne r l h,hN,rfl,λj hj=>by simp at hj,λr b o n hb l hl=>?_,λi x _ h=>hkp i x h⟩
 ·rw[hcell]
  cases hc:b9 ce r with
  |none=>
   left;refine⟨rfl,λk hk=>?_⟩
   rcases hk with⟨b1,p1,n1,h1,h2,h3⟩|⟨j,h1,_⟩
   ·obtain⟨l,h4,_⟩:=hh.cells r _ _ _ h1;rw[hc]at h4;simp at h4
   ·obtain⟨_,_,c,_,h4,_⟩:=hh.owc r j h1;rw[hc]at h4;simp at h4
  |some l=>
   cases hp:pr r with
   |none=>
    obtain⟨j,hj⟩:∃j,ow r=some j:=by
     rcases hh.only r l hc with h1|h1
     ·exact absurd hp h1
     ·cases e:ow r with
      |none=>exact absurd e h1
      |some j=>exact⟨j,rfl⟩
    obtain⟨_,_,c,hjl,h4,h5⟩:=hh.owc r j hj;rw[hc]at h4
    injection h4 with h4
    subst h4
    cases o with
    |zero=>
     right;have hown:=hI.hand_own hjl (by rw[h5];simp)
     have hval:(G.into pr bs ow xs).val w r 0=xs.getD j undef:=by
      unfold Gh.val Gh.into;simp only[hp,hj]
     rw[hval];simp only[List.getD_cons_zero];rw[h5]at hown;refine(hown.frame (λ_ _=>rfl) (λ_ _ _=>rfl) λk hk _=>hh.F hk).refp λk=>?_;constructor
     ·intro hk;exact .inr ⟨j,hj,rfl,hk⟩
     ·rintro(⟨b1,p1,n1,h1,_,_⟩|⟨j',h1,_,hk⟩)
      ·rw[hp]at h1;simp at h1
      ·rw[hj]at h1;injection h1 with h1;rw[h1];exact hk
    |succ o=>
     left;refine⟨by simp,λk hk=>?_⟩
     rcases hk with⟨b1,p1,n1,h1,_,_⟩|⟨j',_,h1,_⟩
     ·rw[hp]at h1;simp at h1
     ·omega
   |some x=>
    obtain⟨b,o0,n⟩:=x;obtain⟨l',h4,h5,h6⟩:=hh.cells r _ _ _ hp;rw[hc]at h4
    injection h4 with h4
    subst h4;by_cases ho:o<l.length
    ·right;obtain⟨h7,h8,h9⟩:=h6 o ho;have hown:=hI.hand_own h7 (by rw[<- h8];exact h9)
     have hval:(G.into pr bs ow xs).val w r o=xs.getD (bs r+o) undef:=by
      unfold Gh.val Gh.into;simp only[hp];rw[(hh.here r _ _ _ hp o (by omega)).1];rfl
     rw[hval]
     have e:l.getD o .dead=l[o]:=by simp[ho]
     simp only[e];rw[h8];refine(hown.frame (λ_ _=>rfl) (λ_ _ _=>rfl) λk hk _=>hh.F hk).refp λk=>?_;constructor
     ·intro hk;exact .inl ⟨b,o0,n,hp,by omega,hk⟩
     ·rintro(⟨_,_,_,_,_,hk⟩|⟨j',h1,_,_⟩)
      ·exact hk
      ·rw[Zq r _ _ _ hp]at h1;simp at h1
    ·left;refine⟨by simp only[];rw[oGD,oGN (by omega)];rfl,λk hk=>?_⟩
     rcases hk with⟨b1,p1,n1,h1,h2,h3⟩|⟨j',h1,_,_⟩
     ·rw[hp]at h1
      injection h1 with h1
      injection h1 with _ h1
      injection h1 with _ h1
      omega
     ·rw[Zq r _ _ _ hp]at h1;simp at h1
 ·have hn:=(hh.even r _ _ _ hb).2;have Zx:pr r=some (b,o0,n):=hb;obtain⟨cur,e,fz,h1,h2,h3⟩:=oM (hh.here r _ _ _ Zx (n-1) (by omega)).1;exact⟨cur,e,fz,h1,by omega,λj hj=>(hh.here r _ _ _ Zx j hj).2⟩
 ·have Zx:pr r=some (b,o0,n):=hb;rw[hcell];obtain⟨l,h1,h2,_⟩:=hh.cells r _ _ _ Zx;rw[h1];show l.getD o .dead=.dead;rw[oGD,oGN (by omega)];rfl
 ·rcases Y9 with⟨b1,p1,n1,h1,h2,h3⟩|⟨j1,h1,h2,h3⟩<;>rcases YJ with⟨b2,p2,n2,k1,k2,k3⟩|⟨j2,k1,k2,k3⟩
  ·obtain⟨_,h5⟩:=hI.core.dis _ _ _ _ k h3 k3;have:=hh.apart _ _ _ _ _ _ _ _ h1 k1 _ _ h2 k2 h5;subst this;exact⟨rfl,by omega⟩
  ·obtain⟨_,h5⟩:=hI.core.dis _ _ _ _ k h3 k3;exact absurd h5 (hh.owa _ _ _ _ _ _ k1 h1 _ h2)
  ·obtain⟨_,h5⟩:=hI.core.dis _ _ _ _ k h3 k3;exact absurd h5.symm (hh.owa _ _ _ _ _ _ h1 k1 _ k2)
  ·obtain⟨_,h5⟩:=hI.core.dis _ _ _ _ k h3 k3;subst h5;exact⟨hh.owi _ _ _ h1 k1,by omega⟩
 ·refine⟨rfl,rfl,rfl,Nat.le_refl _,λ_ _ _ _=>rfl,λr b o n hp=>⟨hp,?_⟩,λr o k hφ=>.inl (ir hφ),λr b o n hb=>.inl hb,λr hb=>?_⟩
  ·have hn:=(hh.even r _ _ _ hp).2;obtain⟨cur,e,fz,h1,h2,h3⟩:=oM (hh.here r _ _ _ hp (n-1) (by omega)).1;exact⟨cur,cur,e,fz,h1,h1,rfl,λ_ _=>rfl⟩
  ·cases hp:pr r with
   |none=>exact absurd hp hb
   |some x=>exact(hh.even r _ _ _ hp).1
 ·obtain⟨l',h1,h2,_⟩:=hh.cells r _ _ _ hb;have Yw:b9 ce r=some l:=hl;rw[Yw]at h1
  injection h1 with h1
  rw[h1];exact h2
end
structure Lj (H2:List TV)(ys:List Value)(H':List TV)(xs':List Value)(C2:Cs)(G2:Gh)(w2:World)(rt:Nat->Option Nat)(bs:Nat->Nat):Prop where
 len:H'.length=xs'.length
 low:∀j (h:j<H2.length),∃h':j<H'.length,H'[j]=H2[j]/\xs'.getD j undef=ys.getD j undef
 cells:∀r n,rt r=some n->r≠1/\∀t,t<n->∃h:bs r+t<H'.length,H2.length<=bs r+t/\H'[bs r+t]=C2 r t/\xs'.getD (bs r+t) undef=G2.val w2 r t
 cover:∀j,j<H'.length->j<H2.length\/∃r n t,rt r=some n/\t<n/\j=bs r+t
 apart:∀r n r' n',rt r=some n->rt r'=some n'->∀j j',j<n->j'<n'->bs r+j=bs r'+j'->r=r'
section
variable {P:Program} {M:Fm} {σ σ2:St} {H H2 H':List TV} {xs ys xs':List Value} {ts ts2:Array Value} {w w2 w':World} {G G2:Gh}
variable {pr:Nat->Option (Nat×Nat×Nat)} {bs bs2:Nat->Nat} {rt:Nat->Option Nat} {ce:List (Nat×List TV)} {N:Nat} {ow:Nat->Option Nat} {kp:Nat->Option Value}
theorem Inv.leave(hI:Inv M σ H xs ts w G)(hh:Fn H xs w G M.A pr bs ce ow)(h2:Inv (M.into w G pr N kp) σ2 H2 ys ts2 w2 G2)(ZZ:Lj H2 ys H' xs' (b5 (M.into w G pr N kp) σ2 H2) G2 w2 rt bs2)
 (hs:w'.heap.size=w2.heap.size)(ho:w'.os=w2.os)(htp:w'.tape=w2.tape)(hu:w'.output=w2.output)(Y5:∀k,(∀r b o n,pr r=some (b,o,n)->k≠b)->w'.heap[k]?=w2.heap[k]?)
 (Yt:∀r b o n,pr r=some (b,o,n)->w'.heap[b]?=w.heap[b]?):∃G',Inv M σ H' xs' ts w' G'/\ij M w σ H G w' σ H' G'/\G'.β=G.β:=by
 have Xi:=h2.fram
 let f:Nat->Nat->Prop:=λj k=>(j<H2.length/\G2.φ 1 j k)\/∃r n t,rt r=some n/\t<n/\j=bs2 r+t/\G2.φ r t k
 have hfφ:∀j k,f j k->∃r o,G2.φ r o k:=by
  rintro j k (⟨_,h⟩|⟨r,n,t,_,_,_,h⟩)
  ·exact⟨_,_,h⟩
  ·exact⟨_,_,h⟩
 have hβ2:∀r b o n,pr r=some (b,o,n)->G2.β r=some (b,o,n):=λr b o n h=>(Xi.par r b o n h).1;have Z8:∀r n,rt r=some n->r≠1:=λr n h=>(ZZ.cells r n h).1;have hφw:∀r o k,G2.φ r o k->w'.heap[k]?=w2.heap[k]?:=λr o k h=>Y5 k λr' b o' n hp e=>h2.core.boxf r' b o' n (hβ2 _ _ _ _ hp) _ _ (e▸h);have Yy:∀k,G2.F (M.into w G pr N kp).A k->w'.heap[k]?=w2.heap[k]?:=λk h=>Y5 k λr' b o' n hp e=>h.2.2 r' b o' n (hβ2 _ _ _ _ hp) e
 obtain⟨G',a1,a2,a3,_⟩:=hI.rehandL (w':=w') (H':=H') (xs':=xs') (f:=f) (Fx:=G2.F (M.into w G pr N kp).A)
  (λk hk hn=>by
   by_cases hp:∃r b o n,pr r=some (b,o,n)/\k=b
   ·obtain⟨r,b,o,n,hp,rfl⟩:=hp;exact Yt r k o n hp
   ·have hp':∀r b o n,pr r=some (b,o,n)->k≠b:=λr b o n h e=>hp ⟨r,b,o,n,h,e⟩;rw[Y5 k hp']
    exact Xi.old k hk (λ⟨j,hj⟩=>hn j hj) hp')
  (by rw[hs];exact Xi.size) (ho.trans Xi.os) (htp.trans Xi.tape) (hu.trans Xi.output) ZZ.len
  (λj k h=>by
   refine⟨?_,?_⟩
   ·rcases h with⟨h,_⟩|⟨r,n,t,hp,ht,rfl,_⟩
    ·exact(ZZ.low j h).1
    ·exact((ZZ.cells r n hp).2 t ht).1
   ·obtain⟨r,o,hφ⟩:=hfφ j k h
    exact Xi.own r o k hφ)
  (λj j' k h h'=>by
   rcases h with⟨h1,h3⟩|⟨r,n,t,hp,ht,rfl,h3⟩
   ·rcases h' with⟨k1,k3⟩|⟨r',n',t',hp',YS,rfl,k3⟩
    ·exact(h2.core.dis _ _ _ _ k h3 k3).2
    ·exact absurd (h2.core.dis _ _ _ _ k h3 k3).1.symm (Z8 _ _ hp')
   ·rcases h' with⟨k1,k3⟩|⟨r',n',t',hp',YS,rfl,k3⟩
    ·exact absurd (h2.core.dis _ _ _ _ k h3 k3).1 (Z8 _ _ hp)
    ·obtain⟨e1,e2⟩:=h2.core.dis _ _ _ _ k h3 k3
     rw[e1,e2])
  (λk h=>⟨h.1,λj hf=>by obtain⟨r,o,hφ⟩:=hfφ j k hf;exact h.2.1 r o hφ⟩)
  (λj hj=>by
   rcases ZZ.cover j hj with h|⟨r,n,t,hp,ht,rfl⟩
   ·obtain⟨_,e1,e2⟩:=ZZ.low j h
    have Zq:∀k,f j k↔G2.φ 1 j k:=λk=>by
     constructor
     ·rintro(⟨_,h⟩|⟨r,n,t,hp,ht,e,_⟩)
      ·exact h
      ·have:=((ZZ.cells r n hp).2 t ht).2.1;omega
     ·exact λhk=>.inl ⟨h,hk⟩
    by_cases hd:H2[j]=.dead
    ·left;refine⟨e1.trans hd,λk hk=>?_⟩;refine h2.phi_dead (r:=1) (o:=j) ?_ k ((Zq k).1 hk);rw[show(1:Nat)=(M.into w G pr N kp).hr from rfl,iI];simp[h,hd]
    ·right;have:=h2.hand_own h hd;rw[e1,e2];exact(this.frame (λk hk=>hφw _ _ k hk) (λk hk _=>Yy k hk) λk hk _=>hk).refp λk=>(Zq k).symm
   ·obtain⟨h1,h3,h4,h5⟩:=(ZZ.cells r n hp).2 t ht
    have Zq:∀k,f (bs2 r+t) k↔G2.φ r t k:=λk=>by
     constructor
     ·rintro(⟨h,_⟩|⟨r',n',t',hp',YS,e,hk⟩)
      ·omega
      ·have:=ZZ.apart _ _ _ _ hp hp' _ _ ht YS e;subst this
       have:t=t':=by omega
       subst this;exact hk
     ·exact λhk=>.inr ⟨r,n,t,hp,ht,rfl,hk⟩
    rw[h4,h5]
    rcases h2.core.cell r t with⟨c1,c2⟩|c1
    ·left;exact⟨c1,λk hk=>c2 k ((Zq k).1 hk)⟩
    ·right
     exact(c1.frame (λk hk=>hφw _ _ k hk) (λk hk _=>Yy k hk) λk hk _=>hk).refp λk=>(Zq k).symm)
 exact⟨G',a1,a2,a3⟩
end
def oQ:TV->Bool
 |.v _=>true
 |.sl _=>true
 |.ip _=>true
 |.ow []=>true
 |.fn _ l=>l.all zS
 |.agg l=>l.all λt=>match t with|.v _=>true|.sl _=>true|_=>false
 |_=>false
def OZ:TV->Bool
 |.pk _ _=>true
 |.ow []=>true
 |_=>false
def No:TV->Bool
 |.pk _ _=>true
 |_=>false
def wv:TV->SP TV
 |.ow c=>(names 1000000 [.ow c]).bind λl=>.ret (l.headD .dead)
 |t=>.ret t
def argV(x:Option Nat×Opd):SP TV:=(opd x.2).bind λt=>if x.1==some 0&&OZ t then wv t else if x.1.isSome&&No t then .ret t else match t with
 |.ip cs=>.ret (.ip cs)
 |.fn f cap=>.ret (.fn f cap)
 |.ptr p vs=>.ret (.ptr p vs)
 |t=>(takeV false t).bind λl=>.ret (mV l.2 (l.1.map TV.imm))
def argVs:List (Option Nat×Opd)->SP (List TV)
 | []=>.ret []
 |x::r=>(argV x).bind λt=>(argVs r).bind λl=>.ret (t::l)
def takeOwns:Nat->List (Option Nat×TV)->SP (List (Nat×TV))
 |_,[]=>.ret []
 |i,(some 0,.pk p vs)::r=>(take1 true (.pk p vs)).bind λt=>if kf t then(takeOwns (i+1) r).bind λq=>.ret ((i,t)::q)else .fail
 |i,_::r=>takeOwns (i+1) r
structure GP where
 i:Nat
 p:bS
 vs:List Nat
 cells:List TV
def Ai(p:bS):Nat->SP (List TV)
 |0=>.ret []
 |n+1=>(getPl p).bind λt=>(peek1 p t).bind λt'=>(take1 true t').bind λt2=>match n with
  |0=>.ret [t2]
  |_=>if p.fits 1 then(Ai (p.add 1) n).bind λr=>.ret (t2::r)else .fail
def bS.base(p:bS):bS:=⟨p.root,p.off,[]⟩
def MX(p:bS)(n:Nat):Nat:=match p.hops with
 | []=>n
 |_::_=>1
def rooted(p:bS):SP Unit:=match p.hops with
 | []=>.ret ()
 |_::_=>.rdT ((p.root-2)/2) λt=>match t with
  |.ptr q ws=>if q.root==p.root&&q.hops.isEmpty then chk q 0 ws else .fail
  |_=>.fail
def grabs:Nat->List (Option Nat×TV)->SP (List GP)
 |_,[]=>.ret []
 |i,(some n,.ptr p vs)::r=>(chk p p.hops.length vs).bind λ_=>(rooted p).bind λ_=>(Ai p.base (MX p n)).bind λl=>(grabs (i+1) r).bind λq=>.ret (⟨i,p.base,vs.take 1,l⟩::q)
 |i,(some 0,.pk _ _)::r=>grabs (i+1) r
 |i,(_,t)::r=>if oQ t then grabs (i+1) r else .fail
def touch(p:bS):SP Unit:=.rdC p.root p.off λtv=>.wrC p.root p.off tv (.ret ())
def rechk:List GP->SP Unit
 | []=>.ret ()
 |g::r=>(chk g.p g.p.hops.length g.vs).bind λ_=>(touch g.p).bind λ_=>rechk r
def la:List Nat->Bool
 | []=>true
 |x::r=>!r.contains x&&la r
def argT(i:Nat):TV->TV
 |.ptr p _=>.ptr ⟨2*i+2,0,p.hops⟩ (List.replicate (p.hops.length+1) 0)
 |.pk _ _=>.pk ⟨2*i+3,0,[]⟩ [0,0]
 |t=>t
def argTs:Nat->List TV->List TV
 |_,[]=>[]
 |i,t::r=>argT i t::argTs (i+1) r
def eP{α:Type}:Nat->List α->List (Nat×α)
 |_,[]=>[]
 |i,t::r=>(i,t)::eP (i+1) r
def mkSt(vals:List TV)(pts:Pts):St:=⟨eP 0 vals,pts,[]⟩
def Dr:TV->Bool
 |.dead=>true
 |_=>false
def putBack:List (GP×List TV)->SP Unit
 | []=>.ret ()
 |(g,l)::r=>(putBack r).bind λ_=>if l.length=g.cells.length&&l.all λt=>!Dr t then putL g.p l else .fail
def ib:List RSh->List TV->List TV
 | [],_=>[]
 |.one::r,l=>l.headD .dead::ib r l.tail
 |.agg n::r,l=>.agg (l.take n)::ib r (l.drop n)
 |.ptr::r,l=>.dead::ib r l
def pV(sh:List RSh)(l:List TV):TV:=
 match ib sh l with
 | [x]=>x
 |l=>.tup l
def nH:List RSh->Nat->Bool
 | [],n=>n==0
 |.one::r,n=>decide (0<n)&&nH r (n-1)
 |.agg m::r,n=>decide (m<=n)&&nH r (n-m)
 |.ptr::_,_=>false
def landR(dst:Option Nat)(res:vl):SP Unit:=
 match dst with
 |some d=>(names d res.cells).bind λl=>wr d (pV res.sh l)
 |none=>.ret ()
def isP(r:vl):Bool:=match r.sh,r.cells with
 |.ptr::_,.ptr _ _::_=>true
 |_,_=>false
def landP(dst:Option Nat)(q:List GP)(cells:List TV):SP Unit:=
 match dst with
 |none=>.ret ()
 |some d=>match cells,q with
  |.ptr pl _::l,[g]=>if pl.root==2*g.i+2&&g.p.hops.isEmpty then(rdVs (nN g.p.root (g.p.off+pl.off) pl.hops.length)).bind λvs=>wr d (C7 (.ptr ⟨g.p.root,g.p.off+pl.off,pl.hops⟩ vs) l)else .fail
  |_,_=>.fail
def normA:Option Nat×TV->Option Nat×TV
 |(some _,.pk p vs)=>(some 0,.pk p vs)
 |x=>x
def lentTo(z:List (Option Nat×TV))(i:Nat):Option Nat:=match z[i]? with
 |some (some (k+1),.pk _ _)=>some k
 |_=>none
def lendChk:List (Option Nat×TV)->SP Unit
 | []=>.ret ()
 |(some (k+1),.pk p vs)::r=>(chk p (p.hops.length+1) vs).bind λ_=>.rdT k λt=>match t with
  |.pk q ws=>if p.root=2*k+3/\p.off=0/\p.hops.isEmpty=true/\q.root=2*k+3/\q.off=0/\q.hops.isEmpty=true/\vs=ws then lendChk r else .fail
  |_=>.fail
 |_::r=>lendChk r
def giveBack(z:List (Option Nat×TV))(ks:List Nat):List (Nat×TV)->List (List TV)->SP Unit
 | [],_=>.ret ()
 |x::ow,y::rs=>(giveBack z ks ow rs).bind λ_=>match lentTo z x.1 with
  |none=>.ret ()
  |some k=>match y with
   | [.ow c]=>if ks.contains (1000000+x.1)=true/\x.1≠1000000 then(names k [.ow c]).bind λl=>.wrT k (l.headD .dead) (.ret ())else .fail
   |_=>.fail
 |_::_,[]=>.fail
def callV(F:cI)(dst:Option Nat)(f:FuncId)(ns:List (Option Nat))(vals:List TV):SP Unit:=
 (lendChk (ns.zip vals)).bind λ_=>(takeOwns 0 ((ns.zip vals).map normA)).bind λow=>(grabs 0 ((ns.zip vals).map normA)).bind λq=>(rechk q).bind λ_=>
  if la (q.map (·.p.root))&&q.all (λg=>decide (0<g.cells.length))then
   (ig (F f (argTs 0 vals) (q.map (λg=>(2*g.i+2,g.cells))++ow.map λx=>(2*x.1+3,[x.2])))).bind λr=>
    if(r.2.map (·.1)).take (q.length+ow.length)=q.map (λg=>2*g.i+2)++ow.map (λx=>2*x.1+3)&&(isP r.1||nH r.1.sh r.1.cells.length)then(putBack (q.zip (r.2.map (·.2)))).bind λ_=>(giveBack (ns.zip vals) ((r.2.drop (q.length+ow.length)).map (·.1)) ow ((r.2.drop q.length).map (·.2))).bind λ_=>if isP r.1 then(if ow.isEmpty then landP dst q r.1.cells else .fail)else landR dst r.1 else .fail
  else .fail
inductive BxC where
 |arg (i:Nat)
 |val (x:Value)
structure Env where
 box:FuncId->Option (Nat×List BxC)
 ps:FuncId->List (Option Nat)
 row:FuncId->Nat:=λ_=>0
def bxT(vals:List TV):BxC->TV
 |.arg i=>vals.getD i .dead
 |.val x=>.v x
def bxV(asq:List Value):BxC->Value
 |.arg i=>asq.getD i undef
 |.val x=>x
def evBox(dst:Option Nat)(tm:List BxC)(vals:List TV):SP Unit:=
 match dst with
 |some d=>(takeL false (tm.map (bxT vals))).bind λl=>.new (2*d+2) l (.rdV (2*d+2,0,0) λg=>wr d (.ptr ⟨2*d+2,0,[]⟩ [g]))
 |none=>.fail
def Ir(E:Env)(f:FuncId)(n m:Nat):List (Option Nat):=(List.range m).map λk=>(E.ps f).getD (n+k) none
def see1:TV->SP TV
 |.v x=>.ret (.v x)
 |.sl c=>.ret (.sl c)
 |.ow []=>.ret (.sl [])
 |.pk p vs=>(chk p (p.hops.length+1) vs).bind λ_=>.rdC p.root p.off λtv=>match b7 tv p.hops with|some (.ow c)=>.ret (TV.ow c).imm|_=>.fail
 |_=>.fail
def seeL:List TV->SP (List TV)
 | []=>.ret []
 |t::r=>(see1 t).bind λt'=>(seeL r).bind λl=>.ret (t'::l)
def seeA:TV->SP TV
 |.agg l=>(seeL l).bind λl'=>.ret (.agg l')
 |.ip cs=>.ret (.ip cs)
 |.fn f cap=>if cap.all zS then .ret (.fn f cap)else .fail
 |t=>see1 t
def seeAs:List Opd->SP (List TV)
 | []=>.ret []
 |x::r=>(opd x).bind λt=>(seeA t).bind λt'=>(seeAs r).bind λl=>.ret (t'::l)
def callB(F:cI)(dst:Option Nat)(f:FuncId)(vals:List TV):SP Unit:=
 (ig (F f vals [])).bind λr=>if r.2.length=0&&r.1.cells.all A2&&nH r.1.sh r.1.cells.length then(match dst with|some d=>wr d (pV r.1.sh r.1.cells)|none=>.ret ())else .fail
def t6(k:Nat)(zs:List Int):List Int:=match k with
 |1=>zs.mergeSort λx y=>decide (x<=y)
 |_=>Lib.compact zs++List.replicate (zs.length-(Lib.compact zs).length) 0
def rowN(zs:List Int):Nat:=(Lib.compact zs).length
def pA(z:Int):List TV:=[.v (.int .i64 z)]
def qy:List (List TV)->Option (List Int)
 | []=>some []
 | [.v (.int .i64 z)]::r=>(qy r).map (z :: ·)
 |_::_=>none
def rowLand(dst:Option Nat)(k:Nat)(p:bS)(vs:List Nat)(m:Nat):SP Unit:=match dst with
 |none=>.ret ()
 |some d=>if k=1 then wr d (.tup [])else wr d (.pw p vs 1 0 m)
def evRow(dst:Option Nat)(k:Nat):TV->SP Unit
 |.pk p vs=>(chk p 1 vs).bind λ_=>match p.hops with
  | []=>.rdC p.root p.off λtv=>match tv with
   |.ow c=>match qy c with
    |some zs=>if zs.length<4611686018427387904 then .wrC p.root p.off (.ow ((t6 k zs).map pA)) (rowLand dst k p vs (rowN zs))else .fail
    |none=>.fail
   |_=>.fail
  |_::_=>.fail
 |_=>.fail
def oct(j:Nat):Nat:=Nat.add (Nat.add (Nat.add j j) (Nat.add j j)) (Nat.add (Nat.add j j) (Nat.add j j))
def evPart(dst:Option Nat)(t:TV):TV->SP Unit
 |.v (.int .i64 i)=>(jq t).bind λn=>(natOf (.v (.int .i64 i))).bind λj=>if j<33 then if oct j<n then if n<1099511627777 then match dst with
  |some d=>match t with
   |.pk p vs=>(getPl p).bind λt=>match t with
    |.ow c=>if c.all (λe=>e.length==4)then wr d (.pw p vs 4 (oct j) (Nat.min 8 (Nat.sub n (oct j))))else .fail
    |_=>.fail
   |_=>.fail
  |none=>.fail
  else .fail else .fail else .fail
 |_=>.fail
def evRowA(dst:Option Nat)(k:Nat)(nrm:SP Unit):List (Option Nat×Opd)->SP Unit
 | [x]=>if k=3 then .fail else(opd x.2).bind (evRow dst k)
 | [x,y]=>if k=3 then(opd x.2).bind λt=>if No t then(opd y.2).bind (evPart dst t)else nrm else .fail
 |_=>.fail
def evNrm(E:Env)(F:cI)(dst:Option Nat)(k:Bool)(f:FuncId)(args:List (Option Nat×Opd)):SP Unit:=
 if k then(argVs args).bind λvals=>match E.box f with
  |some x=>if vals.length=x.1 then evBox dst x.2 vals else .fail
  |none=>callV F dst f (args.map (·.1)) vals
 else(seeAs (args.map (·.2))).bind λvals=>callB F dst f vals
def evCall(E:Env)(F:cI)(dst:Option Nat):TOp->SP Unit
 |.call k (.f f) args=>
  if E.row f≠0 then evRowA dst (E.row f) (evNrm E F dst k f args) args else
  evNrm E F dst k f args
 |.call _ (.t i) args=>.rdT i λt=>match t with
  |.fn f caps=>(argVs args).bind λvals=>callV F dst f (args.map (·.1)++Ir E f args.length caps.length) (vals++caps)
  |_=>.fail
 |_=>.fail
section
variable {P:Program} {M:Fm} {σ σ':St} {H:List TV} {xs:List Value} {ts:Array Value} {w:World} {G:Gh} {a:Act} {o:Oper}
theorem JP{r:Nat}:∀{l:List TV}{i:Nat}{l':List TV}{σ σ':St},(nameL r i l).run σ=some (l',σ')->σ'=σ:=by
 intro l
 induction l with
 |nil=>
  intro i l' σ σ' h;simp only[nameL,SP.run,oSJ,oPJ]at h;exact h.2.symm
 |cons t l ih=>
  intro i l' σ σ' h;by_cases ho:kf t=true
  ·obtain⟨c,rfl⟩:∃c,t=.ow c:=by cases t<;>simp[kf]at ho;exact⟨_,rfl⟩
   simp only[nameL,SP.run]at h;obtain⟨l3,σ3,h1,h2⟩:=bG h;simp only[SP.run,oSJ,oPJ]at h2;rw[<- h2.2];exact ih h1
  ·have e:nameL r i (t::l)=(nameL r (i+1) l).bind λl'=>.ret (t::l'):=by cases t<;>simp[kf]at ho<;>rfl
   rw[e]at h;obtain⟨l3,σ3,h1,h2⟩:=bG h;simp only[SP.run,oSJ,oPJ]at h2;rw[<- h2.2];exact ih h1
theorem JN{d:Nat}{l l':List TV}{σ σ':St}(h:(names d l).run σ=some (l',σ')):σ'.tm=σ.tm:=by
 unfold names at h;split at h
 ·simp only[SP.run]at h;rw[JP h]
 ·simp only[SP.run,oSJ,oPJ]at h;rw[h.2]
theorem M3(hI:Inv M σ [] [] a.tmps w G){x:Option Nat×Opd}{x':Operand}(hx:bK x'=some x.2){t:TV}(hr:(argV x).run σ=some (t,σ')):
 ∃G',jM M w a.tmps σ [] G σ' [] [] G'/\TmR w (G'.F M.A) σ'.v (b5 M σ' []) G' t (a.eval x'):=by
 unfold argV at hr;obtain⟨t0,σ1,h1,h2⟩:=bG hr;obtain⟨rfl,ht⟩:=cr hI.tmr hx h1
 have V5:∀(l:List TV×Bool)(σ2:St),(takeV false t0).run σ1=some (l,σ2)->t=mV l.2 (l.1.map TV.imm)->σ'=σ2->∃G',jM M w a.tmps σ1 [] G σ' [] [] G'/\TmR w (G'.F M.A) σ'.v (b5 M σ' []) G' t (a.eval x'):=by
  rintro l σ2 h3 rfl rfl;obtain⟨xs,G1,hg,hsh,hok,Zt⟩:=CL hI ht h3;obtain⟨G2,ZL,ZM⟩:=hg.1.dropImm (pH hok);refine⟨G2,hg.trans ZL,?_⟩;have hlen:=hg.1.hand
  rcases hsh with⟨e1,e2⟩|⟨e1,y,e2,e3⟩
  ·rw[e1,e2];simp only[mV,if_true];refine .agg (by simp[hlen]) λj hj=>?_
   have ZY:j<l.1.length:=by simpa using hj
   have:=ZM j ZY;simp only[List.getElem_map]
   have e:xs.toArray.getD j undef=xs.getD j undef:=by simp[Array.getD_eq_getD_getElem?,oGD]
   rw[e];exact this.toTm
  ·rw[e1,e3];subst e2
   have Wp:l.1.length=1:=by simpa using hlen
   obtain⟨t1,VV⟩:∃t1,l.1=[t1]:=List.length_eq_one_iff.1 Wp;have:=ZM 0 (by omega);simp only[VV,List.getElem_cons_zero,List.getD_cons_zero]at this;simp only[VV,mV,List.map_cons,List.map_nil,List.headD_cons];exact this.toTm
 have Yx:t=t0->σ'=σ1->∃G',jM M w a.tmps σ1 [] G σ' [] [] G'/\TmR w (G'.F M.A) σ'.v (b5 M σ' []) G' t (a.eval x'):=by
  rintro rfl rfl;exact⟨G,jM.refl hI,ht⟩
 split at h2
 ·cases t0 with
  |ow c=>
   obtain⟨rfl,ad,e⟩:=ht.ow_inv;simp only[wv]at h2;obtain⟨l,σ2,h3,h4⟩:=bG h2;simp only[SP.run,oSJ,oPJ]at h4;obtain⟨rfl,rfl⟩:=h4;rw[e];obtain⟨G1,ZB⟩:=hI.addHand (t:=.ow []) (x:=.slice ad 0 0) (.nil λ_ h=>h)
   obtain⟨G2,Z3,hm,hl2,Yr⟩:=qg (λh=>absurd rfl h) ZB.1 (λj h=>by
    obtain rfl:j=0:=by simpa using h
    exact .inr rfl) h3
   have Zv:σ2.tm=σ1.tm:=JN h3;have hlen:l.length=1:=hl2;obtain⟨t1,rfl⟩:=List.length_eq_one_iff.1 hlen;refine⟨G2,⟨Z3,λk hk=>?_,ZB.2.2.1.trans hm.keeps,Zv⟩,Yr 0 (by simp)⟩;rcases Nat.lt_or_ge k w.heap.size with g|g
   ·exact hm.free k (ZB.2.1 k hk) g
   ·exact⟨M.hA k (Nat.le_trans Z3.fram.size g),λr o h=>absurd (Z3.core.live h) (by omega),λr b o n hb e2=>absurd (Z3.core.boxlt hb) (by omega)⟩
  |_=>
   simp only[wv,SP.run,oSJ,oPJ]at h2;exact Yx h2.1.symm h2.2.symm
 split at h2
 ·simp only[SP.run,oSJ,oPJ]at h2;exact Yx h2.1.symm h2.2.symm
 cases t0 with
 |ip cs=>
  simp only[SP.run,oSJ,oPJ]at h2;exact Yx h2.1.symm h2.2.symm
 |fn f cap=>
  simp only[SP.run,oSJ,oPJ]at h2;exact Yx h2.1.symm h2.2.symm
 |ptr p vs=>
  simp only[SP.run,oSJ,oPJ]at h2;exact Yx h2.1.symm h2.2.symm
 |_=>
  simp only at h2;obtain⟨l,σ2,h3,h4⟩:=bG h2;simp only[SP.run,oSJ,oPJ]at h4;exact V5 l σ2 h3 h4.1.symm h4.2.symm
theorem DT:∀{l:List (Option Nat×Opd)}{l':List Operand}{X1:List TV}{σ σ':St}{G:Gh},Inv M σ [] [] a.tmps w G->l'.length=l.length->(∀j (h:j<l.length)(h':j<l'.length),bK l'[j]=some l[j].2)->(argVs l).run σ=some (X1,σ')->
 ∃G',jM M w a.tmps σ [] G σ' [] [] G'/\X1.length=l.length/\∀j (h:j<X1.length)(h':j<l'.length),TmR w (G'.F M.A) σ'.v (b5 M σ' []) G' X1[j] (a.eval l'[j]):=by
 intro l
 induction l with
 |nil=>
  intro l' X1 σ σ' G hI hl hc hr;obtain⟨rfl,rfl⟩:=hr;exact⟨G,jM.refl hI,rfl,λj h=>by simp at h⟩
 |cons x l ih=>
  intro l' X1 σ σ' G hI hl hc hr
  cases l' with
  |nil=>simp at hl
  |cons x' l'=>
   simp only[argVs]at hr;obtain⟨t,σ1,h1,h2⟩:=bG hr;obtain⟨r,σ2,h3,h4⟩:=bG h2;obtain⟨rfl,rfl⟩:=h4;obtain⟨G1,ZB,VV⟩:=M3 hI (by have:=hc 0 (by simp) (by simp);simpa using this) h1;obtain⟨G2,ZL,e,TP⟩:=ih (l':=l') ZB.1 (by simpa using hl) (λj h h'=>by have:=hc (j+1) (by simpa using h) (by simp_all);simpa using this) h3;refine⟨G2,ZB.trans ZL,by simp[e],λj h h'=>?_⟩
   cases j with
   |zero=>exact ZL.tm VV
   |succ j=>exact TP j (by simpa using h) (by simp_all)
end
section
variable {P:Program} {M:Fm} {σ σ':St} {H:List TV} {xs:List Value} {ts:Array Value} {w:World} {G:Gh} {a:Act} {o:Oper}
theorem D3{t t' t2:TV}{p:bS}{y:TV×St}(hp:(peek1 p t).run σ=some (t',σ'))(hr:(take1 true t').run σ=some y):gY y.2.v p.root p.off p.hops.length=gY σ.v p.root p.off p.hops.length:=by
 cases t with
 |v x=>
  obtain⟨rfl,rfl⟩:=hp;simp only[take1,SP.run,oSJ]at hr;rw[<- hr]
 |sl c=>
  obtain⟨rfl,rfl⟩:=hp;simp only[take1,SP.run,oSJ]at hr;rw[<- hr]
 |ow c=>
  simp only[peek1]at hp;obtain⟨vs,σ1,h1,h2⟩:=bG hp;obtain⟨rfl,_⟩:=h2;obtain⟨_,σ2,h3,h4⟩:=bG hr;have e1:σ2=σ:=(bU h3).1;subst e1;simp only[SP.run]at h4;split at h4
  ·simp only[if_true]at h4;obtain⟨l,hl,ho,h5⟩:=b8 h4;simp only[SP.run,oSJ]at h5;rw[iS]
   have hv:∀q,y.2.v q=σ2.v q+if(p.root,p.off,p.hops.length+1)=q then 1 else 0:=λq=>by rw[<- h5];exact ff σ2.vr _ q
   refine⟨by simp_all,λd hd=>?_⟩;rw[hv,oIN]
   ·omega
   ·intro e
    simp_all
  ·simp[SP.run]at h4
 |_=>simp[peek1,SP.run]at hp
theorem Kb:∀{n:Nat}{p:bS}{ad:Addr}{l:List TV}{σ σ':St}{H:List TV}{xs:List Value}{G:Gh},Inv M σ H xs ts w G->p.root≠1->G.addr w p=some ad->(Ai p n).run σ=some (l,σ')->
 l.length=n/\∃us G',jM M w ts σ H G σ' (H++l) (xs++us) G'/\us.length=n/\(∀j (h:j<us.length),w.cell? ⟨ad.block,ad.off+j,none⟩=some us[j]/\w.frozen? ⟨ad.block,ad.off+j,none⟩=false)/\∀j (h:j<l.length),cq l[j]=true\/kf l[j]=true:=by
 intro n
 induction n with
 |zero=>
  intro p ad l σ σ' H xs G hI h1 ha hr;obtain⟨rfl,rfl⟩:=hr;exact⟨rfl,[],G,by simpa using jM.refl hI,rfl,λj h=>by simp at h,λj h=>by simp at h⟩
 |succ n ih=>
  intro p ad l σ σ' H xs G hI h1 ha hr;simp only[Ai]at hr;obtain⟨t,σ1,h2,h3⟩:=bG hr;obtain⟨e1,hg⟩:=cX h2;have e1:σ1=σ:=e1;subst e1;obtain⟨t',σ2,h4,h5⟩:=bG h3;have hd:=oE h4;obtain⟨hB,u,fp,YU,hown,hv⟩:=hI.named h1 ha hg hd;obtain⟨rfl,YS⟩:=qb hI h1 hg hown hv h4;obtain⟨t2,σ3,h6,h7⟩:=bG h5;have XY:=D3 (t2:=t2) h4 h6;obtain⟨G1,ZB,Zt⟩:=fK hI YS h6
  have UF:b7 (b5 M σ2 H p.root p.off) p.hops=some t:=by rw[bW (by exact h1)];exact hg
  obtain⟨u0,Zw,Zn,hcu0,Xm,_⟩:=hI.core.set p hB UF;obtain⟨_,Ua,_⟩:=ZB.2.2.1.ptr p ad t h1 XY ha UF
  have Zf:(⟨ad.block,ad.off+0,none⟩:Addr)=ad:=by obtain⟨b,o,s⟩:=ad;simp only at Zn;subst Zn;rfl
  have hcell:=iT h6
  cases n with
  |zero=>
   obtain⟨rfl,rfl⟩:=h7;refine⟨rfl,[u],G1,ZB,rfl,λj h=>?_,λj h=>?_⟩
   ·obtain rfl:j=0:=by simp at h;omega
    rw[Zf];exact⟨YU,Xm⟩
   ·obtain rfl:j=0:=by simp at h;omega
    exact hcell
  |succ n=>
   simp only at h7;split at h7
   ·obtain⟨r,σ4,h8,h9⟩:=bG h7;obtain⟨rfl,rfl⟩:=h9;obtain⟨e2,us,G2,ZL,e3,e4,e5⟩:=ih ZB.1 (by rw[dh];exact h1) (lu 1 Ua) h8;refine⟨by simp[e2],u::us,G2,by simpa using ZB.trans ZL,by simp[e3],λj h=>?_,λj h=>?_⟩
    ·cases j with
     |zero=>rw[Zf];exact⟨YU,Xm⟩
     |succ j=>
      have:=e4 j (by simpa using h);simp only[List.getElem_cons_succ];rw[show ad.off+(j+1)=ad.off+1+j by omega];exact this
    ·cases j with
     |zero=>exact hcell
     |succ j=>exact e5 j (by simpa using h)
   ·simp[SP.run]at h7
theorem EO{r o:Nat}{c:List (List TV)}{l:List TV}(hc:σ.c r o=.ow c)(h:(Ai ⟨r,o,[]⟩ 1).run σ=some (l,σ')):l=[.ow c]:=by
 simp only[Ai]at h;obtain⟨t,σ1,h1,h2⟩:=bG h;obtain⟨e1,hg⟩:=cX h1;subst e1;simp only[hc,b7,oSJ]at hg;subst hg;obtain⟨t',σ2,h3,h4⟩:=bG h2;obtain⟨vs,σ3,h5,h6⟩:=bG h3;obtain⟨rfl,rfl⟩:=h6;rw[p7]at h5
 injection h5 with h5
 injection h5 with _ h5
 subst h5;obtain⟨t2,σ4,h7,h8⟩:=bG h4;simp only[SP.run,oSJ,oPJ]at h8;rw[<- h8.1];obtain⟨_,σ5,h9,ZS⟩:=bG h7;have e2:σ5=σ1:=(bU h9).1;subst e2;simp only[SP.run,hc,b7,if_true]at ZS;split at ZS
 ·simp_all
 ·cases ZS
theorem GC(hI:Inv M σ H xs ts w G){p:bS}(h:(rooted p).run σ=some ((),σ')):σ'=σ/\(p.hops≠[]->∃b o n,G.β p.root=some (b,o,n)):=by
 obtain⟨r,o,hops⟩:=p
 cases hops with
 |nil=>
  simp only[rooted,SP.run,oSJ,oPJ,true_and]at h
  simp_all
 |cons hp hs=>
  simp only[rooted,SP.run]at h;have ht:=hI.tmr ((r-2)/2)
  cases hq:σ.t ((r-2)/2)with
  |ptr q ws=>
   rw[hq]at h ht;simp only at h;split at h
   ·rename_i hc;simp at hc;have e1:σ'=σ:=(bU h).1;have e2:=(bU h).2;refine⟨e1,λ_=>?_⟩
    cases ht with
    |ptr V0 h0 hv hok=>
     obtain⟨_,ad,t,ha,_,_⟩:=hok (by rw[hc.2];exact e2);unfold Gh.addr at ha;rw[hc.2]at ha;rw[<- hc.1]
     cases hb:G.β q.root with
     |none=>rw[hb]at ha;simp at ha
     |some y=>obtain⟨b,o,n⟩:=y;exact⟨b,o,n,rfl⟩
   ·simp[SP.run]at h
  |_=>rw[hq]at h;simp[SP.run]at h
inductive rZ (w:World):Nat->List TV->List Value->List (GP×Addr)->List Value->Prop
 |nil (i:Nat):rZ w i [] [] [] []
 |ptr {i:Nat} {p:bS} {hp:List Hop} {vs vs0:List Nat} {cells:List TV} {ad ad0:Addr} {u:List Value} {ts:List TV} {xs:List Value} {K:List (GP×Addr)} {us:List Value} (hr:p.root≠1) (hb:p.hops=[]) (hs:ad.spot=none) (h0:hp=[]->ad0=ad)
  (hh:hp≠[]->ct w ((w.cell? ⟨ad.block,ad.off,none⟩).getD undef) hp=some ad0/\∃t,b7 (cells.getD 0 .dead) hp=some t)(hu:u.length=cells.length)
  (hc:∀j (h:j<u.length),w.cell? ⟨ad.block,ad.off+j,none⟩=some u[j]/\w.frozen? ⟨ad.block,ad.off+j,none⟩=false)(hok:∀j (h:j<cells.length),cq cells[j]=true\/kf cells[j]=true)
  (h:rZ w (i+1) ts xs K us):rZ w i (.ptr ⟨p.root,p.off,hp⟩ vs0::ts) (.pointer (some ad0)::xs) ((⟨i,p,vs,cells⟩,ad)::K) (u++us)
 |arg {i:Nat} {t:TV} {x:Value} {ts:List TV} {xs:List Value} {K:List (GP×Addr)} {us:List Value} (ha:oQ t=true) (h:rZ w (i+1) ts xs K us):rZ w i (t::ts) (x::xs) K us
 |own {i:Nat} {p:bS} {vs:List Nat} {x:Value} {ts:List TV} {xs:List Value} {K:List (GP×Addr)} {us:List Value} (h:rZ w (i+1) ts xs K us):rZ w i (.pk p vs::ts) (x::xs) K us
inductive Fl:Nat->List (Option Nat×TV)->List Value->List (Nat×TV)->List Value->Prop
 |nil (i:Nat):Fl i [] [] [] []
 |own {i:Nat} {p:bS} {vs:List Nat} {l:List (Option Nat×TV)} {x:Value} {xs:List Value} {c:List (List TV)} {ow:List (Nat×TV)} {zs:List Value} (h:Fl (i+1) l xs ow zs):Fl i ((some 0,.pk p vs)::l) (x::xs) ((i,.ow c)::ow) (x::zs)
 |skip {i:Nat} {y:Option Nat×TV} {l:List (Option Nat×TV)} {x:Value} {xs:List Value} {ow:List (Nat×TV)} {zs:List Value} (h:Fl (i+1) l xs ow zs):Fl i (y::l) (x::xs) ow zs
theorem wV{i:Nat}{y:Option Nat×TV}{l:List (Option Nat×TV)}(hn:∀p vs,y≠(some 0,.pk p vs)):takeOwns i (y::l)=takeOwns (i+1) l:=by
 have ⟨n,t⟩:=y
 cases t with
 |pk p vs=>
  cases n with
  |none=>rfl
  |some n=>
   cases n with
   |zero=>simp_all
   |succ n=>rfl
 |_=>cases n with
  |none=>rfl
  |some n=>cases n<;>rfl
theorem A6:∀{l:List (Option Nat×TV)}{asq:List Value}{i:Nat}{ow:List (Nat×TV)}{σ σ':St}{H:List TV}{xs:List Value}{G:Gh},Inv M σ H xs ts w G->asq.length=l.length->(∀j (h:j<l.length)(h':j<asq.length),TmR w (G.F M.A) σ.v (b5 M σ H) G l[j].2 asq[j])->(takeOwns i l).run σ=some (ow,σ')->
 ∃zs G',jM M w ts σ H G σ' (H++ow.map (·.2)) (xs++zs) G'/\Fl i l asq ow zs/\∀(j:Nat)(p:bS)(vs:List Nat),l[j]?=some (some 0,TV.pk p vs)->∃x∈ow,x.1=i+j:=by
 intro l
 induction l with
 |nil=>
  intro asq i ow σ σ' H xs G hI hl _ hr;obtain⟨rfl,rfl⟩:=hr;have:asq=[]:=oEN (by simpa using hl);subst this;exact⟨[],G,by simpa using jM.refl hI,.nil i,λj p vs h=>by simp at h⟩
 |cons y l ih=>
  intro asq i ow σ σ' H xs G hI hl ht hr
  cases asq with
  |nil=>simp at hl
  |cons x asq=>
   have UV:=ht 0 (by simp) (by simp);simp only[List.getElem_cons_zero]at UV;by_cases hp:∃p vs,y=(some 0,.pk p vs)
   ·obtain⟨p,vs,rfl⟩:=hp;simp only[takeOwns]at hr;obtain⟨t,σ1,h1,h2⟩:=bG hr;split at h2
    case isFalse=>simp[SP.run]at h2
    rename_i how;obtain⟨q,σ2,h3,h4⟩:=bG h2;obtain⟨rfl,rfl⟩:=h4
    obtain⟨c,rfl⟩:∃c,t=.ow c:=by cases t<;>simp[kf]at how;exact⟨_,rfl⟩
    obtain⟨G1,ZB,_⟩:=fK hI UV h1;obtain⟨zs,G2,ZL,k1,k2⟩:=ih (asq:=asq) ZB.1 (by simpa using hl) (λj h h'=>ZB.tm (by have:=ht (j+1) (by simpa using h) (by simpa using h');simpa only [List.getElem_cons_succ]using this)) h3;refine⟨x::zs,G2,by simpa[List.append_assoc]using ZB.trans ZL,.own k1,λj p vs h=>?_⟩
    cases j with
    |zero=>exact⟨_,List.mem_cons_self,rfl⟩
    |succ j=>
     obtain⟨z,h5,h6⟩:=k2 j p vs (by simpa using h);exact⟨z,List.mem_cons_of_mem _ h5,by omega⟩
   ·have hn:=λp vs e=>hp ⟨p,vs,e⟩;rw[wV hn]at hr;obtain⟨zs,G2,ZL,k1,k2⟩:=ih (asq:=asq) hI (by simpa using hl) (λj h h'=>by have:=ht (j+1) (by simpa using h) (by simpa using h');simpa only [List.getElem_cons_succ]using this) hr;refine⟨zs,G2,ZL,.skip k1,λj p vs h=>?_⟩
    cases j with
    |zero=>exact absurd (by simpa using h) (hn p vs)
    |succ j=>
     obtain⟨z,h5,h6⟩:=k2 j p vs (by simpa using h);exact⟨z,h5,by omega⟩
theorem J9:∀{l:List (Option Nat×TV)}{i:Nat}{q:List GP}{σ σ':St},(grabs i l).run σ=some (q,σ')->∀(j:Nat)(n:Option Nat)(p:bS)(vs:List Nat),l[j]?=some (n,TV.pk p vs)->n=some 0:=by
 intro l
 induction l with
 |nil=>simp_all
 |cons y l ih=>
  intro i q σ σ' hr j n p vs h;obtain⟨m,t⟩:=y
  cases j with
  |zero=>
   simp at h;obtain⟨rfl,rfl⟩:=h
   cases m with
   |none=>simp[grabs,oQ,SP.run]at hr
   |some m=>
    cases m with
    |zero=>rfl
    |succ m=>simp[grabs,oQ,SP.run]at hr
  |succ j=>
   have hj:l[j]?=some (n,.pk p vs):=by simpa using h
   have step:∀{σ1 σ2:St}{q1:List GP},(grabs (i+1) l).run σ1=some (q1,σ2)->n=some 0:=λh1=>ih h1 j n p vs hj
   have arg:((if oQ t then grabs (i+1) l else .fail:SP (List GP))).run σ=some (q,σ')->n=some 0:=by
    intro h1;split at h1
    ·exact step h1
    ·simp[SP.run]at h1
   cases t with
   |ptr p2 vs2=>
    cases m with
    |none=>exact arg hr
    |some m=>
     obtain⟨_,σ1,h1,h2⟩:=bG hr;obtain⟨_,σ0,_,h2⟩:=bG h2;obtain⟨cells,σ2,h3,h4⟩:=bG h2;obtain⟨q1,σ3,h5,h6⟩:=bG h4;exact step h5
   |pk p2 vs2=>
    cases m with
    |none=>exact arg hr
    |some m=>
     cases m with
     |zero=>exact step hr
     |succ m=>exact arg hr
   |_=>cases m with
    |none=>exact arg hr
    |some m=>cases m<;>exact arg hr
theorem Ka:∀{l:List (Option Nat×TV)}{asq:List Value}{i:Nat}{q:List GP}{σ σ':St}{H:List TV}{xs:List Value}{G:Gh},Inv M σ H xs ts w G->asq.length=l.length->(∀j (h:j<l.length)(h':j<asq.length),TmR w (G.F M.A) σ.v (b5 M σ H) G l[j].2 asq[j])->(grabs i l).run σ=some (q,σ')->
 ∃us G' K,jM M w ts σ H G σ' (H++q.flatMap (·.cells)) (xs++us) G'/\K.map (·.1)=q/\rZ w i (l.map (·.2)) asq K us/\∀x∈K,TmR w (G'.F M.A) σ'.v (b5 M σ' (H++q.flatMap (·.cells))) G' (.ptr x.1.p x.1.vs) (.pointer (some x.2)):=by
 intro l
 induction l with
 |nil=>
  intro asq i q σ σ' H xs G hI hl _ hr;obtain⟨rfl,rfl⟩:=hr;have:asq=[]:=oEN (by simpa using hl);subst this;exact⟨[],G,[],by simpa using jM.refl hI,rfl,.nil i,λx hx=>by simp at hx⟩
 |cons x l ih=>
  intro asq i q σ σ' H xs G hI hl ht hr
  cases asq with
  |nil=>simp at hl
  |cons y asq=>
   obtain⟨n,t⟩:=x;have UV:=ht 0 (by simp) (by simp);simp only[List.getElem_cons_zero]at UV
   have ZW:∀{σ1:St}{H1:List TV}{xs1:List Value}{G1:Gh},jM M w ts σ H G σ1 H1 xs1 G1->∀j (h:j<l.length)(h':j<asq.length),TmR w (G1.F M.A) σ1.v (b5 M σ1 H1) G1 l[j].2 asq[j]:=λhg j h h'=>
    hg.tm (by have:=ht (j+1) (by simpa using h) (by simpa using h');simpa only [List.getElem_cons_succ]using this)
   have Y8:(∀p vs,t≠.ptr p vs)->(∀p vs,(n,t)≠(some 0,.pk p vs))->∃us G' K,jM M w ts σ H G σ' (H++q.flatMap (·.cells)) (xs++us) G'/\K.map (·.1)=q/\rZ w i (((n,t)::l).map (·.2)) (y::asq) K us/\∀x∈K,TmR w (G'.F M.A) σ'.v (b5 M σ' (H++q.flatMap (·.cells))) G' (.ptr x.1.p x.1.vs) (.pointer (some x.2)):=by
    intro hne UM
    have X7:(if oQ t then grabs (i+1) l else .fail:SP (List GP)).run σ=some (q,σ'):=by
     cases n with
     |none=>cases t<;>exact hr
     |some n=>cases n<;>cases t<;>first|exact absurd rfl (hne _ _)|exact absurd rfl (UM _ _)|exact hr
    split at X7
    ·rename_i Vy;obtain⟨us,G',K,e1,e2,e3,e4⟩:=ih (asq:=asq) hI (by simpa using hl) (ZW (jM.refl hI)) X7;exact⟨us,G',K,e1,e2,.arg Vy e3,e4⟩
    ·simp[SP.run]at X7
   by_cases hp:∃p vs,t=.ptr p vs
   ·obtain⟨p,vs,rfl⟩:=hp
    cases n with
    |none=>simp[grabs,oQ,SP.run]at hr
    |some n=>
     simp only[grabs]at hr;obtain⟨_,σ1,h1,h2⟩:=bG hr;have e1:σ1=σ:=(bU h1).1;have e2:=(bU h1).2;subst e1;obtain⟨_,σr,hR,Ut⟩:=bG h2;obtain⟨rfl,Zb⟩:=GC hI hR;obtain⟨cells,σ2,h3,h4⟩:=bG Ut;obtain⟨q1,σ3,h5,h6⟩:=bG h4;simp only[SP.run,oSJ,oPJ]at h6;obtain⟨rfl,rfl⟩:=h6;generalize hz:y=z at UV
     cases UV with
     |ptr V0 h0 hv h=>
      obtain⟨Z8,ad0,t0,ha,rfl,Z6⟩:=h e2;obtain⟨r,o,hops⟩:=p
      have hab:∃ad,G.addr w (⟨r,o,[]⟩:bS)=some ad/\(hops=[]->ad0=ad)/\(hops≠[]->ct w ((w.cell? ⟨ad.block,ad.off,none⟩).getD undef) hops=some ad0):=by
       cases hops with
       |nil=>exact⟨ad0,ha,λ_=>rfl,λe=>absurd rfl e⟩
       |cons hp1 hs=>
        obtain⟨b,o0,n0,hb⟩:=Zb (by simp);refine⟨⟨b,o0+o,none⟩,by simp only[Gh.addr];rw[hb],λe=>by simp at e,λ_=>?_⟩;have WR:ct w (G.val w r o) (hp1::hs)=some ad0:=ha;unfold Gh.val at WR;rw[hb]at WR;exact WR
      obtain⟨ad,Ra,Q8,Uc⟩:=hab;have hrb:(⟨r,o,hops⟩:bS).base.root≠1:=Z8;obtain⟨k1,u,G1,ZB,k2,k3,k4⟩:=Kb (p:=(⟨r,o,hops⟩:bS).base) hI hrb Ra h3;obtain⟨us,G2,K,ZL,k5,k6,k7⟩:=ih (asq:=asq) ZB.1 (by simpa using hl) (ZW ZB) h5
      have Zv:TmR w (G.F M.A) σr.v (b5 M σr H) G (.ptr (⟨r,o,hops⟩:bS).base (vs.take 1)) (.pointer (some ad)):=
       .ptr V0 h0 (by rw[hv];simp[gY,bS.base]) λ_=>⟨Z8,ad,_,Ra,rfl,rfl⟩
      refine⟨u++us,G2,(⟨i,(⟨r,o,hops⟩:bS).base,vs.take 1,cells⟩,ad)::K,by simpa[List.append_assoc]using ZB.trans ZL,by simp[k5],.ptr (p:=(⟨r,o,hops⟩:bS).base) (hp:=hops) Z8 rfl (jz Ra) Q8 (λhne=>⟨Uc hne,?_⟩) (by omega) k3 k4 k6,λx hx=>?_⟩
      ·have Xb:b7 (σr.c r o) hops=some t0:=by
        have:=Z6;rw[bW (by exact Z8)]at this;exact this
       cases hops with
       |nil=>exact absurd rfl hne
       |cons h1 hs=>
        cases hc:σr.c r o with
        |ow c=>
         have:=EO hc h3;rw[this];rw[hc]at Xb;exact⟨t0,Xb⟩
        |_=>rw[hc]at Xb;simp[b7]at Xb
      ·have e3:H++(({ i:=i,p:=(⟨r,o,hops⟩:bS).base,vs:=vs.take 1,cells:=cells }:GP)::q1).flatMap (·.cells)=H++cells++q1.flatMap (·.cells):=by simp[List.append_assoc]
       rw[e3];rcases List.mem_cons.1 hx with rfl|hx
       ·exact ZL.tm (ZB.tm Zv)
       ·exact k7 x hx
   ·by_cases hw:∃p vs,(n,t)=(some 0,.pk p vs)
    ·obtain⟨p,vs,hw⟩:=hw
     injection hw with h1 h2
     subst h1;subst h2;have X7:(grabs (i+1) l).run σ=some (q,σ'):=hr;obtain⟨us,G',K,e1,e2,e3,e4⟩:=ih (asq:=asq) hI (by simpa using hl) (ZW (jM.refl hI)) X7;exact⟨us,G',K,e1,e2,.own e3,e4⟩
    ·exact Y8 (λp vs e=>hp ⟨p,vs,e⟩) λp vs e=>hw ⟨p,vs,e⟩
theorem oq{α:Type}:∀{l:List (Nat×α)}{r:Nat}{x:α},b9 l r=some x->dp l r x=l:=by
 intro l
 induction l with
 |nil=>intro r x h;simp[b9]at h
 |cons y l ih=>
  intro r x h;simp[b9]at h;simp[dp]
  grind
theorem IV{p:bS}(hr:(touch p).run σ=some ((),σ')):σ'=σ/\∃l,b9 σ.ce p.root=some l/\p.off<l.length:=by
 simp[touch]at hr;obtain⟨l,hl,ho,h2⟩:=b8 (k:=.ret ()) (by simpa[SP.run]using hr);simp[SP.run]at h2;refine⟨?_,l,hl,ho⟩;rw[<- h2]
 have e:l.set p.off (σ.c p.root p.off)=l:=by
  have:σ.c p.root p.off=l[p.off]:=by simp[St.c,hl,ho]
  simp_all
 rw[e,oq hl]
theorem Jx(hI:Inv M σ H xs ts w G):∀{q:List GP}{σ':St},(rechk q).run σ=some ((),σ')->σ'=σ/\∀g∈q,∀x,TmR w (G.F M.A) σ.v (b5 M σ H) G (.ptr g.p g.vs) x->g.p.root≠1/\∃ad,x=.pointer (some ad)/\G.addr w g.p=some ad/\g.vs=gY σ.v g.p.root g.p.off g.p.hops.length/\(∃t,b7 (b5 M σ H g.p.root g.p.off) g.p.hops=some t)/\((∃o n,G.β g.p.root=some (ad.block,o,n))\/G.φ g.p.root g.p.off ad.block):=by
 intro q
 induction q with
 |nil=>
  intro σ' hr;simp only[rechk,SP.run,oPJ,true_and]at hr
  simp_all
 |cons g q ih=>
  intro σ' hr;obtain⟨_,σ1,h1,h2⟩:=bG hr;have e1:σ1=σ:=(bU h1).1;have e2:=(bU h1).2;subst e1;obtain⟨_,σ2,h3,h4⟩:=bG h2;obtain⟨rfl,l,hl,ho⟩:=IV h3;obtain⟨rfl,hq⟩:=ih h4;refine⟨rfl,λg' Ro x hx=>?_⟩;rcases List.mem_cons.1 Ro with rfl|Ro
  ·cases hx with
   |ptr V0 h0 hv h=>
    obtain⟨Z8,ad,t0,ha,hx,Z6⟩:=h e2
    have hB:G.addrB w g'.p=some ad:=by
     refine kj ha λhp b o0 n hb=>?_;have:=hI.shape _ _ _ _ hb l hl;omega
    refine⟨Z8,ad,hx,ha,e2,⟨t0,Z6⟩,?_⟩
    rcases hI.core.where_ g'.p hB Z6 with⟨_,b,o0,n,h5,_,h6⟩|⟨_,h5⟩
    ·left;exact⟨o0,n,by rw[h5,h6]⟩
    ·right;exact h5
  ·exact hq g' Ro x hx
end
def prK:List (GP×Addr)->Nat->Option (Nat×Nat×Nat)
 | [],_=>none
 |(g,ad)::K,r=>if 2*g.i+2=r then some (ad.block,ad.off,g.cells.length)else prK K r
def bsK:List (GP×Addr)->Nat->Nat
 | [],_=>0
 |(g,_)::K,r=>if 2*g.i+2=r then 0 else g.cells.length+bsK K r
def ceK(K:List (GP×Addr)):List (Nat×List TV):=K.map λx=>(2*x.1.i+2,x.1.cells)
def ceO(ow:List (Nat×TV)):List (Nat×List TV):=ow.map λx=>(2*x.1+3,[x.2])
def owK:List (Nat×TV)->Nat->Option Nat
 | [],_=>none
 |(i,_)::q,r=>if 2*i+3=r then some 0 else(owK q r).map (· + 1)
def iK(K:List (GP×Addr)):List TV:=K.flatMap λx=>x.1.cells
section
theorem iE{K:List (GP×Addr)}{r b o n:Nat}(h:prK K r=some (b,o,n)):∃x∈K,r=2*x.1.i+2/\b=x.2.block/\o=x.2.off/\n=x.1.cells.length/\b9 (ceK K) r=some x.1.cells/\∀j (_:j<x.1.cells.length),(iK K)[bsK K r+j]?=x.1.cells[j]?:=by
 induction K with
 |nil=>simp[prK]at h
 |cons y K ih=>
  obtain⟨g,ad⟩:=y;simp only[prK]at h;split at h
  ·rename_i e
   injection h with h
   injection h with h1 h
   injection h with h2 h3
   refine⟨(g,ad),by simp,e.symm,h1.symm,h2.symm,h3.symm,by simp[ceK,b9,e],λj hj=>?_⟩;simp only[bsK,e,if_true,iK,Nat.zero_add];exact List.getElem?_append_left hj
  ·rename_i e;obtain⟨x,h1,h2,h3,h4,h5,h6,h7⟩:=ih h;refine⟨x,by simp[h1],h2,h3,h4,h5,by simpa[ceK,b9,e]using h6,λj hj=>?_⟩;simp only[bsK,e,if_false,iK,List.flatMap_cons];rw[List.getElem?_append_right (by omega)];rw[show g.cells.length+bsK K r+j-g.cells.length=bsK K r+j by omega];exact h7 j hj
theorem DP{K:List (GP×Addr)}{r:Nat}{l:List TV}(h:b9 (ceK K) r=some l):prK K r≠none:=by
 induction K with
 |nil=>simp[ceK,b9]at h
 |cons y K ih=>
  simp[ceK,b9]at h;simp[prK];split
  ·simp
  ·rename_i e;rw[oIN e]at h;exact ih h
theorem Lf{K:List (GP×Addr)}:∀r b o n r' b' o' n',prK K r=some (b,o,n)->prK K r'=some (b',o',n')->∀j j',j<n->j'<n'->bsK K r+j=bsK K r'+j'->r=r':=by
 induction K with
 |nil=>intro r b o n r' b' o' n' h;simp[prK]at h
 |cons y K ih=>
  intro r b o n r' b' o' n' h h' j j' hj ZY e;simp[prK,bsK]at h h' e
  grind
theorem rZ.slot{w:World}{i:Nat}{ts:List TV}{asq us:List Value}{K:List (GP×Addr)}(h:rZ w i ts asq K us):∀x∈K,i<=x.1.i/\x.1.p.hops=[]/\∃p vs,ts[x.1.i-i]?=some (.ptr p vs):=by
 induction h with
 |nil=>intro x hx;simp at hx
 | @ptr i p hp vs vs0 cells ad ad0 u ts xs K us hr hb hs h0 hh hu hc hok h ih=>
  intro x hx;rcases List.mem_cons.1 hx with rfl|hx
  ·simp_all
  ·obtain⟨h1,h3,p,vs,h2⟩:=ih x hx;refine⟨by omega,h3,p,vs,?_⟩;rw[show x.1.i-i=(x.1.i-(i+1))+1 by omega];simpa using h2
 | @arg i t x0 ts xs K us ha h ih=>
  intro x hx;obtain⟨h1,h3,p,vs,h2⟩:=ih x hx;refine⟨by omega,h3,p,vs,?_⟩;rw[show x.1.i-i=(x.1.i-(i+1))+1 by omega];simpa using h2
 | @own i p0 vs0 x0 ts xs K us h ih=>
  intro x hx;obtain⟨h1,h3,p,vs,h2⟩:=ih x hx;refine⟨by omega,h3,p,vs,?_⟩;rw[show x.1.i-i=(x.1.i-(i+1))+1 by omega];simpa using h2
theorem rZ.len{w:World}{i:Nat}{ts:List TV}{asq us:List Value}{K:List (GP×Addr)}(h:rZ w i ts asq K us):ts.length=asq.length/\us.length=(iK K).length:=by
 induction h with
 |nil=>exact⟨rfl,rfl⟩
 |ptr hr hb hs h0 hh hu hc hok h ih=>exact⟨by simp_all,by simp[iK,hu]at ih⊢;exact ih.2⟩
 |arg ha h ih=>simp_all
 |own h ih=>simp_all
theorem rZ.ok{w:World}{i:Nat}{ts:List TV}{asq us:List Value}{K:List (GP×Addr)}(h:rZ w i ts asq K us):∀x∈K,∀j (h:j<x.1.cells.length),cq x.1.cells[j]=true\/kf x.1.cells[j]=true:=by
 induction h with
 |nil=>simp_all
 |ptr hr hb hs h0 hh hu hc hok h ih=>
  intro x hx;rcases List.mem_cons.1 hx with rfl|hx
  ·exact hok
  ·exact ih x hx
 |arg ha h ih=>exact ih
 |own h ih=>exact ih
theorem rZ.here{w:World}{i:Nat}{ts:List TV}{asq us:List Value}{K:List (GP×Addr)}(h:rZ w i ts asq K us):∀r b o n,prK K r=some (b,o,n)->∀j,j<n->w.cell? ⟨b,o+j,none⟩=some (us.getD (bsK K r+j) undef)/\w.frozen? ⟨b,o+j,none⟩=false:=by
 induction h with
 |nil=>intro r b o n h;simp[prK]at h
 | @ptr i p RR vs vs0 cells ad ad0 u ts xs K us hr hb hs h0 hh hu hc hok h ih=>
  intro r b o n hp j hj;simp only[prK]at hp;simp only[bsK];split at hp
  ·rename_i e
   injection hp with hp
   injection hp with h1 hp
   injection hp with h2 h3
   subst h1;subst h2;rw[oIP e,Nat.zero_add]
   have Rx:j<u.length:=by omega
   have:=hc j Rx;refine⟨?_,this.2⟩;rw[this.1,oGD,List.getElem?_append_left Rx,oGE Rx];rfl
  ·rename_i e;rw[oIN e];have:=ih r b o n hp j hj;refine⟨?_,this.2⟩;rw[this.1];simp;rw[List.getElem?_append_right (by omega)];rw[show cells.length+bsK K r+j-u.length=bsK K r+j by omega]
 |arg ha h ih=>exact ih
 |own h ih=>exact ih
end
theorem rF{α:Type}{f:α->Nat}:∀{l:List α},la (l.map f)=true->∀{x y:α},x∈l->y∈l->f x=f y->x=y:=by
 intro l
 induction l with
 |nil=>simp_all
 |cons z l ih=>
  intro h x y hx hy e;simp only[List.map_cons,la,oBA,Bool.not_eq_true',List.contains_eq_mem,decide_eq_false_iff_not]at h;rcases List.mem_cons.1 hx with Z2|Z2
  ·rcases List.mem_cons.1 hy with XD|XD
   ·rw[Z2,XD]
   ·exact absurd (by rw[<- Z2,e];exact List.mem_map_of_mem XD) h.1
  ·rcases List.mem_cons.1 hy with XD|XD
   ·simp_all
   ·exact ih h.2 Z2 XD e
section
variable {P:Program} {M:Fm} {σ σ':St} {H:List TV} {xs:List Value} {ts:Array Value} {w:World} {G:Gh} {a:Act} {o:Oper}
theorem mP{α:Type}:∀{a b:List (Nat×α)}{r:Nat},b9 (a++b) r=match b9 a r with|some x=>some x|none=>b9 b r:=by
 intro a
 induction a with
 |nil=>intro b r;rfl
 |cons y a ih=>
  intro b r;simp[b9];split
  ·rfl
  ·exact ih
theorem mu:∀{q:List (Nat×TV)}{r j:Nat},owK q r=some j->∃h:j<q.length,r=2*q[j].1+3/\b9 (ceO q) r=some [q[j].2]:=by
 intro q
 induction q with
 |nil=>intro r j h;simp[owK]at h
 |cons y q ih=>
  intro r j h;obtain⟨i,t⟩:=y;simp only[owK]at h;split at h
  ·rename_i e
   injection h with h
   subst h;exact⟨by simp,e.symm,by simp[ceO,b9,e]⟩
  ·rename_i e
   cases hq:owK q r with
   |none=>simp_all
   |some k=>
    simp[hq,oMS]at h;subst h
    have:b9 (ceO ((i,t)::q)) r=b9 (ceO q) r:=by simp[ceO,b9,e]
    simp_all
theorem Kr:∀{q:List (Nat×TV)}{r:Nat}{l:List TV},b9 (ceO q) r=some l->owK q r≠none:=by
 intro q
 induction q with
 |nil=>intro r l h;simp[ceO,b9]at h
 |cons y q ih=>
  intro r l h;have ⟨i,t⟩:=y;simp[owK];split
  ·simp
  ·rename_i e
   have:b9 (ceO ((i,t)::q)) r=b9 (ceO q) r:=by simp[ceO,b9,e]
   simp_all
theorem Fl.facts{i:Nat}{l:List (Option Nat×TV)}{asq:List Value}{ow:List (Nat×TV)}{zs:List Value}(h:Fl i l asq ow zs):zs.length=ow.length/\(∀x∈ow,i<=x.1/\∃c,x.2=.ow c)/\∀x∈ow,∃k,owK ow (2*x.1+3)=some k/\asq[x.1-i]?=zs[k]?:=by
 induction h with
 |nil=>simp_all
 | @own i p vs l x xs c ow zs h ih=>
  obtain⟨h1,h2,h3⟩:=ih;refine⟨by simp[h1],λy hy=>?_,λy hy=>?_⟩
  ·rcases List.mem_cons.1 hy with rfl|hy
   ·exact⟨Nat.le_refl _,c,rfl⟩
   ·exact⟨by have:=(h2 y hy).1;omega,(h2 y hy).2⟩
  ·rcases List.mem_cons.1 hy with rfl|hy
   ·exact⟨0,by simp[owK],by simp⟩
   ·obtain⟨k,h4,h5⟩:=h3 y hy;have YN:=(h2 y hy).1;refine⟨k+1,by simp[owK];rw[oIN (by omega),h4];rfl,?_⟩;rw[show y.1-i=(y.1-(i+1))+1 by omega];simpa using h5
 | @skip i y0 l x xs ow zs h ih=>
  obtain⟨h1,h2,h3⟩:=ih;refine⟨h1,λy hy=>⟨by have:=(h2 y hy).1;omega,(h2 y hy).2⟩,λy hy=>?_⟩;obtain⟨k,h4,h5⟩:=h3 y hy;have YN:=(h2 y hy).1;refine⟨k,h4,?_⟩;rw[show y.1-i=(y.1-(i+1))+1 by omega];simpa using h5
theorem rZ.hands{vals:List TV}{asq us:List Value}{K:List (GP×Addr)}{l:List (Option Nat×TV)}{ow:List (Nat×TV)}{zs:List Value}(hI:Inv M σ (ow.map (·.2)++iK K) (zs++us) ts w G)(h:rZ w 0 vals asq K us)(ho:Fl 0 l asq ow zs)(Zu:la ((K.map (·.1)).map (·.p.root))=true)(Z4:∀x∈K,0<x.1.cells.length)
 (Vq:∀x∈K,x.1.p.root≠1/\((∃o n,G.β x.1.p.root=some (x.2.block,o,n))\/G.φ x.1.p.root x.1.p.off x.2.block)):Fn (ow.map (·.2)++iK K) (zs++us) w G M.A (prK K) (λr=>ow.length+bsK K r) (ceK K++ceO ow) (owK ow):=by
 obtain⟨hz,Xe,_⟩:=ho.facts
 have UP:∀r,r%2=1->b9 (ceK K) r=none:=λr hr=>by
  cases hc:b9 (ceK K) r with
  |none=>rfl
  |some l=>
   cases hp:prK K r with
   |none=>exact absurd hp (DP hc)
   |some x=>obtain⟨b,o,n⟩:=x;obtain⟨x,_,h2,_⟩:=iE hp;omega
 refine⟨λr b o n hp=>?_,λr b o n hp=>?_,λr l hl=>?_,λr j hj=>?_,λr j r' b o n hj hp j' ZY=>by have:=(mu hj).1;omega,λr r' j hj ZY=>?_,λr b o n r' b' o' n' h1 h2 j j' hj ZY e=>Lf _ _ _ _ _ _ _ _ h1 h2 _ _ hj ZY (by omega),λr b o n r' o' n' h1 h2=>?_,λr b o n hp hF=>?_,λr b o n hp j hφ=>?_,λr b o n hp j hj=>?_⟩
 ·obtain⟨x,h1,h2,_,_,h5,_⟩:=iE hp;exact⟨by omega,by rw[h5];exact Z4 x h1⟩
 ·obtain⟨x,h1,h2,_,_,h5,h6,h7⟩:=iE hp;refine⟨_,by rw[mP,h6],h5.symm,λj hj=>?_⟩;have:=h7 j hj;rw[oGE hj]at this;obtain⟨k1,k2⟩:=oGS this;refine⟨by simp;omega,?_,pH (h.ok x h1) j hj⟩;rw[List.getElem_append_right (by simp;omega)];rw[<- k2];congr 1;simp;omega
 ·rw[mP]at hl
  cases hc:b9 (ceK K) r with
  |some l2=>exact .inl (DP hc)
  |none=>rw[hc]at hl;exact .inr (Kr hl)
 ·obtain⟨h1,h2,h3⟩:=mu hj;obtain⟨_,c,hc⟩:=Xe ow[j] (List.getElem_mem h1);refine⟨by omega,by omega,c,by simp;omega,?_,?_⟩
  ·rw[mP,UP r (by omega)];simp only;rw[h3,hc]
  ·rw[List.getElem_append_left (by simpa using h1)];simpa using hc
 ·obtain⟨_,h2,_⟩:=mu hj;obtain⟨_,h3,_⟩:=mu ZY;omega
 ·obtain⟨x,x1,x2,x3,x4,x5,_⟩:=iE h1;obtain⟨y,y1,y2,y3,y4,y5,_⟩:=iE h2
  have Z7:x.1.p.root=y.1.p.root:=by
   rcases(Vq x x1).2 with⟨o1,n1,ZR⟩|ZR
   ·rcases(Vq y y1).2 with⟨o2,n2,ZZ⟩|ZZ
    ·rw[<- y3]at ZZ;rw[<- x3]at ZR;exact hI.core.boxd _ _ _ _ _ _ _ ZR ZZ
    ·rw[<- y3]at ZZ;rw[<- x3]at ZR;exact absurd ZZ (hI.core.boxf _ _ _ _ ZR _ _)
   ·rcases(Vq y y1).2 with⟨o2,n2,ZZ⟩|ZZ
    ·rw[<- y3]at ZZ;rw[<- x3]at ZR;exact absurd ZR (hI.core.boxf _ _ _ _ ZZ _ _)
    ·rw[<- y3]at ZZ;rw[<- x3]at ZR;exact(hI.core.dis _ _ _ _ _ ZR ZZ).1
  have Ul:x.1=y.1:=rF Zu (List.mem_map_of_mem x1) (List.mem_map_of_mem y1) Z7;rw[x2,y2,Ul]
 ·obtain⟨x,x1,x2,x3,x4,x5,_⟩:=iE hp;subst x3
  rcases(Vq x x1).2 with⟨o1,n1,ZR⟩|ZR
  ·exact hF.2.2 _ _ _ _ ZR rfl
  ·exact hF.2.1 _ _ ZR
 ·obtain⟨x,x1,x2,x3,x4,x5,_⟩:=iE hp;subst x3
  rcases(Vq x x1).2 with⟨o1,n1,ZR⟩|ZR
  ·exact hI.core.boxf _ _ _ _ ZR _ _ hφ
  ·exact(Vq x x1).1 (hI.core.dis _ _ _ _ _ ZR hφ).1
 ·have:=h.here _ _ _ _ hp j hj;refine⟨?_,this.2⟩;rw[this.1,oGD,oGD,List.getElem?_append_right (by omega)];rw[show ow.length+bsK K r+j-zs.length=bsK K r+j by omega]
theorem TmR.handed{F F':Nat->Prop}{V V':Vs}{C C':Cs}{G G':Gh}{t:TV}{x:Value}(h:TmR w F V C G t x)(ha:oQ t=true)(hF:∀k,F k->F' k):TmR w F' V' C' G' t x:=by
 cases h with
 |v h=>exact .v h
 |sl h=>exact .sl (h.frame (λ_ _ _=>rfl) λk hk _=>hF k hk)
 |nil=>exact .nil
 |ip u hc hr=>exact .ip u (λj hj=>⟨hF _ (hc j hj).1,(hc j hj).2⟩) λj hj=>(hr j hj).frame (λ_ _ _=>rfl) λk hk _=>hF k hk
 | @agg l xs hl h=>
  refine .agg hl λj hj=>?_;simp[oQ,List.all_eq_true]at ha;have h1:=ha _ (List.getElem_mem hj);have h2:=h j hj;generalize l[j]=e at h1 h2;generalize xs.getD j undef=y at h2
  cases h2 with
  |v h=>exact .v h
  |sl h=>exact .sl (h.frame (λ_ _ _=>rfl) λk hk _=>hF k hk)
  |_=>simp_all
 | @fn f l xs hl h=>
  simp[oQ]at ha;exact .fn hl λj hj=>(((h j hj).imC (ha _ (List.getElem_mem hj))).frame (λ_ _ _=>rfl) λk hk _=>hF k hk).toTm
 |_=>simp[oQ]at ha
theorem yR{α:Type}:∀{l:List α}{i j:Nat},b9 (eP i l) j=if i<=j then l[j-i]? else none:=by
 intro l
 induction l with
 |nil=>intro i j;simp[eP,b9]
 |cons x l ih=>
  intro i j;simp[eP,b9];by_cases e:i=j
  ·simp_all
  ·rw[oIN e,ih]
   grind
theorem AV:∀{l:List TV}{i j:Nat},(argTs i l)[j]?=(l[j]?).map (argT (i+j)):=by
 intro l
 induction l with
 |nil=>intro i j;simp[argTs]
 |cons t l ih=>
  intro i j
  cases j with
  |zero=>simp[argTs]
  |succ j=>simp[argTs,ih];rw[show i+1+j=i+(j+1) by omega]
def KG(w:World)(K:List (GP×Addr))(x:GP×Addr)(t:TV)(y:Option Value):Prop:=
 ∃hp vs ad0,t=.ptr ⟨x.1.p.root,x.1.p.off,hp⟩ vs/\y=some (.pointer (some ad0))/\prK K (2*x.1.i+2)=some (x.2.block,x.2.off,x.1.cells.length)/\b9 (ceK K) (2*x.1.i+2)=some x.1.cells/\x.2.spot=none/\(hp=[]->ad0=x.2)/\
  (hp≠[]->ct w ((w.cell? ⟨x.2.block,x.2.off,none⟩).getD undef) hp=some ad0/\∃t,b7 (x.1.cells.getD 0 .dead) hp=some t)
theorem KG.cons{w:World}{K:List (GP×Addr)}{x z:GP×Addr}{t:TV}{y:Option Value}(h:KG w K x t y)(hne:z.1.i≠x.1.i):KG w (z::K) x t y:=by
 have ⟨hp,vs,ad0,h1,h2,h3,h4,h5,h6,h7⟩:=h;have ⟨g,ad⟩:=z;refine⟨hp,vs,ad0,h1,h2,?_,?_,h5,h6,h7⟩
 ·simp[prK];rw[oIN (by simp only at hne;omega)];exact h3
 ·simp[ceK,b9];rw[oIN (by simp only at hne;omega)];exact h4
theorem rZ.slotArg{w:World}{i:Nat}{vals:List TV}{asq us:List Value}{K:List (GP×Addr)}(h:rZ w i vals asq K us):∀j t,vals[j]?=some t->oQ t=true\/(∃p vs,t=.pk p vs)\/∃x∈K,x.1.i=i+j/\KG w K x t asq[j]?:=by
 induction h with
 |nil=>intro j t h;simp at h
 | @ptr i p hp vs vs0 cells ad ad0 u ts xs K us hr hb hs h0 hh hu hc hok h ih=>
  intro j t ht
  cases j with
  |zero=>
   right;right;refine⟨(⟨i,p,vs,cells⟩,ad),by simp,rfl,hp,vs0,ad0,?_,by simp,by simp[prK],by simp[ceK,b9],hs,h0,hh⟩;simpa using ht.symm
  |succ j=>
   rcases ih j t (by simpa using ht)with h1|h1|⟨x,h1,h2,h3⟩
   ·exact .inl h1
   ·exact .inr (.inl h1)
   ·right;right;exact⟨x,by simp[h1],by omega,by simpa using h3.cons (z:=(⟨i,p,vs,cells⟩,ad)) (by show i≠x.1.i;omega)⟩
 | @arg i t0 x0 ts xs K us ha h ih=>
  intro j t ht
  cases j with
  |zero=>simp_all
  |succ j=>
   rcases ih j t (by simpa using ht)with h1|h1|⟨x,h1,h2,h3⟩
   ·exact .inl h1
   ·exact .inr (.inl h1)
   ·exact .inr (.inr ⟨x,h1,by omega,by simpa using h3⟩)
 | @own i p0 vs0 x0 ts xs K us h ih=>
  intro j t ht
  cases j with
  |zero=>right;left;have:TV.pk p0 vs0=t:=by simpa using ht
         exact⟨p0,vs0,this.symm⟩
  |succ j=>
   rcases ih j t (by simpa using ht)with h1|h1|⟨x,h1,h2,h3⟩
   ·exact .inl h1
   ·exact .inr (.inl h1)
   ·exact .inr (.inr ⟨x,h1,by omega,by simpa using h3⟩)
theorem Fl.ix{i:Nat}{l:List (Option Nat×TV)}{asq:List Value}{ow:List (Nat×TV)}{zs:List Value}(h:Fl i l asq ow zs):∀j (h:j<ow.length),owK ow (2*ow[j].1+3)=some j/\asq[ow[j].1-i]?=zs[j]?/\i<=ow[j].1:=by
 induction h with
 |nil=>intro j h;simp at h
 | @own i p vs l x xs c ow zs h ih=>
  intro j hj
  cases j with
  |zero=>exact⟨by simp[owK],by simp,Nat.le_refl _⟩
  |succ j=>
   have ZY:j<ow.length:=by simpa using hj
   obtain⟨h1,h2,h3⟩:=ih j ZY;simp only[List.getElem_cons_succ,owK];refine⟨by rw[oIN (by omega),h1];rfl,?_,by omega⟩;rw[show ow[j].1-i=(ow[j].1-(i+1))+1 by omega];simpa using h2
 | @skip i y l x xs ow zs h ih=>
  intro j hj;obtain⟨h1,h2,h3⟩:=ih j hj;refine⟨h1,?_,by omega⟩;rw[show ow[j].1-i=(ow[j].1-(i+1))+1 by omega];simpa using h2
theorem rZ.enter{vals:List TV}{asq us:List Value}{K:List (GP×Addr)}{l:List (Option Nat×TV)}{ow:List (Nat×TV)}{zs:List Value}(hI:Inv M σ (ow.map (·.2)++iK K) (zs++us) ts w G)(h:rZ w 0 vals asq K us)(ho:Fl 0 l asq ow zs)(Xr:∀j p vs,vals[j]?=some (.pk p vs)->∃x∈ow,x.1=j)
 (hh:Fn (ow.map (·.2)++iK K) (zs++us) w G M.A (prK K) (λr=>ow.length+bsK K r) (ceK K++ceO ow) (owK ow))
 (ht:∀j (h:j<vals.length)(h':j<asq.length),TmR w (G.F M.A) σ.v (b5 M σ (ow.map (·.2)++iK K)) G vals[j] asq[j]){N:Nat}(hN:asq.length<=N){kp:Nat->Option Value}(hkp:∀i x,kp i=some x->(∃y∈ow,y.1=i)/\asq[i]?=some x):
 Inv (M.into w G (prK K) N kp) (mkSt (argTs 0 vals) (ceK K++ceO ow)) [] [] (asq.toArray++Array.replicate (N-asq.length) undef) w (G.into (prK K) (λr=>ow.length+bsK K r) (owK ow) (zs++us)):=by
 refine hI.enter hh (by simp;omega) (λi x hk=>?_) λi=>?_
 ·obtain⟨⟨y,hy,rfl⟩,hx⟩:=hkp i x hk;obtain⟨hz,_,h3⟩:=ho.facts;obtain⟨k,h4,h5⟩:=h3 y hy;rw[Nat.sub_zero,hx]at h5;show(match owK ow (2*y.1+3)with|some j=>(zs++us).getD j undef|none=>undef)=x;rw[h4];have hk:k<zs.length:=(oGS h5.symm).1;simp only[oGD,List.getElem?_append_left hk,<- h5,Option.getD_some]
 rw[yR];simp only[Nat.zero_le,if_true,Nat.sub_zero,AV,Nat.zero_add]
 cases hv:vals[i]? with
 |none=>exact .dead
 |some t=>
  obtain⟨hi,hvi⟩:=oGS hv
  have ZT:i<asq.length:=by rw[<- h.len.1];exact hi
  have hx:(asq.toArray++Array.replicate (N-asq.length) undef).getD i undef=asq[i]:=by
   simp[Array.getD_eq_getD_getElem?,Array.getElem?_append,ZT]
  rw[hx];have Zv:=ht i hi ZT;rw[hvi]at Zv;simp only[oMS,Option.getD_some];rcases h.slotArg i t hv with Vy|⟨p,vs,rfl⟩|⟨x,x1,x2,hp,vs,ad0,rfl,x4,x5,QP,x6,x7,x8⟩
  ·have e:argT i t=t:=by cases t<;>first|rfl|simp[oQ]at Vy
   rw[e];exact Zv.handed Vy λk hk=>hh.F hk
  ·simp only[argT];obtain⟨x,Z2,rfl⟩:=Xr i p vs hv;obtain⟨hz,h2,h3⟩:=ho.facts;obtain⟨k,h4,h5⟩:=h3 x Z2;obtain⟨hk,_,h6⟩:=mu h4;obtain⟨_,c,h7⟩:=h2 ow[k] (List.getElem_mem hk);have UP:=(hh.owc _ _ h4);obtain⟨_,_,c',hj,h8,h9⟩:=UP;refine .pk (λ_=>0) (λ_=>Nat.le_refl _) rfl λ_=>⟨by simp,c',?_,?_⟩
   ·have SF:prK K (2*x.1+3)=none:=by
     cases hp:prK K (2*x.1+3)with
     |none=>rfl
     |some y=>obtain⟨b,o,n⟩:=y;have:=(hh.even _ _ _ _ hp).1;omega
    simp only[Gh.hv,hvT];unfold Gh.val Gh.into;simp only[SF,h4];rw[Nat.sub_zero,oGE ZT,oGE (by omega)]at h5
    injection h5 with h5
    rw[oGD,List.getElem?_append_left (by omega),oGE (by omega),h5];rfl
   ·have:b5 (M.into w G (prK K) N kp) ⟨eP 0 (argTs 0 vals),ceK K++ceO ow,[]⟩ [] (2*x.1+3) 0=.ow c':=by
     rw[bW (by show 2*x.1+3≠1;omega)];simp[St.c,h8]
    show b7 (b5 (M.into w G (prK K) N kp) ⟨eP 0 (argTs 0 vals),ceK K++ceO ow,[]⟩ [] (2*x.1+3) 0) []=_;rw[this];rfl
  ·simp only[argT]
   have e:asq[i]=.pointer (some ad0):=by
    rw[oGE ZT]at x4;injection x4
   rw[e]
   have hxi:x.1.i=i:=by omega
   rw[hxi]at x5 QP
   have Zf:(⟨x.2.block,x.2.off+0,none⟩:Addr)=x.2:=by
    obtain⟨g,ad⟩:=x;obtain⟨b,o,s⟩:=ad;simp only at x6⊢;subst x6;rfl
   have hcell:b5 (M.into w G (prK K) N kp) ⟨eP 0 (argTs 0 vals),ceK K++ceO ow,[]⟩ [] (2*i+2) 0=x.1.cells.getD 0 .dead:=by
    rw[bW (by show 2*i+2≠1;omega)];simp only[St.c,mP,QP]
   refine .ptr (λ_=>0) (λ_=>Nat.le_refl _) (by simp[gY,List.replicate_succ,List.map_const']) λ_=>?_
   cases hp with
   |nil=>
    refine⟨by simp,x.2,(b5 (M.into w G (prK K) N kp) ⟨eP 0 (argTs 0 vals),ceK K++ceO ow,[]⟩ [] (2*i+2) 0),?_,by rw[x7 rfl],rfl⟩;unfold Gh.addr Gh.into;simp only[x5];rw[Zf]
   |cons h1 hs=>
    obtain⟨x9,t0,SK⟩:=x8 (by simp);refine⟨by simp,ad0,t0,?_,rfl,by show b7 (b5 _ _ [] (2*i+2) 0) (h1::hs)=_;rw[hcell];exact SK⟩;show ct w (Gh.val _ w (2*i+2) 0) (h1::hs)=some ad0;unfold Gh.val Gh.into;simp only[x5];exact x9
end
theorem Ar{α:Type}{f:GP×Addr->List α}{K:List (GP×Addr)}(hf:∀x∈K,(f x).length=x.1.cells.length){r b o n:Nat}(h:prK K r=some (b,o,n)):∃x∈K,r=2*x.1.i+2/\b=x.2.block/\o=x.2.off/\n=x.1.cells.length/\b9 (K.map λx=>(2*x.1.i+2,f x)) r=some (f x)/\∀j,j<n->(K.flatMap f)[bsK K r+j]?=(f x)[j]?:=by
 induction K with
 |nil=>simp[prK]at h
 |cons y K ih=>
  obtain⟨g,ad⟩:=y;simp only[prK]at h;split at h
  ·rename_i e
   injection h with h
   injection h with h1 h
   injection h with h2 h3
   have hl:=hf (g,ad) (by simp);simp only at hl;refine⟨(g,ad),by simp,e.symm,h1.symm,h2.symm,h3.symm,by simp[b9,e],λj hj=>?_⟩;simp only[bsK,e,if_true,Nat.zero_add];exact List.getElem?_append_left (by omega)
  ·rename_i e;obtain⟨x,h1,h2,h3,h4,h5,h6,h7⟩:=ih (λx hx=>hf x (by simp[hx])) h;have hl:=hf (g,ad) (by simp);simp only at hl;refine⟨x,by simp[h1],h2,h3,h4,h5,by simpa[b9,e]using h6,λj hj=>?_⟩;simp only[bsK,e,if_false,List.flatMap_cons];rw[List.getElem?_append_right (by omega)];rw[show g.cells.length+bsK K r+j-(f (g,ad)).length=bsK K r+j by omega];exact h7 j hj
theorem OB{K:List (GP×Addr)}(Zu:la (K.map λx=>x.1.i)=true){j:Nat}(h:j<(iK K).length):∃r b o n t,prK K r=some (b,o,n)/\t<n/\j=bsK K r+t:=by
 induction K generalizing j with
 |nil=>simp[iK]at h
 |cons y K ih=>
  obtain⟨g,ad⟩:=y;simp only[List.map_cons,la,oBA,Bool.not_eq_true',List.contains_eq_mem,decide_eq_false_iff_not]at Zu;simp only[iK,List.flatMap_cons,List.length_append]at h;by_cases hj:j<g.cells.length
  ·exact⟨2*g.i+2,ad.block,ad.off,g.cells.length,j,by simp[prK],hj,by simp[bsK]⟩
  ·obtain⟨r,b,o,n,t,h1,h2,h3⟩:=ih Zu.2 (j:=j-g.cells.length) (by simp only[iK];omega)
   have hne:2*g.i+2≠r:=λe=>by
    obtain⟨x,x1,x2,_⟩:=iE h1;exact Zu.1 (List.mem_map.2 ⟨x,x1,by omega⟩)
   exact⟨r,b,o,n,t,by simp[prK,hne,h1],h2,by simp[bsK,hne];omega⟩
def RWs(w:World):List (GP×Addr)->World->World
 | [],W=>W
 |x::K,W=>RWs w K (gd w W x.2.block)
theorem KE{w:World}{K:List (GP×Addr)}:∀{W:World},(RWs w K W).heap.size=W.heap.size:=by
 induction K with
 |nil=>intro W;rfl
 |cons x K ih=>intro W;simp[RWs];rw[ih,kY]
theorem yT{w:World}{K:List (GP×Addr)}:∀{W:World},(RWs w K W).os=W.os/\(RWs w K W).tape=W.tape/\(RWs w K W).output=W.output:=by
 induction K with
 |nil=>intro W;exact⟨rfl,rfl,rfl⟩
 |cons x K ih=>
  intro W;simp[RWs];have ⟨r1,r2,r3,_⟩:=r8 (w:=w) (W:=W) (b:=x.2.block)
  simp_all
theorem ON{w:World}{K:List (GP×Addr)}{k:Nat}:∀{W:World},(∀x∈K,k≠x.2.block)->(RWs w K W).heap[k]?=W.heap[k]?:=by
 induction K with
 |nil=>intro W h;rfl
 |cons x K ih=>
  intro W h;simp[RWs];rw[ih λy hy=>h y (by simp[hy]),oB (h x (by simp))]
theorem KF{w:World}{K:List (GP×Addr)}{k:Nat}(h2:k<w.heap.size):∀{W:World},k<W.heap.size->W.heap[k]?=w.heap[k]?->(RWs w K W).heap[k]?=w.heap[k]?:=by
 induction K with
 |nil=>intro W h1 h;exact h
 |cons x K ih=>
  intro W h1 h;refine ih (by rw[kY];exact h1) ?_;by_cases e:k=x.2.block
  ·rw[<- e];exact rC h1 h2
  ·rw[oB e];exact h
theorem OO{w:World}{K:List (GP×Addr)}{k:Nat}(h2:k<w.heap.size):∀{W:World},k<W.heap.size->(∃x∈K,k=x.2.block)->(RWs w K W).heap[k]?=w.heap[k]?:=by
 induction K with
 |nil=>simp_all
 |cons x K ih=>
  intro W h1 h;simp[RWs];have ⟨y,hy,e⟩:=h;rcases List.mem_cons.1 hy with rfl|hy
  ·exact KF h2 (by rw[kY];exact h1) (by rw[e];rw[e]at h1 h2;exact rC h1 h2)
  ·exact ih (by rw[kY];exact h1) ⟨y,hy,e⟩
section
variable {P:Program} {M:Fm} {σ σ':St} {H:List TV} {xs:List Value} {ts:Array Value} {w:World} {G:Gh} {a:Act} {o:Oper}
theorem GH{p:bS}{t:TV}(h:(sK p t).run σ=some ((),σ')){r:Nat}(hr:r≠p.root)(o n:Nat):gY σ'.v r o n=gY σ.v r o n:=by
 unfold sK at h;simp only[SP.run]at h
 have bump:∀{vr:List (Key×Nat)},σ'.vr=vr->(∀q,pd vr q=pd σ.vr q+if(p.root,p.off,p.hops.length+1)=q then 1 else 0)->gY σ'.v r o n=gY σ.v r o n:=by
  intro vr e hv
  have YL:∀q,σ'.v q=σ.v q+if(p.root,p.off,p.hops.length+1)=q then 1 else 0:=λq=>by unfold St.v;rw[e];exact hv q
  rw[iS]
  have hne:∀o' d,((p.root,p.off,p.hops.length+1):Key)≠(r,o',d):=λo' d e=>by
   simp_all
  simp_all
 cases hg:b7 (σ.c p.root p.off) p.hops with
 |none=>simp[hg,SP.run]at h
 |some old=>
  simp only[hg]at h;split at h
  ·split at h
   ·obtain⟨l,hl,ho,h3⟩:=b8 h;simp only[SP.run,oSJ,oPJ,true_and]at h3;exact bump (vr:=nv σ.vr (p.root,p.off,p.hops.length+1)) (by rw[<- h3]) λq=>ff _ _ _
   ·simp[SP.run]at h
  ·obtain⟨l,hl,ho,h3⟩:=b8 h;simp only[SP.run,oSJ,oPJ,true_and]at h3
   have hv:σ'.v=σ.v:=by rw[<- h3];rfl
   rw[hv]
theorem GJ:∀{l:List TV}{p:bS}{σ σ':St},(putL p l).run σ=some ((),σ')->∀{r:Nat},r≠p.root->∀o n,gY σ'.v r o n=gY σ.v r o n:=by
 intro l
 induction l with
 |nil=>
  intro p σ σ' h r hr o n;simp[putL,SP.run]at h;rw[h]
 |cons t l ih=>
  intro p σ σ' h r hr o n;have ⟨_,σ1,h1,h2⟩:=bG h;rw[<- GH h1 hr o n]
  cases l with
  |nil=>
   simp[SP.run]at h2;rw[h2]
  |cons t2 l=>
   simp only at h2;split at h2
   ·exact ih h2 (by rw[dh];exact hr) o n
   ·simp[SP.run]at h2
theorem zy:∀{q:List (GP×List TV)}{σ σ':St},(putBack q).run σ=some ((),σ')->∀{r:Nat},(∀x∈q,r≠x.1.p.root)->∀o n,gY σ'.v r o n=gY σ.v r o n:=by
 intro q
 induction q with
 |nil=>
  intro σ σ' h r hr o n;simp[putBack,SP.run]at h;rw[h]
 |cons x q ih=>
  intro σ σ' h r hr o n;have ⟨g,l⟩:=x;have ⟨_,σ1,h1,h2⟩:=bG h;split at h2
  ·rw[GJ h2 (hr (g,l) (by simp)) o n];exact ih h1 (λx hx=>hr x (by simp[hx])) o n
  ·simp[SP.run]at h2
def Seg(w W:World)(x:GP×Addr)(vs:List Value):Prop:=
 ∃cur0 cur e fz,w.heap[x.2.block]?=some (.cells cur0 e fz)/\W.heap[x.2.block]?=some (.cells cur e fz)/\cur.size=cur0.size/\(∀j,(j<x.2.off\/x.2.off+vs.length<=j)->cur[j]?=cur0[j]?)/\∀j (h:j<vs.length),cur[x.2.off+j]?=some vs[j]
theorem Es{f:GP×Addr->List TV}{v:GP×Addr->List Value}(hfv:∀x,(f x).length=(v x).length):∀{K:List (GP×Addr)}{σ σ':St}{H0:List TV}{x0:List Value}{W:World}{G:Gh},H0.length=x0.length ->
 Inv M σ (H0++K.flatMap f) (x0++K.flatMap v) ts (RWs w K W) G->(∀x∈K,Seg w W x (v x))->(∀x∈K,f x≠[])->(∀x∈K,∀y∈K,x.2.block=y.2.block->x=y)->la (K.map λx=>x.1.p.root)=true ->
 (∀x∈K,x.1.p.root≠1/\G.addr (RWs w K W) x.1.p=some x.2/\∃t,b7 (b5 M σ (H0++K.flatMap f) x.1.p.root x.1.p.off) x.1.p.hops=some t)->
 (putBack (K.map λx=>(x.1,f x))).run σ=some ((),σ')->∃G',Inv M σ' H0 x0 ts W G'/\σ'.tm=σ.tm/\ij M (RWs w K W) σ (H0++K.flatMap f) G W σ' H0 G'/\G'.β=G.β:=by
 intro K
 induction K with
 |nil=>
  intro σ σ' H0 x0 W G WY hI _ _ _ _ _ hr;simp only[List.map_nil,putBack,SP.run,oSJ,oPJ,true_and]at hr;subst hr;have hI:Inv M σ (H0++[]) (x0++[]) ts W G:=hI;rw[List.append_nil,List.append_nil]at hI;refine⟨G,hI,rfl,?_,rfl⟩;show ij M W σ (H0++[]) G W σ H0 G;rw[List.append_nil];exact ij.refl _ _ _ _ _
 |cons x K ih=>
  intro σ σ' H0 x0 W G WY hI TJ hne VI Zu Z5 hr;simp only[List.map_cons,putBack]at hr;obtain⟨_,σ1,h1,h2⟩:=bG hr;split at h2
  case isFalse=>simp[SP.run]at h2
  rename_i YC;simp at YC;simp only[List.map_cons,la,oBA,Bool.not_eq_true',List.contains_eq_mem,decide_eq_false_iff_not]at Zu;have QB:∀y∈K,y.1.p.root≠x.1.p.root:=λy hy e=>Zu.1 (by rw[<- e];exact List.mem_map.2 ⟨y,hy,rfl⟩)
  have hbK:∀y∈K,x.2.block≠y.2.block:=λy hy e=>by
   have:=VI x (by simp) y (by simp[hy]) e;exact QB y hy (by rw[this])
  have ZK:Inv M σ ((H0++f x)++K.flatMap f) ((x0++v x)++K.flatMap v) ts (RWs w K (gd w W x.2.block)) G:=by
   simpa[RWs,List.append_assoc]using hI
  obtain⟨G1,hI1,R1,SB,hβ1⟩:=ih (W:=gd w W x.2.block) (by simp[WY,hfv]) ZK (λy hy=>by
   obtain⟨cur0,cur,e,fz,s1,s2,s3⟩:=TJ y (by simp[hy])
   exact⟨cur0,cur,e,fz,s1,by rw[oB (Ne.symm (hbK y hy))];exact s2,s3⟩) (λy hy=>hne y (by simp[hy])) (λy hy z hz=>VI y (by simp[hy]) z (by simp[hz])) Zu.2
   (λy hy=>by have:=Z5 y (by simp[hy]);simpa[RWs,List.append_assoc]using this) h1
  obtain⟨Z8,ha,t0,Z6⟩:=Z5 x (by simp)
  have XY:=zy h1 (r:=x.1.p.root) (λy hy=>by
   obtain⟨z,hz,rfl⟩:=List.mem_map.1 hy
   exact Ne.symm (QB z hz)) x.1.p.off x.1.p.hops.length
  obtain⟨t1,Ua,P3⟩:=SB.keeps.ptr x.1.p x.2 t0 Z8 XY (by simpa[RWs]using ha) (by simpa[List.append_assoc]using Z6)
  have Ye:(H0++f x).drop H0.length=f x:=by simp
  obtain⟨_,G2,H2,Z3,e1,e2,e3,e4,e5,e6⟩:=Bu (k:=H0.length) hI1 Z8 Ua Ye (hne x (by simp)) (λj hj hk=>by
   intro e
   have ZY:j-H0.length<(f x).length:=by simp at hj;omega
   have:(H0++f x)[j]=(f x)[j-H0.length]:=by rw[List.getElem_append_right hk]
   rw[this]at e;have:=YC.2 _ (List.getElem_mem ZY);rw[e]at this
   simp[Dr]at this) h2
  obtain⟨cur0,cur,e,fz,s1,s2,s3,s4,s5⟩:=TJ x (by simp)
  have Uk:(x0++v x).drop H0.length=v x:=by rw[WY];simp
  rw[Uk,sJ s1 s2 s3 s4 s5]at Z3 e5;obtain⟨Yl,e7⟩:=Z3.trunc (k:=H0.length) e2
  have hT:H2.take H0.length=H0:=by
   apply List.ext_getElem
   ·simp[e1]
   ·intro j hj ZY;rw[List.getElem_take];rw[e3 j (by rw[e1];simp;omega) (by simp;omega) ZY];rw[List.getElem_append_left ZY]
  have hX:(x0++v x).take H0.length=x0:=by rw[WY];simp
  rw[hT]at Yl e7;rw[hX]at Yl;refine⟨G2,Yl,e4.trans R1,?_,e6.trans hβ1⟩;have hm2:ij M (gd w W x.2.block) σ1 (H0++f x) G1 W σ' H0 G2:=⟨e5.size,by rw[e7];exact e5.keeps,e5.heap,e5.free⟩;have:=SB.trans hm2;simpa[RWs,List.append_assoc]using this
end
section
variable {P:Program} {M:Fm} {σ σ':St} {H:List TV} {xs:List Value} {ts:Array Value} {w:World} {G:Gh} {t:TV} {x:Value}
theorem Inv.reT(hI:Inv M σ H xs ts w G){k:Nat}(h:TmR w (G.F M.A) σ.v (b5 M σ H) G t (ts.getD k undef)):Inv M { σ with tm:=dp σ.tm k t } H xs ts w G:=by
 refine⟨hI.core,λi=>?_,hI.fram,hI.keys,hI.size,hI.hand,hI.hval,hI.shape,hI.kept⟩
 have e:St.t { σ with tm:=dp σ.tm k t } i=if k=i then t else σ.t i:=by
  unfold St.t;simp only[cg];split<;>rfl
 rw[e];split
 ·rename_i h1;subst h1;exact h
 ·exact hI.tmr i
theorem nZ{r o:Nat}:b5 M σ H r o=if r=M.hr/\o=H.length then .dead else b5 M σ (H++[t]) r o:=by
 unfold b5;by_cases hr:r=M.hr
 ·simp only[hr,if_true,true_and,oGD];split
  ·rename_i e;subst e;rw[oGN (Nat.le_refl _)];rfl
  ·rename_i e;rcases Nat.lt_or_ge o H.length with g|g
   ·rw[List.getElem?_append_left g]
   ·rw[oGN g,oGN (by simp;omega)]
 ·simp[hr]
theorem zU(hI:Inv M σ (H++[t]) (xs++[x]) ts w G):H.length=xs.length/\(∀j,j<xs.length->G.η M.hr j=xs.getD j undef)/\G.η M.hr H.length=x:=by
 have hl:H.length=xs.length:=by have:=hI.hand;simpa using this
 refine⟨hl,λj hj=>?_,?_⟩
 ·rw[hI.hval j (by simp;omega)];simp[oGD,List.getElem?_append_left hj]
 ·rw[hI.hval H.length (by simp;omega)];rw[hl];simp[oGD]
theorem Inv.dropLast(hI:Inv M σ (H++[t]) (xs++[x]) ts w G):∃G',Inv M σ H xs ts w G'/\G'.β=G.β:=by
 obtain⟨hl,UW,_⟩:=zU hI
 let G':Gh:=⟨G.β,G.η,λr' o k=>if r'=M.hr/\o=H.length then False else G.φ r' o k⟩
 have Z':∀r' o k,G'.φ r' o k->G.φ r' o k:=by
  intro r' o k hk;simp only[G']at hk;split at hk
  ·exact hk.elim
  ·exact hk
 have YE:=iM.ghost (C':=b5 M σ H) (G':=G') hI.core rfl (λk ⟨r',o,h⟩=>⟨r',o,Z' r' o k h⟩) (λr1 o1 r2 o2 k h1 h2=>hI.core.dis _ _ _ _ k (Z' _ _ k h1) (Z' _ _ k h2))
  (λr' b o0 n hb o ho=>by
   rw[nZ (t:=t)];split
   ·rfl
   ·exact hI.core.boxc r' b o0 n hb o ho)
  (λr' o=>by
   by_cases e1:r'=M.hr/\o=H.length
   ·right;left;exact⟨by rw[nZ (t:=t),oIP e1],λk hk=>by simp[G',e1]at hk⟩
   ·left;exact⟨by rw[nZ (t:=t),oIN e1],λk=>by simp[G',e1],rfl⟩)
 have hk:gf w w σ.v σ.v (b5 M σ (H++[t])) (b5 M σ H) G G':=by
  have hne:∀r o,r≠1->b5 M σ H r o=b5 M σ (H++[t]) r o:=λr o h=>by rw[nZ (t:=t),oIN λe=>h e.1]
  exact⟨λ_=>Nat.le_refl _,λp ad t1 Z8 _ h1 h2=>⟨t1,jg h1 rfl λ_=>rfl,by rw[hne _ _ Z8];exact h2⟩,λp h c Z8 _ h1 h2=>⟨c,h1,by rw[hne _ _ Z8];exact h2,rfl⟩⟩
 exact⟨G',⟨YE.1,λi=>(hI.tmr i).keep hk (λ_ _ _=>rfl) (λk h _=>YE.2 k h),hI.fram.ghost rfl (λk ⟨r',o,h⟩=>⟨r',o,Z' r' o k h⟩),hI.keys,hI.size,hl,UW,hI.shape,hI.kept⟩,rfl⟩
theorem Inv.nameLast(hI:Inv M σ (H++[t]) (xs++[x]) ts w G)(k:Nat)(hkp:∀y,k≠1000000->M.kp k=some y->x=y):
 ∃G',Inv M (σ.root (2*k+3) [t]) H xs ts w G'/\G'.β=G.β/\G'.η (2*k+3) 0=x/\b5 M (σ.root (2*k+3) [t]) H (2*k+3) 0=t:=by
 obtain⟨hl,UW,VX⟩:=zU hI
 have h1:2*k+3≠M.hr:=by unfold Fm.hr;omega
 have hβr:G.β (2*k+3)=none:=hI.odd_none k
 let G':Gh:=⟨G.β,λr' o=>if r'=2*k+3 then(if o=0 then x else undef)else G.η r' o,λr' o b=>if r'=M.hr/\o=H.length then False else if r'=2*k+3 then o=0/\G.φ M.hr H.length b else G.φ r' o b⟩
 have Z':∀r' o b,G'.φ r' o b->(r'=2*k+3/\o=0/\G.φ M.hr H.length b)\/(r'≠2*k+3/\¬(r'=M.hr/\o=H.length)/\G.φ r' o b):=by
  intro r' o b hb;simp only[G']at hb;split at hb
  ·exact hb.elim
  ·rename_i e1;split at hb
   ·rename_i e2;exact .inl ⟨e2,hb⟩
   ·rename_i e2;exact .inr ⟨e2,e1,hb⟩
 have XA:∀r' o,b5 M (σ.root (2*k+3) [t]) H r' o=if r'=M.hr/\o=H.length then .dead else if r'=2*k+3 then[t].getD o .dead else b5 M σ (H++[t]) r' o:=by
  intro r' o;rw[nZ (t:=t)];split
  ·rfl
  ·rename_i e;unfold b5;rw[nu];by_cases hr:r'=M.hr
   ·simp[hr,Ne.symm h1]
   ·simp[hr]
 have U5:∀b,G.F M.A b->G'.F M.A b:=by
  rintro b ⟨a1,a2,a3⟩;refine⟨a1,λr' o h=>?_,a3⟩
  rcases Z' r' o b h with⟨_,_,h3⟩|⟨_,_,h3⟩
  ·exact a2 _ _ h3
  ·exact a2 _ _ h3
 have YE:=iM.ghost (C':=b5 M (σ.root (2*k+3) [t]) H) (G':=G') hI.core rfl
  (λb ⟨r',o,h⟩=>by
   rcases Z' r' o b h with⟨_,_,h3⟩|⟨_,_,h3⟩
   ·exact⟨_,_,h3⟩
   ·exact⟨_,_,h3⟩)
  (λr1 o1 r2 o2 b Y9 YJ=>by
   rcases Z' r1 o1 b Y9 with⟨a1,a2,a3⟩|⟨a1,a2,a3⟩
   ·rcases Z' r2 o2 b YJ with⟨b1,b2,b3⟩|⟨b1,b2,b3⟩
    ·exact⟨a1.trans b1.symm,a2.trans b2.symm⟩
    ·obtain⟨c1,c2⟩:=hI.core.dis _ _ _ _ b a3 b3;exact absurd ⟨c1.symm,c2.symm⟩ b2
   ·rcases Z' r2 o2 b YJ with⟨b1,b2,b3⟩|⟨b1,b2,b3⟩
    ·obtain⟨c1,c2⟩:=hI.core.dis _ _ _ _ b a3 b3;exact absurd ⟨c1,c2⟩ a2
    ·exact hI.core.dis _ _ _ _ b a3 b3)
  (λr' b o0 n hb o ho=>by
   rw[XA];split
   ·rfl
   ·by_cases e2:r'=2*k+3
    ·rw[e2,hβr]at hb;simp at hb
    ·rw[oIN e2];exact hI.core.boxc r' b o0 n hb o ho)
  (λr' o=>by
   rw[XA];by_cases e1:r'=M.hr/\o=H.length
   ·right;left;exact⟨by rw[oIP e1],λb hb=>by simp[G',e1]at hb⟩
   ·rw[oIN e1];by_cases e2:r'=2*k+3
    ·subst e2;right;simp only[if_true];by_cases e3:o=0
     ·subst e3
      have ZO:∀b,G'.φ (2*k+3) 0 b↔G.φ M.hr H.length b:=λb=>by
       simp only[G'];rw[oIN e1];simp
      rcases hI.hand_cell H.length with⟨a1,a2⟩|⟨a1,a2⟩
      ·left;refine⟨?_,λb hb=>a2 b ((ZO b).1 hb)⟩;simpa[oGD]using a1
      ·right
       have hv:G'.val w (2*k+3) 0=x:=by
        unfold Gh.val;simp only[G',hβr,if_true]
       rw[hv]
       have e4:(H++[t]).getD H.length .dead=t:=by simp[oGD]
       have e5:(xs++[x]).getD H.length undef=x:=by rw[hl];simp[oGD]
       rw[e4,e5]at a2;exact(a2.frame (λ_ _=>rfl) (λ_ _ _=>rfl) (λb h _=>U5 b h)).refp λb=>(ZO b).symm
     ·left;refine⟨?_,λb hb=>?_⟩
      ·obtain⟨m,rfl⟩:∃m,o=m+1:=⟨o-1,by omega⟩;simp
      ·simp only[G']at hb;rw[oIN e1]at hb;simp[e3]at hb
    ·left
     exact⟨by simp[e2],λb=>by simp only[G'];rw[oIN e1,oIN e2],by simp[G',e2]⟩)
 have hk:gf w w σ.v (σ.root (2*k+3) [t]).v (b5 M σ (H++[t])) (b5 M (σ.root (2*k+3) [t]) H) G G':=by
  refine gf.root hI.core (2*k+3) (λ_ _=>rfl) (λq=>by rw[fI];omega) (by rw[fI];simp) (λr' o hne Us=>?_) (λr' hne _=>rfl) (λr' o hne _=>by simp[G',hne]);rw[XA,oIN λe=>Us e.1,oIN hne]
 refine⟨G',⟨YE.1,λi=>(hI.tmr i).keep hk (λ_ _ _=>rfl) (λb h _=>U5 b h),hI.fram.ghost rfl (λb ⟨r',o,h⟩=>by
  rcases Z' r' o b h with⟨_,_,h3⟩|⟨_,_,h3⟩
  ·exact⟨_,_,h3⟩
  ·exact⟨_,_,h3⟩),λr' l h=>?_,hI.size,hl,λj hj=>?_,λr' b o n hb l h=>?_,λi y h0 h=>?_⟩,rfl,by simp[G'],?_⟩
 ·rw[show(σ.root (2*k+3) [t]).ce=dp σ.ce (2*k+3) [t]from rfl,cg]at h;split at h
  ·rename_i e1;rw[<- e1];omega
  ·exact hI.keys r' l h
 ·rw[<- UW j hj];simp only[G'];rw[oIN (Ne.symm h1)]
 ·rw[show(σ.root (2*k+3) [t]).ce=dp σ.ce (2*k+3) [t]from rfl,cg]at h;split at h
  ·rename_i e1;have Zx:G.β r'=some (b,o,n):=hb;rw[<- e1,hβr]at Zx;simp at Zx
  ·exact hI.shape r' b o n hb l h
 ·show(if 2*i+3=2*k+3 then(if 0=0 then x else undef)else G.η (2*i+3) 0)=y;by_cases e:i=k
  ·subst e;rw[oIP rfl,oIP rfl];exact hkp y h0 h
  ·rw[oIN (by omega)];exact hI.kept i y h0 h
 ·rw[XA,oIN λe=>h1 e.1,oIP rfl];rfl
theorem EG(hI:Inv M σ [] [] ts w G):∀{z:List (Option Nat×TV)}{asq:List Value}{σ':St},z.length=asq.length->(∀j (h:j<z.length)(h':j<asq.length),TmR w (G.F M.A) σ.v (b5 M σ []) G z[j].2 asq[j])->(lendChk z).run σ=some ((),σ')->
 σ'=σ/\∀i k,lentTo z i=some k->∃y,asq[i]?=some y/\y=ts.getD k undef/\∀v,k≠1000000->M.kp k=some v->y=v:=by
 intro z
 induction z with
 |nil=>
  intro asq σ' _ _ hr;simp only[lendChk,SP.run,oSJ,oPJ,true_and]at hr;exact⟨hr.symm,λi k h=>by simp[lentTo]at h⟩
 |cons a z ih=>
  intro asq σ' hl ht hr
  cases asq with
  |nil=>simp at hl
  |cons y asq=>
   have rest:(lendChk z).run σ=some ((),σ')->σ'=σ/\∀i k,lentTo z i=some k->∃y,asq[i]?=some y/\y=ts.getD k undef/\∀v,k≠1000000->M.kp k=some v->y=v:=λh=>
    ih (by simpa using hl) (λj h h'=>by have:=ht (j+1) (by simpa using h) (by simpa using h');simpa using this) h
   have skip:(∀k p vs,a≠(some (k+1),.pk p vs))->σ'=σ/\∀i k,lentTo (a::z) i=some k->∃v,(y::asq)[i]?=some v/\v=ts.getD k undef/\∀u,k≠1000000->M.kp k=some u->v=u:=λhne=>by
    have e:lendChk (a::z)=lendChk z:=by
     obtain⟨n,tt⟩:=a
     cases n with
     |none=>rfl
     |some n=>cases n with
      |zero=>rfl
      |succ n=>cases tt<;>first|rfl|exact absurd rfl (hne _ _ _)
    rw[e]at hr;obtain⟨e1,h2⟩:=rest hr;refine⟨e1,λi k h=>?_⟩
    cases i with
    |zero=>
     obtain⟨n,tt⟩:=a;simp only[lentTo,List.getElem?_cons_zero]at h;split at h
     ·rename_i k' p vs e
      injection e with e
      exact absurd e (hne _ _ _)
     ·cases h
    |succ i=>exact h2 i k (by simpa[lentTo]using h)
   by_cases hc:∃k p vs,a=(some (k+1),.pk p vs)
   ·obtain⟨k,p,vs,rfl⟩:=hc;simp only[lendChk]at hr;obtain⟨_,σ1,h1,h2⟩:=bG hr;obtain⟨rfl,Wz⟩:=bU h1;simp only[SP.run]at h2;split at h2
    case h_2=>simp[SP.run]at h2
    rename_i q ws hk;split at h2
    case isFalse=>simp[SP.run]at h2
    rename_i Z9;obtain⟨c1,c2,c3,c4,c5,c6,rfl⟩:=Z9;obtain⟨pr,po,ph⟩:=p;obtain⟨qr,qo,qh⟩:=q;simp only[List.isEmpty_iff]at c1 c2 c3 c4 c5 c6;subst c1 c2 c3 c4 c5 c6;obtain⟨e1,h3⟩:=rest h2;refine⟨e1,λi k' h=>?_⟩
    cases i with
    |succ i=>exact h3 i k' (by simpa[lentTo]using h)
    |zero=>
     have hkk:k=k':=by simpa[lentTo]using h
     subst hkk;have t1:=ht 0 (by simp) (by simp);simp only[List.getElem_cons_zero]at t1;have t2:=hI.tmr k;rw[hk]at t2;refine⟨y,rfl,?_⟩
     have Z0:∀{u:Value},TmR w (G.F M.A) σ1.v (b5 M σ1 []) G (.pk ⟨2*k+3,0,[]⟩ vs) u->G.val w (2*k+3) 0=u:=by
      intro u hu
      cases hu with
      |pk V0 h0 hv h=>
       obtain⟨_,c,hh,_⟩:=h Wz;exact Option.some.inj hh
     have v1:=Z0 t1;have v2:=Z0 t2;refine⟨v1.symm.trans v2,λv h0 RE=>?_⟩;rw[<- v1];unfold Gh.val;rw[hI.odd_none k];exact hI.kept k v h0 RE
   ·exact skip λk p vs e=>hc ⟨k,p,vs,e⟩
theorem B3{z:List (Option Nat×TV)}{ks:List Nat}:∀{ow:List (Nat×TV)}{rs:List (List TV)}{xv:List Value}{σ σ':St}{G:Gh},xv.length=ow.length->(∀j (h:j<ow.length) k,lentTo z ow[j].1=some k->1000000+ow[j].1∈ks->ow[j].1≠1000000->xv.getD j undef=ts.getD k undef/\∀v,k≠1000000->M.kp k=some v->xv.getD j undef=v)->
 Inv M σ (H++(rs.take ow.length).map λl=>l.getD 0 .dead) (xs++xv) ts w G->(giveBack z ks ow rs).run σ=some ((),σ')->∃G',Inv M σ' H xs ts w G'/\G'.β=G.β:=by
 intro ow
 induction ow generalizing H xs with
 |nil=>
  intro rs xv σ σ' G hl _ hI hr;obtain rfl:xv=[]:=oEN (by simpa using hl);simp only[giveBack,SP.run,oSJ,oPJ,true_and]at hr;subst hr;simp only[List.length_nil,List.take_zero,List.map_nil,List.append_nil]at hI;exact⟨G,hI,rfl⟩
 |cons o ow ih=>
  intro rs xv σ σ' G hl hx hI hr
  cases rs with
  |nil=>simp[giveBack,SP.run]at hr
  |cons y rs=>
   cases xv with
   |nil=>simp at hl
   |cons x0 xv=>
    simp only[giveBack]at hr;obtain⟨_,σ1,h1,h2⟩:=bG hr;simp only[oLC,List.take_succ_cons,List.map_cons]at hI;rw[show H++(y.getD 0 .dead::(rs.take ow.length).map λl=>l.getD 0 .dead)=(H++[y.getD 0 .dead])++(rs.take ow.length).map λl=>l.getD 0 .dead by simp,show xs++x0::xv=(xs++[x0])++xv by simp]at hI;obtain⟨G1,hI1,hβ1⟩:=ih (H:=H++[y.getD 0 .dead]) (xs:=xs++[x0]) (by simpa using hl) (λj h k hk hm hne=>by have:=hx (j+1) (by simpa using h) k (by simpa using hk) (by simpa using hm) (by simpa using hne);simpa using this) hI h1;split at h2
    ·simp only[SP.run,oSJ,oPJ,true_and]at h2;subst h2;obtain⟨G2,Z3,hβ2⟩:=hI1.dropLast;exact⟨G2,Z3,hβ2.trans hβ1⟩
    ·rename_i k hk;split at h2
     case h_2=>simp[SP.run]at h2
     rename_i c;split at h2
     case isFalse=>simp[SP.run]at h2
     rename_i Z9;obtain⟨RC,hne⟩:=Z9;obtain⟨hv,hkp⟩:=hx 0 (by simp) k hk (by simpa using RC) hne;simp only[List.getD_cons_zero]at hv hkp;obtain⟨l,σ2,h3,h4⟩:=bG h2;obtain⟨G2,Z3,hβ2,hη,hc⟩:=hI1.nameLast k hkp;have Z3:Inv M (σ1.root (2*k+3) [.ow c]) H xs ts w G2:=Z3;have hc:b5 M (σ1.root (2*k+3) [.ow c]) H (2*k+3) 0=.ow c:=hc
     have RN:l=[.pk ⟨2*k+3,0,[]⟩ [(σ1.root (2*k+3) [.ow c]).v (2*k+3,0,0),(σ1.root (2*k+3) [.ow c]).v (2*k+3,0,1)]]/\σ2=σ1.root (2*k+3) [.ow c]:=by
      have e:names k [.ow c]=.new (2*k+3) [.ow c] (nameL (2*k+3) 0 [.ow c]):=rfl;rw[e]at h3;simp only[SP.run,nameL,SP.bind]at h3
      injection h3 with h3
      injection h3 with h3 h5
      exact⟨h3.symm,h5.symm⟩
     obtain⟨rfl,rfl⟩:=RN;simp only[SP.run,oSJ,oPJ,true_and]at h4;subst h4;refine⟨G2,Z3.reT ?_,hβ2.trans hβ1⟩;rw[<- hv];refine .pk (σ1.root (2*k+3) [.ow c]).v (λ_=>Nat.le_refl _) (by simp[gY]) λ_=>⟨by show 2*k+3≠1;omega,c,?_,?_⟩
     ·show some (G2.val w (2*k+3) 0)=some x0;unfold Gh.val;rw[Z3.odd_none k];exact congrArg some hη
     ·rw[hc];rfl
end
def gS(P:Program)(f:FuncId):Prop:=∀args w,(callFunc f args).run P w=.ok (.enter f args) w
theorem iJ{P:Program}{f:FuncId}{fn:Func}{c:Code}(hf:P.funcs[f]?=some fn)(Vf:(fn.name=="runtime.NumGoroutine")=false)(hb:fn.body=some c):gS P f:=by
 intro args w;unfold callFunc
 simp_all
def O5(M:Fm)(res:vl)(v:Value)(σ2:St)(w2:World):Prop:=
 (∃ys ts2 G2,v=kz res.sh ys/\Inv M σ2 res.cells ys ts2 w2 G2/\∀j (h:j<res.cells.length),cq res.cells[j]=true\/kf res.cells[j]=true)\/
 ∃q vs l pv ts2 G2,res.cells=.ptr q vs::l/\(∃sh,res.sh=.ptr::sh)/\l.all A2=true/\v=wm pv (l.map unV)/\Inv M σ2 [] [] ts2 w2 G2/\OP w2 (b5 M σ2 []) G2 q pv
def dF(P:Program)(F:cI):Prop:=
 ∀f vals pts res ZJ,F f vals pts=some (res,ZJ)->gS P f/\∃(N:Nat)(ks:List Nat),vals.length<=N/\∀(M:Fm)(asq:List Value)(w:World)(G:Gh),asq.length=vals.length->M.N=N->M.w0=w->(∀r,M.pr r≠none->∃i p vs,vals[i]?=some (.ptr p vs)/\r=2*i+2)->(∀i,M.kp i≠none->i∈ks)->
  Inv M (mkSt vals pts) [] [] (asq.toArray++Array.replicate (N-asq.length) undef) w G ->
  Calls P f asq.toArray w λe w2=>∃v σ2,e=.returned v/\O5 M res v σ2 w2/\ZJ=(pts.map λx=>(x.1,(b9 σ2.ce x.1).getD []))++ks.map λk=>(1000000+k,[])
def yV(P:Program)(E:Env):Prop:=
 ∀f n tm,E.box f=some (n,tm)->gS P f/\(∀x,.val x∈tm->gc x=true)/\∃ty,∀(asq:List Value)(w:World),asq.length=n->(∀y∈tm.map (bxV asq),y.oneCell'=true)->
  Calls P f asq.toArray w λe w'=>e=.returned (.pointer (some ⟨w.heap.size,0,none⟩))/\w'=w.alloc (.cells (tm.map (bxV asq)).toArray ty)
def Fp(z:Int):Value:=.int .i64 z
def Nk(k:Nat)(a:Option Addr)(m cap:Nat):Value:=if k=1 then .tuple #[]else .slice a m cap
def KD(P:Program)(k:Nat)(f:FuncId):Prop:=gS P f /\
 (∀a w,Calls P f #[.slice a 0 0] w λe w'=>e=.returned (Nk k a 0 0)/\w'=w)/\
 ∀b cap zs w,zs≠[]->zs.length<4611686018427387904->zs.length<=cap->cap<=maxLen->b<w.heap.size->(∀j,j<zs.length->w.cell? ⟨b,j,none⟩=some (Fp (zs.getD j 0))/\w.frozen? ⟨b,j,none⟩=false)->
  Calls P f #[.slice (some ⟨b,0,none⟩) zs.length cap] w λe w'=>e=.returned (Nk k (some ⟨b,0,none⟩) (rowN zs) cap)/\w'.os=w.os/\w'.tape=w.tape/\w'.output=w.output/\w.heap.size<=w'.heap.size/\∀j,j<w.heap.size->w'.heap[j]?=(w.setCells b 0 ((t6 k zs).map Fp)).heap[j]?
def IL(P:Program)(f:FuncId):Prop:=gS P f /\
 ∀(b o n c j:Nat)(w:World),j<=32->8*j<n->n<=c->n<=1099511627776 ->
  Calls P f #[.slice (some ⟨b,o,none⟩) n c,.int .i64 j] w λe w'=>e=.returned (.slice (some ⟨b,o+8*j*4,none⟩) (min 8 (n-8*j)) (c-8*j))/\w'=w
def wd(P:Program)(E:Env):Prop:=yV P E/\∀f,E.row f≠0->(E.row f≠3->KD P (E.row f) f)/\(E.row f=3->IL P f)
theorem Ku{P:Program}{E:Env}(h:yV P E)(hr:∀f,E.row f=0:=by exact λ_=>rfl):wd P E:=⟨h,λf hf=>absurd (hr f) hf⟩
theorem wd.box{P:Program}{E:Env}(h:wd P E):yV P E:=h.1
def nU:Op->TOp->Prop
 |.call ⟨.value f,args,_⟩,.call _ f' args'=>bK f=some f'/\args'.length=args.size/\∀j (h:j<args'.length)(h':j<args.size),bK args[j]=some args'[j].2
 |_,_=>False
def MZ:TOp:=.call false (.c undef) []
def gw(op:Op)(t:TOp):Prop:=t=MZ\/nU op t
section
variable {P:Program} {M:Fm} {σ σ':St} {H:List TV} {xs:List Value} {ts:Array Value} {w:World} {G:Gh} {a:Act} {o:Oper}
theorem AU:∀{l:List TV}{i:Nat},(argTs i l).length=l.length:=by
 intro l
 induction l with
 |nil=>intro i;rfl
 |cons t l ih=>intro i;simp[argTs,ih]
theorem Gm{F:Nat->Prop}{V:Vs}{C:Cs}:∀{sh:List RSh}{l:List TV}{ys:List Value},nH sh l.length=true->l.length=ys.length->(∀j (h:j<l.length),TmR w F V C G l[j] (ys.getD j undef))->
 (ib sh l).length=(fC sh ys).length/\∀j (h:j<(ib sh l).length),TmR w F V C G (ib sh l)[j] ((fC sh ys).getD j undef):=by
 intro sh
 induction sh with
 |nil=>intro l ys _ _ _;exact⟨rfl,λj h=>by simp[ib]at h⟩
 |cons s sh ih=>
  intro l ys hs hl ht
  cases s with
  |one=>
   simp only[nH,oBA,oDE]at hs
   cases l with
   |nil=>simp at hs
   |cons t l=>
    cases ys with
    |nil=>simp at hl
    |cons y ys=>
     obtain⟨e,h2⟩:=ih (l:=l) (ys:=ys) (by simpa using hs.2) (by simpa using hl) λj h=>by have:=ht (j+1) (by simpa using h);simpa using this
     refine⟨by simp[ib,fC,e],λj h=>?_⟩
     cases j with
     |zero=>have:=ht 0 (by simp);simpa[ib,fC]using this
     |succ j=>have:=h2 j (by simpa[ib]using h);simpa[ib,fC]using this
  |agg n=>
   simp only[nH,oBA,oDE]at hs
   obtain⟨e,h2⟩:=ih (l:=l.drop n) (ys:=ys.drop n) (by simpa using hs.2) (by simp[hl]) λj h=>by
    have h':n+j<l.length:=by simp at h;omega
    simp_all
   refine⟨by simp[ib,fC,e],λj h=>?_⟩
   cases j with
   |zero=>
    refine .agg (by simp;omega) λj hj=>?_
    have ZY:j<n/\j<l.length:=by simp at hj;omega
    simp_all
   |succ j=>have:=h2 j (by simpa[ib]using h);simpa[ib,fC]using this
  |ptr=>simp[nH]at hs
theorem zm{F:Nat->Prop}{V:Vs}{C:Cs}{sh:List RSh}{l:List TV}{ys:List Value}(hs:nH sh l.length=true)(hl:l.length=ys.length)(ht:∀j (h:j<l.length),TmR w F V C G l[j] (ys.getD j undef)):TmR w F V C G (pV sh l) (kz sh ys):=by
 obtain⟨e,h2⟩:=Gm hs hl ht;by_cases h1:∃x,ib sh l=[x]
 ·obtain⟨x,hx⟩:=h1;have ⟨y,hy⟩:∃y,fC sh ys=[y]:=List.length_eq_one_iff.1 (by simp_all)
  have e1:pV sh l=x:=by unfold pV;rw[hx]
  have e2:kz sh ys=y:=by unfold kz;rw[hy]
  simp_all
 ·have hne:¬ ∃y,fC sh ys=[y]:=λ⟨y,hy⟩=>h1 (List.length_eq_one_iff.1 (by rw[e,hy];rfl))
  have e1:pV sh l=TV.tup (ib sh l):=by
   unfold pV
   simp_all
  have e2:kz sh ys=Value.tuple (fC sh ys).toArray:=by
   unfold kz
   simp_all
  rw[e1,e2];refine .tup (by simp[e]) λj hj=>?_;have:=h2 j hj
  simp_all
theorem Mw{res:vl}{ys:List Value}(hI:Inv M σ res.cells ys ts w G)(hok:∀j (h:j<res.cells.length),cq res.cells[j]=true\/kf res.cells[j]=true)(hs:nH res.sh res.cells.length=true)
 {dst:Option Nat}(hd:∀d,dst=some d->M.ok d)(hr:(landR dst res).run σ=some ((),σ')):∃G',Inv M σ' [] [] (match dst with|some d=>ts.setIfInBounds d (kz res.sh ys)|none=>ts) w G':=by
 cases dst with
 |none=>
  simp only[landR,SP.run,oSJ,oPJ,true_and]at hr;subst hr;obtain⟨G',hg,_⟩:=hI.drop;exact⟨G',hg.1⟩
 |some d=>
  simp only[landR]at hr;obtain⟨l,σ1,h1,h2⟩:=bG hr;obtain⟨G1,hI1,_,hl,ht⟩:=qg (λ_=>(hd d rfl).2) hI hok h1;simp only[wr,SP.run,oSJ,oPJ,true_and]at h2;subst h2;exact⟨G1,hI1.wrT (hd d rfl) (zm (by rw[hl];exact hs) (by rw[hl];exact hI.hand) ht)⟩
end
def frM(w:World)(N:Nat):Fm:={ w0:=w,A:=λ_=>True,W0:=λ_=>False,pr:=λ_=>none,N:=N,hA:=λ_ _=>trivial }
def frG:Gh:=⟨λ_=>none,λ_ _=>undef,λ_ _ _=>False⟩
theorem k8(l:List TV):∀i k,b9 (eP i l) k=if k<i then none else l[k-i]?:=by
 induction l with
 |nil=>intro i k;simp[eP,b9]
 |cons t l ih=>
  simp[eP,b9]
  grind
def AX(w:World)(t:TV)(x:Value):Prop:=∀F V C G,(∀k,F k)->TmR w F V C G t x
theorem io.plain{w:World}{F:Nat->Prop}{t:TV}{x:Value}(h:io w F t x):AX w t x:=λ_ _ _ _ hF=>(h.frame (λ_ _ _=>rfl) λk _ _=>hF k).toTm
theorem calls_flat{P:Program}{F:cI}(hF:dF P F){f:FuncId}{vals:List TV}{avs:List Value}{res:vl}{w:World}(h:F f vals []=some (res,[]))(ZE:res.cells.all A2=true)(hl:avs.length=vals.length)
 (hv:∀j (h:j<vals.length)(h':j<avs.length),AX w vals[j] avs[j]):gS P f/\Calls P f avs.toArray w λe w'=>e=.returned (kz res.sh (res.cells.map unV))/\Below w.heap.size w w':=by
 obtain⟨ZG,N,ks,hN,hc⟩:=hF f vals [] _ _ h;refine⟨ZG,?_⟩;have Zz:∀k,frG.F (frM w N).A k:=λk=>⟨trivial,λ_ _ h=>h,λ_ _ _ _ h=>by simp[frG]at h⟩
 have hst:∀i,(mkSt vals []).t i=vals.getD i .dead:=by
  intro i;simp[St.t,mkSt,k8]
 have hE:∀r o,b5 (frM w N) (mkSt vals []) [] r o=.dead:=by
  intro r o;unfold b5;split
  ·simp
  ·rfl
 have hI:Inv (frM w N) (mkSt vals []) [] [] (avs.toArray++Array.replicate (N-avs.length) undef) w frG:=by
  refine⟨⟨λr o=>.inl ⟨hE r o,λ_ h=>h⟩,λ_ _ _ _ h=>by simp[frG]at h,λ_ _ _ _ h=>by simp[frG]at h,λ_ _ _ _ _ _ _ h=>by simp[frG]at h,λ_ _ _ _ h=>by simp[frG]at h,λ_ _ _ _ _ h=>h.elim,λ_ _ _ h=>h.elim⟩,λi=>?_,⟨rfl,rfl,rfl,Nat.le_refl _,λ_ _ _ _=>rfl,λ_ _ _ _ h=>by simp[frM]at h,λ_ _ _ h=>h.elim,λ_ _ _ _ h=>by simp[frG]at h,λ_ h=>by simp[frG]at h⟩,λr l h=>by simp[mkSt,b9]at h,?_,rfl,λj hj=>by simp at hj,λ_ _ _ _ h=>by simp[frG]at h,λ_ _ _ h=>by simp[frM]at h⟩
  ·rw[hst];by_cases hi:i<vals.length
   ·have ZT:i<avs.length:=by omega
    have e1:vals.getD i .dead=vals[i]:=by simp[hi]
    have e2:(avs.toArray++Array.replicate (N-avs.length) undef).getD i undef=avs[i]:=by
     simp[Array.getD_eq_getD_getElem?,Array.getElem?_append,ZT]
    rw[e1,e2];exact hv i hi ZT _ _ _ frG Zz
   ·have e1:vals.getD i .dead=.dead:=by rw[oGD,oGN (by omega)];rfl
    rw[e1];exact .dead
  ·show(avs.toArray++Array.replicate (N-avs.length) undef).size=N;simp;omega
 refine(hc (frM w N) avs w frG hl rfl rfl (λr hr=>by simp[frM]at hr) (λi hi=>by simp[frM]at hi) hI).mono λe w2 ⟨v,σ2,he,Yt,_⟩=>?_
 rcases Yt with⟨ys,ts2,G2,rfl,Z3,_⟩|⟨q,vs,l,pv,ts2,G2,ZV,_⟩
 rotate_left
 ·rw[ZV]at ZE;simp[A2]at ZE
 have V3:ys=res.cells.map unV:=by
  have hlen:res.cells.length=ys.length:=Z3.hand;apply List.ext_getElem
  ·rw[List.length_map,hlen]
  ·intro j h1 h2
   have hj:j<res.cells.length:=by omega
   have WO:=List.all_eq_true.1 ZE res.cells[j] (List.getElem_mem hj)
   have hown:=Z3.hand_own (j:=j) hj (by
    intro e;rw[e]at WO
    simp[A2]at WO)
   rw[List.getElem_map]
   have e1:ys.getD j undef=ys[j]:=by simp[oGD,h1]
   rw[e1]at hown
   cases hc:res.cells[j]with
   |v x=>
    rw[hc]at hown
    cases hown with
    |v _ _=>rfl
   |_=>rw[hc]at WO;simp[A2]at WO
 subst V3;exact⟨he,⟨Z3.fram.os,Z3.fram.tape,Z3.fram.output,Z3.fram.size,λk hk=>Z3.fram.old k hk (λh=>h) λ_ _ _ _ h=>by simp[frM]at h⟩⟩
section
variable {P:Program} {M:Fm} {σ σ':St} {H:List TV} {xs:List Value} {ts:Array Value} {w:World} {G:Gh} {a:Act} {o:Oper}
theorem Gt{t t':TV}{x:Value}(hI:Inv M σ H xs ts w G)(hx:TmR w (G.F M.A) σ.v (b5 M σ H) G t x)(hr:(see1 t).run σ=some (t',σ')):σ'=σ/\io w (λ_=>True) t' x:=by
 cases hx with
 |v h=>
  obtain⟨rfl,rfl⟩:=hr;exact⟨rfl,.v h⟩
 |nil=>
  obtain⟨rfl,rfl⟩:=hr;exact⟨rfl,.sl 1 (λ_ _=>.nilFunc) (λi h=>by simp at h) (Nat.le_refl _) (Nat.zero_le _) (λ_=>rfl) (λi j h=>by simp at h) (λi j h=>by simp at h)⟩
 |sl h=>
  obtain⟨rfl,rfl⟩:=hr;exact⟨rfl,h.frame (λ_ _ _=>rfl) λ_ _ _=>trivial⟩
 |dead=>simp[see1,SP.run]at hr
 |ptr=>simp[see1,SP.run]at hr
 |ip=>simp[see1,SP.run]at hr
 |agg=>simp[see1,SP.run]at hr
 |tup=>simp[see1,SP.run]at hr
 |fn=>simp[see1,SP.run]at hr
 |pw=>simp[see1,SP.run]at hr
 | @pk p vs x V0 h0 hv hok=>
  obtain⟨_,σ1,h1,h2⟩:=bG hr;have e1:=(bU h1).1;have e2:=(bU h1).2;subst e1;obtain⟨_,c,ZP,Z6⟩:=hok e2;simp only[SP.run]at h2
  have Z7:p.root≠M.hr:=by
   intro e;rw[e]at h2;rw[hI.hr_dead]at h2;cases hp:p.hops<;>rw[hp]at h2<;>simp[b7,SP.run]at h2
  obtain⟨u,fp,h4,h5,_⟩:=hI.core.hv_own p Z6 (by simp);rw[bW Z7]at Z6;rw[Z6]at h2;obtain⟨rfl,rfl⟩:=h2;rw[ZP]at h4
  injection h4 with h4
  subst h4;exact⟨rfl,h5.share'.frame (λ_ _ _=>rfl) λ_ _ _=>trivial⟩
theorem L1:∀{l l':List TV}{ys:List Value},Inv M σ H xs ts w G->l.length=ys.length->(∀j (h:j<l.length),TmR w (G.F M.A) σ.v (b5 M σ H) G l[j] (ys.getD j undef))->(seeL l).run σ=some (l',σ')->
 σ'=σ/\l'.length=l.length/\∀j (h:j<l'.length),io w (λ_=>True) l'[j] (ys.getD j undef):=by
 intro l
 induction l generalizing σ σ' with
 |nil=>
  intro l' ys hI hl _ hr;simp only[seeL,SP.run,oSJ,oPJ]at hr
  simp_all
 |cons t l ih=>
  intro l' ys hI hl ht hr
  cases ys with
  |nil=>simp at hl
  |cons y ys=>
   obtain⟨t',σ1,h1,h2⟩:=bG hr;have ⟨r',σ2,h3,h4⟩:=bG h2;obtain⟨rfl,rfl⟩:=h4;obtain⟨rfl,k1⟩:=Gt hI (by have:=ht 0 (by simp);simpa using this) h1;obtain⟨rfl,k2,k3⟩:=ih hI (by simpa using hl) (λj h=>by have:=ht (j+1) (by simpa using h);simpa using this) h3;refine⟨rfl,by simp[k2],λj h=>?_⟩
   cases j with
   |zero=>simpa using k1
   |succ j=>have:=k3 j (by simpa using h);simpa using this
theorem L3{t t':TV}{x:Value}(hI:Inv M σ H xs ts w G)(hx:TmR w (G.F M.A) σ.v (b5 M σ H) G t x)(hr:(seeA t).run σ=some (t',σ')):σ'=σ/\AX w t' x:=by
 have one:(see1 t).run σ=some (t',σ')->σ'=σ/\AX w t' x:=λh=>by
  obtain⟨e,k⟩:=Gt hI hx h;exact⟨e,k.plain⟩
 cases t with
 |agg l=>
  obtain⟨l',σ1,h1,h2⟩:=bG hr;obtain⟨rfl,rfl⟩:=h2
  cases hx with
  | @agg _ ys hl ht=>
   obtain⟨e,k1,k2⟩:=L1 (ys:=ys.toList) hI (by simp_all) (λj h=>by simp_all) h1;refine⟨e,λF V C G' hF=>.agg (by rw[hl,k1]) λj hj=>?_⟩;have:=k2 j hj
   have e3:ys.getD j undef=ys.toList.getD j undef:=by simp_all
   rw[e3];exact this.plain F V C G' hF
 |ip cs=>
  obtain⟨rfl,rfl⟩:=hr
  cases hx with
  |ip u hc hr=>exact⟨rfl,λF V C G' hF=>.ip u (λj hj=>⟨hF _,(hc j hj).2⟩) λj hj=>(hr j hj).frame (λ_ _ _=>rfl) λk _ _=>hF k⟩
 |fn f cap=>
  simp only[seeA]at hr;split at hr
  ·rename_i hc;obtain⟨rfl,rfl⟩:=hr;rw[List.all_eq_true]at hc
   cases hx with
   |fn hl ht=>exact⟨rfl,λF V C G' hF=>.fn hl λj hj=>(((ht j hj).imC (hc _ (List.getElem_mem hj))).frame (λ_ _ _=>rfl) λk _ _=>hF k).toTm⟩
  ·simp[SP.run]at hr
 |_=>exact one hr
theorem Ju:∀{l:List Opd}{l':List Operand}{X1:List TV}{σ σ':St},Inv M σ [] [] a.tmps w G->l'.length=l.length->(∀j (h:j<l.length)(h':j<l'.length),bK l'[j]=some l[j])->(seeAs l).run σ=some (X1,σ')->
 σ'=σ/\X1.length=l.length/\∀j (h:j<X1.length)(h':j<l'.length),AX w X1[j] (a.eval l'[j]):=by
 intro l
 induction l with
 |nil=>
  intro l' X1 σ σ' hI hl hc hr;simp[seeAs,SP.run]at hr
  simp_all
 |cons x l ih=>
  intro l' X1 σ σ' hI hl hc hr
  cases l' with
  |nil=>simp at hl
  |cons x' l'=>
   obtain⟨t,σ1,h1,h2⟩:=bG hr;obtain⟨t',σ2,h3,h4⟩:=bG h2;obtain⟨r,σ3,h5,h6⟩:=bG h4;obtain⟨rfl,rfl⟩:=h6;obtain⟨rfl,ht⟩:=cr hI.tmr (by have:=hc 0 (by simp) (by simp);simpa using this) h1;obtain⟨rfl,k1⟩:=L3 hI ht h3;obtain⟨rfl,k2,k3⟩:=ih (l':=l') hI (by simpa using hl) (λj h h'=>by have:=hc (j+1) (by simpa using h) (by simpa using h');simpa using this) h5;refine⟨rfl,by simp[k2],λj h h'=>?_⟩
   cases j with
   |zero=>exact k1
   |succ j=>exact k3 j (by simpa using h) (by simpa using h')
theorem Kt{F:cI}(hF:dF P F){asq:List Value}{vals:List TV}{Zo:FuncId}(hd:∀d,o.dst=some d->M.ok d/\M.pr (2*d+2)=none)(hI1:Inv M σ [] [] a.tmps w G)(hal:asq.length=vals.length)
 (Xu:∀j (h:j<vals.length)(h':j<asq.length),AX w vals[j] asq[j])(h2:(callB F o.dst Zo vals).run σ=some ((),σ'))(ZH:gS P Zo->(execOp a.eval o).run P w=.ok (.enter Zo asq.toArray) w):KC P M σ' a o w:=by
 intro K' Q hK;simp only[callB]at h2;obtain⟨r,σ1,h3,h4⟩:=bG h2
 have Xi:F Zo vals []=some r/\σ1=σ:=by
  cases hq:F Zo vals []with
  |none=>rw[hq]at h3;simp[ig,SP.run]at h3
  |some y=>
   rw[hq]at h3;simp only[ig,SP.run,oSJ,oPJ]at h3;exact⟨by rw[h3.1],h3.2.symm⟩
 obtain⟨Xi,rfl⟩:=Xi;split at h4
 case isFalse=>simp[SP.run]at h4
 rename_i YC;simp only[oBA,oDE]at YC;obtain⟨res,ZJ⟩:=r;obtain rfl:ZJ=[]:=oEN YC.1.1;obtain⟨ZG,Wg⟩:=calls_flat hF Xi YC.1.2 hal Xu;unfold Oper.wp;rw[ZH ZG,Oper.upon_enter];refine Wg.mono λe w2 ⟨he,hb⟩=>?_;subst he;simp only;have Z3:=(hI1.grow (w':=w2) (λk hk=>hb.block k hk) hb.size hb.os hb.tape hb.output).1;refine hK (a.put o.dst (kz res.sh (res.cells.map unV))) w2 G ?_ (gu _ _ _)
 cases hdst:o.dst with
 |none=>
  rw[hdst]at h4;simp only[SP.run,oSJ,oPJ,true_and]at h4;rw[<- h4];exact Z3
 |some d=>
  rw[hdst]at h4;simp only[wr,SP.run,oSJ,oPJ,true_and]at h4;rw[<- h4];refine Z3.wrT (hd d hdst).1 (zm YC.2 (by simp) λj hj=>?_);have WO:=List.all_eq_true.1 YC.1.2 res.cells[j] (List.getElem_mem hj)
  have e1:(res.cells.map unV).getD j undef=unV res.cells[j]:=by simp[oGD,hj]
  rw[e1]
  cases hc:res.cells[j]with
  |v x=>rw[hc]at WO;exact .v WO
  |_=>rw[hc]at WO;simp[A2]at WO
end
end Go.Proofs.YtakfoejcjdcgbaaGreat
