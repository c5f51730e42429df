/- Part of the proof; no condition. -/
import Derived.Test.YtabfnmgabblofaaGreatWc
import Derived.Test.YtabfnmgabblofaaGreatProg
import Derived.KernelRfl
set_option linter.unusedVariables false
set_option linter.unusedSimpArgs false
namespace Go.Proofs.YtabfnmgabblofaaGreat
open Go.RowKit
section
variable {α β γ δ Y:Type}
theorem Qj{F:iE}{C:X.Cfg}(YX:∀c∈C.TB,yK F c)(u:HL den []):∀(ops:List lC){σ:XS den}{k:Unit->XS den->Option Y}{y:Y},X.spOps fX C u ops σ k=some y->∃ σ',xt (evCall C.E F) ops (erS σ)=some (erS σ')/\k () σ'=some y:=by intro ops;induction ops with|nil=>intro σ k y h;exact⟨σ,rfl,h⟩|cons o ops ih=>intro σ k y h;have ⟨a,σ1,r1,_,h1⟩:=K6 YX u o σ _ y h;have ⟨σ',r2,h2⟩:=ih h1;refine⟨σ',?_,h2⟩;simp[xt];rw[K4 r1];exact r2
def LF(f g:vy):Prop:=(∀x∈f.1,x∈g.1)/\∀x∈f.2,x∈g.2
inductive Un:List (Nat×vy)->List (Nat×vy)->Prop
 |nil:Un [] []
 |cons {i:Nat} {f g:vy} {l r:List (Nat×vy)} (h:LF f g) (t:Un l r):Un ((i,f)::l) ((i,g)::r)
theorem xB{a a' b b':List Loc}(ha:∀x∈a,x∈a')(hb:∀x∈b,x∈b')(h:MM a' b'=false):MM a b=false:=by unfold MM at h⊢;simp_all
theorem Nj{f f' g g':vy}(h1:LF f f')(h2:LF g g')(h:sH f' g'=false):sH f g=false:=by unfold sH at h⊢;simp at h⊢;have ⟨⟨⟨a,b⟩,c⟩,d⟩:=h;exact⟨⟨⟨xB h1.2 h2.1 a,xB h1.2 h2.2 b⟩,xB h2.2 h1.1 c⟩,xB h2.2 h1.2 d⟩
theorem OR{deps:k_}{j:Nat}{f f':vy}(hf:LF f f'){l r:List (Nat×vy)}(h:Un l r):(r.all λy=>!sH f' y.2||(deps.getD y.1 []).contains j)=true->(l.all λy=>!sH f y.2||(deps.getD y.1 []).contains j)=true:=by induction h with|nil=>exact id|cons h t ih=>intro hr;simp only[List.all_cons,oBA]at hr⊢;refine⟨?_,ih hr.2⟩;simp at hr⊢;rcases hr.1 with h3|h3;exact .inl (Nj hf h h3);simp_all
theorem HA{deps:k_}{l r:List (Nat×vy)}(h:Un l r):lA deps r=true->lA deps l=true:=by induction h with|nil=>exact id|cons h t ih=>intro hr;simp only[lA,oBA]at hr⊢;exact⟨OR h t hr.1,ih hr.2⟩
theorem ST{F:iE}{C:X.Cfg}(YX:∀c∈C.TB,yK F c)(u:HL den [])(ops:List lC):∀(L:N_){σ:XS den}{k:List (Nat×vy)->XS den->Option Y}{y:Y},X.spFL fX C u ops L σ k=some y ->∃fs gs σ',vz (λi=>spOp (evCall C.E F) (ops.getD i JA)) L (erS σ)=some (fs,erS σ')/\Un fs gs/\k gs σ'=some y:=by intro L;induction L with|nil=>intro σ k y h;exact⟨[],[],σ,rfl,.nil,h⟩|cons i L ih=>intro σ k y h;have ⟨a,σ1,r1,n1,h1⟩:=K6 YX u _ _ _ y h;have r1:(spOp (evCall C.E F) (ops.getD i JA)).run (erS σ)=some (a,erS σ1):=r1;have ⟨fs,gs,σ',r2,le,h2⟩:=ih h1;refine⟨(i,(spOp (evCall C.E F) (ops.getD i JA)).foot (erS σ))::fs,(i,σ1.lg)::gs,σ',?_,.cons ⟨n1.r,n1.w⟩ le,h2⟩;simp[vz];simp_all
theorem yY(L:N_)(σ:XS den){t:XV den}(h:X.okN0 t=true):er (X.renorm0 L σ t)=renorm0 L (erS σ) (er t):=by
 cases t with
 |d t x=>cases t with
  |row o t=>cases o<;>first|rfl|simp[X.okN0]at h
  |nilr o=>cases o<;>rfl|nat=>simp[X.okN0]at h|pair a b=>simp[X.okN0]at h|_=>rfl
 |ptr p vs=>show er (if _ then _ else _)=(if _ then _ else _);by_cases hc:(L.contains p.root&&vs==lE (ny σ.vr) p.root p.off p.hops.length)=true;rw[oIP hc,oIP (by exact hc)];rfl;rw[oIN hc,oIN (by exact hc)];rfl|pk p vs=>show er (if _ then _ else _)=(if _ then _ else _);by_cases hc:(L.contains p.root&&vs==lE (ny σ.vr) p.root p.off (p.hops.length+1))=true;rw[oIP hc,oIP (by exact hc)];rfl;rw[oIN hc,oIN (by exact hc)];rfl|pw p vs sz lo n=>show er (if _ then _ else _)=(if _ then _ else _);by_cases hc:(L.contains p.root&&vs==lE (ny σ.vr) p.root p.off (p.hops.length+1))=true;rw[oIP hc,oIP (by exact hc)];rfl;rw[oIN hc,oIN (by exact hc)];rfl|tup l=>cases l<;>rfl|gap=>simp[X.okN0]at h|half=>simp[X.okN0]at h|_=>rfl
theorem Ox(L:N_)(σ:XS den){t:XV den}(h:X.okN t=true):er (X.renorm L σ t)=renorm L (erS σ) (er t):=by
 have key:X.okN0 t=true->er (X.renorm0 L σ t)=renorm0 L (erS σ) (er t):=λh=>yY L σ h;cases t with
 |agg l=>simp only[X.renorm,er,renorm,kZ,oPM];congr 1;refine List.map_congr_left λx hx=>yY L σ (oAE.1 h x hx)|fn f l=>simp only[X.renorm,er,renorm,kZ,oPM];congr 1;refine List.map_congr_left λx hx=>yY L σ (oAE.1 h x hx)|d t x=>have:=key h;cases t with|row o t=>cases o<;>exact this|nilr o=>cases o<;>exact this|_=>exact this
 |_=>exact key h
theorem RV{α:Type}{P:α->Bool}:∀{l:List (Nat×α)}{i:Nat}{t:α},(l.all λx=>P x.2)=true->gH l i=some t->P t=true:=by intro l;induction l with|nil=>intro i t _ h;simp[gH]at h|cons x l ih=>intro i t ha h;simp only[List.all_cons,oBA]at ha;simp[gH]at h;split at h;simp_all;exact ih ha.2 h
theorem Q4(L:N_)(σ:XS den)(hok:X.okS σ=true):∀l:N_,(X.normT L σ l).map (λx=>(x.1,er x.2))=normT L (erS σ) l:=by intro l;induction l with|nil=>rfl|cons i l ih=>simp[X.normT,normT];have e:gH (erS σ).tm i=(gH σ.tm i).map er:=Bj _ _ _;rw[e];cases h:gH σ.tm i with|none=>exact ih|some t=>have ht:=RV hok h;simp only[oMS,oPC];rw[Ox L σ ht,ih]
theorem Q5(σ:XS den):∀l:N_,erC (X.normC σ l)=normC (erS σ) l:=by intro l;induction l with|nil=>rfl|cons r l ih=>simp[X.normC,normC];rw[zV];cases h:gH σ.ce r with|none=>exact ih|some c=>simp;show(r,erL c)::erC _=_;rw[ih]
theorem EZ{σ:XS den}(hok:X.okS σ=true)(pers:Prs):erS (X.norm σ pers)=(erS σ).norm pers:=by show(⟨(X.normT pers.2 σ pers.1).map _,erC (X.normC σ pers.2),sat pers.2 σ.vr σ.vr⟩:St)=_;rw[Q4 _ σ hok,Q5];rfl
theorem KU{σ:XS den}(hok:X.okS σ=true):erS (X.anew σ)=(erS σ).anew:=by unfold X.anew St.anew;rw[EZ hok];congr 1;congr 1;show _=(σ.tm.map λx=>(x.1,er x.2)).map (·.1);simp_all;show _=(erC σ.ce).map (·.1);unfold erC;simp_all
theorem UC(p:XP den)(off:Nat):erP (X.shq fX p off)=shq (erP p) off:=by unfold X.shq shq;split;exact KD p off;rfl
theorem Qn(x:Nat×x_):Sim (Y:=Y) (X.shr1 fX x) (shr1 x) id:=by
 obtain⟨i,off⟩:=x;refine Sim.rdT λt=>?_;cases off with
 |none=>cases t with
  |pk p vs=>refine(kg false (.pk p vs)).bind λt'=>Sim.opt λt2 h2=>?_;rw[<- B2 h2];exact Bt i t2|d t y=>cases t with|row o t=>cases o<;>exact .ret rfl|nilr o=>cases o<;>exact .ret rfl|_=>exact .ret rfl
  |agg l=>exact Sim.ite (λ_=>.fail) λ_=>.ret rfl|_=>exact .fail
 |some off=>cases t with
  |ptr p vs=>
  refine(iW p _ vs).bind λ_=>Sim.ite (λh=>?_) λ_=>.fail;rw[oIP (by rw[<- GC];exact h),<- UC];refine(lN _).bind λt=>Sim.ite (λho=>?_) λho=>?_;obtain⟨c,hc⟩:=pn ho;have hpk:=nb (Y:=Y) (X.shq fX p off) t;rw[hc]at hpk;rw[hc];exact hpk.bind λt'=>(kg false t').bind λ_=>.ret rfl;cases t with
   |d t y=>
   cases t with
    |row o t=>cases o<;>first|exact .ret rfl|simp[X.isOwX,X.isOwT]at ho
    |nilr o=>cases o<;>first|exact .ret rfl|simp[X.isOwX,X.isOwT]at ho
    |_=>exact .ret rfl
   |_=>exact .fail
  |d t y=>cases t with|row o t=>cases o<;>exact .fail|nilr o=>cases o<;>exact .fail|_=>exact .fail
  |_=>exact .fail
theorem K7:∀l:a_,Sim (Y:=Y) (X.shrs fX l) (shrs l) id:=by intro l;induction l with|nil=>exact .ret rfl|cons x l ih=>exact(Qn x).bind λ_=>ih
theorem Rp{n:Nat}{t:XV den}{k:XV den->Option Y}{y:Y}(h:X.halfX fX n t k=some y):∃t',er t'=er t/\k t'=some y:=by
 unfold X.halfX at h;split at h;rename_i t xs;split at h;rename_i hs;split at h;rename_i hc;refine⟨_,?_,h⟩;have h':=iA (NF t);show TV.ow (lB (X.upT t) 0 (cast (iA hs) xs))=.ow (List.map (enc t) xs);have e:(cast (iA hs) xs:List (den (X.upT t)))=List.map (cast h') (xs:List (den t)):=GM h' _ xs;rw[e,MZ,oPM];congr 1;exact List.map_congr_left λx _=>TW hc.2 h' x;cases h;cases h;rename_i t xs m;split at h;have h2:fX.br (Nat.beq m (List.length xs)) _ none=some y:=h;cases hc:Nat.beq m (List.length xs)with|false=>rw[hc]at h2;cases h2|true=>rw[hc]at h2;have e:=Nat.eq_of_beq_eq_true hc;subst e;refine⟨_,?_,h2⟩;show TV.ow (List.map (enc t) xs)=.ow (lB t (List.length xs) xs);rw[Pu]
 cases h;split at h;grind;cases h;cases h
theorem QE(r o n:Nat):Sim (Y:=Y) (X.halfM fX r o n) (.ret ()) id:=by
 intro σ k y hk;unfold X.halfM at hk;split at hk;case h_2=>cases hk
 rename_i l hl;split at hk;case isFalse=>cases hk
 have ⟨t',e,hk⟩:=Rp hk;refine⟨(),⟨σ.tm,iR σ.ce r (l.set o t'),σ.vr,σ.lg⟩,?_,⟨λx h=>by simp[SP.foot]at h,λx h=>by simp[SP.foot]at h,λ_ h=>h,λ_ h=>h⟩,hk⟩;show some ((),erS σ)=some ((),_);congr 2;unfold erS erC;congr 1;rw[<- q8,wT,e,xV];have hs:(erL l).set o ((erL l).getD o .dead)=erL l:=by
  apply oEG;intro j;rw[List.getElem?_set];split
  ·rename_i h;split
   all_goals simp_all
  rfl
 rw[hs];exact(CS (by show gH (erC σ.ce) r=some (erL l);have:=zV;rw[show erC σ.ce=(erS σ).ce from rfl,this,hl];rfl)).symm
theorem S3(i n:Nat):Sim (Y:=Y) (X.frzM fX i n) (U5 i n) id:=by refine Sim.ite (λh=>?_) λh=>?_;unfold U5;rw[oIP h];refine Sim.ite (λ_=>?_) λ_=>QE _ _ n;intro σ k y hk;unfold X.ownM at hk;split at hk;split at hk;exact⟨(),σ,rfl,rR.refl σ,hk⟩;cases hk;cases hk;exact .fail
theorem Tf{i:Nat}{σ:XS den}{u:HL den []}:∀{L:List Jv}{H:Jv}{h:HL den (lvS H.s)},X.selH fX i σ u L=some ⟨H,h⟩->X.convS fX H.s σ u=some h:=by intro L;induction L with|nil=>intro H h hs;cases hs|cons H0 L ih=>intro H h hs;unfold X.selH at hs;grind
theorem Em{Z:Type}{outs:List (nB×Shs)}{i:Nat}{h:HL den (EY (outs.map λx=>lvS x.2) i)}{o:EC (outs.map λx=>lvS x.2)}{x:nB×XS den}(K:nB×XS den->Option Z)(hm:zd (outs.map λx=>lvS x.2) i h=some o)(hf:zU outs i h=some x):(oK (outs.map λx=>lvS x.2) o λj ho=>X.onOut fX (zU outs j ho) K)=K x:=by rw[En _ hm,hf];rfl
theorem Qq{F:iE}{C:X.Cfg}(YX:∀c∈C.TB,yK F c)(u:HL den []){N:Nat}(hN:NN<=N):∀(tc:lU)(i:Nat){Y:Type}(σ:XS den)(k:nB->XS den->Option Y)(y:Y),X.runC fX C u tc i σ k=some y->∃e σ',runC (evCall C.E F) N tc (erS σ)=some (e,erS σ')/\k e σ'=some y:=by
 intro tc;induction tc with
 |skip=>intro i Y σ k y h;exact⟨.normal,σ,rfl,h⟩|frz j n a ih=>intro i Y σ k y h;obtain⟨_,σ1,r1,_,h1⟩:=S3 j n σ _ y h;split at h1;rename_i hok;obtain⟨e,σ2,r2,h2⟩:=ih _ _ k y h1;refine⟨e,σ2,?_,h2⟩;simp only[runC];rw[r1];simp only[oBS];rw[<- KU hok];exact r2;cases h1|nrm pers=>intro i Y σ k y h;have h:(if X.okS σ then k .normal (X.norm σ pers)else none)=some y:=h;split at h;rename_i hok;exact⟨.normal,X.norm σ pers,by rw[EZ hok];rfl,h⟩;cases h|reg id draw ops pers=>intro i Y σ k y h;cases draw with|none=>have h:X.spOps fX C u ops σ (λ_ σ'=>if X.okS σ' then k .normal (X.norm σ' pers)else none)=some y:=h;obtain⟨σ1,r1,h1⟩:=Qj YX u ops h;split at h1;rename_i hok;refine⟨.normal,X.norm σ1 pers,?_,h1⟩;simp only[runC];rw[r1,EZ hok];rfl;cases h1|some deps=>obtain⟨fs,gs,σ1,r1,le,h1⟩:=ST YX u ops _ h;split at h1;rename_i hok;simp only[oBA]at hok;rw[JV]at hok;refine⟨.normal,X.norm σ1 pers,?_,h1⟩;simp only[runC];rw[r1,EZ hok.2];simp only[oBS];rw[oIP (HA le hok.1)];cases h1
 |seq a b ZE ZC=>
 intro i Y σ k y h;have ZT:∀(e:nB)(σ1:XS den),runC (evCall C.E F) N a (erS σ)=some (e,erS σ1)->(match e with|.normal=>X.runC fX C u b (i+1+X.marks a) σ1 k|e=>k e σ1)=some y->∃e σ',runC (evCall C.E F) N (.seq a b) (erS σ)=some (e,erS σ')/\k e σ'=some y:=by intro e σ1 r1 h1;simp only[runC];rw[r1];simp only[oBS];cases e with|normal=>exact ZC _ σ1 k y h1|exit j=>exact⟨_,σ1,rfl,h1⟩|ret=>exact⟨_,σ1,rfl,h1⟩
 unfold X.runC at h;cases hs:X.selJ i C.HL with|none=>rw[hs]at h;obtain⟨e,σ1,r1,h1⟩:=ZE _ σ _ y h;exact ZT e σ1 r1 h1|some H=>rw[hs]at h;obtain⟨o,h1,h2⟩:=gh (show(X.runC fX C u a (i+1) σ _:Option _).bind _=some y from h);obtain⟨e,σ1,r1,h3⟩:=ZE _ σ _ o h1;cases hi:X.injE fX e σ1 u H.outs with|none=>rw[hi]at h3;cases h3|some x=>rw[hi]at h3;obtain⟨j,ho⟩:=x;have h3:zd (H.outs.map λx=>lvS x.2) j ho=some o:=h3;obtain⟨x,hf,he,hσ⟩:=Pn hi;rw[Em _ h3 hf]at h2;rw[<- hσ]at r1;rw[<- he]at r1;exact ZT x.1 x.2 r1 h2
 |cond c a b ZE ZC=>
 intro i Y σ k y h;obtain⟨t,σ1,r1,e1,_,h1⟩:=A4 h;cases t with
  |d t x=>cases t with
   |bool=>
   have hkn:erS (X.knownO fX c x σ)=erS σ:=by
    cases c with
    |t j=>
    have hj:X.tOf σ j=.d .bool x:=by
     have h9:X.condX fX (X.runC fX C u a i (X.knownO fX (.t j) true σ) k) (X.runC fX C u b (i+X.marks a) (X.knownO fX (.t j) false σ) k) (X.tOf σ j)=some y:=h;have r1:(some ((erS σ).t j,erS σ):Option (TV×St))=some (er (.d .bool x),erS σ):=r1;injection r1 with r1
     injection r1 with r1 _
     rw[RC]at r1;cases ht:X.tOf σ j with
     |d t2 z=>cases t2 with
      |bool=>rw[ht]at r1;injection r1 with r1;injection r1 with r1;rw[show z=x from r1]
      |_=>rw[ht]at h9;cases h9
     |_=>rw[ht]at h9;cases h9
    exact Lv hj
    |_=>rfl
   have r1:(opd c).run (erS σ)=some (.v (.bool x),erS σ):=r1;simp only[runC];rw[r1];simp only[oBS];cases x with|true=>rw[<- hkn];exact ZE _ _ k y h1|false=>rw[<- hkn];exact ZC _ _ k y h1
   |_=>cases h1
  |_=>cases h1
 |block id b ih=>intro i Y σ k y h;unfold X.runC at h;obtain⟨e,σ1,r1,h1⟩:=ih _ σ _ y h;simp only[runC];rw[r1];simp only[oBS];grind|loop b ih=>
 intro i Y σ k y h;unfold X.runC at h;cases hs:X.selH fX i σ u C.HL with
  |none=>rw[hs]at h;cases h|some x=>
  obtain⟨H,h0⟩:=x;rw[hs]at h;have hconv:=GG (Tf hs);obtain⟨o,h1,h2⟩:=gh (show(gd _ NN h0).bind _=some y from h);have key:∀(n:Nat)(hd:HL den (lvS H.s))(o:EC (H.outs.map λx=>lvS x.2)),gd (λh=>X.runC fX C u b (i+1) (KB H.s h) (X.roundK fX H u)) n hd=some o->∀N',n<=N'->∃x j ho,TK (runC (evCall C.E F) N b) N' (erS (KB H.s hd))=some (x.1,erS x.2)/\zd (H.outs.map λx=>lvS x.2) j ho=some o/\zU H.outs j ho=some x:=by
   intro n;induction n with
   |zero=>intro hd o h;cases h|succ n ihn=>
   intro hd o h N' Yi;obtain⟨N',rfl⟩:∃N'',N'=N''+1:=⟨N'-1,by omega⟩;obtain⟨z,hz,Xm⟩:=gh (show(X.runC fX C u b (i+1) (KB H.s hd) _:Option _).bind _=some o from h);obtain⟨e,σ1,r1,h3⟩:=ih _ _ _ z hz;simp only[TK];rw[r1];simp only[oBS];have Y3:∀e':nB,(∀s:Option (HL den (lvS H.s)⊕EC (H.outs.map λx=>lvS x.2)),s=some z->s=X.onOut fX (X.injE fX e' σ1 u H.outs) (λx=>fX.exitL (lvS H.s) (H.outs.map λx=>lvS x.2) x.1 x.2)->∃x j ho,(some (e',erS σ1):Option (nB×St))=some (x.1,erS x.2)/\zd (H.outs.map λx=>lvS x.2) j ho=some o/\zU H.outs j ho=some x):=by intro e' s hs1 YV;rw[hs1]at YV;cases hi:X.injE fX e' σ1 u H.outs with|none=>rw[hi]at YV;cases YV|some x=>rw[hi]at YV;obtain⟨j,ho⟩:=x;obtain⟨t,Yk,YW⟩:=kJ (show(zd (H.outs.map λx=>lvS x.2) j ho).map Sum.inr=some z from YV.symm);subst YW;obtain⟨x,hf,he,hσ⟩:=Pn hi;refine⟨x,j,ho,by rw[he,hσ],?_,hf⟩;have:some t=some o:=Xm;rw[<- this];exact Yk
   cases e with
   |normal=>
   have h3:X.onOut fX (X.convS fX H.s σ1 u) (fX.next (lvS H.s) (H.outs.map λx=>lvS x.2))=some z:=h3;cases hc:X.convS fX H.s σ1 u with
    |none=>rw[hc]at h3;cases h3|some h'=>
    rw[hc]at h3;have h3:some (Sum.inl h')=some z:=h3;injection h3 with h3
    subst h3;rw[<- GG hc];exact ihn h' o Xm N' (by omega)
   |exit j=>exact Y3 (.exit j) _ h3 rfl|ret=>exact Y3 .ret _ h3 rfl
  obtain⟨x,j,ho,r1,hm,hf⟩:=key NN h0 o h1 N hN;rw[Em _ hm hf]at h2;refine⟨x.1,x.2,?_,h2⟩;simp only[runC];rw[<- hconv];exact r1
 |exit id=>intro i Y σ k y h;exact⟨.exit id,σ,rfl,h⟩|ret=>intro i Y σ k y h;exact⟨.ret,σ,rfl,h⟩|pre l a ih=>intro i Y σ k y h;obtain⟨_,σ1,r1,_,h1⟩:=K7 l σ _ y h;split at h1;rename_i hok;obtain⟨e,σ2,r2,h2⟩:=ih _ _ k y h1;refine⟨e,σ2,?_,h2⟩;simp only[runC];rw[r1];simp only[oBS];rw[<- KU hok];exact r2;cases h1|post a l ih=>intro i Y σ k y h;obtain⟨e,σ1,r1,h1⟩:=ih _ _ _ y h;obtain⟨_,σ2,r2,_,h2⟩:=K7 l σ1 _ y h1;split at h2;rename_i hok;refine⟨e,X.anew σ2,?_,h2⟩;simp only[runC];rw[r1];simp only[oBS];rw[r2];simp only[oBS];rw[KU hok];cases h2
end
section
variable {α β γ δ Y:Type}
theorem D8(np:Nat)(t:XV den):Sim (Y:=Y) (X.takeR1 fX np t) (takeR1 np (er t)) er:=by
 have key:Sim (Y:=Y) (X.take1 fX true t) (take1 true (er t)) er:=kg true t;cases t with
 |pk p vs=>exact kg _ (.pk p vs)|d t y=>cases t with|row o t=>cases o<;>exact key|nilr o=>cases o<;>exact key|_=>exact key
 |_=>exact key
theorem Md(np:Nat):∀l:List (XV den),Sim (Y:=Y) (X.takeRL fX np l) (takeRL np (erL l)) erL:=by intro l;induction l with|nil=>exact .ret rfl|cons t l ih=>exact(D8 np t).bind λt'=>ih.bind λr'=>.ret rfl
theorem yQ(np:Nat)(t:XV den):Sim (Y:=Y) (X.takeRV fX np t) (takeRV np (er t)) λx=>(erL x.1,x.2):=by
 have one:∀t:XV den,Sim (Y:=Y) (X.bind (X.takeR1 fX np t) λt'=>X.ret ([t'],RSh.one)) ((takeR1 np (er t)).bind λt'=>.ret ([t'],.one)) λx=>(erL x.1,x.2):=λt=>(D8 np t).bind λt'=>.ret rfl;have key:=one t;cases t with
 |agg l=>exact(Md np l).bind λl'=>.ret (by simp[iQ])|d t y=>cases t with|row o t=>cases o<;>exact key|nilr o=>cases o<;>exact key|_=>exact key
 |_=>exact key
theorem Qt(np:Nat)(q:TRs):Sim (Y:=Y) (X.res1 fX np q) (res1 np q) λx=>(erL x.1,x.2):=by
 cases q with
 |tmp t=>exact Sim.rdT λtv=>yQ np tv|cell t n=>
 refine Sim.rdT λtv=>?_;cases tv with
 |ptr p vs=>refine(iW p _ vs).bind λ_=>?_;cases n with|none=>exact(lN p).bind λt=>(nb p t).bind λt'=>yQ np t'|some n=>exact(Hg p n).bind λl=>yQ np (.agg l)
 |d t y=>cases t with|row o t=>cases o<;>exact .fail|nilr o=>cases o<;>exact .fail|_=>exact .fail
 |_=>exact .fail
theorem Qr(np:Nat):∀l:Q_,Sim (Y:=Y) (X.resL fX np l) (resL np l) λx=>(erL x.1,x.2):=by intro l;induction l with|nil=>exact .ret rfl|cons q l ih=>exact(Qt np q).bind λx=>ih.bind λy=>.ret (by simp[rK])
theorem OS(l:List (XV den)):onesOf (erL l)=X.onesOf l:=by induction l with|nil=>rfl|cons t l ih=>simp[erL,onesOf,X.onesOf,ih]
theorem Mi:∀l:Q_,Sim (Y:=Y) (X.flatsR fX l) (flatsR l) erL:=by
 intro l;induction l with
 |nil=>exact .ret rfl|cons q l ih=>cases q with
  |cell t n=>exact .fail|tmp t=>
  refine Sim.rdT λtv=>Sim.ite (λhc=>?_) λ_=>.fail;have h1:FD (er tv)=true:=by have:=LJ (l:=[tv]) (by simp_all);simpa[erL]using this
  rw[oIP h1];exact ih.bind λl=>.ret rfl
theorem Qs(np:Nat)(l:Q_):Sim (Y:=Y) (X.resF fX np l) (resF np l) λx=>(erL x.1,x.2):=by
 have base:=Qr (Y:=Y) np l;cases l with
 |nil=>exact base|cons q r=>cases q with
  |cell t n=>exact base|tmp t=>
  refine Sim.rdT λtv=>?_;cases tv with
  |ptr p vs=>exact(iW p _ vs).bind λ_=>(Mi r).bind λl=>.ret (by simp[OS];rfl)|d ty y=>cases ty with|row o ty=>cases o<;>exact base|nilr o=>cases o<;>exact base|_=>exact base
  |_=>exact base
theorem Pg(t:XV den):(∃p vs,t=.ptr p vs)\/(X.isPtrX t=false/\∀p vs,er t≠.ptr p vs):=by
 cases t with
 |ptr p vs=>exact .inl ⟨p,vs,rfl⟩|d t y=>cases t with|row o t=>cases o<;>exact .inr ⟨rfl,by simp[er,er1]⟩|nilr o=>cases o<;>exact .inr ⟨rfl,by simp[er,er1]⟩|_=>exact .inr ⟨rfl,by simp[er,er1]⟩
 |gap t x i o=>exact .inr ⟨rfl,λp vs h=>by cases h⟩|half t x m=>exact .inr ⟨rfl,λp vs h=>by cases h⟩|_=>exact .inr ⟨rfl,by simp[er]⟩
theorem Rj{t:XV den}(h:X.isShX t=true):∃c,er t=.sl c:=by
 cases t with
 |d t y=>cases t with
  |row o t=>cases o with|false=>exact⟨_,rfl⟩|true=>cases h
  |nilr o=>cases o with|false=>exact⟨_,rfl⟩|true=>cases h
  |_=>cases h
 |_=>cases h
theorem Mz{pp:N_}:∀{l:List (XV den)}{i:Nat},X.ptrsInX pp i l=true->qO pp i (erL l)=true:=by intro l;induction l with|nil=>intro i _;rfl|cons t l ih=>intro i h;simp only[X.ptrsInX,oBA]at h;have ⟨⟨h0,hs⟩,hr⟩:=h;rcases Pg t with⟨p,vs,rfl⟩|⟨h1,h2⟩;show(pp.contains i&&qO pp (i+1) (erL l))=true;rw[ih hr,Bool.and_true];simpa[X.isPtrX]using h0;show qO pp i (er t::erL l)=true;rw[h1,Bool.false_or]at hs;cases hsh:X.isShX t with|true=>have ⟨c,hc⟩:=Rj hsh;rw[hc];exact ih hr|false=>rw[hsh,Bool.false_or]at hs;cases he:er t with|ptr p vs=>simp_all|sl c=>exact ih hr|_=>show(!pp.contains (1000+i)&&qO pp (i+1) (erL l))=true;rw[hs,ih hr];rfl
theorem JW(l:List (XV den)):∀i,(jm i l).map (λx=>(x.1,er x.2))=jm i (erL l):=by induction l with|nil=>intro i;rfl|cons t l ih=>intro i;simp[jm,erL,ih]
theorem TA(kq:p_)(vals:List (XV den))(pts:List (Nat×List (XV den))):erS (X.mkSt kq vals pts)=C6 kq (erL vals) (erC pts):=by unfold X.mkSt C6 erS;simp only[JW]
theorem QW(σ:XS den)(pts:List (Nat×List (XV den))):erC (X.ptsOf σ pts)=(erC pts).map λx=>(x.1,(gH (erS σ).ce x.1).getD []):=by induction pts with|nil=>rfl|cons x pts ih=>show(x.1,erL ((gH σ.ce x.1).getD []))::erC (X.ptsOf σ pts)=(x.1,(gH (erS σ).ce x.1).getD [])::_;rw[ih,zV];cases gH σ.ce x.1<;>rfl
theorem PE(a b:List (Nat×List (XV den))):erC (a++b)=erC a++erC b:=by unfold erC;rw[List.map_append]
theorem UY(pp:N_):erC (X.kpX (D:=den) pp)=kpE pp:=by unfold erC X.kpX kpE;rw[oPM];rfl
theorem UZ(kq:p_)(σ:XS den):erC (X.kcX kq σ)=kcE kq (erS σ):=by unfold erC X.kcX kcE;rw[oPM];refine List.map_congr_left λq _=>?_;show(q.1,erL (List.replicate (q.2+1) XV.dead))=_;rw[kZ,List.map_replicate];rfl
theorem Tj{F:iE}{C:X.Cfg}(YX:∀c∈C.TB,yK F c)(u:HL den []){N:Nat}(hN:NN<=N){tf:TFn}{outs:List XO}{vals:List (XV den)}{pts:List (Nat×List (XV den))}{o:EC (outs.map lvO)}(h:X.runT fX C u tf outs vals pts=some o):∃x,oK (outs.map lvO) o (λi ho=>pu outs i ho)=some x/\runT C.E F N tf (erL vals) (erC pts)=some (⟨erL x.1,x.2.1⟩,erC x.2.2):=by
 unfold X.runT at h;split at h;case isFalse=>cases h
 rename_i hc;obtain⟨e,σ1,r1,h1⟩:=Qq YX u hN tf.body 0 _ _ o h;have key:X.resF fX tf.np tf.res σ1 (λy σ'=>X.onOut fX (X.injO fX y.1 y.2 (X.ptsOf σ' pts++(X.kpX tf.pp++X.kcX (J5 tf.pp) σ')) u outs) λx=>fX.out (outs.map lvO) x.1 x.2)=some o ->∃x,oK (outs.map lvO) o (λi ho=>pu outs i ho)=some x/\(((resF tf.np tf.res).run (erS σ1)).bind λy=>some ((⟨y.1.1,y.1.2⟩:L0),((erC pts).map λx=>(x.1,(gH y.2.ce x.1).getD []))++(kpE tf.pp++kcE (J5 tf.pp) y.2)))=some (⟨erL x.1,x.2.1⟩,erC x.2.2):=by intro h2;obtain⟨y,σ2,r2,_,h3⟩:=Qs tf.np tf.res σ1 _ o h2;cases hi:X.injO fX y.1 y.2 (X.ptsOf σ2 pts++(X.kpX tf.pp++X.kcX (J5 tf.pp) σ2)) u outs with|none=>rw[hi]at h3;cases h3|some z=>rw[hi]at h3;obtain⟨i,ho⟩:=z;obtain⟨x,hf,e1,e2,e3⟩:=TM hi;refine⟨x,?_,?_⟩;rw[En _ (show zd (outs.map lvO) i ho=some o from h3)];exact hf;rw[r2];simp only[oBS];rw[e1,e2,e3,PE,PE,QW,UY,UZ]
 have ZY:(erL vals).length=tf.np/\(qO tf.pp 0 (erL vals)&&(!tf.pp.contains 1000||(erC pts).isEmpty))=true:=by have h2:=hc.2;rw[oBA]at h2;refine⟨by rw[iQ];exact hc.1,?_⟩;rw[Mz h2.1,Bool.true_and];have h3:=h2.2;cases pts with|nil=>simp[erC]|cons x pts=>simpa[erC]using h3
 unfold runT;rw[oIP ZY,<- TA,r1];simp only[oBS];cases e with|exit j=>cases h1|normal=>exact key h1|ret=>exact key h1
end
theorem RF{E:Env}{T:FuncId->y_}{B F:iE}{N:Nat}(hN:NN<=N){C:X.Cfg}(hE:C.E=E)(YX:∀c∈C.TB,yK F c){c:Ctr}{tf:TFn}(hT:T c.f=some tf) (hg:∀h,X.runT fX C () tf c.outs (lO c.ins _ h).1 (xS c.pts [] (lO c.ins _ h).2).1=c.g h):yK (Mb E T B F N) c:=by intro h o x ho hx;rw[Ma hT];rw[<- hg h]at ho;have ⟨x',h1,h2⟩:=Tj YX () hN ho;simp_all
def Lvl(E:Env)(T:FuncId->y_)(B:iE)(n:Nat)(c:Ctr):Prop:=∀k,n<=k->yK (runF E T B (NN+k)) c
def L4(E:Env)(T:FuncId->y_)(B:iE)(n:Nat):B_->Prop| []=>True|c::r=>Lvl E T B n c/\L4 E T B n r
theorem Lvl.mono{E:Env}{T:FuncId->y_}{B:iE}{n m:Nat}{c:Ctr}(h:Lvl E T B n c)(hm:n<=m):Lvl E T B m c:=λk hk=>h k (Nat.le_trans hm hk)
theorem L4.get{E:Env}{T:FuncId->y_}{B:iE}{n:Nat}:∀{l:B_},L4 E T B n l->∀c∈l,Lvl E T B n c:=by intro l;induction l with|nil=>simp_all|cons x l ih=>intro h c hc;rcases oMC.1 hc with rfl|hc;exact h.1;exact ih h.2 c hc
theorem VB{E:Env}{T:FuncId->y_}{B:iE}{n:Nat}{C:X.Cfg}(hE:C.E=E)(YX:L4 E T B n C.TB){c:Ctr}{tf:TFn}(hT:T c.f=some tf) (hg:∀h,X.runT fX C () tf c.outs (lO c.ins _ h).1 (xS c.pts [] (lO c.ins _ h).2).1=c.g h):Lvl E T B (n+1) c:=by intro k hk;obtain⟨k,rfl⟩:∃k',k=k'+1:=⟨k-1,by omega⟩;exact RF (F:=runF E T B (NN+k)) (Nat.le_add_right _ _) hE (λc hc=>YX.get c hc k (by omega)) hT hg
theorem Nh{P:Program}{H:Nat->a_}{f:FuncId}{tf:TFn}(h:zo P H f=some tf):∃fn,P.funcs[f]?=some fn/\tf.np<=fn.params.size+fn.nfree/\tf.nt=fn.ntmps:=by
 unfold zo at h;split at h;case h_2=>simp at h
 split at h;case h_2=>simp at h
 split at h;rename_i tf' Y4;have ⟨_,g2,g3,_⟩:=zY Y4;simp_all;simp only at h;split at h;injection h with h
 subst h;simp_all;simp at h
theorem SR{P:Program}(H:FuncId->Nat->a_)(ZJ:(P.funcs.all λfn=>decide (fn.params.size+fn.nfree<=fn.ntmps) && !(fn.name== "runtime.NumGoroutine"))=true):PZ P λf=>zo P (H f) f:=by refine Qd λf tf h=>?_;have ⟨fn,hf,e1,e2⟩:=Nh h;have ⟨hlt,he⟩:=Array.getElem?_eq_some_iff.1 hf;have:=Array.all_eq_true.1 ZJ f hlt;rw[he]at this;simp at this;refine⟨⟨H f,h⟩,by omega,λfn' hf'=>?_⟩;simp_all
def Wg:TFn:=⟨0,[],0,.skip,[]⟩
theorem VI{o:y_}(h:o.isSome=true):o=some (o.getD Wg):=by cases o with|none=>simp at h|some x=>rfl
def Wf(P:Program)(f:FuncId):List x_:=match P.funcs[f]? with
 |some fn=>fn.params.toList.map λt=>match P.underlying t with|some (.pointer e)=>EH P e|_=>none
 |none=>[]
def noB:iE:=λ_ _ _=>none
theorem noB_ok{P:Program}:nw P noB:=λf vals pts res Zt h=>by simp[noB]at h
abbrev I64:CT:=.int .i64
def w64(x:Int):Int:=IntKind.wrap .i64 x
def wk(k:IntKind)(x:Int):Int:=IntKind.wrap k x
def Br(s:ByteArray):Int:=(s.size:Int)
def Sk(s:ByteArray):Bool:=decide (s.size<4294967296)
def bytes(l:N_):ByteArray:=⟨(l.map UInt8.ofNat).toArray⟩
end Go.Proofs.YtabfnmgabblofaaGreat
namespace Go.Proofs.YtabfnmgabblofaaGreat
open Go.RowKit
set_option maxRecDepth 100000
noncomputable section
abbrev KCe:CT:=(.pair (.int .u8) (.int .u16))
abbrev KCn:CT:=(.pair (.int .u8) (.pair (.int .u16) (.pair I64 I64)))
abbrev KIn:CT:=(.pair I64 (.pair I64 (.pair I64 (.pair I64 I64))))
abbrev KOp:CT:=(.pair I64 (.pair I64 .bool))
abbrev Wd:CT:=(.pair I64 (.pair .bool (.row false KCe)))
abbrev nA:CT:=(.pair I64 (.pair (.row false KCe) (.pair I64 (.pair I64 (.pair I64 (.pair I64 (.pair I64 (.int .u16))))))))
abbrev Wx:CT:=(.pair I64 (.pair I64 (.row false KCn)))
abbrev vC:CT:=(.pair I64 (.pair I64 (.pair I64 (.pair I64 (.pair I64 (.pair I64 (.pair (.int .u16) (.row false KCn))))))))
abbrev qp:CT:=(.pair I64 (.pair I64 (.pair I64 (.pair I64 (.pair I64 (.pair I64 (.pair I64 (.pair I64 (.pair I64 (.pair (.row false KCn) (.pair (.row false KCn) (.pair (.int .u8) (.pair (.int .u16) (.pair I64 (.pair I64 (.pair (.row false KCn) (.pair I64 .bool)))))))))))))))))
abbrev R7:CT:=(.pair I64 (.pair .bool (.row true KCe)))
abbrev R6:CT:=(.pair I64 (.pair (.row true KCe) (.pair I64 (.pair I64 (.pair I64 (.pair I64 (.pair I64 (.int .u16))))))))
abbrev Jw:CT:=(.pair I64 (.pair I64 (.row true KCn)))
abbrev L3:CT:=(.pair I64 (.pair I64 (.pair I64 (.pair I64 (.pair I64 (.pair I64 (.pair (.int .u16) (.row true KCn))))))))
abbrev P2:CT:=(.pair I64 (.pair I64 (.pair I64 (.pair I64 (.pair I64 (.pair I64 (.pair I64 (.pair I64 (.pair I64 (.pair (.row true KCn) (.pair (.row true KCn) (.pair (.int .u8) (.pair (.int .u16) (.pair I64 (.pair I64 (.pair (.row true KCn) (.pair I64 .bool)))))))))))))))))
abbrev gR:CT:=(.row false KIn)
abbrev gp:CT:=(.row false KCn)
abbrev RW:CT:=(.row false (.int .u16))
abbrev RI:CT:=(.row false I64)
abbrev gS:CT:=(.row false KCe)
abbrev iu:CT:=(.row false Wd)
abbrev iz:CT:=(.row true R7)
abbrev lz:CT:=(.row false nA)
abbrev qk:CT:=(.row true R6)
abbrev jo:CT:=(.row false KOp)
abbrev lc:CT:=(.row false Wx)
abbrev Uk:CT:=(.row false qp)
abbrev DCe:Type:=(Int×Int)
abbrev DCn:Type:=(Int×Int×Int×Int)
abbrev DIn:Type:=(Int×Int×Int×Int×Int)
abbrev DOp:Type:=(Int×Int×Bool)
abbrev C_:=List DCe
abbrev DLn:Type:=(Int×Bool×C_)
abbrev DTh:Type:=(Int×C_×Int×Int×Int×Int×Int×Int)
abbrev D_:=List DCn
abbrev DOu:Type:=(Int×Int×D_)
abbrev DTs:Type:=(Int×Int×Int×Int×Int×Int×Int×D_)
abbrev DEn:Type:=(Int×Int×Int×Int×Int×Int×Int×Int×Int×D_×D_×Int×Int×Int×Int×D_×Int×Bool)
def HH(f i:Nat):a_:=if f=136 then(if i=1000011 then[(11,some 27)]else if i=1000005 then[(2,some 27)]else[])else if f=183 then(if i=1000006 then[(8,some 1)]else if i=1000014 then[(8,some 1)]else[])else if f=44 then(if i=5000001 then[(4004,none)]else[])else if f=68 then(if i=4000002 then[(3,some 1002)]else if i=4000007 then[(3,some 1003)]else[])else if f=137 then(if i=1000000 then[(8,some 1)]else[])else if f=106 then(if i=1000007 then[(17,some 1)]else[])else if f=4 then(if i=1 then[(10,some 1),(11,some 1)]else[])else if f=23 then(if i=6000000 then[(0,none)]else[])else if f=9 then(if i=1000020 then[(5,some 1)]else[])else if f=6 then(if i=3000006 then[(9,some 4)]else[])else if f=38 then(if i=0 then[(4,some 0),(4,some 2),(4,some 3)]else[])else if f=16 then(if i=1000012 then[(6,some 14),(13,some 1001011)]else if i=0 then[(8,some 4)]else if i=1000006 then[(11,none)]else[])else if f=122 then(if i=0 then[(8,none)]else[])else if f=92 then(if i=2 then[(3,some 1)]else if i=3 then[(3,some 0)]else[])else if f=129 then(if i=0 then[(8,some 0),(8,some 1),(8,some 2),(8,some 3),(8,some 4)]else[])else if f=93 then(if i=1000006 then[(5,some 1)]else if i=0 then[(6,some 0),(6,some 1),(6,some 2),(6,some 3),(6,some 5),(6,some 6)]else[])else if f=152 then(if i=2000067 then[(2,none),(4,none),(8,none),(11,none),(12,none),(0,some 10),(0,some 18),(0,some 24)]else if i=0 then[(8,some 0)]else[])else if f=134 then(if i=1000026 then[(2,some 1),(3,some 1)]else if i=1000012 then[(7,none)]else if i=0 then[(8,some 0)]else[])else if f=96 then(if i=6000000 then[(0,none)]else if i=1000011 then[(5,none)]else if i=1000014 then[(7,none)]else[])else if f=156 then(if i=3000008 then[(9,some 0),(9,some 1)]else if i=0 then[(6,some 0),(6,some 1)]else[])else if f=172 then(if i=0 then[(4,some 0),(4,some 1),(4,some 2),(4,some 3),(4,some 4),(4,some 5),(5,some 4)]else[])else if f=157 then(if i=0 then[(0,some 14),(0,some 15),(4,some 4)]else[])else if f=158 then(if i=4000002 then[(5,some 2004)]else if i=4000005 then[(5,some 2004)]else if i=0 then[(8,some 801004)]else if i=1000007 then[(17,none)]else[])else if f=159 then(if i=4000002 then[(0,some 2007)]else if i=3000002 then[(0,some 801007)]else if i=1000002 then[(9,none)]else[])else if f=160 then(if i=1000004 then[(4,some 2)]else if i=3 then[(6,some 0),(6,some 1)]else[])else if f=57 then(if i=1000006 then[(3,some 7)]else if i=4000009 then[(4,some 2007)]else if i=3000003 then[(4,some 801007)]else if i=1 then[(4,some 0),(4,some 1),(4,some 2),(4,some 3),(4,some 5),(4,some 6),(4,some 8),(4,some 9),(4,some 10),(4,some 11),(4,some 12),(4,some 13),(4,some 14),(4,some 15)]else[])else if f=13 then(if i=0 then[(6,some 0)]else[])else if f=24 then(if i=1000004 then[(3,some 7)]else if i=1000002 then[(3,some 1)]else if i=1000026 then[(4,some 1)]else if i=0 then[(3,some 801004),(3,some 2),(3,some 3)]else[])else if f=22 then(if i=0 then[(8,some 4)]else if i=1000007 then[(11,none)]else[])else[]
noncomputable def TT (f:FuncId):y_:=zo Tryz.prog (HH f) f
noncomputable def E0:Env:={ box:=λf=>if f=8 then some (1,[.arg 0,.val (.int .i64 0)])else none,ps:=λf=>Wf Tryz.prog f }
theorem tt_ok:PZ Tryz.prog TT:=SR HH (by kernel_rfl)
abbrev qE:Shs:=⟨[],[],[],([],[])⟩
abbrev qS(s:List (Nat×Sh))(c:List (Nat×T_)):Shs:=⟨s,c,[],([],[])⟩
abbrev N1:CT:=.nilr true
abbrev N0:CT:=.nilr false
abbrev CW:CT:=.int .u16
abbrev CB:CT:=.int .u8
abbrev uL(l:R_):T_:=l.map fun c=>.d c ()
abbrev pP(t r:Nat):Nat×Sh:=(t,.ptr ⟨r,0,[]⟩ [0])
abbrev sP(t:Nat)(c:CT):Nat×Sh:=(t,.d c ())
abbrev Lk(n:Nat)(c:Ctr):Prop:=Lvl E0 TT noB n c
theorem aN{m:Nat}:L4 E0 TT noB m []:=trivial
theorem aC{n m:Nat}{c:Ctr}{l:B_}(h:Lk n c)(r:L4 E0 TT noB m l)(hm:n≤m:=by decide):L4 E0 TT noB m (c::l):=⟨h.mono hm,r⟩
abbrev lx(i n:Nat)(s:List (Nat×Sh))(c:List (Nat×T_))(b:Nat):Jv:=⟨i,n,⟨s,c,[],([],[])⟩,[(.exit 0,⟨s++[(b,.d .bool ())],c,[],([],[])⟩)]⟩
abbrev LI:Type:=M_
abbrev j_:=List M_
abbrev LLI:Type:=j_
abbrev LDCe:Type:=C_
abbrev LDCn:Type:=D_
abbrev F_:=List DIn
abbrev LDIn:Type:=F_
abbrev H_:=List DOp
abbrev LDOp:Type:=H_
abbrev G_:=List DLn
abbrev LDLn:Type:=G_
abbrev J_:=List DTh
abbrev LDTh:Type:=J_
abbrev I_:=List DOu
abbrev LDOu:Type:=I_
abbrev K_:=List DTs
abbrev LDTs:Type:=K_
abbrev E_:=List DEn
abbrev LDEn:Type:=E_
abbrev i_:=List D_
abbrev LLCn:Type:=i_
abbrev T00:=Bool×LI×Unit
abbrev T01:=Int×Bool×Unit
abbrev T02:=Int×Int×Unit
abbrev T03:=Int×LDCn×Unit
abbrev T04:=Int×LI×Unit
abbrev T05:=LDCe×LDLn×Unit
abbrev T06:=LDOp×LDCn×Unit
abbrev T07:=LI×Int×Unit
abbrev T08:=LI×LLI×Unit
abbrev T09:=LLCn×LDOp×Unit
abbrev T0a:=LLCn×LDTs×Unit
abbrev T0b:=Unit×Unit×Unit
abbrev T0c:=Bool×T02
abbrev T0d:=Bool×T05
abbrev T0e:=Int×T01
abbrev T0f:=Int×T02
abbrev T0g:=Int×T05
abbrev T0h:=Int×T07
abbrev T0i:=Int×T0b
abbrev T0j:=LDCe×T02
abbrev T0k:=LDCe×LDLn×Nat×Unit
abbrev T0l:=LDCn×T02
abbrev T0m:=LDIn×T08
abbrev T0n:=LDTh×T02
abbrev T0o:=LI×T02
abbrev T0p:=LI×T04
abbrev T0q:=LI×LLI×LI×Unit
abbrev T0r:=Unit×T0b
abbrev T0s:=Bool×Bool×Bool×Bool×Unit
abbrev T0t:=Int×T0c
abbrev T0u:=Int×T0d
abbrev T0v:=Int×Bool×T07
abbrev T0w:=Int×T0f
abbrev T0x:=Int×T0g
abbrev T0y:=Int×T0h
abbrev T0z:=Int×Int×T09
abbrev T0A:=Int×T0p
abbrev T0B:=LDCe×T0e
abbrev T0C:=LDCe×LDLn×T05
abbrev T0D:=LDTh×Int×T04
abbrev T0E:=LI×T0e
abbrev T0F:=LI×T0f
abbrev T0G:=LI×T0h
abbrev T0H:=LI×T0o
abbrev T0I:=Unit×T0h
abbrev T0J:=Unit×Unit×T05
abbrev T0K:=Unit×Unit×T08
abbrev T0L:=Unit×Unit×T09
abbrev T0M:=Unit×Unit×Unit×LDOp×Unit
abbrev T0N:=Bool×T0w
abbrev T0O:=Bool×T0L
abbrev T0P:=Int×T0v
abbrev T0Q:=Int×Int×Bool×T09
abbrev T0R:=Int×T0w
abbrev T0S:=Int×Int×T0m
abbrev T0T:=Int×T0L
abbrev T0U:=LDCe×LDLn×LI×Int×LLCn×Unit
abbrev T0V:=LDIn×LI×LLI×T0a
abbrev T0W:=LDLn×T0x
abbrev T0X:=LI×T0y
abbrev T0Y:=LI×Int×LDCe×LDLn×LDTh×Unit
abbrev T0Z:=LLCn×T0z
abbrev T10:=Unit×Int×T0r
abbrev T11:=Unit×Unit×T0k
abbrev T12:=Unit×Unit×T0q
abbrev T13:=Unit×Unit×LLCn×T06
abbrev T14:=Bool×T0Y
abbrev T15:=Bool×T10
abbrev T16:=Int×Bool×T0K
abbrev T17:=Int×Int×Bool×T0m
abbrev T18:=Int×T0R
abbrev T19:=Int×Int×T0y
abbrev T1a:=Int×Int×T0K
abbrev T1b:=Int×T0T
abbrev T1c:=Int×T0Y
abbrev T1d:=LDCe×LDLn×LI×Int×LLCn×LDCn×Unit
abbrev T1e:=LDCe×LDLn×T0J
abbrev T1f:=LDIn×T0S
abbrev T1g:=LDLn×Int×T0u
abbrev T1h:=LI×T0P
abbrev T1i:=LI×Int×LDCe×LDLn×LDTh×Bool×Unit
abbrev T1j:=LI×T0X
abbrev T1k:=LI×LI×LLI×LLCn×LDOp×LDOu×Unit
abbrev T1l:=LI×LLI×T0K
abbrev T1m:=LLCn×LDOp×T0L
abbrev T1n:=LLI×T0S
abbrev T1o:=Unit×Unit×LLCn×Nat×T06
abbrev T1p:=Int×Int×Bool×T0C
abbrev T1q:=Int×T16
abbrev T1r:=Int×Int×T0O
abbrev T1s:=Int×T18
abbrev T1t:=Int×Int×Int×Int×LDCn×T01
abbrev T1u:=Int×Int×Int×Int×Unit×T01
abbrev T1v:=Int×T1a
abbrev T1w:=Int×Int×LI×Int×Int×LLI×LDCn×Unit
abbrev T1x:=Int×T1c
abbrev T1y:=Int×Int×T11
abbrev T1z:=Int×Int×T12
abbrev T1A:=Int×T1f
abbrev T1B:=Int×LI×Int×T0t
abbrev T1C:=LDIn×T17
abbrev T1D:=LI×Int×LDCe×LDLn×T0n
abbrev T1E:=LLI×T17
abbrev T1F:=LLI×T1b
abbrev T1G:=LLI×Int×Int×T0M
abbrev T1H:=Int×Int×Bool×T12
abbrev T1I:=Int×T1r
abbrev T1J:=Int×Int×Int×Int×Int×Int×LDCn×LDCn×Unit
abbrev T1K:=Int×Int×Int×Int×Int×Int×LDCn×Unit×Unit
abbrev T1L:=Int×Int×Int×Int×Int×T0i
abbrev T1M:=Int×T1z
abbrev T1N:=Int×Int×T1k
abbrev T1O:=Int×Int×T1l
abbrev T1P:=Int×Int×T1m
abbrev T1Q:=Int×LDCe×T18
abbrev T1R:=Int×T1C
abbrev T1S:=LDTh×T1x
abbrev T1T:=LI×Int×Unit×Unit×Unit×T0m
abbrev T1U:=LI×Int×Unit×Unit×T0K
abbrev T1V:=LLCn×Int×Int×T0V
abbrev T1W:=Int×Int×Bool×T1k
abbrev T1X:=Int×Int×Bool×T1l
abbrev T1Y:=Int×Int×Bool×T1m
abbrev T1Z:=Int×Int×T1s
abbrev T20:=Int×Int×Int×T1b
abbrev T21:=Int×Int×Int×Int×LDCn×T0v
abbrev T22:=Int×T1P
abbrev T23:=Int×LI×Int×Int×Bool×T0F
abbrev T24:=Int×T1T
abbrev T25:=LDIn×LI×LLI×LI×Int×T0J
abbrev T26:=LDLn×Int×Int×T1e
abbrev T27:=LDOu×T1N
abbrev T28:=LI×Int×Int×T1h
abbrev T29:=LI×Int×LI×Int×Int×T0F
abbrev T2a:=LI×LI×Int×Int×T0U
abbrev T2b:=LI×LLCn×Int×Int×LDCn×T0z
abbrev T2c:=LLCn×T1P
abbrev T2d:=LLI×T1N
abbrev T2e:=LLI×T1O
abbrev T2f:=Int×Bool×T1T
abbrev T2g:=Int×Int×Int×Int×Int×Bool×Bool×Bool×T00
abbrev T2h:=Int×Int×Int×Int×Int×Int×Int×Int×T03
abbrev T2i:=Int×Int×T1J
abbrev T2j:=Int×Int×T1Q
abbrev T2k:=Int×T24
abbrev T2l:=Int×Int×T1U
abbrev T2m:=LI×Int×Int×Int×Int×Int×T0I
abbrev T2n:=LI×Int×Int×LI×T19
abbrev T2o:=LI×Int×LDCe×LDLn×LDTh×T0Y
abbrev T2p:=LLI×T1X
abbrev T2q:=Unit×Int×Unit×Unit×Unit×T0Y
abbrev T2r:=Bool×T2o
abbrev T2s:=Int×Int×T25
abbrev T2t:=Int×Int×T2e
abbrev T2u:=Int×T2q
abbrev T2v:=LDCe×T2j
abbrev T2w:=LDCn×Nat×Int×Int×Int×T1o
abbrev T2x:=LI×Int×Bool×LI×T1s
abbrev T2y:=LI×Int×Int×LI×Int×Int×T0P
abbrev T2z:=LI×Int×Int×LI×Int×Int×T0X
abbrev T2A:=LLI×Int×Int×LI×Int×Int×T13
abbrev T2B:=ByteArray×LDCn×T2i
abbrev T2C:=Int×Int×Bool×T25
abbrev T2D:=Int×Int×T2g
abbrev T2E:=Int×Int×Int×Int×LDCn×Int×T15
abbrev T2F:=Int×Int×Int×Int×Nat×T1z
abbrev T2G:=Int×Int×T2o
abbrev T2H:=LDIn×LI×LLI×LI×Int×LDCe×LDLn×LDTh×Unit×Unit×T0a
abbrev T2I:=LI×Int×Int×T28
abbrev T2J:=LLI×T2s
abbrev T2K:=Int×Int×Bool×T2g
abbrev T2L:=LDIn×LI×LLI×LI×Int×LLCn×LDTs×Unit×Int×Unit×Unit×Unit×LLCn×Unit
abbrev T2M:=LI×Int×LDCe×LDLn×LDTh×T1Q
abbrev T2N:=LI×Int×LI×Int×Int×Int×Int×T1d
abbrev T2O:=Int×Int×LLI×Int×Int×LI×T1O
abbrev T2P:=Int×Int×Int×Int×Int×Int×LDCn×LDCn×T1t
abbrev T2Q:=Int×Int×T2L
abbrev T2R:=Int×Int×LDIn×LI×LLI×T2q
abbrev T2S:=LDIn×LI×LLI×LI×Int×LDCe×LDLn×LDTh×(List (Int×Int×Int×Int×LDCn×Int×Bool))×Unit
abbrev T2T:=LDTh×Int×Int×T2H
abbrev T2U:=LI×Int×LDCe×LDLn×LDTh×T2q
abbrev T2V:=Int×Int×Bool×T2L
abbrev T2W:=Int×LLI×Int×Int×LI×T2s
abbrev T2X:=LDIn×LI×LLI×T2M
abbrev T2Y:=LI×Int×Int×Int×Int×Int×Unit×Int×Bool×T1t
abbrev T2Z:=Nat×LI×Int×LDCe×LDLn×LDTh×Int×Int×Int×Int×Int×Int×LDCn×T0l
abbrev T30:=LDIn×LI×LLI×LI×Int×LLCn×LDTs×T2q
abbrev T31:=LDIn×LI×LLI×LI×Int×LLCn×LDTs×Unit×Int×Unit×Unit×Unit×LI×Int×LDCe×LDLn×Unit×Unit
abbrev T32:=Int×Int×Int×T2S
abbrev T33:=Int×Int×LDCn×T2Q
abbrev T34:=Int×Int×LI×Int×Int×Int×Int×Int×Int×Int×Int×Int×Int×Int×T0s
abbrev T35:=LDIn×LI×LLI×T2P
abbrev T36:=LDIn×LI×LLI×LI×Int×LDCe×LDLn×LDTh×LI×LI×LLI×LLCn×LDOp×LDOu×LI×LLI×LDEn×LI×Unit
abbrev T37:=LDTh×Int×Int×T2U
abbrev T38:=LI×Int×Int×Int×Int×Int×Int×Int×Unit×Unit×T1J
abbrev T39:=LI×Int×Int×Int×Int×Int×Int×Int×Unit×Unit×T1K
abbrev T3a:=Unit×Unit×Unit×Unit×Int×Unit×Unit×Unit×Unit×Unit×Unit×Unit×Unit×Unit×Unit×T0r
abbrev T3b:=Int×Int×Int×Int×Int×Int×LDCn×LDCn×Int×Int×Int×Int×LDCn×Int×T0N
abbrev T3c:=Int×Int×T31
abbrev T3d:=LDIn×LI×LLI×LI×Int×LDCe×LDLn×LDTh×LI×LI×LLI×LLCn×LDOp×LDOu×LI×LLI×LDEn×LI×LI×Unit
abbrev T3e:=LDTh×Int×Int×Bool×T2U
abbrev T3f:=Nat×Int×LI×Int×LDCe×LDLn×LDTh×LDIn×LI×LLI×T1Z
abbrev T3g:=Int×Bool×T36
abbrev T3h:=Int×ByteArray×Int×Int×T2X
abbrev T3i:=Int×Int×Bool×T31
abbrev T3j:=LDTs×Int×Int×T30
abbrev T3k:=LLCn×T3c
abbrev T3l:=Int×Int×Int×T36
abbrev T3m:=LI×Int×Int×T39
abbrev T3n:=Int×Bool×LDIn×LI×LLI×LI×Int×LDCe×LDLn×LDTh×T2E
abbrev T3o:=Int×Int×Int×T3d
abbrev T3p:=LDIn×LI×LLI×T3b
abbrev T3q:=LI×Int×LDCe×LDLn×T35
abbrev T3r:=LDIn×LI×LLI×LI×Int×LDCe×LDLn×LDTh×Int×Int×Int×Int×LDCn×Int×Bool×(List (Int×Int×Int×Int×LDCn×Int×Bool))×LI×Unit
abbrev T3s:=Int×LLCn×Int×Int×LDCn×T3c
abbrev T3t:=Bool×Bool×LI×Int×LDCe×LDLn×LDTh×T35
abbrev T3u:=LDCn×Int×Int×T3q
abbrev T3v:=LDIn×LI×LLI×LI×Int×LDCe×LDLn×LDTh×LI×LI×LLI×LLCn×LDOp×LDOu×LI×LLI×LDEn×LI×T1u
abbrev T3w:=LI×Int×LDCe×LDLn×LDTh×LDIn×LI×LLI×Int×Int×Int×Int×Int×Int×LDCn×LDCn×Int×Int×Int×Int×LDCn×T0t
abbrev T3x:=Nat×Bool×LI×Int×LDCe×LDLn×LDTh×T3b
abbrev T3y:=Nat×T3w
abbrev T3z:=Unit×Unit×Unit×Unit×Unit×Unit×Int×Int×Int×Int×Unit×Int×Bool×LI×LI×LLI×LLCn×LDOp×LDOu×T1t
abbrev T3A:=Unit×Unit×Unit×Unit×Unit×Unit×Int×Int×Int×Int×Unit×Int×Bool×LI×LI×LLI×LLCn×LDOp×LDOu×T1u
abbrev T3B:=Int×Int×T3v
abbrev T3C:=LI×Int×LDCe×LDLn×LDTh×T3p
abbrev T3D:=Int×Int×Int×Int×Int×T3r
abbrev T3E:=LDIn×LI×LLI×LI×Int×LDCe×LDLn×LDTh×Unit×Unit×LLCn×LDTs×Int×LDCe×Int×Int×Int×Int×T2h
abbrev T3F:=Int×Int×Int×Int×Int×Bool×T3r
abbrev T3G:=Nat×LDCn×Int×Int×T3C
abbrev T3H:=LI×Int×Unit×Unit×Unit×Unit×Int×Unit×Unit×Unit×LDIn×LI×LLI×LI×Int×LDCe×LDLn×LI×LI×LLI×LLCn×LDOp×LDOu×LI×LLI×LDEn×LI×T0Y
abbrev T3I:=Nat×LDCn×Int×Int×Bool×T3C
abbrev T3J:=LDIn×LI×LLI×LI×Int×LLCn×LDTs×Unit×Int×Unit×Unit×Unit×LI×Int×LDCe×LDLn×LDTh×Int×Int×Int×Int×Int×Int×Int×LDCn×T1Q
abbrev T3K:=LDTh×Int×Int×LDCe×Int×Int×T3E
abbrev T3L:=LI×Int×Unit×Unit×Unit×Unit×Int×Unit×Unit×Unit×LDIn×LI×LLI×LI×Int×LDCe×LDLn×LI×LI×LLI×LLCn×LDOp×LDOu×LI×LLI×LDEn×LI×LI×Int×LDCe×LDLn×LDTh×T0a
abbrev T3M:=LI×LI×LLI×LLCn×LDOp×LDOu×Int×Int×Int×Int×Int×Int×LDCn×LDCn×Unit×Unit×Unit×Unit×Unit×Unit×Int×Int×Int×Int×Unit×Int×Bool×LI×LI×LLI×LLCn×LDOp×LDOu×LI×Unit
abbrev T3N:=Int×Bool×LDIn×LI×LLI×LI×Int×LDCe×LDLn×LDTh×LI×LI×LLI×LLCn×LDOp×LDOu×LI×LLI×LDEn×LI×Int×Int×Int×Int×Int×Int×LDCn×LDCn×T1u
abbrev T3O:=Int×Int×T3L
abbrev T3P:=Unit×Unit×Unit×Unit×Int×Unit×Unit×Unit×Unit×Unit×Unit×Unit×Unit×Unit×Unit×Unit×Unit×Unit×T36
abbrev T3Q:=Unit×Unit×Unit×Unit×Int×Unit×Unit×Unit×Unit×Unit×Unit×Unit×Unit×Unit×Unit×Unit×Unit×Unit×LDIn×LI×LLI×LI×Int×LDCe×LDLn×LDTh×LI×LI×LLI×LLCn×LDOp×LDOu×LI×LLI×Unit×LI×Unit
abbrev T3R:=Int×Int×Bool×T3L
abbrev T3S:=Int×T3P
abbrev T3T:=Int×T3Q
abbrev T3U:=LDCn×Int×Int×T3M
abbrev T3V:=LDIn×LI×LLI×Unit×Int×Unit×Unit×Unit×Int×Int×Int×Int×Int×Int×Unit×Unit×LI×Int×LDCe×LDLn×LDTh×Int×LDCe×Int×Int×Int×Int×T2i
abbrev T3W:=LDIn×LI×LLI×Unit×Int×Unit×Unit×Unit×Int×Int×Int×Int×Int×Int×Unit×Unit×LI×Int×LDCe×LDLn×LDTh×Int×LDCe×Int×Int×Int×Int×Int×Int×T1K
abbrev T3X:=Bool×T3W
abbrev T3Y:=Int×T3S
abbrev T3Z:=LI×T3S
abbrev T40:=Int×Int×Int×T3O
abbrev T41:=Int×Int×T3V
abbrev T42:=Int×Int×T3W
abbrev T43:=Int×T3Z
abbrev T44:=LDTs×Int×Int×LDCn×Int×Int×T3J
abbrev T45:=Int×Int×Bool×T3V
abbrev T46:=LI×Int×Unit×Unit×Unit×Unit×Int×Unit×Unit×Unit×Int×Int×Int×Int×Int×Int×Unit×Unit×Int×Int×Int×Int×Unit×Int×Bool×LDIn×LI×LLI×LI×Int×LDCe×LDLn×LDTh×T1J
abbrev T47:=Int×T46
abbrev T48:=LI×Int×Unit×Unit×Unit×Unit×Int×Unit×Unit×Unit×Int×Int×Int×Int×Int×Int×Unit×Unit×Int×Int×Int×Int×Unit×Int×Bool×LDIn×LI×LLI×LI×Int×LDCe×LDLn×LDTh×T2P
abbrev T49:=Int×Int×T48
abbrev T4a:=Int×Bool×LI×Int×Unit×Unit×Unit×Unit×Int×Unit×Unit×Unit×Unit×Unit×Unit×Unit×Unit×Unit×Unit×Unit×Unit×Unit×LDIn×LI×LLI×LI×Int×LDCe×LDLn×LDTh×LI×LI×LLI×LLCn×LDOp×LDOu×LI×LLI×LDEn×LI×T36
abbrev T4b:=Int×Bool×LI×Int×Unit×Unit×Unit×Unit×Int×Unit×Unit×Unit×Unit×Unit×Unit×Unit×Unit×Unit×Unit×Unit×Unit×Unit×LDIn×LI×LLI×LI×Int×LDCe×LDLn×LDTh×LI×LI×LLI×LLCn×LDOp×LDOu×LI×LLI×LDEn×LI×T3a
noncomputable abbrev ap1{A0 D R:Type}(f:A0→R)(h:A0×D):R:=f h.1
noncomputable abbrev ap2{A0 A1 D R:Type}(f:A0→A1→R)(h:A0×A1×D):R:=f h.1 h.2.1
noncomputable abbrev ap3{A0 A1 A2 D R:Type}(f:A0→A1→A2→R)(h:A0×A1×A2×D):R:=f h.1 h.2.1 h.2.2.1
noncomputable abbrev ap4{A0 A1 A2 A3 D R:Type}(f:A0→A1→A2→A3→R)(h:A0×A1×A2×A3×D):R:=f h.1 h.2.1 h.2.2.1 h.2.2.2.1
noncomputable abbrev ap5{A0 A1 A2 A3 A4 D R:Type}(f:A0→A1→A2→A3→A4→R)(h:A0×A1×A2×A3×A4×D):R:=f h.1 h.2.1 h.2.2.1 h.2.2.2.1 h.2.2.2.2.1
noncomputable abbrev ap6{A0 A1 A2 A3 A4 A5 D R:Type}(f:A0→A1→A2→A3→A4→A5→R)(h:A0×A1×A2×A3×A4×A5×D):R:=f h.1 h.2.1 h.2.2.1 h.2.2.2.1 h.2.2.2.2.1 h.2.2.2.2.2.1
noncomputable abbrev as1{A X H R:Type}(g:X->H->R)(f:A->X)(h:A×H):R:=g (f h.1) h.2
noncomputable abbrev as2{A B X H R:Type}(g:X->H->R):(A->B->X)->A×B×H->R:=as1 (as1 g)
noncomputable abbrev as4{A B C D X H R:Type}(g:X->H->R):(A->B->C->D->X)->A×B×C×D×H->R:=as2 (as2 g)
noncomputable abbrev as8{A B C D E F G I X H R:Type}(g:X->H->R):(A->B->C->D->E->F->G->I->X)->A×B×C×D×E×F×G×I×H->R:=as4 (as4 g)
theorem ls{n:Nat}(C:X.Cfg)(hT:L4 E0 TT noB n C.TB){c:Ctr}(hE:C.E=E0:=by rfl)(h1:(TT c.f).isSome=true:=by kernel_rfl)(hg:∀h,X.runT fX C () ((TT c.f).getD Wg) c.outs (lO c.ins _ h).1 (xS c.pts [] (lO c.ins _ h).2).1=c.g h:=by intro h;kernel_rfl):Lk (n+1) c:=VB (n:=n) (C:=C) hE hT (VI h1) hg
abbrev Uaa(t:Nat):Nat×Sh:=sP t I64
abbrev Xaa(t:Nat):Nat×Sh:=sP t .bool
abbrev Zaa(t r:Nat):Nat×Sh:=(t,.pk ⟨r,0,[]⟩ [0,0])
abbrev uaa(t:CT):CT:=.row true t
abbrev yaa(t:CT):CT:=.row false t
abbrev zaa(t:Nat):Nat×Sh:=pP t (2*t+2)
abbrev uab:T_:=uL [gR,RI,(yaa RW)]
abbrev yab:T_:=uL [RI,I64]
abbrev zab:T_:=uL [.bool]
abbrev Uab:T_:=uL [RI,CW]
abbrev Xab:T_:=uL [CB,CW]
abbrev Zab:T_:=uL [N1,CW,N1,N1,N1]
abbrev uac:T_:=uL [RI,CW,gS,iu,lz]
abbrev yac:T_:=uL [N1,N1]
abbrev zac:T_:=uL [I64]
abbrev Uac:T_:=uL [I64,I64,I64,I64,I64,I64,gp,gp]
abbrev Xac:T_:=uL [CB,CW,I64,I64,gp,I64,.bool]
abbrev Zac:T_:=uL [RI,CW,(uaa KCe),iz,qk]
abbrev uad:T_:=uL [I64,I64]
abbrev yad:T_:=uL [gS,iu]
abbrev zad:T_:=uL [(uaa KCe),iz]
abbrev Uad:T_:=uL [I64,gS,I64,I64,I64,I64,I64,CW]
abbrev Xad:T_:=uL [N1,N1,N1]
abbrev Zad:T_:=uL [CB,CW,I64,I64,N1,I64,.bool]
abbrev uae:T_:=uL [gR,RI,(yaa RW),RI,CW,(uaa KCe),iz,(uaa nA),RW,RW,(yaa RW),(yaa gp),jo,lc,RI,(yaa RI),(uaa qp),(uaa I64)]
abbrev yae:T_:=uL [(yaa gp),jo]
abbrev zae:T_:=uL [I64,I64,I64,I64,I64,I64,N1,N1]
abbrev Uae:T_:=uL [I64,I64,I64,I64,I64]
abbrev Xae:T_:=uL [(uaa I64)]
abbrev Zae:T_:=uL [N1,N1,N1,N1,CW,N1,N1,N1,N1,N1,N1,N1,N1,N1,N1,N1,N1,N1]
abbrev uaf:T_:=uL [(yaa gp),(yaa vC)]
abbrev yaf:T_:=uL [(uaa I64),(uaa (uaa I64))]
abbrev zaf:T_:=uL [(uaa (uaa KCn)),(uaa KOp)]
abbrev Uaf:T_:=uL [I64,(uaa KCe),I64,I64,I64,I64,I64,CW]
abbrev Xaf:T_:=uL [RI,(yaa RI)]
abbrev Zaf:T_:=uL [RI,CW,gS,iu,(uaa nA)]
abbrev uag:T_:=uL [(uaa (uaa KCn)),(uaa L3)]
abbrev yag:T_:=uL [CB,CW,I64,I64]
abbrev zag:T_:=uL [I64,I64,I64,I64,I64,I64,(uaa KCn),(uaa KCn)]
abbrev Uag:T_:=uL [.bool,.bool,.bool,.bool]
abbrev Xag:T_:=uL [(uaa KCn)]
abbrev Zag:T_:=uL [RW,RW,(yaa RW),(yaa gp),jo,lc]
abbrev uah:T_:=uL [RI,CW,(uaa KCe),iz,(uaa nA)]
abbrev yah:T_:=uL [CB,CW,I64,I64,(uaa KCn),I64,.bool]
abbrev zah:T_:=uL [(uaa I64),CW,(uaa KCe),iz,qk]
abbrev Uah:T_:=uL [N1,N1,N1,N1,N1,N1]
abbrev Xah:T_:=uL [(uaa I64),CW,(uaa KCe),iz]
abbrev Zah:T_:=uL [gR,RI,(yaa RW),RI,CW,gS,iu,lz,RW,RW,(yaa RW),(yaa gp),jo,lc,RI,(yaa RI),Uk,RI]
abbrev uai:T_:=uL [(uaa gp)]
abbrev yai:T_:=uL [CB,CW,I64]
abbrev zai:T_:=uL [I64,I64,I64,I64,I64,I64,(uaa KCn),N1]
abbrev Uai:T_:=uL [gR,RI,(yaa RW),RI,CW,gS,iu,(uaa nA),RW,RW,(yaa RW),(yaa gp),jo,lc,RI,(yaa RI),(uaa qp),(uaa I64)]
abbrev Xai:T_:=uL [I64,I64,.bool]
abbrev Zai:T_:=uL [(uaa (uaa KCn))]
abbrev uaj:T_:=uL [(uaa KIn),RI,(uaa (uaa CW))]
abbrev yaj:T_:=uL [gR,RI,(uaa (uaa CW))]
abbrev zaj:T_:=uL [(uaa (uaa CW))]
abbrev Uaj:T_:=uL [RI,CW,(uaa KCe),iz,N1]
abbrev Xaj:T_:=uL [I64,I64,I64]
abbrev Zaj:T_:=uL [(uaa I64),CW]
abbrev uak:T_:=uL [(uaa Jw)]
abbrev yak:T_:=uL [(uaa CW),(uaa CW),(uaa (uaa CW)),(uaa (uaa KCn)),(uaa KOp),(uaa Jw)]
abbrev zak:T_:=uL [RI,CW,(uaa KCe),iz,qk,.bool]
abbrev Uak:T_:=uL [I64,I64,I64,I64,I64,I64,CW,gp]
abbrev Xak:T_:=uL [RI,CW,gS,iu,qk]
abbrev Zak:T_:=uL [(uaa I64),CW,(uaa KCe),iz,lz,.bool]
abbrev ual:T_:=uL [I64,I64,I64,I64,I64,I64,CW,(uaa KCn)]
abbrev yal:T_:=uL [(uaa (uaa KCn)),(uaa KOp),I64]
abbrev zal:T_:=uL [gR,RI,(yaa RW),RI,CW,gS,iu,lz,RW,RW,(yaa RW),(yaa gp),jo,lc,RI,(yaa RI),(uaa qp),(uaa I64)]
abbrev Ual:T_:=uL [(uaa (uaa KCn)),(uaa KOp),.bool]
abbrev Xal:T_:=uL [gR,RI,(yaa RW),RI,CW,(uaa KCe),iz,(uaa nA),RW,RW,(yaa RW),(yaa gp),jo,lc,RI,(yaa RI),(uaa qp)]
abbrev QA:=List (Nat×Sh)
abbrev QB:=List (Nat×T_)
abbrev QC:=T_
abbrev zl(l:N_):QA:=l.map zaa
abbrev il(l:N_):QA:=l.map Uaa
abbrev Zal:QC:=[shU gR,shU RI,shU (yaa RW),shU RI,shU CW,shU gS,shU iu,.dead,shU RW,shU RW,shU (yaa RW),shU (yaa gp),shU jo,shU lc,shU RI,shU (yaa RI),shU (uaa qp),shU (uaa I64)]
abbrev uam:QC:=[shU (uaa (.pair CB (.pair CW (.pair I64 (.pair I64 (.pair gp (.pair I64 .bool)))))))]
abbrev yam:QC:=[.gap (uaa KCn) () () 0,shU (uaa KOp)]
abbrev zam:QB:=[(4,uab)]
abbrev Uam:QB:=[(6,Uab)]
abbrev Xam:QB:=[(2,yab),(6,Xad),(8,Zab),(10,Zal),(12,Zaf),(14,uag)]
abbrev Zam:QB:=[(4,yad)]
abbrev uan:QB:=[(4,Zac)]
abbrev yan:QB:=[(14,yac),(18,zaf)]
abbrev zan:QB:=[(12,Uab),(18,Xab),(20,Xab),(22,Xab)]
abbrev Uan:QB:=[(8,Xaf),(14,yac),(18,yaf)]
abbrev Xan:QB:=[(10,uad)]
abbrev Zan:QB:=[(6,uab),(8,Uab),(10,yac),(14,zad)]
abbrev uao:QB:=[(2,yab),(6,Xad),(8,uaj)]
abbrev yao:QB:=[(8,uab),(10,Uab),(12,uaf),(14,Zab),(77,uai)]
abbrev zao:QB:=[(8,uab),(10,Uab),(12,uaf),(14,Zab),(26,Uaj)]
abbrev Uao:QB:=[(2,yab),(6,Xad),(8,Zab),(10,zae),(12,Zad),(14,uab),(16,Zaf),(18,zag),(22,yah)]
abbrev Xao:QB:=[(4,Uae),(8,Uag),(49,Xae)]
abbrev Zao:QB:=[(8,Uab),(14,uad)]
abbrev uap:QB:=[(2,yab),(14,Uae),(16,Uae),(18,Uag)]
abbrev yap:QB:=[(2,yab),(6,Xad),(8,yaj)]
abbrev zap:QB:=[(10,uab),(18,Zab),(20,zae),(24,uah),(30,Uad),(32,zai)]
abbrev Uap:QB:=[(10,uab),(18,Zab),(20,zae),(24,uah),(30,Uad),(32,zag)]
abbrev Xap:QB:=[(2,uae),(10,Zad)]
abbrev Zap:QB:=[(4,Zac),(10,uab),(14,Uac),(16,Xac),(22,Xab),(26,uad)]
abbrev uaq:QB:=[(10,yac),(14,yaf),(21,Xae)]
abbrev yaq:QB:=[(6,uab),(8,uaf)]
abbrev zaq:QB:=[(6,yad),(8,yad)]
abbrev Uaq:QB:=[(6,uac),(8,uac)]
abbrev Xaq:QB:=[(18,uab),(20,uac),(28,Xac),(83,uam),(103,Xae)]
abbrev Zaq:QB:=[(4,Xah),(10,uab),(14,Uac),(16,Xac)]
abbrev uar:QB:=[(8,yad),(10,Uab),(17,Zai),(23,Xag)]
abbrev yar:QB:=[(6,uab),(8,uac),(10,yac),(12,uag),(16,Uad),(18,ual)]
abbrev zar:QB:=[(6,yac),(10,zaf),(19,Xag)]
abbrev Uar:QB:=[(8,uab),(10,uac),(16,Uad)]
abbrev Xar:QB:=[(14,yac),(20,yam),(27,Xag)]
abbrev Zar:QB:=[(2,uae),(8,Uac),(10,Zad)]
abbrev uas:QB:=[(4,Zac),(10,uab),(14,Uac),(16,Xac),(22,Xab)]
abbrev yas:QB:=[(10,uab),(12,uac),(16,Xac),(18,Zab)]
abbrev zas:QB:=[(10,yac),(14,Xaf),(27,Xae)]
abbrev Uas:QB:=[(2,yab),(6,Zae),(10,Uai),(16,Zae)]
abbrev Xas:QB:=[(2,yab),(6,Zae),(10,Zah),(16,Zae)]
abbrev Zas:QB:=[(2,yab),(6,Zae),(10,Zah),(16,uae)]
abbrev uat:QB:=[(2,yab),(6,Zae),(10,Uai)]
abbrev yat:QB:=[(8,uab),(10,Uab),(12,uaf),(14,Zab),(26,Zac),(38,Uak),(40,Uaf)]
abbrev zat:QB:=[(8,uab),(10,Uab),(12,uaf),(14,Zab),(26,Zac)]
abbrev Uat:QB:=[(2,yab),(6,zae),(8,zai)]
abbrev Xat:QB:=[(2,yab),(6,zae),(8,zag)]
abbrev Zat:QB:=[(18,uab),(20,uac),(83,uam)]
abbrev uau:QA:=[Xaa 4]
abbrev yau:QA:=[Xaa 2]
abbrev zau:QA:=[Uaa 2]
abbrev Uau:QA:=zl [0,2,4]++[Uaa 6,zaa 7,Xaa 37]
abbrev Xau:QA:=[zaa 1,Xaa 8]
abbrev Zau:QA:=zl [0,2,3]
abbrev uav:QA:=zl [4,5,7,11]
abbrev yav:QA:=[zaa 6,Xaa 7]
abbrev zav:QA:=[zaa 4,Uaa 5]
abbrev Uav:QA:=[zaa 6,Uaa 7]
abbrev Xav:QA:=zaa 0::il [1,2]++zl [6,7,8]
abbrev Zav:QA:=zl [0,2,4]++[Uaa 6]
abbrev uaw:QA:=sP 0 RI::sP 5 RI::il [6,7]
abbrev yaw:QA:=sP 0 RI::sP 5 RI::il [6,7]++[Xaa 8]
abbrev zaw:QA:=zaa 1::Uaa 5::sP 49 gR::il [50,51]
abbrev Uaw:QA:=zl [0,2,3]++[Uaa 6]
abbrev Xaw:QA:=zl [0,2,3]++il [101,102]
abbrev Zaw:QA:=Zaa 3 9::sP 6 lz::il [7,8]
abbrev uax:QA:=sP 1 RI::Uaa 2::zl [5,8,9,10]++[Xaa 109]
abbrev yax:QA:=zl [4,8,9,11,14,15]++il [109,110]++[Xaa 111]
abbrev zax:QA:=sP 2 gp::zl [6,9]++(10,.ptr ⟨20,1,[((),(3,0))]⟩ [0,0])::Uaa 11::Zaa 12 27::il [57,58]
abbrev Uax:QA:=il [1,2]++zl [6,8]++il [9,62,63]
abbrev Xax:QA:=zl [1,4,6,7]++(9,.ptr ⟨4,4,[((),(8,0))]⟩ [0,0])::zl [10,12]++sP 80 gp::il [81,82]++[Xaa 83]
abbrev Zax:QA:=Uaa 2::zl [4,5,7,8]++[Xaa 38]
abbrev uay:QA:=Uaa 1::zl [4,6]++Uaa 7::Zaa 9 21::(20,.pk ⟨14,1,[]⟩ [0,0])::il [21,22]++(27,.pk ⟨14,1,[((),(1,0))]⟩ [0,0,0])::il [28,29]
abbrev yay:QA:=zaa 0::Uaa 1::(36,.pk ⟨2,17,[]⟩ [0,0])::il [37,38]
abbrev zay:QA:=zaa 4::il [7,8]++[zaa 9]
abbrev Uay:QA:=zl [0,2,3,4,5,6]++il [27,28]
abbrev Xay:QA:=zl [0,2,3,4,5,6]++il [8,48,49,58,59]
abbrev Zay:QA:=zl [0,2,3,4,5,6]++il [48,49]
abbrev uaz:QA:=zl [0,2,3,4,5]
abbrev yaz:QA:=zl [0,2,3]++sP 39 (yaa CB)::il [40,41]
abbrev zaz:QA:=zl [0,2,3,4,5,6,7,8,10]++(42,.pk ⟨18,6,[]⟩ [0,0])::il [43,44]
def oG:T0H->Option (T0H⊕((Bool×Unit)⊕(LI×T0E))):=λ(v0,v1,v2,v3,_)=>bif(decide (v3<v2))then((gk v3).bind λx0=>
(fU v1 x0).bind λx1=>bif(decide (x1<1))then(some (.inr (.inl (false,()))))else bif(decide (x1>32))then(some (.inr (.inl (false,()))))else let x2:=w64 (v3+1);some (.inl (v0,v1,v2,x2,())))else some (.inr (.inr (v0,v1,v2,v3,false,())))
abbrev f_:=Option (Bool×Unit)
def iV(a0:LI):f_:=let x0:=fZ a0.length;
(match gd oG NN (a0,a0,x0,0,())with
|none=>none
|some (.inl (x1,_))=>some (x1,())
|some (.inr (x1,_))=>let x6:=fZ x1.length;bif(decide (x6>=1))then(let x7:Int:=(fZ x1.length);some ((decide (x7<=4)),()))else some (false,()))
def Gf:X.Cfg:=⟨E0,[],[],[⟨3,0,qS uaw [],[(.ret,qS yau []),(.exit 0,qS yaw [])]⟩]⟩
def pC:Ctr:=⟨30,0,uL [RI],[],[⟨zab,[.one],[]⟩],ap1 iV⟩
theorem sB:Lk 1 pC:=ls Gf aN
def kT(a0:Int):Option (T0s):=
(bif(a0==1)then(some (a0,true,false,false,false,false,()))else bif(a0==15)then(some (a0,true,false,false,false,false,()))else bif(a0==19)then(some (a0,true,false,false,false,false,()))else bif(a0==20)then(some (a0,true,false,false,false,false,()))else some (a0,(a0==21),false,false,false,false,()):Option (Int×Bool×T0s)).bind λ(x0,x1,_)=>bif x1 then(some (true,false,false,true,()))else bif(x0==2)then(some (true,true,false,false,()))else bif(x0==16)then(some (true,true,false,true,()))else bif(x0==17)then(some (true,true,false,true,()))else bif(x0==18)then(some (false,false,false,true,()))else bif(x0==23)then(some (false,false,false,true,()))else bif(x0==22)then(some (true,false,false,false,()))else bif(x0==0)then(some (false,false,false,false,()))else bif(x0==24)then(some (false,false,false,false,()))else some (true,true,true,false,())
def IL:X.Cfg:=⟨E0,[],[],[⟨3,0,qE,[(.normal,qS [zaa 2,Uaa 3,Xaa 4] [(6,Uag)])]⟩]⟩
def uN:Ctr:=⟨108,1,zac,[],[⟨Uag,[.agg 4],[]⟩],ap1 kT⟩
theorem zO:Lk 1 uN:=ls IL aN
def iX(a0:Int):f_:=bif(a0==18)then(some (true,()))else bif(a0==19)then(some (true,()))else bif(a0==20)then(some (true,()))else some ((a0==21),())
def IM:X.Cfg:=⟨E0,[],[],[]⟩
def my:Ctr:=⟨77,2,zac,[],[⟨zab,[.one],[]⟩],ap1 iX⟩
theorem ou:Lk 1 my:=ls IM aN
def mb:T2D->Option (T2D⊕((Bool×Unit)⊕T2K)):=λ(v0,v1,v2,v3,v4,v5,v6,v7,v8,v9,eu,eE,_)=>bif(decide (v1<v0))then((gk v1).bind λx0=>
(fU eE x0).bind λ_=>
(fU eE x0).bind λx2=>
(bif(decide (x2<0))then(some (v0,v1,true,v2,v3,v4,v5,v6,v7,v8,v9,eu,eE,()))else bif(decide (x2>=8))then(some (v0,v1,true,v2,v3,v4,v5,v6,v7,v8,v9,eu,eE,()))else
(gk v1).bind λx3=>bif(Nat.beq x3 0)then(bif(!v7)then(some (v0,v1,(x2 != 0),v2,v3,v4,v5,v6,v7,v8,v9,eu,eE,()))else some (v0,v1,false,v2,v3,v4,v5,v6,v7,v8,v9,eu,eE,()))else bif(Nat.beq x3 1)then(bif(!v8)then(some (v0,v1,(x2 != 0),v2,v3,v4,v5,v6,v7,v8,v9,eu,eE,()))else some (v0,v1,false,v2,v3,v4,v5,v6,v7,v8,v9,eu,eE,()))else bif(Nat.beq x3 2)then(bif(!v9)then(some (v0,v1,(x2 != 0),v2,v3,v4,v5,v6,v7,v8,v9,eu,eE,()))else some (v0,v1,false,v2,v3,v4,v5,v6,v7,v8,v9,eu,eE,()))else bif(Nat.beq x3 3)then bif(!eu)then(some (v0,v1,(x2 != 0),v2,v3,v4,v5,v6,v7,v8,v9,eu,eE,()))else some (v0,v1,false,v2,v3,v4,v5,v6,v7,v8,v9,eu,eE,())else none:Option (T2K)).bind λ(x3,x4,x5,x6)=>bif x5 then(some (.inr (.inl (false,()))))else let aj:=w64 (x4+1);some (.inl (x3,aj,x6)))else some (.inr (.inr (v0,v1,false,v2,v3,v4,v5,v6,v7,v8,v9,eu,eE,())))
abbrev v_:=List (Int)
def oY(a0 a1 a2 a3 a4:Int):f_:=bif(decide (a0<0))then(some (false,()))else bif(decide (a0>24))then(some (false,()))else
(kT a0).bind λ(x0,x1,x2,x3,_)=>let x4:v_:=[a1,a2,a3];let x5:=fZ x4.length;
(match gd mb NN (x5,0,a0,a1,a2,a3,a4,x0,x1,x2,x3,x4,())with
|none=>none
|some (.inl (x6,_))=>some (x6,())
|some (.inr (_,_,_,x9,ac,ae,af,ag,_,_,_,ak,_,_))=>
(bif(decide (ag<0))then(some (true,x9,ac,ae,af,ag,()))else bif(decide (ag>65535))then(some (true,x9,ac,ae,af,ag,()))else bif(!ak)then(some ((ag != 0),x9,ac,ae,af,ag,()))else some (false,x9,ac,ae,af,ag,()):Option (Bool×T0R)).bind λ(an,ap,_,_,_,ay,_)=>bif an then(some (false,()))else
(iX ap).bind λ(az,_)=>bif az then(some ((decide (ay<64)),()))else bif(ap==15)then(some ((decide (ay<4)),()))else bif(ap==23)then(some ((decide (ay<=15)),()))else some (true,()))
def F7:X.Cfg:=⟨E0,[uN,my],[],[⟨12,0,qE,[(.normal,qS (zl [1,3]++Zaa 23 49::il [24,25]++[Xaa 45]) Xao)]⟩,⟨7,1,qS (zl [1,3]++Zaa 23 49::il [24,25]) Xao,[(.ret,qS yau []),(.exit 0,qS (zl [1,3]++Zaa 23 49::il [24,25]++[Xaa 26]) Xao)]⟩,⟨15,2,qE,[(.normal,qS [zaa 1,Xaa 64] [(4,Uae)])]⟩]⟩
def yo:Ctr:=⟨76,3,[.agg Uae],[],[⟨zab,[.one],[]⟩],ap5 oY⟩
theorem Fk:Lk 2 yo:=ls F7 (aC zO (aC ou aN))
def ma:T1n->Option (T1n⊕((Int×Unit)⊕T1E)):=λ(v0,v1,v2,v3,v4,v5,_)=>bif(decide (v2<v1))then((gk v2).bind λx0=>
(fU v0 x0).bind λx1=>let x2:=fZ x1.length;
(gk v2).bind λx3=>
(fU v4 x3).bind λx4=>bif(decide (x2>x4))then(some (.inr (.inl (1,()))))else let x5:=w64 (v2+1);some (.inl (v0,v1,x5,v3,v4,v5,())))else some (.inr (.inr (v0,v1,v2,false,v3,v4,v5,())))
def l9:T1f->Option (T1f⊕((Int×Unit)⊕T1C)):=λ(v0,v1,v2,v3)=>bif(decide (v2<v1))then((gk v2).bind λx0=>
(fU v0 x0).bind λx1=>
(oY x1.1 x1.2.1 x1.2.2.1 x1.2.2.2.1 x1.2.2.2.2).bind λ(x2,_)=>bif(!x2)then(some (.inr (.inl (5,()))))else let x3:=w64 (v2+1);some (.inl (v0,v1,x3,v3)))else some (.inr (.inr (v0,v1,v2,false,v3)))
def l8:T1f->Option (T1f⊕((Int×Unit)⊕T1C)):=λ(v0,v1,v2,v3,v4,v5,_)=>bif(decide (v2<v1))then((gk v2).bind λx0=>
(fU v0 x0).bind λx1=>
((iX x1.1).bind λ(x2,_)=>bif x2 then(let x3:Int:=(fZ v3.length);bif(decide (x1.2.2.2.2>=x3))then(some (v0,v1,v2,true,v3,v4,v5,()))else bif(x1.1==15)then(let x4:Int:=(fZ v4.length);some (v0,v1,v2,(decide (x1.2.2.2.2>=x4)),v3,v4,v5,()))else some (v0,v1,v2,false,v3,v4,v5,()))else bif(x1.1==15)then(let x3:Int:=(fZ v4.length);some (v0,v1,v2,(decide (x1.2.2.2.2>=x3)),v3,v4,v5,()))else some (v0,v1,v2,false,v3,v4,v5,()):Option (T1C)).bind λ(x2,x3,x4,x5,x6)=>bif x5 then(some (.inr (.inl (6,()))))else let x9:=w64 (x4+1);some (.inl (x2,x3,x9,x6)))else some (.inr (.inr (v0,v1,v2,false,v3,v4,v5,())))
abbrev h_:=Option (Int×Unit)
def lm(a0:LDIn)(a1:LI)(a2:LLI):h_:=
(iV a1).bind λ(x0,_)=>bif(!x0)then(some (1,()))else let x1:=fZ a2.length;let x2:=fZ a1.length;bif(x1 != x2)then(some (1,()))else let x3:=fZ a2.length;
(match gd ma NN (a2,x3,0,a0,a1,a2,())with
|none=>none
|some (.inl (x4,_))=>some (x4,())
|some (.inr (_,_,_,_,x8,x9))=>let ae:=fZ x8.length;bif(decide (ae<1))then(some (3,()))else let af:=fZ x8.length;bif(decide (af>64))then(some (3,()))else let ag:=fZ x8.length;
(match gd l9 NN (x8,ag,0,x8,x9)with
|none=>none
|some (.inl (ah,_))=>some (ah,())
|some (.inr (_,_,_,_,am,an))=>let aq:=fZ am.length;
(match gd l8 NN (am,aq,0,am,an)with
|none=>none
|some (.inl (av,_))=>some (av,())
|some (.inr (_,_))=>some (0,()))))
def F6:X.Cfg:=⟨E0,[pC,yo,my],[],[⟨6,0,qS (zaa 1::sP 23 (yaa RW)::il [24,25]) zam,[(.ret,qS zau []),(.exit 0,qS [zaa 1,sP 23 (yaa RW),Uaa 24,Uaa 25,Xaa 26] zam)]⟩,⟨18,1,qS (zaa 1::sP 50 gR::il [51,52]) zam,[(.ret,qS zau []),(.exit 2,qS [zaa 1,sP 50 gR,Uaa 51,Uaa 52,Xaa 53] zam)]⟩,⟨32,2,qE,[(.normal,qS [zaa 1,sP 61 gR,Uaa 62,Uaa 63,Xaa 90] zam)]⟩,⟨27,3,qS (zaa 1::sP 61 gR::il [62,63]) zam,[(.ret,qS zau []),(.exit 4,qS [zaa 1,sP 61 gR,Uaa 62,Uaa 63,Xaa 64] zam)]⟩]⟩
def pA:Ctr:=⟨45,4,[.agg uab],[],[⟨zac,[.one],[]⟩],ap3 lm⟩
theorem sy:Lk 3 pA:=ls F6 (aC sB (aC Fk (aC ou aN)))
def me:T2z->Option (T2z⊕((Bool×Unit)⊕T2I)):=λ(v0,v1,v2,v3,v4,v5,v6,v7,v8,v9)=>bif(decide (v8<v7))then((match((gk v8).bind λx0=>
(fU v6 x0).bind λx1=>
(gk v1).bind λx2=>
(fU v0 x2).bind λx3=>let x4:=w64 (v2+x3);bif(decide (x4>=x1))then((gk v8).bind λx5=>
(fU v0 x5).bind λx6=>let x7:=w64 (x1+x6);bif(decide (x7>=v2))then(some (.inl (false,())))else some (.inr (v0,v1,v2,v3,v4,v5,v6,v7,v8,false,v9)))else some (.inr (v0,v1,v2,v3,v4,v5,v6,v7,v8,false,v9)):Option ((Bool×Unit)⊕T2I))with
|none=>none
|some (.inl (x0,_))=>some (.inr (.inl (x0,())))
|some (.inr (x0,x1,x2,x3,x4,x5,x6,x7,x8,_,ac))=>let af:=w64 (x8+1);some (.inl (x0,x1,x2,x3,x4,x5,x6,x7,af,ac))))else some (.inr (.inr (v0,v1,v2,v3,v4,v5,v6,v7,v8,false,v9)))
def md:T1j->Option (T1j⊕((Bool×Unit)⊕(LI×T1h))):=λ(v0,v1,v2,v3,v4,v5,_)=>bif(decide (v3<v2))then((gk v3).bind λx0=>
(fU v1 x0).bind λx1=>bif(decide (x1<0))then(some (.inr (.inl (false,()))))else
(gk v3).bind λx2=>
(fU v0 x2).bind λx3=>let x4:=w64 (512-x3);bif(decide (x1>x4))then(some (.inr (.inl (false,()))))else
(gk v3).bind λx5=>bif(jl 0 x5 v4.length)then let x6:v_:=(oM v4 0 (Nat.sub x5 0));let x7:=fZ x6.length;
(match gd me NN (v0,v3,x1,v1,v2,v3,x6,x7,0,v4,v5,())with
|none=>none
|some (.inl (x8,_))=>some (.inr (.inl (x8,())))
|some (.inr (x8,_,_,ae,af,ag,_,_,_,_,am))=>let ap:=w64 (ag+1);some (.inl (x8,ae,af,ap,am)))else none)else some (.inr (.inr (v0,v1,v2,v3,false,v4,v5,())))
def jT(a0:LI)(a1:Int)(a2:LI):f_:=
(iV a2).bind λ(x0,_)=>bif(!x0)then(some (false,()))else let x1:=fZ a0.length;let x2:=fZ a2.length;bif(x1 != x2)then(some (false,()))else let x3:=fZ a0.length;
(match gd md NN (a2,a0,x3,0,a0,a1,())with
|none=>none
|some (.inl (x4,_))=>some (x4,())
|some (.inr (_,_))=>some (true,()))
def Gd:X.Cfg:=⟨E0,[pC],[],[⟨18,0,qE,[(.ret,qS uau []),(.normal,qS [sP 1 RI,zaa 2,Uaa 5,Uaa 6,sP 21 RI,Uaa 22,Uaa 23,sP 42 RI,Uaa 43,Uaa 44,Xaa 66] Uam)]⟩,⟨15,1,qS (sP 1 RI::zaa 2::il [5,6]++sP 21 RI::il [22,23]++sP 42 RI::il [43,44]) Uam,[(.ret,qS uau []),(.exit 2,qS [sP 1 RI,zaa 2,Uaa 5,Uaa 6,sP 21 RI,Uaa 22,Uaa 23,sP 42 RI,Uaa 43,Uaa 44,Xaa 45] Uam)]⟩,⟨6,2,qS [sP 1 RI,zaa 2,sP 21 RI,Uaa 22,Uaa 23] Uam,[(.ret,qS uau []),(.exit 0,qS [sP 1 RI,zaa 2,sP 21 RI,Uaa 22,Uaa 23,Xaa 24] Uam)]⟩]⟩
def nv:Ctr:=⟨33,5,[.agg Uab,shU RI],[],[⟨zab,[.one],[]⟩],ap3 jT⟩
theorem pm:Lk 2 nv:=ls Gd (aC sB aN)
def AF:Int×Int×LDLn×Unit->Option ((Int×Int×LDLn×Unit)⊕(Int×Int×Bool×LDLn×Unit)):=λ(v0,v1,v2,_)=>bif(decide (v1<v0))then((gk v1).bind λx0=>
(fU v2 x0).bind λ_=>
(fU v2 x0).bind λ_=>let x3:=v2.modify x0 λe=>((-1),e.2);let x4:=w64 (v1+1);some (.inl (v0,x4,x3,())))else some (.inr (v0,v1,false,v2,()))
def o4:Option (LDLn×Unit):=bif(xA 4 4 3)then let x0:LDLn:=(List.replicate 4 (0,(false,[])));let x1:=fZ x0.length;
(gd AF NN (x1,0,x0,())).bind λ(_,_,_,x5,_)=>some (x5,())else none
def Gb:X.Cfg:=⟨E0,[],[(3,R7)],[(lx 4 0 (Zaa 1 5::il [5,6]) [(5,uL [iz])] 7)]⟩
def sR:Ctr:=⟨36,6,[],[],[⟨uL [iz],[.one],[]⟩],λh=>o4⟩
theorem xL:Lk 1 sR:=ls Gb aN
def tW:T2W->Option (T2W⊕(Int×LLI×Int×Int×LI×T2C)):=λ(v0,v1,v2,v3,v4,v5,v6,v7,v8,v9,eu,eE,eG,eI,eK,eO,_)=>bif(decide (v6<v5))then((gk v6).bind λx0=>
(fU v4 x0).bind λx1=>
(gk v0).bind λx2=>
(fU eu x2).bind λx3=>let x4:=w64 (x3+v6);
(gk x4).bind λx5=>
(fU eK x5).bind λ_=>
(fU eK x5).bind λ_=>let x8:=eK.modify x5 λe=>(e.1,x1);let x9:=w64 (v6+1);some (.inl (v0,v1,v2,v3,v4,v5,x9,v7,v8,v9,eu,eE,eG,eI,x8,eO,())))else some (.inr (v0,v1,v2,v3,v4,v5,v6,false,v7,v8,v9,eu,eE,eG,eI,eK,eO,()))
def pU:T2J->Option (T2J⊕(T0i⊕(LLI×T2C))):=λ(v0,v1,v2,v3,v4,v5)=>bif(decide (v2<v1))then((gk v2).bind λx0=>
(fU v0 x0).bind λx1=>let x2:=fZ x1.length;
(gk v2).bind λx3=>
(fU v4 x3).bind λx4=>bif(decide (x2>x4))then(some (.inr (.inl (1,(),(),()))))else let x5:=fZ x1.length;
(gd tW NN (v2,v0,v1,v2,x1,x5,0,v3,v4,v5)).bind λ(_,x7,x8,x9,_,_,_,_,ah)=>let ax:=w64 (x9+1);some (.inl (x7,x8,ax,ah)))else some (.inr (.inr (v0,v1,v2,false,v3,v4,v5)))
def qF(a0:LDIn)(a1:LI)(a2:LLI)(a3:LI)(a4:Int):Option (LDCe×LDLn×Int×Unit):=
(jT a3 a4 a1).bind λ(x0,_)=>bif(!x0)then(some ([],[],1,()))else let x1:=fZ a2.length;let x2:=fZ a1.length;bif(x1 != x2)then(some ([],[],1,()))else bif(xA 512 512 2)then let x3:LDCe:=(List.replicate 512 (0,0));
(o4).bind λ(x4,_)=>let x5:=fZ a2.length;
(match gd pU NN (a2,x5,0,a0,a1,a2,a3,a4,(),(),x3,x4,())with
|none=>none
|some (.inl (x6,_,_,_))=>some ([],[],x6,())
|some (.inr (_,_,_,_,_,_,_,_,_,_,_,ak,am,_))=>some (ak,am,0,()))else none
def IR:X.Cfg:=⟨E0,[nv,sR],[],[⟨16,0,qS (zl [2,3,4,6]++Uaa 7::sP 30 (yaa RW)::il [31,32]++sP 46 RW::il [47,48]) Zan,[(.exit 2,qS (zl [2,3,4,6]++Uaa 7::sP 30 (yaa RW)::il [31,32]++sP 46 RW::il [47,48]++[Xaa 49]) Zan)]⟩,⟨7,1,qS (zl [2,3,4,6]++sP 30 (yaa RW)::il [31,32]) Zan,[(.ret,qS zav [(10,yac)]),(.exit 0,qS (zl [2,3,4,6]++sP 30 (yaa RW)::il [31,32]++[Xaa 33]) Zan)]⟩]⟩
def Ar:Ctr:=⟨64,7,[.agg uab,.agg Uab],[],[⟨uL [(uaa KCe),iz,I64],[.agg 2,.one],[]⟩],ap5 qF⟩
theorem H7:Lk 3 Ar:=ls IR (aC pm (aC xL aN))
def tn:T2u->Option (T2u⊕(Int×Bool×T2q)):=λ(v0,v1,v2,v3,v4,v5,v6,v7,v8,v9,eu,_)=>bif(decide (v0<4))then(bif(xA 8 8 2)then let x0:LDCe:=(List.replicate 8 (0,0));
(bif(v0==0)then(some (v0,v1,v2,v3,v4,v5,v6,v7,v8,v9,eu,1,x0,0,0,(-1),(-1),0,0,()))else some (v0,v1,v2,v3,v4,v5,v6,v7,v8,v9,eu,0,x0,0,0,(-1),(-1),0,0,()):Option (Int×Unit×Int×Unit×Unit×Unit×T2M)).bind λ(x1,x2,x3,x4,x5,x6,x7,x8,x9,ac,ae,af,ag,ah,ai,aj,ak,am,an,_)=>let ap:LDTh:=[(af,(ag,(ah,(ai,(aj,(ak,(am,an)))))))];bif(gl 80 ae.length ap.length)then let aq:LDTh:=(List.append ae ap);let av:=w64 (x1+1);some (.inl (av,x2,x3,x4,x5,x6,x7,x8,x9,ac,aq,()))else none else none)else some (.inr (v0,false,v1,v2,v3,v4,v5,v6,v7,v8,v9,eu,()))
def mR(a0:LDIn)(a1:LI)(a2:LLI)(a3:LI)(a4:Int):Option (LI×Int×LDCe×LDLn×LDTh×Int×Unit):=
(lm a0 a1 a2).bind λ(x0,_)=>bif(x0 != 0)then(some ([],0,[],[],[],x0,()))else
(jT a3 a4 a1).bind λ(x1,_)=>bif(!x1)then(some ([],0,[],[],[],1,()))else
(qF a0 a1 a2 a3 a4).bind λ(x2,x3,_,_)=>bif(gl 8 0 a3.length)then let x5:v_:=(List.append [] a3);
(gd tn NN (0,(),0,(),(),(),x5,a4,x2,x3,[],())).bind λ(_,_,_,_,_,_,_,ag,ah,ai,aj,ak,_)=>some (ag,ah,ai,aj,ak,0,())else none
def F5:X.Cfg:=⟨E0,[pA,nv,Ar],[(49,R6),(50,R6)],[⟨18,0,qE,[(.normal,qS (zl [4,9,11]++[Uaa 38]) [(10,Zab),(20,Xak),(24,Uaf)])]⟩,(lx 12 1 [zaa 4,zaa 9,Uaa 38] [(10,Zab),(20,Xak)] 39)]⟩
def sN:Ctr:=⟨38,8,[.agg uab,.agg Uab],[],[⟨uL [RI,CW,gS,iu,qk,I64],[.agg 5,.one],[]⟩],ap5 mR⟩
theorem xI:Lk 4 sN:=ls F5 (aC sy (aC pm (aC H7 aN)))
def yO:T0H->Option (T0H⊕((Bool×Unit)⊕(LI×T0E))):=λ(v0,v1,v2,v3,_)=>bif(decide (v3<v2))then((gk v3).bind λx0=>
(fU v1 x0).bind λx1=>bif(decide (x1<1))then(some (.inr (.inl (false,()))))else bif(decide (x1>32))then(some (.inr (.inl (false,()))))else let x2:=w64 (v3+1);some (.inl (v0,v1,v2,x2,())))else some (.inr (.inr (v0,v1,v2,v3,false,())))
def lG(a0:LI):f_:=let x0:=fZ a0.length;
(match gd yO NN (a0,a0,x0,0,())with
|none=>none
|some (.inl (x1,_))=>some (x1,())
|some (.inr (x1,_))=>let x6:=fZ x1.length;bif(decide (x6>=1))then(let x7:Int:=(fZ x1.length);some ((decide (x7<=4)),()))else some (false,()))
def Dv:X.Cfg:=⟨E0,[],[],[⟨3,0,qS uaw [],[(.ret,qS yau []),(.exit 0,qS yaw [])]⟩]⟩
def ro:Ctr:=⟨110,9,uL [RI],[],[⟨zab,[.one],[]⟩],ap1 lG⟩
theorem vQ:Lk 1 ro:=ls Dv aN
def ra(a0:Int):Option (T0s):=
(bif(a0==1)then(some (a0,true,false,false,false,false,()))else bif(a0==15)then(some (a0,true,false,false,false,false,()))else bif(a0==19)then(some (a0,true,false,false,false,false,()))else bif(a0==20)then(some (a0,true,false,false,false,false,()))else some (a0,(a0==21),false,false,false,false,()):Option (Int×Bool×T0s)).bind λ(x0,x1,_)=>bif x1 then(some (true,false,false,true,()))else bif(x0==2)then(some (true,true,false,false,()))else bif(x0==16)then(some (true,true,false,true,()))else bif(x0==17)then(some (true,true,false,true,()))else bif(x0==18)then(some (false,false,false,true,()))else bif(x0==23)then(some (false,false,false,true,()))else bif(x0==22)then(some (true,false,false,false,()))else bif(x0==0)then(some (false,false,false,false,()))else bif(x0==24)then(some (false,false,false,false,()))else some (true,true,true,false,())
def DL:X.Cfg:=⟨E0,[],[],[⟨3,0,qE,[(.normal,qS [zaa 2,Uaa 3,Xaa 4] [(6,Uag)])]⟩]⟩
def wu:Ctr:=⟨161,10,zac,[],[⟨Uag,[.agg 4],[]⟩],ap1 ra⟩
theorem Dk:Lk 1 wu:=ls DL aN
def i6(a0:Bool)(a1 a2:Int):f_:=bif(a1==0)then(some (true,()))else bif a0 then(bif(decide (a1>0))then(some ((decide (a1<=a2)),()))else some (false,()))else some (false,())
def Ck:X.Cfg:=⟨E0,[],[],[]⟩
def uV:Ctr:=⟨162,11,uL [.bool,I64,I64],[],[⟨zab,[.one],[]⟩],ap3 i6⟩
theorem BZ:Lk 1 uV:=ls Ck aN
def m9(a0:Int):f_:=bif(a0==18)then(some (true,()))else bif(a0==19)then(some (true,()))else bif(a0==20)then(some (true,()))else some ((a0==21),())
def Gs:X.Cfg:=⟨E0,[],[],[]⟩
def sU:Ctr:=⟨140,12,zac,[],[⟨zab,[.one],[]⟩],ap1 m9⟩
theorem xN:Lk 1 sU:=ls Gs aN
def qJ(a0:Int):h_:=
(m9 a0).bind λ(x0,_)=>bif x0 then(some (63,()))else bif(a0==15)then(some (3,()))else bif(a0==23)then(some (15,()))else some (65535,())
def IY:X.Cfg:=⟨E0,[sU],[],[]⟩
def Aw:Ctr:=⟨163,13,zac,[],[⟨zac,[.one],[]⟩],ap1 qJ⟩
theorem Ic:Lk 2 Aw:=ls IY (aC xN aN)
def o9(a0 a1 a2 a3 a4:Int):f_:=bif(decide (a0<0))then(some (false,()))else bif(decide (a0>24))then(some (false,()))else
(ra a0).bind λ(x0,x1,x2,x3,_)=>
(i6 x0 a1 7).bind λ(x4,_)=>bif x4 then((i6 x1 a2 7).bind λ(x5,_)=>bif x5 then((i6 x2 a3 7).bind λ(x6,_)=>bif x6 then((qJ a0).bind λ(x7,_)=>
(i6 x3 a4 x7).bind λ(x8,_)=>some (x8,()))else some (false,()))else some (false,()))else some (false,())
def Gr:X.Cfg:=⟨E0,[wu,uV,Aw],[],[]⟩
def yz:Ctr:=⟨139,14,[.agg Uae],[],[⟨zab,[.one],[]⟩],ap5 o9⟩
theorem Fu:Lk 3 yz:=ls Gr (aC Dk (aC BZ (aC Ic aN)))
def mh:T1n->Option (T1n⊕((Int×Unit)⊕T1E)):=λ(v0,v1,v2,v3,v4,v5,_)=>bif(decide (v2<v1))then((gk v2).bind λx0=>
(fU v0 x0).bind λx1=>let x2:=fZ x1.length;
(gk v2).bind λx3=>
(fU v4 x3).bind λx4=>bif(decide (x2>x4))then(some (.inr (.inl (1,()))))else let x5:=w64 (v2+1);some (.inl (v0,v1,x5,v3,v4,v5,())))else some (.inr (.inr (v0,v1,v2,false,v3,v4,v5,())))
def mg:T1A->Option (T1A⊕((Int×Unit)⊕T1R)):=λ(v0,v1,v2,v3,v4,v5,v6,_)=>bif(decide (v3<v2))then((match((gk v3).bind λx0=>
(fU v1 x0).bind λx1=>
(o9 x1.1 x1.2.1 x1.2.2.1 x1.2.2.2.1 x1.2.2.2.2).bind λ(x2,_)=>bif(!x2)then(some (.inl (5,())))else
((m9 x1.1).bind λ(x3,_)=>bif x3 then(let x4:Int:=(fZ v4.length);bif(decide (x1.2.2.2.2>=x4))then(some (v0,v1,v2,v3,true,v4,v5,v6,()))else bif(x1.1==15)then(let x5:Int:=(fZ v5.length);some (v0,v1,v2,v3,(decide (x1.2.2.2.2>=x5)),v4,v5,v6,()))else some (v0,v1,v2,v3,false,v4,v5,v6,()))else bif(x1.1==15)then(let x4:Int:=(fZ v5.length);some (v0,v1,v2,v3,(decide (x1.2.2.2.2>=x4)),v4,v5,v6,()))else some (v0,v1,v2,v3,false,v4,v5,v6,()):Option (T1R)).bind λ(x3,x4,x5,x6,x7,x8)=>bif x7 then(some (.inr (6,x4,x5,x6,x8)))else some (.inr (x3,x4,x5,x6,x8)):Option ((Int×Unit)⊕T1A))with
|none=>none
|some (.inl (x0,_))=>some (.inr (.inl (x0,())))
|some (.inr (x0,x1,x2,x3,x4,x5,x6,_))=>let x7:=w64 (x3+1);some (.inl (x0,x1,x2,x7,x4,x5,x6,()))))else some (.inr (.inr (v0,v1,v2,v3,false,v4,v5,v6,())))
def sg(a0:LDIn)(a1:LI)(a2:LLI):h_:=
(lG a1).bind λ(x0,_)=>bif(!x0)then(some (1,()))else let x1:=fZ a2.length;let x2:=fZ a1.length;bif(x1 != x2)then(some (1,()))else let x3:=fZ a2.length;
(match gd mh NN (a2,x3,0,a0,a1,a2,())with
|none=>none
|some (.inl (x4,_))=>some (x4,())
|some (.inr (_,_,_,_,x8,x9))=>let ae:=fZ x8.length;bif(ae==0)then(some (3,()))else let af:=fZ x8.length;bif(decide (af>64))then(some (3,()))else let ag:=fZ x8.length;
(match gd mg NN (0,x8,ag,0,x8,x9)with
|none=>none
|some (.inl (ah,_))=>some (ah,())
|some (.inr (ah,_))=>some (ah,())))
def Gw:X.Cfg:=⟨E0,[ro,yz,sU],[],[⟨6,0,qS (zaa 1::sP 22 (yaa RW)::il [23,24]) zam,[(.ret,qS zau []),(.exit 0,qS [zaa 1,sP 22 (yaa RW),Uaa 23,Uaa 24,Xaa 25] zam)]⟩,⟨27,1,qE,[(.normal,qS [zaa 1,Uaa 5,sP 49 gR,Uaa 50,Uaa 51,Xaa 81] zam)]⟩,⟨22,2,qE,[(.ret,qS zau []),(.normal,qS zaw zam)]⟩,⟨19,3,qS zaw zam,[(.ret,qS zau []),(.exit 2,qS [zaa 1,Uaa 5,sP 49 gR,Uaa 50,Uaa 51,Xaa 52] zam)]⟩]⟩
def yD:Ctr:=⟨109,15,[.agg uab],[],[⟨zac,[.one],[]⟩],ap3 sg⟩
theorem Fz:Lk 4 yD:=ls Gw (aC vQ (aC Fu (aC xN aN)))
def m0(a0:LDIn)(a1:LI)(a2:LLI):h_:=
(sg a0 a1 a2).bind λ(x0,_)=>some (x0,())
def Ch:X.Cfg:=⟨E0,[yD],[],[]⟩
def uS:Ctr:=⟨81,16,[.agg uab],[],[⟨zac,[.one],[]⟩],ap3 m0⟩
theorem BW:Lk 5 uS:=ls Ch (aC Fz aN)
def lq:T2n->Option (T2n⊕((Bool×Unit)⊕T2y)):=λ(v0,v1,v2,v3,v4,v5,v6,v7,v8,v9,_)=>bif(decide (v7<v6))then((match((gk v7).bind λx0=>
(fU v8 x0).bind λx1=>
(gk v7).bind λx2=>
(fU v0 x2).bind λx3=>let x4:=w64 (x1+x3);bif(decide (v2<=x4))then((gk v7).bind λx5=>
(fU v8 x5).bind λx6=>
(gk v1).bind λx7=>
(fU v0 x7).bind λx8=>let x9:=w64 (v2+x8);bif(decide (x6<=x9))then(some (.inl (false,())))else some (.inr (v0,v1,v2,v3,v4,v5,v6,v7,false,v8,v9,())))else some (.inr (v0,v1,v2,v3,v4,v5,v6,v7,false,v8,v9,())):Option ((Bool×Unit)⊕T2y))with
|none=>none
|some (.inl (x0,_))=>some (.inr (.inl (x0,())))
|some (.inr (x0,x1,x2,x3,x4,x5,x6,x7,_,x9,ac,_))=>let ae:=w64 (x7+1);some (.inl (x0,x1,x2,x3,x4,x5,x6,ae,x9,ac,()))))else some (.inr (.inr (v0,v1,v2,v3,v4,v5,v6,v7,false,v8,v9,())))
def lp:T1j->Option (T1j⊕((Bool×Unit)⊕(LI×T1h))):=λ(v0,v1,v2,v3,v4)=>bif(decide (v3<v2))then((gk v3).bind λx0=>
(fU v1 x0).bind λx1=>
(bif(decide (x1<0))then(some (v0,v3,x1,v1,v2,v3,true,v4))else bif(decide (x1>=512))then(some (v0,v3,x1,v1,v2,v3,true,v4))else
(gk v3).bind λx2=>
(fU v0 x2).bind λx3=>let x4:=w64 (x1+x3);some (v0,v3,x1,v1,v2,v3,(decide (x4>512)),v4):Option (T28)).bind λ(x2,x3,x4,x5,x6,x7,x8,x9)=>bif x8 then(some (.inr (.inl (false,()))))else
(match gd lq NN (x2,x3,x4,x5,x6,x7,x3,0,x9)with
|none=>none
|some (.inl (ae,_))=>some (.inr (.inl (ae,())))
|some (.inr (ae,_,_,ah,ai,aj,_,_,_,ap))=>let av:=w64 (aj+1);some (.inl (ae,ah,ai,av,ap))))else some (.inr (.inr (v0,v1,v2,v3,false,v4)))
def n5(a0:LI)(a1:Int)(a2:LI):f_:=
(lG a2).bind λ(x0,_)=>bif(!x0)then(some (false,()))else let x1:=fZ a0.length;let x2:=fZ a2.length;bif(x1 != x2)then(some (false,()))else let x3:=fZ a0.length;
(match gd lp NN (a2,a0,x3,0,a0,a1,())with
|none=>none
|some (.inl (x4,_))=>some (x4,())
|some (.inr (_,_))=>some (true,()))
def DK:X.Cfg:=⟨E0,[ro],[],[⟨12,0,qE,[(.normal,qS [sP 1 RI,zaa 2,Uaa 5,Uaa 6,sP 20 RI,Uaa 21,Uaa 22,Xaa 41] Uam)]⟩,⟨18,1,qE,[(.ret,qS uau []),(.normal,qS (sP 1 RI::zaa 2::il [5,6]++sP 20 RI::il [21,22,42,43]++[Xaa 71]) Uam)]⟩,⟨15,2,qS (sP 1 RI::zaa 2::il [5,6]++sP 20 RI::il [21,22,42,43]) Uam,[(.ret,qS uau []),(.exit 2,qS (sP 1 RI::zaa 2::il [5,6]++sP 20 RI::il [21,22,42,43]++[Xaa 44]) Uam)]⟩,⟨6,3,qS [sP 1 RI,zaa 2,sP 20 RI,Uaa 21,Uaa 22] Uam,[(.ret,qS uau []),(.exit 0,qS [sP 1 RI,zaa 2,sP 20 RI,Uaa 21,Uaa 22,Xaa 23] Uam)]⟩]⟩
def wt:Ctr:=⟨82,17,[.agg Uab,shU RI],[],[⟨zab,[.one],[]⟩],ap3 n5⟩
theorem Dj:Lk 2 wt:=ls DK (aC vQ aN)
def qt(a0 a1:Int):f_:=some ((decide (a0<=2)),())
def Ih:X.Cfg:=⟨E0,[],[],[]⟩
def ux:Ctr:=⟨117,18,[.agg Xab],[],[⟨zab,[.one],[]⟩],ap2 qt⟩
theorem zG:Lk 1 ux:=ls Ih aN
def oH(a0 a1:Int):f_:=
(qt a0 a1).bind λ(x0,_)=>some ((!x0),())
def AR:X.Cfg:=⟨E0,[ux],[],[]⟩
def tB:Ctr:=⟨141,19,[.agg Xab],[],[⟨zab,[.one],[]⟩],ap2 oH⟩
theorem AM:Lk 2 tB:=ls AR (aC zG aN)
def iy:T0j->Option (T0j⊕((Int×Unit)⊕T0B)):=λ(v0,v1,v2,_)=>bif(decide (v2<v1))then((gk v2).bind λx0=>
(fU v0 x0).bind λx1=>
(oH x1.1 x1.2).bind λ(x2,_)=>bif x2 then(some (.inr (.inl (v2,()))))else let x3:=w64 (v2+1);some (.inl (v0,v1,x3,())))else some (.inr (.inr (v0,v1,v2,false,())))
def jQ(a0:LDCe):h_:=let x0:=fZ a0.length;
(match gd iy NN (a0,x0,0,())with
|none=>none
|some (.inl (x1,_))=>some (x1,())
|some (.inr (_,_))=>some ((-1),()))
def sD:X.Cfg:=⟨E0,[tB],[],[⟨3,0,(qS (sP 0 gS::(1,.fn 141 [])::il [7,8]) []),[(.ret,qS [Uaa 4] []),(.exit 0,(qS [sP 0 gS,(1,.fn 141 []),Uaa 7,Uaa 8,Xaa 9] []))]⟩]⟩
def nq:Ctr:=⟨142,20,[shU gS,.fn 141 []],[],[⟨zac,[.one],[]⟩],ap1 jQ⟩
theorem sr:Lk 3 nq:=ls sD (aC AM aN)
def g9(a0:LDCe):f_:=
(jQ a0).bind λ(x0,_)=>some ((decide (x0>=0)),())
def qo:X.Cfg:=⟨E0,[nq],[],[]⟩
def ly:Ctr:=⟨115,21,[shU gS,.fn 141 []],[],[⟨zab,[.one],[]⟩],ap1 g9⟩
theorem qn:Lk 4 ly:=ls qo (aC sr aN)
def lK(a0:LDCe)(a1:Int):f_:=let x0:=fZ a0.length;bif(x0==a1)then((g9 a0).bind λ(x1,_)=>some ((!x1),()))else some (false,())
def DI:X.Cfg:=⟨E0,[ly],[],[]⟩
def rq:Ctr:=⟨111,22,uL [gS,I64],[],[⟨zab,[.one],[]⟩],ap2 lK⟩
theorem vT:Lk 5 rq:=ls DI (aC qn aN)
def se(a0 a1:Int)(a2:Bool)(a3:LDCe):f_:=bif(a1==(-1))then(bif(!a2)then(let x0:Int:=(fZ a3.length);some ((x0==0),()))else some (false,()))else bif(decide (a1>=0))then(bif(decide (a1<128))then(let x0:Int:=(Int.tmod a1 4);bif(x0==a0)then((lK a3 4).bind λ(x1,_)=>some (x1,()))else some (false,()))else some (false,()))else some (false,())
def Gj:X.Cfg:=⟨E0,[rq],[],[]⟩
def yr:Ctr:=⟨112,23,[shU I64,.agg (uL [I64,.bool,gS])],[],[⟨zab,[.one],[]⟩],ap4 se⟩
theorem Fo:Lk 6 yr:=ls Gj (aC vT aN)
def ln:T0W->Option (T0W⊕((Bool×Unit)⊕T1g)):=λ(v0,v1,v2,v3)=>bif(decide (v2<v1))then((gk v2).bind λx0=>
(fU v0 x0).bind λx1=>
(se v2 x1.1 x1.2.1 x1.2.2).bind λ(x2,_)=>bif(!x2)then(some (.inr (.inl (false,()))))else let x3:=w64 (v2+1);some (.inl (v0,v1,x3,v3)))else some (.inr (.inr (v0,v1,v2,false,v3)))
def nZ(a0:LDCe)(a1:LDLn):f_:=
(lK a0 512).bind λ(x0,_)=>bif(!x0)then(some (false,()))else let x1:=fZ a1.length;bif(x1 != 4)then(some (false,()))else let x2:=fZ a1.length;
(match gd ln NN (a1,x2,0,a0,a1,())with
|none=>none
|some (.inl (x3,_))=>some (x3,())
|some (.inr (_,_))=>some (true,()))
def DJ:X.Cfg:=⟨E0,[rq,yr],[],[⟨6,0,qS (sP 16 iu::il [17,18]) Zam,[(.ret,qS yau []),(.exit 0,qS [sP 16 iu,Uaa 17,Uaa 18,Xaa 19] Zam)]⟩]⟩
def wq:Ctr:=⟨83,24,[.agg yad],[],[⟨zab,[.one],[]⟩],ap2 nZ⟩
theorem Di:Lk 7 wq:=ls DJ (aC vT (aC Fo aN))
def ib(a0 a1 a2:Int):f_:=bif(decide (a0>=a1))then(some ((decide (a0<=a2)),()))else some (false,())
def AP:X.Cfg:=⟨E0,[],[],[]⟩
def tz:Ctr:=⟨114,25,Xaj,[],[⟨zab,[.one],[]⟩],ap3 ib⟩
theorem AK:Lk 1 tz:=ls AP aN
def s7(a0 a1:Int):f_:=
(qt a0 a1).bind λ(x0,_)=>some ((!x0),())
def AO:X.Cfg:=⟨E0,[ux],[],[]⟩
def tw:Ctr:=⟨116,26,[.agg Xab],[],[⟨zab,[.one],[]⟩],ap2 s7⟩
theorem AJ:Lk 2 tw:=ls AO (aC zG aN)
def oO:T0j->Option (T0j⊕((Int×Unit)⊕T0B)):=λ(v0,v1,v2,_)=>bif(decide (v2<v1))then((gk v2).bind λx0=>
(fU v0 x0).bind λx1=>
(s7 x1.1 x1.2).bind λ(x2,_)=>bif x2 then(some (.inr (.inl (v2,()))))else let x3:=w64 (v2+1);some (.inl (v0,v1,x3,())))else some (.inr (.inr (v0,v1,v2,false,())))
def lF(a0:LDCe):h_:=let x0:=fZ a0.length;
(match gd oO NN (a0,x0,0,())with
|none=>none
|some (.inl (x1,_))=>some (x1,())
|some (.inr (_,_))=>some ((-1),()))
def rj:X.Cfg:=⟨E0,[tw],[],[⟨3,0,(qS (sP 0 gS::(1,.fn 116 [])::il [7,8]) []),[(.ret,qS [Uaa 4] []),(.exit 0,(qS [sP 0 gS,(1,.fn 116 []),Uaa 7,Uaa 8,Xaa 9] []))]⟩]⟩
def lQ:Ctr:=⟨142,27,[shU gS,.fn 116 []],[],[⟨zac,[.one],[]⟩],ap1 lF⟩
theorem rh:Lk 3 lQ:=ls rj (aC AJ aN)
def iU(a0:LDCe):f_:=
(lF a0).bind λ(x0,_)=>some ((decide (x0>=0)),())
def pt:X.Cfg:=⟨E0,[lQ],[],[]⟩
def kH:Ctr:=⟨115,28,[shU gS,.fn 116 []],[],[⟨zab,[.one],[]⟩],ap1 iU⟩
theorem pi:Lk 4 kH:=ls pt (aC rh aN)
def nS(a0:Int)(a1:LDCe)(a2 a3 a4 a5 a6 a7:Int):f_:=
(ib a0 0 4).bind λ(x0,_)=>bif x0 then(let x1:Int:=(fZ a1.length);bif(x1==8)then((iU a1).bind λ(x2,_)=>bif(!x2)then((ib a2 0 255).bind λ(x3,_)=>bif x3 then((ib a3 0 1099511627776).bind λ(x4,_)=>bif x4 then((ib a4 (-1) 255).bind λ(x5,_)=>bif x5 then((ib a5 (-1) 255).bind λ(x6,_)=>bif x6 then((ib a6 0 6).bind λ(x7,_)=>some (x7,()))else some (false,()))else some (false,()))else some (false,()))else some (false,()))else some (false,()))else some (false,()))else some (false,())
def Dr:X.Cfg:=⟨E0,[tz,kH],[],[]⟩
def vY:Ctr:=⟨86,29,[.agg Uad],[],[⟨zab,[.one],[]⟩],as1 (as2 (as4 ap1)) nS⟩
theorem C7:Lk 5 vY:=ls Dr (aC AK (aC pi aN))
def q9(a0:Int)(a1:LDCe)(a2 a3 a4 a5 a6 a7:Int):f_:=
(nS a0 a1 a2 a3 a4 a5 a6 a7).bind λ(x0,_)=>some ((!x0),())
def Dt:X.Cfg:=⟨E0,[vY],[],[]⟩
def wd:Ctr:=⟨85,30,[.agg Uad],[],[⟨zab,[.one],[]⟩],as1 (as2 (as4 ap1)) q9⟩
theorem C9:Lk 6 wd:=ls Dt (aC C7 aN)
def ii:T0n->Option (T0n⊕((Int×Unit)⊕(LDTh×T0e))):=λ(v0,v1,v2,_)=>bif(decide (v2<v1))then((gk v2).bind λx0=>
(fU v0 x0).bind λx1=>
(q9 x1.1 x1.2.1 x1.2.2.1 x1.2.2.2.1 x1.2.2.2.2.1 x1.2.2.2.2.2.1 x1.2.2.2.2.2.2.1 x1.2.2.2.2.2.2.2).bind λ(x2,_)=>bif x2 then(some (.inr (.inl (v2,()))))else let x3:=w64 (v2+1);some (.inl (v0,v1,x3,())))else some (.inr (.inr (v0,v1,v2,false,())))
def jp(a0:LDTh):h_:=let x0:=fZ a0.length;
(match gd ii NN (a0,x0,0,())with
|none=>none
|some (.inl (x1,_))=>some (x1,())
|some (.inr (_,_))=>some ((-1),()))
def ri:X.Cfg:=⟨E0,[wd],[],[⟨3,0,(qS (sP 0 lz::(1,.fn 85 [])::il [7,8]) []),[(.ret,qS [Uaa 4] []),(.exit 0,(qS [sP 0 lz,(1,.fn 85 []),Uaa 7,Uaa 8,Xaa 9] []))]⟩]⟩
def lP:Ctr:=⟨113,31,[shU lz,.fn 85 []],[],[⟨zac,[.one],[]⟩],ap1 jp⟩
theorem rf:Lk 7 lP:=ls ri (aC C9 aN)
def iT(a0:LDTh):f_:=
(jp a0).bind λ(x0,_)=>some ((decide (x0>=0)),())
def po:X.Cfg:=⟨E0,[lP],[],[]⟩
def kG:Ctr:=⟨84,32,[shU lz,.fn 85 []],[],[⟨zab,[.one],[]⟩],ap1 iT⟩
theorem ph:Lk 8 kG:=ls po (aC rf aN)
def oh(a0:LDIn)(a1:LI)(a2:LLI)(a3:LI)(a4:Int)(a5:LDCe)(a6:LDLn)(a7:LDTh):f_:=
(m0 a0 a1 a2).bind λ(x0,_)=>bif(x0==0)then((n5 a3 a4 a1).bind λ(x1,_)=>bif x1 then((nZ a5 a6).bind λ(x2,_)=>bif x2 then(let x3:Int:=(fZ a7.length);bif(x3==4)then((iT a7).bind λ(x4,_)=>some ((!x4),()))else some (false,()))else some (false,()))else some (false,()))else some (false,())
def Il:X.Cfg:=⟨E0,[uS,wt,wq,kG],[],[]⟩
def uy:Ctr:=⟨52,33,[.agg uab,.agg uac],[],[⟨zab,[.one],[]⟩],as1 (as2 (as4 ap1)) oh⟩
theorem zH:Lk 9 uy:=ls Il (aC BW (aC Dj (aC Di (aC ph aN))))
def iC(a0 a1 a2:Int):f_:=bif(decide (a0>=a1))then(some ((decide (a0<=a2)),()))else some (false,())
def zi:X.Cfg:=⟨E0,[],[],[]⟩
def rN:Ctr:=⟨101,34,Xaj,[],[⟨zab,[.one],[]⟩],ap3 iC⟩
theorem zf:Lk 1 rN:=ls zi aN
def kt(a0 a1 a2 a3:Int):f_:=bif(a0==0)then(bif(a2==0)then(some ((a3==0),()))else some (false,()))else bif(a0==2)then(bif(a2==0)then(some ((a3==0),()))else some (false,()))else bif(a0==1)then((bif(a2==(-1))then(bif(decide (a3>=0))then(some ((decide (a3<=65535)),a0,a1,a2,a3,()))else some (false,a0,a1,a2,a3,()))else some (false,a0,a1,a2,a3,()):Option (T0N)).bind λ(x0,_,x2,x3,x4,_)=>bif(x2==0)then(bif x0 then(some (true,()))else bif(decide (x3>=0))then(bif(decide (x3<4))then(bif(decide (x4>=0))then(some ((decide (x4<32)),()))else some (false,()))else some (false,()))else some (false,()))else some (false,()))else some (false,())
def Du:X.Cfg:=⟨E0,[],[],[⟨7,0,qE,[(.normal,qS [zaa 1,Xaa 3] [(4,yag)])]⟩]⟩
def rm:Ctr:=⟨87,35,[.agg yag],[],[⟨zab,[.one],[]⟩],ap4 kt⟩
theorem vP:Lk 1 rm:=ls Du aN
def nF(a0 a1 a2 a3:Int):f_:=
(kt a0 a1 a2 a3).bind λ(x0,_)=>some ((!x0),())
def zj:X.Cfg:=⟨E0,[rm],[],[]⟩
def rO:Ctr:=⟨119,36,[.agg yag],[],[⟨zab,[.one],[]⟩],ap4 nF⟩
theorem zg:Lk 2 rO:=ls zj (aC vP aN)
def i4:T0l->Option (T0l⊕((Int×Unit)⊕(LDCn×T0e))):=λ(v0,v1,v2,_)=>bif(decide (v2<v1))then((gk v2).bind λx0=>
(fU v0 x0).bind λx1=>
(nF x1.1 x1.2.1 x1.2.2.1 x1.2.2.2).bind λ(x2,_)=>bif x2 then(some (.inr (.inl (v2,()))))else let x3:=w64 (v2+1);some (.inl (v0,v1,x3,())))else some (.inr (.inr (v0,v1,v2,false,())))
def iM(a0:LDCn):h_:=let x0:=fZ a0.length;
(match gd i4 NN (a0,x0,0,())with
|none=>none
|some (.inl (x1,_))=>some (x1,())
|some (.inr (_,_))=>some ((-1),()))
def rJ:X.Cfg:=⟨E0,[rO],[],[⟨3,0,(qS (sP 0 gp::(1,.fn 119 [])::il [7,8]) []),[(.ret,qS [Uaa 4] []),(.exit 0,(qS [sP 0 gp,(1,.fn 119 []),Uaa 7,Uaa 8,Xaa 9] []))]⟩]⟩
def mw:Ctr:=⟨143,37,[shU gp,.fn 119 []],[],[⟨zac,[.one],[]⟩],ap1 iM⟩
theorem rH:Lk 3 mw:=ls rJ (aC zg aN)
def i5(a0:LDCn):f_:=
(iM a0).bind λ(x0,_)=>some ((decide (x0>=0)),())
def p7:X.Cfg:=⟨E0,[mw],[],[]⟩
def la:Ctr:=⟨118,38,[shU gp,.fn 119 []],[],[⟨zab,[.one],[]⟩],ap1 i5⟩
theorem p6:Lk 4 la:=ls p7 (aC rH aN)
def jw(a0:LDCn)(a1:Int):f_:=let x0:=fZ a0.length;bif(decide (x0<=a1))then((i5 a0).bind λ(x1,_)=>some ((!x1),()))else some (false,())
def B6:X.Cfg:=⟨E0,[la],[],[]⟩
def qe:Ctr:=⟨88,39,uL [gp,I64],[],[⟨zab,[.one],[]⟩],ap2 jw⟩
theorem ug:Lk 5 qe:=ls B6 (aC p6 aN)
def tP(a0 a1 a2 a3 a4 a5:Int)(a6 a7:LDCn):f_:=
(iC a0 0 3).bind λ(x0,_)=>bif x0 then((iC a1 0 3).bind λ(x1,_)=>bif x1 then((iC a2 0 6).bind λ(x2,_)=>bif x2 then((iC a3 0 1099511627776).bind λ(x3,_)=>bif x3 then((iC a4 0 255).bind λ(x4,_)=>bif x4 then((iC a5 0 15).bind λ(x5,_)=>bif x5 then((jw a6 3).bind λ(x6,_)=>bif x6 then((jw a7 16).bind λ(x7,_)=>some (x7,()))else some (false,()))else some (false,()))else some (false,()))else some (false,()))else some (false,()))else some (false,()))else some (false,())
def B5:X.Cfg:=⟨E0,[rN,qe],[],[]⟩
def uz:Ctr:=⟨65,40,[.agg Uac],[],[⟨zab,[.one],[]⟩],as1 (as2 (as4 ap1)) tP⟩
theorem BJ:Lk 6 uz:=ls B5 (aC zf (aC ug aN))
def pM(a0:Int):Option (ByteArray×T01):=let x0:ByteArray:=(bytes []);
(bif(a0==0)then(some (a0,true,()))else bif(a0==8)then(some (a0,true,()))else bif(a0==9)then(some (a0,true,()))else bif(a0==11)then(some (a0,true,()))else some (a0,(a0==12),()):Option (T01)).bind λ(x1,x2,_)=>bif x2 then(let x3:ByteArray:=(bytes [78]);some (x3,0,true,()))else bif(x1==1)then(let x3:ByteArray:=(bytes [72,80,78]);some (x3,1,true,()))else bif(x1==2)then(let x3:ByteArray:=(bytes [72,80,78]);some (x3,2,true,()))else bif(x1==3)then(let x3:ByteArray:=(bytes [78,78]);some (x3,0,true,()))else bif(x1==4)then(let x3:ByteArray:=(bytes [72]);some (x3,0,true,()))else bif(x1==5)then(let x3:ByteArray:=(bytes [72,78]);some (x3,0,true,()))else
(bif(x1==6)then(some (x1,true,()))else bif(x1==7)then(some (x1,true,()))else some (x1,(x1==15),()):Option (T01)).bind λ(x3,x4,_)=>bif x4 then(let x5:ByteArray:=(bytes []);some (x5,0,true,()))else bif(x3==10)then(let x5:ByteArray:=(bytes [78,88]);some (x5,0,true,()))else bif(x3==13)then(let x5:ByteArray:=(bytes [78,80,78]);some (x5,1,true,()))else bif(x3==14)then(let x5:ByteArray:=(bytes [78,80,78]);some (x5,2,true,()))else let x5:ByteArray:=(bytes []);some (x5,0,false,())
def B4:X.Cfg:=⟨E0,[],[],[⟨3,0,qE,[(.normal,qS [Uaa 5,Xaa 6] [])]⟩,⟨19,1,qE,[(.normal,qS [Uaa 5,Xaa 22] [])]⟩]⟩
def qd:Ctr:=⟨102,41,zac,[],[⟨uL [.str,I64,.bool],[.one,.one,.one],[]⟩],ap1 pM⟩
theorem uf:Lk 1 qd:=ls B4 aN
def pN(a0:Int):h_:=
(pM a0).bind λ(x0,_,x2,_)=>bif(!x2)then(some ((-1),()))else let x3:=Br x0;some (x3,())
def wQ:X.Cfg:=⟨E0,[qd],[],[]⟩
def qf:Ctr:=⟨66,42,zac,[],[⟨zac,[.one],[]⟩],ap1 pN⟩
theorem wL:Lk 2 qf:=ls wQ (aC uf aN)
def lL(a0 a1 a2 a3:Int)(a4:LDCn)(a5:Int)(a6:Bool):f_:=
(kt a0 a1 a2 a3).bind λ(x0,_)=>bif x0 then((jw a4 16).bind λ(x1,_)=>bif x1 then(bif(decide (a5>=(-1)))then(some ((decide (a5<4)),()))else some (false,()))else some (false,()))else some (false,())
def DN:X.Cfg:=⟨E0,[rm,qe],[],[]⟩
def ru:Ctr:=⟨53,43,[.agg Xac],[],[⟨zab,[.one],[]⟩],as2 (as4 ap1) lL⟩
theorem vU:Lk 6 ru:=ls DN (aC vP (aC ug aN))
def xj(a0:LDIn)(a1:LI)(a2:LLI)(a3:LI)(a4:Int)(a5:LDCe)(a6:LDLn)(a7:LDTh)(a8 a9 ek ew eF eH:Int)(eJ eM:LDCn)(eQ eU eX eZ:Int)(fc:LDCn)(ff:Int)(fi:Bool):f_:=
(oh a0 a1 a2 a3 a4 a5 a6 a7).bind λ(x0,_)=>bif x0 then((tP a8 a9 ek ew eF eH eJ eM).bind λ(x1,_)=>bif x1 then(bif(a9==1)then(let x2:Int:=(fZ eJ.length);
(pN eH).bind λ(x3,_)=>bif(x2==x3)then((lL eQ eU eX eZ fc ff fi).bind λ(x4,_)=>bif x4 then((gk a8).bind λx5=>
(fU a7 x5).bind λx6=>some ((x6.1==2),()))else some (false,()))else some (false,()))else some (false,()))else some (false,()))else some (false,())
def Gt:X.Cfg:=⟨E0,[uy,uz,qf,ru],[],[]⟩
def yA:Ctr:=⟨39,44,[.agg uab,.agg uac,.agg Uac,.agg Xac],[],[⟨zab,[.one],[]⟩],as2 (as4 (as8 (as8 ap1))) xj⟩
theorem Fv:Lk 10 yA:=ls Gt (aC zH (aC BJ (aC wL (aC vU aN))))
def kA(a0:LI):Option (LI×Unit):=bif(gl 8 0 a0.length)then let x0:v_:=(List.append [] a0);some (x0,())else none
def xQ:X.Cfg:=⟨E0,[],[],[]⟩
def qX:Ctr:=⟨103,45,uL [RI],[],[⟨Xae,[.one],[]⟩],ap1 kA⟩
theorem xD:Lk 1 qX:=ls xQ aN
def sf(a0:LI)(a1:Int):Option (T07):=
(kA a0).bind λ(x0,_)=>some (x0,a1,())
def Gp:X.Cfg:=⟨E0,[qX],[],[]⟩
def yx:Ctr:=⟨67,46,[.agg Uab],[],[⟨Zaj,[.agg 2],[]⟩],ap2 sf⟩
theorem Fs:Lk 2 yx:=ls Gp (aC xD aN)
def ie(a0:LDCe):Option (LDCe×Unit):=bif(gl 4 0 a0.length)then let x0:LDCe:=(List.append [] a0);some (x0,())else none
def wP:X.Cfg:=⟨E0,[],[],[]⟩
def j3:Ctr:=⟨69,47,uL [gS],[],[⟨uL [(uaa KCe)],[.one],[]⟩],ap1 ie⟩
theorem mn:Lk 1 j3:=ls wP aN
def jR(a0:LDLn):Option (LDLn×Unit):=bif(gl 40 0 a0.length)then let x0:LDLn:=(List.append [] a0);some (x0,())else none
def wO:X.Cfg:=⟨E0,[],[(5,R7),(7,R7)],[]⟩
def qc:Ctr:=⟨104,48,uL [iu],[],[⟨uL [(uaa Wd)],[.one],[]⟩],ap1 jR⟩
theorem wK:Lk 1 qc:=ls wO aN
def mf:T1y->Option (T1y⊕(Int×Int×Bool×T11)):=λ(v0,v1,v2,v3,v4,v5,v6,_)=>bif(decide (v1<v0))then((gk v1).bind λx0=>
(fU v5 x0).bind λ_=>bif(jl v6 x0 x0)then(fU v5 x0).bind λx2=>
(ie x2.2.2).bind λ(x3,_)=>
(gk v1).bind λx4=>
(fU v5 x4).bind λ_=>
(fU v5 x4).bind λ_=>bif(Nat.beq x4 v6)then let x7:Int:=(w64 (v1+1));some (.inl (v0,x7,v2,v3,v4,(v5.modify x4 λe=>(e.1,(e.2.1,x3))),(Nat.add v6 1),()))else none else none)else some (.inr (v0,v1,false,v2,v3,v4,v5,v6,()))
def o7(a0:LDCe)(a1:LDLn):Option (T05):=
(ie a0).bind λ(x0,_)=>
(jR a1).bind λ(x1,_)=>let x2:=fZ x1.length;
(gd mf NN (x2,0,(),(),x0,x1,0,())).bind λ(_,_,_,_,_,x8,x9,ac,_)=>bif(Nat.beq ac x9.length)then some (x8,x9,())else none
def Gk:X.Cfg:=⟨E0,[j3,qc],[],[(lx 4 0 (zl [2,3]++(14,.pk ⟨8,1,[]⟩ [0,0])::il [15,16]) [(6,yac),(8,[shU (uaa KCe),.half R7 () ()])] 17)]⟩
def yu:Ctr:=⟨68,49,[.agg yad],[],[⟨zad,[.agg 2],[]⟩],ap2 o7⟩
theorem Fp:Lk 2 yu:=ls Gk (aC mn (aC wK aN))
def jE:T37->Option (T37⊕T3e):=λ(v0,v1,v2,v3,v4,v5,v6,v7,v8,v9,eu,eE,eG,eI,eK,eO,eS,eV,_)=>bif(decide (v2<v1))then((gk v2).bind λx0=>
(fU v0 x0).bind λx1=>
(ie x1.2.1).bind λ(x2,_)=>let x3:LDTh:=[(x1.1,(x2,(x1.2.2.1,(x1.2.2.2.1,(x1.2.2.2.2.1,(x1.2.2.2.2.2.1,(x1.2.2.2.2.2.2.1,x1.2.2.2.2.2.2.2)))))))];bif(gl 80 eV.length x3.length)then let x4:LDTh:=(List.append eV x3);let x5:=w64 (v2+1);some (.inl (v0,v1,x5,v3,v4,v5,v6,v7,v8,v9,eu,eE,eG,eI,eK,eO,eS,x4,()))else none)else some (.inr (v0,v1,v2,false,v3,v4,v5,v6,v7,v8,v9,eu,eE,eG,eI,eK,eO,eS,eV,()))
def iF(a0:LI)(a1:Int)(a2:LDCe)(a3:LDLn)(a4:LDTh):Option (T0Y):=
(sf a0 a1).bind λ(x0,x1,_)=>
(o7 a2 a3).bind λ(x2,x3,_)=>let x4:=fZ a4.length;
(gd jE NN (a4,x4,0,a0,a1,a2,a3,a4,(),0,(),(),(),x0,x1,x2,x3,[],())).bind λ(_,_,_,_,_,_,_,_,_,_,_,_,_,_,an)=>some (an)
def DH:X.Cfg:=⟨E0,[yx,yu,j3],[(27,R6),(28,R6)],[(lx 4 0 (zl [2,3]++sP 14 lz::il [15,16]) [(4,uac),(6,Zab),(8,zah)] 17)]⟩
def rp:Ctr:=⟨40,50,[.agg uac],[],[⟨zah,[.agg 5],[]⟩],ap5 iF⟩
theorem vR:Lk 3 rp:=ls DH (aC Fs (aC Fp (aC mn aN)))
def oN(a0:Int)(a1:LDCe)(a2 a3 a4 a5 a6 a7:Int):Option (T1Q):=
(ie a1).bind λ(x0,_)=>some (a0,x0,a2,a3,a4,a5,a6,a7,())
def FF:X.Cfg:=⟨E0,[j3],[],[]⟩
def sI:Ctr:=⟨70,51,[.agg Uad],[],[⟨Uaf,[.agg 8],[]⟩],as1 (as2 (as4 ap1)) oN⟩
theorem xC:Lk 2 sI:=ls FF (aC mn aN)
def zw(a0:Int)(a1:LDCe)(a2 a3 a4 a5 a6 a7 a8 a9:Int):Option (T1Q):=
(oN a0 a1 a2 a3 a4 a5 a6 a7).bind λ(_,x1,x2,x3,x4,x5,_)=>some (4,x1,x2,x3,x4,x5,a8,a9,())
def Ik:X.Cfg:=⟨E0,[sI],[],[]⟩
def Ab:Ctr:=⟨41,52,[.agg Uad,shU I64,shU CW],[],[⟨Uaf,[.agg 8],[]⟩],as1 (as8 ap1) zw⟩
theorem HN:Lk 3 Ab:=ls Ik (aC xC aN)
def mB(a0:LI)(a1 a2:Int):f_:=bif(decide (a1>=0))then(let x0:Int:=(fZ a0.length);bif(decide (a1<x0))then(bif(decide (a2>=0))then((gk a1).bind λx1=>
(fU a0 x1).bind λx2=>some ((decide (a2<x2)),()))else some (false,()))else some (false,()))else some (false,())
def B7:X.Cfg:=⟨E0,[],[],[]⟩
def qg:Ctr:=⟨105,53,[shU RI,.agg uad],[],[⟨zab,[.one],[]⟩],ap3 mB⟩
theorem uh:Lk 1 qg:=ls B7 aN
def pV(a0:LI)(a1 a2 a3 a4:Int):f_:=bif(a1==0)then(bif(a3==0)then(some ((a4==0),()))else some (false,()))else bif(a1==2)then(bif(a3==0)then(some ((a4==0),()))else some (false,()))else bif(a1==1)then(bif(a2==0)then((mB a0 a3 a4).bind λ(x0,_)=>some (x0,()))else some (false,()))else some (false,())
def Ci:X.Cfg:=⟨E0,[qg],[],[]⟩
def uT:Ctr:=⟨71,54,[shU RI,.agg yag],[],[⟨zab,[.one],[]⟩],ap5 pV⟩
theorem BX:Lk 2 uT:=ls Ci (aC uh aN)
def oI(a0:LI)(a1:Int)(a2:LI)(a3 a4:Int):Option (T02):=
(mB a2 a3 a4).bind λ(x0,_)=>bif(!x0)then(some (0,6,()))else let x1:=fZ a0.length;bif(decide (a3>=x1))then(some (0,6,()))else
(gk a3).bind λx2=>
(fU a0 x2).bind λx3=>let x4:=w64 (x3+a4);some (x4,0,())
def AS:X.Cfg:=⟨E0,[qg],[],[]⟩
def tC:Ctr:=⟨72,55,[.agg Uab,shU RI,.agg uad],[],[⟨uad,[.one,.one],[]⟩],ap5 oI⟩
theorem AN:Lk 2 tC:=ls AS (aC uh aN)
def iY(a0:LI)(a1:Int)(a2:LI)(a3 a4 a5 a6:Int):Option (T0f):=
(pV a2 a3 a4 a5 a6).bind λ(x0,_)=>bif(!x0)then(some (0,0,1,()))else
(match(bif(a3==2)then(let x1:Int:=(wk .u16 (a4+a1));some (.inl (0,0,a3,x1,())))else bif(a3==1)then((oI a0 a1 a2 a5 a6).bind λ(x1,x2,_)=>bif(x2 != 0)then(some (.inr (1,0,0,())))else let x3:=wk .u16 x1;some (.inl (0,0,a3,x3,())))else some (.inl (0,0,a3,a4,())):Option (T0w⊕T0f))with
|none=>none
|some (.inl (_,_,x3,x4,_))=>some (x3,x4,0,())
|some (.inr (x1,x2,x3,_))=>some (x2,x3,x1,()))
def IX:X.Cfg:=⟨E0,[uT,tC],[],[⟨5,0,qE,[(.normal,qS (zl [6,8]) [(14,Xab),(18,Xab)]),(.ret,qS Uav [(14,Xab)])]⟩]⟩
def oz:Ctr:=⟨42,56,[.agg Uab,shU RI,.agg yag],[],[⟨yai,[.agg 2,.one],[]⟩],as2 (as4 ap1) iY⟩
theorem qT:Lk 3 oz:=ls IX (aC BX (aC AN aN))
def s8(a0:Int):h_:=
(pM a0).bind λ(_,x1,x2,_)=>bif(!x2)then(some ((-1),()))else some (x1,())
def AQ:X.Cfg:=⟨E0,[qd],[],[]⟩
def tA:Ctr:=⟨73,57,zac,[],[⟨zac,[.one],[]⟩],ap1 s8⟩
theorem AL:Lk 2 tA:=ls AQ (aC uf aN)
def tY(a0:Int)(a1:LDCe)(a2:LDLn):Option (T0k):=
(gk a0).bind λx0=>
(fU a2 x0).bind λ_=>
(fU a2 x0).bind λx2=>
(fU a2 x0).bind λx3=>
(bif x2.2.1 then(bif(decide (x2.1>=0))then(let x4:Int:=(w64 (x2.1+1));let x5:=w64 (x4*4);let x6:=fZ a1.length;some ((decide (x5<=x6)),a1,a2,x0,x2.1,x2.2.1,x3.2.2,()))else some (false,a1,a2,x0,x2.1,x2.2.1,x3.2.2,()))else some (false,a1,a2,x0,x2.1,x2.2.1,x3.2.2,()):Option (Bool×LDCe×LDLn×Nat×Int×Bool×LDCe×Unit)).bind λ(x4,x5,x6,x7,x8,_,ac,_)=>bif x4 then(let ae:Int:=(w64 (x8*4));
(gk ae).bind λaf=>bif(jl af x5.length x5.length)then bif(jl af (Nat.add af (Nat.min ac.length (Nat.sub x5.length af))) x5.length)then bif(Nat.blt 0 (Nat.min ac.length (Nat.sub x5.length af)))then(let ag:LDCe:=(sm x5 af (Nat.min ac.length (Nat.sub x5.length af)) ac);let ah:=(fZ (Nat.min ac.length (Nat.sub x5.length af)));some (ag,x6,x7,()))else let ag:=(fZ (Nat.min ac.length (Nat.sub x5.length af)));some (x5,x6,x7,())else none else none)else some (x5,x6,x7,())
def IW:X.Cfg:=⟨E0,[],[],[⟨1,0,qE,[(.normal,(qS [zaa 0,zaa 4,Xaa 30] [(2,[shU (uaa KCe),.gap R7 () () 2]),(10,uL [I64,.bool,(uaa KCe)])]))]⟩]⟩
def Av:Ctr:=⟨137,58,[.ptr ⟨2,0,[]⟩ [0],shU I64],[(2,zad)],[⟨[],[],[(2,[shU (uaa KCe),.gap R7 () () 2])]⟩],ap3 tY⟩
theorem Ib:Lk 1 Av:=ls IW aN
def xg(a0:Int)(a1:LDCe)(a2:LDLn):Option (T0u⊕(Nat×T0u)):=
(bif(decide (a0<0))then(some (a0,true,a1,a2,()))else bif(decide (a0>=512))then(some (a0,true,a1,a2,()))else let x0:=fZ a1.length;bif(x0 != 512)then(some (a0,true,a1,a2,()))else let x1:=fZ a2.length;some (a0,(x1 != 4),a1,a2,()):Option (T0u)).bind λ(x0,x1,x2,x3,_)=>bif x1 then(some (.inl (0,false,x2,x3,())))else let x4:=w64 (Int.tdiv x0 4);let x5:=Int.tmod x4 4;
((gk x5).bind λx6=>
(fU x3 x6).bind λ_=>
(fU x3 x6).bind λx8=>bif(x8.1 != x4)then((tY x5 x2 x3).bind λ(x9,ac,ae,_)=>let af:=w64 (x4*4);let ag:=w64 (x4+1);let ah:=w64 (ag*4);
(gk af).bind λai=>
(gk ah).bind λaj=>bif(jl ai aj x9.length)then bif(gl 4 0 (List.length (oM x9 ai (Nat.sub aj ai))))then let ak:LDCe:=(List.append [] (oM x9 ai (Nat.sub aj ai)));
(gk x5).bind λam=>
(fU ac am).bind λ_=>
(fU ac am).bind λ_=>bif(Nat.beq am ae)then let aq:LDLn:=(ac.modify am λe=>(x4,(false,ak)));some (x0,x5,x9,aq,())else none else none else none)else
(gk x5).bind λx9=>
(fU x3 x9).bind λ_=>
(fU x3 x9).bind λ_=>
(fU x3 x9).bind λaf=>let ag:=fZ af.2.2.length;bif(ag != 4)then((tY x5 x2 x3).bind λ(ah,ai,aj,_)=>let ak:=w64 (x4*4);let am:=w64 (x4+1);let an:=w64 (am*4);
(gk ak).bind λap=>
(gk an).bind λaq=>bif(jl ap aq ah.length)then bif(gl 4 0 (List.length (oM ah ap (Nat.sub aq ap))))then let av:LDCe:=(List.append [] (oM ah ap (Nat.sub aq ap)));
(gk x5).bind λax=>
(fU ai ax).bind λ_=>
(fU ai ax).bind λ_=>bif(Nat.beq ax aj)then let aA:LDLn:=(ai.modify ax λe=>(x4,(false,av)));some (x0,x5,ah,aA,())else none else none else none)else some (x0,x5,x2,x3,()):Option (T0x)).bind λ(x6,x7,x8,x9,_)=>
(gk x7).bind λac=>
(fU x9 ac).bind λ_=>let af:=Int.tmod x6 4;some (.inr (ac,af,true,x8,x9,()))
def Gm:X.Cfg:=⟨E0,[Av],[],[⟨2,0,qE,[(.normal,qS [zaa 0,Uaa 1,Xaa 30] [(2,zad)])]⟩,⟨6,1,qE,[(.normal,qS (zaa 0::il [1,8]) [(2,zad)])]⟩]⟩
def yw:Ctr:=⟨106,59,[.ptr ⟨2,0,[]⟩ [0],shU I64],[(2,zad)],[⟨[.k (.pointer none),shU I64,shU .bool],[.one,.one,.one],[(2,zad)]⟩,⟨[.ptr ⟨2,1,[((),(3,0))]⟩ [0,0],shU I64,shU .bool],[.ptr,.one,.one],[(2,zad)]⟩],ap3 xg⟩
theorem Fr:Lk 2 yw:=ls Gm (aC Ib aN)
def xf(a0 a1 a2:Int)(a3:LDCe)(a4:LDLn):Option (T0d):=
(match xg a0 a3 a4 with
|none=>none
|some (.inl (_,x1,x2,x3,_))=>
(bif x1 then(none)else some (x1,x2,x3,()):Option (T0d)).bind λ(x4,x5,x6,_)=>some (x4,x5,x6,())
|some (.inr (x0,x1,x2,x3,x4,_))=>
(bif x2 then((fU x4 x0).bind λ_=>
(gk x1).bind λx6=>
(fU x4 x0).bind λx7=>
(fU x7.2.2 x6).bind λ_=>
(fU x4 x0).bind λx9=>
(fU x9.2.2 x6).bind λ_=>let ae:=x4.modify x0 λe=>(e.1,(e.2.1,(e.2.2.modify x6 λe=>(a1,a2))));
(fU ae x0).bind λ_=>let ag:=ae.modify x0 λe=>(e.1,(true,e.2.2));some (x2,x3,ag,()))else some (x2,x3,x4,()):Option (T0d)).bind λ(x5,x6,x7,_)=>some (x5,x6,x7,()))
def Gl:X.Cfg:=⟨E0,[yw],[],[⟨2,0,qE,[(.normal,qS [zaa 0,Xaa 9] [(2,zad)])]⟩]⟩
def yv:Ctr:=⟨74,60,[.ptr ⟨2,0,[]⟩ [0],shU I64,.agg Xab],[(2,zad)],[⟨zab,[.one],[(2,zad)]⟩],ap5 xf⟩
theorem Fq:Lk 3 yv:=ls Gl (aC Fr aN)
def AG:T3u->Option (T3u⊕((Bool×LI×T0g)⊕(LDCn×Int×Int×Bool×T3q))):=λ(v0,v1,v2,v3,v4,v5,v6,v7,v8,v9,eu,eE,eG,eI,eK,eO,eS,eV,eY,fa,fe,fh,fj,fm,fr,_)=>bif(decide (v2<v1))then((gk v2).bind λx0=>
(fU v0 x0).bind λx1=>
(fU eS 1).bind λx2=>let x3:=w64 (x2.2.2.2+v2);
(iY v3 v4 v8 x2.1 x2.2.1 x2.2.2.1 x3).bind λ(x4,x5,x6,_)=>
(iY v3 v4 v8 x1.1 x1.2.1 x1.2.2.1 x1.2.2.2).bind λ(x7,x8,x9,_)=>
(bif(x2.1 != 1)then(some (v0,v1,v2,true,v3,v4,v5,v6,v7,v8,v9,eu,eE,eG,eI,eK,eO,eS,eV,eY,fa,fe,fh,fj,fm,fr,x4,x5,x7,x8,()))else bif(x6 != 0)then(some (v0,v1,v2,true,v3,v4,v5,v6,v7,v8,v9,eu,eE,eG,eI,eK,eO,eS,eV,eY,fa,fe,fh,fj,fm,fr,x4,x5,x7,x8,()))else some (v0,v1,v2,(x9 != 0),v3,v4,v5,v6,v7,v8,v9,eu,eE,eG,eI,eK,eO,eS,eV,eY,fa,fe,fh,fj,fm,fr,x4,x5,x7,x8,()):Option (LDCn×Int×Int×Bool×LI×Int×LDCe×LDLn×T3p)).bind λ(ac,ae,af,ag,ah,ai,aj,ak,am,an,ap,aq,av,ax,ay,az,aA,aB,aD,aE,aF,aG,aH,aI,aJ,aK,_,aM,aO,aP,_)=>bif ag then(some (.inr (.inl (false,ah,ai,aj,ak,()))))else let aQ:=wk .i64 aM;
(xf aQ aO aP aj ak).bind λ(_,aS,aT,_)=>let aU:=w64 (af+1);some (.inl (ac,ae,aU,ah,ai,aS,aT,am,an,ap,aq,av,ax,ay,az,aA,aB,aD,aE,aF,aG,aH,aI,aJ,aK,())))else some (.inr (.inr (v0,v1,v2,false,v3,v4,v5,v6,v7,v8,v9,eu,eE,eG,eI,eK,eO,eS,eV,eY,fa,fe,fh,fj,fm,fr,())))
def xk(a0:LDIn)(a1:LI)(a2:LLI)(a3 a4 a5 a6 a7 a8:Int)(a9 ek:LDCn)(ew eF eH eJ:Int)(eM:LDCn)(eQ:Int)(eU:Bool)(eX:LI)(eZ:Int)(fc:LDCe)(ff:LDLn):Option (Bool×LI×T0g):=
(s8 a8).bind λ(x0,_)=>bif(x0 != 2)then(some (true,eX,eZ,fc,ff,()))else let x1:=fZ eM.length;
(match gd AG NN (eM,x1,0,eX,eZ,fc,ff,a0,a1,a2,a3,a4,a5,a6,a7,a8,a9,ek,ew,eF,eH,eJ,eM,eQ,eU,())with
|none=>none
|some (.inl (x2,x3,x4,x5,x6,_))=>some (x2,x3,x4,x5,x6,())
|some (.inr (_,_,_,_,x6,x7,x8,x9,_))=>some (true,x6,x7,x8,x9,()))
def Gu:X.Cfg:=⟨E0,[tA,oz,yv],[],[⟨16,0,qE,[(.normal,qS (zl [1,4,6,12,14]++sP 21 gp::il [22,23]++[Xaa 69]) [(4,Xah),(10,uab),(14,Uac),(16,Xac),(26,Xab),(30,Xab)])]⟩,⟨6,1,qS (zl [1,4,6]++sP 21 gp::il [22,23]) Zaq,[(.ret,qS Xau [(4,Xah)]),(.exit 0,qS (zl [1,4,6]++sP 21 gp::il [22,23]++[Xaa 24]) Zaq)]⟩]⟩
def yB:Ctr:=⟨43,61,[.agg uab,.ptr ⟨4,0,[]⟩ [0],.agg Uac,.agg Xac],[(4,Xah)],[⟨zab,[.one],[(4,Xah)]⟩],as1 (as4 (as8 (as8 ap1))) xk⟩
theorem Fw:Lk 4 yB:=ls Gu (aC AL (aC qT (aC Fq aN)))
def vK:Option (T1Q):=bif(xA 8 8 2)then let x0:LDCe:=(List.replicate 8 (0,0));some (0,x0,0,0,(-1),(-1),0,0,())else none
def DO:X.Cfg:=⟨E0,[],[],[]⟩
def ww:Ctr:=⟨138,62,[],[],[⟨Uaf,[.agg 8],[]⟩],λh=>vK⟩
theorem Dm:Lk 1 ww:=ls DO aN
def vF:Option (T1Q):=
(vK).bind λ(x0)=>some (x0)
def Ds:X.Cfg:=⟨E0,[ww],[],[]⟩
def vZ:Ctr:=⟨107,63,[],[],[⟨Uaf,[.agg 8],[]⟩],λh=>vF⟩
theorem C8:Lk 2 vZ:=ls Ds (aC Dm aN)
def tO(a0 a1 a2:Int):Option (T1Q):=
(vF).bind λ(_,x1,_,x3)=>
(fU x1 0).bind λ_=>
(fU x1 0).bind λ_=>let ac:=x1.modify 0 λe=>(a1,a2);some (1,ac,a0,x3)
def Ij:X.Cfg:=⟨E0,[vZ],[],[]⟩
def Aa:Ctr:=⟨75,64,[shU I64,.agg Xab],[],[⟨Uaf,[.agg 8],[]⟩],ap3 tO⟩
theorem HM:Lk 3 Aa:=ls Ij (aC C8 aN)
def vJ(a0:LDIn)(a1:LI)(a2:LLI)(a3 a4 a5 a6 a7 a8:Int)(a9 ek:LDCn)(ew eF eH eJ:Int)(eM:LDCn)(eQ:Int)(eU:Bool)(eX:LI)(eZ:Int)(fc:LDCe)(ff:LDLn)(fi:LDTh):Option (T14):=bif(a8==10)then((match(bif(!(eQ != (-1)))then(bif(a8 != 12)then(some (.inl (true,eX,eZ,fc,ff,fi,())))else some (.inr ((eQ != (-1)),false,eX,eZ,fc,ff,fi,a0,a1,a2,a3,a4,a5,a6,a7,a8,a9,ek,ew,eF,eH,eJ,eM,eQ,eU,())))else some (.inr ((eQ != (-1)),false,eX,eZ,fc,ff,fi,a0,a1,a2,a3,a4,a5,a6,a7,a8,a9,ek,ew,eF,eH,eJ,eM,eQ,eU,())):Option (T14⊕T3t))with
|none=>none
|some (.inl (x0,x1,x2,x3,x4,x5,_))=>some (x0,x1,x2,x3,x4,x5,())
|some (.inr (x0,_,x2,x3,x4,x5,x6,_,x8,_,ac,_,_,_,_,_,aj,_,_,_,_,_,_,ax,_,_))=>
(fU aj 0).bind λaz=>bif(az.1 != 0)then(some (false,x2,x3,x4,x5,x6,()))else bif(decide (az.2.1>255))then(some (false,x2,x3,x4,x5,x6,()))else bif(!x0)then(let aA:Int:=(wk .i64 az.2.1);
(gk ac).bind λaB=>
(fU x6 aB).bind λ_=>
(fU x6 aB).bind λ_=>let aF:=x6.modify aB λe=>(e.1,(e.2.1,(e.2.2.1,(e.2.2.2.1,(aA,e.2.2.2.2.2)))));some (true,x2,x3,x4,x5,aF,()))else
(fU aj 1).bind λaA=>
(iY x2 x3 x8 aA.1 aA.2.1 aA.2.2.1 aA.2.2.2).bind λ(aB,aD,aE,_)=>bif(aE != 0)then(some (false,x2,x3,x4,x5,x6,()))else
(gk ax).bind λaF=>
(fU x6 aF).bind λ_=>
(fU x6 aF).bind λaH=>bif(aH.1 != 0)then(some (false,x2,x3,x4,x5,x6,()))else let aI:=wk .i64 az.2.1;
(tO aI aB aD).bind λ(aJ,aK,aL,aM,aO,aP,aQ,aR,_)=>
(gk ax).bind λaS=>
(fU x6 aS).bind λ_=>
(fU x6 aS).bind λ_=>let aV:=x6.modify aS λe=>(aJ,(aK,(aL,(aM,(aO,(aP,(aQ,aR)))))));some (true,x2,x3,x4,x5,aV,())))else
(match(bif(a8 != 12)then(some (.inl (true,eX,eZ,fc,ff,fi,())))else some (.inr (false,false,eX,eZ,fc,ff,fi,a0,a1,a2,a3,a4,a5,a6,a7,a8,a9,ek,ew,eF,eH,eJ,eM,eQ,eU,())):Option (T14⊕T3t))with
|none=>none
|some (.inl (x0,x1,x2,x3,x4,x5,_))=>some (x0,x1,x2,x3,x4,x5,())
|some (.inr (x0,_,x2,x3,x4,x5,x6,_,x8,_,ac,_,_,_,_,_,aj,_,_,_,_,_,_,ax,_,_))=>
(fU aj 0).bind λaz=>bif(az.1 != 0)then(some (false,x2,x3,x4,x5,x6,()))else bif(decide (az.2.1>255))then(some (false,x2,x3,x4,x5,x6,()))else bif(!x0)then(let aA:Int:=(wk .i64 az.2.1);
(gk ac).bind λaB=>
(fU x6 aB).bind λ_=>
(fU x6 aB).bind λ_=>let aF:=x6.modify aB λe=>(e.1,(e.2.1,(e.2.2.1,(e.2.2.2.1,(aA,e.2.2.2.2.2)))));some (true,x2,x3,x4,x5,aF,()))else
(fU aj 1).bind λaA=>
(iY x2 x3 x8 aA.1 aA.2.1 aA.2.2.1 aA.2.2.2).bind λ(aB,aD,aE,_)=>bif(aE != 0)then(some (false,x2,x3,x4,x5,x6,()))else
(gk ax).bind λaF=>
(fU x6 aF).bind λ_=>
(fU x6 aF).bind λaH=>bif(aH.1 != 0)then(some (false,x2,x3,x4,x5,x6,()))else let aI:=wk .i64 az.2.1;
(tO aI aB aD).bind λ(aJ,aK,aL,aM,aO,aP,aQ,aR,_)=>
(gk ax).bind λaS=>
(fU x6 aS).bind λ_=>
(fU x6 aS).bind λ_=>let aV:=x6.modify aS λe=>(aJ,(aK,(aL,(aM,(aO,(aP,(aQ,aR)))))));some (true,x2,x3,x4,x5,aV,()))
def DM:X.Cfg:=⟨E0,[oz,Aa],[],[⟨2,0,qE,[(.ret,⟨[zaa 1,Xaa 8],[(4,zah)],[((4,(5,0)),1),((4,(4,1)),0),((4,(0,0)),0)],([],[])⟩),(.normal,⟨[zaa 1,zaa 4,zaa 6,zaa 7,Xaa 9,Xaa 27],[(4,zah),(10,uab),(14,Uac),(16,Xac)],[((4,(5,0)),1),((4,(4,1)),0),((4,(0,0)),0)],([],[])⟩)]⟩]⟩
def wv:Ctr:=⟨44,65,[.agg uab,.ptr ⟨4,0,[]⟩ [0],.agg Uac,.agg Xac],[(4,zah)],[⟨zab,[.one],[(4,zah),(4,[.dead,.dead,.dead,.dead,.dead])]⟩],as2 (as4 (as8 (as8 ap1))) vJ⟩
theorem Dl:Lk 4 wv:=ls DM (aC qT (aC HM aN))
def zx(a0:LDIn)(a1:LI)(a2:LLI)(a3:LI)(a4:Int)(a5:LDCe)(a6:LDLn)(a7:LDTh)(a8 a9 ek ew eF eH:Int)(eJ eM:LDCn)(eQ eU eX eZ:Int)(fc:LDCn)(ff:Int)(fi:Bool):Option (T1i):=
(xj a0 a1 a2 a3 a4 a5 a6 a7 a8 a9 ek ew eF eH eJ eM eQ eU eX eZ fc ff fi).bind λ(x0,_)=>bif(!x0)then((iF a3 a4 a5 a6 a7).bind λ(x1,x2,x3,x4,x5,_)=>some (x1,x2,x3,x4,x5,false,()))else
(iF a3 a4 a5 a6 a7).bind λ(x1,x2,x3,x4,x5,_)=>
(gk a8).bind λx6=>
(fU x5 x6).bind λ_=>bif(eH==0)then((fU x5 x6).bind λx8=>
(fU eJ 0).bind λx9=>
(fU x5 x6).bind λac=>
(zw x8.1 ac.2.1 x8.2.2.1 x8.2.2.2.1 x8.2.2.2.2.1 x8.2.2.2.2.2.1 x8.2.2.2.2.2.2.1 x8.2.2.2.2.2.2.2 0 x9.2.1).bind λ(ae,af,ag,ah,ai,aj,ak,am,_)=>
(fU x5 x6).bind λ_=>let ap:=x5.modify x6 λe=>(ae,(af,(ag,(ah,(ai,(aj,(ak,am)))))));some (x1,x2,x3,x4,ap,true,()))else bif fi then((fU x5 x6).bind λ_=>let x9:=x5.modify x6 λe=>(3,e.2);some (x1,x2,x3,x4,x9,true,()))else
(iY a3 a4 a1 eQ eU eX eZ).bind λ(x8,x9,ac,_)=>
(bif(ac != 0)then(some (x6,true,a3,a4,a5,a6,a7,a8,a9,ek,ew,eF,eH,eJ,eM,(),0,(),(),(),x1,x2,x3,x4,x5,x8,x9,()))else
(xk a0 a1 a2 a8 a9 ek ew eF eH eJ eM eQ eU eX eZ fc ff fi x1 x2 x3 x4).bind λ(ae,af,ag,ah,ai,_)=>bif(!ae)then(some (x6,true,a3,a4,a5,a6,a7,a8,a9,ek,ew,eF,eH,eJ,eM,(),0,(),(),(),af,ag,ah,ai,x5,x8,x9,()))else
(vJ a0 a1 a2 a8 a9 ek ew eF eH eJ eM eQ eU eX eZ fc ff fi af ag ah ai x5).bind λ(aj,ak,am,an,ap,aq,_)=>
(fU aq x6).bind λ_=>some (x6,(!aj),a3,a4,a5,a6,a7,a8,a9,ek,ew,eF,eH,eJ,eM,(),0,(),(),(),ak,am,an,ap,aq,x8,x9,()):Option (Nat×Bool×LI×Int×LDCe×LDLn×LDTh×Int×Int×Int×Int×Int×Int×LDCn×LDCn×Unit×Int×Unit×Unit×Unit×T1D)).bind λ(ae,af,ag,ah,ai,aj,ak,_,_,_,_,_,_,_,_,_,_,_,_,_,aG,aH,aI,aJ,aK,aL,aM,_)=>bif af then((iF ag ah ai aj ak).bind λ(aO,aP,aQ,aR,aS,_)=>some (aO,aP,aQ,aR,aS,false,()))else
(fU aK ae).bind λ_=>
(fU aK ae).bind λaP=>
(fU aP.2.1 0).bind λ_=>
(fU aK ae).bind λaR=>
(fU aR.2.1 0).bind λ_=>let aT:=aK.modify ae λe=>(e.1,((e.2.1.modify 0 λe=>(aL,aM)),e.2.2));
(fU aT ae).bind λ_=>let aV:=aT.modify ae λe=>(1,e.2);some (aG,aH,aI,aJ,aV,true,())
def IZ:X.Cfg:=⟨E0,[yA,rp,Ab,oz,yB,wv],[],[⟨15,0,qE,[(.normal,(qS (zl [5,8,10]++[(11,.ptr ⟨22,4,[((),(8,0))]⟩ [0,0]),zaa 12,Xaa 77]) [(12,uac),(14,Uac),(18,Zab),(22,zah),(26,Xab)]))]⟩]⟩
def Ax:Ctr:=⟨16,66,[.agg uab,.agg uac,.agg Uac,.agg Xac],[],[⟨Zak,[.agg 5,.one],[]⟩],as2 (as4 (as8 (as8 ap1))) zx⟩
theorem Id:Lk 11 Ax:=ls IZ (aC Fv (aC vR (aC HN (aC qT (aC Fw (aC Dl aN))))))
def oq(a0:LDCe)(a1:LDLn)(a2:Int):Option (T02):=let x0:=w64 (Int.tdiv a2 4);let x1:=Int.tmod x0 4;
(gk x1).bind λx2=>
(fU a1 x2).bind λx3=>bif(x3.1==x0)then(let x4:Int:=(Int.tmod a2 4);
(gk x4).bind λx5=>
(fU x3.2.2 x5).bind λx6=>some (x6.1,x6.2,()))else
(gk a2).bind λx4=>
(fU a0 x4).bind λx5=>some (x5.1,x5.2,())
def IN:X.Cfg:=⟨E0,[],[],[]⟩
def uP:Ctr:=⟨60,67,[.agg yad,shU I64],[],[⟨Xab,[.agg 2],[]⟩],ap3 oq⟩
theorem zP:Lk 1 uP:=ls IN aN
def gL:T29->Option (T29⊕(T0c⊕(LI×T23))):=λ(v0,v1,v2,v3,v4,v5)=>bif(decide (v4<v3))then((match((gk v4).bind λx0=>
(fU v2 x0).bind λx1=>bif(decide (v1>=x1))then((gk v4).bind λx2=>
(fU v0 x2).bind λx3=>let x4:=w64 (x1+x3);bif(decide (v1<x4))then(let x5:Int:=(w64 (v1-x1));some (.inl (true,v4,x5,())))else some (.inr (v0,v1,v4,x1,v2,v3,v4,false,v5)))else some (.inr (v0,v1,v4,x1,v2,v3,v4,false,v5)):Option (T0c⊕(LI×Int×Int×T23)))with
|none=>none
|some (.inl (x0,x1,x2,_))=>some (.inr (.inl (x0,x1,x2,())))
|some (.inr (x0,x1,_,_,x4,x5,x6,_,x8))=>let af:=w64 (x6+1);some (.inl (x0,x1,x4,x5,af,x8))))else some (.inr (.inr (v0,v1,v2,v3,v4,false,v5)))
def gX(a0:LI)(a1:Int)(a2:LI)(a3:Int):Option (T0e):=let x0:=fZ a0.length;
(match gd gL NN (a2,a3,a0,x0,0,a0,a1,0,0,())with
|none=>none
|some (.inl (x1,x2,x3,_))=>some (x2,x3,x1,())
|some (.inr (_,_,_,_))=>some (0,0,false,()))
def Cf:X.Cfg:=⟨E0,[],[],[⟨6,0,qE,[(.ret,qS yav [(14,uad)]),(.normal,qS [sP 1 RI,Uaa 2,zaa 6,Uaa 8,Uaa 9,sP 11 RI,Uaa 12,Uaa 13,Xaa 30] Zao)]⟩,⟨3,1,qS [sP 1 RI,Uaa 2,zaa 6,sP 11 RI,Uaa 12,Uaa 13] Zao,[(.ret,qS yav [(14,uad)]),(.exit 0,qS [sP 1 RI,Uaa 2,zaa 6,sP 11 RI,Uaa 12,Uaa 13,Xaa 14] Zao)]⟩]⟩
def jI:Ctr:=⟨27,68,[.agg Uab,shU RI,shU I64],[],[⟨Xai,[.agg 2,.one],[]⟩],ap4 gX⟩
theorem kY:Lk 1 jI:=ls Cf aN
def jU(a0:LI)(a1:Int)(a2:LI)(a3 a4:Int):Option (T0w):=bif(a3==0)then(some (0,a4,0,0,()))else bif(a3==2)then(let x0:Int:=(wk .u16 (a4-a1));some (2,x0,0,0,()))else let x0:=wk .i64 a4;
(gX a0 a1 a2 x0).bind λ(x1,x2,x3,_)=>bif x3 then(some (1,0,x1,x2,()))else let x4:=wk .i64 a4;some (1,0,(-1),x4,())
def Ge:X.Cfg:=⟨E0,[jI],[],[]⟩
def pB:Ctr:=⟨21,69,[.agg Uab,shU RI,.agg Xab],[],[⟨yag,[.agg 4],[]⟩],ap5 jU⟩
theorem sA:Lk 2 pB:=ls Ge (aC kY aN)
def jk:T2N->Option (T2N⊕(LI×Int×LI×Int×Int×Int×Int×Bool×T1d)):=λ(v0,v1,v2,v3,v4,v5,v6,v7,v8,v9,eu,eE,eG,_)=>bif(decide (v6<v5))then((gk v1).bind λx0=>
(fU v9 x0).bind λx1=>let x2:=w64 (x1+v6);
(oq v7 v8 x2).bind λ(x3,x4,_)=>
(jU v9 eu v0 x3 x4).bind λ(x5,x6,x7,x8,_)=>let x9:LDCn:=[(x5,(x6,(x7,x8)))];bif(gl 24 eG.length x9.length)then let ac:LDCn:=(List.append eG x9);let ae:=w64 (v6+1);some (.inl (v0,v1,v2,v3,v4,v5,ae,v7,v8,v9,eu,eE,ac,()))else none)else some (.inr (v0,v1,v2,v3,v4,v5,v6,false,v7,v8,v9,eu,eE,eG,()))
abbrev z_:=List LDCn
def jj:T2a->Option (T2a⊕(LI×LI×Int×Int×Bool×T0U)):=λ(v0,v1,v2,v3,v4,v5,v6,v7,v8,_)=>bif(decide (v3<v2))then((gk v3).bind λx0=>
(fU v1 x0).bind λx1=>
(gd jk NN (v0,v3,v1,v2,v3,x1,0,v4,v5,v6,v7,v8,[],())).bind λ(x2,_,x4,x5,x6,_,_,_,ac,ae,af,ag,ah,ai,_)=>bif(gl 24 ah.length (List.length [ai]))then let aj:z_:=(List.append ah [ai]);let ak:=w64 (x6+1);some (.inl (x2,x4,x5,ak,ac,ae,af,ag,aj,()))else none)else some (.inr (v0,v1,v2,v3,false,v4,v5,v6,v7,v8,()))
def mT(a0:LDCe)(a1:LDLn)(a2:LI)(a3:Int)(a4:LI):Option (LLCn×Unit):=let x0:=fZ a4.length;
(gd jj NN (a4,a4,x0,0,a0,a1,a2,a3,[],())).bind λ(_,_,_,_,_,_,_,_,_,ac,_)=>some (ac,())
def Ce:X.Cfg:=⟨E0,[uP,pB],[(41,(uaa KCn)),(42,(uaa KCn))],[⟨12,0,qS (sP 2 RI::zl [3,4]++Zaa 7 17::Uaa 8::Zaa 10 23::sP 12 RI::il [13,14,19,20]) uar,[(.exit 2,qS (sP 2 RI::zl [3,4]++Zaa 7 17::Uaa 8::Zaa 10 23::sP 12 RI::il [13,14,19,20]++[Xaa 21]) uar)]⟩,(lx 4 1 (sP 2 RI::zl [3,4]++Zaa 7 17::sP 12 RI::il [13,14]) [(8,yad),(10,Uab),(17,Zai)] 15)]⟩
def uO:Ctr:=⟨29,70,[.agg yad,.agg Uab,shU RI],[],[⟨Zai,[.one],[]⟩],ap5 mT⟩
theorem BT:Lk 3 uO:=ls Ce (aC zP (aC sA aN))
def j8:T3K->Option (T3K⊕(LDTh×Int×Int×LDCe×Int×Int×Bool×T3E)):=λ(v0,v1,v2,v3,v4,v5,v6,v7,v8,v9,eu,eE,eG,eI,eK,eO,eS,eV,eY,fa,fe,fh,fj,fm,fr,fv,fw,fA,fB,fC,fD,fE,fF,fG,_)=>bif(decide (v5<v4))then((gk v5).bind λx0=>
(fU v3 x0).bind λx1=>
(jU v9 eu v7 x1.1 x1.2).bind λ(x2,x3,x4,x5,_)=>let x6:LDCn:=[(x2,(x3,(x4,x5)))];bif(gl 24 fG.length x6.length)then let x7:LDCn:=(List.append fG x6);let x8:=w64 (v5+1);some (.inl (v0,v1,v2,v3,v4,x8,v6,v7,v8,v9,eu,eE,eG,eI,eK,eO,eS,eV,eY,fa,fe,fh,fj,fm,fr,fv,fw,fA,fB,fC,fD,fE,fF,x7,()))else none)else some (.inr (v0,v1,v2,v3,v4,v5,false,v6,v7,v8,v9,eu,eE,eG,eI,eK,eO,eS,eV,eY,fa,fe,fh,fj,fm,fr,fv,fw,fA,fB,fC,fD,fE,fF,fG,()))
def j7:T2T->Option (T2T⊕(LDTh×Int×Int×Bool×T2H)):=λ(v0,v1,v2,v3,v4,v5,v6,v7,v8,v9,eu,eE,eG,eI,eK,_)=>bif(decide (v2<v1))then((gk v2).bind λx0=>
(fU v0 x0).bind λx1=>let x2:=fZ x1.2.1.length;
(gd j8 NN (v0,v1,v2,x1.2.1,x2,0,v3,v4,v5,v6,v7,v8,v9,eu,eE,eG,eI,eK,x1.1,x1.2.1,x1.2.2.1,x1.2.2.2.1,x1.2.2.2.2.1,x1.2.2.2.2.2.1,x1.2.2.2.2.2.2.1,x1.2.2.2.2.2.2.2,x1.1,x1.2.2.1,x1.2.2.2.1,x1.2.2.2.2.1,x1.2.2.2.2.2.1,x1.2.2.2.2.2.2.1,x1.2.2.2.2.2.2.2,[],())).bind λ(x3,x4,x5,_,_,_,_,ac,ae,af,ag,ah,ai,aj,ak,am,an,ap,aq,_,_,_,_,_,_,_,_,aF,aG,aH,aI,aJ,aK,aL,aM,_)=>let aO:LDTs:=[(aF,(aG,(aH,(aI,(aJ,(aK,(aL,aM)))))))];bif(gl 80 aq.length aO.length)then let aP:LDTs:=(List.append aq aO);let aQ:=w64 (x5+1);some (.inl (x3,x4,aQ,ac,ae,af,ag,ah,ai,aj,ak,am,an,ap,aP,()))else none)else some (.inr (v0,v1,v2,false,v3,v4,v5,v6,v7,v8,v9,eu,eE,eG,eI,eK,()))
def mL(a0:LDIn)(a1:LI)(a2:LLI)(a3:LI)(a4:Int)(a5:LDCe)(a6:LDLn)(a7:LDTh):Option (T0a):=
(mT a5 a6 a3 a4 a1).bind λ(x0,_)=>let x1:=fZ a7.length;
(gd j7 NN (a7,x1,0,a0,a1,a2,a3,a4,a5,a6,a7,(),(),x0,[],())).bind λ(_,_,_,_,_,_,_,_,_,_,_,_,_,_,aj)=>some (aj)
def FT:X.Cfg:=⟨E0,[uO,pB],[(63,L3),(64,L3)],[⟨12,0,qS (zl [2,3,4,5,8]++sP 20 lz::il [21,22]++sP 42 gS::il [43,44]) yar,[(.exit 2,qS (zl [2,3,4,5,8]++sP 20 lz::il [21,22]++sP 42 gS::il [43,44]++[Xaa 45]) yar)]⟩,(lx 4 1 (zl [2,3,4,5]++sP 20 lz::il [21,22]) [(6,uab),(8,uac),(10,yac),(12,uag)] 23)]⟩
def sL:Ctr:=⟨10,71,[.agg uab,.agg uac],[],[⟨uag,[.agg 2],[]⟩],as1 (as2 (as4 ap1)) mL⟩
theorem xG:Lk 4 sL:=ls FT (aC BT (aC sA aN))
def o8:f_:=let x0:LDIn:=[(23,(0,(0,(0,2))))];
(mR x0 [4] [[]] [3] 0).bind λ(x1,x2,x3,x4,x5,_,_)=>
(fU x5 0).bind λ_=>
(fU x5 0).bind λ_=>let x9:=x5.modify 0 λe=>(2,e.2);let ac:LDCn:=[(2,(0,(0,0))),(1,(0,(0,1))),(0,(2,(0,0)))];let ae:LDCn:=[(0,(8,(0,0))),(0,(9,(0,0)))];
(zx x0 [4] [[]] x1 x2 x3 x4 x9 0 1 0 0 0 2 ac [] 0 2 0 0 ae (-1) false).bind λ(af,ag,ah,ai,aj,ak,_)=>bif(!ak)then(some (false,()))else let am:=fZ aj.length;bif(am != 4)then(some (false,()))else
(mL x0 [4] [[]] af ag ah ai aj).bind λ(an,ap,_)=>
(fU an 0).bind λ_=>
(fU an 0).bind λ_=>
(fU an 0).bind λax=>
(fU ax 1).bind λ_=>
(fU an 0).bind λaz=>
(fU az 1).bind λaA=>bif(aA.2.1==8)then((fU an 0).bind λ_=>
(fU an 0).bind λ_=>
(fU an 0).bind λaE=>
(fU aE 2).bind λ_=>
(fU an 0).bind λaG=>
(fU aG 2).bind λaH=>bif(aH.2.1==9)then((fU ap 0).bind λ_=>
(fU ap 0).bind λ_=>
(fU ap 0).bind λaK=>
(fU aK.2.2.2.2.2.2.2 0).bind λ_=>
(fU ap 0).bind λaM=>
(fU aM.2.2.2.2.2.2.2 0).bind λaO=>bif(aO.2.1==2)then((fU ap 0).bind λ_=>
(fU ap 0).bind λaQ=>some ((aQ.1==1),()))else some (false,()))else some (false,()))else some (false,())
def Gq:X.Cfg:=⟨E0,[sN,Ax,sL],[(11,(uaa CW))],[]⟩
def yy:Ctr:=⟨15,72,[],[],[⟨zab,[.one],[]⟩],λh=>o8⟩
theorem Ft:Lk 12 yy:=ls Gq (aC xI (aC Id (aC xG aN)))
def mi(a0 a1:Int):h_:=bif(a1 != 0)then let x0:Int:=(Int.tmod a0 a1);
(bif(decide (x0<0))then(let x1:Int:=(w64 (x0+a1));some (x1,()))else some (x0,()):h_).bind λ(x1,_)=>some (x1,())else none
def Ks:X.Cfg:=⟨E0,[],[],[⟨2,0,qE,[(.normal,qS [Uaa 5] [])]⟩]⟩
def wW:Ctr:=⟨31,73,uad,[],[⟨zac,[.one],[]⟩],ap2 mi⟩
theorem BV:Lk 1 wW:=ls Ks aN
def xe(a0 a1:Int):h_:=
(mi a0 a1).bind λ(x0,_)=>some (x0,())
def Rs:X.Cfg:=⟨E0,[wW],[],[]⟩
def GT:Ctr:=⟨12,74,uad,[],[⟨zac,[.one],[]⟩],ap2 xe⟩
theorem Lx:Lk 2 GT:=ls Rs (aC BV aN)
def fV(a0:Int)(a1:LI)(a2:Int):Option (T0h):=let x0:=fZ a1.length;bif(decide (a2>=x0))then(some (0,a1,a2,()))else let x1:=w64 (a2+1);let x2:=w64 (x1-1);
(gk x2).bind λx3=>
(fU a1 x3).bind λx4=>
(xe x4 a0).bind λ(x5,_)=>some (x5,a1,x1,())
def Kw:X.Cfg:=⟨E0,[GT],[],[]⟩
def hJ:Ctr:=⟨28,75,[.ptr ⟨2,0,[]⟩ [0],shU I64],[(2,yab)],[⟨zac,[.one],[(2,yab)]⟩],ap3 fV⟩
theorem ig:Lk 3 hJ:=ls Kw (aC Lx aN)
def t6:T0A->Option (T0A⊕(Int×Bool×T0p)):=λ(v0,v1,v2,v3,_)=>bif(decide (v0>0))then(let x0:v_:=[6,12,32];
(fV 3 v1 v2).bind λ(x1,x2,x3,_)=>
(gk x1).bind λx4=>
(fU x0 x4).bind λ_=>
(fU x0 x4).bind λx6=>
(fV x6 x2 x3).bind λ(x7,x8,x9,_)=>let ac:=w64 (1+x7);bif(gl 8 v3.length (List.length [ac]))then let ae:v_:=(List.append v3 [ac]);let af:=w64 (v0-1);some (.inl (af,x8,x9,ae,()))else none)else some (.inr (v0,false,v1,v2,v3,()))
def qK(a0:LI)(a1:Int):Option (LI×T07):=
(fV 9 a0 a1).bind λ(x0,x1,x2,_)=>let x3:=w64 (4+x0);
(fV 4 x1 x2).bind λ(x4,x5,x6,_)=>
(gd t6 NN (x4,x5,x6,[x3],())).bind λ(_,_,x9,ac,ae,_)=>some (ae,x9,ac,())
def I3:X.Cfg:=⟨E0,[hJ],[],[(lx 4 0 [zaa 0,Zaa 3 9,Uaa 4] [(2,yab),(9,Xae)] 12)]⟩
def Ay:Ctr:=⟨120,76,[.ptr ⟨2,0,[]⟩ [0]],[(2,yab)],[⟨Xae,[.one],[(2,yab)]⟩],ap2 qK⟩
theorem Ie:Lk 4 Ay:=ls I3 (aC ig aN)
def kW(a0:LI)(a1:Int):Option (T0h):=
(fV 5 a0 a1).bind λ(x0,x1)=>
(bif(x0==0)then(some (x0,true,x1))else bif(x0==1)then(some (x0,true,x1))else some (x0,(x0==2),x1):Option (T0v)).bind λ(x3,x4,x5,x6,_)=>bif x4 then((fV 8 x5 x6).bind λ(x7,x8,x9,_)=>let ac:=wk .u16 x7;some (ac,x8,x9,()))else bif(x3==3)then((fV 3 x5 x6).bind λ(x7,x8,x9,_)=>let ac:=w64 (65535-x7);let ae:=wk .u16 ac;some (ae,x8,x9,()))else
(fV 65536 x5 x6).bind λ(x7,x8,x9,_)=>let ac:=wk .u16 x7;some (ac,x8,x9,())
def Kv:X.Cfg:=⟨E0,[hJ],[],[⟨3,0,qE,[(.normal,qS [zaa 0,Uaa 4,Xaa 5] [(2,yab)])]⟩]⟩
def qi:Ctr:=⟨100,77,[.ptr ⟨2,0,[]⟩ [0]],[(2,yab)],[⟨uL [CW],[.one],[(2,yab)]⟩],ap2 kW⟩
theorem sC:Lk 4 qi:=ls Kv (aC ig aN)
def tZ:T0A->Option (T0A⊕(Int×Bool×T0p)):=λ(v0,v1,v2,v3,_)=>bif(decide (v0>0))then((kW v1 v2).bind λ(x0,x1,x2,_)=>bif(gl 2 v3.length (List.length [x0]))then let x3:v_:=(List.append v3 [x0]);let x4:=w64 (v0-1);some (.inl (x4,x1,x2,x3,()))else none)else some (.inr (v0,false,v1,v2,v3,()))
def iZ(a0:Int)(a1:LI)(a2:Int):Option (LI×T07):=let x0:=w64 (a0+1);
(fV x0 a1 a2).bind λ(x1,x2,x3,_)=>
(gd tZ NN (x1,x2,x3,[],())).bind λ(_,_,x6,x7,x8,_)=>some (x8,x6,x7,())
def I2:X.Cfg:=⟨E0,[hJ,qi],[],[(lx 4 0 [zaa 0,Zaa 5 13,Uaa 6] [(2,yab),(13,uL [(uaa CW)])] 12)]⟩
def uW:Ctr:=⟨121,78,[.ptr ⟨2,0,[]⟩ [0],shU I64],[(2,yab)],[⟨uL [(uaa CW)],[.one],[(2,yab)]⟩],ap3 iZ⟩
theorem zR:Lk 5 uW:=ls I2 (aC ig (aC sC aN))
def kV(a0 a1:Int):Option (T0R):=some (1,a0,0,0,a1,())
def TQ:X.Cfg:=⟨E0,[],[],[]⟩
def KR:Ctr:=⟨123,79,uad,[],[⟨Uae,[.agg 5],[]⟩],ap2 kV⟩
theorem Pc:Lk 1 KR:=ls TQ aN
def jV(a0:Int):Option (T0R):=some (23,0,0,0,a0,())
def Rq:X.Cfg:=⟨E0,[],[],[]⟩
def GS:Ctr:=⟨124,80,zac,[],[⟨Uae,[.agg 5],[]⟩],ap1 jV⟩
theorem Lw:Lk 1 GS:=ls Rq aN
def o6(a0 a1:Int):Option (T0R):=some (2,a0,a1,0,0,())
def Rr:X.Cfg:=⟨E0,[],[],[]⟩
def LT:Ctr:=⟨144,81,uad,[],[⟨Uae,[.agg 5],[]⟩],ap2 o6⟩
theorem Rh:Lk 1 LT:=ls Rr aN
def qL(a0 a1:Int)(a2:LI)(a3:Int):Option (Int×T19):=
(fV 25 a2 a3).bind λ(x0,x1,x2,_)=>
(kT x0).bind λ(x3,x4)=>
(bif x3 then((fV 8 x1 x2).bind λ(x7,x8,x9,_)=>some (a0,a1,x8,x9,0,0,0,0,0,x0,x7,0,0,0,x3,x4))else some (a0,a1,x1,x2,0,0,0,0,0,x0,0,0,0,0,x3,x4):Option (T34)).bind λ(x7,x8,x9,ac,ae,af,ag,ah,ai,aj,ak,am,an,ap,aq,av,ax)=>
(bif av then((fV 8 x9 ac).bind λ(az,aA,aB,_)=>some (x7,x8,aA,aB,ae,af,ag,ah,ai,aj,ak,az,an,ap,aq,av,ax))else some (x7,x8,x9,ac,ae,af,ag,ah,ai,aj,ak,am,an,ap,aq,av,ax):Option (T34)).bind λ(az,aA,aB,aD,aE,aF,aG,aH,aI,aJ,aK,aL,aM,aO,aP,aQ,aR,aS,_)=>
(bif aR then((fV 8 aB aD).bind λ(aT,aU,aV,_)=>some (az,aA,aU,aV,aE,aF,aG,aH,aI,aJ,aK,aL,aT,aO,aP,aQ,aR,aS,()))else some (az,aA,aB,aD,aE,aF,aG,aH,aI,aJ,aK,aL,aM,aO,aP,aQ,aR,aS,()):Option (T34)).bind λ(aT,aU,aV,aW,aY,aZ,ba,bc,bd,be,bf,bg,bh,bi,_,_,_,bn,_)=>
((iX be).bind λ(bo,_)=>bif bo then((fV aU aV aW).bind λ(bp,bq,bt,_)=>some (bq,bt,aY,aZ,ba,bc,bd,be,bf,bg,bh,bp,()))else bif(be==15)then((fV aT aV aW).bind λ(bp,bq,bt,_)=>some (bq,bt,aY,aZ,ba,bc,bd,be,bf,bg,bh,bp,()))else bif(be==23)then((fV 16 aV aW).bind λ(bp,bq,bt,_)=>some (bq,bt,aY,aZ,ba,bc,bd,be,bf,bg,bh,bp,()))else bif bn then((kW aV aW).bind λ(bp,bq,bt,_)=>let bv:=wk .i64 bp;some (bq,bt,aY,aZ,ba,bc,bd,be,bf,bg,bh,bv,()))else some (aV,aW,aY,aZ,ba,bc,bd,be,bf,bg,bh,bi,()):Option (LI×Int×Int×T1Z)).bind λ(bo,bp,_,_,_,_,_,bB,bC,bD,bE,bF,_)=>some (bB,bC,bD,bE,bF,bo,bp,())
def I4:X.Cfg:=⟨E0,[hJ,uN,my,qi],[],[⟨3,0,qE,[(.normal,qS Xav uap)]⟩,⟨5,1,qE,[(.normal,qS Xav uap)]⟩,⟨7,2,qE,[(.normal,qS Xav uap)]⟩,⟨9,3,qE,[(.normal,qS (zl [0,6,7]) [(2,yab),(14,Uae),(16,Uae)])]⟩]⟩
def Az:Ctr:=⟨145,82,[.ptr ⟨2,0,[]⟩ [0],shU I64,shU I64],[(2,yab)],[⟨Uae,[.agg 5],[(2,yab)]⟩],ap4 qL⟩
theorem If:Lk 5 Az:=ls I4 (aC ig (aC zO (aC ou (aC sC aN))))
def si(a0:LI)(a1 a2:Int)(a3:LI)(a4:Int):Option (LDIn×T07):=let x0:=fZ a0.length;
(fV x0 a3 a4).bind λ(x1,x2,x3,_)=>
(gk x1).bind λx4=>
(fU a0 x4).bind λx5=>let x6:=w64 (x5+1);let x7:=mmR false 5 x6;
(fV x7 x2 x3).bind λ(x8,x9,ac,_)=>
(kV 2 x8).bind λ(ae,af,ag,ah,ai,_)=>let aj:LDIn:=[(15,(1,(0,(0,x1)))),(ae,(af,(ag,(ah,ai))))];
(fV 20 x9 ac).bind λ(ak,am,an,_)=>bif(ak==0)then((fV 3 am an).bind λ(ap,aq,av,_)=>let ax:=w64 (3+ap);
(kW aq av).bind λ(ay,az,aA,_)=>let aB:=wk .i64 ay;
(kV ax aB).bind λ(aD,aE,aF,aG,aH,_)=>let aI:LDIn:=[(aD,(aE,(aF,(aG,aH))))];some (aI,az,aA,()))else bif(ak==1)then(let ap:v_:=[3,4,5,10,13,14,11,9];
(fV 8 am an).bind λ(aq,av,ax,_)=>
(gk aq).bind λay=>
(fU ap ay).bind λ_=>
(fU ap ay).bind λaA=>
(fV 3 av ax).bind λ(aB,aD,aE,_)=>let aF:=w64 (3+aB);
(fV 3 aD aE).bind λ(aG,aH,aI,_)=>let aJ:=w64 (3+aG);
(fV 3 aH aI).bind λ(aK,aL,aM,_)=>let aO:=w64 (3+aK);let aP:LDIn:=[(aA,(aF,(aJ,(aO,0))))];some (aP,aL,aM,()))else bif(ak==2)then(let ap:LDIn:=[(15,(6,(0,(0,x1))))];some (ap,am,an,()))else bif(ak==3)then((fV 5 am an).bind λ(ap,aq,av,_)=>let ax:=w64 (3+ap);
(gk x1).bind λay=>
(fU a0 ay).bind λaz=>
(fV az aq av).bind λ(aA,aB,aD,_)=>let aE:LDIn:=[(15,(6,(0,(0,x1)))),(17,(6,(ax,(0,aA))))];some (aE,aB,aD,()))else bif(ak==4)then((fV 5 am an).bind λ(ap,aq,av,_)=>let ax:=w64 (3+ap);
(gk x1).bind λay=>
(fU a0 ay).bind λaz=>
(fV az aq av).bind λ(aA,aB,aD,_)=>let aE:LDIn:=[(15,(6,(0,(0,x1)))),(17,(6,(ax,(0,aA))))];some (aE,aB,aD,()))else bif(ak==5)then((fV 4 am an).bind λ(ap,aq,av,_)=>let ax:=w64 (3+ap);
(gk x1).bind λay=>
(fU a0 ay).bind λaz=>
(fV az aq av).bind λ(aA,aB,aD,_)=>let aE:LDIn:=[(15,(6,(0,(0,x1)))),(16,(ax,(6,(0,aA))))];some (aE,aB,aD,()))else bif(ak==6)then((fV 4 am an).bind λ(ap,aq,av,_)=>let ax:=w64 (3+ap);
(gk x1).bind λay=>
(fU a0 ay).bind λaz=>
(fV az aq av).bind λ(aA,aB,aD,_)=>let aE:LDIn:=[(15,(6,(0,(0,x1)))),(16,(ax,(6,(0,aA))))];some (aE,aB,aD,()))else bif(ak==7)then((fV 3 am an).bind λ(ap,aq,av,_)=>
(kV 0 ap).bind λ(ax,ay,az,aA,aB,_)=>let aD:LDIn:=[(ax,(ay,(az,(aA,aB))))];bif(gl 40 aD.length aj.length)then let aE:LDIn:=(List.append aD aj);
(jV 13).bind λ(aF,aG,aH,aI,aJ,_)=>let aK:LDIn:=[(aF,(aG,(aH,(aI,aJ))))];bif(gl 40 aE.length aK.length)then let aL:LDIn:=(List.append aE aK);some (aL,aq,av,())else none else none)else bif(ak==8)then((fV 3 am an).bind λ(ap,aq,av,_)=>
(kV 0 ap).bind λ(ax,ay,az,aA,aB,_)=>let aD:LDIn:=[(ax,(ay,(az,(aA,aB))))];bif(gl 40 aD.length aj.length)then let aE:LDIn:=(List.append aD aj);
(jV 13).bind λ(aF,aG,aH,aI,aJ,_)=>let aK:LDIn:=[(aF,(aG,(aH,(aI,aJ))))];bif(gl 40 aE.length aK.length)then let aL:LDIn:=(List.append aE aK);some (aL,aq,av,())else none else none)else bif(ak==9)then((fV 3 am an).bind λ(ap,aq,av,_)=>
(kV 0 ap).bind λ(ax,ay,az,aA,aB,_)=>let aD:LDIn:=[(ax,(ay,(az,(aA,aB))))];bif(gl 40 aD.length aj.length)then let aE:LDIn:=(List.append aD aj);
(jV 14).bind λ(aF,aG,aH,aI,aJ,_)=>
(o6 3 0).bind λ(aK,aL,aM,aO,aP,_)=>let aQ:LDIn:=[(aF,(aG,(aH,(aI,aJ)))),(aK,(aL,(aM,(aO,aP))))];bif(gl 40 aE.length aQ.length)then let aR:LDIn:=(List.append aE aQ);some (aR,aq,av,())else none else none)else bif(ak==10)then((fV 3 am an).bind λ(ap,aq,av,_)=>
(kV 0 ap).bind λ(ax,ay,az,aA,aB,_)=>
(fV 4 aq av).bind λ(aD,aE,aF,_)=>
(kV 1 aD).bind λ(aG,aH,aI,aJ,aK,_)=>
(jV 3).bind λ(aL,aM,aO,aP,aQ,_)=>
(o6 7 0).bind λ(aR,aS,aT,aU,aV,_)=>let aW:LDIn:=[(ax,(ay,(az,(aA,aB)))),(aG,(aH,(aI,(aJ,aK)))),(aL,(aM,(aO,(aP,aQ)))),(aR,(aS,(aT,(aU,aV))))];some (aW,aE,aF,()))else bif(ak==11)then((o6 0 7).bind λ(ap,aq,av,ax,ay,_)=>let az:LDIn:=[(ap,(aq,(av,(ax,ay))))];bif(gl 40 az.length aj.length)then let aA:LDIn:=(List.append az aj);let aB:v_:=[1,2];
(fV 2 am an).bind λ(aD,aE,aF,_)=>
(gk aD).bind λaG=>
(fU aB aG).bind λ_=>
(fU aB aG).bind λaI=>
(jV aI).bind λ(aJ,aK,aL,aM,aO,_)=>let aP:LDIn:=[(aJ,(aK,(aL,(aM,aO))))];bif(gl 40 aA.length aP.length)then let aQ:LDIn:=(List.append aA aP);some (aQ,aE,aF,())else none else none)else bif(ak==12)then((o6 0 7).bind λ(ap,aq,av,ax,ay,_)=>
(jV 4).bind λ(az,aA,aB,aD,aE,_)=>let aF:LDIn:=[(ap,(aq,(av,(ax,ay)))),(az,(aA,(aB,(aD,aE))))];
(o6 0 7).bind λ(aG,aH,aI,aJ,aK,_)=>
(fV 4 am an).bind λ(aL,aM,aO,_)=>
(kV 1 aL).bind λ(aP,aQ,aR,aS,aT,_)=>
(jV 5).bind λ(aU,aV,aW,aY,aZ,_)=>let ba:LDIn:=[(aG,(aH,(aI,(aJ,aK)))),(aP,(aQ,(aR,(aS,aT)))),(aU,(aV,(aW,(aY,aZ))))];let bc:List LDIn:=[aF,ba];
(fV 2 aM aO).bind λ(bd,be)=>
(gk bd).bind λbg=>
(fU bc bg).bind λ_=>
(fU bc bg).bind λ_=>
(fU bc bg).bind λbj=>some (bj,be))else bif(ak==13)then(let ap:v_:=[6,7,15];
(fV 3 am an).bind λ(aq,av,ax,_)=>
(gk aq).bind λay=>
(fU ap ay).bind λ_=>
(fU ap ay).bind λaA=>
(jV aA).bind λ(aB,aD,aE,aF,aG,_)=>
(fV 3 av ax).bind λ(aH,aI,aJ,_)=>let aK:=w64 (3+aH);
(o6 aK 0).bind λ(aL,aM,aO,aP,aQ,_)=>let aR:LDIn:=[(aB,(aD,(aE,(aF,aG)))),(aL,(aM,(aO,(aP,aQ))))];some (aR,aI,aJ,()))else bif(ak==14)then((fV 3 am an).bind λ(ap,aq,av,_)=>
(kV 0 ap).bind λ(ax,ay,az,aA,aB,_)=>let aD:v_:=[8,9];
(fV 2 aq av).bind λ(aE,aF,aG,_)=>
(gk aE).bind λaH=>
(fU aD aH).bind λ_=>
(fU aD aH).bind λaJ=>
(jV aJ).bind λ(aK,aL,aM,aO,aP,_)=>let aQ:LDIn:=[(ax,(ay,(az,(aA,aB)))),(aK,(aL,(aM,(aO,aP))))];some (aQ,aF,aG,()))else bif(ak==15)then((fV 3 am an).bind λ(ap,aq,av,_)=>
(kV 0 ap).bind λ(ax,ay,az,aA,aB,_)=>let aD:v_:=[8,9];
(fV 2 aq av).bind λ(aE,aF,aG,_)=>
(gk aE).bind λaH=>
(fU aD aH).bind λ_=>
(fU aD aH).bind λaJ=>
(jV aJ).bind λ(aK,aL,aM,aO,aP,_)=>let aQ:LDIn:=[(ax,(ay,(az,(aA,aB)))),(aK,(aL,(aM,(aO,aP))))];some (aQ,aF,aG,()))else bif(ak==16)then((fV a1 am an).bind λ(ap,aq,av,_)=>
(kV 0 ap).bind λ(ax,ay,az,aA,aB,_)=>
(o6 1 3).bind λ(aD,aE,aF,aG,aH,_)=>
(jV 10).bind λ(aI,aJ,aK,aL,aM,_)=>let aO:LDIn:=[(ax,(ay,(az,(aA,aB)))),(aD,(aE,(aF,(aG,aH)))),(aI,(aJ,(aK,(aL,aM))))];some (aO,aq,av,()))else bif(ak==17)then(let ap:v_:=[a1,5];
(fV 2 am an).bind λ(aq,av,ax,_)=>
(gk aq).bind λay=>
(fU ap ay).bind λ_=>
(fU ap ay).bind λaA=>
(fV aA av ax).bind λ(aB,aD,aE,_)=>
(kV 0 aB).bind λ(aF,aG,aH,aI,aJ,_)=>let aK:v_:=[12,11];
(fV 2 aD aE).bind λ(aL,aM,aO,_)=>
(gk aL).bind λaP=>
(fU aK aP).bind λ_=>
(fU aK aP).bind λaR=>
(jV aR).bind λ(aS,aT,aU,aV,aW,_)=>let aY:LDIn:=[(aF,(aG,(aH,(aI,aJ)))),(aS,(aT,(aU,(aV,aW))))];some (aY,aM,aO,()))else bif(ak==18)then((fV 4 am an).bind λ(ap,aq,av,_)=>let ax:=w64 (1+ap);
(kV 5 ax).bind λ(ay,az,aA,aB,aD,_)=>
(kV 4 1).bind λ(aE,aF,aG,aH,aI,_)=>let aJ:=w64 (a2+2);let aK:LDIn:=[(ay,(az,(aA,(aB,aD)))),(aE,(aF,(aG,(aH,aI)))),(4,(5,(5,(4,0)))),(20,(5,(0,(0,aJ))))];some (aK,aq,av,()))else let ap:=fZ a0.length;
(qL ap a1 am an).bind λ(aq,av,ax,ay,az,aA,aB,_)=>let aD:LDIn:=[(aq,(av,(ax,(ay,az))))];some (aD,aA,aB,())
def Ku:X.Cfg:=⟨E0,[hJ,KR,qi,GS,LT,Az],[(156,(uaa KIn))],[]⟩
def CR:Ctr:=⟨122,83,[.ptr ⟨2,0,[]⟩ [0],shU RI,shU I64,shU I64],[(2,yab)],[⟨uL [gR],[.one],[(2,yab)]⟩],ap5 si⟩
theorem Ke:Lk 6 CR:=ls Ku (aC ig (aC Pc (aC sC (aC Lw (aC Rh (aC If aN))))))
def rA:T2l->Option (T2l⊕(Int×Int×Bool×T1U)):=λ(v0,v1,v2,v3,v4,v5,v6,v7,v8,v9,_)=>bif(decide (v1<v0))then((gk v1).bind λx0=>
(fU v8 x0).bind λ_=>
(fU v8 x0).bind λx2=>
(iZ x2 v2 v3).bind λ(x3,x4,x5,_)=>bif(gl 24 v9.length (List.length [x3]))then let x6:List LI:=(List.append v9 [x3]);let x7:=w64 (v1+1);some (.inl (v0,x7,x4,x5,v4,v5,v6,v7,v8,x6,()))else none)else some (.inr (v0,v1,false,v2,v3,v4,v5,v6,v7,v8,v9,()))
def rz:T24->Option (T24⊕T2f):=λ(v0,v1,v2,v3,v4,v5,v6,v7,v8,_)=>bif(decide (v0>0))then((let x0:Int:=(fZ v6.length);let x1:=w64 (x0+1);let x2:=fZ v6.length;
(si v7 x1 x2 v1 v2).bind λ(x3,x4,x5,_)=>let x6:=fZ v6.length;let x7:=fZ x3.length;let x8:=w64 (x6+x7);bif(decide (x8<=62))then(bif(gl 40 v6.length x3.length)then let x9:LDIn:=(List.append v6 x3);some (v0,x4,x5,v3,v4,v5,x9,v7,v8,())else none)else some (v0,x4,x5,v3,v4,v5,v6,v7,v8,()):Option (T24)).bind λ(x0,x1,x2,x3,x4,x5,x6,x7,x8,_)=>let x9:=w64 (x0-1);some (.inl (x9,x1,x2,x3,x4,x5,x6,x7,x8,())))else some (.inr (v0,false,v1,v2,v3,v4,v5,v6,v7,v8,()))
def jF:T2k->Option (T2k⊕(Int×T2f)):=λ(v0,v1,v2,v3,v4,v5,v6,v7,v8)=>bif(decide (v1<v0))then(((gk v1).bind λx0=>
(fU v7 x0).bind λx1=>
(iX x1.1).bind λ(x2,_)=>bif x2 then((gk v1).bind λx3=>
(fU v7 x3).bind λx4=>let x5:=fZ v7.length;bif(decide (x4.2.2.2.2>=x5))then((gk v1).bind λx6=>
(fU v7 x6).bind λ_=>none)else some (v0,v1,v2,v3,v4,v5,v6,v7,v8))else some (v0,v1,v2,v3,v4,v5,v6,v7,v8):Option (T2k)).bind λ(x0,x1,x2,x3,x4,x5,x6,x7,x8)=>let ac:=w64 (x1+1);some (.inl (x0,ac,x2,x3,x4,x5,x6,x7,x8)))else some (.inr (v0,v1,false,v2,v3,v4,v5,v6,v7,v8))
def n6(a0:LI)(a1:Int):Option (LDIn×LI×LLI×T07):=
(qK a0 a1).bind λ(x0,x1,x2,_)=>let x3:=fZ x0.length;
(gd rA NN (x3,0,x1,x2,(),(),(),(),x0,[],())).bind λ(_,_,_,x7,x8,x9,ac,ae,_,ag)=>
(fV 12 x7 x8).bind λ(ai,aj,ak,_)=>let am:=w64 (1+ai);
(gd rz NN (am,aj,ak,x9,ac,ae,[],ag)).bind λ(_,_,aq,av,ax,ay,az,aA,aB)=>
((fV 4 aq av).bind λ(aE,aF,aG,_)=>bif(aE==0)then(let aH:Int:=(fZ aA.length);let aI:=w64 (aH+1);
(fV aI aF aG).bind λ(aJ,aK,aL,_)=>let aM:LDIn:=[(18,(0,(0,(0,aJ))))];bif(gl 40 aA.length aM.length)then let aO:LDIn:=(List.append aA aM);some (aK,aL,ax,ay,az,aO,aB)else none)else bif(aE==1)then(let aH:LDIn:=[(24,(0,(0,(0,0))))];bif(gl 40 aA.length aH.length)then let aI:LDIn:=(List.append aA aH);some (aF,aG,ax,ay,az,aI,aB)else none)else some (aF,aG,ax,ay,az,aA,aB):Option (T1T)).bind λ(aE,aF,aG,aH,aI,aJ,aK,aL,_)=>
(fV 9 aE aF).bind λ(aM,aO,aP,_)=>
(kV 0 aM).bind λ(aQ,aR,aS,aT,aU,_)=>
(jV 0).bind λ(aV,aW,aY,aZ,ba,_)=>let bc:LDIn:=[(aQ,(aR,(aS,(aT,aU)))),(aV,(aW,(aY,(aZ,ba))))];bif(gl 40 aJ.length bc.length)then let bd:LDIn:=(List.append aJ bc);let be:=fZ bd.length;bif(decide (be>64))then(bif(jl 0 64 bd.length)then let bf:LDIn:=(oM bd 0 (Nat.sub 64 0));let bg:=fZ bf.length;
(gd jF NN (bg,0,aO,aP,aG,aH,aI,bf,aK,aL,())).bind λ(_,_,_,bk,bm,_,_,_,bq,bt,bv,_)=>some (bq,bt,bv,bk,bm,())else none)else let bf:=fZ bd.length;
(gd jF NN (bf,0,aO,aP,aG,aH,aI,bd,aK,aL,())).bind λ(_,_,_,bj,bk,_,_,_,bp,bq,bt,_)=>some (bp,bq,bt,bj,bk,())else none
def DQ:X.Cfg:=⟨E0,[Ay,uW,hJ,CR,KR,GS,my],[(24,(uaa CW)),(25,(uaa CW))],[(lx 4 0 (zl [0,2,3]++(13,.pk ⟨8,1,[]⟩ [0,0])::il [14,15]) [(2,yab),(6,Xad),(8,uL [N1,(uaa I64),(uaa (uaa CW))])] 16),⟨14,1,qE,[(.normal,qS Uaw uao)]⟩,⟨11,2,qS Uaw uao,[(.exit 2,qS (zl [0,2,3]++[Uaa 6,Xaa 32]) uao)]⟩,⟨17,3,qE,[(.normal,qS Zau uao)]⟩,⟨29,4,qE,[(.normal,qS Xaw yap)]⟩,⟨26,5,qS Xaw yap,[(.exit 5,qS (zl [0,2,3]++il [101,102]++[Xaa 103]) yap)]⟩]⟩
def wz:Ctr:=⟨92,84,[.ptr ⟨2,0,[]⟩ [0]],[(2,yab)],[⟨yaj,[.agg 3],[(2,yab)]⟩],ap2 n6⟩
theorem Do:Lk 7 wz:=ls DQ (aC Ie (aC zR (aC ig (aC Ke (aC Pc (aC Lw (aC ou aN)))))))
def tX:T2m->Option (T2m⊕(LI×Int×Int×Int×Int×Int×Bool×T0I)):=λ(v0,v1,v2,v3,v4,v5,v6,v7,v8,v9,_)=>bif(decide (v5<v4))then(let x0:Int:=(w64 (v5+v1));bif(v2 != 0)then let x1:Int:=(Int.tmod x0 v2);
(gk x1).bind λx2=>
(fU v8 x2).bind λ_=>
(fU v8 x2).bind λ_=>let x5:=v8.modify x2 λe=>v3;
(gk x1).bind λx6=>
(fU v0 x6).bind λx7=>let x8:=w64 (x7+1);let x9:=w64 (50*v2);bif(x9 != 0)then let ac:Int:=(w64 (Int.tdiv v1 x9));let ae:=Int.tmod ac 40;let af:=w64 (x8+ae);let ag:=w64 (v3+af);let ah:=w64 (v5+1);some (.inl (v0,v1,v2,ag,v4,ah,v6,v7,x5,v9,()))else none else none)else some (.inr (v0,v1,v2,v3,v4,v5,false,v6,v7,v8,v9,()))
def qI(a0:LI)(a1:Int):Option (T0o):=
((iV a0).bind λ(x0,_)=>bif(!x0)then(some (a0,a1,true,(),0,()))else bif(decide (a1<0))then(some (a0,a1,true,(),0,()))else some (a0,a1,(decide (a1>1073741824)),(),0,()):Option (LI×Int×Bool×Unit×Int×Unit)).bind λ(x0,x1,x2,x3,x4,_)=>bif x2 then(some ([],0,1,()))else let x5:=fZ x0.length;
(gk x5).bind λx6=>
(gk x5).bind λx7=>bif(xA x6 x7 1)then let x8:v_:=(List.replicate x6 0);let x9:=w64 (40503*x1);let ac:=wk .u16 x9;bif(x5 != 0)then let ae:Int:=(w64 (Int.tdiv x1 x5));let af:=Int.tmod ae 50;let ag:=w64 (1+af);
(gd tX NN (x0,x1,x5,ag,x5,0,x3,x4,x8,ac,())).bind λ(_,_,_,_,_,_,_,_,_,ax,ay,_)=>some (ax,ay,0,())else none else none
def IU:X.Cfg:=⟨E0,[pC],[],[⟨2,0,qE,[(.normal,(qS [sP 0 RI,Uaa 1,zaa 4,Xaa 21] [(10,uL [N1,CW])]))]⟩,(lx 9 1 (sP 0 RI::Uaa 1::zaa 4::Uaa 6::zaa 7::il [8,36,37]) [(10,uL [N1,CW]),(16,Zaj)] 38)]⟩
def Au:Ctr:=⟨11,85,yab,[],[⟨uL [(uaa I64),CW,I64],[.agg 2,.one],[]⟩],ap2 qI⟩
theorem Ia:Lk 2 Au:=ls IU (aC sB aN)
def pb(a0 a1:LI)(a2:Int):Option (T0G):=
(fV 1048576 a1 a2).bind λ(x0,x1)=>
(qI a0 x0).bind λ(x3,x4,_,_)=>some (x3,x4,x1)
def Gy:X.Cfg:=⟨E0,[hJ,Au],[],[]⟩
def yF:Ctr:=⟨94,86,[.ptr ⟨2,0,[]⟩ [0],shU RI],[(2,yab)],[⟨Zaj,[.agg 2],[(2,yab)]⟩],ap3 pb⟩
theorem FB:Lk 4 yF:=ls Gy (aC ig (aC Ia aN))
def ji(a0 a1 a2 a3:Int):f_:=bif(a0==0)then(bif(a2==0)then(some ((a3==0),()))else some (false,()))else bif(a0==2)then(bif(a2==0)then(some ((a3==0),()))else some (false,()))else bif(a0==1)then(bif(a2==(-1))then(bif(a1==0)then(bif(decide (a3>=0))then(some ((decide (a3<=65535)),()))else some (false,()))else some (false,()))else bif(a1==0)then(bif(decide (a2>=0))then(bif(decide (a2<4))then(bif(decide (a3>=0))then(some ((decide (a3<32)),()))else some (false,()))else some (false,()))else some (false,()))else some (false,()))else some (false,())
def IE:X.Cfg:=⟨E0,[],[],[]⟩
def uI:Ctr:=⟨90,87,[.agg yag],[],[⟨zab,[.one],[]⟩],ap4 ji⟩
theorem zL:Lk 1 uI:=ls IE aN
def je:LDCn×Int×T0l->Option ((LDCn×Int×T0l)⊕((Bool×Unit)⊕(LDCn×Int×LDCn×T0e))):=λ(v0,v1,v2,v3,v4,_)=>bif(decide (v4<v3))then((gk v4).bind λx0=>
(fU v2 x0).bind λx1=>
(ji x1.1 x1.2.1 x1.2.2.1 x1.2.2.2).bind λ(x2,_)=>bif(!x2)then(some (.inr (.inl (false,()))))else let x3:=w64 (v4+1);some (.inl (v0,v1,v2,v3,x3,())))else some (.inr (.inr (v0,v1,v2,v3,v4,false,())))
def g8(a0:LDCn)(a1:Int):f_:=let x0:=fZ a0.length;
(match gd je NN (a0,a1,a0,x0,0,())with
|none=>none
|some (.inl (x1,_))=>some (x1,())
|some (.inr (x1,x2,_))=>let x7:=fZ x1.length;some ((decide (x7<=x2)),()))
def FY:X.Cfg:=⟨E0,[uI],[],[⟨3,0,qS [sP 0 gp,Uaa 1,sP 7 gp,Uaa 8,Uaa 9] [],[(.ret,qS uau []),(.exit 0,qS [sP 0 gp,Uaa 1,sP 7 gp,Uaa 8,Uaa 9,Xaa 10] [])]⟩]⟩
def jn:Ctr:=⟨62,88,uL [gp,I64],[],[⟨zab,[.one],[]⟩],ap2 g8⟩
theorem jZ:Lk 2 jn:=ls FY (aC zL aN)
def lZ:T0Z->Option (T0Z⊕((Bool×Unit)⊕(LLCn×T0Q))):=λ(v0,v1,v2,v3)=>bif(decide (v2<v1))then((gk v2).bind λx0=>
(fU v0 x0).bind λx1=>
(g8 x1 64).bind λ(x2,_)=>bif(!x2)then(some (.inr (.inl (false,()))))else let x3:=w64 (v2+1);some (.inl (v0,v1,x3,v3)))else some (.inr (.inr (v0,v1,v2,false,v3)))
def oD:LDOp×T0z->Option ((LDOp×T0z)⊕((Bool×Unit)⊕(LDOp×T0Q))):=λ(v0,v1,v2,v3,v4,_)=>bif(decide (v2<v1))then((gk v2).bind λx0=>
(fU v0 x0).bind λx1=>
(bif(x1.1==(-1))then(bif(x1.2.1 != 0)then(some (v0,v1,v2,true,v3,v4,x1.1,x1.2.1,x1.2.2,()))else bif x1.2.2 then(some (v0,v1,v2,true,v3,v4,x1.1,x1.2.1,x1.2.2,()))else bif(decide (x1.1<(-1)))then(some (v0,v1,v2,true,v3,v4,x1.1,x1.2.1,x1.2.2,()))else let x2:=fZ v3.length;bif(decide (x1.1>=x2))then(some (v0,v1,v2,true,v3,v4,x1.1,x1.2.1,x1.2.2,()))else bif(decide (x1.1>=0))then(bif(decide (x1.2.1<0))then(some (v0,v1,v2,true,v3,v4,x1.1,x1.2.1,x1.2.2,()))else
(gk x1.1).bind λx3=>
(fU v3 x3).bind λx4=>let x5:=fZ x4.length;some (v0,v1,v2,(decide (x1.2.1>x5)),v3,v4,x1.1,x1.2.1,x1.2.2,()))else some (v0,v1,v2,false,v3,v4,x1.1,x1.2.1,x1.2.2,()))else bif(decide (x1.1<(-1)))then(some (v0,v1,v2,true,v3,v4,x1.1,x1.2.1,x1.2.2,()))else let x2:=fZ v3.length;bif(decide (x1.1>=x2))then(some (v0,v1,v2,true,v3,v4,x1.1,x1.2.1,x1.2.2,()))else bif(decide (x1.1>=0))then(bif(decide (x1.2.1<0))then(some (v0,v1,v2,true,v3,v4,x1.1,x1.2.1,x1.2.2,()))else
(gk x1.1).bind λx3=>
(fU v3 x3).bind λx4=>let x5:=fZ x4.length;some (v0,v1,v2,(decide (x1.2.1>x5)),v3,v4,x1.1,x1.2.1,x1.2.2,()))else some (v0,v1,v2,false,v3,v4,x1.1,x1.2.1,x1.2.2,()):Option (LDOp×Int×Int×Bool×LLCn×LDOp×T0e)).bind λ(x2,x3,x4,x5,x6,x7,_)=>bif x5 then(some (.inr (.inl (false,()))))else let ae:=w64 (x4+1);some (.inl (x2,x3,ae,x6,x7,())))else some (.inr (.inr (v0,v1,v2,false,v3,v4,())))
def mH(a0:z_)(a1:LDOp):f_:=let x0:=fZ a0.length;bif(decide (x0>4))then(some (false,()))else let x1:=fZ a1.length;bif(x1 != 8)then(some (false,()))else let x2:=fZ a0.length;
(match gd lZ NN (a0,x2,0,a0,a1,())with
|none=>none
|some (.inl (x3,_))=>some (x3,())
|some (.inr (_,_,_,_,x7,x8,_))=>let x9:=fZ x8.length;
(match gd oD NN (x8,x9,0,x7,x8,())with
|none=>none
|some (.inl (ac,_))=>some (ac,())
|some (.inr (_,_))=>some (true,())))
def FN:X.Cfg:=⟨E0,[jn],[],[⟨6,0,qS (zaa 1::sP 18 (yaa gp)::il [19,20]) [(4,yae)],[(.ret,qS yau []),(.exit 0,qS [zaa 1,sP 18 (yaa gp),Uaa 19,Uaa 20,Xaa 21] [(4,yae)])]⟩,⟨20,1,qE,[(.normal,qS [zaa 1,sP 29 jo,Uaa 30,Uaa 31,Xaa 81] [(4,yae),(14,Xai)])]⟩,⟨15,2,qS (zaa 1::sP 29 jo::il [30,31]) [(4,yae)],[(.ret,qS yau []),(.exit 2,qS [zaa 1,sP 29 jo,Uaa 30,Uaa 31,Xaa 32] [(4,yae)])]⟩]⟩
def sJ:Ctr:=⟨146,89,[.agg yae],[],[⟨zab,[.one],[]⟩],ap2 mH⟩
theorem xE:Lk 3 sJ:=ls FN (aC jZ aN)
def vI:T1G->Option (T1G⊕(LLI×Int×Int×Bool×T0M)):=λ(v0,v1,v2,v3,v4,v5,v6,_)=>bif(decide (v2<v1))then((gk v2).bind λx0=>
(fU v6 x0).bind λ_=>
(fU v6 x0).bind λ_=>let x3:=v6.modify x0 λe=>((-1),e.2);let x4:=w64 (v2+1);some (.inl (v0,v1,x4,v3,v4,v5,x3,())))else some (.inr (v0,v1,v2,false,v3,v4,v5,v6,()))
def vH:T2A->Option (T2A⊕(LLI×Int×Int×LI×Int×Int×Bool×T13)):=λ(v0,v1,v2,v3,v4,v5,v6,v7,v8,v9,eu,_)=>bif(decide (v5<v4))then((gk v5).bind λx0=>
(fU v3 x0).bind λx1=>let x2:LDCn:=[(0,(x1,(0,0)))];bif(gl 24 eu.length x2.length)then let x3:LDCn:=(List.append eu x2);let x4:=w64 (v5+1);some (.inl (v0,v1,v2,v3,v4,x4,v6,v7,v8,v9,x3,()))else none)else some (.inr (v0,v1,v2,v3,v4,v5,false,v6,v7,v8,v9,eu,()))
def vG:T1F->Option (T1F⊕(LLI×T1r)):=λ(v0,v1,v2,v3,v4,v5,v6,_)=>bif(decide (v2<v1))then((gk v2).bind λx0=>
(fU v0 x0).bind λx1=>let x2:=fZ x1.length;
(gd vH NN (v0,v1,v2,x1,x2,0,v3,v4,v5,v6,[],())).bind λ(x3,x4,x5,_,_,_,_,ac,ae,af,ag,ah,_)=>bif(gl 24 af.length (List.length [ah]))then let ai:z_:=(List.append af [ah]);let aj:=w64 (x5+1);some (.inl (x3,x4,aj,ac,ae,ai,ag,()))else none)else some (.inr (v0,v1,v2,false,v3,v4,v5,v6,()))
def r8(a0:LLI):Option (LLCn×LDOp×Int×Unit):=bif(xA 8 8 3)then let x0:LDOp:=(List.replicate 8 (0,(0,false)));let x1:=fZ x0.length;
(gd vI NN (a0,x1,0,(),(),(),x0,())).bind λ(x2,_,_,_,x6,x7,_,x9,_)=>let ac:=fZ x2.length;
(gd vG NN (x2,ac,0,x6,x7,[],x9,())).bind λ(_,_,_,_,_,_,ak,am,_)=>
(mH ak am).bind λ(an,_)=>bif(!an)then(some ([],[],3,()))else some (ak,am,0,())else none
def Ki:X.Cfg:=⟨E0,[sJ],[(46,(uaa KCn)),(47,(uaa KCn))],[(lx 4 0 (sP 0 (yaa RW)::zl [2,4]++il [15,16]) [(6,yac),(10,uL [N1,(uaa KOp)])] 17),⟨19,1,qS (zl [2,4]++Zaa 8 19::sP 25 (yaa RW)::il [26,27]++sP 31 RW::il [32,33]) zar,[(.exit 4,qS (zl [2,4]++Zaa 8 19::sP 25 (yaa RW)::il [26,27]++sP 31 RW::il [32,33]++[Xaa 34]) zar)]⟩,⟨11,2,qS (zl [2,4]++sP 25 (yaa RW)::il [26,27]) [(6,yac),(10,zaf)],[(.exit 2,qS (zl [2,4]++sP 25 (yaa RW)::il [26,27]++[Xaa 28]) [(6,yac),(10,zaf)])]⟩]⟩
def CJ:Ctr:=⟨151,90,uL [(yaa RW)],[],[⟨yal,[.agg 2,.one],[]⟩],ap1 r8⟩
theorem J6:Lk 4 CJ:=ls Ki (aC xE aN)
def iH:LLI×Int×Int×LLI×Unit->Option ((LLI×Int×Int×LLI×Unit)⊕(LLI×Int×Int×Bool×LLI×Unit)):=λ(v0,v1,v2,v3,_)=>bif(decide (v2<v1))then((gk v2).bind λx0=>
(fU v0 x0).bind λx1=>bif(gl 2 0 x1.length)then let x2:v_:=(List.append [] x1);bif(gl 24 v3.length (List.length [x2]))then let x3:List LI:=(List.append v3 [x2]);let x4:=w64 (v2+1);some (.inl (v0,v1,x4,x3,()))else none else none)else some (.inr (v0,v1,v2,false,v3,()))
def iN(a0:LLI):Option (LLI×Unit):=let x0:=fZ a0.length;
(gd iH NN (a0,x0,0,[],())).bind λ(_,_,_,_,x5,_)=>some (x5,())
def xR:X.Cfg:=⟨E0,[],[(15,(uaa CW)),(16,(uaa CW))],[(lx 4 0 (Zaa 3 9::sP 6 (yaa RW)::il [7,8]) [(9,zaj)] 9)]⟩
def kI:Ctr:=⟨148,91,uL [(yaa RW)],[],[⟨zaj,[.one],[]⟩],ap1 iN⟩
theorem ng:Lk 1 kI:=ls xR aN
def kC:LDOu×T02->Option ((LDOu×T02)⊕((Bool×Unit)⊕(LDOu×T0e))):=λ(v0,v1,v2,_)=>bif(decide (v2<v1))then((gk v2).bind λx0=>
(fU v0 x0).bind λx1=>
(bif(x1.1 != v2)then(some (v0,v1,v2,true,()))else bif(decide (x1.2.1<0))then(some (v0,v1,v2,true,()))else bif(decide (x1.2.1>=2))then(some (v0,v1,v2,true,()))else let x2:=fZ x1.2.2.length;some (v0,v1,v2,(decide (x2>16)),()):Option (LDOu×T0e)).bind λ(x2,x3,x4,x5,_)=>bif x5 then(some (.inr (.inl (false,()))))else let x6:=w64 (x4+1);some (.inl (x2,x3,x6,())))else some (.inr (.inr (v0,v1,v2,false,())))
def mG(a0:LDOu):f_:=let x0:=fZ a0.length;
(match gd kC NN (a0,x0,0,())with
|none=>none
|some (.inl (x1,_))=>some (x1,())
|some (.inr (_,_))=>some (true,()))
def Ca:X.Cfg:=⟨E0,[],[],[⟨8,0,qE,[(.normal,qS [sP 5 lc,Uaa 6,Uaa 7,Xaa 31] [])]⟩,⟨3,1,qS (sP 5 lc::il [6,7]) [],[(.ret,qS yau []),(.exit 0,qS [sP 5 lc,Uaa 6,Uaa 7,Xaa 8] [])]⟩]⟩
def uD:Ctr:=⟨147,92,uL [lc],[],[⟨zab,[.one],[]⟩],ap1 mG⟩
theorem BM:Lk 1 uD:=ls Ca aN
def lY:T2d->Option (T2d⊕((Bool×Unit)⊕(LLI×T1W))):=λ(v0,v1,v2,v3)=>bif(decide (v2<v1))then((gk v2).bind λx0=>
(fU v0 x0).bind λx1=>let x2:=fZ x1.length;bif(decide (x2>64))then(some (.inr (.inl (false,()))))else let x3:=w64 (v2+1);some (.inl (v0,v1,x3,v3)))else some (.inr (.inr (v0,v1,v2,false,v3)))
def lX:T27->Option (T27⊕((Bool×Unit)⊕(LDOu×T1W))):=λ(v0,v1,v2,v3)=>bif(decide (v2<v1))then((gk v2).bind λx0=>
(fU v0 x0).bind λx1=>
(g8 x1.2.2 16).bind λ(x2,_)=>bif(!x2)then(some (.inr (.inl (false,()))))else let x3:=w64 (v2+1);some (.inl (v0,v1,x3,v3)))else some (.inr (.inr (v0,v1,v2,false,v3)))
def lj(a0 a1:LI)(a2:LLI)(a3:z_)(a4:LDOp)(a5:LDOu):f_:=let x0:=fZ a2.length;
(match gd lY NN (a2,x0,0,a0,a1,a2,a3,a4,a5,())with
|none=>none
|some (.inl (x1,_))=>some (x1,())
|some (.inr (_,_,_,_,x5,x6,x7,x8,x9,ac,_))=>let ae:=fZ ac.length;
(match gd lX NN (ac,ae,0,x5,x6,x7,x8,x9,ac,())with
|none=>none
|some (.inl (af,_))=>some (af,())
|some (.inr (_,_,_,_,aj,ak,am,an,ap,aq,_))=>let av:=fZ aj.length;bif(decide (av<=64))then(let ax:Int:=(fZ ak.length);bif(decide (ax<=64))then(let ay:Int:=(fZ am.length);bif(decide (ay<=2))then((mH an ap).bind λ(az,_)=>bif az then(let aA:Int:=(fZ aq.length);bif(decide (aA<=200))then((mG aq).bind λ(aB,_)=>some (aB,()))else some (false,()))else some (false,()))else some (false,()))else some (false,()))else some (false,())))
def FJ:X.Cfg:=⟨E0,[jn,sJ,uD],[],[⟨3,0,qS (zaa 1::sP 8 (yaa RW)::il [9,10]) [(4,Zag)],[(.ret,qS yau []),(.exit 0,qS [zaa 1,sP 8 (yaa RW),Uaa 9,Uaa 10,Xaa 11] [(4,Zag)])]⟩,⟨12,1,qS (zaa 1::sP 19 lc::il [20,21]) [(4,Zag)],[(.ret,qS yau []),(.exit 2,qS [zaa 1,sP 19 lc,Uaa 20,Uaa 21,Xaa 22] [(4,Zag)])]⟩]⟩
def px:Ctr:=⟨125,93,[.agg Zag],[],[⟨zab,[.one],[]⟩],ap6 lj⟩
theorem su:Lk 4 px:=ls FJ (aC jZ (aC xE (aC BM aN)))
def r7(a0 a1:LLI)(a2 a3:LI):Option (LI×LI×LLI×LLCn×LDOp×Unit×Int×Unit):=
(r8 a0).bind λ(x0,x1,x2,_)=>bif(x2 != 0)then(some ([],[],[],[],[],(),x2,()))else bif(gl 2 0 a2.length)then let x3:v_:=(List.append [] a2);bif(gl 2 0 a3.length)then let x4:v_:=(List.append [] a3);
(iN a1).bind λ(x5,_)=>
(lj x3 x4 x5 x0 x1 []).bind λ(x6,_)=>bif(!x6)then(some ([],[],[],[],[],(),3,()))else some (x3,x4,x5,x0,x1,(),0,())else none else none
def FL:X.Cfg:=⟨E0,[CJ,kI,px],[],[]⟩
def yb:Ctr:=⟨129,94,uL [(yaa RW),(yaa RW),RW,RW],[],[⟨uL [RW,RW,(yaa RW),(yaa gp),jo,N1,I64],[.agg 6,.one],[]⟩],ap4 r7⟩
theorem E8:Lk 5 yb:=ls FL (aC J6 (aC ng (aC su aN)))
def n7(a0:LI)(a1:Int):Option (LI×LI×LLI×LLCn×LDOp×Unit×T07):=
(iZ 5 a0 a1).bind λ(x0,x1,x2,_)=>
(iZ 3 x1 x2).bind λ(x3,x4,x5,_)=>let x6:List LI:=[x0,x3];
(iZ 8 x4 x5).bind λ(x7,x8,x9,_)=>
(iZ 4 x8 x9).bind λ(ac,ae,af,_)=>let ag:List LI:=[x7,ac];
(iZ 5 ae af).bind λ(ah,ai,aj,_)=>
(iZ 5 ai aj).bind λ(ak,am)=>
(r7 x6 ag ah ak).bind λ(ap,aq,av,ax,ay,az,_,_)=>some (ap,aq,av,ax,ay,az,am)
def DR:X.Cfg:=⟨E0,[uW,yb],[(10,(uaa CW)),(15,(uaa CW))],[]⟩
def wA:Ctr:=⟨95,95,[.ptr ⟨2,0,[]⟩ [0]],[(2,yab)],[⟨uL [RW,RW,(yaa RW),(yaa gp),jo,N1],[.agg 6],[(2,yab)]⟩],ap2 n7⟩
theorem Dp:Lk 6 wA:=ls DR (aC zR (aC E8 aN))
def hY(a0:LI)(a1 a2:Int):f_:=bif(decide (a1>=0))then(let x0:Int:=(fZ a0.length);bif(decide (a1<x0))then(bif(decide (a2>=0))then((gk a1).bind λx1=>
(fU a0 x1).bind λx2=>some ((decide (a2<x2)),()))else some (false,()))else some (false,()))else some (false,())
def DG:X.Cfg:=⟨E0,[],[],[]⟩
def lT:Ctr:=⟨63,96,[shU RI,.agg uad],[],[⟨zab,[.one],[]⟩],ap3 hY⟩
theorem od:Lk 1 lT:=ls DG aN
def ir(a0:LI)(a1 a2 a3 a4:Int):f_:=bif(a1==0)then(bif(a3==0)then(some ((a4==0),()))else some (false,()))else bif(a1==2)then(bif(a3==0)then(some ((a4==0),()))else some (false,()))else bif(a1==1)then(bif(a2==0)then((hY a0 a3 a4).bind λ(x0,_)=>some (x0,()))else some (false,()))else some (false,())
def DF:X.Cfg:=⟨E0,[lT],[],[]⟩
def lS:Ctr:=⟨35,97,[shU RI,.agg yag],[],[⟨zab,[.one],[]⟩],ap5 ir⟩
theorem oc:Lk 2 lS:=ls DF (aC od aN)
def li:T2b->Option (T2b⊕((Bool×Unit)⊕(LI×LLCn×Int×Int×LDCn×T0Q))):=λ(v0,v1,v2,v3,v4,v5,v6,v7)=>bif(decide (v6<v5))then((gk v6).bind λx0=>
(fU v4 x0).bind λx1=>
(ir v0 x1.1 x1.2.1 x1.2.2.1 x1.2.2.2).bind λ(x2,_)=>bif(!x2)then(some (.inr (.inl (false,()))))else let x3:=w64 (v6+1);some (.inl (v0,v1,v2,v3,v4,v5,x3,v7)))else some (.inr (.inr (v0,v1,v2,v3,v4,v5,v6,false,v7)))
def lh:LI×T0Z->Option ((LI×T0Z)⊕((Bool×Unit)⊕(LI×LLCn×T0Q))):=λ(v0,v1,v2,v3,v4)=>bif(decide (v3<v2))then((gk v3).bind λx0=>
(fU v1 x0).bind λx1=>let x2:=fZ x1.length;
(match gd li NN (v0,v1,v2,v3,x1,x2,0,v4)with
|none=>none
|some (.inl (x3,_))=>some (.inr (.inl (x3,())))
|some (.inr (x3,x4,x5,x6,_,_,_,_,ae))=>let ag:=w64 (x6+1);some (.inl (x3,x4,x5,ag,ae))))else some (.inr (.inr (v0,v1,v2,v3,false,v4)))
def nT(a0:LI)(a1:z_)(a2:LDOp):f_:=let x0:=fZ a1.length;
(match gd lh NN (a0,a1,x0,0,a1,a2,())with
|none=>none
|some (.inl (x1,_))=>some (x1,())
|some (.inr (_,_))=>some (true,()))
def Dx:X.Cfg:=⟨E0,[lS],[],[⟨9,0,qS (sP 0 RI::sP 10 (yaa gp)::il [11,12]++sP 16 gp::il [17,18]) [(8,yae)],[(.ret,qS uau []),(.exit 2,qS [sP 0 RI,sP 10 (yaa gp),Uaa 11,Uaa 12,sP 16 gp,Uaa 17,Uaa 18,Xaa 19] [(8,yae)])]⟩,⟨3,1,qS (sP 0 RI::sP 10 (yaa gp)::il [11,12]) [(8,yae)],[(.ret,qS uau []),(.exit 0,qS [sP 0 RI,sP 10 (yaa gp),Uaa 11,Uaa 12,Xaa 13] [(8,yae)])]⟩]⟩
def wg:Ctr:=⟨126,98,[shU RI,.agg yae],[],[⟨zab,[.one],[]⟩],ap3 nT⟩
theorem Db:Lk 3 wg:=ls Dx (aC oc aN)
def kN:T2c->Option (T2c⊕(LLCn×T1Y)):=λ(v0,v1,v2,v3,v4,v5,v6,v7,v8,_)=>bif(decide (v2<v1))then((gk v2).bind λx0=>
(fU v0 x0).bind λx1=>bif(gl 24 0 x1.length)then let x2:LDCn:=(List.append [] x1);bif(gl 24 v7.length (List.length [x2]))then let x3:z_:=(List.append v7 [x2]);let x4:=w64 (v2+1);some (.inl (v0,v1,x4,v3,v4,v5,v6,x3,v8,()))else none else none)else some (.inr (v0,v1,v2,false,v3,v4,v5,v6,v7,v8,()))
def jg(a0:z_)(a1:LDOp):Option (T09):=bif(gl 24 0 a1.length)then let x0:LDOp:=(List.append [] a1);let x1:=fZ a0.length;
(gd kN NN (a0,x1,0,a0,a1,(),(),[],x0,())).bind λ(_,_,_,_,_,_,_,_,ac)=>some (ac)else none
def Iw:X.Cfg:=⟨E0,[],[(21,(uaa KCn)),(22,(uaa KCn))],[(lx 4 0 (zl [2,3]++sP 11 (yaa gp)::il [12,13]) [(4,yae),(6,yac),(8,zaf)] 14)]⟩
def lb:Ctr:=⟨149,99,[.agg yae],[],[⟨zaf,[.agg 2],[]⟩],ap2 jg⟩
theorem mt:Lk 1 lb:=ls Iw aN
def kL:LDOu×Int×Int×LDOu×Unit->Option ((LDOu×Int×Int×LDOu×Unit)⊕(LDOu×Int×Int×Bool×LDOu×Unit)):=λ(v0,v1,v2,v3,_)=>bif(decide (v2<v1))then((gk v2).bind λx0=>
(fU v0 x0).bind λx1=>bif(gl 24 0 x1.2.2.length)then let x2:LDCn:=(List.append [] x1.2.2);let x3:LDOu:=[(x1.1,(x1.2.1,x2))];bif(gl 40 v3.length x3.length)then let x4:LDOu:=(List.append v3 x3);let x5:=w64 (v2+1);some (.inl (v0,v1,x5,x4,()))else none else none)else some (.inr (v0,v1,v2,false,v3,()))
def kM(a0:LDOu):Option (LDOu×Unit):=let x0:=fZ a0.length;
(gd kL NN (a0,x0,0,[],())).bind λ(_,_,_,_,x5,_)=>some (x5,())
def Ir:X.Cfg:=⟨E0,[],[(18,Jw),(19,Jw)],[(lx 4 0 (Zaa 3 9::sP 6 lc::il [7,8]) [(9,uak)] 9)]⟩
def uE:Ctr:=⟨150,100,uL [lc],[],[⟨uak,[.one],[]⟩],ap1 kM⟩
theorem zJ:Lk 1 uE:=ls Ir aN
def qv(a0 a1:LI)(a2:LLI)(a3:z_)(a4:LDOp)(a5:LDOu):Option (T1k):=bif(gl 2 0 a0.length)then let x0:v_:=(List.append [] a0);bif(gl 2 0 a1.length)then let x1:v_:=(List.append [] a1);
(iN a2).bind λ(x2,_)=>
(jg a3 a4).bind λ(x3,x4,_)=>
(kM a5).bind λ(x5,_)=>some (x0,x1,x2,x3,x4,x5,())else none else none
def Io:X.Cfg:=⟨E0,[kI,lb,uE],[],[]⟩
def uB:Ctr:=⟨127,101,[.agg Zag],[],[⟨yak,[.agg 6],[]⟩],ap6 qv⟩
theorem zI:Lk 2 uB:=ls Io (aC ng (aC mt (aC zJ aN)))
def C3:T1a->Option (T1a⊕T1q):=λ(v0,v1,v2,v3,v4,v5,_)=>bif(decide (v1<v0))then((gk v1).bind λx0=>
(fU v4 x0).bind λ_=>
(fU v4 x0).bind λ_=>let x3:=v4.modify x0 λe=>(-1);let x4:=w64 (v1+1);some (.inl (v0,x4,v2,v3,x3,v5,())))else some (.inr (v0,v1,false,v2,v3,v4,v5,()))
def wC:Option (T08):=bif(xA 4 4 1)then let x0:v_:=(List.replicate 4 0);bif(xA 4 4 1)then let x1:List LI:=(List.replicate 4 []);let x2:=fZ x0.length;
(gd C3 NN (x2,0,(),(),x0,x1,())).bind λ(_,_,_,_,_,x8)=>some (x8)else none else none
def Kk:X.Cfg:=⟨E0,[],[(4,(uaa I64))],[(lx 4 0 (zl [0,1]++il [8,9]) [(2,yac),(4,yaf)] 10)]⟩
def CK:Ctr:=⟨128,102,[],[],[⟨yaf,[.agg 2],[]⟩],λh=>wC⟩
theorem J7:Lk 1 CK:=ls Kk aN
def AE:T3T->Option (T3T⊕(Int×Bool×T3Q)):=λ(v0,v1,v2,v3,v4,v5,v6,v7,v8,v9,eu,eE,eG,eI,eK,eO,eS,eV,eY,fa,fe,fh,fj,fm,fr,fv,fw,fA,fB,fC,fD,fE,fF,fG,fH,fI,fJ,_)=>bif(decide (v0<4))then(bif(gl 8 fJ.length (List.length [(-1)]))then let x0:v_:=(List.append fJ [(-1)]);let x1:=w64 (v0+1);some (.inl (x1,v1,v2,v3,v4,v5,v6,v7,v8,v9,eu,eE,eG,eI,eK,eO,eS,eV,eY,fa,fe,fh,fj,fm,fr,fv,fw,fA,fB,fC,fD,fE,fF,fG,fH,fI,x0,()))else none)else some (.inr (v0,false,v1,v2,v3,v4,v5,v6,v7,v8,v9,eu,eE,eG,eI,eK,eO,eS,eV,eY,fa,fe,fh,fj,fm,fr,fv,fw,fA,fB,fC,fD,fE,fF,fG,fH,fI,fJ,()))
def rZ(a0:LDIn)(a1:LI)(a2:LLI)(a3:LI)(a4:Int)(a5 a6:LI)(a7:LLI)(a8:z_)(a9:LDOp)(ek:LDOu):Option (LDIn×LI×LLI×LI×Int×LDCe×LDLn×LDTh×LI×LI×LLI×LLCn×LDOp×LDOu×LI×LLI×Unit×T07):=
(mR a0 a1 a2 a3 a4).bind λ(x0,x1,x2,x3,x4,x5,_)=>bif(x5 != 0)then(some ([],[],[],[],0,[],[],[],[],[],[],[],[],[],[],[],(),[],x5,()))else
(lj a5 a6 a7 a8 a9 ek).bind λ(x6,_)=>bif(!x6)then(some ([],[],[],[],0,[],[],[],[],[],[],[],[],[],[],[],(),[],1,()))else
(nT a1 a8 a9).bind λ(x7,_)=>bif(!x7)then(some ([],[],[],[],0,[],[],[],[],[],[],[],[],[],[],[],(),[],1,()))else
(qv a5 a6 a7 a8 a9 ek).bind λ(x8,x9,ac,ae,af,ag,_)=>
(wC).bind λ(ah,ai,_)=>
(gd AE NN (0,(),(),(),(),0,(),(),(),(),(),(),(),(),(),(),(),(),(),a0,a1,a2,x0,x1,x2,x3,x4,x8,x9,ac,ae,af,ag,ah,ai,(),[],())).bind λ(_,_,_,_,_,_,_,_,_,_,_,_,_,_,_,_,_,_,_,_,aL,aM,aO,aP,aQ,aR,aS,aT,aU,aV,aW,aY,aZ,ba,bc,bd,be,bf,_)=>some (aL,aM,aO,aP,aQ,aR,aS,aT,aU,aV,aW,aY,aZ,ba,bc,bd,be,bf,0,())
def FH:X.Cfg:=⟨E0,[sN,px,wg,uB,CK],[],[(lx 11 0 [zaa 6,zaa 10,Uaa 39] [(14,Zae),(22,uL [gR,RI,(yaa RW),RI,CW,gS,iu,qk,(uaa CW),(uaa CW),(uaa (uaa CW)),(uaa (uaa KCn)),(uaa KOp),(uaa Jw),(uaa I64),(uaa (uaa I64)),N1,(uaa I64)])] 40)]⟩
def ya:Ctr:=⟨93,103,[.agg uab,.agg Uab,.agg Zag],[],[⟨uL [gR,RI,(yaa RW),RI,CW,gS,iu,qk,(uaa CW),(uaa CW),(uaa (uaa CW)),(uaa (uaa KCn)),(uaa KOp),(uaa Jw),(uaa I64),(uaa (uaa I64)),N1,(uaa I64),I64],[.agg 18,.one],[]⟩],as2 (as8 ap1) rZ⟩
theorem E7:Lk 5 ya:=ls FH (aC xI (aC su (aC Db (aC zI (aC J7 aN)))))
def pd(a0:LI)(a1:Int):Option (T0P):=
(fV 4 a0 a1).bind λ(x0,x1,x2,_)=>let x3:v_:=[0,1,2,3,7,63];
(fV 6 x1 x2).bind λ(x4,x5,x6,_)=>
(gk x4).bind λx7=>
(fU x3 x7).bind λ_=>
(fU x3 x7).bind λx9=>
(fV 4 x5 x6).bind λ(ac,ae)=>some (x0,x9,(ac==0),ae)
def Gz:X.Cfg:=⟨E0,[hJ],[],[]⟩
def yG:Ctr:=⟨97,104,[.ptr ⟨2,0,[]⟩ [0]],[(2,yab)],[⟨Xai,[.agg 3],[(2,yab)]⟩],ap2 pd⟩
theorem FC:Lk 4 yG:=ls Gz (aC ig aN)
def ke:T0D->Option (T0D⊕(LDTh×Int×Int×T00)):=λ(v0,v1,v2,v3,_)=>bif(decide (v2<v1))then(((gk v2).bind λx0=>
(fU v0 x0).bind λx1=>bif(x1.1==1)then(bif(gl 8 v3.length (List.length [v2]))then let x2:v_:=(List.append v3 [v2]);some (v0,v1,v2,x2,())else none)else some (v0,v1,v2,v3,()):Option (T0D)).bind λ(x0,x1,x2,x3,_)=>let x4:=w64 (x2+1);some (.inl (x0,x1,x4,x3,())))else some (.inr (v0,v1,v2,false,v3,()))
def oW(a0:LDTh):Option (LI×Unit):=let x0:=fZ a0.length;
(gd ke NN (a0,x0,0,[],())).bind λ(_,_,_,_,x5,_)=>some (x5,())
def F2:X.Cfg:=⟨E0,[],[],[⟨7,0,qE,[(.normal,qS Zaw [(9,Xae)])]⟩,(lx 4 1 Zaw [(9,Xae)] 9)]⟩
def yk:Ctr:=⟨130,105,uL [lz],[],[⟨Xae,[.one],[]⟩],ap1 oW⟩
theorem Fh:Lk 1 yk:=ls F2 aN
def nU(a0:LDIn)(a1:LI)(a2:LLI)(a3:LI)(a4:Int)(a5:LDCe)(a6:LDLn)(a7:LDTh)(a8 a9:LI)(ek:LLI)(ew:z_)(eF:LDOp)(eH:LDOu)(eJ:LI)(eM:LLI)(eQ:LDEn)(eU:LI):Option (T36):=bif(gl 8 0 eU.length)then let x0:v_:=(List.append [] eU);bif(gl 184 0 eQ.length)then let x1:LDEn:=(List.append [] eQ);some (a0,a1,a2,a3,a4,a5,a6,a7,a8,a9,ek,ew,eF,eH,eJ,eM,x1,x0,())else none else none
def Dy:X.Cfg:=⟨E0,[],[(9,P2)],[]⟩
def wh:Ctr:=⟨131,106,[.agg Zah],[],[⟨zal,[.agg 18],[]⟩],as1 (as8 (as8 ap1)) nU⟩
theorem Dc:Lk 1 wh:=ls Dy aN
def pO(a0:LI)(a1:Int)(a2:LDCe)(a3:LDLn)(a4:LDTh)(a5:Int):f_:=bif(decide (a5<0))then(some (false,()))else let x0:=fZ a4.length;bif(decide (a5>=x0))then(some (false,()))else
(gk a5).bind λx1=>
(fU a4 x1).bind λx2=>bif(x2.1==1)then(bif(x2.2.2.2.2.1 != (-1))then(some ((x2.2.2.2.2.2.1==(-1)),()))else some (false,()))else some (false,())
def Kj:X.Cfg:=⟨E0,[],[],[]⟩
def wU:Ctr:=⟨132,107,[.agg uac,shU I64],[],[⟨zab,[.one],[]⟩],ap6 pO⟩
theorem BO:Lk 1 wU:=ls Kj aN
def kU:T26->Option (T26⊕(LDLn×Int×Int×Bool×T1e)):=λ(v0,v1,v2,v3,v4,v5,v6,v7,v8,_)=>bif(decide (v2<v1))then((gk v2).bind λx0=>
(fU v0 x0).bind λx1=>bif(gl 4 0 x1.2.2.length)then let x2:LDCe:=(List.append [] x1.2.2);let x3:LDLn:=[(x1.1,(x1.2.1,x2))];bif(gl 40 v8.length x3.length)then let x4:LDLn:=(List.append v8 x3);let x5:=w64 (v2+1);some (.inl (v0,v1,x5,v3,v4,v5,v6,v7,x4,()))else none else none)else some (.inr (v0,v1,v2,false,v3,v4,v5,v6,v7,v8,()))
def qG(a0:LDCe)(a1:LDLn):Option (T05):=bif(gl 4 0 a0.length)then let x0:LDCe:=(List.append [] a0);let x1:=fZ a1.length;
(gd kU NN (a1,x1,0,a0,a1,(),(),x0,[],())).bind λ(_,_,_,_,_,_,_,_,ac)=>some (ac)else none
def IS:X.Cfg:=⟨E0,[],[(24,R7),(25,R7)],[(lx 4 0 (zl [2,3]++sP 11 iu::il [12,13]) [(4,yad),(6,yac),(8,zad)] 14)]⟩
def As:Ctr:=⟨91,108,[.agg yad],[],[⟨zad,[.agg 2],[]⟩],ap2 qG⟩
theorem H8:Lk 1 As:=ls IS aN
def kR:T37->Option (T37⊕T3e):=λ(v0,v1,v2,v3,v4,v5,v6,v7,v8,v9,eu,eE,eG,eI,eK,eO,eS,eV,_)=>bif(decide (v2<v1))then((gk v2).bind λx0=>
(fU v0 x0).bind λx1=>bif(gl 4 0 x1.2.1.length)then let x2:LDCe:=(List.append [] x1.2.1);let x3:LDTh:=[(x1.1,(x2,(x1.2.2.1,(x1.2.2.2.1,(x1.2.2.2.2.1,(x1.2.2.2.2.2.1,(x1.2.2.2.2.2.2.1,x1.2.2.2.2.2.2.2)))))))];bif(gl 80 eV.length x3.length)then let x4:LDTh:=(List.append eV x3);let x5:=w64 (v2+1);some (.inl (v0,v1,x5,v3,v4,v5,v6,v7,v8,v9,eu,eE,eG,eI,eK,eO,eS,x4,()))else none else none)else some (.inr (v0,v1,v2,false,v3,v4,v5,v6,v7,v8,v9,eu,eE,eG,eI,eK,eO,eS,eV,()))
def kS(a0:LI)(a1:Int)(a2:LDCe)(a3:LDLn)(a4:LDTh):Option (T0Y):=bif(gl 8 0 a0.length)then let x0:v_:=(List.append [] a0);
(qG a2 a3).bind λ(x1,x2,_)=>let x3:=fZ a4.length;
(gd kR NN (a4,x3,0,a0,a1,a2,a3,a4,(),0,(),(),(),x0,a1,x1,x2,[],())).bind λ(_,_,_,_,_,_,_,_,_,_,_,_,_,_,am)=>some (am)else none
def IK:X.Cfg:=⟨E0,[As],[(32,R6),(33,R6)],[(lx 4 0 (zl [2,3]++sP 19 lz::il [20,21]) [(4,uac),(6,Zab),(8,Zac)] 22)]⟩
def oy:Ctr:=⟨56,109,[.agg uac],[],[⟨Zac,[.agg 5],[]⟩],ap5 kS⟩
theorem qR:Lk 2 oy:=ls IK (aC H8 aN)
def mI(a0:LI)(a1:Int)(a2:LDCe)(a3:LDLn)(a4:LDTh)(a5:Int):Option (T1i):=
(kS a0 a1 a2 a3 a4).bind λ(x0,x1,x2,x3,x4,_)=>
(pO a0 a1 a2 a3 a4 a5).bind λ(x5,_)=>bif(!x5)then(some (x0,x1,x2,x3,x4,false,()))else
(gk a5).bind λx6=>
(fU x4 x6).bind λ_=>
(fU x4 x6).bind λx8=>
(fU x4 x6).bind λx9=>
(fU x4 x6).bind λ_=>let ae:=x4.modify x6 λe=>(e.1,(e.2.1,(e.2.2.1,(e.2.2.2.1,(e.2.2.2.2.1,(x8.2.2.1,e.2.2.2.2.2.2))))));
(fU ae x6).bind λ_=>let ag:=ae.modify x6 λe=>(e.1,(e.2.1,(x9.2.2.2.2.1,e.2.2.2)));some (x0,x1,x2,x3,ag,true,())
def Cb:X.Cfg:=⟨E0,[oy,wU],[],[]⟩
def uF:Ctr:=⟨133,110,[.agg uac,shU I64],[],[⟨zak,[.agg 5,.one],[]⟩],ap6 mI⟩
theorem BN:Lk 3 uF:=ls Cb (aC qR (aC BO aN))
def mY(a0 a1:Int):f_:=some ((decide (a0<=2)),())
def Gi:X.Cfg:=⟨E0,[],[],[]⟩
def sT:Ctr:=⟨79,111,[.agg Xab],[],[⟨zab,[.one],[]⟩],ap2 mY⟩
theorem xM:Lk 1 sT:=ls Gi aN
def nY:T0j->Option (T0j⊕((Bool×Unit)⊕T0B)):=λ(v0,v1,v2,_)=>bif(decide (v2<v1))then((gk v2).bind λx0=>
(fU v0 x0).bind λx1=>
(mY x1.1 x1.2).bind λ(x2,_)=>bif(!x2)then(some (.inr (.inl (false,()))))else let x3:=w64 (v2+1);some (.inl (v0,v1,x3,())))else some (.inr (.inr (v0,v1,v2,false,())))
def pT(a0:LDCe):f_:=let x0:=fZ a0.length;
(match gd nY NN (a0,x0,0,())with
|none=>none
|some (.inl (x1,_))=>some (x1,())
|some (.inr (_,_))=>some (true,()))
def Kq:X.Cfg:=⟨E0,[sT],[],[⟨3,0,qS (sP 5 gS::il [6,7]) [],[(.ret,qS yau []),(.exit 0,qS [sP 5 gS,Uaa 6,Uaa 7,Xaa 8] [])]⟩]⟩
def CP:Ctr:=⟨78,112,uL [gS],[],[⟨zab,[.one],[]⟩],ap1 pT⟩
theorem Kc:Lk 2 CP:=ls Kq (aC xM aN)
def mc:T0W->Option (T0W⊕((Bool×Unit)⊕T1g)):=λ(v0,v1,v2,v3)=>bif(decide (v2<v1))then((gk v2).bind λx0=>
(fU v0 x0).bind λx1=>bif(x1.1==(-1))then(bif x1.2.1 then(some (.inr (.inl (false,()))))else let x2:=fZ x1.2.2.length;bif(decide (x2>0))then(some (.inr (.inl (false,()))))else let x3:=w64 (v2+1);some (.inl (v0,v1,x3,v3)))else
(bif(decide (x1.1<0))then(some (v0,v1,v2,true,v3))else bif(decide (x1.1>=128))then(some (v0,v1,v2,true,v3))else let x2:=Int.tmod x1.1 4;bif(x2 != v2)then(some (v0,v1,v2,true,v3))else let x3:=fZ x1.2.2.length;bif(x3 != 4)then(some (v0,v1,v2,true,v3))else
(pT x1.2.2).bind λ(x4,_)=>some (v0,v1,v2,(!x4),v3):Option (T1g)).bind λ(x2,x3,x4,x5,x6)=>bif x5 then(some (.inr (.inl (false,()))))else let x8:=w64 (x4+1);some (.inl (x2,x3,x8,x6)))else some (.inr (.inr (v0,v1,v2,false,v3)))
def oZ(a0:LDCe)(a1:LDLn):f_:=
(let x0:=fZ a0.length;bif(x0 != 512)then(some (true,a0,a1,()))else let x1:=fZ a1.length;bif(x1 != 4)then(some (true,a0,a1,()))else
(pT a0).bind λ(x2,_)=>some ((!x2),a0,a1,()):Option (T0d)).bind λ(x0,x1,x2,_)=>bif x0 then(some (false,()))else let x3:=fZ x2.length;
(match gd mc NN (x2,x3,0,x1,x2,())with
|none=>none
|some (.inl (x4,_))=>some (x4,())
|some (.inr (_,_))=>some (true,()))
def Ga:X.Cfg:=⟨E0,[CP],[],[⟨2,0,qE,[(.normal,qS [zaa 1,Xaa 20] Zam)]⟩,⟨16,1,qE,[(.normal,qS [sP 22 iu,Uaa 23,Uaa 24,Xaa 66] Zam)]⟩,⟨6,2,qS (sP 22 iu::il [23,24]) Zam,[(.ret,qS yau []),(.exit 0,qS [sP 22 iu,Uaa 23,Uaa 24,Xaa 25] Zam)]⟩]⟩
def yp:Ctr:=⟨46,113,[.agg yad],[],[⟨zab,[.one],[]⟩],ap2 oZ⟩
theorem Fl:Lk 3 yp:=ls Ga (aC Kc aN)
def l7:T2v->Option (T2v⊕((Bool×Unit)⊕(LDCe×Int×Int×Bool×T1Q))):=λ(v0,v1,v2,v3)=>bif(decide (v2<v1))then((gk v2).bind λx0=>
(fU v0 x0).bind λx1=>
(mY x1.1 x1.2).bind λ(x2,_)=>bif(!x2)then(some (.inr (.inl (false,()))))else let x3:=w64 (v2+1);some (.inl (v0,v1,x3,v3)))else some (.inr (.inr (v0,v1,v2,false,v3)))
def oV(a0:Int)(a1:LDCe)(a2 a3 a4 a5 a6 a7:Int):f_:=let x0:=fZ a1.length;
(match gd l7 NN (a1,x0,0,a0,a1,a2,a3,a4,a5,a6,a7,())with
|none=>none
|some (.inl (x1,_))=>some (x1,())
|some (.inr (_,_,_,_,x5,x6,x7,x8,x9,ac,ae,_,_))=>bif(decide (x5>=0))then(bif(decide (x5<=4))then(let ag:Int:=(fZ x6.length);bif(ag==8)then(bif(decide (x7>=0))then(bif(decide (x7<=255))then(bif(decide (x8>=0))then(bif(decide (x8<=1099511627776))then(bif(decide (x9>=(-1)))then(bif(decide (x9<=255))then(bif(decide (ac>=(-1)))then(bif(decide (ac<=255))then(bif(decide (ae>=0))then(some ((decide (ae<=6)),()))else some (false,()))else some (false,()))else some (false,()))else some (false,()))else some (false,()))else some (false,()))else some (false,()))else some (false,()))else some (false,()))else some (false,()))else some (false,()))else some (false,()))
def F1:X.Cfg:=⟨E0,[sT],[],[⟨3,0,qS (zaa 1::sP 6 gS::il [7,8]) [(4,Uad)],[(.ret,qS yau []),(.exit 0,qS [zaa 1,sP 6 gS,Uaa 7,Uaa 8,Xaa 9] [(4,Uad)])]⟩]⟩
def yj:Ctr:=⟨47,114,[.agg Uad],[],[⟨zab,[.one],[]⟩],as1 (as2 (as4 ap1)) oV⟩
theorem Fg:Lk 2 yj:=ls F1 (aC xM aN)
def oF:T1S->Option (T1S⊕((Bool×Unit)⊕(LDTh×Int×Int×T14))):=λ(v0,v1,v2,v3)=>bif(decide (v2<v1))then((gk v2).bind λx0=>
(fU v0 x0).bind λx1=>
(oV x1.1 x1.2.1 x1.2.2.1 x1.2.2.2.1 x1.2.2.2.2.1 x1.2.2.2.2.2.1 x1.2.2.2.2.2.2.1 x1.2.2.2.2.2.2.2).bind λ(x2,_)=>bif(!x2)then(some (.inr (.inl (false,()))))else let x3:=w64 (v2+1);some (.inl (v0,v1,x3,v3)))else some (.inr (.inr (v0,v1,v2,false,v3)))
def lk(a0:LDIn)(a1:LI)(a2:LLI)(a3:LI)(a4:Int)(a5:LDCe)(a6:LDLn)(a7:LDTh):f_:=
((lm a0 a1 a2).bind λ(x0,_)=>bif(x0 != 0)then(some (true,a3,a4,a5,a6,a7,()))else
(jT a3 a4 a1).bind λ(x1,_)=>bif(!x1)then(some (true,a3,a4,a5,a6,a7,()))else
(oZ a5 a6).bind λ(x2,_)=>bif(!x2)then(some (true,a3,a4,a5,a6,a7,()))else let x3:=fZ a7.length;some ((x3 != 4),a3,a4,a5,a6,a7,()):Option (T14)).bind λ(x0,x1,x2,x3,x4,x5,_)=>bif x0 then(some (false,()))else let x6:=fZ x5.length;
(match gd oF NN (x5,x6,0,x1,x2,x3,x4,x5,())with
|none=>none
|some (.inl (x7,_))=>some (x7,())
|some (.inr (_,_))=>some (true,()))
def FZ:X.Cfg:=⟨E0,[pA,nv,yp,yj],[],[⟨2,0,qE,[(.normal,qS [zaa 3,Xaa 29] [(8,uac)])]⟩,⟨6,1,qS (sP 31 lz::il [32,33]) [(8,uac)],[(.ret,qS uau []),(.exit 0,qS [sP 31 lz,Uaa 32,Uaa 33,Xaa 34] [(8,uac)])]⟩]⟩
def pz:Ctr:=⟨17,115,[.agg uab,.agg uac],[],[⟨zab,[.one],[]⟩],as1 (as2 (as4 ap1)) lk⟩
theorem sx:Lk 4 pz:=ls FZ (aC sy (aC pm (aC Fl (aC Fg aN))))
def iv(a0:Nat)(a1:Int)(a2:LDTh):Option (Int×LDTh×Unit):=
(fU a2 a0).bind λ_=>let x1:=a2.modify a0 λe=>(4,e.2);
(fU x1 a0).bind λ_=>let x3:=x1.modify a0 λe=>(e.1,(e.2.1,(e.2.2.1,(e.2.2.2.1,(e.2.2.2.2.1,(e.2.2.2.2.2.1,(a1,e.2.2.2.2.2.2.2)))))));
(fU x3 a0).bind λ_=>let x5:=x3.modify a0 λe=>(e.1,(e.2.1,(e.2.2.1,(e.2.2.2.1,(e.2.2.2.2.1,(e.2.2.2.2.2.1,(e.2.2.2.2.2.2.1,0)))))));some (2,x5,())
def IF:X.Cfg:=⟨E0,[],[],[]⟩
def Am:Ctr:=⟨175,116,[.ptr ⟨2,0,[((),(8,0))]⟩ [0,0],shU I64],[(2,uL [qk])],[⟨zac,[.one],[(2,uL [qk])]⟩],ap3 iv⟩
theorem HZ:Lk 1 Am:=ls IF aN
def iJ(a0:LI)(a1:Int)(a2:LI)(a3 a4 a5:Int)(a6:Bool):Option (T0f):=bif(a3 != 1)then(some (0,0,3,()))else let x0:=wk .i64 a4;
(gX a0 a1 a2 x0).bind λ(x1,x2,x3,_)=>bif(!x3)then(some (0,0,4,()))else
(bif a6 then(let x4:Int:=(wk .i64 a5);let x5:=w64 (x2-x4);some (a2,a0,a1,0,0,x1,x5,()))else let x4:=wk .i64 a5;let x5:=w64 (x2+x4);some (a2,a0,a1,0,0,x1,x5,()):Option (LI×LI×T0R)).bind λ(x4,x5,_,_,_,x9,ac,_)=>
(hY x4 x9 ac).bind λ(ae,_)=>bif(!ae)then(some (0,0,4,()))else
(gk x9).bind λaf=>
(fU x5 af).bind λag=>let ah:=w64 (ag+ac);let ai:=wk .u16 ah;some (1,ai,0,())
def IJ:X.Cfg:=⟨E0,[jI,lT],[],[⟨8,0,qE,[(.normal,qS (sP 1 RI::zl [5,10,12]) [(12,Uab),(22,Xab),(26,uad)])]⟩]⟩
def uM:Ctr:=⟨176,117,[.agg Uab,shU RI,.agg Xab,shU CW,shU .bool],[],[⟨yai,[.agg 2,.one],[]⟩],as2 (as4 ap1) iJ⟩
theorem zN:Lk 2 uM:=ls IJ (aC kY (aC od aN))
def mU(a0:Int)(a1:LDCe)(a2:LDLn):Option (Nat×T05):=let x0:=w64 (Int.tdiv a0 4);let x1:=Int.tmod x0 4;
(gk x1).bind λx2=>
(fU a2 x2).bind λ_=>
(fU a2 x2).bind λx4=>bif(x4.1==x0)then(some (x2,a1,a2,()))else
((fU a2 x2).bind λx5=>bif x5.2.1 then((fU a2 x2).bind λx6=>let x7:=w64 (x6.1*4);
(gk x7).bind λx8=>bif(jl x8 a1.length a1.length)then(fU a2 x2).bind λ_=>
(fU a2 x2).bind λac=>bif(jl x8 (Nat.add x8 (Nat.min ac.2.2.length (Nat.sub a1.length x8))) a1.length)then bif(Nat.blt 0 (Nat.min ac.2.2.length (Nat.sub a1.length x8)))then(let ae:LDCe:=(sm a1 x8 (Nat.min ac.2.2.length (Nat.sub a1.length x8)) ac.2.2);let af:=(fZ (Nat.min ac.2.2.length (Nat.sub a1.length x8)));some (x0,x2,ae,a2,()))else let ae:=(fZ (Nat.min ac.2.2.length (Nat.sub a1.length x8)));some (x0,x2,a1,a2,())else none else none)else some (x0,x2,a1,a2,()):Option (Int×Nat×T05)).bind λ(x5,x6,x7,x8,_)=>
(fU x8 x6).bind λ_=>let ac:=x8.modify x6 λe=>(x5,e.2);
(fU ac x6).bind λ_=>let af:=ac.modify x6 λe=>(e.1,(false,e.2.2));let ag:=w64 (x5*4);let ah:=w64 (x5+1);let ai:=w64 (ah*4);
(gk ag).bind λaj=>
(gk ai).bind λak=>bif(jl aj ak x7.length)then bif(gl 4 0 (List.length (oM x7 aj (Nat.sub ak aj))))then let am:LDCe:=(List.append [] (oM x7 aj (Nat.sub ak aj)));
(fU af x6).bind λ_=>let ap:=af.modify x6 λe=>(e.1,(e.2.1,am));some (x6,x7,ap,())else none else none
def F9:X.Cfg:=⟨E0,[],[],[⟨6,0,qE,[(.normal,(qS [zaa 0,Uaa 5,(6,.ptr ⟨2,1,[((),(3,0))]⟩ [0,0])] [(2,zad)]))]⟩]⟩
def sQ:Ctr:=⟨192,118,[.ptr ⟨2,0,[]⟩ [0],shU I64],[(2,zad)],[⟨[.ptr ⟨2,1,[((),(3,0))]⟩ [0,0]],[.ptr],[(2,zad)]⟩],ap3 mU⟩
theorem xK:Lk 1 sQ:=ls F9 aN
def qC(a0:Int)(a1:LDCe)(a2:LDLn):Option (T0x):=
(mU a0 a1 a2).bind λ(x0,x1,x2,_)=>
(fU x2 x0).bind λ_=>let x4:=Int.tmod a0 4;
(gk x4).bind λx5=>
(fU x2 x0).bind λx6=>
(fU x6.2.2 x5).bind λ_=>
(fU x2 x0).bind λx8=>
(fU x8.2.2 x5).bind λx9=>some (x9.1,x9.2,x1,x2,())
def IP:X.Cfg:=⟨E0,[sQ],[],[]⟩
def Ap:Ctr:=⟨177,119,[.ptr ⟨2,0,[]⟩ [0],shU I64],[(2,zad)],[⟨Xab,[.agg 2],[(2,zad)]⟩],ap3 qC⟩
theorem H5:Lk 2 Ap:=ls IP (aC xK aN)
def mS(a0 a1 a2:Int)(a3:LDCe)(a4:LDLn):Option (T05):=
(mU a0 a3 a4).bind λ(x0,x1,x2,_)=>
(fU x2 x0).bind λ_=>let x4:=Int.tmod a0 4;
(gk x4).bind λx5=>
(fU x2 x0).bind λx6=>
(fU x6.2.2 x5).bind λ_=>
(fU x2 x0).bind λx8=>
(fU x8.2.2 x5).bind λ_=>let ac:=x2.modify x0 λe=>(e.1,(e.2.1,(e.2.2.modify x5 λe=>(a1,a2))));
(fU ac x0).bind λ_=>let af:=ac.modify x0 λe=>(e.1,(true,e.2.2));some (x1,af,())
def F8:X.Cfg:=⟨E0,[sQ],[],[]⟩
def sO:Ctr:=⟨178,120,[.ptr ⟨2,0,[]⟩ [0],shU I64,.agg Xab],[(2,zad)],[⟨[],[],[(2,zad)]⟩],ap5 mS⟩
theorem xJ:Lk 2 sO:=ls F8 (aC xK aN)
def mq(a0:Bool):Option (T02):=bif a0 then(some (0,1,()))else some (0,0,())
def II:X.Cfg:=⟨E0,[],[],[]⟩
def uK:Ctr:=⟨193,121,zab,[],[⟨Xab,[.agg 2],[]⟩],ap1 mq⟩
theorem zM:Lk 1 uK:=ls II aN
def mP(a0 a1 a2:Int):Option (T0f):=bif(a0==3)then(let x0:Int:=(wk .u16 (a1+a2));some (0,x0,0,()))else bif(a0==4)then(let x0:Int:=(wk .u16 (a1-a2));some (0,x0,0,()))else bif(a0==5)then(let x0:Int:=(wk .u16 (a1*a2));some (0,x0,0,()))else bif(a0==6)then(bif(a2==0)then(some (0,0,5,()))else bif(a0==6)then(bif(a2 != 0)then let x0:Int:=(wk .u16 (Int.tdiv a1 a2));some (0,x0,0,())else none)else bif(a2 != 0)then let x0:Int:=(Int.tmod a1 a2);some (0,x0,0,())else none)else bif(a0==7)then(bif(a2==0)then(some (0,0,5,()))else bif(a0==6)then(bif(a2 != 0)then let x0:Int:=(wk .u16 (Int.tdiv a1 a2));some (0,x0,0,())else none)else bif(a2 != 0)then let x0:Int:=(Int.tmod a1 a2);some (0,x0,0,())else none)else bif(a0==8)then(let x0:Int:=(arR .and .u16 a1 a2);some (0,x0,0,()))else bif(a0==9)then(let x0:Int:=(arR .or .u16 a1 a2);some (0,x0,0,()))else bif(a0==10)then(let x0:Int:=(arR .xor .u16 a1 a2);some (0,x0,0,()))else bif(a0==11)then(let x0:Int:=(Int.tmod a2 16);
(gk x0).bind λx1=>let x2:Int:=(shR .shl .u16 a1 x1);some (0,x2,0,()))else bif(a0==12)then(let x0:Int:=(Int.tmod a2 16);
(gk x0).bind λx1=>let x2:Int:=(shR .shr .u16 a1 x1);some (0,x2,0,()))else
(mq (decide (a1<a2))).bind λ(x0,x1,_)=>some (x0,x1,0,())
def Cd:X.Cfg:=⟨E0,[uK],[],[]⟩
def uJ:Ctr:=⟨194,122,uL [I64,CW,CW],[],[⟨yai,[.agg 2,.one],[]⟩],ap3 mP⟩
theorem BS:Lk 2 uJ:=ls Cd (aC zM aN)
def mQ(a0:LI)(a1:Int)(a2:LI)(a3 a4 a5 a6:Int):Option (Int×Int×T0e):=let x0:=wk .i64 a4;
(gX a0 a1 a2 x0).bind λ(x1,x2,x3,_)=>let x4:=wk .i64 a6;
(gX a0 a1 a2 x4).bind λ(x5,x6,x7,_)=>bif x3 then(bif x7 then(some (x1,x2,x5,x6,(x1==x5),()))else some (x1,x2,x5,x6,false,()))else some (x1,x2,x5,x6,false,())
def F4:X.Cfg:=⟨E0,[jI],[],[]⟩
def yn:Ctr:=⟨195,123,[.agg Uab,shU RI,.agg Xab,.agg Xab],[],[⟨uL [I64,I64,I64,I64,.bool],[.agg 2,.agg 2,.one],[]⟩],as2 (as4 ap1) mQ⟩
theorem Fj:Lk 2 yn:=ls F4 (aC kY aN)
def vf(a0:LI)(a1:Int)(a2:LI)(a3 a4 a5 a6 a7:Int):Option (T0f):=bif(decide (a3<3))then(some (0,0,1,()))else bif(decide (a3>14))then(some (0,0,1,()))else
(match(bif(a3==14)then((mq ((a4==a6)&&((a5==a7)&&true))).bind λ(x0,x1,_)=>some (.inl (0,x0,x1,())))else bif(a4==0)then(bif(a6==0)then((mP a3 a5 a7).bind λ(x0,x1,x2,_)=>some (.inl (x2,x0,x1,())))else
(bif(a3==3)then(bif(a4==1)then(some (a2,a3,(a6==0),a0,a1,a4,a5,a6,a7,0,0,()))else some (a2,a3,false,a0,a1,a4,a5,a6,a7,0,0,()))else some (a2,a3,false,a0,a1,a4,a5,a6,a7,0,0,()):Option (T2x)).bind λ(x0,x1,x2,x3,x4,x5,x6,x7,x8,x9,ac,_)=>bif x2 then((iJ x3 x4 x0 x5 x6 x8 false).bind λ(ae,af,ag,_)=>some (.inl (ag,ae,af,())))else
(bif(x1==3)then(bif(x5==0)then(some (x0,x1,(x7==1),x3,x4,x5,x6,x7,x8,x9,ac,()))else some (x0,x1,false,x3,x4,x5,x6,x7,x8,x9,ac,()))else some (x0,x1,false,x3,x4,x5,x6,x7,x8,x9,ac,()):Option (T2x)).bind λ(ae,af,ag,ah,ai,aj,ak,am,an,ap,aq,_)=>bif ag then((iJ ah ai ae am an ak false).bind λ(av,ax,ay,_)=>some (.inl (ay,av,ax,())))else
(bif(af==4)then(bif(aj==1)then(some (ae,af,(am==0),ah,ai,aj,ak,am,an,ap,aq,()))else some (ae,af,false,ah,ai,aj,ak,am,an,ap,aq,()))else some (ae,af,false,ah,ai,aj,ak,am,an,ap,aq,()):Option (T2x)).bind λ(av,ax,ay,az,aA,aB,aD,aE,aF,aG,aH,_)=>bif ay then((iJ az aA av aB aD aF true).bind λ(aI,aJ,aK,_)=>some (.inl (aK,aI,aJ,())))else
(bif(ax==4)then(bif(aB==1)then(some (av,ax,(aE==1),az,aA,aB,aD,aE,aF,aG,aH,()))else some (av,ax,false,az,aA,aB,aD,aE,aF,aG,aH,()))else bif(ax==13)then(bif(aB==1)then(some (av,ax,(aE==1),az,aA,aB,aD,aE,aF,aG,aH,()))else some (av,ax,false,az,aA,aB,aD,aE,aF,aG,aH,()))else some (av,ax,false,az,aA,aB,aD,aE,aF,aG,aH,()):Option (T2x)).bind λ(aI,aJ,aK,aL,aM,aO,aP,aQ,aR,aS,aT,_)=>bif aK then((mQ aL aM aI aO aP aQ aR).bind λ(_,aV,_,aY,aZ,_)=>bif(!aZ)then(some (.inl (4,0,0,())))else bif(aJ==13)then((mq (decide (aV<aY))).bind λ(ba,bc,_)=>some (.inl (0,ba,bc,())))else let ba:=w64 (aV-aY);let bc:=wk .u16 ba;some (.inl (0,0,bc,())))else some (.inr (aI,aJ,false,aL,aM,aO,aP,aQ,aR,aS,aT,())))else
(bif(a3==3)then(bif(a4==1)then(some (a2,a3,(a6==0),a0,a1,a4,a5,a6,a7,0,0,()))else some (a2,a3,false,a0,a1,a4,a5,a6,a7,0,0,()))else some (a2,a3,false,a0,a1,a4,a5,a6,a7,0,0,()):Option (T2x)).bind λ(x0,x1,x2,x3,x4,x5,x6,x7,x8,x9,ac,_)=>bif x2 then((iJ x3 x4 x0 x5 x6 x8 false).bind λ(ae,af,ag,_)=>some (.inl (ag,ae,af,())))else
(bif(x1==3)then(bif(x5==0)then(some (x0,x1,(x7==1),x3,x4,x5,x6,x7,x8,x9,ac,()))else some (x0,x1,false,x3,x4,x5,x6,x7,x8,x9,ac,()))else some (x0,x1,false,x3,x4,x5,x6,x7,x8,x9,ac,()):Option (T2x)).bind λ(ae,af,ag,ah,ai,aj,ak,am,an,ap,aq,_)=>bif ag then((iJ ah ai ae am an ak false).bind λ(av,ax,ay,_)=>some (.inl (ay,av,ax,())))else
(bif(af==4)then(bif(aj==1)then(some (ae,af,(am==0),ah,ai,aj,ak,am,an,ap,aq,()))else some (ae,af,false,ah,ai,aj,ak,am,an,ap,aq,()))else some (ae,af,false,ah,ai,aj,ak,am,an,ap,aq,()):Option (T2x)).bind λ(av,ax,ay,az,aA,aB,aD,aE,aF,aG,aH,_)=>bif ay then((iJ az aA av aB aD aF true).bind λ(aI,aJ,aK,_)=>some (.inl (aK,aI,aJ,())))else
(bif(ax==4)then(bif(aB==1)then(some (av,ax,(aE==1),az,aA,aB,aD,aE,aF,aG,aH,()))else some (av,ax,false,az,aA,aB,aD,aE,aF,aG,aH,()))else bif(ax==13)then(bif(aB==1)then(some (av,ax,(aE==1),az,aA,aB,aD,aE,aF,aG,aH,()))else some (av,ax,false,az,aA,aB,aD,aE,aF,aG,aH,()))else some (av,ax,false,az,aA,aB,aD,aE,aF,aG,aH,()):Option (T2x)).bind λ(aI,aJ,aK,aL,aM,aO,aP,aQ,aR,aS,aT,_)=>bif aK then((mQ aL aM aI aO aP aQ aR).bind λ(_,aV,_,aY,aZ,_)=>bif(!aZ)then(some (.inl (4,0,0,())))else bif(aJ==13)then((mq (decide (aV<aY))).bind λ(ba,bc,_)=>some (.inl (0,ba,bc,())))else let ba:=w64 (aV-aY);let bc:=wk .u16 ba;some (.inl (0,0,bc,())))else some (.inr (aI,aJ,false,aL,aM,aO,aP,aQ,aR,aS,aT,())):Option (T0f⊕T2x))with
|none=>none
|some (.inl (x0,x1,x2,_))=>some (x1,x2,x0,())
|some (.inr (_,_,_,_,_,_,_,_,_,_,_,_))=>some (0,0,3,()))
def M1:X.Cfg:=⟨E0,[uK,uJ,uM,yn],[],[⟨9,0,qE,[(.normal,qS (sP 1 RI::Uaa 2::zl [5,8,9,10]++[Xaa 46]) zan)]⟩,⟨11,1,qE,[(.normal,qS (sP 1 RI::Uaa 2::zl [5,8,9,10]++[Xaa 67]) zan)]⟩,⟨13,2,qE,[(.normal,qS (sP 1 RI::Uaa 2::zl [5,8,9,10]++[Xaa 88]) zan)]⟩,⟨15,3,qE,[(.normal,qS uax zan)]⟩,⟨4,4,qE,[(.ret,qS [zaa 10,Uaa 11] [(22,Xab)]),(.normal,qS uax zan)]⟩]⟩
def Ev:Ctr:=⟨179,124,[.agg Uab,shU RI,shU I64,.agg Xab,.agg Xab],[],[⟨yai,[.agg 2,.one],[]⟩],as1 (as2 (as4 ap1)) vf⟩
theorem MT:Lk 3 Ev:=ls M1 (aC zM (aC BS (aC zN (aC Fj aN))))
def nX(a0:Int):f_:=
(iX a0).bind λ(x0,_)=>bif x0 then(some (true,()))else bif(a0==22)then(some (true,()))else some ((a0==24),())
def DE:X.Cfg:=⟨E0,[my],[],[]⟩
def wo:Ctr:=⟨180,125,zac,[],[⟨zab,[.one],[]⟩],ap1 nX⟩
theorem Dh:Lk 2 wo:=ls DE (aC ou aN)
def sb(a0:LDIn)(a1:LI)(a2:LLI)(a3:Int)(a4:LI)(a5:Int)(a6:LDCe)(a7:LDLn)(a8:LDTh):Option (T1c):=
(gk a3).bind λx0=>
(fU a8 x0).bind λ_=>
(fU a8 x0).bind λx2=>let x3:=fZ a0.length;bif(decide (x2.2.2.1>=x3))then((iv x0 2 a8).bind λ(x4,x5,_)=>some (x4,a4,a5,a6,a7,x5,()))else
(fU a8 x0).bind λx4=>
(gk x4.2.2.1).bind λx5=>
(fU a0 x5).bind λx6=>
(fU a8 x0).bind λx7=>let x8:=w64 (x7.2.2.1+1);
(fU a8 x0).bind λ_=>
(gk x6.2.1).bind λac=>
(fU a8 x0).bind λae=>
(fU ae.2.1 ac).bind λ_=>
(fU a8 x0).bind λag=>
(fU ag.2.1 ac).bind λah=>
(fU a8 x0).bind λ_=>
(gk x6.2.2.1).bind λaj=>
(fU a8 x0).bind λak=>
(fU ak.2.1 aj).bind λ_=>
(fU a8 x0).bind λan=>
(fU an.2.1 aj).bind λap=>
(match(bif(x6.1==0)then(some (.inl (x0,x8,a4,a5,a6,a7,a8,x6.1,x6.2.1,x6.2.2.1,x6.2.2.2.1,x6.2.2.2.2,())))else bif(x6.1==1)then((fU a8 x0).bind λ_=>let av:=wk .u16 x6.2.2.2.2;
(gk x6.2.1).bind λax=>
(fU a8 x0).bind λay=>
(fU ay.2.1 ax).bind λ_=>
(fU a8 x0).bind λaA=>
(fU aA.2.1 ax).bind λ_=>let aD:=a8.modify x0 λe=>(e.1,((e.2.1.modify ax λe=>(0,av)),e.2.2));some (.inl (x0,x8,a4,a5,a6,a7,aD,x6.1,x6.2.1,x6.2.2.1,x6.2.2.2.1,x6.2.2.2.2,())))else bif(x6.1==2)then((fU a8 x0).bind λ_=>
(gk x6.2.1).bind λav=>
(fU a8 x0).bind λax=>
(fU ax.2.1 av).bind λ_=>
(fU a8 x0).bind λaz=>
(fU az.2.1 av).bind λ_=>let aB:=a8.modify x0 λe=>(e.1,((e.2.1.modify av λe=>(ap.1,ap.2)),e.2.2));some (.inl (x0,x8,a4,a5,a6,a7,aB,x6.1,x6.2.1,x6.2.2.1,x6.2.2.2.1,x6.2.2.2.2,())))else bif(x6.1==15)then((fU a8 x0).bind λ_=>
(gk x6.2.2.2.2).bind λav=>
(fU a4 av).bind λax=>let ay:=wk .u16 ax;
(gk x6.2.1).bind λaz=>
(fU a8 x0).bind λaA=>
(fU aA.2.1 az).bind λ_=>
(fU a8 x0).bind λaD=>
(fU aD.2.1 az).bind λ_=>let aF:=a8.modify x0 λe=>(e.1,((e.2.1.modify az λe=>(1,ay)),e.2.2));some (.inl (x0,x8,a4,a5,a6,a7,aF,x6.1,x6.2.1,x6.2.2.1,x6.2.2.2.1,x6.2.2.2.2,())))else bif(x6.1==16)then((bif(x6.1==17)then(some (x0,x8,a4,a5,a6,a7,a8,a0,a1,a2,x6.1,x6.2.1,x6.2.2.1,x6.2.2.2.1,x6.2.2.2.2,ap.1,ap.2,ah.1,ah.2,()))else some (x0,x8,a4,a5,a6,a7,a8,a0,a1,a2,x6.1,x6.2.1,x6.2.2.1,x6.2.2.2.1,x6.2.2.2.2,ap.1,ap.2,ap.1,ap.2,()):Option (T3f)).bind λ(aq,av,ax,ay,az,aA,aB,_,aE,_,aG,aH,aI,aJ,aK,aL,aM,aO,aP,_)=>let aQ:=wk .u16 aK;
(iJ ax ay aE aO aP aQ false).bind λ(_,aS,aT,_)=>bif(aT != 0)then((iv aq aT aB).bind λ(aU,aV,_)=>some (.inr (aU,ax,ay,az,aA,aV,())))else bif(aG==16)then((fU aB aq).bind λ_=>let aV:=wk .i64 aS;
(qC aV az aA).bind λ(aW,aY,aZ,ba,_)=>
(gk aH).bind λbc=>
(fU aB aq).bind λbd=>
(fU bd.2.1 bc).bind λ_=>
(fU aB aq).bind λbf=>
(fU bf.2.1 bc).bind λ_=>let bh:=aB.modify aq λe=>(e.1,((e.2.1.modify bc λe=>(aW,aY)),e.2.2));some (.inl (aq,av,ax,ay,aZ,ba,bh,aG,aH,aI,aJ,aK,())))else let aU:=wk .i64 aS;
(mS aU aL aM az aA).bind λ(aV,aW,_)=>some (.inl (aq,av,ax,ay,aV,aW,aB,aG,aH,aI,aJ,aK,())))else bif(x6.1==17)then((bif(x6.1==17)then(some (x0,x8,a4,a5,a6,a7,a8,a0,a1,a2,x6.1,x6.2.1,x6.2.2.1,x6.2.2.2.1,x6.2.2.2.2,ap.1,ap.2,ah.1,ah.2,()))else some (x0,x8,a4,a5,a6,a7,a8,a0,a1,a2,x6.1,x6.2.1,x6.2.2.1,x6.2.2.2.1,x6.2.2.2.2,ap.1,ap.2,ap.1,ap.2,()):Option (T3f)).bind λ(aq,av,ax,ay,az,aA,aB,_,aE,_,aG,aH,aI,aJ,aK,aL,aM,aO,aP,_)=>let aQ:=wk .u16 aK;
(iJ ax ay aE aO aP aQ false).bind λ(_,aS,aT,_)=>bif(aT != 0)then((iv aq aT aB).bind λ(aU,aV,_)=>some (.inr (aU,ax,ay,az,aA,aV,())))else bif(aG==16)then((fU aB aq).bind λ_=>let aV:=wk .i64 aS;
(qC aV az aA).bind λ(aW,aY,aZ,ba,_)=>
(gk aH).bind λbc=>
(fU aB aq).bind λbd=>
(fU bd.2.1 bc).bind λ_=>
(fU aB aq).bind λbf=>
(fU bf.2.1 bc).bind λ_=>let bh:=aB.modify aq λe=>(e.1,((e.2.1.modify bc λe=>(aW,aY)),e.2.2));some (.inl (aq,av,ax,ay,aZ,ba,bh,aG,aH,aI,aJ,aK,())))else let aU:=wk .i64 aS;
(mS aU aL aM az aA).bind λ(aV,aW,_)=>some (.inl (aq,av,ax,ay,aV,aW,aB,aG,aH,aI,aJ,aK,())))else bif(x6.1==18)then(some (.inl (x0,x6.2.2.2.2,a4,a5,a6,a7,a8,x6.1,x6.2.1,x6.2.2.1,x6.2.2.2.1,x6.2.2.2.2,())))else bif(x6.1==19)then(bif(ah.1 != 0)then((iv x0 3 a8).bind λ(aq,av,_)=>some (.inr (aq,a4,a5,a6,a7,av,())))else bif((ah.2==0)==(x6.1==19))then(some (.inl (x0,x6.2.2.2.2,a4,a5,a6,a7,a8,x6.1,x6.2.1,x6.2.2.1,x6.2.2.2.1,x6.2.2.2.2,())))else some (.inl (x0,x8,a4,a5,a6,a7,a8,x6.1,x6.2.1,x6.2.2.1,x6.2.2.2.1,x6.2.2.2.2,())))else bif(x6.1==20)then(bif(ah.1 != 0)then((iv x0 3 a8).bind λ(aq,av,_)=>some (.inr (aq,a4,a5,a6,a7,av,())))else bif((ah.2==0)==(x6.1==19))then(some (.inl (x0,x6.2.2.2.2,a4,a5,a6,a7,a8,x6.1,x6.2.1,x6.2.2.1,x6.2.2.2.1,x6.2.2.2.2,())))else some (.inl (x0,x8,a4,a5,a6,a7,a8,x6.1,x6.2.1,x6.2.2.1,x6.2.2.2.1,x6.2.2.2.2,())))else bif(x6.1==21)then((fU a8 x0).bind λ_=>let av:=wk .u16 x8;
(gk x6.2.1).bind λax=>
(fU a8 x0).bind λay=>
(fU ay.2.1 ax).bind λ_=>
(fU a8 x0).bind λaA=>
(fU aA.2.1 ax).bind λ_=>let aD:=a8.modify x0 λe=>(e.1,((e.2.1.modify ax λe=>(0,av)),e.2.2));some (.inl (x0,x6.2.2.2.2,a4,a5,a6,a7,aD,x6.1,x6.2.1,x6.2.2.1,x6.2.2.2.1,x6.2.2.2.2,())))else bif(x6.1==22)then(bif(ah.1 != 0)then((iv x0 3 a8).bind λ(aq,av,_)=>some (.inr (aq,a4,a5,a6,a7,av,())))else bif(decide (ah.2>255))then((iv x0 2 a8).bind λ(aq,av,_)=>some (.inr (aq,a4,a5,a6,a7,av,())))else let aq:=wk .i64 ah.2;some (.inl (x0,aq,a4,a5,a6,a7,a8,x6.1,x6.2.1,x6.2.2.1,x6.2.2.2.1,x6.2.2.2.2,())))else bif(x6.1==24)then((fU a8 x0).bind λaq=>bif(aq.2.2.2.2.2.1==(-1))then((iv x0 1 a8).bind λ(av,ax,_)=>some (.inr (av,a4,a5,a6,a7,ax,())))else
(fU a8 x0).bind λav=>
(fU a8 x0).bind λ_=>let ay:=a8.modify x0 λe=>(e.1,(e.2.1,(e.2.2.1,(e.2.2.2.1,(e.2.2.2.2.1,((-1),e.2.2.2.2.2.2))))));some (.inl (x0,av.2.2.2.2.2.1,a4,a5,a6,a7,ay,x6.1,x6.2.1,x6.2.2.1,x6.2.2.2.1,x6.2.2.2.2,())))else bif(x6.1==23)then((fU a8 x0).bind λ_=>let av:=a8.modify x0 λe=>(2,e.2);
(fU av x0).bind λ_=>let ay:=av.modify x0 λe=>(e.1,(e.2.1,(x8,e.2.2.2)));some (.inr (1,a4,a5,a6,a7,ay,())))else
(fU a8 x0).bind λ_=>
(gk x6.2.2.2.1).bind λav=>
(fU a8 x0).bind λax=>
(fU ax.2.1 av).bind λ_=>
(fU a8 x0).bind λaz=>
(fU az.2.1 av).bind λaA=>
(vf a4 a5 a1 x6.1 ap.1 ap.2 aA.1 aA.2).bind λ(aB,aD,aE,_)=>bif(aE != 0)then((iv x0 aE a8).bind λ(aF,aG,_)=>some (.inr (aF,a4,a5,a6,a7,aG,())))else
(fU a8 x0).bind λ_=>
(gk x6.2.1).bind λaG=>
(fU a8 x0).bind λaH=>
(fU aH.2.1 aG).bind λ_=>
(fU a8 x0).bind λaJ=>
(fU aJ.2.1 aG).bind λ_=>let aL:=a8.modify x0 λe=>(e.1,((e.2.1.modify aG λe=>(aB,aD)),e.2.2));some (.inl (x0,x8,a4,a5,a6,a7,aL,x6.1,x6.2.1,x6.2.2.1,x6.2.2.2.1,x6.2.2.2.2,())):Option ((Nat×Int×LI×Int×LDCe×LDLn×LDTh×T0R)⊕T1c))with
|none=>none
|some (.inl (aq,av,ax,ay,az,aA,aB,aD,_,_,_,_,_))=>
(fU aB aq).bind λ_=>let aJ:=aB.modify aq λe=>(e.1,(e.2.1,(av,e.2.2.2)));
((nX aD).bind λ(aK,_)=>bif aK then((fU aJ aq).bind λaL=>let aM:=w64 (aL.2.2.2.1+1);
(fU aJ aq).bind λ_=>let aP:=aJ.modify aq λe=>(e.1,(e.2.1,(e.2.2.1,(aM,e.2.2.2.2))));some (ax,ay,az,aA,aP,()))else some (ax,ay,az,aA,aJ,()):Option (T0Y)).bind λ(aK,aL,aM,aO,aP,_)=>some ((-1),aK,aL,aM,aO,aP,())
|some (.inr (aq,av,ax,ay,az,aA,_))=>some (aq,av,ax,ay,az,aA,()))
def Kn:X.Cfg:=⟨E0,[Am,uM,Ap,sO,Ev,wo],[],[⟨17,0,qE,[(.normal,(qS (zl [1,3]++(7,.ptr ⟨4,4,[((),(8,0))]⟩ [0,0])::zaa 8::Uaa 9::zl [11,12]) [(4,Zac),(8,uab),(18,Uae),(24,Xab),(26,Xab)]))]⟩,⟨8,1,qE,[(.normal,(qS [zaa 1,(7,.ptr ⟨4,4,[((),(8,0))]⟩ [0,0]),zaa 8,Uaa 9] [(4,Zac),(18,Uae)])),(.ret,qS [zaa 1,Uaa 6] uan)]⟩,⟨52,2,qE,[(.normal,qS [zaa 1] uan)]⟩]⟩
def CN:Ctr:=⟨164,126,[.agg uab,.ptr ⟨4,0,[]⟩ [0],shU I64],[(4,Zac)],[⟨zac,[.one],[(4,Zac)]⟩],as8 ap1 sb⟩
theorem Ka:Lk 4 CN:=ls Kn (aC HZ (aC zN (aC H5 (aC xJ (aC MT (aC Dh aN))))))
def tg:T2R->Option (T2R⊕T1x):=λ(v0,v1,v2,v3,v4,v5,v6,v7,v8,v9,eu,eE,eG,eI,eK,_)=>
(sb v2 v3 v4 v0 eu eE eG eI eK).bind λ(x0,x1,x2,x3,x4,x5,_)=>bif(x0 != (-1))then(some (.inr (x0,0,x1,x2,x3,x4,x5,())))else
(gk v0).bind λx6=>
(fU x5 x6).bind λ_=>
(fU x5 x6).bind λx8=>bif(x8.2.2.2.1==v1)then(some (.inr (0,0,x1,x2,x3,x4,x5,())))else some (.inl (v0,v1,v2,v3,v4,v5,v6,v7,v8,v9,x1,x2,x3,x4,x5,()))
def oU(a0:LDIn)(a1:LI)(a2:LLI)(a3:LI)(a4:Int)(a5:LDCe)(a6:LDLn)(a7:LDTh)(a8 a9:Int):Option (T1D):=
((lk a0 a1 a2 a3 a4 a5 a6 a7).bind λ(x0,_)=>bif(!x0)then(some (a8,a9,true,a0,a1,a2,a3,a4,a5,a6,a7,(),0,(),(),(),()))else bif(decide (a8<0))then(some (a8,a9,true,a0,a1,a2,a3,a4,a5,a6,a7,(),0,(),(),(),()))else bif(decide (a8>=4))then(some (a8,a9,true,a0,a1,a2,a3,a4,a5,a6,a7,(),0,(),(),(),()))else bif(decide (a9<1))then(some (a8,a9,true,a0,a1,a2,a3,a4,a5,a6,a7,(),0,(),(),(),()))else some (a8,a9,(decide (a9>64)),a0,a1,a2,a3,a4,a5,a6,a7,(),0,(),(),(),()):Option (Int×Int×Bool×LDIn×LI×LLI×LI×Int×LDCe×LDLn×LDTh×T10)).bind λ(x0,x1,x2,x3,x4,x5,x6,x7,x8,x9,ac,ae,af,ag,ah,ai,_)=>bif x2 then(some ([],0,[],[],[],0,1,()))else
(kS x6 x7 x8 x9 ac).bind λ(aj,ak,am,an,ap,_)=>
(gk x0).bind λaq=>
(fU ac aq).bind λav=>bif(av.1 != 1)then(some (aj,ak,am,an,ap,3,0,()))else
(gk x0).bind λax=>
(fU ap ax).bind λ_=>
(fU ap ax).bind λaz=>let aA:=w64 (az.2.2.2.1+x1);
(gd tg NN (x0,aA,x3,x4,x5,ae,af,ag,ah,ai,aj,ak,am,an,ap,())).bind λ(aB,aD,aE,aF,aG,aH,aI,_)=>some (aE,aF,aG,aH,aI,aB,aD,())
def F0:X.Cfg:=⟨E0,[pz,oy,CN],[],[⟨2,0,qE,[(.normal,qS (il [2,3]++zl [4,5,8]++[Xaa 33]) [(10,uab),(12,uac),(18,Zab)])]⟩,⟨9,1,qS (Uaa 2::zl [4,8,11]++[Uaa 12]) [(10,uab),(18,Zab),(24,Zac)],[(.ret,qS (zaa 8::il [9,10]) [(18,Zac)])]⟩]⟩
def yi:Ctr:=⟨152,127,[.agg uab,.agg uac,shU I64,shU I64],[],[⟨uL [RI,CW,(uaa KCe),iz,qk,I64,I64],[.agg 5,.one,.one],[]⟩],as1 (as8 ap1) oU⟩
theorem Ff:Lk 5 yi:=ls F0 (aC sx (aC qR (aC Ka aN)))
def mM(a0:Int):Option (ByteArray×Unit):=let x0:ByteArray:=(bytes []);
(bif(a0==0)then(some (a0,true,()))else bif(a0==8)then(some (a0,true,()))else bif(a0==9)then(some (a0,true,()))else bif(a0==11)then(some (a0,true,()))else some (a0,(a0==12),()):Option (T01)).bind λ(x1,x2,_)=>bif x2 then(let x3:ByteArray:=(bytes [78]);some (x3,()))else bif(x1==1)then(let x3:ByteArray:=(bytes [72,80,78]);some (x3,()))else bif(x1==2)then(let x3:ByteArray:=(bytes [72,80,78]);some (x3,()))else bif(x1==3)then(let x3:ByteArray:=(bytes [78,78]);some (x3,()))else bif(x1==4)then(let x3:ByteArray:=(bytes [72]);some (x3,()))else bif(x1==5)then(let x3:ByteArray:=(bytes [72,78]);some (x3,()))else bif(x1==10)then(let x3:ByteArray:=(bytes [78,88]);some (x3,()))else bif(x1==13)then(let x3:ByteArray:=(bytes [78,80,78]);some (x3,()))else bif(x1==14)then(let x3:ByteArray:=(bytes [78,80,78]);some (x3,()))else let x3:ByteArray:=(bytes []);some (x3,())
def FU:X.Cfg:=⟨E0,[],[],[⟨3,0,qE,[(.normal,qS [Uaa 3,Xaa 4] [])]⟩]⟩
def py:Ctr:=⟨165,128,zac,[],[⟨uL [.str],[.one],[]⟩],ap1 mM⟩
theorem sw:Lk 1 py:=ls FU aN
def ol(a0 a1:Int):f_:=bif(a0==78)then(some ((a1==0),()))else bif(a0==72)then(some ((a1==2),()))else bif(a0==80)then(some ((a1==1),()))else some (true,())
def IC:X.Cfg:=⟨E0,[],[],[]⟩
def uH:Ctr:=⟨166,129,uL [CB,CB],[],[⟨zab,[.one],[]⟩],ap2 ol⟩
theorem zK:Lk 1 uH:=ls IC aN
def kv(a0:Int):h_:=bif(decide (a0<0))then(some ((-1),()))else bif(decide (a0>15))then(some ((-1),()))else bif(a0==1)then(some (1,()))else bif(a0==13)then(some (1,()))else bif(a0==2)then(some (2,()))else bif(a0==14)then(some (2,()))else some (0,())
def DB:X.Cfg:=⟨E0,[],[],[]⟩
def lR:Ctr:=⟨20,130,zac,[],[⟨zac,[.one],[]⟩],ap1 kv⟩
theorem oa:Lk 1 lR:=ls DB aN
def nW(a0:LI)(a1:Int)(a2:LI)(a3 a4 a5:Int):Option (T02):=bif(a3 != 1)then(some (0,3,()))else let x0:=wk .i64 a4;
(gX a0 a1 a2 x0).bind λ(x1,x2,x3,_)=>
(bif(!x3)then(some (true,a3,a4,()))else bif(decide (a5<0))then(some (true,a3,a4,()))else
(gk x1).bind λx4=>
(fU a2 x4).bind λx5=>let x6:=w64 (x5-x2);some ((decide (a5>x6)),a3,a4,()):Option (T0c)).bind λ(x4,_,x6,_)=>bif x4 then(some (0,4,()))else let x7:=wk .i64 x6;some (x7,0,())
def DD:X.Cfg:=⟨E0,[jI],[],[⟨6,0,qE,[(.normal,qS [zaa 6,Xaa 41] [(14,Xab)])]⟩]⟩
def wn:Ctr:=⟨167,131,[.agg Uab,shU RI,.agg Xab,shU I64],[],[⟨uad,[.one,.one],[]⟩],ap6 nW⟩
theorem Dg:Lk 2 wn:=ls DD (aC kY aN)
def oE:T3h->Option (T3h⊕((Int×Unit)⊕(Int×ByteArray×Int×Int×Bool×T2X))):=λ(v0,v1,v2,v3,v4,v5,v6,v7,v8,v9,eu,eE,eG,eI,eK)=>bif(decide (v3<v2))then((gk v3).bind λx0=>
(D5 v1 x0).bind λx1=>
(gk v3).bind λx2=>
(fU eI x2).bind λx3=>
(ol x1 x3.1).bind λ(x4,_)=>bif(!x4)then(some (.inr (.inl (6,()))))else let x5:=w64 (v3+1);some (.inl (v0,v1,v2,x5,v4,v5,v6,v7,v8,v9,eu,eE,eG,eI,eK)))else some (.inr (.inr (v0,v1,v2,v3,false,v4,v5,v6,v7,v8,v9,eu,eE,eG,eI,eK)))
def oT(a0:LDIn)(a1:LI)(a2:LLI)(a3:LI)(a4:Int)(a5:LDCe)(a6:LDLn)(a7:LDTh)(a8:Int):h_:=
(gk a8).bind λx0=>
(fU a7 x0).bind λx1=>let x2:=w64 (x1.2.2.1-1);
(gk x2).bind λx3=>
(fU a0 x3).bind λx4=>
(mM x4.2.2.2.2).bind λ(x5,_)=>let x6:=Br x5;
(match gd oE NN (x4.2.2.2.2,x5,x6,0,a0,a1,a2,a3,a4,a5,a6,a7,x1.1,x1.2.1,x1.2.2.1,x1.2.2.2.1,x1.2.2.2.2.1,x1.2.2.2.2.2.1,x1.2.2.2.2.2.2.1,x1.2.2.2.2.2.2.2,())with
|none=>none
|some (.inl (x7,_))=>some (x7,())
|some (.inr (x7,_,_,_,_,af,ag,_,ai,aj,_,_,_,_,aq,_))=>
(kv x7).bind λ(aD,_)=>bif(decide (aD>0))then((fU aq 1).bind λaE=>
(fU aq 2).bind λaF=>let aG:=wk .i64 aF.2;
(nW ai aj ag aE.1 aE.2 aG).bind λ(_,aI,_)=>bif(aI != 0)then(some (6,()))else
(fU aq 2).bind λaJ=>bif(decide (aJ.2>16))then(some (6,()))else
(bif(x7==10)then((fU aq 0).bind λaK=>let aL:=wk .i64 aK.2;let aM:=fZ af.length;some ((decide (aL>=aM)),()))else bif(x7==12)then((fU aq 0).bind λaK=>let aL:=wk .i64 aK.2;let aM:=fZ af.length;some ((decide (aL>=aM)),()))else some (false,()):f_).bind λ(aK,_)=>bif aK then(some (6,()))else some (0,()))else
(bif(x7==10)then((fU aq 0).bind λaE=>let aF:=wk .i64 aE.2;let aG:=fZ af.length;some ((decide (aF>=aG)),()))else bif(x7==12)then((fU aq 0).bind λaE=>let aF:=wk .i64 aE.2;let aG:=fZ af.length;some ((decide (aF>=aG)),()))else some (false,()):f_).bind λ(aE,_)=>bif aE then(some (6,()))else some (0,()))
def FX:X.Cfg:=⟨E0,[py,uH,lR,wn],[],[⟨6,0,qS (zl [3,4,7]++Uaa 8::sP 9 .str::il [29,30]) Uar,[(.ret,qS [Uaa 6] []),(.exit 0,qS (zl [3,4,7]++Uaa 8::sP 9 .str::il [29,30]++[Xaa 31]) Uar)]⟩,⟨19,1,qE,[(.normal,qS [Xaa 93] [])]⟩]⟩
def yh:Ctr:=⟨153,132,[.agg uab,.agg uac,shU I64],[],[⟨zac,[.one],[]⟩],as8 ap1 oT⟩
theorem Fe:Lk 3 yh:=ls FX (aC sw (aC zK (aC oa (aC Dg aN))))
def nV(a0:Int)(a1:LDCe)(a2 a3 a4 a5 a6 a7:Int):Option (T1Q):=bif(gl 4 0 a1.length)then let x0:LDCe:=(List.append [] a1);some (a0,x0,a2,a3,a4,a5,a6,a7,())else none
def DC:X.Cfg:=⟨E0,[],[],[]⟩
def wm:Ctr:=⟨168,133,[.agg Uad],[],[⟨Uaf,[.agg 8],[]⟩],as1 (as2 (as4 ap1)) nV⟩
theorem Df:Lk 1 wm:=ls DC aN
def pS(a0:Int)(a1:LDCe)(a2 a3 a4 a5 a6 a7 a8 a9:Int):Option (T1Q):=
(nV a0 a1 a2 a3 a4 a5 a6 a7).bind λ(_,x1,x2,x3,x4,x5,_)=>some (4,x1,x2,x3,x4,x5,a8,a9,())
def Kp:X.Cfg:=⟨E0,[wm],[],[]⟩
def wV:Ctr:=⟨154,134,[.agg Uad,shU I64,shU CW],[],[⟨Uaf,[.agg 8],[]⟩],as1 (as8 ap1) pS⟩
theorem BR:Lk 2 wV:=ls Kp (aC Df aN)
def jD(a0:Int):h_:=bif(decide (a0<0))then(some ((-1),()))else bif(decide (a0>15))then(some ((-1),()))else
(mM a0).bind λ(x0,_)=>let x1:=Br x0;some (x1,())
def zk:X.Cfg:=⟨E0,[py],[],[]⟩
def nQ:Ctr:=⟨155,135,zac,[],[⟨zac,[.one],[]⟩],ap1 jD⟩
theorem rI:Lk 2 nQ:=ls zk (aC sw aN)
def kQ:T42->Option (T42⊕(Int×Int×T3X)):=λ(v0,v1,v2,v3,v4,v5,v6,v7,v8,v9,eu,eE,eG,eI,eK,eO,eS,eV,eY,fa,fe,fh,fj,fm,fr,fv,fw,fA,fB,fC,fD,fE,fF,fG,fH,fI,fJ,fK,fL,_)=>bif(decide (v1<v0))then((gk v1).bind λx0=>
(fU fr x0).bind λx1=>
(jU eY fa v3 x1.1 x1.2).bind λ(x2,x3,x4,x5,_)=>let x6:LDCn:=[(x2,(x3,(x4,x5)))];bif(gl 24 fK.length x6.length)then let x7:LDCn:=(List.append fK x6);let x8:=w64 (v1+1);some (.inl (v0,x8,v2,v3,v4,v5,v6,v7,v8,v9,eu,eE,eG,eI,eK,eO,eS,eV,eY,fa,fe,fh,fj,fm,fr,fv,fw,fA,fB,fC,fD,fE,fF,fG,fH,fI,fJ,x7,fL,()))else none)else some (.inr (v0,v1,false,v2,v3,v4,v5,v6,v7,v8,v9,eu,eE,eG,eI,eK,eO,eS,eV,eY,fa,fe,fh,fj,fm,fr,fv,fw,fA,fB,fC,fD,fE,fF,fG,fH,fI,fJ,fK,fL,()))
def kP:T41->Option (T41⊕T45):=λ(v0,v1,v2,v3,v4,v5,v6,v7,v8,v9,eu,eE,eG,eI,eK,eO,eS,eV,eY,fa,fe,fh,fj,fm,fr,fv,fw,fA,fB,fC,fD,fE,fF,fG,fH,fI,fJ,fK,fL,_)=>bif(decide (v1<v0))then((fU fr 1).bind λx0=>let x1:=wk .i64 x0.2;let x2:=w64 (x1+v1);
(oq fe fh x2).bind λ(x3,x4,_)=>
(jU eY fa v3 x3 x4).bind λ(x5,x6,x7,x8,_)=>let x9:LDCn:=[(x5,(x6,(x7,x8)))];bif(gl 24 fL.length x9.length)then let ac:LDCn:=(List.append fL x9);let ae:=w64 (v1+1);some (.inl (v0,ae,v2,v3,v4,v5,v6,v7,v8,v9,eu,eE,eG,eI,eK,eO,eS,eV,eY,fa,fe,fh,fj,fm,fr,fv,fw,fA,fB,fC,fD,fE,fF,fG,fH,fI,fJ,fK,ac,()))else none)else some (.inr (v0,v1,false,v2,v3,v4,v5,v6,v7,v8,v9,eu,eE,eG,eI,eK,eO,eS,eV,eY,fa,fe,fh,fj,fm,fr,fv,fw,fA,fB,fC,fD,fE,fF,fG,fH,fI,fJ,fK,fL,()))
def om(a0:LDIn)(a1:LI)(a2:LLI)(a3:LI)(a4:Int)(a5:LDCe)(a6:LDLn)(a7:LDTh)(a8 a9:Int):Option (LI×Int×LDCe×LDLn×LDTh×Int×Int×Int×Int×Int×Int×LDCn×LDCn×Int×Unit):=
(oU a0 a1 a2 a3 a4 a5 a6 a7 a8 a9).bind λ(x0,x1,x2,x3,x4,x5,x6,_)=>bif(x6 != 0)then(some ([],0,[],[],[],0,0,0,0,0,0,[],[],x6,()))else
(gk a8).bind λx7=>
(fU x4 x7).bind λ_=>
(fU x4 x7).bind λx9=>
(fU x4 x7).bind λac=>
(match(bif(x5==2)then(some (.inl ((),0,(),(),(),0,0,0,0,0,0,(),(),x0,x1,x2,x3,x4,a8,x5,x9.2.2.2.2.2.2.1,x9.2.2.2.1,x9.2.2.1,0,(),(),())))else bif(x5==1)then((oT a0 a1 a2 x0 x1 x2 x3 x4 a8).bind λ(ae,_)=>bif(ae != 0)then((pS x9.1 ac.2.1 x9.2.2.1 x9.2.2.2.1 x9.2.2.2.2.1 x9.2.2.2.2.2.1 x9.2.2.2.2.2.2.1 x9.2.2.2.2.2.2.2 ae 0).bind λ(af,ag,ah,ai,aj,ak,am,an,_)=>
(gk a8).bind λap=>
(fU x4 ap).bind λ_=>
(fU x4 ap).bind λ_=>let ax:=x4.modify ap λe=>(af,(ag,(ah,(ai,(aj,(ak,(am,an)))))));some (.inl ((),0,(),(),(),0,0,0,0,0,0,(),(),x0,x1,x2,x3,ax,a8,2,ae,x9.2.2.2.1,x9.2.2.1,0,(),(),())))else let af:=w64 (x9.2.2.1-1);
(gk af).bind λag=>
(fU a0 ag).bind λah=>
(jD ah.2.2.2.2).bind λ(ai,_)=>
(gd kQ NN (ai,0,a0,a1,a2,(),0,(),(),(),0,0,0,0,0,0,(),(),x0,x1,x2,x3,x4,x9.1,ac.2.1,x9.2.2.1,x9.2.2.2.1,x9.2.2.2.2.1,x9.2.2.2.2.2.1,x9.2.2.2.2.2.2.1,x9.2.2.2.2.2.2.2,a8,x5,0,x9.2.2.2.1,x9.2.2.1,ah.2.2.2.2,[],(),())).bind λ(_,_,_,an,ap,aq,av,ax,ay,az,aA,aB,aD,aE,aF,aG,aH,aI,aJ,aK,aL,aM,aO,aP,aQ,aR,aS,aT,aU,aV,aW,aY,aZ,ba,bc,bd,be,bf,bg,bh,_)=>
(kv bf).bind λ(bi,_)=>bif(bi==1)then((fU aR 2).bind λbj=>let bk:=wk .i64 bj.2;
(gd kP NN (bk,0,an,ap,aq,av,ax,ay,az,aA,aB,aD,aE,aF,aG,aH,aI,aJ,aK,aL,aM,aO,aP,aQ,aR,aS,aT,aU,aV,aW,aY,aZ,ba,bc,bd,be,bf,bg,[],())).bind λ(bm)=>some (.inr (.inl (bm))))else some (.inr (.inr (.inl (false,an,ap,aq,av,ax,ay,az,aA,aB,aD,aE,aF,aG,aH,aI,aJ,aK,aL,aM,aO,aP,aQ,aR,aS,aT,aU,aV,aW,aY,aZ,ba,bc,bd,be,bf,bg,bh,())))))else some (.inr (.inr (.inr (a8,false,a0,a1,a2,(),0,(),(),(),0,0,0,0,0,0,(),(),x0,x1,x2,x3,x4,x9.1,ac.2.1,x9.2.2.1,x9.2.2.2.1,x9.2.2.2.2.1,x9.2.2.2.2.2.1,x9.2.2.2.2.2.2.1,x9.2.2.2.2.2.2.2,a8,x5,0,x9.2.2.2.1,x9.2.2.1,0,(),(),())))):Option ((Unit×Int×Unit×Unit×Unit×Int×Int×Int×Int×Int×Int×Unit×Unit×LI×Int×LDCe×LDLn×LDTh×T1L)⊕(T45⊕(T3X⊕(Int×Bool×LDIn×LI×LLI×Unit×Int×Unit×Unit×Unit×Int×Int×Int×Int×Int×Int×Unit×Unit×LI×Int×LDCe×LDLn×LDTh×Int×LDCe×Int×Int×Int×Int×Int×Int×T1L)))))with
|none=>none
|some (.inl (_,_,_,_,_,_,_,_,_,_,_,_,_,ay,az,aA,aB,aD,aE,aF,aG,aH,aI,aJ,_,_,_))=>some (ay,az,aA,aB,aD,aE,aF,aG,aH,aI,aJ,[],[],0,())
|some (.inr (.inl (_,_,_,_,_,_,_,_,_,_,_,_,_,_,_,_,_,_,_,aF,aG,aH,aI,aJ,_,_,_,_,_,_,_,_,aT,aU,aV,aW,aY,aZ,ba,bc,_)))=>some (aF,aG,aH,aI,aJ,aT,aU,aV,aW,aY,aZ,ba,bc,0,())
|some (.inr (.inr (.inl (_,_,_,_,_,_,_,_,_,_,_,_,_,_,_,_,_,aD,aE,aF,aG,aH,_,_,_,_,_,_,_,_,aR,aS,aT,aU,aV,aW,aY,_,_))))=>some (aD,aE,aF,aG,aH,aR,aS,aT,aU,aV,aW,aY,[],0,())
|some (.inr (.inr (.inr (_,_,_,_,_,_,_,_,_,_,_,_,_,_,_,_,_,_,aE,aF,aG,aH,aI,_,_,_,_,_,_,_,_,aS,aT,aU,aV,aW,aY,_,_,_))))=>some (aE,aF,aG,aH,aI,aS,aT,aU,aV,aW,aY,[],[],0,()))
def ID:X.Cfg:=⟨E0,[yi,yh,wV,nQ,pB,lR,uP],[],[⟨19,0,qS (zl [4,8,9,11,14,15]++il [80,81]) zap,[(.exit 1,qS (zl [4,8,9,11,14,15]++il [80,81]++[Xaa 82]) zap)]⟩,⟨26,1,qS (zl [4,8,9,11,14,15]++il [109,110]) Uap,[(.exit 3,qS yax Uap)]⟩,⟨7,2,qE,[(.normal,qS (zl [8,9,11,15]) [(18,Zab),(20,zae),(24,uah),(32,zae)]),(.normal,qS yax Uap),(.normal,qS (zl [4,8,9,11,14,15]++[Xaa 103]) zap),(.normal,qS (Uaa 2::zl [4,8,9,11,14,15]++[Xaa 51]) [(10,uab),(18,Zab),(20,zae),(24,uah),(30,Uad),(32,zae)])]⟩]⟩
def Al:Ctr:=⟨134,136,[.agg uab,.agg uac,shU I64,shU I64],[],[⟨uL [RI,CW,(uaa KCe),iz,(uaa nA),I64,I64,I64,I64,I64,I64,(uaa KCn),(uaa KCn),I64],[.agg 5,.agg 8,.one],[]⟩],as1 (as8 ap1) om⟩
theorem HY:Lk 6 Al:=ls ID (aC Ff (aC Fe (aC BR (aC rI (aC sA (aC oa (aC zP aN)))))))
def kO:T2e->Option (T2e⊕T2p):=λ(v0,v1,v2,v3,v4,v5,v6,v7,v8,_)=>bif(decide (v2<v1))then((gk v2).bind λx0=>
(fU v0 x0).bind λx1=>bif(gl 8 0 x1.length)then let x2:v_:=(List.append [] x1);bif(gl 24 v8.length (List.length [x2]))then let x3:List LI:=(List.append v8 [x2]);let x4:=w64 (v2+1);some (.inl (v0,v1,x4,v3,v4,v5,v6,v7,x3,()))else none else none)else some (.inr (v0,v1,v2,false,v3,v4,v5,v6,v7,v8,()))
def oj(a0:LI)(a1:LLI):Option (T08):=bif(gl 8 0 a0.length)then let x0:v_:=(List.append [] a0);let x1:=fZ a1.length;
(gd kO NN (a1,x1,0,a0,a1,(),(),x0,[],())).bind λ(_,_,_,_,_,_,_,_,ac)=>some (ac)else none
def IA:X.Cfg:=⟨E0,[],[(21,(uaa I64)),(22,(uaa I64))],[(lx 4 0 (zl [2,3]++sP 11 (yaa RI)::il [12,13]) [(4,Xaf),(6,yac),(8,yaf)] 14)]⟩
def qZ:Ctr:=⟨169,137,[.agg Xaf],[],[⟨yaf,[.agg 2],[]⟩],ap2 oj⟩
theorem uj:Lk 1 qZ:=ls IA aN
def jL(a0:LI)(a1:LLI)(a2 a3:Int):Option (LI×LLI×T01):=
(oj a0 a1).bind λ(x0,x1,_)=>
(bif(decide (a2<0))then(some (a2,true,(),(),x0,x1,()))else bif(decide (a2>=4))then(some (a2,true,(),(),x0,x1,()))else
(gk a2).bind λx2=>
(fU a0 x2).bind λx3=>some (a2,(x3 != a3),(),(),x0,x1,()):Option (T16)).bind λ(x2,x3,_,_,x6,x7,_)=>bif x3 then(some (x6,x7,(-1),false,()))else
(gk x2).bind λx8=>
(fU x6 x8).bind λ_=>
(fU x6 x8).bind λ_=>let ae:=x6.modify x8 λe=>(-1);
(gk x2).bind λaf=>
(fU x7 af).bind λ_=>
(fU x7 af).bind λ_=>
(fU x7 af).bind λai=>let aj:=fZ ai.length;bif(decide (aj>0))then((gk x2).bind λak=>
(fU x7 ak).bind λ_=>
(fU x7 ak).bind λ_=>
(fU x7 ak).bind λap=>
(fU ap 0).bind λ_=>
(fU x7 ak).bind λav=>
(fU av 0).bind λax=>
(gk x2).bind λay=>
(fU ae ay).bind λ_=>
(fU ae ay).bind λ_=>let aB:=ae.modify ay λe=>ax;
(gk x2).bind λaD=>
(fU x7 aD).bind λ_=>
(fU x7 aD).bind λ_=>
(fU x7 aD).bind λaG=>bif(jl 1 aG.length aG.length)then(fU x7 aD).bind λ_=>
(gk x2).bind λaI=>
(fU x7 aI).bind λ_=>
(fU x7 aD).bind λaK=>
(fU x7 aI).bind λ_=>let aM:=x7.modify aI λe=>(oM aK 1 (Nat.sub aG.length 1));
(gk x2).bind λaO=>
(fU aB aO).bind λaP=>some (aB,aM,aP,true,())else none)else
(gk x2).bind λak=>
(fU ae ak).bind λam=>some (ae,x7,am,true,())
def Iy:X.Cfg:=⟨E0,[qZ],[],[⟨3,0,qE,[(.normal,qS [Uaa 1,zaa 6,zaa 9,Xaa 26] [(14,yac),(20,yaf)])]⟩]⟩
def qY:Ctr:=⟨156,138,[.agg Xaf,shU I64,shU I64],[],[⟨uL [RI,(yaa RI),I64,.bool],[.agg 2,.one,.one],[]⟩],ap4 jL⟩
theorem ui:Lk 2 qY:=ls Iy (aC uj aN)
def gt(a0:Int)(a1:Bool):Option (T1u):=
(bif(!a1)then(some (65535,0,0,0,0,(),0,false,()))else some (a0,0,0,0,0,(),0,false,()):Option (Int×T1u)).bind λ(x0,_)=>let x8:=wk .u16 x0;some (0,x8,0,0,(),(-1),false,())
def FI:X.Cfg:=⟨E0,[],[],[⟨1,0,qE,[(.normal,qS [Uaa 0,zaa 4] [(10,Zad)])]⟩]⟩
def nu:Ctr:=⟨170,139,uL [I64,.bool],[],[⟨Zad,[.agg 7],[]⟩],ap2 gt⟩
theorem pj:Lk 1 nu:=ls FI aN
def pR:T2O->Option (T2O⊕((Int×T08)⊕(Int×Int×LLI×Int×Int×LI×T1X))):=λ(v0,v1,v2,v3,v4,v5,v6,v7,v8,v9,eu,eE,eG)=>bif(decide (v7<v6))then((gk v7).bind λx0=>
(fU v5 x0).bind λx1=>bif(x1==v1)then(some (.inr (.inl (2,eG))))else let x2:=w64 (v7+1);some (.inl (v0,v1,v2,v3,v4,v5,v6,x2,v8,v9,eu,eE,eG)))else some (.inr (.inr (v0,v1,v2,v3,v4,v5,v6,v7,false,v8,v9,eu,eE,eG)))
def pQ:T2t->Option (T2t⊕((Int×T08)⊕(Int×Int×T2p))):=λ(v0,v1,v2,v3,v4,v5)=>bif(decide (v4<v3))then((gk v4).bind λx0=>
(fU v2 x0).bind λx1=>let x2:=fZ x1.length;
(match gd pR NN (v0,v1,v2,v3,v4,x1,x2,0,v5)with
|none=>none
|some (.inl (x3,x4,x5,_))=>some (.inr (.inl (x3,x4,x5,())))
|some (.inr (x3,x4,x5,x6,x7,_,_,_,_,af))=>let am:=w64 (x7+1);some (.inl (x3,x4,x5,x6,am,af))))else some (.inr (.inr (v0,v1,v2,v3,v4,false,v5)))
def qz(a0:LI)(a1:LLI)(a2 a3:Int):Option (LI×LLI×Int×Unit):=
(oj a0 a1).bind λ(x0,x1,_)=>
(bif(decide (a2<0))then(some (a2,a3,true,a0,a1,(),(),x0,x1,()))else bif(decide (a2>=4))then(some (a2,a3,true,a0,a1,(),(),x0,x1,()))else
(gk a2).bind λx2=>
(fU a0 x2).bind λx3=>some (a2,a3,(x3==a3),a0,a1,(),(),x0,x1,()):Option (T1X)).bind λ(x2,x3,x4,x5,x6,x7,x8,x9,ac,_)=>bif x4 then(some (x9,ac,2,()))else let ae:=fZ x6.length;
(match gd pQ NN (x2,x3,x6,ae,0,x5,x6,x7,x8,x9,ac,())with
|none=>none
|some (.inl (af,ag,ah,_))=>some (ag,ah,af,())
|some (.inr (af,ag,_,_,_,_,am,_,_,_,av,ax,_))=>
(gk af).bind λay=>
(fU am ay).bind λaz=>bif(az==(-1))then((gk af).bind λaA=>
(fU av aA).bind λ_=>
(fU av aA).bind λ_=>let aE:=av.modify aA λe=>ag;some (aE,ax,0,()))else
(gk af).bind λaA=>
(fU ax aA).bind λ_=>
(fU ax aA).bind λ_=>
(fU ax aA).bind λaE=>bif(gl 8 aE.length (List.length [ag]))then let aF:v_:=(List.append aE [ag]);
(gk af).bind λaG=>
(fU ax aG).bind λ_=>
(fU ax aG).bind λ_=>bif(Nat.beq aG aA)then let aJ:List LI:=(ax.modify aG λe=>aF);some (av,aJ,1,())else none else none)
def Ix:X.Cfg:=⟨E0,[qZ],[],[⟨3,0,qE,[(.normal,qS (il [1,2]++zl [3,6,8]++[Xaa 29]) Uan)]⟩,⟨13,1,qS (il [1,2]++zl [3,6,8]++sP 32 (yaa RI)::il [33,34]++sP 38 RI::il [39,40]) Uan,[(.ret,qS Uav [(14,yaf)]),(.exit 2,qS (il [1,2]++zl [3,6,8]++sP 32 (yaa RI)::il [33,34]++sP 38 RI::il [39,40]++[Xaa 41]) Uan)]⟩,⟨7,2,qS (il [1,2]++zl [3,6,8]++sP 32 (yaa RI)::il [33,34]) Uan,[(.ret,qS Uav [(14,yaf)]),(.exit 0,qS (il [1,2]++zl [3,6,8]++sP 32 (yaa RI)::il [33,34]++[Xaa 35]) Uan)]⟩]⟩
def Aj:Ctr:=⟨171,140,[.agg Xaf,shU I64,shU I64],[],[⟨uL [(uaa I64),(uaa (uaa I64)),I64],[.agg 2,.one],[]⟩],ap4 qz⟩
theorem HW:Lk 2 Aj:=ls Ix (aC uj aN)
def mN(a0 a1 a2 a3 a4 a5:Int)(a6 a7:LDCn):f_:=bif(decide (a0>=0))then(bif(decide (a0<4))then(bif(decide (a1>=0))then(bif(decide (a1<=3))then(bif(decide (a2>=0))then(bif(decide (a2<=6))then(bif(decide (a3>=0))then(bif(decide (a3<=1099511627776))then(bif(decide (a4>=0))then(bif(decide (a4<=255))then(bif(decide (a5>=0))then(bif(decide (a5<=15))then((g8 a6 3).bind λ(x0,_)=>bif x0 then((g8 a7 16).bind λ(x1,_)=>some (x1,()))else some (false,()))else some (false,()))else some (false,()))else some (false,()))else some (false,()))else some (false,()))else some (false,()))else some (false,()))else some (false,()))else some (false,()))else some (false,()))else some (false,()))else some (false,())
def FV:X.Cfg:=⟨E0,[jn],[],[]⟩
def sM:Ctr:=⟨173,141,[.agg Uac],[],[⟨zab,[.one],[]⟩],as1 (as2 (as4 ap1)) mN⟩
theorem xH:Lk 3 sM:=ls FV (aC jZ aN)
def tQ(a0:Int):f_:=bif(decide (a0>=1))then(bif(decide (a0<=7))then(some (true,()))else bif(a0==13)then(some (true,()))else some ((a0==14),()))else bif(a0==13)then(some (true,()))else some ((a0==14),())
def Ip:X.Cfg:=⟨E0,[],[],[]⟩
def Ae:Ctr:=⟨181,142,zac,[],[⟨zab,[.one],[]⟩],ap1 tQ⟩
theorem HQ:Lk 1 Ae:=ls Ip aN
def j9:T2B->Option (T2B⊕((Bool×Unit)⊕(ByteArray×LDCn×Int×Int×Bool×T1J))):=λ(v0,v1,v2,v3,v4)=>bif(decide (v3<v2))then((gk v3).bind λx0=>
(fU v1 x0).bind λx1=>
(gk v3).bind λx2=>
(D5 v0 x2).bind λx3=>
(ol x3 x1.1).bind λ(x4,_)=>bif(!x4)then(some (.inr (.inl (false,()))))else let x5:=w64 (v3+1);some (.inl (v0,v1,v2,x5,v4)))else some (.inr (.inr (v0,v1,v2,v3,false,v4)))
def oS(a0 a1 a2 a3 a4 a5:Int)(a6 a7:LDCn):f_:=
(mM a5).bind λ(x0,_)=>let x1:=Br x0;let x2:=fZ a6.length;bif(x1 != x2)then(some (false,()))else let x3:=fZ a6.length;
(match gd j9 NN (x0,a6,x3,0,a0,a1,a2,a3,a4,a5,a6,a7,())with
|none=>none
|some (.inl (x4,_))=>some (x4,())
|some (.inr (_,_))=>some (true,()))
def FW:X.Cfg:=⟨E0,[py,uH],[],[⟨7,0,qS (sP 3 .str::sP 16 gp::il [17,18]) [(4,Uac)],[(.ret,qS yau []),(.exit 0,qS [sP 3 .str,sP 16 gp,Uaa 17,Uaa 18,Xaa 19] [(4,Uac)])]⟩]⟩
def yg:Ctr:=⟨182,143,[.agg Uac],[],[⟨zab,[.one],[]⟩],as1 (as2 (as4 ap1)) oS⟩
theorem Fd:Lk 2 yg:=ls FW (aC sw (aC zK aN))
def jK(a0:z_)(a1:LDOp)(a2:Int):f_:=bif(decide (a2>=0))then(let x0:Int:=(fZ a1.length);bif(decide (a2<x0))then((gk a2).bind λx1=>
(fU a1 x1).bind λx2=>some ((x2.1 != (-1)),()))else some (false,()))else some (false,())
def Is:X.Cfg:=⟨E0,[],[],[]⟩
def ox:Ctr:=⟨196,144,[.agg yae,shU I64],[],[⟨zab,[.one],[]⟩],ap3 jK⟩
theorem qQ:Lk 1 ox:=ls Is aN
def te:T2w->Option (T2w⊕(LDCn×Nat×Int×Int×Int×Bool×T1o)):=λ(v0,v1,v2,v3,v4,v5,v6,v7,v8,v9,eu,_)=>bif(decide (v4<v3))then(((fU v9 v1).bind λx0=>let x1:=w64 (x0.2.1+v4);let x2:=fZ eu.length;bif(decide (x1<x2))then((fU v9 v1).bind λx3=>let x4:=w64 (x3.2.1+v4);
(gk v4).bind λx5=>
(fU v0 x5).bind λx6=>
(gk x4).bind λx7=>
(fU eu x7).bind λ_=>
(fU eu x7).bind λ_=>let ac:=eu.modify x7 λe=>(x6.1,(x6.2.1,(x6.2.2.1,x6.2.2.2)));some (v0,v1,v2,v3,v4,v5,v6,v7,v8,v9,ac,()))else
(gk v4).bind λx3=>
(fU v0 x3).bind λx4=>let x5:LDCn:=[(x4.1,(x4.2.1,(x4.2.2.1,x4.2.2.2)))];bif(gl 24 eu.length x5.length)then let x6:LDCn:=(List.append eu x5);some (v0,v1,v2,v3,v4,v5,v6,v7,v8,v9,x6,())else none:Option (T2w)).bind λ(x0,x1,x2,x3,x4,x5,x6,x7,x8,x9,ac,_)=>let ae:=w64 (x4+1);some (.inl (x0,x1,x2,x3,ae,x5,x6,x7,x8,x9,ac,())))else some (.inr (v0,v1,v2,v3,v4,false,v5,v6,v7,v8,v9,eu,()))
def oP(a0:z_)(a1:LDOp)(a2:Int)(a3:LDCn):Option (LLCn×LDOp×T01):=
(jg a0 a1).bind λ(x0,x1,_)=>
((jK a0 a1 a2).bind λ(x2,_)=>bif(!x2)then(some (a2,a3,true,(),(),x0,x1,()))else
(gk a2).bind λx3=>
(fU a1 x3).bind λx4=>bif(!x4.2.2)then(some (a2,a3,true,(),(),x0,x1,()))else let x5:=fZ a3.length;
(g8 a3 x5).bind λ(x6,_)=>some (a2,a3,(!x6),(),(),x0,x1,()):Option (Int×LDCn×T0O)).bind λ(x2,x3,x4,x5,x6,x7,x8,_)=>bif x4 then(some (x7,x8,0,false,()))else
(gk x2).bind λx9=>
(fU x8 x9).bind λ_=>let ae:=fZ x3.length;
(fU x8 x9).bind λaf=>let ag:=w64 (64-af.2.1);let ah:=mmR false ae ag;
(fU x8 x9).bind λai=>
(gk ai.1).bind λaj=>
(fU x7 aj).bind λ_=>
(fU x7 aj).bind λ_=>
(fU x7 aj).bind λan=>
(gd te NN (x3,x9,ah,ah,0,x5,x6,x7,aj,x8,an,())).bind λ(_,aq,av,_,_,_,_,_,aD,aE,aF,aG,_)=>
(fU aF aq).bind λaH=>
(gk aH.1).bind λaI=>
(fU aD aI).bind λ_=>
(fU aD aI).bind λ_=>bif(Nat.beq aI aE)then let aL:z_:=(aD.modify aI λe=>aG);
(fU aF aq).bind λaM=>let aO:=w64 (aM.2.1+av);
(fU aF aq).bind λ_=>let aQ:=aF.modify aq λe=>(e.1,(aO,e.2.2));some (aL,aQ,av,true,())else none
def FM:X.Cfg:=⟨E0,[lb,ox,jn],[],[⟨3,0,qE,[(.normal,qS [Uaa 1,sP 2 gp,zaa 6,zaa 9,Xaa 35] [(14,yac),(20,zaf)])]⟩,⟨13,1,qE,[(.normal,(qS zax Xar))]⟩,(lx 10 2 zax Xar 59)]⟩
def yc:Ctr:=⟨183,145,[.agg yae,shU I64,shU gp],[],[⟨uL [(uaa (uaa KCn)),(uaa KOp),I64,.bool],[.agg 2,.one,.one],[]⟩],ap4 oP⟩
theorem E9:Lk 3 yc:=ls FM (aC mt (aC qQ (aC jZ aN)))
def qx(a0:z_)(a1:LDOp)(a2 a3:Int):Option ((LLCn×LDOp×Unit×Bool×Unit)⊕(LLCn×LDOp×LDCn×Bool×Unit)):=
(jg a0 a1).bind λ(x0,x1,_)=>
((jK a0 a1 a2).bind λ(x2,_)=>bif(!x2)then(some (a2,a3,true,a0,a1,(),(),x0,x1,()))else bif(decide (a3<0))then(some (a2,a3,true,a0,a1,(),(),x0,x1,()))else
(gk a2).bind λx3=>
(fU a1 x3).bind λx4=>some (a2,a3,x4.2.2,a0,a1,(),(),x0,x1,()):Option (T1Y)).bind λ(x2,x3,x4,_,_,_,_,x9,ac,_)=>bif x4 then(some (.inl (x9,ac,(),false,())))else
(gk x2).bind λae=>
(fU ac ae).bind λ_=>
(fU ac ae).bind λag=>
(gk ag.1).bind λah=>
(fU x9 ah).bind λ_=>
(fU x9 ah).bind λ_=>
(fU x9 ah).bind λak=>let am:=fZ ak.length;
(fU ac ae).bind λan=>let ap:=w64 (am-an.2.1);let aq:=mmR false x3 ap;
(fU ac ae).bind λav=>
(fU ac ae).bind λax=>let ay:=w64 (ax.2.1+aq);
(gk av.2.1).bind λaz=>
(gk ay).bind λaA=>bif(jl az aA ak.length)then let aB:LDCn:=(oM ak az (Nat.sub aA az));bif(gl 24 0 aB.length)then let aD:LDCn:=(List.append [] aB);
(fU ac ae).bind λaE=>let aF:=w64 (aE.2.1+aq);
(fU ac ae).bind λ_=>let aH:=ac.modify ae λe=>(e.1,(aF,e.2.2));some (.inr (x9,aH,aD,true,()))else none else none
def Iu:X.Cfg:=⟨E0,[lb,ox],[],[⟨3,0,qE,[(.normal,qS (il [1,2]++zl [6,9]++[Xaa 31]) [(8,yae),(14,yac),(20,zaf)])]⟩]⟩
def Ah:Ctr:=⟨184,146,[.agg yae,shU I64,shU I64],[],[⟨uL [(uaa (uaa KCn)),(uaa KOp),N1,.bool],[.agg 2,.one,.one],[]⟩,⟨uL [(uaa gp),(uaa KOp),(uaa KCn),.bool],[.agg 2,.one,.one],[]⟩],ap4 qx⟩
theorem HU:Lk 2 Ah:=ls Iu (aC mt (aC qQ aN))
def tS:T22->Option (T22⊕(Int×T1Y)):=λ(v0,v1,v2,v3,v4,v5)=>let x0:=fZ v4.length;bif(decide (v2<x0))then((gk v2).bind λx1=>
(fU v4 x1).bind λx2=>bif(x2.1 != (-1))then(let x3:Int:=(w64 (v2+1));some (.inl (v0,v1,x3,v3,v4,v5)))else some (.inr (v0,v1,v2,false,v3,v4,v5)))else some (.inr (v0,v1,v2,false,v3,v4,v5))
def tR:T20->Option (T20⊕(Int×Int×T1I)):=λ(v0,v1,v2,v3,v4,v5,v6,v7,v8,_)=>bif(decide (v4<v3))then(((gk v4).bind λx0=>
(fU v8 x0).bind λ_=>
(fU v8 x0).bind λx2=>bif(x2.1==v0)then((gk v4).bind λx3=>
(fU v8 x3).bind λ_=>
(fU v8 x3).bind λ_=>let x6:=v8.modify x3 λe=>(e.1,(0,e.2.2));some (v0,v1,v2,v3,v4,v5,v6,v7,x6,()))else some (v0,v1,v2,v3,v4,v5,v6,v7,v8,()):Option (T20)).bind λ(x0,x1,x2,x3,x4,x5,x6,x7)=>let x9:=w64 (x4+1);some (.inl (x0,x1,x2,x3,x9,x5,x6,x7)))else some (.inr (v0,v1,v2,v3,v4,false,v5,v6,v7,v8,()))
def qy(a0:z_)(a1:LDOp)(a2 a3:Int):Option (LLCn×LDOp×Int×Unit):=
(jg a0 a1).bind λ(x0,x1,_)=>
(gd tS NN (a2,a3,0,a0,a1,(),(),x0,x1,())).bind λ(x2,x3,x4,_,x6,x7,x8)=>
(bif(decide (x2<0))then(some (x2,x3,x4,true,x8))else let af:=fZ x6.length;bif(decide (x2>=af))then(some (x2,x3,x4,true,x8))else bif(decide (x3<0))then(some (x2,x3,x4,true,x8))else bif(decide (x3>2))then(some (x2,x3,x4,true,x8))else let ag:=fZ x7.length;some (x2,x3,x4,(x4==ag),x8):Option (T1I)).bind λ(af,ag,ah,ai,aj,ak,am,an,_)=>bif ai then(some (am,an,(-1),()))else bif(ag==1)then((gk af).bind λap=>
(fU am ap).bind λ_=>
(fU am ap).bind λ_=>let ax:=am.modify ap λe=>[];let ay:=fZ an.length;
(gd tR NN (af,ag,ah,ay,0,aj,ak,ax,an,())).bind λ(az,aA,aB,_,_,_,aG,aH,aI,aJ,_)=>
(gk aB).bind λaK=>
(fU aJ aK).bind λ_=>
(fU aJ aK).bind λ_=>let aO:=aJ.modify aK λe=>(az,(0,(decide (aA>0))));
(bif(aA==2)then((gk az).bind λaP=>
(fU aI aP).bind λ_=>
(fU aI aP).bind λ_=>
(fU aI aP).bind λaS=>let aT:=fZ aS.length;
(gk aB).bind λaU=>
(fU aO aU).bind λ_=>
(fU aO aU).bind λ_=>let aY:=aO.modify aU λe=>(e.1,(aT,e.2.2));some (aB,aG,aH,aI,aY,()))else some (aB,aG,aH,aI,aO,()):Option (T0T)).bind λ(aP,_,_,aS,aT,_)=>some (aS,aT,aP,()))else
(gk ah).bind λap=>
(fU an ap).bind λ_=>
(fU an ap).bind λ_=>let ax:=an.modify ap λe=>(af,(0,(decide (ag>0))));
(bif(ag==2)then((gk af).bind λay=>
(fU am ay).bind λ_=>
(fU am ay).bind λ_=>
(fU am ay).bind λaB=>let aD:=fZ aB.length;
(gk ah).bind λaE=>
(fU ax aE).bind λ_=>
(fU ax aE).bind λ_=>let aH:=ax.modify aE λe=>(e.1,(aD,e.2.2));some (ah,aj,ak,am,aH,()))else some (ah,aj,ak,am,ax,()):Option (T0T)).bind λ(ay,_,_,aB,aD,_)=>some (aB,aD,ay,())
def Iv:X.Cfg:=⟨E0,[lb],[],[(lx 4 0 (il [1,2]++zl [3,6,8]++[Uaa 9]) [(8,yae),(14,yac),(18,zaf)] 26),⟨8,1,qE,[(.normal,qS (il [1,2]++zl [6,8]++[Uaa 9,Xaa 52]) yan)]⟩,⟨17,2,qE,[(.normal,qS Uax yan)]⟩,⟨14,3,qS Uax yan,[(.exit 2,qS (il [1,2]++zl [6,8]++il [9,62,63]++[Xaa 64]) yan)]⟩,⟨21,4,qE,[(.normal,qS [zaa 6,zaa 8,Uaa 9] yan)]⟩]⟩
def Ai:Ctr:=⟨185,147,[.agg yae,shU I64,shU I64],[],[⟨yal,[.agg 2,.one],[]⟩],ap4 qy⟩
theorem HV:Lk 2 Ai:=ls Iv (aC mt aN)
def oQ(a0:z_)(a1:LDOp)(a2:Int):Option (LLCn×LDOp×Bool×Unit):=
(jg a0 a1).bind λ(x0,x1,_)=>
(jK a0 a1 a2).bind λ(x2,_)=>bif(!x2)then(some (x0,x1,false,()))else
(gk a2).bind λx3=>
(fU x1 x3).bind λ_=>
(fU x1 x3).bind λ_=>let x6:=x1.modify x3 λe=>((-1),(0,false));some (x0,x6,true,())
def FO:X.Cfg:=⟨E0,[lb,ox],[],[]⟩
def yd:Ctr:=⟨186,148,[.agg yae,shU I64],[],[⟨Ual,[.agg 2,.one],[]⟩],ap3 oQ⟩
theorem Fa:Lk 2 yd:=ls FO (aC mt (aC qQ aN))
def qw(a0:z_)(a1:LDOp)(a2 a3:Int):Option (LLCn×LDOp×Bool×Unit):=
(jg a0 a1).bind λ(x0,x1,_)=>
((jK a0 a1 a2).bind λ(x2,_)=>bif(!x2)then(some (a2,a3,true,(),(),x0,x1,()))else bif(decide (a3<0))then(some (a2,a3,true,(),(),x0,x1,()))else
(gk a2).bind λx3=>
(fU a1 x3).bind λx4=>
(gk x4.1).bind λx5=>
(fU a0 x5).bind λx6=>let x7:=fZ x6.length;some (a2,a3,(decide (a3>x7)),(),(),x0,x1,()):Option (T1r)).bind λ(x2,x3,x4,_,_,x7,x8,_)=>bif x4 then(some (x7,x8,false,()))else
(gk x2).bind λx9=>
(fU x8 x9).bind λ_=>
(fU x8 x9).bind λ_=>let af:=x8.modify x9 λe=>(e.1,(x3,e.2.2));some (x7,af,true,())
def It:X.Cfg:=⟨E0,[lb,ox],[],[⟨3,0,qE,[(.normal,qS (il [1,2]++zl [6,8]++[Xaa 33]) yan)]⟩]⟩
def Ag:Ctr:=⟨187,149,[.agg yae,shU I64,shU I64],[],[⟨Ual,[.agg 2,.one],[]⟩],ap4 qw⟩
theorem HS:Lk 2 Ag:=ls It (aC mt (aC qQ aN))
def mp(a0:LDOu)(a1:Int)(a2:LDCn):Option (LDOu×T01):=
(kM a0).bind λ(x0,_)=>
(bif(decide (a1<0))then(some (a0,a1,a2,true,x0,()))else bif(decide (a1>=2))then(some (a0,a1,a2,true,x0,()))else let x1:=fZ a0.length;bif(decide (x1>=200))then(some (a0,a1,a2,true,x0,()))else let x2:=fZ a2.length;some (a0,a1,a2,(decide (x2>16)),x0,()):Option (LDOu×Int×LDCn×Bool×LDOu×Unit)).bind λ(x1,x2,x3,x4,x5,_)=>bif x4 then(some (x5,0,false,()))else let x6:=fZ x1.length;bif(gl 24 0 x3.length)then let x7:LDCn:=(List.append [] x3);let x8:LDOu:=[(x6,(x2,x7))];bif(gl 40 x5.length x8.length)then let x9:LDOu:=(List.append x5 x8);let ac:=fZ x3.length;some (x9,ac,true,())else none else none
def Iq:X.Cfg:=⟨E0,[uE],[(36,Jw),(37,Jw)],[⟨3,0,qE,[(.normal,qS [sP 0 lc,Uaa 1,sP 2 gp,Zaa 9 21,Xaa 27] [(21,uak)])]⟩]⟩
def Af:Ctr:=⟨188,150,uL [lc,I64,gp],[],[⟨uL [(uaa Jw),I64,.bool],[.one,.one,.one],[]⟩],ap3 mp⟩
theorem HR:Lk 2 Af:=ls Iq (aC zJ aN)
def jf:T1w->Option (T1w⊕(Int×Int×LI×Int×Int×Bool×LLI×LDCn×Unit)):=λ(v0,v1,v2,v3,v4,v5,v6,_)=>bif(decide (v4<v3))then((gk v4).bind λx0=>
(fU v2 x0).bind λx1=>let x2:LDCn:=[(0,(x1,(0,0)))];bif(gl 24 v6.length x2.length)then let x3:LDCn:=(List.append v6 x2);let x4:=w64 (v4+1);some (.inl (v0,v1,v2,v3,x4,v5,x3,()))else none)else some (.inr (v0,v1,v2,v3,v4,false,v5,v6,()))
def mF(a0:LLI)(a1 a2:Int):Option ((LLI×Unit×Bool×Unit)⊕(LLI×LDCn×Bool×Unit)):=
(iN a0).bind λ(x0,_)=>
(bif(decide (a1<0))then(some (a0,a1,a2,true,x0,()))else let x1:=fZ a0.length;bif(decide (a1>=x1))then(some (a0,a1,a2,true,x0,()))else some (a0,a1,a2,(decide (a2<0)),x0,()):Option (LLI×Int×Int×Bool×LLI×Unit)).bind λ(x1,x2,x3,x4,x5,_)=>bif x4 then(some (.inl (x5,(),false,())))else
(gk x2).bind λx6=>
(fU x1 x6).bind λx7=>let x8:=fZ x7.length;let x9:=mmR false x3 x8;
(gk x2).bind λac=>
(fU x1 ac).bind λae=>
(gk x9).bind λaf=>bif(jl 0 af ae.length)then let ag:v_:=(oM ae 0 (Nat.sub af 0));let ah:=fZ ag.length;
(gd jf NN (x2,x9,ag,ah,0,x5,[],())).bind λ(ai,aj,_,_,_,_,aq,av,_)=>
(gk ai).bind λax=>
(fU aq ax).bind λ_=>
(fU aq ax).bind λ_=>
(fU aq ax).bind λaA=>
(gk aj).bind λaB=>bif(jl aB aA.length aA.length)then(fU aq ax).bind λ_=>
(gk ai).bind λaE=>
(fU aq aE).bind λ_=>
(fU aq ax).bind λaG=>
(fU aq aE).bind λ_=>let aI:=aq.modify aE λe=>(oM aG aB (Nat.sub aA.length aB));some (.inr (aI,av,true,()))else none else none
def B9:X.Cfg:=⟨E0,[kI],[],[⟨3,0,qE,[(.normal,qS [sP 0 (yaa RW),Uaa 1,Uaa 2,Zaa 9 21,Xaa 27] [(21,zaj)])]⟩,(lx 9 1 [Uaa 1,Zaa 9 21,Uaa 10,Zaa 11 25,sP 41 RW,Uaa 42,Uaa 43] [(21,zaj),(25,Xag)] 44)]⟩
def uC:Ctr:=⟨189,151,uL [(yaa RW),I64,I64],[],[⟨uL [(uaa (uaa CW)),N1,.bool],[.one,.one,.one],[]⟩,⟨uL [(uaa RW),(uaa KCn),.bool],[.one,.one,.one],[]⟩],ap3 mF⟩
theorem BL:Lk 2 uC:=ls B9 (aC ng aN)
def r6:T3U->Option (T3U⊕(LDCn×Int×Int×Bool×T3M)):=λ(v0,v1,v2,v3,v4,v5,v6,v7,v8,v9,eu,eE,eG,eI,eK,eO,eS,eV,eY,fa,fe,fh,fj,fm,fr,fv,fw,fA,fB,fC,fD,fE,fF,fG,fH,fI,fJ,_)=>bif(decide (v2<v1))then((gk v2).bind λx0=>
(fU v0 x0).bind λx1=>let x2:=wk .i64 x1.2.1;
(gk v2).bind λx3=>
(fU fJ x3).bind λ_=>
(fU fJ x3).bind λ_=>let x6:=fJ.modify x3 λe=>x2;let x7:=w64 (v2+1);some (.inl (v0,v1,x7,v3,v4,v5,v6,v7,v8,v9,eu,eE,eG,eI,eK,eO,eS,eV,eY,fa,fe,fh,fj,fm,fr,fv,fw,fA,fB,fC,fD,fE,fF,fG,fH,fI,x6,())))else some (.inr (v0,v1,v2,false,v3,v4,v5,v6,v7,v8,v9,eu,eE,eG,eI,eK,eO,eS,eV,eY,fa,fe,fh,fj,fm,fr,fv,fw,fA,fB,fC,fD,fE,fF,fG,fH,fI,fJ,()))
def nG(a0 a1:LI)(a2:LLI)(a3:z_)(a4:LDOp)(a5:LDOu)(a6 a7 a8 a9 ek ew:Int)(eF eH:LDCn):Option (LI×LI×LLI×LLCn×LDOp×LDOu×Int×Int×Int×Int×LDCn×Int×Bool×Int×Unit):=
((lj a0 a1 a2 a3 a4 a5).bind λ(x0,_)=>bif(!x0)then(some (true,a0,a1,a2,a3,a4,a5,a6,a7,a8,a9,ek,ew,eF,eH,(),(),(),(),(),(),0,0,0,0,(),0,false,()))else
(mN a6 a7 a8 a9 ek ew eF eH).bind λ(x1,_)=>bif(!x1)then(some (true,a0,a1,a2,a3,a4,a5,a6,a7,a8,a9,ek,ew,eF,eH,(),(),(),(),(),(),0,0,0,0,(),0,false,()))else bif(a7 != 1)then(some (true,a0,a1,a2,a3,a4,a5,a6,a7,a8,a9,ek,ew,eF,eH,(),(),(),(),(),(),0,0,0,0,(),0,false,()))else
(tQ ew).bind λ(x2,_)=>bif(!x2)then(some (true,a0,a1,a2,a3,a4,a5,a6,a7,a8,a9,ek,ew,eF,eH,(),(),(),(),(),(),0,0,0,0,(),0,false,()))else
(oS a6 a7 a8 a9 ek ew eF eH).bind λ(x3,_)=>bif(!x3)then(some (true,a0,a1,a2,a3,a4,a5,a6,a7,a8,a9,ek,ew,eF,eH,(),(),(),(),(),(),0,0,0,0,(),0,false,()))else
(kv ew).bind λ(x4,_)=>bif(x4==2)then((fU eF 2).bind λx5=>some ((decide (x5.2.1>16)),a0,a1,a2,a3,a4,a5,a6,a7,a8,a9,ek,ew,eF,eH,(),(),(),(),(),(),0,0,0,0,(),0,false,()))else some (false,a0,a1,a2,a3,a4,a5,a6,a7,a8,a9,ek,ew,eF,eH,(),(),(),(),(),(),0,0,0,0,(),0,false,()):Option (Bool×LI×LI×LLI×LLCn×LDOp×LDOu×Int×Int×Int×Int×Int×Int×LDCn×LDCn×Unit×Unit×Unit×Unit×Unit×Unit×T1u)).bind λ(x0,x1,x2,x3,x4,x5,x6,x7,x8,x9,ac,ae,af,ag,ah,ai,aj,ak,am,an,ap,aq,av,ax,ay,az,aA,aB,_)=>bif x0 then(some ([],[],[],[],[],[],0,0,0,0,[],0,false,1,()))else
(qv x1 x2 x3 x4 x5 x6).bind λ(aD,aE,aF,aG,aH,aI,_)=>let aJ:v_:=[0,0,0];let aK:=fZ ag.length;
(gd r6 NN (ag,aK,0,x1,x2,x3,x4,x5,x6,x7,x8,x9,ac,ae,af,ag,ah,ai,aj,ak,am,an,ap,aq,av,ax,ay,az,aA,aB,aD,aE,aF,aG,aH,aI,aJ,())).bind λ(_,_,_,_,aQ,aR,aS,aT,aU,aV,_,_,_,_,_,bd,_,bf,bg,bh,bi,bj,bk,bm,bn,bo,bp,bq,bt,bv,bx,bA,bB,bC,bD,bE,bF,bG,_)=>
(gt 0 false).bind λ(bH,bI,bJ,bK,bL)=>
(match(bif(bd==1)then((fU bG 0).bind λ_=>
(fU bG 0).bind λbP=>
(oP aT aU bP bf).bind λ(bQ,bR,bS,bT,_)=>
(gt bS bT).bind λ(bU,bV,bW,bY,_,b8,b9,_)=>some (.inl (bg,bh,bi,bj,bk,bm,bn,bo,bp,bq,bt,bv,bx,bA,bB,bC,bQ,bR,bF,bU,bV,bW,bY,[],b8,b9,())))else bif(bd==2)then((fU bG 0).bind λ_=>
(fU bG 0).bind λbP=>
(fU bG 2).bind λ_=>
(fU bG 2).bind λbR=>
(match qx aT aU bP bR with
|none=>none
|some (.inl (bS,bT,_,bV,_))=>
(gt 0 bV).bind λ(bW,bY,bZ,b8,_,cb,cd,_)=>some (.inl (bg,bh,bi,bj,bk,bm,bn,bo,bp,bq,bt,bv,bx,bA,bB,bC,bS,bT,bF,bW,bY,bZ,b8,[],cb,cd,()))
|some (.inr (bS,bT,bU,bV,_))=>let bW:=fZ bU.length;
(gt bW bV).bind λ(bY,bZ,b8,b9,_,cd,cf,_)=>some (.inl (bg,bh,bi,bj,bk,bm,bn,bo,bp,bq,bt,bv,bx,bA,bB,bC,bS,bT,bF,bY,bZ,b8,b9,bU,cd,cf,()))))else bif(bd==3)then((fU bG 0).bind λ_=>
(fU bG 0).bind λbP=>
(fU bG 1).bind λ_=>
(fU bG 1).bind λbR=>
(qy aT aU bP bR).bind λ(bS,bT,bU,_)=>bif(decide (bU>=0))then(let bV:Int:=(wk .u16 bU);some (.inr (.inl (bg,bh,bi,bj,bk,bm,bn,bo,bp,bq,bt,bv,bx,bA,bB,bC,bS,bT,bF,2,bV,0,0,bL))))else some (.inr (.inl (bg,bh,bi,bj,bk,bm,bn,bo,bp,bq,bt,bv,bx,bA,bB,bC,bS,bT,bF,bH,bI,bJ,bK,bL))))else bif(bd==4)then((fU bG 0).bind λ_=>
(fU bG 0).bind λbP=>
(oQ aT aU bP).bind λ(bQ,bR,bS,_)=>
(gt 0 bS).bind λ(bT,bU,bV,bW,_,bZ,b8,_)=>some (.inl (bg,bh,bi,bj,bk,bm,bn,bo,bp,bq,bt,bv,bx,bA,bB,bC,bQ,bR,bF,bT,bU,bV,bW,[],bZ,b8,())))else bif(bd==5)then((fU bG 0).bind λ_=>
(fU bG 0).bind λbP=>
(fU bG 1).bind λ_=>
(fU bG 1).bind λbR=>
(qw aT aU bP bR).bind λ(bS,bT,bU,_)=>
(gt 0 bU).bind λ(bV,bW,bY,bZ,_,b9,cb,_)=>some (.inl (bg,bh,bi,bj,bk,bm,bn,bo,bp,bq,bt,bv,bx,bA,bB,bC,bS,bT,bF,bV,bW,bY,bZ,[],b9,cb,())))else bif(bd==6)then(let bO:Int:=(fZ aQ.length);bif(decide (bO>0))then((fU aQ 0).bind λbP=>let bQ:=wk .i64 bP;
(gt bQ true).bind λ(bR,bS,bT,bU,bV,bW,bY,_)=>bif(jl 1 bA.length bA.length)then let bZ:v_:=(oM bA 1 (Nat.sub bA.length 1));some (.inr (.inr (.inl (bg,bh,bi,bj,bk,bm,bn,bo,bp,bq,bt,bv,bx,bZ,bB,bC,bD,bE,bF,bR,bS,bT,bU,bV,bW,bY,()))))else none)else some (.inr (.inl (bg,bh,bi,bj,bk,bm,bn,bo,bp,bq,bt,bv,bx,bA,bB,bC,bD,bE,bF,bH,bI,bJ,bK,bL))))else bif(bd==7)then(let bO:Int:=(fZ aR.length);bif(decide (bO>0))then((fU aR 0).bind λbP=>let bQ:=wk .i64 bP;
(gt bQ true).bind λ(bR,bS,bT,bU,bV,bW,bY,_)=>bif(jl 1 bB.length bB.length)then let bZ:v_:=(oM bB 1 (Nat.sub bB.length 1));some (.inr (.inr (.inr (.inl (bg,bh,bi,bj,bk,bm,bn,bo,bp,bq,bt,bv,bx,bA,bZ,bC,bD,bE,bF,bR,bS,bT,bU,bV,bW,bY,())))))else none)else some (.inr (.inl (bg,bh,bi,bj,bk,bm,bn,bo,bp,bq,bt,bv,bx,bA,bB,bC,bD,bE,bF,bH,bI,bJ,bK,bL))))else bif(bd==13)then((fU bG 0).bind λ_=>
(fU bG 0).bind λbP=>
(mp aV bP bf).bind λ(bQ,bR,bS,_)=>
(gt bR bS).bind λ(bT,bU,bV,bW,bY,bZ,b8,_)=>some (.inr (.inl (bg,bh,bi,bj,bk,bm,bn,bo,bp,bq,bt,bv,bx,bA,bB,bC,bD,bE,bQ,bT,bU,bV,bW,bY,bZ,b8,()))))else bif(bd==14)then((fU bG 0).bind λ_=>
(fU bG 0).bind λbP=>
(fU bG 2).bind λ_=>
(fU bG 2).bind λbR=>
(match mF aS bP bR with
|none=>none
|some (.inl (bS,bT,bU,_))=>
(gt 0 bU).bind λ(bV,bW,bY,bZ,_,b9,cb,_)=>some (.inr (.inl (bg,bh,bi,bj,bk,bm,bn,bo,bp,bq,bt,bv,bx,bA,bB,bS,bD,bE,bF,bV,bW,bY,bZ,bT,b9,cb,())))
|some (.inr (bS,bT,bU,_))=>let bV:=fZ bT.length;
(gt bV bU).bind λ(bW,bY,bZ,b8,_,cb,cd,_)=>some (.inr (.inr (.inr (.inr (bg,bh,bi,bj,bk,bm,bn,bo,bp,bq,bt,bv,bx,bA,bB,bS,bD,bE,bF,bW,bY,bZ,b8,bT,cb,cd,())))))))else some (.inr (.inl (bg,bh,bi,bj,bk,bm,bn,bo,bp,bq,bt,bv,bx,bA,bB,bC,bD,bE,bF,bH,bI,bJ,bK,bL))):Option (T3z⊕(T3A⊕(T3A⊕(T3A⊕T3z)))))with
|none=>none
|some (.inl (_,_,_,_,_,_,_,_,_,_,_,_,_,cb,cd,cf,cg,ch,ci,cj,cn,cq,cr,cu,cw,cx,_))=>some (cb,cd,cf,cg,ch,ci,cj,cn,cq,cr,cu,cw,cx,0,())
|some (.inr (.inl (_,_,_,_,_,_,_,_,_,_,_,_,_,cb,cd,cf,cg,ch,ci,cj,cn,cq,cr,_,cw,cx,_)))=>some (cb,cd,cf,cg,ch,ci,cj,cn,cq,cr,[],cw,cx,0,())
|some (.inr (.inr (.inl (_,_,_,_,_,_,_,_,_,_,_,_,_,cb,cd,cf,cg,ch,ci,cj,cn,cq,cr,_,cw,cx,_))))=>some (cb,cd,cf,cg,ch,ci,cj,cn,cq,cr,[],cw,cx,0,())
|some (.inr (.inr (.inr (.inl (_,_,_,_,_,_,_,_,_,_,_,_,_,cb,cd,cf,cg,ch,ci,cj,cn,cq,cr,_,cw,cx,_)))))=>some (cb,cd,cf,cg,ch,ci,cj,cn,cq,cr,[],cw,cx,0,())
|some (.inr (.inr (.inr (.inr (_,_,_,_,_,_,_,_,_,_,_,_,_,cb,cd,cf,cg,ch,ci,cj,cn,cq,cr,cu,cw,cx,_)))))=>some (cb,cd,cf,cg,ch,ci,cj,cn,cq,cr,cu,cw,cx,0,()))
def M0:X.Cfg:=⟨E0,[px,sM,Ae,yg,lR,uB,nu,yc,Ah,Ai,yd,Ag,Af,uC],[],[⟨2,0,qE,[(.normal,qS (zl [2,3,4,5]++[Xaa 67]) [(6,Zag),(8,Uac),(10,Uah),(12,Zad)])]⟩,(lx 8 1 (zl [2,3,4,5,7]++Zaa 8 19::sP 74 gp::il [75,76]) [(6,Zag),(8,Uac),(10,Uah),(12,Zad),(16,yak),(19,Xae)] 77),⟨14,2,qE,[(.normal,(qS uav [(10,Uah),(12,Zad),(16,uL [(uaa CW),(uaa CW),(uaa (uaa CW)),(yaa gp),jo,(uaa Jw)]),(24,yah)])),(.normal,qS uav [(10,Uah),(12,Zad),(16,yak),(24,Zad)]),(.normal,(qS uav [(10,Uah),(12,Zad),(16,uL [RW,(uaa CW),(uaa (uaa CW)),(uaa (uaa KCn)),(uaa KOp),(uaa Jw)]),(24,Zad)])),(.normal,(qS uav [(10,Uah),(12,Zad),(16,uL [(uaa CW),RW,(uaa (uaa CW)),(uaa (uaa KCn)),(uaa KOp),(uaa Jw)]),(24,Zad)])),(.normal,(qS uav [(10,Uah),(12,Zad),(16,uL [(uaa CW),(uaa CW),(uaa RW),(uaa (uaa KCn)),(uaa KOp),(uaa Jw)]),(24,yah)]))]⟩]⟩
def Eu:Ctr:=⟨172,152,[.agg Zag,.agg Uac],[],[⟨uL [RW,RW,(yaa RW),(yaa gp),jo,lc,CB,CW,I64,I64,gp,I64,.bool,I64],[.agg 6,.agg 7,.one],[]⟩],as1 (as4 (as8 ap1)) nG⟩
theorem MS:Lk 5 Eu:=ls M0 (aC su (aC xH (aC HQ (aC Fd (aC oa (aC zI (aC pj (aC E9 (aC HU (aC HV (aC Fa (aC HS (aC HR (aC BL aN))))))))))))))
def mC:T3B->Option (T3B⊕(T3v⊕(Int×Int×Bool×T3v))):=λ(v0,v1,v2,v3,v4,v5,v6,v7,v8,v9,eu,eE,eG,eI,eK,eO,eS,eV,eY,fa,fe)=>bif(decide (v1<v0))then((gk v1).bind λx0=>
(fU v9 x0).bind λ_=>
(fU v9 x0).bind λx2=>bif(x2.1==0)then((gt v1 true).bind λ(x3,x4,x5,x6,x7,_,x9,_)=>some (.inr (.inl (v2,v3,v4,v5,v6,v7,v8,v9,eu,eE,eG,eI,eK,eO,eS,eV,eY,fa,x3,x4,x5,x6,x7,v1,x9,()))))else let x3:=w64 (v1+1);some (.inl (v0,x3,v2,v3,v4,v5,v6,v7,v8,v9,eu,eE,eG,eI,eK,eO,eS,eV,eY,fa,fe)))else some (.inr (.inr (v0,v1,false,v2,v3,v4,v5,v6,v7,v8,v9,eu,eE,eG,eI,eK,eO,eS,eV,eY,fa,fe)))
def mD(a0 a1 a2 a3 a4 a5:Int)(a6 a7:LDCn)(a8:LDIn)(a9:LI)(ek:LLI)(ew:LI)(eF:Int)(eH:LDCe)(eJ:LDLn)(eM:LDTh)(eQ eU:LI)(eX:LLI)(eZ:z_)(fc:LDOp)(ff:LDOu)(fi:LI)(fk:LLI)(fq:LDEn)(fu:LI):Option (Int×Int×Int×Int×LDCn×T3g):=
(bif(a5==0)then(some (a5,true,a8,a9,ek,ew,eF,eH,eJ,eM,eQ,eU,eX,eZ,fc,ff,fi,fk,fq,fu,a0,a1,a2,a3,a4,a5,a6,a7,0,0,0,0,(),0,false,()))else bif(a5==12)then(some (a5,true,a8,a9,ek,ew,eF,eH,eJ,eM,eQ,eU,eX,eZ,fc,ff,fi,fk,fq,fu,a0,a1,a2,a3,a4,a5,a6,a7,0,0,0,0,(),0,false,()))else some (a5,(a5==15),a8,a9,ek,ew,eF,eH,eJ,eM,eQ,eU,eX,eZ,fc,ff,fi,fk,fq,fu,a0,a1,a2,a3,a4,a5,a6,a7,0,0,0,0,(),0,false,()):Option (T3N)).bind λ(x0,x1,x2,x3,x4,x5,x6,x7,x8,x9,ac,ae,af,ag,ah,ai,aj,ak,am,an,ap,aq,av,ax,ay,az,aA,aB,aD)=>bif x1 then((gt 0 true).bind λ(aK,aL,aM,aO,_,aQ,aR,_)=>some (aK,aL,aM,aO,[],aQ,aR,x2,x3,x4,x5,x6,x7,x8,x9,ac,ae,af,ag,ah,ai,aj,ak,am,an,()))else bif(x0==8)then((fU aA 0).bind λaK=>let aL:=wk .i64 aK.2.1;
(qz aj ak aL ap).bind λ(aM,aO,aP,_)=>
(gt 0 (aP != 2)).bind λ(aQ,aR,aS,aT,_,aV,_,_)=>some (aQ,aR,aS,aT,[],aV,(aP==1),x2,x3,x4,x5,x6,x7,x8,x9,ac,ae,af,ag,ah,ai,aM,aO,am,an,()))else bif(x0==9)then((fU aA 0).bind λaK=>let aL:=wk .i64 aK.2.1;
(jL aj ak aL ap).bind λ(aM,aO,_,aQ,_)=>
(gt 0 aQ).bind λ(aR,aS,aT,aU,_,aW,aY,_)=>some (aR,aS,aT,aU,[],aW,aY,x2,x3,x4,x5,x6,x7,x8,x9,ac,ae,af,ag,ah,ai,aM,aO,am,an,()))else bif(x0==10)then(let aK:Int:=(fZ x9.length);
(match gd mC NN (aK,0,x2,x3,x4,x5,x6,x7,x8,x9,ac,ae,af,ag,ah,ai,aj,ak,am,an,aD)with
|none=>none
|some (.inl (aL,aM,aO,aP,aQ,aR,aS,aT,aU,aV,aW,aY,aZ,ba,bc,bd,be,bf,bg,bh,bi,bj,_,bm,bn,_))=>some (bg,bh,bi,bj,[],bm,bn,aL,aM,aO,aP,aQ,aR,aS,aT,aU,aV,aW,aY,aZ,ba,bc,bd,be,bf,())
|some (.inr (_,_,_,aP,aQ,aR,aS,aT,aU,aV,aW,aY,aZ,ba,bc,bd,be,bf,bg,bh,bi,_,_,_,_,_,_,_,_))=>
(gt 0 false).bind λ(bt,bv,bx,bA,_,bC,bD,_)=>some (bt,bv,bx,bA,[],bC,bD,aP,aQ,aR,aS,aT,aU,aV,aW,aY,aZ,ba,bc,bd,be,bf,bg,bh,bi,())))else bif(x0==11)then((fU aA 0).bind λaK=>let aL:=wk .i64 aK.2.1;
(bif(aL==ap)then(some (aL,true,x2,x3,x4,x5,x6,x7,x8,x9,ac,ae,af,ag,ah,ai,aj,ak,am,an,ap,aq,av,ax,ay,az,aA,aB,aD))else bif(decide (aL>=4))then(some (aL,true,x2,x3,x4,x5,x6,x7,x8,x9,ac,ae,af,ag,ah,ai,aj,ak,am,an,ap,aq,av,ax,ay,az,aA,aB,aD))else
(gk aL).bind λaM=>
(fU x9 aM).bind λ_=>
(fU x9 aM).bind λaP=>some (aL,(aP.1==0),x2,x3,x4,x5,x6,x7,x8,x9,ac,ae,af,ag,ah,ai,aj,ak,am,an,ap,aq,av,ax,ay,az,aA,aB,aD):Option (T3N)).bind λ(aM,aO,aP,aQ,aR,aS,aT,aU,aV,aW,aY,aZ,ba,bc,bd,be,bf,bg,bh,bi,bj,_,_,_,_,_,_,_,_,_,_,_,_,_,_,_)=>bif aO then((gt 0 false).bind λ(bF,bG,bH,bI,_,bK,bL,_)=>some (bF,bG,bH,bI,[],bK,bL,aP,aQ,aR,aS,aT,aU,aV,aW,aY,aZ,ba,bc,bd,be,bf,bg,bh,bi,()))else
(gk aM).bind λbF=>
(fU aW bF).bind λ_=>
(fU aW bF).bind λbH=>bif(bH.1==4)then(let bI:Int:=(wk .i64 bH.2.2.2.2.2.2.2);
(gt bI true).bind λ(bJ,bK,bL,bM,_,bO,bP,_)=>some (bJ,bK,bL,bM,[],bO,bP,aP,aQ,aR,aS,aT,aU,aV,aW,aY,aZ,ba,bc,bd,be,bf,bg,bh,bi,()))else
(gk bj).bind λbI=>
(fU bi bI).bind λ_=>
(fU bi bI).bind λ_=>let bL:=bi.modify bI λe=>aM;
(gt 0 true).bind λ(bM,bN,bO,bP,_,bR,_,_)=>some (bM,bN,bO,bP,[],bR,true,aP,aQ,aR,aS,aT,aU,aV,aW,aY,aZ,ba,bc,bd,be,bf,bg,bh,bL,()))else
(nG ac ae af ag ah ai ap aq av ax ay az aA aB).bind λ(aK,aL,aM,aO,aP,aQ,aR,aS,aT,aU,aV,aW,aY,_,_)=>some (aR,aS,aT,aU,aV,aW,aY,x2,x3,x4,x5,x6,x7,x8,x9,aK,aL,aM,aO,aP,aQ,aj,ak,am,an,())
def B8:X.Cfg:=⟨E0,[nu,Aj,qY,Eu],[],[⟨3,0,qE,[(.normal,qS (zl [0,3,4]++[Uaa 21,Xaa 22]) Zar)]⟩,⟨20,1,(qS (zl [0,4]++(87,.pk ⟨2,7,[]⟩ [0,0])::il [88,89]) Xap),[(.ret,qS (zl [0,4]) Xap),(.exit 1,(qS (zl [0,4]++(87,.pk ⟨2,7,[]⟩ [0,0])::il [88,89]++[Xaa 90]) Xap))]⟩,⟨33,2,qE,[(.normal,qS (zl [0,3,4]++[Uaa 14,Xaa 131]) Zar)]⟩]⟩
def uA:Ctr:=⟨157,153,[.ptr ⟨2,0,[]⟩ [0],.agg Uac],[(2,uae)],[⟨Xac,[.agg 7],[(2,uae)]⟩],as1 (as8 (as8 (as8 ap1))) mD⟩
theorem BK:Lk 6 uA:=ls B8 (aC pj (aC HW (aC ui (aC MS aN))))
def jS(a0 a1 a2 a3:Int)(a4:LDCn)(a5:Int)(a6:Bool):f_:=
(ji a0 a1 a2 a3).bind λ(x0,_)=>bif x0 then((g8 a4 16).bind λ(x1,_)=>bif x1 then(bif(decide (a5>=(-1)))then(some ((decide (a5<4)),()))else some (false,()))else some (false,()))else some (false,())
def FP:X.Cfg:=⟨E0,[uI,jn],[],[]⟩
def sK:Ctr:=⟨55,154,[.agg Xac],[],[⟨zab,[.one],[]⟩],as2 (as4 ap1) jS⟩
theorem xF:Lk 3 sK:=ls FP (aC zL (aC jZ aN))
def iD(a0:LI)(a1:Int)(a2:LI)(a3 a4 a5 a6:Int):Option (T0f):=
(ir a2 a3 a4 a5 a6).bind λ(x0,_)=>bif(!x0)then(some (0,0,1,()))else bif(a3==0)then(some (0,a4,0,()))else bif(a3==2)then(let x1:Int:=(wk .u16 (a4+a1));some (2,x1,0,()))else
(gk a5).bind λx1=>
(fU a0 x1).bind λx2=>let x3:=w64 (x2+a6);let x4:=wk .u16 x3;some (1,x4,0,())
def Kr:X.Cfg:=⟨E0,[lS],[],[]⟩
def sS:Ctr:=⟨37,155,[.agg Uab,shU RI,.agg yag],[],[⟨yai,[.agg 2,.one],[]⟩],as2 (as4 ap1) iD⟩
theorem wM:Lk 3 sS:=ls Kr (aC oc aN)
def mX(a0:LI)(a1:Int)(a2:LI)(a3 a4:Int):Option (T02):=
(hY a2 a3 a4).bind λ(x0,_)=>bif(!x0)then(some (0,6,()))else
(gk a3).bind λx1=>
(fU a0 x1).bind λx2=>let x3:=w64 (x2+a4);some (x3,0,())
def Cg:X.Cfg:=⟨E0,[lT],[],[]⟩
def uQ:Ctr:=⟨190,156,[.agg Uab,shU RI,.agg uad],[],[⟨uad,[.one,.one],[]⟩],ap5 mX⟩
theorem BU:Lk 2 uQ:=ls Cg (aC od aN)
def w9:Option (T1Q):=bif(xA 8 8 2)then let x0:LDCe:=(List.replicate 8 (0,0));some (0,x0,0,0,(-1),(-1),0,0,())else none
def F3:X.Cfg:=⟨E0,[],[],[]⟩
def ym:Ctr:=⟨197,157,[],[],[⟨Uaf,[.agg 8],[]⟩],λh=>w9⟩
theorem Fi:Lk 1 ym:=ls F3 aN
def sc(a0 a1 a2:Int):Option (T1Q):=
(w9).bind λ(_,x1,_,x3)=>
(fU x1 0).bind λ_=>
(fU x1 0).bind λ_=>let ac:=x1.modify 0 λe=>(a1,a2);some (1,ac,a0,x3)
def Ko:X.Cfg:=⟨E0,[ym],[],[]⟩
def CO:Ctr:=⟨191,158,[shU I64,.agg Xab],[],[⟨Uaf,[.agg 8],[]⟩],ap3 sc⟩
theorem Kb:Lk 2 CO:=ls Ko (aC Fi aN)
def jq:T3G->Option (T3G⊕(T14⊕T3I)):=λ(v0,v1,v2,v3,v4,v5,v6,v7,v8,v9,eu,eE,eG,eI,eK,eO,eS,eV,eY,fa,fe,fh,fj,fm,fr,fv,fw,fA,fB,fC,fD,_)=>bif(decide (v3<v2))then((gk v3).bind λx0=>
(fU v1 x0).bind λx1=>
(iD v4 v5 eu x1.1 x1.2.1 x1.2.2.1 x1.2.2.2).bind λ(x2,x3,x4,_)=>bif(x4 != 0)then(some (.inr (.inl (false,v4,v5,v6,v7,v8,()))))else
(hY eu fC fD).bind λ(x5,_)=>bif(!x5)then(some (.inr (.inl (false,v4,v5,v6,v7,v8,()))))else
(mX v4 v5 eu fC fD).bind λ(x6,_,_)=>
(mS x6 x2 x3 v6 v7).bind λ(x8,x9,_)=>let ac:=w64 (fD+1);let ae:=w64 (v3+1);some (.inl (v0,v1,v2,ae,v4,v5,x8,x9,v8,v9,eu,eE,eG,eI,eK,eO,eS,eV,eY,fa,fe,fh,fj,fm,fr,fv,fw,fA,fB,fC,ac,())))else some (.inr (.inr (v0,v1,v2,v3,false,v4,v5,v6,v7,v8,v9,eu,eE,eG,eI,eK,eO,eS,eV,eY,fa,fe,fh,fj,fm,fr,fv,fw,fA,fB,fC,fD,())))
def nH(a0:LDIn)(a1:LI)(a2:LLI)(a3 a4 a5 a6 a7 a8:Int)(a9 ek:LDCn)(ew eF eH eJ:Int)(eM:LDCn)(eQ:Int)(eU:Bool)(eX:LI)(eZ:Int)(fc:LDCe)(ff:LDLn)(fi:LDTh):Option (T14):=
(gk a3).bind λx0=>
(fU fi x0).bind λ_=>
(iD eX eZ a1 ew eF eH eJ).bind λ(x2,x3,x4,_)=>bif(x4 != 0)then(some (false,eX,eZ,fc,ff,fi,()))else
(match((kv a8).bind λ(x5,_)=>bif(x5==2)then(let x6:Int:=(fZ eM.length);bif(decide (x6>0))then((fU a9 1).bind λx7=>
(fU a9 1).bind λx8=>
(fU a9 1).bind λx9=>
(ir a1 x9.1 x9.2.1 x9.2.2.1 x9.2.2.2).bind λ(ac,_)=>bif(!ac)then(some (.inl (false,eX,eZ,fc,ff,fi,())))else
(fU a9 1).bind λae=>bif(ae.1 != 1)then(some (.inl (false,eX,eZ,fc,ff,fi,())))else let af:=fZ eM.length;
(match gd jq NN (x0,eM,af,0,eX,eZ,fc,ff,fi,a0,a1,a2,a3,a4,a5,a6,a7,a8,a9,ek,ew,eF,eH,eJ,eM,eQ,eU,x2,x3,x7.2.2.1,x8.2.2.2,())with
|none=>none
|some (.inl (ag,ah,ai,aj,ak,am,_))=>some (.inl (ag,ah,ai,aj,ak,am,()))
|some (.inr (ag,ah,ai,aj,ak,am,an,ap,aq,av,ax,ay,az,aA,aB,aD,aE,aF,aG,aH,aI,aJ,aK,aL,aM,aO,aP,aQ,aR,aS,aT,aU,_))=>some (.inr (.inl (ag,ah,ai,aj,ak,am,an,ap,aq,av,ax,ay,az,aA,aB,aD,aE,aF,aG,aH,aI,aJ,aK,aL,aM,aO,aP,aQ,aR,aS,aT,aU,())))))else some (.inr (.inr (x0,false,eX,eZ,fc,ff,fi,a0,a1,a2,a3,a4,a5,a6,a7,a8,a9,ek,ew,eF,eH,eJ,eM,eQ,eU,x2,x3,()))))else some (.inr (.inr (x0,false,eX,eZ,fc,ff,fi,a0,a1,a2,a3,a4,a5,a6,a7,a8,a9,ek,ew,eF,eH,eJ,eM,eQ,eU,x2,x3,()))):Option (T14⊕(T3I⊕(Nat×Bool×T3w))))with
|none=>none
|some (.inl (x5,x6,x7,x8,x9,ac,_))=>some (x5,x6,x7,x8,x9,ac,())
|some (.inr (.inl (x5,_,_,_,_,ac,ae,af,ag,ah,ai,aj,ak,am,an,ap,aq,av,ax,ay,az,aA,aB,aD,aE,aF,aG,aH,aI,aJ,_,_,_)))=>
(match(bif(ax==12)then((fU ay 0).bind λaM=>let aO:=wk .i64 aM.2.1;bif(decide (aO>255))then(some (.inl (false,ac,ae,af,ag,ah,())))else
(fU ay 0).bind λaP=>bif(aP.1 != 0)then(some (.inl (false,ac,ae,af,ag,ah,())))else
(fU ay 0).bind λaQ=>let aR:=wk .i64 aQ.2.1;
(fU ah x5).bind λ_=>let aT:=ah.modify x5 λe=>(e.1,(e.2.1,(e.2.2.1,(e.2.2.2.1,(aR,e.2.2.2.2.2)))));some (.inr (x5,ac,ae,af,ag,aT,ai,aj,ak,am,an,ap,aq,av,ax,ay,az,aA,aB,aD,aE,aF,aG,aH,aI,aJ,())))else some (.inr (x5,ac,ae,af,ag,ah,ai,aj,ak,am,an,ap,aq,av,ax,ay,az,aA,aB,aD,aE,aF,aG,aH,aI,aJ,())):Option (T14⊕T3y))with
|none=>none
|some (.inl (aM,aO,aP,aQ,aR,aS,_))=>some (aM,aO,aP,aQ,aR,aS,())
|some (.inr (aM,aO,aP,aQ,aR,aS,_,aU,_,aW,aY,aZ,ba,bc,bd,be,bf,bg,bh,bi,bj,bk,bm,bn,bo,bp,_))=>
(match(bif(bd==10)then(bif(decide (bm>=0))then((fU be 1).bind λbq=>
(iD aO aP aU bq.1 bq.2.1 bq.2.2.1 bq.2.2.2).bind λ(bt,bv,bx,_)=>
(bif(bx != 0)then(some (aM,true,aO,aP,aQ,aR,aS,aW,aY,aZ,ba,bc,bd,be,bf,bg,bh,bi,bj,bk,bm,bn,bo,bp,bt,bv,()))else
(gk bm).bind λbA=>
(fU aS bA).bind λ_=>
(fU aS bA).bind λbC=>bif(bC.1 != 0)then(some (aM,true,aO,aP,aQ,aR,aS,aW,aY,aZ,ba,bc,bd,be,bf,bg,bh,bi,bj,bk,bm,bn,bo,bp,bt,bv,()))else
(fU be 0).bind λbD=>let bE:=wk .i64 bD.2.1;bif(decide (bE>255))then(some (aM,true,aO,aP,aQ,aR,aS,aW,aY,aZ,ba,bc,bd,be,bf,bg,bh,bi,bj,bk,bm,bn,bo,bp,bt,bv,()))else
(fU be 0).bind λbF=>some (aM,(bF.1 != 0),aO,aP,aQ,aR,aS,aW,aY,aZ,ba,bc,bd,be,bf,bg,bh,bi,bj,bk,bm,bn,bo,bp,bt,bv,()):Option (T3x)).bind λ(bA,bB,bC,bD,bE,bF,bG,bH,bI,bJ,bK,bL,bM,bN,bO,_,_,_,_,_,bU,_,bW,bY,bZ,b8,_)=>bif bB then(some (.inl (false,bC,bD,bE,bF,bG,())))else
(fU bN 0).bind λb9=>let cb:=wk .i64 b9.2.1;
(sc cb bZ b8).bind λ(cd,cf,cg,ch,ci,cj,cn,cq,_)=>
(gk bU).bind λcr=>
(fU bG cr).bind λ_=>
(fU bG cr).bind λ_=>let cx:=bG.modify cr λe=>(cd,(cf,(cg,(ch,(ci,(cj,(cn,cq)))))));some (.inr (bA,bC,bD,bE,bF,cx,bH,bI,bJ,bK,bL,bM,bN,bO,bW,bY,())))else some (.inr (aM,aO,aP,aQ,aR,aS,aW,aY,aZ,ba,bc,bd,be,bf,bo,bp,())))else some (.inr (aM,aO,aP,aQ,aR,aS,aW,aY,aZ,ba,bc,bd,be,bf,bo,bp,())):Option (T14⊕T2Z))with
|none=>none
|some (.inl (bq,bt,bv,bx,bA,bB,_))=>some (bq,bt,bv,bx,bA,bB,())
|some (.inr (bq,bt,bv,bx,bA,bB,_,_,_,_,_,_,_,_,bK,bL,_))=>
(fU bB bq).bind λ_=>
(fU bB bq).bind λbN=>
(fU bN.2.1 0).bind λ_=>
(fU bB bq).bind λbP=>
(fU bP.2.1 0).bind λ_=>let bR:=bB.modify bq λe=>(e.1,((e.2.1.modify 0 λe=>(bK,bL)),e.2.2));
(fU bR bq).bind λ_=>let bT:=bR.modify bq λe=>(1,e.2);some (true,bt,bv,bx,bA,bT,())))
|some (.inr (.inr (x5,_,x7,x8,x9,ac,ae,af,ag,ah,ai,aj,ak,am,an,ap,aq,av,ax,ay,az,aA,aB,aD,aE,aF,aG,_)))=>
(match(bif(ap==12)then((fU aq 0).bind λaH=>let aI:=wk .i64 aH.2.1;bif(decide (aI>255))then(some (.inl (false,x7,x8,x9,ac,ae,())))else
(fU aq 0).bind λaJ=>bif(aJ.1 != 0)then(some (.inl (false,x7,x8,x9,ac,ae,())))else
(fU aq 0).bind λaK=>let aL:=wk .i64 aK.2.1;
(fU ae x5).bind λ_=>let aO:=ae.modify x5 λe=>(e.1,(e.2.1,(e.2.2.1,(e.2.2.2.1,(aL,e.2.2.2.2.2)))));some (.inr (x5,x7,x8,x9,ac,aO,af,ag,ah,ai,aj,ak,am,an,ap,aq,av,ax,ay,az,aA,aB,aD,aE,aF,aG,())))else some (.inr (x5,x7,x8,x9,ac,ae,af,ag,ah,ai,aj,ak,am,an,ap,aq,av,ax,ay,az,aA,aB,aD,aE,aF,aG,())):Option (T14⊕T3y))with
|none=>none
|some (.inl (aH,aI,aJ,aK,aL,aM,_))=>some (aH,aI,aJ,aK,aL,aM,())
|some (.inr (aH,aI,aJ,aK,aL,aM,_,aP,_,aR,aS,aT,aU,aV,aW,aY,aZ,ba,bc,bd,be,bf,bg,bh,bi,bj,_))=>
(match(bif(aW==10)then(bif(decide (bg>=0))then((fU aY 1).bind λbk=>
(iD aI aJ aP bk.1 bk.2.1 bk.2.2.1 bk.2.2.2).bind λ(bm,bn,bo,_)=>
(bif(bo != 0)then(some (aH,true,aI,aJ,aK,aL,aM,aR,aS,aT,aU,aV,aW,aY,aZ,ba,bc,bd,be,bf,bg,bh,bi,bj,bm,bn,()))else
(gk bg).bind λbp=>
(fU aM bp).bind λ_=>
(fU aM bp).bind λbt=>bif(bt.1 != 0)then(some (aH,true,aI,aJ,aK,aL,aM,aR,aS,aT,aU,aV,aW,aY,aZ,ba,bc,bd,be,bf,bg,bh,bi,bj,bm,bn,()))else
(fU aY 0).bind λbv=>let bx:=wk .i64 bv.2.1;bif(decide (bx>255))then(some (aH,true,aI,aJ,aK,aL,aM,aR,aS,aT,aU,aV,aW,aY,aZ,ba,bc,bd,be,bf,bg,bh,bi,bj,bm,bn,()))else
(fU aY 0).bind λbA=>some (aH,(bA.1 != 0),aI,aJ,aK,aL,aM,aR,aS,aT,aU,aV,aW,aY,aZ,ba,bc,bd,be,bf,bg,bh,bi,bj,bm,bn,()):Option (T3x)).bind λ(bp,bq,bt,bv,bx,bA,bB,bC,bD,bE,bF,bG,bH,bI,bJ,_,_,_,_,_,bP,_,bR,bS,bT,bU,_)=>bif bq then(some (.inl (false,bt,bv,bx,bA,bB,())))else
(fU bI 0).bind λbV=>let bW:=wk .i64 bV.2.1;
(sc bW bT bU).bind λ(bY,bZ,b8,b9,cb,cd,cf,cg,_)=>
(gk bP).bind λch=>
(fU bB ch).bind λ_=>
(fU bB ch).bind λ_=>let cn:=bB.modify ch λe=>(bY,(bZ,(b8,(b9,(cb,(cd,(cf,cg)))))));some (.inr (bp,bt,bv,bx,bA,cn,bC,bD,bE,bF,bG,bH,bI,bJ,bR,bS,())))else some (.inr (aH,aI,aJ,aK,aL,aM,aR,aS,aT,aU,aV,aW,aY,aZ,bi,bj,())))else some (.inr (aH,aI,aJ,aK,aL,aM,aR,aS,aT,aU,aV,aW,aY,aZ,bi,bj,())):Option (T14⊕T2Z))with
|none=>none
|some (.inl (bk,bm,bn,bo,bp,bq,_))=>some (bk,bm,bn,bo,bp,bq,())
|some (.inr (bk,bm,bn,bo,bp,bq,_,_,_,_,_,_,_,_,bF,bG,_))=>
(fU bq bk).bind λ_=>
(fU bq bk).bind λbI=>
(fU bI.2.1 0).bind λ_=>
(fU bq bk).bind λbK=>
(fU bK.2.1 0).bind λ_=>let bM:=bq.modify bk λe=>(e.1,((e.2.1.modify 0 λe=>(bF,bG)),e.2.2));
(fU bM bk).bind λ_=>let bO:=bM.modify bk λe=>(1,e.2);some (true,bm,bn,bo,bp,bO,()))))
def Kl:X.Cfg:=⟨E0,[sS,lR,lS,lT,uQ,sO,CO],[],[⟨13,0,(qS (zl [1,4,6,7]++(9,.ptr ⟨4,4,[((),(8,0))]⟩ [0,0])::zl [10,12]++sP 80 gp::il [81,82]) Zap),[(.ret,qS Xau uan),(.exit 0,(qS Xax Zap))]⟩,⟨6,1,qE,[(.ret,qS Xau uan),(.normal,(qS Xax Zap)),(.normal,(qS (zl [1,4,6,7]++[(9,.ptr ⟨4,4,[((),(8,0))]⟩ [0,0]),zaa 10,Xaa 51]) uas))]⟩,⟨24,2,qE,[(.ret,qS Xau uan),(.normal,(qS (zl [1,4,6,7]++[(9,.ptr ⟨4,4,[((),(8,0))]⟩ [0,0]),zaa 10]) uas))]⟩,⟨33,3,qE,[(.normal,(qS (zl [1,6,7]++(9,.ptr ⟨4,4,[((),(8,0))]⟩ [0,0])::zl [10,19]++[Xaa 207]) [(4,Zac),(14,Uac),(16,Xac),(22,Xab),(40,Xab)]))]⟩,⟨29,4,qE,[(.ret,qS Xau uan),(.normal,(qS [zaa 1,(9,.ptr ⟨4,4,[((),(8,0))]⟩ [0,0]),zaa 10] [(4,Zac),(14,Uac),(22,Xab)]))]⟩]⟩
def CL:Ctr:=⟨174,159,[.agg uab,.ptr ⟨4,0,[]⟩ [0],.agg Uac,.agg Xac],[(4,Zac)],[⟨zab,[.one],[(4,Zac)]⟩],as2 (as4 (as8 (as8 ap1))) nH⟩
theorem J8:Lk 4 CL:=ls Kl (aC wM (aC oa (aC oc (aC od (aC BU (aC xJ (aC Kb aN)))))))
def r9(a0:LDIn)(a1:LI)(a2:LLI)(a3:LI)(a4:Int)(a5:LDCe)(a6:LDLn)(a7:LDTh)(a8 a9 ek ew eF eH:Int)(eJ eM:LDCn)(eQ eU eX eZ:Int)(fc:LDCn)(ff:Int)(fi:Bool):Option (T1i):=
((lk a0 a1 a2 a3 a4 a5 a6 a7).bind λ(x0,_)=>bif(!x0)then(some (true,a0,a1,a2,a3,a4,a5,a6,a7,a8,a9,ek,ew,eF,eH,eJ,eM,eQ,eU,eX,eZ,fc,ff,fi,(),0,(),(),(),()))else
(mN a8 a9 ek ew eF eH eJ eM).bind λ(x1,_)=>bif(!x1)then(some (true,a0,a1,a2,a3,a4,a5,a6,a7,a8,a9,ek,ew,eF,eH,eJ,eM,eQ,eU,eX,eZ,fc,ff,fi,(),0,(),(),(),()))else bif(a9 != 1)then(some (true,a0,a1,a2,a3,a4,a5,a6,a7,a8,a9,ek,ew,eF,eH,eJ,eM,eQ,eU,eX,eZ,fc,ff,fi,(),0,(),(),(),()))else let x2:=fZ eJ.length;
(jD eH).bind λ(x3,_)=>bif(x2 != x3)then(some (true,a0,a1,a2,a3,a4,a5,a6,a7,a8,a9,ek,ew,eF,eH,eJ,eM,eQ,eU,eX,eZ,fc,ff,fi,(),0,(),(),(),()))else
(jS eQ eU eX eZ fc ff fi).bind λ(x4,_)=>bif(!x4)then(some (true,a0,a1,a2,a3,a4,a5,a6,a7,a8,a9,ek,ew,eF,eH,eJ,eM,eQ,eU,eX,eZ,fc,ff,fi,(),0,(),(),(),()))else
(gk a8).bind λx5=>
(fU a7 x5).bind λx6=>some ((x6.1 != 2),a0,a1,a2,a3,a4,a5,a6,a7,a8,a9,ek,ew,eF,eH,eJ,eM,eQ,eU,eX,eZ,fc,ff,fi,(),0,(),(),(),()):Option (Bool×LDIn×LI×LLI×LI×Int×LDCe×LDLn×LDTh×Int×Int×Int×Int×Int×Int×LDCn×LDCn×T2E)).bind λ(x0,x1,x2,x3,x4,x5,x6,x7,x8,x9,ac,ae,af,ag,ah,ai,aj,ak,am,an,ap,aq,av,ax,_)=>bif x0 then(none)else
(kS x4 x5 x6 x7 x8).bind λ(aE,aF,aG,aH,aI,_)=>bif(ah==0)then((gk x9).bind λaJ=>
(fU aI aJ).bind λ_=>
(fU aI aJ).bind λaL=>
(fU ai 0).bind λaM=>
(fU aI aJ).bind λaO=>
(pS aL.1 aO.2.1 aL.2.2.1 aL.2.2.2.1 aL.2.2.2.2.1 aL.2.2.2.2.2.1 aL.2.2.2.2.2.2.1 aL.2.2.2.2.2.2.2 0 aM.2.1).bind λ(aP,aQ,aR,aS,aT,aU,aV,aW,_)=>
(gk x9).bind λaY=>
(fU aI aY).bind λ_=>
(fU aI aY).bind λ_=>let bc:=aI.modify aY λe=>(aP,(aQ,(aR,(aS,(aT,(aU,(aV,aW)))))));
(fU bc 0).bind λ_=>some (aE,aF,aG,aH,bc,true,()))else bif ax then((gk x9).bind λaJ=>
(fU aI aJ).bind λ_=>
(fU aI aJ).bind λ_=>let aM:=aI.modify aJ λe=>(3,e.2);
(fU aM 0).bind λ_=>
(fU aM 0).bind λ_=>some (aE,aF,aG,aH,aM,true,()))else
(nH x1 x2 x3 x9 ac ae af ag ah ai aj ak am an ap aq av ax aE aF aG aH aI).bind λ(aJ,aK,aL,aM,aO,aP,_)=>bif(!aJ)then(none)else
(fU aP 0).bind λ_=>
(fU aP 0).bind λ_=>some (aK,aL,aM,aO,aP,true,())
def Km:X.Cfg:=⟨E0,[pz,sM,nQ,sK,oy,wV,CL],[],[⟨2,0,qE,[(.normal,qS (zl [4,5,6,7,8]++[Xaa 48]) [(10,uab),(12,uac),(14,Uac),(16,Xac),(18,Zab)])]⟩]⟩
def CM:Ctr:=⟨158,160,[.agg uab,.agg uac,.agg Uac,.agg Xac],[],[⟨uL [RI,CW,(uaa KCe),iz,(uaa nA),.bool],[.agg 5,.one],[]⟩],as2 (as4 (as8 (as8 ap1))) r9⟩
theorem J9:Lk 5 CM:=ls Km (aC sx (aC xH (aC rI (aC xF (aC qR (aC BR (aC J8 aN)))))))
def iI(a0:LDIn)(a1:LI)(a2:LLI)(a3:LI)(a4:Int)(a5:LDCe)(a6:LDLn)(a7:LDTh)(a8 a9 ek ew eF:Int)(eH:LDCn)(eJ:Int)(eM:Bool):Option (T1i⊕T1i):=
((lk a0 a1 a2 a3 a4 a5 a6 a7).bind λ(x0,_)=>bif(!x0)then(some (a8,true,a0,a1,a2,a3,a4,a5,a6,a7,a9,ek,ew,eF,eH,eJ,eM,(),0,(),(),(),()))else
(jS a9 ek ew eF eH eJ eM).bind λ(x1,_)=>bif(!x1)then(some (a8,true,a0,a1,a2,a3,a4,a5,a6,a7,a9,ek,ew,eF,eH,eJ,eM,(),0,(),(),(),()))else bif(decide (a8<0))then(some (a8,true,a0,a1,a2,a3,a4,a5,a6,a7,a9,ek,ew,eF,eH,eJ,eM,(),0,(),(),(),()))else bif(decide (a8>=4))then(some (a8,true,a0,a1,a2,a3,a4,a5,a6,a7,a9,ek,ew,eF,eH,eJ,eM,(),0,(),(),(),()))else
(gk a8).bind λx2=>
(fU a7 x2).bind λx3=>some (a8,(x3.1 != 3),a0,a1,a2,a3,a4,a5,a6,a7,a9,ek,ew,eF,eH,eJ,eM,(),0,(),(),(),()):Option (T3n)).bind λ(x0,x1,_,x3,_,x5,x6,x7,x8,x9,ac,ae,af,ag,_)=>bif x1 then(some (.inl (x5,x6,x7,x8,x9,false,())))else
(iD x5 x6 x3 ac ae af ag).bind λ(av,ax,ay,_)=>bif(ay != 0)then(some (.inl (x5,x6,x7,x8,x9,false,())))else
(kS x5 x6 x7 x8 x9).bind λ(az,aA,aB,aD,aE,_)=>
(gk x0).bind λaF=>
(fU aE aF).bind λ_=>
(fU aE aF).bind λ_=>
(fU aE aF).bind λaI=>
(fU aI.2.1 0).bind λ_=>
(fU aE aF).bind λaK=>
(fU aK.2.1 0).bind λ_=>let aM:=aE.modify aF λe=>(e.1,((e.2.1.modify 0 λe=>(av,ax)),e.2.2));
(gk x0).bind λaO=>
(fU aM aO).bind λ_=>
(fU aM aO).bind λ_=>let aR:=aM.modify aO λe=>(1,e.2);some (.inr (az,aA,aB,aD,aR,true,()))
def IB:X.Cfg:=⟨E0,[pz,sK,sS,oy],[],[⟨2,0,qE,[(.normal,qS Zax yas)]⟩]⟩
def q7:Ctr:=⟨23,161,[.agg uab,.agg uac,shU I64,.agg Xac],[],[⟨uL [RI,CW,gS,iu,lz,.bool],[.agg 5,.one],[]⟩,⟨zak,[.agg 5,.one],[]⟩],as1 (as2 (as4 (as8 ap1))) iI⟩
theorem uk:Lk 5 q7:=ls IB (aC sx (aC xF (aC wM (aC qR aN))))
def qu(a0 a1:Int)(a2:LDIn)(a3:LI)(a4:LLI)(a5:LI)(a6:Int)(a7:LDCe)(a8:LDLn)(a9:LDTh)(ek ew:LI)(eF:LLI)(eH:z_)(eJ:LDOp)(eM:LDOu)(eQ:LI)(eU:LLI)(eX:LDEn)(eZ:LI):Option (T36):=let x0:=wk .i64 a1;
(gt x0 true).bind λ(x1,x2,x3,x4,_,x6,x7,_)=>
(match iI a2 a3 a4 a5 a6 a7 a8 a9 a0 x1 x2 x3 x4 [] x6 x7 with
|none=>none
|some (.inl (_,_,_,_,_,_,_))=>none
|some (.inr (x8,x9,ac,ae,af,_,_))=>
(fU af 0).bind λ_=>
(fU af 0).bind λ_=>let aj:LDEn:=[(4,(a0,(0,(0,(0,(0,(0,(0,(0,([],([],(x1,(x2,(x3,(x4,([],(x6,x7)))))))))))))))))];bif(gl 184 eX.length aj.length)then let ak:LDEn:=(List.append eX aj);some (a2,a3,a4,x8,x9,ac,ae,af,ek,ew,eF,eH,eJ,eM,eQ,eU,ak,eZ,())else none)
def Im:X.Cfg:=⟨E0,[nu,q7],[(35,P2),(36,P2)],[]⟩
def Ac:Ctr:=⟨159,162,[.ptr ⟨2,0,[]⟩ [0],shU I64,shU CW],[(2,uae)],[⟨[],[],[(2,uae)]⟩],as1 (as2 (as8 (as8 ap1))) qu⟩
theorem HO:Lk 6 Ac:=ls Im (aC pj (aC uk aN))
def lI(a0 a1 a2 a3 a4 a5:Int)(a6 a7:LDCn)(a8:LDIn)(a9:LI)(ek:LLI)(ew:LI)(eF:Int)(eH:LDCe)(eJ:LDLn)(eM:LDTh)(eQ eU:LI)(eX:LLI)(eZ:z_)(fc:LDOp)(ff:LDOu)(fi:LI)(fk:LLI)(fq:LDEn)(fu:LI):Option (T36):=
(bif(a5==9)then((fU a6 0).bind λx0=>let x1:=wk .i64 x0.2.1;
(jL fi fk x1 a0).bind λ(_,_,x4,_,_)=>some (x4,a8,a9,ek,ew,eF,eH,eJ,eM,eQ,eU,eX,eZ,fc,ff,fi,fk,fq,fu,a0,a1,a2,a3,a4,a5,a6,a7,()))else some ((-1),a8,a9,ek,ew,eF,eH,eJ,eM,eQ,eU,eX,eZ,fc,ff,fi,fk,fq,fu,a0,a1,a2,a3,a4,a5,a6,a7,()):Option (Int×LDIn×LI×LLI×LI×Int×LDCe×LDLn×LDTh×LI×LI×LLI×LLCn×LDOp×LDOu×LI×LLI×LDEn×LI×T1J)).bind λ(x0,x1,x2,x3,x4,x5,x6,x7,x8,x9,ac,ae,af,ag,ah,ai,aj,ak,am,an,ap,aq,av,ax,ay,az,aA,_)=>
(mD an ap aq av ax ay az aA x1 x2 x3 x4 x5 x6 x7 x8 x9 ac ae af ag ah ai aj ak am).bind λ(aB,aD,aE,aF,aG,aH,aI,aJ,aK,aL,aM,aO,aP,aQ,aR,aS,aT,aU,aV,aW,aY,aZ,ba,bc,bd,_)=>
(r9 aJ aK aL aM aO aP aQ aR an ap aq av ax ay az aA aB aD aE aF aG aH aI).bind λ(be,bf,bg,bh,bi,_,_)=>let bk:LDEn:=[(2,(an,(0,(an,(ap,(aq,(av,(ax,(ay,(az,(aA,(aB,(aD,(aE,(aF,(aG,(aH,aI)))))))))))))))))];bif(gl 184 bc.length bk.length)then let bm:LDEn:=(List.append bc bk);bif(decide (x0>=0))then((qu x0 0 aJ aK aL be bf bg bh bi aS aT aU aV aW aY aZ ba bm bd).bind λ(bn)=>some (bn))else some (aJ,aK,aL,be,bf,bg,bh,bi,aS,aT,aU,aV,aW,aY,aZ,ba,bm,bd,())else none
def Dz:X.Cfg:=⟨E0,[qY,uA,CM,Ac],[(56,P2),(57,P2)],[⟨2,0,qE,[(.normal,qS [zaa 0,zaa 3,Uaa 4] [(2,uae),(8,Uac)])]⟩]⟩
def wi:Ctr:=⟨135,163,[.ptr ⟨2,0,[]⟩ [0],.agg Uac],[(2,uae)],[⟨[],[],[(2,uae)]⟩],as1 (as8 (as8 (as8 ap1))) lI⟩
theorem Dd:Lk 7 wi:=ls Dz (aC ui (aC BK (aC J9 (aC HO aN))))
def tV:T2F->Option (T2F⊕(Int×Int×Int×Int×Nat×T1H)):=λ(v0,v1,v2,v3,v4,v5,v6,v7,v8,v9,eu,eE,_)=>bif(decide (v6<v5))then(((gk v6).bind λx0=>
(fU eu v4).bind λx1=>
(fU x1 x0).bind λ_=>
(fU eu v4).bind λx3=>
(fU x3 x0).bind λx4=>bif(x4 != v0)then(bif(gl 8 eE.length (List.length [x4]))then let x5:v_:=(List.append eE [x4]);some (v0,v1,v2,v3,v4,v5,v6,v7,v8,v9,eu,x5,())else none)else some (v0,v1,v2,v3,v4,v5,v6,v7,v8,v9,eu,eE,()):Option (T2F)).bind λ(x0,x1,x2,x3,x4,x5,x6,x7)=>let af:=w64 (x6+1);some (.inl (x0,x1,x2,x3,x4,x5,af,x7)))else some (.inr (v0,v1,v2,v3,v4,v5,v6,false,v7,v8,v9,eu,eE,()))
def tU:T1v->Option (T1v⊕(Int×T1q)):=λ(v0,v1,v2,v3,v4,v5,v6,_)=>bif(decide (v2<v1))then((gk v2).bind λx0=>
(fU v6 x0).bind λ_=>
(fU v6 x0).bind λ_=>
(fU v6 x0).bind λx3=>let x4:=fZ x3.length;
(gd tV NN (v0,v2,v1,v2,x0,x4,0,v3,v4,v5,v6,[],())).bind λ(x5,x6,x7,x8,_,_,_,_,ag,ah,ai,aj,ak,_)=>
(gk x6).bind λam=>
(fU aj am).bind λ_=>
(fU aj am).bind λ_=>let aq:=aj.modify am λe=>ak;let av:=w64 (x8+1);some (.inl (x5,x7,av,ag,ah,ai,aq,())))else some (.inr (v0,v1,v2,false,v3,v4,v5,v6,()))
def tT:T1M->Option (T1M⊕(Int×T1H)):=λ(v0,v1,v2,v3,v4,v5,v6,v7,_)=>bif(decide (v2<v1))then((jL v5 v6 v2 v0).bind λ(x0,x1,x2,x3,_)=>
(bif x3 then(bif(decide (x2>=0))then(bif(gl 8 v7.length (List.length [x2]))then let x4:v_:=(List.append v7 [x2]);some (v0,v1,v2,v3,v4,v5,v6,x4,x0,x1,())else none)else some (v0,v1,v2,v3,v4,v5,v6,v7,x0,x1,()))else some (v0,v1,v2,v3,v4,v5,v6,v7,x0,x1,()):Option (Int×Int×Int×Unit×Unit×LI×LLI×LI×T08)).bind λ(x4,x5,x6,x7,x8,_,_,ae,af,ag,_)=>let ah:=w64 (x6+1);some (.inl (x4,x5,ah,x7,x8,af,ag,ae,())))else some (.inr (v0,v1,v2,false,v3,v4,v5,v6,v7,()))
def qA(a0:LI)(a1:LLI)(a2:Int):Option (T0q):=
(oj a0 a1).bind λ(x0,x1,_)=>let x2:=fZ x1.length;
(gd tU NN (a2,x2,0,(),(),x0,x1,())).bind λ(x3,_,_,_,x7,x8,x9,ac,_)=>let ae:=fZ x9.length;
(gd tT NN (x3,ae,0,x7,x8,x9,ac,[],())).bind λ(_,_,_,_,_,_,am)=>some (am)
def Iz:X.Cfg:=⟨E0,[qZ,qY],[],[⟨15,0,qE,[(.normal,(qS uay uaq))]⟩,⟨12,1,(qS uay uaq),[(.exit 2,(qS [Uaa 1,zaa 4,zaa 6,Uaa 7,Zaa 9 21,(20,.pk ⟨14,1,[]⟩ [0,0]),Uaa 21,Uaa 22,(27,.pk ⟨14,1,[((),(1,0))]⟩ [0,0,0]),Uaa 28,Uaa 29,Xaa 30] uaq))]⟩,(lx 4 2 (Uaa 1::zl [4,6]++(20,.pk ⟨14,1,[]⟩ [0,0])::il [21,22]) [(10,yac),(14,yaf)] 23),⟨27,3,qE,[(.normal,qS (Uaa 1::zl [4,6]++Zaa 12 27::zaa 14::il [49,50]) [(10,yac),(14,Xaf),(27,Xae),(30,Xaf)])]⟩,⟨21,4,qS (Uaa 1::zl [4,6]++Zaa 12 27::il [49,50]) zas,[(.exit 4,qS [Uaa 1,zaa 4,zaa 6,Zaa 12 27,Uaa 49,Uaa 50,Xaa 51] zas)]⟩]⟩
def Ak:Ctr:=⟨160,164,[.agg Xaf,shU I64],[],[⟨uL [RI,(yaa RI),(uaa I64)],[.agg 2,.one],[]⟩],ap3 qA⟩
theorem HX:Lk 3 Ak:=ls Iz (aC uj (aC ui aN))
def lH(a0 a1:Int)(a2:LDIn)(a3:LI)(a4:LLI)(a5:LI)(a6:Int)(a7:LDCe)(a8:LDLn)(a9:LDTh)(ek ew:LI)(eF:LLI)(eH:z_)(eJ:LDOp)(eM:LDOu)(eQ:LI)(eU:LLI)(eX:LDEn):Option (LDIn×LI×LLI×LI×Int×LDCe×LDLn×LDTh×LI×LI×LLI×LLCn×LDOp×LDOu×LI×LLI×LDEn×Unit):=let x0:=wk .i64 a1;
(gt x0 true).bind λ(x1,x2,x3,x4,_,x6,x7,_)=>
(match iI a2 a3 a4 a5 a6 a7 a8 a9 a0 x1 x2 x3 x4 [] x6 x7 with
|none=>none
|some (.inl (_,_,_,_,_,_,_))=>none
|some (.inr (x8,x9,ac,ae,af,_,_))=>
(fU af 0).bind λ_=>
(fU af 0).bind λ_=>let aj:LDEn:=[(4,(a0,(0,(0,(0,(0,(0,(0,(0,([],([],(x1,(x2,(x3,(x4,([],(x6,x7)))))))))))))))))];bif(gl 184 eX.length aj.length)then let ak:LDEn:=(List.append eX aj);some (a2,a3,a4,x8,x9,ac,ae,af,ek,ew,eF,eH,eJ,eM,eQ,eU,ak,())else none)
def Dw:X.Cfg:=⟨E0,[nu,q7],[(35,P2),(36,P2)],[]⟩
def we:Ctr:=⟨159,165,[.ptr ⟨2,0,[]⟩ [0],shU I64,shU CW],[(2,Xal)],[⟨[],[],[(2,Xal)]⟩],as2 (as8 (as8 ap1)) lH⟩
theorem Da:Lk 6 we:=ls Dw (aC pj (aC uk aN))
def td:T3o->Option (T3o⊕(Int×Int×Int×Bool×T3d)):=λ(v0,v1,v2,v3,v4,v5,v6,v7,v8,v9,eu,eE,eG,eI,eK,eO,eS,eV,eY,fa,fe,fh,_)=>bif(decide (v2<v1))then((gk v2).bind λx0=>
(fU fh x0).bind λ_=>
(fU fh x0).bind λx2=>
(lH x2 0 v3 v4 v5 v6 v7 v8 v9 eu eE eG eI eK eO eS eV eY fa).bind λ(x3,x4,x5,x6,x7,x8,x9,ac,ae,af,ag,ah,ai,aj,ak,am,an,_)=>let ap:=w64 (v2+1);some (.inl (v0,v1,ap,x3,x4,x5,x6,x7,x8,x9,ac,ae,af,ag,ah,ai,aj,ak,am,an,fe,fh,())))else some (.inr (v0,v1,v2,false,v3,v4,v5,v6,v7,v8,v9,eu,eE,eG,eI,eK,eO,eS,eV,eY,fa,fe,fh,()))
def s9:T3l->Option (T3l⊕(Int×Int×T3g)):=λ(v0,v1,v2,v3,v4,v5,v6,v7,v8,v9,eu,eE,eG,eI,eK,eO,eS,eV,eY,fa,fe,_)=>bif(decide (v2<v1))then(((gk v2).bind λx0=>
(fU fe x0).bind λ_=>
(fU fe x0).bind λx2=>bif(x2==v0)then((gk v0).bind λx3=>
(fU eu x3).bind λ_=>
(fU eu x3).bind λx5=>
(lH v2 x5.2.2.2.2.2.2.2 v3 v4 v5 v6 v7 v8 v9 eu eE eG eI eK eO eS eV eY fa).bind λ(x6,x7,x8,x9,ac,ae,af,ag,ah,ai,aj,ak,am,an,ap,aq,av,_)=>
(gk v2).bind λax=>
(fU fe ax).bind λ_=>
(fU fe ax).bind λ_=>let aA:=fe.modify ax λe=>(-1);some (v0,v1,v2,x6,x7,x8,x9,ac,ae,af,ag,ah,ai,aj,ak,am,an,ap,aq,av,aA,()))else some (v0,v1,v2,v3,v4,v5,v6,v7,v8,v9,eu,eE,eG,eI,eK,eO,eS,eV,eY,fa,fe,()):Option (T3l)).bind λ(x0,x1,x2,x3,x4,x5,x6,x7,x8,x9,ac,ae,af,ag,ah,ai,aj,ak,am,an,ap,_)=>let aq:=w64 (x2+1);some (.inl (x0,x1,aq,x3,x4,x5,x6,x7,x8,x9,ac,ae,af,ag,ah,ai,aj,ak,am,an,ap,())))else some (.inr (v0,v1,v2,false,v3,v4,v5,v6,v7,v8,v9,eu,eE,eG,eI,eK,eO,eS,eV,eY,fa,fe,()))
def mE(a0:Int)(a1:LDIn)(a2:LI)(a3:LLI)(a4:LI)(a5:Int)(a6:LDCe)(a7:LDLn)(a8:LDTh)(a9 ek:LI)(ew:LLI)(eF:z_)(eH:LDOp)(eJ:LDOu)(eM:LI)(eQ:LLI)(eU:LDEn)(eX:LI):Option (T36):=
(qA eM eQ a0).bind λ(x0,x1,x2,_)=>let x3:=fZ x2.length;
(gd td NN (a0,x3,0,a1,a2,a3,a4,a5,a6,a7,a8,a9,ek,ew,eF,eH,eJ,x0,x1,eU,eX,x2,())).bind λ(x4,_,_,_,x8,x9,ac,ae,af,ag,ah,ai,aj,ak,am,an,ap,aq,av,ax,ay,az,_,_)=>let aB:=fZ az.length;
(gd s9 NN (x4,aB,0,x8,x9,ac,ae,af,ag,ah,ai,aj,ak,am,an,ap,aq,av,ax,ay,az,())).bind λ(_,_,_,_,aH)=>some (aH)
def FG:X.Cfg:=⟨E0,[Ak,we],[],[(lx 4 0 [zaa 0,Uaa 1,Zaa 23 13,Uaa 24,Uaa 25] [(2,uae),(13,Xae)] 26),⟨13,1,qE,[(.normal,(qS yay [(2,uae)]))]⟩,⟨10,2,(qS yay [(2,uae)]),[(.exit 2,(qS [zaa 0,Uaa 1,(36,.pk ⟨2,17,[]⟩ [0,0]),Uaa 37,Uaa 38,Xaa 39] [(2,uae)]))]⟩]⟩
def xZ:Ctr:=⟨136,166,[.ptr ⟨2,0,[]⟩ [0],shU I64],[(2,uae)],[⟨[],[],[(2,uae)]⟩],as2 (as8 (as8 ap1)) mE⟩
theorem E6:Lk 7 xZ:=ls FG (aC HX (aC Da aN))
def oi(a0:LDIn)(a1:LI)(a2:LLI)(a3:LI)(a4:Int)(a5:LDCe)(a6:LDLn)(a7:LDTh)(a8 a9:LI)(ek:LLI)(ew:z_)(eF:LDOp)(eH:LDOu)(eJ:LI)(eM:LLI)(eQ:LDEn)(eU:LI)(eX eZ:Int)(fc:Bool):Option ((Unit×Unit×Unit×Unit×Int×Unit×Unit×Unit×Unit×Unit×Unit×Unit×Unit×Unit×Unit×Unit×Unit×Unit×Int×Unit)⊕(LDIn×LI×LLI×LI×Int×LDCe×LDLn×LDTh×LI×LI×LLI×LLCn×LDOp×LDOu×LI×LLI×LDEn×T07)):=
(oW a7).bind λ(x0,_)=>let x1:=fZ x0.length;bif(x1==0)then(some (.inl ((),(),(),(),0,(),(),(),(),(),(),(),(),(),(),(),(),(),15,())))else let x2:=fZ eQ.length;bif(decide (x2>192))then(some (.inl ((),(),(),(),0,(),(),(),(),(),(),(),(),(),(),(),(),(),3,())))else let x3:=fZ x0.length;
(mi eX x3).bind λ(x4,_)=>
(gk x4).bind λx5=>
(fU x0 x5).bind λ_=>
(fU x0 x5).bind λx7=>
(mi eZ 64).bind λ(x8,_)=>let x9:=w64 (1+x8);
(nU a0 a1 a2 a3 a4 a5 a6 a7 a8 a9 ek ew eF eH eJ eM eQ eU).bind λ(ac,ae,af,ag,ah,ai,aj,ak,am,an,ap,aq,av,ax,ay,az,aA,aB,_)=>
(match(bif fc then((pO ag ah ai aj ak x7).bind λ(aD,_)=>bif aD then((mI ag ah ai aj ak x7).bind λ(aE,aF,aG,aH,aI,_,_)=>let aK:LDEn:=[(3,(x7,(0,(0,(0,(0,(0,(0,(0,([],([],(0,(0,(0,(0,([],(0,false)))))))))))))))))];bif(gl 184 aA.length aK.length)then let aL:LDEn:=(List.append aA aK);some (.inl (x7,x9,(),(),(),(),0,(),(),(),(),(),(),(),(),(),(),(),(),(),ac,ae,af,aE,aF,aG,aH,aI,am,an,ap,aq,av,ax,ay,az,aL,aB,()))else none)else some (.inr (x7,x9,(),(),(),(),0,(),(),(),(),(),(),(),(),(),(),(),(),(),ac,ae,af,ag,ah,ai,aj,ak,am,an,ap,aq,av,ax,ay,az,aA,aB,())))else some (.inr (x7,x9,(),(),(),(),0,(),(),(),(),(),(),(),(),(),(),(),(),(),ac,ae,af,ag,ah,ai,aj,ak,am,an,ap,aq,av,ax,ay,az,aA,aB,())):Option (T3Y⊕T3Y))with
|none=>none
|some (.inl (aD,aE,aF,aG,aH,aI,aJ,aK,aL,aM,aO,aP,aQ,aR,aS,aT,aU,aV,aW,aY,aZ,ba,bc,bd,be,bf,bg,bh,bi,bj,bk,bm,bn,bo,bp,bq,bt,bv,_))=>
(om aZ ba bc bd be bf bg bh aD aE).bind λ(bx,bA,bB,bC,bD,bE,bF,bG,bH,bI,bJ,bK,bL,_,_)=>let bN:LDEn:=[(1,(aD,(aE,(bE,(bF,(bG,(bH,(bI,(bJ,(bK,(bL,(0,(0,(0,(0,([],(0,false)))))))))))))))))];bif(gl 184 bt.length bN.length)then let bO:LDEn:=(List.append bt bN);
(bif(bF==1)then((lI bE bF bG bH bI bJ bK bL aZ ba bc bx bA bB bC bD bi bj bk bm bn bo bp bq bO bv).bind λ(bP,bQ,bR,bS,bT,bU,bV,bW,bY,bZ,b8,b9,cb,cd,cf,cg,ch,ci,_)=>some (aD,aF,aG,aH,aI,aJ,aK,aL,aM,aO,aP,aQ,aR,aS,aT,aU,aV,aW,aY,bP,bQ,bR,bS,bT,bU,bV,bW,bY,bZ,b8,b9,cb,cd,cf,cg,ch,ci,()))else some (aD,aF,aG,aH,aI,aJ,aK,aL,aM,aO,aP,aQ,aR,aS,aT,aU,aV,aW,aY,aZ,ba,bc,bx,bA,bB,bC,bD,bi,bj,bk,bm,bn,bo,bp,bq,bO,bv,()):Option (T3S)).bind λ(bP,bQ,bR,bS,bT,bU,bV,bW,bY,bZ,b8,b9,cb,cd,cf,cg,ch,ci,cj,cn,cq,cr,cu,cw,cx,cy,cz,cD,cE,cF,cG,cH,cI,cJ,cK,cL,cM,_)=>
((gk bP).bind λcN=>
(fU cz cN).bind λ_=>
(fU cz cN).bind λcP=>bif(cP.1==4)then((mE bP cn cq cr cu cw cx cy cz cD cE cF cG cH cI cJ cK cL cM).bind λ(cQ,cR,cS,cT,cU,cV,cW,cX,cY,cZ,c8,c9,dc,de,df,dg,dh,dk,_)=>some (bQ,bR,bS,bT,bU,bV,bW,bY,bZ,b8,b9,cb,cd,cf,cg,ch,ci,cj,cQ,cR,cS,cT,cU,cV,cW,cX,cY,cZ,c8,c9,dc,de,df,dg,dh,dk,()))else some (bQ,bR,bS,bT,bU,bV,bW,bY,bZ,b8,b9,cb,cd,cf,cg,ch,ci,cj,cn,cq,cr,cu,cw,cx,cy,cz,cD,cE,cF,cG,cH,cI,cJ,cK,cL,cM,()):Option (T3P)).bind λ(_,_,_,_,_,_,_,_,_,_,_,_,_,_,_,_,_,_,dg,dh,dk,dm,dn,dp,dq,dx,dy,dz,dA,dB,dC,dD,dE,dF,dG,dH,_)=>some (.inr (dg,dh,dk,dm,dn,dp,dq,dx,dy,dz,dA,dB,dC,dD,dE,dF,dG,dH,0,()))else none
|some (.inr (aD,aE,aF,aG,aH,aI,aJ,aK,aL,aM,aO,aP,aQ,aR,aS,aT,aU,aV,aW,aY,aZ,ba,bc,bd,be,bf,bg,bh,bi,bj,bk,bm,bn,bo,bp,bq,bt,bv,_))=>
(om aZ ba bc bd be bf bg bh aD aE).bind λ(bx,bA,bB,bC,bD,bE,bF,bG,bH,bI,bJ,bK,bL,_,_)=>let bN:LDEn:=[(1,(aD,(aE,(bE,(bF,(bG,(bH,(bI,(bJ,(bK,(bL,(0,(0,(0,(0,([],(0,false)))))))))))))))))];bif(gl 184 bt.length bN.length)then let bO:LDEn:=(List.append bt bN);
(bif(bF==1)then((lI bE bF bG bH bI bJ bK bL aZ ba bc bx bA bB bC bD bi bj bk bm bn bo bp bq bO bv).bind λ(bP,bQ,bR,bS,bT,bU,bV,bW,bY,bZ,b8,b9,cb,cd,cf,cg,ch,ci,_)=>some (aD,aF,aG,aH,aI,aJ,aK,aL,aM,aO,aP,aQ,aR,aS,aT,aU,aV,aW,aY,bP,bQ,bR,bS,bT,bU,bV,bW,bY,bZ,b8,b9,cb,cd,cf,cg,ch,ci,()))else some (aD,aF,aG,aH,aI,aJ,aK,aL,aM,aO,aP,aQ,aR,aS,aT,aU,aV,aW,aY,aZ,ba,bc,bx,bA,bB,bC,bD,bi,bj,bk,bm,bn,bo,bp,bq,bO,bv,()):Option (T3S)).bind λ(bP,bQ,bR,bS,bT,bU,bV,bW,bY,bZ,b8,b9,cb,cd,cf,cg,ch,ci,cj,cn,cq,cr,cu,cw,cx,cy,cz,cD,cE,cF,cG,cH,cI,cJ,cK,cL,cM,_)=>
((gk bP).bind λcN=>
(fU cz cN).bind λ_=>
(fU cz cN).bind λcP=>bif(cP.1==4)then((mE bP cn cq cr cu cw cx cy cz cD cE cF cG cH cI cJ cK cL cM).bind λ(cQ,cR,cS,cT,cU,cV,cW,cX,cY,cZ,c8,c9,dc,de,df,dg,dh,dk,_)=>some (bQ,bR,bS,bT,bU,bV,bW,bY,bZ,b8,b9,cb,cd,cf,cg,ch,ci,cj,cQ,cR,cS,cT,cU,cV,cW,cX,cY,cZ,c8,c9,dc,de,df,dg,dh,dk,()))else some (bQ,bR,bS,bT,bU,bV,bW,bY,bZ,b8,b9,cb,cd,cf,cg,ch,ci,cj,cn,cq,cr,cu,cw,cx,cy,cz,cD,cE,cF,cG,cH,cI,cJ,cK,cL,cM,()):Option (T3P)).bind λ(_,_,_,_,_,_,_,_,_,_,_,_,_,_,_,_,_,_,dg,dh,dk,dm,dn,dp,dq,dx,dy,dz,dA,dB,dC,dD,dE,dF,dG,dH,_)=>some (.inr (dg,dh,dk,dm,dn,dp,dq,dx,dy,dz,dA,dB,dC,dD,dE,dF,dG,dH,0,()))else none)
def In:X.Cfg:=⟨E0,[yk,wW,wh,wU,uF,Al,wi,xZ],[(60,P2),(61,P2),(82,P2),(83,P2)],[⟨11,0,qE,[(.normal,(qS zay [(10,Zae),(20,uL [gR,RI,(yaa RW),RI,CW,(uaa KCe),iz,qk,RW,RW,(yaa RW),(yaa gp),jo,lc,RI,(yaa RI),(uaa qp),(uaa I64)])])),(.normal,qS zay [(10,Zae),(20,zal)])]⟩,⟨17,1,qE,[(.normal,qS [zaa 4,Uaa 7,zaa 9] [(10,Zae),(20,uae)])]⟩,⟨19,2,qE,[(.normal,qS (zl [4,9]) [(10,Zae),(20,uae)])]⟩]⟩
def Ad:Ctr:=⟨96,167,[.agg Zah,.agg Xai],[],[⟨uL [N1,N1,N1,N1,CW,N1,N1,N1,N1,N1,N1,N1,N1,N1,N1,N1,N1,N1,I64],[.agg 18,.one],[]⟩,⟨uL [gR,RI,(yaa RW),RI,CW,(uaa KCe),iz,(uaa nA),RW,RW,(yaa RW),(yaa gp),jo,lc,RI,(yaa RI),(uaa qp),(uaa I64),I64],[.agg 18,.one],[]⟩],as4 (as8 (as8 ap1)) oi⟩
theorem HP:Lk 8 Ad:=ls In (aC Fh (aC BV (aC Dc (aC BO (aC BN (aC HY (aC Dd (aC E6 aN))))))))
def sj:T43->Option (T43⊕(T4b⊕(T4b⊕(T4a⊕(Int×Bool×T3Z))))):=λ(v0,v1,v2,v3,v4,v5,v6,v7,v8,v9,eu,eE,eG,eI,eK,eO,eS,eV,eY,fa,fe,fh,fj,fm,fr,fv,fw,fA,fB,fC,fD,fE,fF,fG,fH,fI,fJ,fK,fL,_)=>bif(decide (v0>0))then((match((pd v1 v2).bind λ(x0,x1,x2,x3,x4,_)=>
(match oi fh fj fm fr fv fw fA fB fC fD fE fF fG fH fI fJ fK fL x0 x1 x2 with
|none=>none
|some (.inl (x5,x6,x7,x8,x9,ac,ae,af,ag,ah,ai,aj,ak,am,an,ap,aq,av,ax,_))=>bif(ax != 0)then(some (.inl (v0,true,x3,x4,v3,v4,v5,v6,v7,v8,v9,eu,eE,eG,eI,eK,eO,eS,eV,eY,fa,fe,fh,fj,fm,fr,fv,fw,fA,fB,fC,fD,fE,fF,fG,fH,fI,fJ,fK,fL,x5,x6,x7,x8,x9,ac,ae,af,ag,ah,ai,aj,ak,am,an,ap,aq,av,())))else some (.inr (.inl (v0,x3,x4,v3,v4,v5,v6,v7,v8,v9,eu,eE,eG,eI,eK,eO,eS,eV,eY,fa,fe,x5,x6,x7,x8,x9,ac,ae,af,ag,ah,ai,aj,ak,am,an,ap,aq,av,())))
|some (.inr (_,_,_,_,_,_,_,_,_,_,_,_,_,_,_,_,_,_,_,_))=>
(match oi fh fj fm fr fv fw fA fB fC fD fE fF fG fH fI fJ fK fL x0 x1 x2 with
|none=>none
|some (.inl (ay,az,aA,aB,aD,aE,aF,aG,aH,aI,aJ,aK,aL,aM,aO,aP,aQ,aR,aS,_))=>bif(aS != 0)then(some (.inr (.inr (.inl (v0,true,x3,x4,v3,v4,v5,v6,v7,v8,v9,eu,eE,eG,eI,eK,eO,eS,eV,eY,fa,fe,fh,fj,fm,fr,fv,fw,fA,fB,fC,fD,fE,fF,fG,fH,fI,fJ,fK,fL,ay,az,aA,aB,aD,aE,aF,aG,aH,aI,aJ,aK,aL,aM,aO,aP,aQ,aR,())))))else some (.inr (.inl (v0,x3,x4,v3,v4,v5,v6,v7,v8,v9,eu,eE,eG,eI,eK,eO,eS,eV,eY,fa,fe,ay,az,aA,aB,aD,aE,aF,aG,aH,aI,aJ,aK,aL,aM,aO,aP,aQ,aR,())))
|some (.inr (ay,az,aA,aB,aD,aE,aF,aG,aH,aI,aJ,aK,aL,aM,aO,aP,aQ,aR,aS,_))=>bif(aS != 0)then(some (.inr (.inr (.inr (.inl (v0,true,x3,x4,v3,v4,v5,v6,v7,v8,v9,eu,eE,eG,eI,eK,eO,eS,eV,eY,fa,fe,fh,fj,fm,fr,fv,fw,fA,fB,fC,fD,fE,fF,fG,fH,fI,fJ,fK,fL,ay,az,aA,aB,aD,aE,aF,aG,aH,aI,aJ,aK,aL,aM,aO,aP,aQ,aR,()))))))else some (.inr (.inr (.inr (.inr (v0,x3,x4,v3,v4,v5,v6,v7,v8,v9,eu,eE,eG,eI,eK,eO,eS,eV,eY,fa,fe,ay,az,aA,aB,aD,aE,aF,aG,aH,aI,aJ,aK,aL,aM,aO,aP,aQ,aR,()))))))):Option (T4b⊕((Int×LI×Int×Unit×Unit×Unit×Unit×Int×Unit×Unit×Unit×Unit×Unit×Unit×Unit×Unit×Unit×Unit×Unit×Unit×Unit×T3a)⊕(T4b⊕(T4a⊕T43)))))with
|none=>none
|some (.inl (x0,x1,x2,x3,x4,x5,x6,x7,x8,x9,ac,ae,af,ag,ah,ai,aj,ak,am,an,ap,aq,av,ax,ay,az,aA,aB,aD,aE,aF,aG,aH,aI,aJ,aK,aL,aM,aO,aP,aQ,aR,aS,aT,aU,aV,aW,aY,aZ,ba,bc,bd,be,bf,bg,bh,bi,bj,_))=>some (.inr (.inl (x0,x1,x2,x3,x4,x5,x6,x7,x8,x9,ac,ae,af,ag,ah,ai,aj,ak,am,an,ap,aq,av,ax,ay,az,aA,aB,aD,aE,aF,aG,aH,aI,aJ,aK,aL,aM,aO,aP,aQ,aR,aS,aT,aU,aV,aW,aY,aZ,ba,bc,bd,be,bf,bg,bh,bi,bj,())))
|some (.inr (.inl (x0,x1,x2,x3,x4,x5,x6,x7,x8,x9,ac,ae,af,ag,ah,ai,aj,ak,am,an,ap,_,_,_,_,az,_,_,_,_,_,_,_,_,_,_,_,_,_,_)))=>let aP:=w64 (x0-1);some (.inl (aP,x1,x2,x3,x4,x5,x6,x7,x8,x9,ac,ae,af,ag,ah,ai,aj,ak,am,an,ap,[],[],[],[],az,[],[],[],[],[],[],[],[],[],[],[],[],[],()))
|some (.inr (.inr (.inl (x0,x1,x2,x3,x4,x5,x6,x7,x8,x9,ac,ae,af,ag,ah,ai,aj,ak,am,an,ap,aq,av,ax,ay,az,aA,aB,aD,aE,aF,aG,aH,aI,aJ,aK,aL,aM,aO,aP,aQ,aR,aS,aT,aU,aV,aW,aY,aZ,ba,bc,bd,be,bf,bg,bh,bi,bj,_))))=>some (.inr (.inr (.inl (x0,x1,x2,x3,x4,x5,x6,x7,x8,x9,ac,ae,af,ag,ah,ai,aj,ak,am,an,ap,aq,av,ax,ay,az,aA,aB,aD,aE,aF,aG,aH,aI,aJ,aK,aL,aM,aO,aP,aQ,aR,aS,aT,aU,aV,aW,aY,aZ,ba,bc,bd,be,bf,bg,bh,bi,bj,()))))
|some (.inr (.inr (.inr (.inl (x0,x1,x2,x3,x4,x5,x6,x7,x8,x9,ac,ae,af,ag,ah,ai,aj,ak,am,an,ap,aq,av,ax,ay,az,aA,aB,aD,aE,aF,aG,aH,aI,aJ,aK,aL,aM,aO,aP,aQ,aR,aS,aT,aU,aV,aW,aY,aZ,ba,bc,bd,be,bf,bg,bh,bi,bj,_)))))=>some (.inr (.inr (.inr (.inl (x0,x1,x2,x3,x4,x5,x6,x7,x8,x9,ac,ae,af,ag,ah,ai,aj,ak,am,an,ap,aq,av,ax,ay,az,aA,aB,aD,aE,aF,aG,aH,aI,aJ,aK,aL,aM,aO,aP,aQ,aR,aS,aT,aU,aV,aW,aY,aZ,ba,bc,bd,be,bf,bg,bh,bi,bj,())))))
|some (.inr (.inr (.inr (.inr (x0,x1,x2,x3,x4,x5,x6,x7,x8,x9,ac,ae,af,ag,ah,ai,aj,ak,am,an,ap,aq,av,ax,ay,az,aA,aB,aD,aE,aF,aG,aH,aI,aJ,aK,aL,aM,aO,_)))))=>let aP:=w64 (x0-1);some (.inl (aP,x1,x2,x3,x4,x5,x6,x7,x8,x9,ac,ae,af,ag,ah,ai,aj,ak,am,an,ap,aq,av,ax,ay,az,aA,aB,aD,aE,aF,aG,aH,aI,aJ,aK,aL,aM,aO,()))))else some (.inr (.inr (.inr (.inr (v0,false,v1,v2,v3,v4,v5,v6,v7,v8,v9,eu,eE,eG,eI,eK,eO,eS,eV,eY,fa,fe,fh,fj,fm,fr,fv,fw,fA,fB,fC,fD,fE,fF,fG,fH,fI,fJ,fK,fL,())))))
def vh(a0:LI)(a1:Int):Option (LDIn×LI×LLI×LI×Int×LDCe×LDLn×LDTh×LI×LI×LLI×LLCn×LDOp×LDOu×LI×LLI×LDEn×LI×T07):=
(n6 a0 a1).bind λ(x0,x1,x2,x3,x4,_)=>
(pb x1 x3 x4).bind λ(x5,x6,x7,x8,_)=>
(n7 x7 x8).bind λ(x9,ac,ae,af,ag,_,ai,aj,_)=>
(rZ x0 x1 x2 x5 x6 x9 ac ae af ag []).bind λ(ak,am,an,ap,aq,av,ax,ay,az,aA,aB,aD,aE,aF,aG,aH,_,aJ,_,_)=>
(fU ay 0).bind λ_=>
(fU ay 0).bind λ_=>
(fV 16 ai aj).bind λ(aO,aP,aQ,_)=>let aR:=w64 (3+aO);
(match gd sj NN (aR,aP,aQ,(),(),(),(),0,(),(),(),(),(),(),(),(),(),(),(),(),(),ak,am,an,ap,aq,av,ax,ay,az,aA,aB,aD,aE,aF,aG,aH,[],aJ,())with
|none=>none
|some (.inl (_,_,aU,aV,_,_,_,_,_,_,_,_,_,_,_,_,_,_,_,_,_,_,bt,bv,bx,bA,bB,bC,bD,bE,bF,bG,bH,bI,bJ,bK,bL,bM,bN,bO,_,_,_,_,_,_,_,_,_,_,_,_,_,_,_,_,_,_,_))=>some (bt,bv,bx,bA,bB,bC,bD,bE,bF,bG,bH,bI,bJ,bK,bL,bM,bN,bO,aU,aV,())
|some (.inr (.inl (_,_,_,_,_,_,_,_,_,_,_,_,_,_,_,_,_,_,_,_,_,_,_,_,_,_,_,_,_,_,_,_,_,_,_,_,_,_,_,_,_,_,_,_,_,_,_,_,_,_,_,_,_,_,_,_,_,_,_)))=>none
|some (.inr (.inr (.inl (_,_,_,_,_,_,_,_,_,_,_,_,_,_,_,_,_,_,_,_,_,_,_,_,_,_,_,_,_,_,_,_,_,_,_,_,_,_,_,_,_,_,_,_,_,_,_,_,_,_,_,_,_,_,_,_,_,_,_))))=>none
|some (.inr (.inr (.inr (_,_,aU,aV,_,_,_,_,_,_,_,_,_,_,_,_,_,_,_,_,_,_,bt,bv,bx,bA,bB,bC,bD,bE,bF,bG,bH,bI,bJ,bK,bL,bM,bN,bO,_))))=>some (bt,bv,bx,bA,bB,bC,bD,bE,bF,bG,bH,bI,bJ,bK,bL,bM,bN,bO,aU,aV,()))
def M3:X.Cfg:=⟨E0,[wz,yF,wA,ya,hJ,yG,Ad],[],[⟨8,0,qE,[(.exit 0,qS Uau Uas),(.normal,qS Zav [(2,yab),(6,Zae),(10,Zae)]),(.exit 0,qS Uau Xas),(.exit 0,qS Uau Zas),(.normal,qS Zav [(2,yab),(6,Zae),(10,uae)])]⟩,⟨5,1,qS Zav uat,[(.exit 0,qS Uau Uas),(.exit 0,qS Uau Xas),(.exit 0,qS Uau Zas),(.exit 0,qS (zl [0,2,4]++[Uaa 6,Xaa 26]) uat)]⟩]⟩
def Ex:Ctr:=⟨57,168,[.ptr ⟨2,0,[]⟩ [0]],[(2,yab)],[⟨Uai,[.agg 18],[(2,yab)]⟩],ap2 vh⟩
theorem MV:Lk 9 Ex:=ls M3 (aC Do (aC FB (aC Dp (aC E7 (aC ig (aC FC (aC HP aN)))))))
def kf:Int×T0o->Option ((Int×T0o)⊕(Int×T0E)):=λ(v0,v1,v2,v3,_)=>bif(decide (v3<v2))then((gk v3).bind λx0=>
(fU v1 x0).bind λx1=>let x2:=w64 (v0+x1);let x3:=w64 (v3+1);some (.inl (x2,v1,v2,x3,())))else some (.inr (v0,v1,v2,v3,false,()))
def o5(a0:LI):h_:=let x0:=fZ a0.length;
(gd kf NN (0,a0,x0,0,())).bind λ(x1,_)=>some (x1,())
def Gg:X.Cfg:=⟨E0,[],[],[(lx 4 0 (Uaa 3::sP 6 RI::il [7,8]) [] 9)]⟩
def yq:Ctr:=⟨99,169,uL [RI],[],[⟨zac,[.one],[]⟩],ap1 o5⟩
theorem Fn:Lk 1 yq:=ls Gg aN
def sd:Int×LI×T0w->Option ((Int×LI×T0w)⊕(T0f⊕T1B)):=λ(v0,v1,v2,v3,v4)=>bif(decide (v3<v2))then((gk v3).bind λx0=>
(fU v1 x0).bind λx1=>
(match(bif(decide (v0>=0))then(bif(decide (v0<x1))then(some (.inl (0,v3,v0,())))else some (.inr (v0,v3,x1,v1,v2,v3,false,v4)))else some (.inr (v0,v3,x1,v1,v2,v3,false,v4)):Option (T0f⊕(Int×Int×T1B)))with
|none=>none
|some (.inl (x2,x3,x4,_))=>some (.inr (.inl (x2,x3,x4,())))
|some (.inr (x2,_,x4,x5,x6,x7,_,x9))=>let ae:=w64 (x2-x4);let af:=w64 (x7+1);some (.inl (ae,x5,x6,af,x9))))else some (.inr (.inr (v0,v1,v2,v3,false,v4)))
def vg(a0:LI)(a1:Int):Option (T0f):=let x0:=fZ a0.length;
(match gd sd NN (a1,a0,x0,0,0,0,())with
|none=>none
|some (.inl (x1,x2,x3,_))=>some (x2,x3,x1,())
|some (.inr (_,_,_,_))=>some (0,0,6,()))
def M2:X.Cfg:=⟨E0,[],[],[⟨8,0,qE,[(.ret,qS zav Xan),(.normal,qS [Uaa 1,zaa 4,Uaa 6,Uaa 7,sP 8 RI,Uaa 9,Uaa 10,Xaa 21] Xan)]⟩,⟨3,1,qS [Uaa 1,zaa 4,sP 8 RI,Uaa 9,Uaa 10] Xan,[(.ret,qS zav Xan),(.exit 0,qS [Uaa 1,zaa 4,sP 8 RI,Uaa 9,Uaa 10,Xaa 11] Xan)]⟩]⟩
def Ew:Ctr:=⟨98,170,yab,[],[⟨Xaj,[.agg 2,.one],[]⟩],ap2 vg⟩
theorem MU:Lk 1 Ew:=ls M2 aN
def jM(a0 a1:LI)(a2:Int):Option (T19):=
(fV 6 a1 a2).bind λ(x0,x1,x2,_)=>bif(x0==4)then((o5 a0).bind λ(x3,_)=>
(fV x3 x1 x2).bind λ(x4,x5,x6,_)=>
(vg a0 x4).bind λ(x7,x8,_,_)=>some (1,0,x7,x8,x5,x6,()))else bif(x0==5)then((fV 10 x1 x2).bind λ(x3,x4,x5,_)=>let x6:=wk .u16 x3;some (2,x6,0,0,x4,x5,()))else
(kW x1 x2).bind λ(x3,x4,x5,_)=>some (0,x3,0,0,x4,x5,())
def I5:X.Cfg:=⟨E0,[hJ,yq,Ew,qi],[],[]⟩
def oA:Ctr:=⟨58,171,[.ptr ⟨2,0,[]⟩ [0],shU RI],[(2,yab)],[⟨yag,[.agg 4],[(2,yab)]⟩],ap3 jM⟩
theorem qU:Lk 5 oA:=ls I5 (aC ig (aC Fn (aC MU (aC sC aN))))
def jh:LDTs×LDTs×T02->Option ((LDTs×LDTs×T02)⊕((Bool×Unit)⊕(LDTs×LDTs×T0e))):=λ(v0,v1,v2,v3,_)=>bif(decide (v3<v2))then((gk v3).bind λx0=>
(fU v1 x0).bind λx1=>
(bif(decide (x1.1>=0))then(bif(decide (x1.1<=4))then(bif(decide (x1.2.1>=0))then(bif(decide (x1.2.1<=255))then(bif(decide (x1.2.2.1>=0))then(bif(decide (x1.2.2.1<=1099511627776))then(bif(decide (x1.2.2.2.1>=(-1)))then(bif(decide (x1.2.2.2.1<=255))then(bif(decide (x1.2.2.2.2.1>=(-1)))then(bif(decide (x1.2.2.2.2.1<=255))then(bif(decide (x1.2.2.2.2.2.1>=0))then(some (v0,(decide (x1.2.2.2.2.2.1<=6)),v1,v2,v3,x1.1,x1.2.1,x1.2.2.1,x1.2.2.2.1,x1.2.2.2.2.1,x1.2.2.2.2.2.1,x1.2.2.2.2.2.2.1,x1.2.2.2.2.2.2.2,()))else some (v0,false,v1,v2,v3,x1.1,x1.2.1,x1.2.2.1,x1.2.2.2.1,x1.2.2.2.2.1,x1.2.2.2.2.2.1,x1.2.2.2.2.2.2.1,x1.2.2.2.2.2.2.2,()))else some (v0,false,v1,v2,v3,x1.1,x1.2.1,x1.2.2.1,x1.2.2.2.1,x1.2.2.2.2.1,x1.2.2.2.2.2.1,x1.2.2.2.2.2.2.1,x1.2.2.2.2.2.2.2,()))else some (v0,false,v1,v2,v3,x1.1,x1.2.1,x1.2.2.1,x1.2.2.2.1,x1.2.2.2.2.1,x1.2.2.2.2.2.1,x1.2.2.2.2.2.2.1,x1.2.2.2.2.2.2.2,()))else some (v0,false,v1,v2,v3,x1.1,x1.2.1,x1.2.2.1,x1.2.2.2.1,x1.2.2.2.2.1,x1.2.2.2.2.2.1,x1.2.2.2.2.2.2.1,x1.2.2.2.2.2.2.2,()))else some (v0,false,v1,v2,v3,x1.1,x1.2.1,x1.2.2.1,x1.2.2.2.1,x1.2.2.2.2.1,x1.2.2.2.2.2.1,x1.2.2.2.2.2.2.1,x1.2.2.2.2.2.2.2,()))else some (v0,false,v1,v2,v3,x1.1,x1.2.1,x1.2.2.1,x1.2.2.2.1,x1.2.2.2.2.1,x1.2.2.2.2.2.1,x1.2.2.2.2.2.2.1,x1.2.2.2.2.2.2.2,()))else some (v0,false,v1,v2,v3,x1.1,x1.2.1,x1.2.2.1,x1.2.2.2.1,x1.2.2.2.2.1,x1.2.2.2.2.2.1,x1.2.2.2.2.2.2.1,x1.2.2.2.2.2.2.2,()))else some (v0,false,v1,v2,v3,x1.1,x1.2.1,x1.2.2.1,x1.2.2.2.1,x1.2.2.2.2.1,x1.2.2.2.2.2.1,x1.2.2.2.2.2.2.1,x1.2.2.2.2.2.2.2,()))else some (v0,false,v1,v2,v3,x1.1,x1.2.1,x1.2.2.1,x1.2.2.2.1,x1.2.2.2.2.1,x1.2.2.2.2.2.1,x1.2.2.2.2.2.2.1,x1.2.2.2.2.2.2.2,()))else some (v0,false,v1,v2,v3,x1.1,x1.2.1,x1.2.2.1,x1.2.2.2.1,x1.2.2.2.2.1,x1.2.2.2.2.2.1,x1.2.2.2.2.2.2.1,x1.2.2.2.2.2.2.2,()))else some (v0,false,v1,v2,v3,x1.1,x1.2.1,x1.2.2.1,x1.2.2.2.1,x1.2.2.2.2.1,x1.2.2.2.2.2.1,x1.2.2.2.2.2.2.1,x1.2.2.2.2.2.2.2,()):Option (LDTs×Bool×LDTs×T2h)).bind λ(x2,x3,x4,x5,x6,_,_,_,_,_,_,_,ah,_)=>
(bif(!x3)then(some (x2,x4,x5,x6,true,()))else let ai:=fZ ah.length;bif(ai != 8)then(some (x2,x4,x5,x6,true,()))else
(g8 ah 8).bind λ(aj,_)=>some (x2,x4,x5,x6,(!aj),()):Option (LDTs×LDTs×T0e)).bind λ(ai,aj,ak,am,an,_)=>bif an then(some (.inr (.inl (false,()))))else let ap:=w64 (am+1);some (.inl (ai,aj,ak,ap,())))else some (.inr (.inr (v0,v1,v2,v3,false,())))
def mJ(a0:LDTs):f_:=let x0:=fZ a0.length;
(match gd jh NN (a0,a0,x0,0,())with
|none=>none
|some (.inl (x1,_))=>some (x1,())
|some (.inr (x1,_))=>let x6:=fZ x1.length;some ((x6==4),()))
def Cc:X.Cfg:=⟨E0,[jn],[],[⟨8,0,qE,[(.normal,qS [sP 0 (yaa vC),zaa 4,Xaa 5,sP 6 (yaa vC),Uaa 7,Uaa 8] [(10,Uak)])]⟩,⟨9,1,qE,[(.normal,qS [sP 0 (yaa vC),sP 6 (yaa vC),Uaa 7,Uaa 8,Xaa 83] [])]⟩,⟨3,2,qS (sP 0 (yaa vC)::sP 6 (yaa vC)::il [7,8]) [],[(.ret,qS yau []),(.exit 0,qS [sP 0 (yaa vC),sP 6 (yaa vC),Uaa 7,Uaa 8,Xaa 9] [])]⟩]⟩
def uG:Ctr:=⟨61,172,uL [(yaa vC)],[],[⟨zab,[.one],[]⟩],ap1 mJ⟩
theorem BQ:Lk 3 uG:=ls Cc (aC jZ aN)
def l6:T1V->Option (T1V⊕((Bool×Unit)⊕(LLCn×Int×Int×Bool×T0V))):=λ(v0,v1,v2,v3,v4,v5)=>bif(decide (v2<v1))then((gk v2).bind λx0=>
(fU v0 x0).bind λx1=>let x2:=fZ x1.length;
(gk v2).bind λx3=>
(fU v4 x3).bind λx4=>bif(x2 != x4)then(some (.inr (.inl (false,()))))else
(g8 x1 32).bind λ(x5,_)=>bif(!x5)then(some (.inr (.inl (false,()))))else let x6:=w64 (v2+1);some (.inl (v0,v1,x6,v3,v4,v5)))else some (.inr (.inr (v0,v1,v2,false,v3,v4,v5)))
def mK(a0:LDIn)(a1:LI)(a2:LLI)(a3:z_)(a4:LDTs):f_:=
((lm a0 a1 a2).bind λ(x0,_)=>bif(x0 != 0)then(some (true,a0,a1,a2,a3,a4,()))else let x1:=fZ a3.length;let x2:=fZ a1.length;bif(x1 != x2)then(some (true,a0,a1,a2,a3,a4,()))else
(mJ a4).bind λ(x3,_)=>some ((!x3),a0,a1,a2,a3,a4,()):Option (Bool×T0V)).bind λ(x0,x1,x2,x3,x4,x5,_)=>bif x0 then(some (false,()))else let x6:=fZ x4.length;
(match gd l6 NN (x4,x6,0,x1,x2,x3,x4,x5,())with
|none=>none
|some (.inl (x7,_))=>some (x7,())
|some (.inr (_,_))=>some (true,()))
def FR:X.Cfg:=⟨E0,[pA,uG,jn],[],[⟨2,0,qE,[(.normal,qS [zaa 2,zaa 3,Xaa 24] yaq)]⟩,⟨6,1,qS (zaa 2::sP 26 (yaa gp)::il [27,28]) yaq,[(.ret,qS uau []),(.exit 0,qS [zaa 2,sP 26 (yaa gp),Uaa 27,Uaa 28,Xaa 29] yaq)]⟩]⟩
def yf:Ctr:=⟨32,173,[.agg uab,.agg uaf],[],[⟨zab,[.one],[]⟩],ap5 mK⟩
theorem Fc:Lk 4 yf:=ls FR (aC sy (aC BQ (aC jZ aN)))
def j6:LDTs×Int×Int×LLCn×LDTs×LLCn×Unit->Option ((LDTs×Int×Int×LLCn×LDTs×LLCn×Unit)⊕(LDTs×Int×Int×Bool×LLCn×LDTs×LLCn×Unit)):=λ(v0,v1,v2,v3,v4,v5,_)=>bif(decide (v2<v1))then((gk v2).bind λx0=>
(fU v0 x0).bind λx1=>let x2:z_:=[x1.2.2.2.2.2.2.2];bif(gl 24 v5.length x2.length)then let x3:z_:=(List.append v5 x2);let x4:=w64 (v2+1);some (.inl (v0,v1,x4,v3,v4,x3,()))else none)else some (.inr (v0,v1,v2,false,v3,v4,v5,()))
def oR(a0:z_)(a1:LDTs):Option (LLCn×Unit):=bif(gl 24 0 a0.length)then let x0:z_:=(List.append [] a0);let x1:=fZ a1.length;
(gd j6 NN (a1,x1,0,a0,a1,x0,())).bind λ(_,_,_,_,_,_,x8,_)=>some (x8,())else none
def FQ:X.Cfg:=⟨E0,[],[(8,(uaa KCn)),(19,(uaa KCn)),(20,(uaa KCn))],[(lx 4 0 (Zaa 3 9::sP 10 (yaa vC)::il [11,12]) [(4,uaf),(9,uai)] 13)]⟩
def ye:Ctr:=⟨34,174,[.agg uaf],[],[⟨uai,[.one],[]⟩],ap2 oR⟩
theorem Fb:Lk 1 ye:=ls FQ aN
end
end Go.Proofs.YtabfnmgabblofaaGreat
