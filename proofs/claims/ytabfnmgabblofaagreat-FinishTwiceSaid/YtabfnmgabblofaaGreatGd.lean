/- Part of the proof; no condition. -/
import Derived.Test.YtabfnmgabblofaaGreatGc
import Derived.Test.YtabfnmgabblofaaGreatProg
import Derived.KernelRfl
set_option linter.unusedVariables false
set_option linter.unusedSimpArgs false
namespace Go.Proofs.YtabfnmgabblofaaGreat
open Go.RowKit
section
variable {α β γ δ Y:Type}
theorem Qv{F:iF}{C:X.Cfg}(YW:∀c∈C.TB,yR F c)(u:HL den []):∀(ops:List lC){σ:XS den}{k:Unit->XS den->Option Y}{y:Y},X.spOps fX C u ops σ k=some y->∃ σ',xC (evCall C.E F) ops (erS σ)=some (erS σ')/\k () σ'=some y:=by intro ops;induction ops with|nil=>intro σ k y h;exact⟨σ,rfl,h⟩|cons o ops ih=>intro σ k y h;have ⟨a,σ1,r1,_,h1⟩:=Lh YW u o σ _ y h;have ⟨σ',r2,h2⟩:=ih h1;refine⟨σ',?_,h2⟩;simp[xC];rw[Le r1];exact r2
def LP(f g:vM):Prop:=(∀x∈f.1,x∈g.1)/\∀x∈f.2,x∈g.2
inductive UI:List (Nat×vM)->List (Nat×vM)->Prop
 |nil:UI [] []
 |cons {i:Nat} {f g:vM} {l r:List (Nat×vM)} (h:LP f g) (t:UI l r):UI ((i,f)::l) ((i,g)::r)
theorem xI{a a' b b':List Loc}(ha:∀x∈a,x∈a')(hb:∀x∈b,x∈b')(h:MT a' b'=false):MT a b=false:=by unfold MT at h⊢;simp_all
theorem Ns{f f' g g':vM}(h1:LP f f')(h2:LP g g')(h:sX f' g'=false):sX f g=false:=by unfold sX at h⊢;simp at h⊢;have ⟨⟨⟨a,b⟩,c⟩,d⟩:=h;exact⟨⟨⟨xI h1.2 h2.1 a,xI h1.2 h2.2 b⟩,xI h2.2 h1.1 c⟩,xI h2.2 h1.2 d⟩
theorem O3{deps:k_}{j:Nat}{f f':vM}(hf:LP f f'){l r:List (Nat×vM)}(h:UI l r):(r.all λy=>!sX f' y.2||(deps.getD y.1 []).contains j)=true->(l.all λy=>!sX f y.2||(deps.getD y.1 []).contains j)=true:=by induction h with|nil=>exact id|cons h t ih=>intro hr;simp only[List.all_cons,oBA]at hr⊢;refine⟨?_,ih hr.2⟩;simp at hr⊢;rcases hr.1 with h3|h3;exact .inl (Ns hf h h3);simp_all
theorem HM{deps:k_}{l r:List (Nat×vM)}(h:UI l r):lA deps r=true->lA deps l=true:=by induction h with|nil=>exact id|cons h t ih=>intro hr;simp only[lA,oBA]at hr⊢;exact⟨O3 h t hr.1,ih hr.2⟩
theorem Ta{F:iF}{C:X.Cfg}(YW:∀c∈C.TB,yR F c)(u:HL den [])(ops:List lC):∀(L:N_){σ:XS den}{k:List (Nat×vM)->XS den->Option Y}{y:Y},X.spFL fX C u ops L σ k=some y ->∃fs gs σ',vN (λi=>spOp (evCall C.E F) (ops.getD i JJ)) L (erS σ)=some (fs,erS σ')/\UI fs gs/\k gs σ'=some y:=by intro L;induction L with|nil=>intro σ k y h;exact⟨[],[],σ,rfl,.nil,h⟩|cons i L ih=>intro σ k y h;have ⟨a,σ1,r1,n1,h1⟩:=Lh YW u _ _ _ y h;have r1:(spOp (evCall C.E F) (ops.getD i JJ)).run (erS σ)=some (a,erS σ1):=r1;have ⟨fs,gs,σ',r2,le,h2⟩:=ih h1;refine⟨(i,(spOp (evCall C.E F) (ops.getD i JJ)).foot (erS σ))::fs,(i,σ1.lg)::gs,σ',?_,.cons ⟨n1.r,n1.w⟩ le,h2⟩;simp[vN];simp_all
theorem zg(L:N_)(σ:XS den){t:XV den}(h:X.okN0 t=true):er (X.renorm0 L σ t)=renorm0 L (erS σ) (er t):=by
 cases t with
 |d t x=>cases t with
  |row o t=>cases o<;>first|rfl|simp[X.okN0]at h
  |nilr o=>cases o<;>rfl|nat=>simp[X.okN0]at h|pair a b=>simp[X.okN0]at h|_=>rfl
 |ptr p vs=>show er (if _ then _ else _)=(if _ then _ else _);by_cases hc:(L.contains p.root&&vs==lE (nK σ.vr) p.root p.off p.hops.length)=true;rw[oIP hc,oIP (by exact hc)];rfl;rw[oIN hc,oIN (by exact hc)];rfl|pk p vs=>show er (if _ then _ else _)=(if _ then _ else _);by_cases hc:(L.contains p.root&&vs==lE (nK σ.vr) p.root p.off (p.hops.length+1))=true;rw[oIP hc,oIP (by exact hc)];rfl;rw[oIN hc,oIN (by exact hc)];rfl|pw p vs sz lo n=>show er (if _ then _ else _)=(if _ then _ else _);by_cases hc:(L.contains p.root&&vs==lE (nK σ.vr) p.root p.off (p.hops.length+1))=true;rw[oIP hc,oIP (by exact hc)];rfl;rw[oIN hc,oIN (by exact hc)];rfl|tup l=>cases l<;>rfl|gap=>simp[X.okN0]at h|half=>simp[X.okN0]at h|_=>rfl
theorem OH(L:N_)(σ:XS den){t:XV den}(h:X.okN t=true):er (X.renorm L σ t)=renorm L (erS σ) (er t):=by
 have key:X.okN0 t=true->er (X.renorm0 L σ t)=renorm0 L (erS σ) (er t):=λh=>zg L σ h;cases t with
 |agg l=>simp only[X.renorm,er,renorm,kZ,oPM];congr 1;refine List.map_congr_left λx hx=>zg L σ (oAE.1 h x hx)|fn f l=>simp only[X.renorm,er,renorm,kZ,oPM];congr 1;refine List.map_congr_left λx hx=>zg L σ (oAE.1 h x hx)|d t x=>have:=key h;cases t with|row o t=>cases o<;>exact this|nilr o=>cases o<;>exact this|_=>exact this
 |_=>exact key h
theorem Sg{α:Type}{P:α->Bool}:∀{l:List (Nat×α)}{i:Nat}{t:α},(l.all λx=>P x.2)=true->gG l i=some t->P t=true:=by intro l;induction l with|nil=>intro i t _ h;simp[gG]at h|cons x l ih=>intro i t ha h;simp only[List.all_cons,oBA]at ha;simp[gG]at h;split at h;simp_all;exact ih ha.2 h
theorem Ri(L:N_)(σ:XS den)(hok:X.okS σ=true):∀l:N_,(X.normT L σ l).map (λx=>(x.1,er x.2))=normT L (erS σ) l:=by intro l;induction l with|nil=>rfl|cons i l ih=>simp[X.normT,normT];have e:gG (erS σ).tm i=(gG σ.tm i).map er:=Br _ _ _;rw[e];cases h:gG σ.tm i with|none=>exact ih|some t=>have ht:=Sg hok h;simp only[oMS,oPC];rw[OH L σ ht,ih]
theorem Rj(σ:XS den):∀l:N_,erC (X.normC σ l)=normC (erS σ) l:=by intro l;induction l with|nil=>rfl|cons r l ih=>simp[X.normC,normC];rw[Af];cases h:gG σ.ce r with|none=>exact ih|some c=>simp;show(r,erL c)::erC _=_;rw[ih]
theorem E8{σ:XS den}(hok:X.okS σ=true)(pers:Prs):erS (X.norm σ pers)=(erS σ).norm pers:=by show(⟨(X.normT pers.2 σ pers.1).map _,erC (X.normC σ pers.2),sat pers.2 σ.vr σ.vr⟩:St)=_;rw[Ri _ σ hok,Rj];rfl
theorem K3{σ:XS den}(hok:X.okS σ=true):erS (X.anew σ)=(erS σ).anew:=by unfold X.anew St.anew;rw[E8 hok];congr 1;congr 1;show _=(σ.tm.map λx=>(x.1,er x.2)).map (·.1);simp_all;show _=(erC σ.ce).map (·.1);unfold erC;simp_all
theorem UW(p:XP den)(off:Nat):erP (X.shq fX p off)=shq (erP p) off:=by unfold X.shq shq;split;exact KM p off;rfl
theorem Qz(x:Nat×x_):Sim (Y:=Y) (X.shr1 fX x) (shr1 x) id:=by
 obtain⟨i,off⟩:=x;refine Sim.rdT λt=>?_;cases off with
 |none=>cases t with
  |pk p vs=>refine(j9 false (.pk p vs)).bind λt'=>Sim.opt λt2 h2=>?_;rw[<- B9 h2];exact BA i t2|d t y=>cases t with|row o t=>cases o<;>exact .ret rfl|nilr o=>cases o<;>exact .ret rfl|_=>exact .ret rfl
  |agg l=>exact Sim.ite (λ_=>.fail) λ_=>.ret rfl|_=>exact .fail
 |some off=>cases t with
  |ptr p vs=>
  refine(iV p _ vs).bind λ_=>Sim.ite (λh=>?_) λ_=>.fail;rw[oIP (by rw[<- GK];exact h),<- UW];refine(lN _).bind λt=>Sim.ite (λho=>?_) λho=>?_;obtain⟨c,hc⟩:=pN ho;have hpk:=nv (Y:=Y) (X.shq fX p off) t;rw[hc]at hpk;rw[hc];exact hpk.bind λt'=>(j9 false t').bind λ_=>.ret rfl;cases t with
   |d t y=>
   cases t with
    |row o t=>cases o<;>first|exact .ret rfl|simp[X.isOwX,X.isOwT]at ho
    |nilr o=>cases o<;>first|exact .ret rfl|simp[X.isOwX,X.isOwT]at ho
    |_=>exact .ret rfl
   |_=>exact .fail
  |d t y=>cases t with|row o t=>cases o<;>exact .fail|nilr o=>cases o<;>exact .fail|_=>exact .fail
  |_=>exact .fail
theorem Li:∀l:a_,Sim (Y:=Y) (X.shrs fX l) (shrs l) id:=by intro l;induction l with|nil=>exact .ret rfl|cons x l ih=>exact(Qz x).bind λ_=>ih
theorem RF{n:Nat}{t:XV den}{k:XV den->Option Y}{y:Y}(h:X.halfX fX n t k=some y):∃t',er t'=er t/\k t'=some y:=by
 unfold X.halfX at h;split at h;rename_i t xs;split at h;rename_i hs;split at h;rename_i hc;refine⟨_,?_,h⟩;have h':=iB (NQ t);show TV.ow (lB (X.upT t) 0 (cast (iB hs) xs))=.ow (List.map (enc t) xs);have e:(cast (iB hs) xs:List (den (X.upT t)))=List.map (cast h') (xs:List (den t)):=GV h' _ xs;rw[e,M8,oPM];congr 1;exact List.map_congr_left λx _=>Ue hc.2 h' x;cases h;cases h;rename_i t xs m;split at h;have h2:fX.br (Nat.beq m (List.length xs)) _ none=some y:=h;cases hc:Nat.beq m (List.length xs)with|false=>rw[hc]at h2;cases h2|true=>rw[hc]at h2;have e:=Nat.eq_of_beq_eq_true hc;subst e;refine⟨_,?_,h2⟩;show TV.ow (List.map (enc t) xs)=.ow (lB t (List.length xs) xs);rw[PF]
 cases h;split at h;grind;cases h;cases h
theorem QQ(r o n:Nat):Sim (Y:=Y) (X.halfM fX r o n) (.ret ()) id:=by
 intro σ k y hk;unfold X.halfM at hk;split at hk;case h_2=>cases hk
 rename_i l hl;split at hk;case isFalse=>cases hk
 have ⟨t',e,hk⟩:=RF hk;refine⟨(),⟨σ.tm,iP σ.ce r (l.set o t'),σ.vr,σ.lg⟩,?_,⟨λx h=>by simp[SP.foot]at h,λx h=>by simp[SP.foot]at h,λ_ h=>h,λ_ h=>h⟩,hk⟩;show some ((),erS σ)=some ((),_);congr 2;unfold erS erC;congr 1;rw[<- ry,xg,e,yc];have hs:(erL l).set o ((erL l).getD o .dead)=erL l:=by
  apply oEG;intro j;rw[List.getElem?_set];split
  ·rename_i h;split
   all_goals simp_all
  rfl
 rw[hs];exact(C4 (by show gG (erC σ.ce) r=some (erL l);have:=Af;rw[show erC σ.ce=(erS σ).ce from rfl,this,hl];rfl)).symm
theorem Tk(i n:Nat):Sim (Y:=Y) (X.frzM fX i n) (Vo i n) id:=by refine Sim.ite (λh=>?_) λh=>?_;unfold Vo;rw[oIP h];refine Sim.ite (λ_=>?_) λ_=>QQ _ _ n;intro σ k y hk;unfold X.ownM at hk;split at hk;split at hk;exact⟨(),σ,rfl,sf.refl σ,hk⟩;cases hk;cases hk;exact .fail
theorem Tw{i:Nat}{σ:XS den}{u:HL den []}:∀{L:List JE}{H:JE}{h:HL den (lvS H.s)},X.selH fX i σ u L=some ⟨H,h⟩->X.convS fX H.s σ u=some h:=by intro L;induction L with|nil=>intro H h hs;cases hs|cons H0 L ih=>intro H h hs;unfold X.selH at hs;grind
theorem Ev{Z:Type}{outs:List (nM×Shs)}{i:Nat}{h:HL den (E7 (outs.map λx=>lvS x.2) i)}{o:EK (outs.map λx=>lvS x.2)}{x:nM×XS den}(K:nM×XS den->Option Z)(hm:zn (outs.map λx=>lvS x.2) i h=some o)(hf:Ae outs i h=some x):(o7 (outs.map λx=>lvS x.2) o λj ho=>X.onOut fX (Ae outs j ho) K)=K x:=by rw[Ew _ hm,hf];rfl
theorem QF{F:iF}{C:X.Cfg}(YW:∀c∈C.TB,yR F c)(u:HL den []){N:Nat}(hN:NN<=N):∀(tc:lU)(i:Nat){Y:Type}(σ:XS den)(k:nM->XS den->Option Y)(y:Y),X.runC fX C u tc i σ k=some y->∃e σ',runC (evCall C.E F) N tc (erS σ)=some (e,erS σ')/\k e σ'=some y:=by
 intro tc;induction tc with
 |skip=>intro i Y σ k y h;exact⟨.normal,σ,rfl,h⟩|frz j n a ih=>intro i Y σ k y h;obtain⟨_,σ1,r1,_,h1⟩:=Tk j n σ _ y h;split at h1;rename_i hok;obtain⟨e,σ2,r2,h2⟩:=ih _ _ k y h1;refine⟨e,σ2,?_,h2⟩;simp only[runC];rw[r1];simp only[oBS];rw[<- K3 hok];exact r2;cases h1|nrm pers=>intro i Y σ k y h;have h:(if X.okS σ then k .normal (X.norm σ pers)else none)=some y:=h;split at h;rename_i hok;exact⟨.normal,X.norm σ pers,by rw[E8 hok];rfl,h⟩;cases h|reg id draw ops pers=>intro i Y σ k y h;cases draw with|none=>have h:X.spOps fX C u ops σ (λ_ σ'=>if X.okS σ' then k .normal (X.norm σ' pers)else none)=some y:=h;obtain⟨σ1,r1,h1⟩:=Qv YW u ops h;split at h1;rename_i hok;refine⟨.normal,X.norm σ1 pers,?_,h1⟩;simp only[runC];rw[r1,E8 hok];rfl;cases h1|some deps=>obtain⟨fs,gs,σ1,r1,le,h1⟩:=Ta YW u ops _ h;split at h1;rename_i hok;simp only[oBA]at hok;rw[J5]at hok;refine⟨.normal,X.norm σ1 pers,?_,h1⟩;simp only[runC];rw[r1,E8 hok.2];simp only[oBS];rw[oIP (HM le hok.1)];cases h1
 |seq a b ZF ZC=>
 intro i Y σ k y h;have ZS:∀(e:nM)(σ1:XS den),runC (evCall C.E F) N a (erS σ)=some (e,erS σ1)->(match e with|.normal=>X.runC fX C u b (i+1+X.marks a) σ1 k|e=>k e σ1)=some y->∃e σ',runC (evCall C.E F) N (.seq a b) (erS σ)=some (e,erS σ')/\k e σ'=some y:=by intro e σ1 r1 h1;simp only[runC];rw[r1];simp only[oBS];cases e with|normal=>exact ZC _ σ1 k y h1|exit j=>exact⟨_,σ1,rfl,h1⟩|ret=>exact⟨_,σ1,rfl,h1⟩
 unfold X.runC at h;cases hs:X.selJ i C.HL with|none=>rw[hs]at h;obtain⟨e,σ1,r1,h1⟩:=ZF _ σ _ y h;exact ZS e σ1 r1 h1|some H=>rw[hs]at h;obtain⟨o,h1,h2⟩:=gg (show(X.runC fX C u a (i+1) σ _:Option _).bind _=some y from h);obtain⟨e,σ1,r1,h3⟩:=ZF _ σ _ o h1;cases hi:X.injE fX e σ1 u H.outs with|none=>rw[hi]at h3;cases h3|some x=>rw[hi]at h3;obtain⟨j,ho⟩:=x;have h3:zn (H.outs.map λx=>lvS x.2) j ho=some o:=h3;obtain⟨x,hf,he,hσ⟩:=Pz hi;rw[Ev _ h3 hf]at h2;rw[<- hσ]at r1;rw[<- he]at r1;exact ZS x.1 x.2 r1 h2
 |cond c a b ZF ZC=>
 intro i Y σ k y h;obtain⟨t,σ1,r1,e1,_,h1⟩:=Bc h;cases t with
  |d t x=>cases t with
   |bool=>
   have hkn:erS (X.knownO fX c x σ)=erS σ:=by
    cases c with
    |t j=>
    have hj:X.tOf σ j=.d .bool x:=by
     have h9:X.condX fX (X.runC fX C u a i (X.knownO fX (.t j) true σ) k) (X.runC fX C u b (i+X.marks a) (X.knownO fX (.t j) false σ) k) (X.tOf σ j)=some y:=h;have r1:(some ((erS σ).t j,erS σ):Option (TV×St))=some (er (.d .bool x),erS σ):=r1;injection r1 with r1
     injection r1 with r1 _
     rw[RT]at r1;cases ht:X.tOf σ j with
     |d t2 z=>cases t2 with
      |bool=>rw[ht]at r1;injection r1 with r1;injection r1 with r1;rw[show z=x from r1]
      |_=>rw[ht]at h9;cases h9
     |_=>rw[ht]at h9;cases h9
    exact LE hj
    |_=>rfl
   have r1:(opd c).run (erS σ)=some (.v (.bool x),erS σ):=r1;simp only[runC];rw[r1];simp only[oBS];cases x with|true=>rw[<- hkn];exact ZF _ _ k y h1|false=>rw[<- hkn];exact ZC _ _ k y h1
   |_=>cases h1
  |_=>cases h1
 |block id b ih=>intro i Y σ k y h;unfold X.runC at h;obtain⟨e,σ1,r1,h1⟩:=ih _ σ _ y h;simp only[runC];rw[r1];simp only[oBS];grind|loop b ih=>
 intro i Y σ k y h;unfold X.runC at h;cases hs:X.selH fX i σ u C.HL with
  |none=>rw[hs]at h;cases h|some x=>
  obtain⟨H,h0⟩:=x;rw[hs]at h;have hconv:=GO (Tw hs);obtain⟨o,h1,h2⟩:=gg (show(gc _ NN h0).bind _=some y from h);have key:∀(n:Nat)(hd:HL den (lvS H.s))(o:EK (H.outs.map λx=>lvS x.2)),gc (λh=>X.runC fX C u b (i+1) (KK H.s h) (X.roundK fX H u)) n hd=some o->∀N',n<=N'->∃x j ho,T4 (runC (evCall C.E F) N b) N' (erS (KK H.s hd))=some (x.1,erS x.2)/\zn (H.outs.map λx=>lvS x.2) j ho=some o/\Ae H.outs j ho=some x:=by
   intro n;induction n with
   |zero=>intro hd o h;cases h|succ n ihn=>
   intro hd o h N' Yh;obtain⟨N',rfl⟩:∃N'',N'=N''+1:=⟨N'-1,by omega⟩;obtain⟨z,hz,Xm⟩:=gg (show(X.runC fX C u b (i+1) (KK H.s hd) _:Option _).bind _=some o from h);obtain⟨e,σ1,r1,h3⟩:=ih _ _ _ z hz;simp only[T4];rw[r1];simp only[oBS];have Y5:∀e':nM,(∀s:Option (HL den (lvS H.s)⊕EK (H.outs.map λx=>lvS x.2)),s=some z->s=X.onOut fX (X.injE fX e' σ1 u H.outs) (λx=>fX.exitL (lvS H.s) (H.outs.map λx=>lvS x.2) x.1 x.2)->∃x j ho,(some (e',erS σ1):Option (nM×St))=some (x.1,erS x.2)/\zn (H.outs.map λx=>lvS x.2) j ho=some o/\Ae H.outs j ho=some x):=by intro e' s hs1 YV;rw[hs1]at YV;cases hi:X.injE fX e' σ1 u H.outs with|none=>rw[hi]at YV;cases YV|some x=>rw[hi]at YV;obtain⟨j,ho⟩:=x;obtain⟨t,Yj,YP⟩:=kH (show(zn (H.outs.map λx=>lvS x.2) j ho).map Sum.inr=some z from YV.symm);subst YP;obtain⟨x,hf,he,hσ⟩:=Pz hi;refine⟨x,j,ho,by rw[he,hσ],?_,hf⟩;have:some t=some o:=Xm;rw[<- this];exact Yj
   cases e with
   |normal=>
   have h3:X.onOut fX (X.convS fX H.s σ1 u) (fX.next (lvS H.s) (H.outs.map λx=>lvS x.2))=some z:=h3;cases hc:X.convS fX H.s σ1 u with
    |none=>rw[hc]at h3;cases h3|some h'=>
    rw[hc]at h3;have h3:some (Sum.inl h')=some z:=h3;injection h3 with h3
    subst h3;rw[<- GO hc];exact ihn h' o Xm N' (by omega)
   |exit j=>exact Y5 (.exit j) _ h3 rfl|ret=>exact Y5 .ret _ h3 rfl
  obtain⟨x,j,ho,r1,hm,hf⟩:=key NN h0 o h1 N hN;rw[Ev _ hm hf]at h2;refine⟨x.1,x.2,?_,h2⟩;simp only[runC];rw[<- hconv];exact r1
 |exit id=>intro i Y σ k y h;exact⟨.exit id,σ,rfl,h⟩|ret=>intro i Y σ k y h;exact⟨.ret,σ,rfl,h⟩|pre l a ih=>intro i Y σ k y h;obtain⟨_,σ1,r1,_,h1⟩:=Li l σ _ y h;split at h1;rename_i hok;obtain⟨e,σ2,r2,h2⟩:=ih _ _ k y h1;refine⟨e,σ2,?_,h2⟩;simp only[runC];rw[r1];simp only[oBS];rw[<- K3 hok];exact r2;cases h1|post a l ih=>intro i Y σ k y h;obtain⟨e,σ1,r1,h1⟩:=ih _ _ _ y h;obtain⟨_,σ2,r2,_,h2⟩:=Li l σ1 _ y h1;split at h2;rename_i hok;refine⟨e,X.anew σ2,?_,h2⟩;simp only[runC];rw[r1];simp only[oBS];rw[r2];simp only[oBS];rw[K3 hok];cases h2
end
section
variable {α β γ δ Y:Type}
theorem Ef(np:Nat)(t:XV den):Sim (Y:=Y) (X.takeR1 fX np t) (takeR1 np (er t)) er:=by
 have key:Sim (Y:=Y) (X.take1 fX true t) (take1 true (er t)) er:=j9 true t;cases t with
 |pk p vs=>exact j9 _ (.pk p vs)|d t y=>cases t with|row o t=>cases o<;>exact key|nilr o=>cases o<;>exact key|_=>exact key
 |_=>exact key
theorem Ml(np:Nat):∀l:List (XV den),Sim (Y:=Y) (X.takeRL fX np l) (takeRL np (erL l)) erL:=by intro l;induction l with|nil=>exact .ret rfl|cons t l ih=>exact(Ef np t).bind λt'=>ih.bind λr'=>.ret rfl
theorem yY(np:Nat)(t:XV den):Sim (Y:=Y) (X.takeRV fX np t) (takeRV np (er t)) λx=>(erL x.1,x.2):=by
 have one:∀t:XV den,Sim (Y:=Y) (X.bind (X.takeR1 fX np t) λt'=>X.ret ([t'],RSh.one)) ((takeR1 np (er t)).bind λt'=>.ret ([t'],.one)) λx=>(erL x.1,x.2):=λt=>(Ef np t).bind λt'=>.ret rfl;have key:=one t;cases t with
 |agg l=>exact(Ml np l).bind λl'=>.ret (by simp[iO])|d t y=>cases t with|row o t=>cases o<;>exact key|nilr o=>cases o<;>exact key|_=>exact key
 |_=>exact key
theorem QI(np:Nat)(q:TRs):Sim (Y:=Y) (X.res1 fX np q) (res1 np q) λx=>(erL x.1,x.2):=by
 cases q with
 |tmp t=>exact Sim.rdT λtv=>yY np tv|cell t n=>
 refine Sim.rdT λtv=>?_;cases tv with
 |ptr p vs=>refine(iV p _ vs).bind λ_=>?_;cases n with|none=>exact(lN p).bind λt=>(nv p t).bind λt'=>yY np t'|some n=>exact(Hq p n).bind λl=>yY np (.agg l)
 |d t y=>cases t with|row o t=>cases o<;>exact .fail|nilr o=>cases o<;>exact .fail|_=>exact .fail
 |_=>exact .fail
theorem QG(np:Nat):∀l:Q_,Sim (Y:=Y) (X.resL fX np l) (resL np l) λx=>(erL x.1,x.2):=by intro l;induction l with|nil=>exact .ret rfl|cons q l ih=>exact(QI np q).bind λx=>ih.bind λy=>.ret (by simp[r7])
theorem O4(l:List (XV den)):onesOf (erL l)=X.onesOf l:=by induction l with|nil=>rfl|cons t l ih=>simp[erL,onesOf,X.onesOf,ih]
theorem Mq:∀l:Q_,Sim (Y:=Y) (X.flatsR fX l) (flatsR l) erL:=by
 intro l;induction l with
 |nil=>exact .ret rfl|cons q l ih=>cases q with
  |cell t n=>exact .fail|tmp t=>
  refine Sim.rdT λtv=>Sim.ite (λhc=>?_) λ_=>.fail;have h1:FM (er tv)=true:=by have:=LS (l:=[tv]) (by simp_all);simpa[erL]using this
  rw[oIP h1];exact ih.bind λl=>.ret rfl
theorem QH(np:Nat)(l:Q_):Sim (Y:=Y) (X.resF fX np l) (resF np l) λx=>(erL x.1,x.2):=by
 have base:=QG (Y:=Y) np l;cases l with
 |nil=>exact base|cons q r=>cases q with
  |cell t n=>exact base|tmp t=>
  refine Sim.rdT λtv=>?_;cases tv with
  |ptr p vs=>exact(iV p _ vs).bind λ_=>(Mq r).bind λl=>.ret (by simp[O4];rfl)|d ty y=>cases ty with|row o ty=>cases o<;>exact base|nilr o=>cases o<;>exact base|_=>exact base
  |_=>exact base
theorem Ps(t:XV den):(∃p vs,t=.ptr p vs)\/(X.isPtrX t=false/\∀p vs,er t≠.ptr p vs):=by
 cases t with
 |ptr p vs=>exact .inl ⟨p,vs,rfl⟩|d t y=>cases t with|row o t=>cases o<;>exact .inr ⟨rfl,by simp[er,er1]⟩|nilr o=>cases o<;>exact .inr ⟨rfl,by simp[er,er1]⟩|_=>exact .inr ⟨rfl,by simp[er,er1]⟩
 |gap t x i o=>exact .inr ⟨rfl,λp vs h=>by cases h⟩|half t x m=>exact .inr ⟨rfl,λp vs h=>by cases h⟩|_=>exact .inr ⟨rfl,by simp[er]⟩
theorem Rz{t:XV den}(h:X.isShX t=true):∃c,er t=.sl c:=by
 cases t with
 |d t y=>cases t with
  |row o t=>cases o with|false=>exact⟨_,rfl⟩|true=>cases h
  |nilr o=>cases o with|false=>exact⟨_,rfl⟩|true=>cases h
  |_=>cases h
 |_=>cases h
theorem MG{pp:N_}:∀{l:List (XV den)}{i:Nat},X.ptrsInX pp i l=true->rf pp i (erL l)=true:=by intro l;induction l with|nil=>intro i _;rfl|cons t l ih=>intro i h;simp only[X.ptrsInX,oBA]at h;have ⟨⟨h0,hs⟩,hr⟩:=h;rcases Ps t with⟨p,vs,rfl⟩|⟨h1,h2⟩;show(pp.contains i&&rf pp (i+1) (erL l))=true;rw[ih hr,Bool.and_true];simpa[X.isPtrX]using h0;show rf pp i (er t::erL l)=true;rw[h1,Bool.false_or]at hs;cases hsh:X.isShX t with|true=>have ⟨c,hc⟩:=Rz hsh;rw[hc];exact ih hr|false=>rw[hsh,Bool.false_or]at hs;cases he:er t with|ptr p vs=>simp_all|sl c=>exact ih hr|_=>show(!pp.contains (1000+i)&&rf pp (i+1) (erL l))=true;rw[hs,ih hr];rfl
theorem J6(l:List (XV den)):∀i,(jk i l).map (λx=>(x.1,er x.2))=jk i (erL l):=by induction l with|nil=>intro i;rfl|cons t l ih=>intro i;simp[jk,erL,ih]
theorem TU(kq:p_)(vals:List (XV den))(pts:List (Nat×List (XV den))):erS (X.mkSt kq vals pts)=Dd kq (erL vals) (erC pts):=by unfold X.mkSt Dd erS;simp only[J6]
theorem Q7(σ:XS den)(pts:List (Nat×List (XV den))):erC (X.ptsOf σ pts)=(erC pts).map λx=>(x.1,(gG (erS σ).ce x.1).getD []):=by induction pts with|nil=>rfl|cons x pts ih=>show(x.1,erL ((gG σ.ce x.1).getD []))::erC (X.ptsOf σ pts)=(x.1,(gG (erS σ).ce x.1).getD [])::_;rw[ih,Af];cases gG σ.ce x.1<;>rfl
theorem PP(a b:List (Nat×List (XV den))):erC (a++b)=erC a++erC b:=by unfold erC;rw[List.map_append]
theorem Vg(pp:N_):erC (X.kpX (D:=den) pp)=kpE pp:=by unfold erC X.kpX kpE;rw[oPM];rfl
theorem Vh(kq:p_)(σ:XS den):erC (X.kcX kq σ)=kcE kq (erS σ):=by unfold erC X.kcX kcE;rw[oPM];refine List.map_congr_left λq _=>?_;show(q.1,erL (List.replicate (q.2+1) XV.dead))=_;rw[kZ,List.map_replicate];rfl
theorem TA{F:iF}{C:X.Cfg}(YW:∀c∈C.TB,yR F c)(u:HL den []){N:Nat}(hN:NN<=N){tf:TFn}{outs:List XO}{vals:List (XV den)}{pts:List (Nat×List (XV den))}{o:EK (outs.map lvO)}(h:X.runT fX C u tf outs vals pts=some o):∃x,o7 (outs.map lvO) o (λi ho=>pR outs i ho)=some x/\runT C.E F N tf (erL vals) (erC pts)=some (⟨erL x.1,x.2.1⟩,erC x.2.2):=by
 unfold X.runT at h;split at h;case isFalse=>cases h
 rename_i hc;obtain⟨e,σ1,r1,h1⟩:=QF YW u hN tf.body 0 _ _ o h;have key:X.resF fX tf.np tf.res σ1 (λy σ'=>X.onOut fX (X.injO fX y.1 y.2 (X.ptsOf σ' pts++(X.kpX tf.pp++X.kcX (Ke tf.pp) σ')) u outs) λx=>fX.out (outs.map lvO) x.1 x.2)=some o ->∃x,o7 (outs.map lvO) o (λi ho=>pR outs i ho)=some x/\(((resF tf.np tf.res).run (erS σ1)).bind λy=>some ((⟨y.1.1,y.1.2⟩:Ma),((erC pts).map λx=>(x.1,(gG y.2.ce x.1).getD []))++(kpE tf.pp++kcE (Ke tf.pp) y.2)))=some (⟨erL x.1,x.2.1⟩,erC x.2.2):=by intro h2;obtain⟨y,σ2,r2,_,h3⟩:=QH tf.np tf.res σ1 _ o h2;cases hi:X.injO fX y.1 y.2 (X.ptsOf σ2 pts++(X.kpX tf.pp++X.kcX (Ke tf.pp) σ2)) u outs with|none=>rw[hi]at h3;cases h3|some z=>rw[hi]at h3;obtain⟨i,ho⟩:=z;obtain⟨x,hf,e1,e2,e3⟩:=T6 hi;refine⟨x,?_,?_⟩;rw[Ew _ (show zn (outs.map lvO) i ho=some o from h3)];exact hf;rw[r2];simp only[oBS];rw[e1,e2,e3,PP,PP,Q7,Vg,Vh]
 have ZY:(erL vals).length=tf.np/\(rf tf.pp 0 (erL vals)&&(!tf.pp.contains 1000||(erC pts).isEmpty))=true:=by have h2:=hc.2;rw[oBA]at h2;refine⟨by rw[iO];exact hc.1,?_⟩;rw[MG h2.1,Bool.true_and];have h3:=h2.2;cases pts with|nil=>simp[erC]|cons x pts=>simpa[erC]using h3
 unfold runT;rw[oIP ZY,<- TU,r1];simp only[oBS];cases e with|exit j=>cases h1|normal=>exact key h1|ret=>exact key h1
end
theorem RX{E:Env}{T:FuncId->y_}{B F:iF}{N:Nat}(hN:NN<=N){C:X.Cfg}(hE:C.E=E)(YW:∀c∈C.TB,yR F c){c:Ctr}{tf:TFn}(hT:T c.f=some tf) (hg:∀h,X.runT fX C () tf c.outs (lO c.ins _ h).1 (xZ c.pts [] (lO c.ins _ h).2).1=c.g h):yR (Mk E T B F N) c:=by intro h o x ho hx;rw[Mj hT];rw[<- hg h]at ho;have ⟨x',h1,h2⟩:=TA YW () hN ho;simp_all
def Lvl(E:Env)(T:FuncId->y_)(B:iF)(n:Nat)(c:Ctr):Prop:=∀k,n<=k->yR (runF E T B (NN+k)) c
def Md(E:Env)(T:FuncId->y_)(B:iF)(n:Nat):B_->Prop| []=>True|c::r=>Lvl E T B n c/\Md E T B n r
theorem Lvl.mono{E:Env}{T:FuncId->y_}{B:iF}{n m:Nat}{c:Ctr}(h:Lvl E T B n c)(hm:n<=m):Lvl E T B m c:=λk hk=>h k (Nat.le_trans hm hk)
theorem Md.get{E:Env}{T:FuncId->y_}{B:iF}{n:Nat}:∀{l:B_},Md E T B n l->∀c∈l,Lvl E T B n c:=by intro l;induction l with|nil=>simp_all|cons x l ih=>intro h c hc;rcases oMC.1 hc with rfl|hc;exact h.1;exact ih h.2 c hc
theorem V4{E:Env}{T:FuncId->y_}{B:iF}{n:Nat}{C:X.Cfg}(hE:C.E=E)(YW:Md E T B n C.TB){c:Ctr}{tf:TFn}(hT:T c.f=some tf) (hg:∀h,X.runT fX C () tf c.outs (lO c.ins _ h).1 (xZ c.pts [] (lO c.ins _ h).2).1=c.g h):Lvl E T B (n+1) c:=by intro k hk;obtain⟨k,rfl⟩:∃k',k=k'+1:=⟨k-1,by omega⟩;exact RX (F:=runF E T B (NN+k)) (Nat.le_add_right _ _) hE (λc hc=>YW.get c hc k (by omega)) hT hg
theorem Nq{P:Program}{H:Nat->a_}{f:FuncId}{tf:TFn}(h:zA P H f=some tf):∃fn,P.funcs[f]?=some fn/\tf.np<=fn.params.size+fn.nfree/\tf.nt=fn.ntmps:=by
 unfold zA at h;split at h;case h_2=>simp at h
 split at h;case h_2=>simp at h
 split at h;rename_i tf' Y6;have ⟨_,g2,g3,_⟩:=Ai Y6;simp_all;simp only at h;split at h;injection h with h
 subst h;simp_all;simp at h
theorem S8{P:Program}(H:FuncId->Nat->a_)(ZK:(P.funcs.all λfn=>decide (fn.params.size+fn.nfree<=fn.ntmps) && !(fn.name== "runtime.NumGoroutine"))=true):Qa P λf=>zA P (H f) f:=by refine Qq λf tf h=>?_;have ⟨fn,hf,e1,e2⟩:=Nq h;have ⟨hlt,he⟩:=Array.getElem?_eq_some_iff.1 hf;have:=Array.all_eq_true.1 ZK f hlt;rw[he]at this;simp at this;refine⟨⟨H f,h⟩,by omega,λfn' hf'=>?_⟩;simp_all
def WI:TFn:=⟨0,[],0,.skip,[]⟩
theorem Wa{o:y_}(h:o.isSome=true):o=some (o.getD WI):=by cases o with|none=>simp at h|some x=>rfl
def WH(P:Program)(f:FuncId):List x_:=match P.funcs[f]? with
 |some fn=>fn.params.toList.map λt=>match P.underlying t with|some (.pointer e)=>EQ P e|_=>none
 |none=>[]
def noB:iF:=λ_ _ _=>none
theorem noB_ok{P:Program}:nI P noB:=λf vals pts res Zs h=>by simp[noB]at h
abbrev I64:CT:=.int .i64
def w64(x:Int):Int:=IntKind.wrap .i64 x
def wk(k:IntKind)(x:Int):Int:=IntKind.wrap k x
def By(s:ByteArray):Int:=(s.size:Int)
def SC(s:ByteArray):Bool:=decide (s.size<4294967296)
def bytes(l:N_):ByteArray:=⟨(l.map UInt8.ofNat).toArray⟩
end Go.Proofs.YtabfnmgabblofaaGreat
namespace Go.Proofs.YtabfnmgabblofaaGreat
open Go.RowKit
set_option maxRecDepth 100000
noncomputable section
abbrev KCe:CT:=(.pair (.int .u8) (.int .u16))
abbrev KCn:CT:=(.pair (.int .u8) (.pair (.int .u16) (.pair I64 I64)))
abbrev KIn:CT:=(.pair I64 (.pair I64 (.pair I64 (.pair I64 I64))))
abbrev KOp:CT:=(.pair I64 (.pair I64 .bool))
abbrev WF:CT:=(.pair I64 (.pair .bool (.row false KCe)))
abbrev nL:CT:=(.pair I64 (.pair (.row false KCe) (.pair I64 (.pair I64 (.pair I64 (.pair I64 (.pair I64 (.int .u16))))))))
abbrev WZ:CT:=(.pair I64 (.pair I64 (.row false KCn)))
abbrev vP:CT:=(.pair I64 (.pair I64 (.pair I64 (.pair I64 (.pair I64 (.pair I64 (.pair (.int .u16) (.row false KCn))))))))
abbrev qJ:CT:=(.pair I64 (.pair I64 (.pair I64 (.pair I64 (.pair I64 (.pair I64 (.pair I64 (.pair I64 (.pair I64 (.pair (.row false KCn) (.pair (.row false KCn) (.pair (.int .u8) (.pair (.int .u16) (.pair I64 (.pair I64 (.pair (.row false KCn) (.pair I64 .bool)))))))))))))))))
abbrev Su:CT:=(.pair I64 (.pair .bool (.row true KCe)))
abbrev Ss:CT:=(.pair I64 (.pair (.row true KCe) (.pair I64 (.pair I64 (.pair I64 (.pair I64 (.pair I64 (.int .u16))))))))
abbrev JF:CT:=(.pair I64 (.pair I64 (.row true KCn)))
abbrev Mc:CT:=(.pair I64 (.pair I64 (.pair I64 (.pair I64 (.pair I64 (.pair I64 (.pair (.int .u16) (.row true KCn))))))))
abbrev Qd:CT:=(.pair I64 (.pair I64 (.pair I64 (.pair I64 (.pair I64 (.pair I64 (.pair I64 (.pair I64 (.pair I64 (.pair (.row true KCn) (.pair (.row true KCn) (.pair (.int .u8) (.pair (.int .u16) (.pair I64 (.pair I64 (.pair (.row true KCn) (.pair I64 .bool)))))))))))))))))
abbrev gP:CT:=(.row false KIn)
abbrev gp:CT:=(.row false KCn)
abbrev RW:CT:=(.row false (.int .u16))
abbrev RI:CT:=(.row false I64)
abbrev gT:CT:=(.row false KCe)
abbrev iC:CT:=(.row false WF)
abbrev iz:CT:=(.row true Su)
abbrev mn:CT:=(.row false nL)
abbrev qF:CT:=(.row true Ss)
abbrev jm:CT:=(.row false KOp)
abbrev lf:CT:=(.row false WZ)
abbrev UF:CT:=(.row false qJ)
abbrev DCe:Type:=(Int×Int)
abbrev DCn:Type:=(Int×Int×Int×Int)
abbrev DIn:Type:=(Int×Int×Int×Int×Int)
abbrev DOp:Type:=(Int×Int×Bool)
abbrev C_:=List DCe
abbrev DLn:Type:=(Int×Bool×C_)
abbrev DTh:Type:=(Int×C_×Int×Int×Int×Int×Int×Int)
abbrev D_:=List DCn
abbrev DOu:Type:=(Int×Int×D_)
abbrev DTs:Type:=(Int×Int×Int×Int×Int×Int×Int×D_)
abbrev DEn:Type:=(Int×Int×Int×Int×Int×Int×Int×Int×Int×D_×D_×Int×Int×Int×Int×D_×Int×Bool)
def HH(f i:Nat):a_:=if f=136 then(if i=1000011 then[(11,some 27)]else if i=1000005 then[(2,some 27)]else[])else if f=183 then(if i=1000006 then[(8,some 1)]else if i=1000014 then[(8,some 1)]else[])else if f=44 then(if i=5000001 then[(4004,none)]else[])else if f=68 then(if i=4000002 then[(3,some 1002)]else if i=4000007 then[(3,some 1003)]else[])else if f=137 then(if i=1000000 then[(8,some 1)]else[])else if f=106 then(if i=1000007 then[(17,some 1)]else[])else if f=4 then(if i=1 then[(10,some 1),(11,some 1)]else[])else if f=23 then(if i=4000002 then[(5,some 2004)]else if i=4000005 then[(5,some 2004)]else if i=0 then[(8,some 801004)]else[])else if f=122 then(if i=0 then[(8,none)]else[])else if f=92 then(if i=2 then[(3,some 1)]else if i=3 then[(3,some 0)]else[])else if f=129 then(if i=0 then[(8,some 0),(8,some 1),(8,some 2),(8,some 3),(8,some 4)]else[])else if f=38 then(if i=0 then[(4,some 0),(4,some 2),(4,some 3)]else[])else if f=93 then(if i=1000006 then[(5,some 1)]else if i=0 then[(6,some 0),(6,some 1),(6,some 2),(6,some 3),(6,some 5),(6,some 6)]else[])else if f=152 then(if i=2000067 then[(2,none),(4,none),(8,none),(11,none),(12,none),(0,some 10),(0,some 18),(0,some 24)]else if i=0 then[(8,some 0)]else[])else if f=134 then(if i=1000026 then[(2,some 1),(3,some 1)]else if i=1000012 then[(7,none)]else if i=0 then[(8,some 0)]else[])else if f=96 then(if i=6000000 then[(0,none)]else if i=1000011 then[(5,none)]else if i=1000014 then[(7,none)]else[])else if f=156 then(if i=3000008 then[(9,some 0),(9,some 1)]else if i=0 then[(6,some 0),(6,some 1)]else[])else if f=172 then(if i=0 then[(4,some 0),(4,some 1),(4,some 2),(4,some 3),(4,some 4),(4,some 5),(5,some 4)]else[])else if f=157 then(if i=0 then[(0,some 14),(0,some 15),(4,some 4)]else[])else if f=158 then(if i=4000002 then[(5,some 2004)]else if i=4000005 then[(5,some 2004)]else if i=0 then[(8,some 801004)]else if i=1000007 then[(17,none)]else[])else if f=159 then(if i=1000002 then[(9,none)]else[])else if f=160 then(if i=1000004 then[(4,some 2)]else if i=3 then[(6,some 0),(6,some 1)]else[])else if f=57 then(if i=1000006 then[(3,some 7)]else if i=4000009 then[(4,some 2007)]else if i=3000003 then[(4,some 801007)]else if i=1 then[(4,some 0),(4,some 1),(4,some 2),(4,some 3),(4,some 5),(4,some 6),(4,some 8),(4,some 9),(4,some 10),(4,some 11),(4,some 12),(4,some 13),(4,some 14),(4,some 15)]else[])else if f=13 then(if i=0 then[(6,some 0)]else[])else if f=24 then(if i=1000004 then[(3,some 7)]else if i=1000002 then[(3,some 1)]else if i=1000026 then[(4,some 1)]else if i=0 then[(3,some 801004),(3,some 2),(3,some 3)]else[])else if f=16 then(if i=1000012 then[(6,some 14),(13,some 1001011)]else if i=0 then[(8,some 4)]else if i=1000006 then[(11,none)]else[])else if f=22 then(if i=0 then[(8,some 4)]else if i=1000007 then[(11,none)]else[])else[]
noncomputable def TT (f:FuncId):y_:=zA Tryz.prog (HH f) f
noncomputable def E0:Env:={ box:=λf=>if f=8 then some (1,[.arg 0,.val (.int .i64 0)])else none,ps:=λf=>WH Tryz.prog f }
theorem tt_ok:Qa Tryz.prog TT:=S8 HH (by kernel_rfl)
abbrev qE:Shs:=⟨[],[],[],([],[])⟩
abbrev qS(s:List (Nat×Sh))(c:List (Nat×T_)):Shs:=⟨s,c,[],([],[])⟩
abbrev N1:CT:=.nilr true
abbrev N0:CT:=.nilr false
abbrev CW:CT:=.int .u16
abbrev CB:CT:=.int .u8
abbrev uL(l:R_):T_:=l.map fun c=>.d c ()
abbrev pP(t r:Nat):Nat×Sh:=(t,.ptr ⟨r,0,[]⟩ [0])
abbrev sP(t:Nat)(c:CT):Nat×Sh:=(t,.d c ())
abbrev Lk(n:Nat)(c:Ctr):Prop:=Lvl E0 TT noB n c
theorem aN{m:Nat}:Md E0 TT noB m []:=trivial
theorem aC{n m:Nat}{c:Ctr}{l:B_}(h:Lk n c)(r:Md E0 TT noB m l)(hm:n≤m:=by decide):Md E0 TT noB m (c::l):=⟨h.mono hm,r⟩
abbrev lx(i n:Nat)(s:List (Nat×Sh))(c:List (Nat×T_))(b:Nat):JE:=⟨i,n,⟨s,c,[],([],[])⟩,[(.exit 0,⟨s++[(b,.d .bool ())],c,[],([],[])⟩)]⟩
abbrev LI:Type:=M_
abbrev j_:=List M_
abbrev LLI:Type:=j_
abbrev LDCe:Type:=C_
abbrev LDCn:Type:=D_
abbrev F_:=List DIn
abbrev LDIn:Type:=F_
abbrev H_:=List DOp
abbrev LDOp:Type:=H_
abbrev G_:=List DLn
abbrev LDLn:Type:=G_
abbrev J_:=List DTh
abbrev LDTh:Type:=J_
abbrev I_:=List DOu
abbrev LDOu:Type:=I_
abbrev K_:=List DTs
abbrev LDTs:Type:=K_
abbrev E_:=List DEn
abbrev LDEn:Type:=E_
abbrev i_:=List D_
abbrev LLCn:Type:=i_
abbrev T00:=Bool×LI×Unit
abbrev T01:=Int×Bool×Unit
abbrev T02:=Int×Int×Unit
abbrev T03:=Int×LDCn×Unit
abbrev T04:=Int×LI×Unit
abbrev T05:=LDCe×LDLn×Unit
abbrev T06:=LDOp×LDCn×Unit
abbrev T07:=LI×Int×Unit
abbrev T08:=LI×LLI×Unit
abbrev T09:=LLCn×LDOp×Unit
abbrev T0a:=LLCn×LDTs×Unit
abbrev T0b:=Unit×Unit×Unit
abbrev T0c:=Bool×T02
abbrev T0d:=Bool×T05
abbrev T0e:=Int×T01
abbrev T0f:=Int×T02
abbrev T0g:=Int×T05
abbrev T0h:=Int×T07
abbrev T0i:=Int×T0b
abbrev T0j:=LDCe×T02
abbrev T0k:=LDCe×LDLn×Nat×Unit
abbrev T0l:=LDCn×T02
abbrev T0m:=LDIn×T08
abbrev T0n:=LDTh×T02
abbrev T0o:=LI×T02
abbrev T0p:=LI×T04
abbrev T0q:=LI×LLI×LI×Unit
abbrev T0r:=Unit×T0b
abbrev T0s:=Bool×Bool×Bool×Bool×Unit
abbrev T0t:=Int×T0c
abbrev T0u:=Int×T0d
abbrev T0v:=Int×Bool×T07
abbrev T0w:=Int×T0f
abbrev T0x:=Int×T0g
abbrev T0y:=Int×T0h
abbrev T0z:=Int×Int×T09
abbrev T0A:=Int×T0p
abbrev T0B:=LDCe×T0e
abbrev T0C:=LDCe×LDLn×T05
abbrev T0D:=LDTh×Int×T04
abbrev T0E:=LI×T0e
abbrev T0F:=LI×T0f
abbrev T0G:=LI×T0h
abbrev T0H:=LI×T0o
abbrev T0I:=Unit×T0h
abbrev T0J:=Unit×Unit×T05
abbrev T0K:=Unit×Unit×T08
abbrev T0L:=Unit×Unit×T09
abbrev T0M:=Unit×Unit×Unit×LDOp×Unit
abbrev T0N:=Bool×T0w
abbrev T0O:=Bool×T0L
abbrev T0P:=Int×T0v
abbrev T0Q:=Int×Int×Bool×T09
abbrev T0R:=Int×T0w
abbrev T0S:=Int×Int×T0m
abbrev T0T:=Int×T0L
abbrev T0U:=LDCe×LDLn×LI×Int×LLCn×Unit
abbrev T0V:=LDIn×LI×LLI×T0a
abbrev T0W:=LDLn×T0x
abbrev T0X:=LI×T0y
abbrev T0Y:=LI×Int×LDCe×LDLn×LDTh×Unit
abbrev T0Z:=LLCn×T0z
abbrev T10:=Unit×Int×T0r
abbrev T11:=Unit×Unit×T0k
abbrev T12:=Unit×Unit×T0q
abbrev T13:=Unit×Unit×LLCn×T06
abbrev T14:=Bool×T0Y
abbrev T15:=Bool×T10
abbrev T16:=Int×Bool×T0K
abbrev T17:=Int×Int×Bool×T0m
abbrev T18:=Int×T0R
abbrev T19:=Int×Int×T0y
abbrev T1a:=Int×Int×T0K
abbrev T1b:=Int×T0T
abbrev T1c:=Int×T0Y
abbrev T1d:=LDCe×LDLn×LI×Int×LLCn×LDCn×Unit
abbrev T1e:=LDCe×LDLn×T0J
abbrev T1f:=LDIn×T0S
abbrev T1g:=LDLn×Int×T0u
abbrev T1h:=LI×T0P
abbrev T1i:=LI×Int×LDCe×LDLn×LDTh×Bool×Unit
abbrev T1j:=LI×T0X
abbrev T1k:=LI×LI×LLI×LLCn×LDOp×LDOu×Unit
abbrev T1l:=LI×LLI×T0K
abbrev T1m:=LLCn×LDOp×T0L
abbrev T1n:=LLI×T0S
abbrev T1o:=Unit×Unit×LLCn×Nat×T06
abbrev T1p:=Int×T14
abbrev T1q:=Int×Int×Bool×T0C
abbrev T1r:=Int×T16
abbrev T1s:=Int×Int×T0O
abbrev T1t:=Int×T18
abbrev T1u:=Int×Int×Int×Int×LDCn×T01
abbrev T1v:=Int×Int×Int×Int×Unit×T01
abbrev T1w:=Int×T1a
abbrev T1x:=Int×Int×LI×Int×Int×LLI×LDCn×Unit
abbrev T1y:=Int×T1c
abbrev T1z:=Int×Int×T11
abbrev T1A:=Int×Int×T12
abbrev T1B:=Int×T1f
abbrev T1C:=Int×LI×Int×T0t
abbrev T1D:=LDIn×T17
abbrev T1E:=LI×Int×LDCe×LDLn×T0n
abbrev T1F:=LLI×T17
abbrev T1G:=LLI×T1b
abbrev T1H:=LLI×Int×Int×T0M
abbrev T1I:=Int×Int×Bool×T12
abbrev T1J:=Int×T1s
abbrev T1K:=Int×Int×Int×Int×Int×Int×LDCn×LDCn×Unit
abbrev T1L:=Int×Int×Int×Int×Int×Int×LDCn×Unit×Unit
abbrev T1M:=Int×Int×Int×Int×Int×T0i
abbrev T1N:=Int×T1A
abbrev T1O:=Int×Int×T1k
abbrev T1P:=Int×Int×T1l
abbrev T1Q:=Int×Int×T1m
abbrev T1R:=Int×LDCe×T18
abbrev T1S:=Int×T1D
abbrev T1T:=LDTh×T1y
abbrev T1U:=LI×Int×Unit×Unit×Unit×T0m
abbrev T1V:=LI×Int×Unit×Unit×T0K
abbrev T1W:=LLCn×Int×Int×T0V
abbrev T1X:=Int×Int×Bool×T1k
abbrev T1Y:=Int×Int×Bool×T1l
abbrev T1Z:=Int×Int×Bool×T1m
abbrev T20:=Int×Int×T1t
abbrev T21:=Int×Int×Int×T1b
abbrev T22:=Int×Int×Int×Int×LDCn×T0v
abbrev T23:=Int×T1Q
abbrev T24:=Int×LI×Int×Int×Bool×T0F
abbrev T25:=Int×T1U
abbrev T26:=LDIn×LI×LLI×LI×Int×T0J
abbrev T27:=LDLn×Int×Int×T1e
abbrev T28:=LDOu×T1O
abbrev T29:=LI×Int×Int×T1h
abbrev T2a:=LI×Int×LI×Int×Int×T0F
abbrev T2b:=LI×LI×Int×Int×T0U
abbrev T2c:=LI×LLCn×Int×Int×LDCn×T0z
abbrev T2d:=LLCn×T1Q
abbrev T2e:=LLI×T1O
abbrev T2f:=LLI×T1P
abbrev T2g:=Int×Bool×T1U
abbrev T2h:=Int×Int×Int×Int×Int×Bool×Bool×Bool×T00
abbrev T2i:=Int×Int×Int×Int×Int×Int×Int×Int×T03
abbrev T2j:=Int×Int×T1K
abbrev T2k:=Int×Int×T1R
abbrev T2l:=Int×T25
abbrev T2m:=Int×Int×T1V
abbrev T2n:=LI×Int×Int×Int×Int×Int×T0I
abbrev T2o:=LI×Int×Int×LI×T19
abbrev T2p:=LI×Int×LDCe×LDLn×LDTh×T0Y
abbrev T2q:=LLI×T1Y
abbrev T2r:=Unit×Int×Unit×Unit×Unit×T0Y
abbrev T2s:=Bool×T2p
abbrev T2t:=Int×Int×T26
abbrev T2u:=Int×Int×T2f
abbrev T2v:=Int×T2r
abbrev T2w:=LDCe×T2k
abbrev T2x:=LDCn×Nat×Int×Int×Int×T1o
abbrev T2y:=LI×Int×Bool×LI×T1t
abbrev T2z:=LI×Int×Int×LI×Int×Int×T0P
abbrev T2A:=LI×Int×Int×LI×Int×Int×T0X
abbrev T2B:=LLI×Int×Int×LI×Int×Int×T13
abbrev T2C:=ByteArray×LDCn×T2j
abbrev T2D:=Int×Int×Bool×T26
abbrev T2E:=Int×Int×T2h
abbrev T2F:=Int×Int×Int×Int×LDCn×Int×T15
abbrev T2G:=Int×Int×Int×Int×Nat×T1A
abbrev T2H:=Int×Int×T2p
abbrev T2I:=LDIn×LI×LLI×LI×Int×LDCe×LDLn×LDTh×Unit×Unit×T0a
abbrev T2J:=LI×Int×Int×T29
abbrev T2K:=LLI×T2t
abbrev T2L:=Int×Int×Bool×T2h
abbrev T2M:=LDIn×LI×LLI×LI×Int×LLCn×LDTs×Unit×Int×Unit×Unit×Unit×LLCn×Unit
abbrev T2N:=LI×Int×LDCe×LDLn×LDTh×T1R
abbrev T2O:=LI×Int×LI×Int×Int×Int×Int×T1d
abbrev T2P:=Int×Int×Int×Int×T2k
abbrev T2Q:=Int×Int×LLI×Int×Int×LI×T1P
abbrev T2R:=Int×Int×Int×Int×Int×Int×LDCn×LDCn×T1u
abbrev T2S:=Int×Int×T2M
abbrev T2T:=Int×Int×LDIn×LI×LLI×T2r
abbrev T2U:=LDTh×Int×Int×T2I
abbrev T2V:=LI×Int×LDCe×LDLn×LDTh×T2r
abbrev T2W:=Int×Int×Bool×T2M
abbrev T2X:=Int×LLI×Int×Int×LI×T2t
abbrev T2Y:=LDIn×LI×LLI×T2N
abbrev T2Z:=LI×Int×Int×Int×Int×Int×Unit×Int×Bool×T1u
abbrev T30:=Nat×LI×Int×LDCe×LDLn×LDTh×Int×Int×Int×Int×Int×Int×LDCn×T0l
abbrev T31:=LDIn×LI×LLI×LI×Int×LLCn×LDTs×T2r
abbrev T32:=LDIn×LI×LLI×LI×Int×LLCn×LDTs×Unit×Int×Unit×Unit×Unit×LI×Int×LDCe×LDLn×Unit×Unit
abbrev T33:=Int×Int×LDCn×T2S
abbrev T34:=Int×Int×LI×Int×Int×Int×Int×Int×Int×Int×Int×Int×Int×Int×T0s
abbrev T35:=LDIn×LI×LLI×T2R
abbrev T36:=LDIn×LI×LLI×LI×Int×LDCe×LDLn×LDTh×LI×LI×LLI×LLCn×LDOp×LDOu×LI×LLI×LDEn×LI×Unit
abbrev T37:=LDTh×Int×Int×T2V
abbrev T38:=LI×Int×Int×Int×Int×Int×Int×Int×Unit×Unit×T1K
abbrev T39:=LI×Int×Int×Int×Int×Int×Int×Int×Unit×Unit×T1L
abbrev T3a:=Unit×Unit×Unit×Unit×Int×Unit×Unit×Unit×Unit×Unit×Unit×Unit×Unit×Unit×Unit×T0r
abbrev T3b:=Int×Int×Int×Int×Int×Int×LDCn×LDCn×Int×Int×Int×Int×LDCn×Int×T0N
abbrev T3c:=Int×Int×T32
abbrev T3d:=LDIn×LI×LLI×LI×Int×LDCe×LDLn×LDTh×LI×LI×LLI×LLCn×LDOp×LDOu×LI×LLI×LDEn×LI×LI×Unit
abbrev T3e:=LDTh×Int×Int×Bool×T2V
abbrev T3f:=Nat×Int×LI×Int×LDCe×LDLn×LDTh×LDIn×LI×LLI×T20
abbrev T3g:=Int×Bool×T36
abbrev T3h:=Int×ByteArray×Int×Int×T2Y
abbrev T3i:=Int×Int×Bool×T32
abbrev T3j:=LDTs×Int×Int×T31
abbrev T3k:=LLCn×T3c
abbrev T3l:=Int×Int×Int×T36
abbrev T3m:=LI×Int×Int×T39
abbrev T3n:=Int×Bool×LDIn×LI×LLI×LI×Int×LDCe×LDLn×LDTh×T2F
abbrev T3o:=Int×Int×Int×T3d
abbrev T3p:=LDIn×LI×LLI×T3b
abbrev T3q:=LI×Int×LDCe×LDLn×T35
abbrev T3r:=Int×LLCn×Int×Int×LDCn×T3c
abbrev T3s:=Bool×Bool×LI×Int×LDCe×LDLn×LDTh×T35
abbrev T3t:=LDCn×Int×Int×T3q
abbrev T3u:=LDIn×LI×LLI×LI×Int×LDCe×LDLn×LDTh×LI×LI×LLI×LLCn×LDOp×LDOu×LI×LLI×LDEn×LI×T1v
abbrev T3v:=LI×Int×LDCe×LDLn×LDTh×LDIn×LI×LLI×Int×Int×Int×Int×Int×Int×LDCn×LDCn×Int×Int×Int×Int×LDCn×T0t
abbrev T3w:=Nat×Bool×LI×Int×LDCe×LDLn×LDTh×T3b
abbrev T3x:=Nat×T3v
abbrev T3y:=Unit×Unit×Unit×Unit×Unit×Unit×Int×Int×Int×Int×Unit×Int×Bool×LI×LI×LLI×LLCn×LDOp×LDOu×T1u
abbrev T3z:=Unit×Unit×Unit×Unit×Unit×Unit×Int×Int×Int×Int×Unit×Int×Bool×LI×LI×LLI×LLCn×LDOp×LDOu×T1v
abbrev T3A:=Int×Int×T3u
abbrev T3B:=LI×Int×LDCe×LDLn×LDTh×T3p
abbrev T3C:=LDIn×LI×LLI×LI×Int×LDCe×LDLn×LDTh×Unit×Unit×LLCn×LDTs×Int×LDCe×Int×Int×Int×Int×T2i
abbrev T3D:=Nat×LDCn×Int×Int×T3B
abbrev T3E:=LI×Int×Unit×Unit×Unit×Unit×Int×Unit×Unit×Unit×LDIn×LI×LLI×LI×Int×LDCe×LDLn×LI×LI×LLI×LLCn×LDOp×LDOu×LI×LLI×LDEn×LI×T0Y
abbrev T3F:=Nat×LDCn×Int×Int×Bool×T3B
abbrev T3G:=LDIn×LI×LLI×LI×Int×LLCn×LDTs×Unit×Int×Unit×Unit×Unit×LI×Int×LDCe×LDLn×LDTh×Int×Int×Int×Int×Int×Int×Int×LDCn×T1R
abbrev T3H:=LDTh×Int×Int×LDCe×Int×Int×T3C
abbrev T3I:=LI×Int×Unit×Unit×Unit×Unit×Int×Unit×Unit×Unit×LDIn×LI×LLI×LI×Int×LDCe×LDLn×LI×LI×LLI×LLCn×LDOp×LDOu×LI×LLI×LDEn×LI×LI×Int×LDCe×LDLn×LDTh×T0a
abbrev T3J:=LI×LI×LLI×LLCn×LDOp×LDOu×Int×Int×Int×Int×Int×Int×LDCn×LDCn×Unit×Unit×Unit×Unit×Unit×Unit×Int×Int×Int×Int×Unit×Int×Bool×LI×LI×LLI×LLCn×LDOp×LDOu×LI×Unit
abbrev T3K:=Int×Bool×LDIn×LI×LLI×LI×Int×LDCe×LDLn×LDTh×LI×LI×LLI×LLCn×LDOp×LDOu×LI×LLI×LDEn×LI×Int×Int×Int×Int×Int×Int×LDCn×LDCn×T1v
abbrev T3L:=Int×Int×T3I
abbrev T3M:=Unit×Unit×Unit×Unit×Int×Unit×Unit×Unit×Unit×Unit×Unit×Unit×Unit×Unit×Unit×Unit×Unit×Unit×T36
abbrev T3N:=Unit×Unit×Unit×Unit×Int×Unit×Unit×Unit×Unit×Unit×Unit×Unit×Unit×Unit×Unit×Unit×Unit×Unit×LDIn×LI×LLI×LI×Int×LDCe×LDLn×LDTh×LI×LI×LLI×LLCn×LDOp×LDOu×LI×LLI×Unit×LI×Unit
abbrev T3O:=Int×Int×Bool×T3I
abbrev T3P:=Int×T3M
abbrev T3Q:=Int×T3N
abbrev T3R:=LDCn×Int×Int×T3J
abbrev T3S:=LDIn×LI×LLI×Unit×Int×Unit×Unit×Unit×Int×Int×Int×Int×Int×Int×Unit×Unit×LI×Int×LDCe×LDLn×LDTh×Int×LDCe×Int×Int×Int×Int×T2j
abbrev T3T:=LDIn×LI×LLI×Unit×Int×Unit×Unit×Unit×Int×Int×Int×Int×Int×Int×Unit×Unit×LI×Int×LDCe×LDLn×LDTh×Int×LDCe×Int×Int×Int×Int×Int×Int×T1L
abbrev T3U:=Bool×T3T
abbrev T3V:=Int×T3P
abbrev T3W:=LI×T3P
abbrev T3X:=Int×Int×Int×T3L
abbrev T3Y:=Int×Int×T3S
abbrev T3Z:=Int×Int×T3T
abbrev T40:=Int×T3W
abbrev T41:=LDIn×LI×LLI×Int×Int×Int×Int×Int×Int×LDCn×LDCn×Int×Int×Int×Int×LDCn×Int×Bool×LI×Int×LDCe×LDLn×LDTh×Int×LDCe×T2P
abbrev T42:=LDTs×Int×Int×LDCn×Int×Int×T3G
abbrev T43:=Int×Int×Bool×T3S
abbrev T44:=Int×T41
abbrev T45:=LI×Int×Unit×Unit×Unit×Unit×Int×Unit×Unit×Unit×Int×Int×Int×Int×Int×Int×Unit×Unit×Int×Int×Int×Int×Unit×Int×Bool×LDIn×LI×LLI×LI×Int×LDCe×LDLn×LDTh×T1K
abbrev T46:=Int×T45
abbrev T47:=LI×Int×Unit×Unit×Unit×Unit×Int×Unit×Unit×Unit×Int×Int×Int×Int×Int×Int×Unit×Unit×Int×Int×Int×Int×Unit×Int×Bool×LDIn×LI×LLI×LI×Int×LDCe×LDLn×LDTh×T2R
abbrev T48:=Int×Int×T47
abbrev T49:=Int×Bool×LI×Int×Unit×Unit×Unit×Unit×Int×Unit×Unit×Unit×Unit×Unit×Unit×Unit×Unit×Unit×Unit×Unit×Unit×Unit×LDIn×LI×LLI×LI×Int×LDCe×LDLn×LDTh×LI×LI×LLI×LLCn×LDOp×LDOu×LI×LLI×LDEn×LI×T36
abbrev T4a:=Int×Bool×LI×Int×Unit×Unit×Unit×Unit×Int×Unit×Unit×Unit×Unit×Unit×Unit×Unit×Unit×Unit×Unit×Unit×Unit×Unit×LDIn×LI×LLI×LI×Int×LDCe×LDLn×LDTh×LI×LI×LLI×LLCn×LDOp×LDOu×LI×LLI×LDEn×LI×T3a
noncomputable abbrev ap1{A0 D R:Type}(f:A0→R)(h:A0×D):R:=f h.1
noncomputable abbrev ap2{A0 A1 D R:Type}(f:A0→A1→R)(h:A0×A1×D):R:=f h.1 h.2.1
noncomputable abbrev ap3{A0 A1 A2 D R:Type}(f:A0→A1→A2→R)(h:A0×A1×A2×D):R:=f h.1 h.2.1 h.2.2.1
noncomputable abbrev ap4{A0 A1 A2 A3 D R:Type}(f:A0→A1→A2→A3→R)(h:A0×A1×A2×A3×D):R:=f h.1 h.2.1 h.2.2.1 h.2.2.2.1
noncomputable abbrev ap5{A0 A1 A2 A3 A4 D R:Type}(f:A0→A1→A2→A3→A4→R)(h:A0×A1×A2×A3×A4×D):R:=f h.1 h.2.1 h.2.2.1 h.2.2.2.1 h.2.2.2.2.1
noncomputable abbrev ap6{A0 A1 A2 A3 A4 A5 D R:Type}(f:A0→A1→A2→A3→A4→A5→R)(h:A0×A1×A2×A3×A4×A5×D):R:=f h.1 h.2.1 h.2.2.1 h.2.2.2.1 h.2.2.2.2.1 h.2.2.2.2.2.1
noncomputable abbrev as1{A X H R:Type}(g:X->H->R)(f:A->X)(h:A×H):R:=g (f h.1) h.2
noncomputable abbrev as2{A B X H R:Type}(g:X->H->R):(A->B->X)->A×B×H->R:=as1 (as1 g)
noncomputable abbrev as4{A B C D X H R:Type}(g:X->H->R):(A->B->C->D->X)->A×B×C×D×H->R:=as2 (as2 g)
noncomputable abbrev as8{A B C D E F G I X H R:Type}(g:X->H->R):(A->B->C->D->E->F->G->I->X)->A×B×C×D×E×F×G×I×H->R:=as4 (as4 g)
theorem ls{n:Nat}(C:X.Cfg)(hT:Md E0 TT noB n C.TB){c:Ctr}(hE:C.E=E0:=by rfl)(h1:(TT c.f).isSome=true:=by kernel_rfl)(hg:∀h,X.runT fX C () ((TT c.f).getD WI) c.outs (lO c.ins _ h).1 (xZ c.pts [] (lO c.ins _ h).2).1=c.g h:=by intro h;kernel_rfl):Lk (n+1) c:=V4 (n:=n) (C:=C) hE hT (Wa h1) hg
abbrev Uaa(t:Nat):Nat×Sh:=sP t I64
abbrev Xaa(t:Nat):Nat×Sh:=sP t .bool
abbrev Zaa(t r:Nat):Nat×Sh:=(t,.pk ⟨r,0,[]⟩ [0,0])
abbrev uaa(t:CT):CT:=.row true t
abbrev yaa(t:CT):CT:=.row false t
abbrev zaa(t:Nat):Nat×Sh:=pP t (2*t+2)
abbrev uab:T_:=uL [gP,RI,(yaa RW)]
abbrev yab:T_:=uL [RI,I64]
abbrev zab:T_:=uL [.bool]
abbrev Uab:T_:=uL [RI,CW]
abbrev Xab:T_:=uL [CB,CW]
abbrev Zab:T_:=uL [N1,CW,N1,N1,N1]
abbrev uac:T_:=uL [N1,N1]
abbrev yac:T_:=uL [RI,CW,gT,iC,mn]
abbrev zac:T_:=uL [I64]
abbrev Uac:T_:=uL [I64,I64,I64,I64,I64,I64,gp,gp]
abbrev Xac:T_:=uL [RI,CW,(uaa KCe),iz,qF]
abbrev Zac:T_:=uL [I64,I64]
abbrev uad:T_:=uL [CB,CW,I64,I64,gp,I64,.bool]
abbrev yad:T_:=uL [gT,iC]
abbrev zad:T_:=uL [N1,N1,N1]
abbrev Uad:T_:=uL [(uaa KCe),iz]
abbrev Xad:T_:=uL [I64,gT,I64,I64,I64,I64,I64,CW]
abbrev Zad:T_:=uL [CB,CW,I64,I64,N1,I64,.bool]
abbrev uae:T_:=uL [gP,RI,(yaa RW),RI,CW,(uaa KCe),iz,(uaa nL),RW,RW,(yaa RW),(yaa gp),jm,lf,RI,(yaa RI),(uaa qJ),(uaa I64)]
abbrev yae:T_:=uL [(yaa gp),jm]
abbrev zae:T_:=uL [I64,I64,I64,I64,I64,I64,N1,N1]
abbrev Uae:T_:=uL [I64,I64,I64,I64,I64]
abbrev Xae:T_:=uL [N1,N1,N1,N1,CW,N1,N1,N1,N1,N1,N1,N1,N1,N1,N1,N1,N1,N1]
abbrev Zae:T_:=uL [(yaa gp),(yaa vP)]
abbrev uaf:T_:=uL [(uaa I64)]
abbrev yaf:T_:=uL [(uaa I64),(uaa (uaa I64))]
abbrev zaf:T_:=uL [(uaa (uaa KCn)),(uaa KOp)]
abbrev Uaf:T_:=uL [I64,(uaa KCe),I64,I64,I64,I64,I64,CW]
abbrev Xaf:T_:=uL [RI,(yaa RI)]
abbrev Zaf:T_:=uL [RI,CW,gT,iC,(uaa nL)]
abbrev uag:T_:=uL [(uaa (uaa KCn)),(uaa Mc)]
abbrev yag:T_:=uL [CB,CW,I64,I64]
abbrev zag:T_:=uL [I64,I64,I64,I64,I64,I64,(uaa KCn),(uaa KCn)]
abbrev Uag:T_:=uL [.bool,.bool,.bool,.bool]
abbrev Xag:T_:=uL [(uaa KCn)]
abbrev Zag:T_:=uL [RW,RW,(yaa RW),(yaa gp),jm,lf]
abbrev uah:T_:=uL [RI,CW,(uaa KCe),iz,(uaa nL)]
abbrev yah:T_:=uL [CB,CW,I64,I64,(uaa KCn),I64,.bool]
abbrev zah:T_:=uL [N1,N1,N1,N1,N1,N1]
abbrev Uah:T_:=uL [(uaa I64),CW,(uaa KCe),iz,qF]
abbrev Xah:T_:=uL [gP,RI,(yaa RW),RI,CW,gT,iC,mn,RW,RW,(yaa RW),(yaa gp),jm,lf,RI,(yaa RI),UF,RI]
abbrev Zah:T_:=uL [(uaa gp)]
abbrev uai:T_:=uL [(uaa I64),CW,(uaa KCe),iz]
abbrev yai:T_:=uL [RI]
abbrev zai:T_:=uL [CB,CW,I64]
abbrev Uai:T_:=uL [I64,I64,I64,I64,I64,I64,(uaa KCn),N1]
abbrev Xai:T_:=uL [gP,RI,(yaa RW),RI,CW,gT,iC,(uaa nL),RW,RW,(yaa RW),(yaa gp),jm,lf,RI,(yaa RI),(uaa qJ),(uaa I64)]
abbrev Zai:T_:=uL [(uaa KIn),RI,(uaa (uaa CW))]
abbrev uaj:T_:=uL [gP,RI,(uaa (uaa CW))]
abbrev yaj:T_:=uL [I64,I64,.bool]
abbrev zaj:T_:=uL [(uaa (uaa CW))]
abbrev Uaj:T_:=uL [(uaa (uaa KCn))]
abbrev Xaj:T_:=uL [RI,CW,(uaa KCe),iz,N1]
abbrev Zaj:T_:=uL [(uaa I64),CW]
abbrev uak:T_:=uL [(uaa JF)]
abbrev yak:T_:=uL [(uaa CW),(uaa CW),(uaa (uaa CW)),(uaa (uaa KCn)),(uaa KOp),(uaa JF)]
abbrev zak:T_:=uL [I64,I64,I64]
abbrev Uak:T_:=uL [I64,I64,I64,I64,I64,I64,CW,gp]
abbrev Xak:T_:=uL [(uaa (uaa KCn)),(uaa KOp),I64]
abbrev Zak:T_:=uL [RI,CW,gT,iC,qF]
abbrev ual:T_:=uL [gP,RI,(yaa RW),RI,CW,gT,iC,mn,RW,RW,(yaa RW),(yaa gp),jm,lf,RI,(yaa RI),(uaa qJ),(uaa I64)]
abbrev yal:T_:=uL [RI,CW,(uaa KCe),iz,qF,.bool]
abbrev zal:T_:=uL [(uaa (uaa KCn)),(uaa KOp),.bool]
abbrev Ual:T_:=uL [RI,CW,(uaa KCe),iz,(uaa nL),.bool]
abbrev Xal:T_:=uL [gP,RI,(yaa RW),RI,CW,(uaa KCe),iz,(uaa nL),RW,RW,(yaa RW),(yaa gp),jm,lf,RI,(yaa RI),(uaa qJ)]
abbrev Zal:T_:=uL [I64,I64,I64,I64,I64,I64,CW,(uaa KCn)]
abbrev uam:T_:=uL [(uaa I64),CW,(uaa KCe),iz,mn,.bool]
abbrev QA:=List (Nat×Sh)
abbrev QB:=List (Nat×T_)
abbrev QC:=T_
abbrev zl(l:N_):QA:=l.map zaa
abbrev il(l:N_):QA:=l.map Uaa
abbrev yam:QC:=[shU gP,shU RI,shU (yaa RW),shU RI,shU CW,shU gT,shU iC,.dead,shU RW,shU RW,shU (yaa RW),shU (yaa gp),shU jm,shU lf,shU RI,shU (yaa RI),shU (uaa qJ),shU (uaa I64)]
abbrev zam:QC:=[.gap (uaa KCn) () () 0,shU (uaa KOp)]
abbrev Uam:QB:=[(4,uab)]
abbrev Xam:QB:=[(6,Uab)]
abbrev Zam:QB:=[(2,yab),(6,zad),(8,Zab),(10,yam),(12,Zaf),(14,uag)]
abbrev uan:QB:=[(4,yad)]
abbrev yan:QB:=[(4,Xac)]
abbrev zan:QB:=[(14,uac),(18,zaf)]
abbrev Uan:QB:=[(12,Uab),(18,Xab),(20,Xab),(22,Xab)]
abbrev Xan:QB:=[(8,Xaf),(14,uac),(18,yaf)]
abbrev Zan:QB:=[(10,Zac)]
abbrev uao:QB:=[(2,yab),(6,zad),(8,Zai)]
abbrev yao:QB:=[(6,uab),(8,Uab),(10,uac),(14,Uad)]
abbrev zao:QB:=[(8,uab),(10,Uab),(12,Zae),(14,Zab),(77,Zah)]
abbrev Uao:QB:=[(8,uab),(10,Uab),(12,Zae),(14,Zab),(26,Xaj)]
abbrev Xao:QB:=[(2,yab),(6,zad),(8,Zab),(10,zae),(12,Zad),(14,uab),(16,Zaf),(18,zag),(22,yah)]
abbrev Zao:QB:=[(2,yab),(14,Uae),(16,Uae),(18,Uag)]
abbrev uap:QB:=[(2,yab),(6,zad),(8,uaj)]
abbrev yap:QB:=[(4,Uae),(8,Uag),(49,uaf)]
abbrev zap:QB:=[(8,Uab),(14,Zac)]
abbrev Uap:QB:=[(10,uab),(18,Zab),(20,zae),(24,uah),(30,Xad),(32,Uai)]
abbrev Xap:QB:=[(10,uab),(18,Zab),(20,zae),(24,uah),(30,Xad),(32,zag)]
abbrev Zap:QB:=[(2,uae),(10,Zad)]
abbrev uaq:QB:=[(4,Xac),(10,uab),(14,Uac),(16,uad),(22,Xab),(26,Zac)]
abbrev yaq:QB:=[(10,uac),(14,yaf),(21,uaf)]
abbrev zaq:QB:=[(6,uab),(8,Zae)]
abbrev Uaq:QB:=[(6,yad),(8,yad)]
abbrev Xaq:QB:=[(6,yac),(8,yac)]
abbrev Zaq:QB:=[(6,uac),(10,zaf),(19,Xag)]
abbrev uar:QB:=[(8,uab),(10,yac),(16,Xad)]
abbrev yar:QB:=[(14,uac),(20,zam),(27,Xag)]
abbrev zar:QB:=[(2,uae),(8,Uac),(10,Zad)]
abbrev Uar:QB:=[(4,Xac),(10,uab),(14,Uac),(16,uad),(22,Xab)]
abbrev Xar:QB:=[(10,uab),(12,yac),(16,uad),(18,Zab)]
abbrev Zar:QB:=[(10,uac),(14,Xaf),(27,uaf)]
abbrev uas:QB:=[(2,yab),(6,Xae),(10,Xai),(16,Xae)]
abbrev yas:QB:=[(2,yab),(6,Xae),(10,Xah),(16,Xae)]
abbrev zas:QB:=[(2,yab),(6,Xae),(10,Xah),(16,uae)]
abbrev Uas:QB:=[(2,yab),(6,Xae),(10,Xai)]
abbrev Xas:QB:=[(8,yad),(10,Uab),(17,Uaj),(23,Xag)]
abbrev Zas:QB:=[(6,uab),(8,yac),(10,uac),(12,uag),(16,Xad),(18,Zal)]
abbrev uat:QB:=[(8,uab),(10,Uab),(12,Zae),(14,Zab),(26,Xac),(38,Uak),(40,Uaf)]
abbrev yat:QB:=[(8,uab),(10,Uab),(12,Zae),(14,Zab),(26,Xac)]
abbrev zat:QB:=[(2,yab),(6,zae),(8,Uai)]
abbrev Uat:QB:=[(2,yab),(6,zae),(8,zag)]
abbrev Xat:QB:=[(4,uai),(10,uab),(14,Uac),(16,uad)]
abbrev Zat:QA:=[Xaa 4]
abbrev uau:QA:=[Xaa 2]
abbrev yau:QA:=[Uaa 2]
abbrev zau:QA:=zl [0,2,4]++[Uaa 6,zaa 7,Xaa 37]
abbrev Uau:QA:=zl [0,2,3]
abbrev Xau:QA:=zl [4,5,7,11]
abbrev Zau:QA:=[zaa 1,Xaa 8]
abbrev uav:QA:=[zaa 6,Xaa 7]
abbrev yav:QA:=zaa 0::il [1,2]++zl [6,7,8]
abbrev zav:QA:=[zaa 4,Uaa 5]
abbrev Uav:QA:=[zaa 6,Uaa 7]
abbrev Xav:QA:=zl [0,2,4]++[Uaa 6]
abbrev Zav:QA:=zl [0,2,3]++[Uaa 6]
abbrev uaw:QA:=zl [0,2,3]++il [101,102]
abbrev yaw:QA:=sP 0 RI::sP 5 RI::il [6,7]
abbrev zaw:QA:=sP 0 RI::sP 5 RI::il [6,7]++[Xaa 8]
abbrev Uaw:QA:=Zaa 3 9::sP 6 mn::il [7,8]
abbrev Xaw:QA:=sP 1 RI::Uaa 2::zl [5,8,9,10]++[Xaa 109]
abbrev Zaw:QA:=zl [4,8,9,11,14,15]++il [109,110]++[Xaa 111]
abbrev uax:QA:=sP 2 gp::zl [6,9]++(10,.ptr ⟨20,1,[((),(3,0))]⟩ [0,0])::Uaa 11::Zaa 12 27::il [57,58]
abbrev yax:QA:=il [1,2]++zl [6,8]++il [9,62,63]
abbrev zax:QA:=zl [1,4,6,7]++(9,.ptr ⟨4,4,[((),(8,0))]⟩ [0,0])::zl [10,12]++sP 80 gp::il [81,82]++[Xaa 83]
abbrev Uax:QA:=Uaa 2::zl [4,5,7,8]++[Xaa 38]
abbrev Xax:QA:=Uaa 1::zl [4,6]++Uaa 7::Zaa 9 21::(20,.pk ⟨14,1,[]⟩ [0,0])::il [21,22]++(27,.pk ⟨14,1,[((),(1,0))]⟩ [0,0,0])::il [28,29]
abbrev Zax:QA:=zaa 0::Uaa 1::(36,.pk ⟨2,17,[]⟩ [0,0])::il [37,38]
abbrev uay:QA:=zaa 4::il [7,8]++[zaa 9]
abbrev yay:QA:=zl [0,2,3,4,5,6]++il [27,28]
abbrev zay:QA:=zl [0,2,3,4,5,6]++il [8,48,49,58,59]
abbrev Uay:QA:=zl [0,2,3,4,5,6]++il [48,49]
abbrev Xay:QA:=zl [0,2,3,4,5]
abbrev Zay:QA:=zl [0,2,3]++sP 39 (yaa CB)::il [40,41]
abbrev uaz:QA:=zl [0,2,3,4,5,6,7,8,10]++(42,.pk ⟨18,6,[]⟩ [0,0])::il [43,44]
abbrev yaz:QA:=zaa 1::Uaa 5::sP 49 gP::il [50,51]
abbrev h_:=Option (Int×Unit)
def mp(a0 a1:Int):h_:=bif(a1 != 0)then let x0:Int:=(Int.tmod a0 a1);
(bif(decide (x0<0))then(let x1:Int:=(w64 (x0+a1));some (x1,()))else some (x0,()):h_).bind λ(x1,_)=>some (x1,())else none
def KB:X.Cfg:=⟨E0,[],[],[⟨2,0,qE,[(.normal,qS [Uaa 5] [])]⟩]⟩
def xm:Ctr:=⟨31,0,Zac,[],[⟨zac,[.one],[]⟩],ap2 mp⟩
theorem B4:Lk 1 xm:=ls KB aN
def EP(a0 a1:Int):h_:=
(mp a0 a1).bind λ(x0,_)=>some (x0,())
def RJ:X.Cfg:=⟨E0,[xm],[],[]⟩
def L5:Ctr:=⟨12,1,Zac,[],[⟨zac,[.one],[]⟩],ap2 EP⟩
theorem Rx:Lk 2 L5:=ls RJ (aC B4 aN)
def fU(a0:Int)(a1:LI)(a2:Int):Option (T0h):=let x0:=fZ a1.length;bif(decide (a2>=x0))then(some (0,a1,a2,()))else let x1:=w64 (a2+1);let x2:=w64 (x1-1);
(gj x2).bind λx3=>
(fT a1 x3).bind λx4=>
(EP x4 a0).bind λ(x5,_)=>some (x5,a1,x1,())
def KF:X.Cfg:=⟨E0,[L5],[],[]⟩
def hU:Ctr:=⟨28,2,[.ptr ⟨2,0,[]⟩ [0],shU I64],[(2,yab)],[⟨zac,[.one],[(2,yab)]⟩],ap3 fU⟩
theorem ii:Lk 3 hU:=ls KF (aC Rx aN)
abbrev v_:=List (Int)
def ul:T0A->Option (T0A⊕(Int×Bool×T0p)):=λ(v0,v1,v2,v3,_)=>bif(decide (v0>0))then(let x0:v_:=[6,12,32];
(fU 3 v1 v2).bind λ(x1,x2,x3,_)=>
(gj x1).bind λx4=>
(fT x0 x4).bind λ_=>
(fT x0 x4).bind λx6=>
(fU x6 x2 x3).bind λ(x7,x8,x9,_)=>let ac:=w64 (1+x7);bif(gk 8 v3.length (List.length [ac]))then let ae:v_:=(List.append v3 [ac]);let af:=w64 (v0-1);some (.inl (af,x8,x9,ae,()))else none)else some (.inr (v0,false,v1,v2,v3,()))
def rb(a0:LI)(a1:Int):Option (LI×T07):=
(fU 9 a0 a1).bind λ(x0,x1,x2,_)=>let x3:=w64 (4+x0);
(fU 4 x1 x2).bind λ(x4,x5,x6,_)=>
(gc ul NN (x4,x5,x6,[x3],())).bind λ(_,_,x9,ac,ae,_)=>some (ae,x9,ac,())
def Jc:X.Cfg:=⟨E0,[hU],[],[(lx 4 0 [zaa 0,Zaa 3 9,Uaa 4] [(2,yab),(9,uaf)] 12)]⟩
def AH:Ctr:=⟨120,3,[.ptr ⟨2,0,[]⟩ [0]],[(2,yab)],[⟨uaf,[.one],[(2,yab)]⟩],ap2 rb⟩
theorem In:Lk 4 AH:=ls Jc (aC ii aN)
def kW(a0:LI)(a1:Int):Option (T0h):=
(fU 5 a0 a1).bind λ(x0,x1)=>
(bif(x0==0)then(some (x0,true,x1))else bif(x0==1)then(some (x0,true,x1))else some (x0,(x0==2),x1):Option (T0v)).bind λ(x3,x4,x5,x6,_)=>bif x4 then((fU 8 x5 x6).bind λ(x7,x8,x9,_)=>let ac:=wk .u16 x7;some (ac,x8,x9,()))else bif(x3==3)then((fU 3 x5 x6).bind λ(x7,x8,x9,_)=>let ac:=w64 (65535-x7);let ae:=wk .u16 ac;some (ae,x8,x9,()))else
(fU 65536 x5 x6).bind λ(x7,x8,x9,_)=>let ac:=wk .u16 x7;some (ac,x8,x9,())
def KE:X.Cfg:=⟨E0,[hU],[],[⟨3,0,qE,[(.normal,qS [zaa 0,Uaa 4,Xaa 5] [(2,yab)])]⟩]⟩
def qC:Ctr:=⟨100,4,[.ptr ⟨2,0,[]⟩ [0]],[(2,yab)],[⟨uL [CW],[.one],[(2,yab)]⟩],ap2 kW⟩
theorem sT:Lk 4 qC:=ls KE (aC ii aN)
def uk:T0A->Option (T0A⊕(Int×Bool×T0p)):=λ(v0,v1,v2,v3,_)=>bif(decide (v0>0))then((kW v1 v2).bind λ(x0,x1,x2,_)=>bif(gk 2 v3.length (List.length [x0]))then let x3:v_:=(List.append v3 [x0]);let x4:=w64 (v0-1);some (.inl (x4,x1,x2,x3,()))else none)else some (.inr (v0,false,v1,v2,v3,()))
def iY(a0:Int)(a1:LI)(a2:Int):Option (LI×T07):=let x0:=w64 (a0+1);
(fU x0 a1 a2).bind λ(x1,x2,x3,_)=>
(gc uk NN (x1,x2,x3,[],())).bind λ(_,_,x6,x7,x8,_)=>some (x8,x6,x7,())
def Jb:X.Cfg:=⟨E0,[hU,qC],[],[(lx 4 0 [zaa 0,Zaa 5 13,Uaa 6] [(2,yab),(13,uL [(uaa CW)])] 12)]⟩
def vj:Ctr:=⟨121,5,[.ptr ⟨2,0,[]⟩ [0],shU I64],[(2,yab)],[⟨uL [(uaa CW)],[.one],[(2,yab)]⟩],ap3 iY⟩
theorem Ab:Lk 5 vj:=ls Jb (aC ii (aC sT aN))
def kT(a0 a1:Int):Option (T0R):=some (1,a0,0,0,a1,())
def Ua:X.Cfg:=⟨E0,[],[],[]⟩
def K0:Ctr:=⟨123,6,Zac,[],[⟨Uae,[.agg 5],[]⟩],ap2 kT⟩
theorem Pn:Lk 1 K0:=ls Ua aN
def jR(a0:Int):Option (T0R):=some (23,0,0,0,a0,())
def RG:X.Cfg:=⟨E0,[],[],[]⟩
def G6:Ctr:=⟨124,7,zac,[],[⟨Uae,[.agg 5],[]⟩],ap1 jR⟩
theorem LF:Lk 1 G6:=ls RG aN
def pu(a0 a1:Int):Option (T0R):=some (2,a0,a1,0,0,())
def RH:X.Cfg:=⟨E0,[],[],[]⟩
def L4:Ctr:=⟨144,8,Zac,[],[⟨Uae,[.agg 5],[]⟩],ap2 pu⟩
theorem Rw:Lk 1 L4:=ls RH aN
def kR(a0:Int):Option (T0s):=
(bif(a0==1)then(some (a0,true,false,false,false,false,()))else bif(a0==15)then(some (a0,true,false,false,false,false,()))else bif(a0==19)then(some (a0,true,false,false,false,false,()))else bif(a0==20)then(some (a0,true,false,false,false,false,()))else some (a0,(a0==21),false,false,false,false,()):Option (Int×Bool×T0s)).bind λ(x0,x1,_)=>bif x1 then(some (true,false,false,true,()))else bif(x0==2)then(some (true,true,false,false,()))else bif(x0==16)then(some (true,true,false,true,()))else bif(x0==17)then(some (true,true,false,true,()))else bif(x0==18)then(some (false,false,false,true,()))else bif(x0==23)then(some (false,false,false,true,()))else bif(x0==22)then(some (true,false,false,false,()))else bif(x0==0)then(some (false,false,false,false,()))else bif(x0==24)then(some (false,false,false,false,()))else some (true,true,true,false,())
def IV:X.Cfg:=⟨E0,[],[],[⟨3,0,qE,[(.normal,qS [zaa 2,Uaa 3,Xaa 4] [(6,Uag)])]⟩]⟩
def u4:Ctr:=⟨108,9,zac,[],[⟨Uag,[.agg 4],[]⟩],ap1 kR⟩
theorem zX:Lk 1 u4:=ls IV aN
abbrev f_:=Option (Bool×Unit)
def iW(a0:Int):f_:=bif(a0==18)then(some (true,()))else bif(a0==19)then(some (true,()))else bif(a0==20)then(some (true,()))else some ((a0==21),())
def IW:X.Cfg:=⟨E0,[],[],[]⟩
def mF:Ctr:=⟨77,10,zac,[],[⟨zab,[.one],[]⟩],ap1 iW⟩
theorem oL:Lk 1 mF:=ls IW aN
def rd(a0 a1:Int)(a2:LI)(a3:Int):Option (Int×T19):=
(fU 25 a2 a3).bind λ(x0,x1,x2,_)=>
(kR x0).bind λ(x3,x4)=>
(bif x3 then((fU 8 x1 x2).bind λ(x7,x8,x9,_)=>some (a0,a1,x8,x9,0,0,0,0,0,x0,x7,0,0,0,x3,x4))else some (a0,a1,x1,x2,0,0,0,0,0,x0,0,0,0,0,x3,x4):Option (T34)).bind λ(x7,x8,x9,ac,ae,af,ag,ah,ai,aj,ak,am,an,ap,aq,av,ax)=>
(bif av then((fU 8 x9 ac).bind λ(az,aA,aB,_)=>some (x7,x8,aA,aB,ae,af,ag,ah,ai,aj,ak,az,an,ap,aq,av,ax))else some (x7,x8,x9,ac,ae,af,ag,ah,ai,aj,ak,am,an,ap,aq,av,ax):Option (T34)).bind λ(az,aA,aB,aD,aE,aF,aG,aH,aI,aJ,aK,aL,aM,aO,aP,aQ,aR,aS,_)=>
(bif aR then((fU 8 aB aD).bind λ(aT,aU,aV,_)=>some (az,aA,aU,aV,aE,aF,aG,aH,aI,aJ,aK,aL,aT,aO,aP,aQ,aR,aS,()))else some (az,aA,aB,aD,aE,aF,aG,aH,aI,aJ,aK,aL,aM,aO,aP,aQ,aR,aS,()):Option (T34)).bind λ(aT,aU,aV,aW,aY,aZ,ba,bc,bd,be,bf,bg,bh,bi,_,_,_,bn,_)=>
((iW be).bind λ(bo,_)=>bif bo then((fU aU aV aW).bind λ(bp,bq,bt,_)=>some (bq,bt,aY,aZ,ba,bc,bd,be,bf,bg,bh,bp,()))else bif(be==15)then((fU aT aV aW).bind λ(bp,bq,bt,_)=>some (bq,bt,aY,aZ,ba,bc,bd,be,bf,bg,bh,bp,()))else bif(be==23)then((fU 16 aV aW).bind λ(bp,bq,bt,_)=>some (bq,bt,aY,aZ,ba,bc,bd,be,bf,bg,bh,bp,()))else bif bn then((kW aV aW).bind λ(bp,bq,bt,_)=>let bv:=wk .i64 bp;some (bq,bt,aY,aZ,ba,bc,bd,be,bf,bg,bh,bv,()))else some (aV,aW,aY,aZ,ba,bc,bd,be,bf,bg,bh,bi,()):Option (LI×Int×Int×T20)).bind λ(bo,bp,_,_,_,_,_,bB,bC,bD,bE,bF,_)=>some (bB,bC,bD,bE,bF,bo,bp,())
def Jd:X.Cfg:=⟨E0,[hU,u4,mF,qC],[],[⟨3,0,qE,[(.normal,qS yav Zao)]⟩,⟨5,1,qE,[(.normal,qS yav Zao)]⟩,⟨7,2,qE,[(.normal,qS yav Zao)]⟩,⟨9,3,qE,[(.normal,qS (zl [0,6,7]) [(2,yab),(14,Uae),(16,Uae)])]⟩]⟩
def AI:Ctr:=⟨145,11,[.ptr ⟨2,0,[]⟩ [0],shU I64,shU I64],[(2,yab)],[⟨Uae,[.agg 5],[(2,yab)]⟩],ap4 rd⟩
theorem Io:Lk 5 AI:=ls Jd (aC ii (aC zX (aC oL (aC sT aN))))
def sH(a0:LI)(a1 a2:Int)(a3:LI)(a4:Int):Option (LDIn×T07):=let x0:=fZ a0.length;
(fU x0 a3 a4).bind λ(x1,x2,x3,_)=>
(gj x1).bind λx4=>
(fT a0 x4).bind λx5=>let x6:=w64 (x5+1);let x7:=mmR false 5 x6;
(fU x7 x2 x3).bind λ(x8,x9,ac,_)=>
(kT 2 x8).bind λ(ae,af,ag,ah,ai,_)=>let aj:LDIn:=[(15,(1,(0,(0,x1)))),(ae,(af,(ag,(ah,ai))))];
(fU 20 x9 ac).bind λ(ak,am,an,_)=>bif(ak==0)then((fU 3 am an).bind λ(ap,aq,av,_)=>let ax:=w64 (3+ap);
(kW aq av).bind λ(ay,az,aA,_)=>let aB:=wk .i64 ay;
(kT ax aB).bind λ(aD,aE,aF,aG,aH,_)=>let aI:LDIn:=[(aD,(aE,(aF,(aG,aH))))];some (aI,az,aA,()))else bif(ak==1)then(let ap:v_:=[3,4,5,10,13,14,11,9];
(fU 8 am an).bind λ(aq,av,ax,_)=>
(gj aq).bind λay=>
(fT ap ay).bind λ_=>
(fT ap ay).bind λaA=>
(fU 3 av ax).bind λ(aB,aD,aE,_)=>let aF:=w64 (3+aB);
(fU 3 aD aE).bind λ(aG,aH,aI,_)=>let aJ:=w64 (3+aG);
(fU 3 aH aI).bind λ(aK,aL,aM,_)=>let aO:=w64 (3+aK);let aP:LDIn:=[(aA,(aF,(aJ,(aO,0))))];some (aP,aL,aM,()))else bif(ak==2)then(let ap:LDIn:=[(15,(6,(0,(0,x1))))];some (ap,am,an,()))else bif(ak==3)then((fU 5 am an).bind λ(ap,aq,av,_)=>let ax:=w64 (3+ap);
(gj x1).bind λay=>
(fT a0 ay).bind λaz=>
(fU az aq av).bind λ(aA,aB,aD,_)=>let aE:LDIn:=[(15,(6,(0,(0,x1)))),(17,(6,(ax,(0,aA))))];some (aE,aB,aD,()))else bif(ak==4)then((fU 5 am an).bind λ(ap,aq,av,_)=>let ax:=w64 (3+ap);
(gj x1).bind λay=>
(fT a0 ay).bind λaz=>
(fU az aq av).bind λ(aA,aB,aD,_)=>let aE:LDIn:=[(15,(6,(0,(0,x1)))),(17,(6,(ax,(0,aA))))];some (aE,aB,aD,()))else bif(ak==5)then((fU 4 am an).bind λ(ap,aq,av,_)=>let ax:=w64 (3+ap);
(gj x1).bind λay=>
(fT a0 ay).bind λaz=>
(fU az aq av).bind λ(aA,aB,aD,_)=>let aE:LDIn:=[(15,(6,(0,(0,x1)))),(16,(ax,(6,(0,aA))))];some (aE,aB,aD,()))else bif(ak==6)then((fU 4 am an).bind λ(ap,aq,av,_)=>let ax:=w64 (3+ap);
(gj x1).bind λay=>
(fT a0 ay).bind λaz=>
(fU az aq av).bind λ(aA,aB,aD,_)=>let aE:LDIn:=[(15,(6,(0,(0,x1)))),(16,(ax,(6,(0,aA))))];some (aE,aB,aD,()))else bif(ak==7)then((fU 3 am an).bind λ(ap,aq,av,_)=>
(kT 0 ap).bind λ(ax,ay,az,aA,aB,_)=>let aD:LDIn:=[(ax,(ay,(az,(aA,aB))))];bif(gk 40 aD.length aj.length)then let aE:LDIn:=(List.append aD aj);
(jR 13).bind λ(aF,aG,aH,aI,aJ,_)=>let aK:LDIn:=[(aF,(aG,(aH,(aI,aJ))))];bif(gk 40 aE.length aK.length)then let aL:LDIn:=(List.append aE aK);some (aL,aq,av,())else none else none)else bif(ak==8)then((fU 3 am an).bind λ(ap,aq,av,_)=>
(kT 0 ap).bind λ(ax,ay,az,aA,aB,_)=>let aD:LDIn:=[(ax,(ay,(az,(aA,aB))))];bif(gk 40 aD.length aj.length)then let aE:LDIn:=(List.append aD aj);
(jR 13).bind λ(aF,aG,aH,aI,aJ,_)=>let aK:LDIn:=[(aF,(aG,(aH,(aI,aJ))))];bif(gk 40 aE.length aK.length)then let aL:LDIn:=(List.append aE aK);some (aL,aq,av,())else none else none)else bif(ak==9)then((fU 3 am an).bind λ(ap,aq,av,_)=>
(kT 0 ap).bind λ(ax,ay,az,aA,aB,_)=>let aD:LDIn:=[(ax,(ay,(az,(aA,aB))))];bif(gk 40 aD.length aj.length)then let aE:LDIn:=(List.append aD aj);
(jR 14).bind λ(aF,aG,aH,aI,aJ,_)=>
(pu 3 0).bind λ(aK,aL,aM,aO,aP,_)=>let aQ:LDIn:=[(aF,(aG,(aH,(aI,aJ)))),(aK,(aL,(aM,(aO,aP))))];bif(gk 40 aE.length aQ.length)then let aR:LDIn:=(List.append aE aQ);some (aR,aq,av,())else none else none)else bif(ak==10)then((fU 3 am an).bind λ(ap,aq,av,_)=>
(kT 0 ap).bind λ(ax,ay,az,aA,aB,_)=>
(fU 4 aq av).bind λ(aD,aE,aF,_)=>
(kT 1 aD).bind λ(aG,aH,aI,aJ,aK,_)=>
(jR 3).bind λ(aL,aM,aO,aP,aQ,_)=>
(pu 7 0).bind λ(aR,aS,aT,aU,aV,_)=>let aW:LDIn:=[(ax,(ay,(az,(aA,aB)))),(aG,(aH,(aI,(aJ,aK)))),(aL,(aM,(aO,(aP,aQ)))),(aR,(aS,(aT,(aU,aV))))];some (aW,aE,aF,()))else bif(ak==11)then((pu 0 7).bind λ(ap,aq,av,ax,ay,_)=>let az:LDIn:=[(ap,(aq,(av,(ax,ay))))];bif(gk 40 az.length aj.length)then let aA:LDIn:=(List.append az aj);let aB:v_:=[1,2];
(fU 2 am an).bind λ(aD,aE,aF,_)=>
(gj aD).bind λaG=>
(fT aB aG).bind λ_=>
(fT aB aG).bind λaI=>
(jR aI).bind λ(aJ,aK,aL,aM,aO,_)=>let aP:LDIn:=[(aJ,(aK,(aL,(aM,aO))))];bif(gk 40 aA.length aP.length)then let aQ:LDIn:=(List.append aA aP);some (aQ,aE,aF,())else none else none)else bif(ak==12)then((pu 0 7).bind λ(ap,aq,av,ax,ay,_)=>
(jR 4).bind λ(az,aA,aB,aD,aE,_)=>let aF:LDIn:=[(ap,(aq,(av,(ax,ay)))),(az,(aA,(aB,(aD,aE))))];
(pu 0 7).bind λ(aG,aH,aI,aJ,aK,_)=>
(fU 4 am an).bind λ(aL,aM,aO,_)=>
(kT 1 aL).bind λ(aP,aQ,aR,aS,aT,_)=>
(jR 5).bind λ(aU,aV,aW,aY,aZ,_)=>let ba:LDIn:=[(aG,(aH,(aI,(aJ,aK)))),(aP,(aQ,(aR,(aS,aT)))),(aU,(aV,(aW,(aY,aZ))))];let bc:List LDIn:=[aF,ba];
(fU 2 aM aO).bind λ(bd,be)=>
(gj bd).bind λbg=>
(fT bc bg).bind λ_=>
(fT bc bg).bind λ_=>
(fT bc bg).bind λbj=>some (bj,be))else bif(ak==13)then(let ap:v_:=[6,7,15];
(fU 3 am an).bind λ(aq,av,ax,_)=>
(gj aq).bind λay=>
(fT ap ay).bind λ_=>
(fT ap ay).bind λaA=>
(jR aA).bind λ(aB,aD,aE,aF,aG,_)=>
(fU 3 av ax).bind λ(aH,aI,aJ,_)=>let aK:=w64 (3+aH);
(pu aK 0).bind λ(aL,aM,aO,aP,aQ,_)=>let aR:LDIn:=[(aB,(aD,(aE,(aF,aG)))),(aL,(aM,(aO,(aP,aQ))))];some (aR,aI,aJ,()))else bif(ak==14)then((fU 3 am an).bind λ(ap,aq,av,_)=>
(kT 0 ap).bind λ(ax,ay,az,aA,aB,_)=>let aD:v_:=[8,9];
(fU 2 aq av).bind λ(aE,aF,aG,_)=>
(gj aE).bind λaH=>
(fT aD aH).bind λ_=>
(fT aD aH).bind λaJ=>
(jR aJ).bind λ(aK,aL,aM,aO,aP,_)=>let aQ:LDIn:=[(ax,(ay,(az,(aA,aB)))),(aK,(aL,(aM,(aO,aP))))];some (aQ,aF,aG,()))else bif(ak==15)then((fU 3 am an).bind λ(ap,aq,av,_)=>
(kT 0 ap).bind λ(ax,ay,az,aA,aB,_)=>let aD:v_:=[8,9];
(fU 2 aq av).bind λ(aE,aF,aG,_)=>
(gj aE).bind λaH=>
(fT aD aH).bind λ_=>
(fT aD aH).bind λaJ=>
(jR aJ).bind λ(aK,aL,aM,aO,aP,_)=>let aQ:LDIn:=[(ax,(ay,(az,(aA,aB)))),(aK,(aL,(aM,(aO,aP))))];some (aQ,aF,aG,()))else bif(ak==16)then((fU a1 am an).bind λ(ap,aq,av,_)=>
(kT 0 ap).bind λ(ax,ay,az,aA,aB,_)=>
(pu 1 3).bind λ(aD,aE,aF,aG,aH,_)=>
(jR 10).bind λ(aI,aJ,aK,aL,aM,_)=>let aO:LDIn:=[(ax,(ay,(az,(aA,aB)))),(aD,(aE,(aF,(aG,aH)))),(aI,(aJ,(aK,(aL,aM))))];some (aO,aq,av,()))else bif(ak==17)then(let ap:v_:=[a1,5];
(fU 2 am an).bind λ(aq,av,ax,_)=>
(gj aq).bind λay=>
(fT ap ay).bind λ_=>
(fT ap ay).bind λaA=>
(fU aA av ax).bind λ(aB,aD,aE,_)=>
(kT 0 aB).bind λ(aF,aG,aH,aI,aJ,_)=>let aK:v_:=[12,11];
(fU 2 aD aE).bind λ(aL,aM,aO,_)=>
(gj aL).bind λaP=>
(fT aK aP).bind λ_=>
(fT aK aP).bind λaR=>
(jR aR).bind λ(aS,aT,aU,aV,aW,_)=>let aY:LDIn:=[(aF,(aG,(aH,(aI,aJ)))),(aS,(aT,(aU,(aV,aW))))];some (aY,aM,aO,()))else bif(ak==18)then((fU 4 am an).bind λ(ap,aq,av,_)=>let ax:=w64 (1+ap);
(kT 5 ax).bind λ(ay,az,aA,aB,aD,_)=>
(kT 4 1).bind λ(aE,aF,aG,aH,aI,_)=>let aJ:=w64 (a2+2);let aK:LDIn:=[(ay,(az,(aA,(aB,aD)))),(aE,(aF,(aG,(aH,aI)))),(4,(5,(5,(4,0)))),(20,(5,(0,(0,aJ))))];some (aK,aq,av,()))else let ap:=fZ a0.length;
(rd ap a1 am an).bind λ(aq,av,ax,ay,az,aA,aB,_)=>let aD:LDIn:=[(aq,(av,(ax,(ay,az))))];some (aD,aA,aB,())
def KD:X.Cfg:=⟨E0,[hU,K0,qC,G6,L4,AI],[(156,(uaa KIn))],[]⟩
def C3:Ctr:=⟨122,12,[.ptr ⟨2,0,[]⟩ [0],shU RI,shU I64,shU I64],[(2,yab)],[⟨uL [gP],[.one],[(2,yab)]⟩],ap5 sH⟩
theorem Kn:Lk 6 C3:=ls KD (aC ii (aC Pn (aC sT (aC LF (aC Rw (aC Io aN))))))
def rR:T2m->Option (T2m⊕(Int×Int×Bool×T1V)):=λ(v0,v1,v2,v3,v4,v5,v6,v7,v8,v9,_)=>bif(decide (v1<v0))then((gj v1).bind λx0=>
(fT v8 x0).bind λ_=>
(fT v8 x0).bind λx2=>
(iY x2 v2 v3).bind λ(x3,x4,x5,_)=>bif(gk 24 v9.length (List.length [x3]))then let x6:List LI:=(List.append v9 [x3]);let x7:=w64 (v1+1);some (.inl (v0,x7,x4,x5,v4,v5,v6,v7,v8,x6,()))else none)else some (.inr (v0,v1,false,v2,v3,v4,v5,v6,v7,v8,v9,()))
def rQ:T25->Option (T25⊕T2g):=λ(v0,v1,v2,v3,v4,v5,v6,v7,v8,_)=>bif(decide (v0>0))then((let x0:Int:=(fZ v6.length);let x1:=w64 (x0+1);let x2:=fZ v6.length;
(sH v7 x1 x2 v1 v2).bind λ(x3,x4,x5,_)=>let x6:=fZ v6.length;let x7:=fZ x3.length;let x8:=w64 (x6+x7);bif(decide (x8<=62))then(bif(gk 40 v6.length x3.length)then let x9:LDIn:=(List.append v6 x3);some (v0,x4,x5,v3,v4,v5,x9,v7,v8,())else none)else some (v0,x4,x5,v3,v4,v5,v6,v7,v8,()):Option (T25)).bind λ(x0,x1,x2,x3,x4,x5,x6,x7,x8,_)=>let x9:=w64 (x0-1);some (.inl (x9,x1,x2,x3,x4,x5,x6,x7,x8,())))else some (.inr (v0,false,v1,v2,v3,v4,v5,v6,v7,v8,()))
def jE:T2l->Option (T2l⊕(Int×T2g)):=λ(v0,v1,v2,v3,v4,v5,v6,v7,v8)=>bif(decide (v1<v0))then(((gj v1).bind λx0=>
(fT v7 x0).bind λx1=>
(iW x1.1).bind λ(x2,_)=>bif x2 then((gj v1).bind λx3=>
(fT v7 x3).bind λx4=>let x5:=fZ v7.length;bif(decide (x4.2.2.2.2>=x5))then((gj v1).bind λx6=>
(fT v7 x6).bind λ_=>none)else some (v0,v1,v2,v3,v4,v5,v6,v7,v8))else some (v0,v1,v2,v3,v4,v5,v6,v7,v8):Option (T2l)).bind λ(x0,x1,x2,x3,x4,x5,x6,x7,x8)=>let ac:=w64 (x1+1);some (.inl (x0,ac,x2,x3,x4,x5,x6,x7,x8)))else some (.inr (v0,v1,false,v2,v3,v4,v5,v6,v7,v8))
def om(a0:LI)(a1:Int):Option (LDIn×LI×LLI×T07):=
(rb a0 a1).bind λ(x0,x1,x2,_)=>let x3:=fZ x0.length;
(gc rR NN (x3,0,x1,x2,(),(),(),(),x0,[],())).bind λ(_,_,_,x7,x8,x9,ac,ae,_,ag)=>
(fU 12 x7 x8).bind λ(ai,aj,ak,_)=>let am:=w64 (1+ai);
(gc rQ NN (am,aj,ak,x9,ac,ae,[],ag)).bind λ(_,_,aq,av,ax,ay,az,aA,aB)=>
((fU 4 aq av).bind λ(aE,aF,aG,_)=>bif(aE==0)then(let aH:Int:=(fZ aA.length);let aI:=w64 (aH+1);
(fU aI aF aG).bind λ(aJ,aK,aL,_)=>let aM:LDIn:=[(18,(0,(0,(0,aJ))))];bif(gk 40 aA.length aM.length)then let aO:LDIn:=(List.append aA aM);some (aK,aL,ax,ay,az,aO,aB)else none)else bif(aE==1)then(let aH:LDIn:=[(24,(0,(0,(0,0))))];bif(gk 40 aA.length aH.length)then let aI:LDIn:=(List.append aA aH);some (aF,aG,ax,ay,az,aI,aB)else none)else some (aF,aG,ax,ay,az,aA,aB):Option (T1U)).bind λ(aE,aF,aG,aH,aI,aJ,aK,aL,_)=>
(fU 9 aE aF).bind λ(aM,aO,aP,_)=>
(kT 0 aM).bind λ(aQ,aR,aS,aT,aU,_)=>
(jR 0).bind λ(aV,aW,aY,aZ,ba,_)=>let bc:LDIn:=[(aQ,(aR,(aS,(aT,aU)))),(aV,(aW,(aY,(aZ,ba))))];bif(gk 40 aJ.length bc.length)then let bd:LDIn:=(List.append aJ bc);let be:=fZ bd.length;bif(decide (be>64))then(bif(iQ 0 64 bd.length)then let bf:LDIn:=(nJ bd 0 (Nat.sub 64 0));let bg:=fZ bf.length;
(gc jE NN (bg,0,aO,aP,aG,aH,aI,bf,aK,aL,())).bind λ(_,_,_,bk,bm,_,_,_,bq,bt,bv,_)=>some (bq,bt,bv,bk,bm,())else none)else let bf:=fZ bd.length;
(gc jE NN (bf,0,aO,aP,aG,aH,aI,bd,aK,aL,())).bind λ(_,_,_,bj,bk,_,_,_,bp,bq,bt,_)=>some (bp,bq,bt,bj,bk,())else none
def DX:X.Cfg:=⟨E0,[AH,vj,hU,C3,K0,G6,mF],[(24,(uaa CW)),(25,(uaa CW))],[(lx 4 0 (zl [0,2,3]++(13,.pk ⟨8,1,[]⟩ [0,0])::il [14,15]) [(2,yab),(6,zad),(8,uL [N1,(uaa I64),(uaa (uaa CW))])] 16),⟨14,1,qE,[(.normal,qS Zav uao)]⟩,⟨11,2,qS Zav uao,[(.exit 2,qS (zl [0,2,3]++[Uaa 6,Xaa 32]) uao)]⟩,⟨17,3,qE,[(.normal,qS Uau uao)]⟩,⟨29,4,qE,[(.normal,qS uaw uap)]⟩,⟨26,5,qS uaw uap,[(.exit 5,qS (zl [0,2,3]++il [101,102]++[Xaa 103]) uap)]⟩]⟩
def wM:Ctr:=⟨92,13,[.ptr ⟨2,0,[]⟩ [0]],[(2,yab)],[⟨uaj,[.agg 3],[(2,yab)]⟩],ap2 om⟩
theorem Dv:Lk 7 wM:=ls DX (aC In (aC Ab (aC ii (aC Kn (aC Pn (aC LF (aC oL aN)))))))
def oW:T0H->Option (T0H⊕((Bool×Unit)⊕(LI×T0E))):=λ(v0,v1,v2,v3,_)=>bif(decide (v3<v2))then((gj v3).bind λx0=>
(fT v1 x0).bind λx1=>bif(decide (x1<1))then(some (.inr (.inl (false,()))))else bif(decide (x1>32))then(some (.inr (.inl (false,()))))else let x2:=w64 (v3+1);some (.inl (v0,v1,v2,x2,())))else some (.inr (.inr (v0,v1,v2,v3,false,())))
def iU(a0:LI):f_:=let x0:=fZ a0.length;
(match gc oW NN (a0,a0,x0,0,())with
|none=>none
|some (.inl (x1,_))=>some (x1,())
|some (.inr (x1,_))=>let x6:=fZ x1.length;bif(decide (x6>=1))then(let x7:Int:=(fZ x1.length);some ((decide (x7<=4)),()))else some (false,()))
def Gq:X.Cfg:=⟨E0,[],[],[⟨3,0,qS yaw [],[(.ret,qS uau []),(.exit 0,qS zaw [])]⟩]⟩
def pW:Ctr:=⟨30,14,yai,[],[⟨zab,[.one],[]⟩],ap1 iU⟩
theorem sS:Lk 1 pW:=ls Gq aN
def ui:T2n->Option (T2n⊕(LI×Int×Int×Int×Int×Int×Bool×T0I)):=λ(v0,v1,v2,v3,v4,v5,v6,v7,v8,v9,_)=>bif(decide (v5<v4))then(let x0:Int:=(w64 (v5+v1));bif(v2 != 0)then let x1:Int:=(Int.tmod x0 v2);
(gj x1).bind λx2=>
(fT v8 x2).bind λ_=>
(fT v8 x2).bind λ_=>let x5:=v8.modify x2 λe=>v3;
(gj x1).bind λx6=>
(fT v0 x6).bind λx7=>let x8:=w64 (x7+1);let x9:=w64 (50*v2);bif(x9 != 0)then let ac:Int:=(w64 (Int.tdiv v1 x9));let ae:=Int.tmod ac 40;let af:=w64 (x8+ae);let ag:=w64 (v3+af);let ah:=w64 (v5+1);some (.inl (v0,v1,v2,ag,v4,ah,v6,v7,x5,v9,()))else none else none)else some (.inr (v0,v1,v2,v3,v4,v5,false,v6,v7,v8,v9,()))
def q9(a0:LI)(a1:Int):Option (T0o):=
((iU a0).bind λ(x0,_)=>bif(!x0)then(some (a0,a1,true,(),0,()))else bif(decide (a1<0))then(some (a0,a1,true,(),0,()))else some (a0,a1,(decide (a1>1073741824)),(),0,()):Option (LI×Int×Bool×Unit×Int×Unit)).bind λ(x0,x1,x2,x3,x4,_)=>bif x2 then(some ([],0,1,()))else let x5:=fZ x0.length;
(gj x5).bind λx6=>
(gj x5).bind λx7=>bif(xH x6 x7 1)then let x8:v_:=(List.replicate x6 0);let x9:=w64 (40503*x1);let ac:=wk .u16 x9;bif(x5 != 0)then let ae:Int:=(w64 (Int.tdiv x1 x5));let af:=Int.tmod ae 50;let ag:=w64 (1+af);
(gc ui NN (x0,x1,x5,ag,x5,0,x3,x4,x8,ac,())).bind λ(_,_,_,_,_,_,_,_,_,ax,ay,_)=>some (ax,ay,0,())else none else none
def I5:X.Cfg:=⟨E0,[pW],[],[⟨2,0,qE,[(.normal,(qS [sP 0 RI,Uaa 1,zaa 4,Xaa 21] [(10,uL [N1,CW])]))]⟩,(lx 9 1 (sP 0 RI::Uaa 1::zaa 4::Uaa 6::zaa 7::il [8,36,37]) [(10,uL [N1,CW]),(16,Zaj)] 38)]⟩
def AE:Ctr:=⟨11,15,yab,[],[⟨uL [(uaa I64),CW,I64],[.agg 2,.one],[]⟩],ap2 q9⟩
theorem Ik:Lk 2 AE:=ls I5 (aC sS aN)
def pE(a0 a1:LI)(a2:Int):Option (T0G):=
(fU 1048576 a1 a2).bind λ(x0,x1)=>
(q9 a0 x0).bind λ(x3,x4,_,_)=>some (x3,x4,x1)
def GG:X.Cfg:=⟨E0,[hU,AE],[],[]⟩
def yM:Ctr:=⟨94,16,[.ptr ⟨2,0,[]⟩ [0],shU RI],[(2,yab)],[⟨Zaj,[.agg 2],[(2,yab)]⟩],ap3 pE⟩
theorem FJ:Lk 4 yM:=ls GG (aC ii (aC Ik aN))
def mw(a0 a1 a2 a3:Int):f_:=bif(a0==0)then(bif(a2==0)then(some ((a3==0),()))else some (false,()))else bif(a0==2)then(bif(a2==0)then(some ((a3==0),()))else some (false,()))else bif(a0==1)then(bif(a2==(-1))then(bif(a1==0)then(bif(decide (a3>=0))then(some ((decide (a3<=65535)),()))else some (false,()))else some (false,()))else bif(a1==0)then(bif(decide (a2>=0))then(bif(decide (a2<4))then(bif(decide (a3>=0))then(some ((decide (a3<32)),()))else some (false,()))else some (false,()))else some (false,()))else some (false,()))else some (false,())
def IN:X.Cfg:=⟨E0,[],[],[]⟩
def uX:Ctr:=⟨90,17,[.agg yag],[],[⟨zab,[.one],[]⟩],ap4 mw⟩
theorem zU:Lk 1 uX:=ls IN aN
def l9:LDCn×Int×T0l->Option ((LDCn×Int×T0l)⊕((Bool×Unit)⊕(LDCn×Int×LDCn×T0e))):=λ(v0,v1,v2,v3,v4,_)=>bif(decide (v4<v3))then((gj v4).bind λx0=>
(fT v2 x0).bind λx1=>
(mw x1.1 x1.2.1 x1.2.2.1 x1.2.2.2).bind λ(x2,_)=>bif(!x2)then(some (.inr (.inl (false,()))))else let x3:=w64 (v4+1);some (.inl (v0,v1,v2,v3,x3,())))else some (.inr (.inr (v0,v1,v2,v3,v4,false,())))
def iu(a0:LDCn)(a1:Int):f_:=let x0:=fZ a0.length;
(match gc l9 NN (a0,a1,a0,x0,0,())with
|none=>none
|some (.inl (x1,_))=>some (x1,())
|some (.inr (x1,x2,_))=>let x7:=fZ x1.length;some ((decide (x7<=x2)),()))
def F6:X.Cfg:=⟨E0,[uX],[],[⟨3,0,qS [sP 0 gp,Uaa 1,sP 7 gp,Uaa 8,Uaa 9] [],[(.ret,qS Zat []),(.exit 0,qS [sP 0 gp,Uaa 1,sP 7 gp,Uaa 8,Uaa 9,Xaa 10] [])]⟩]⟩
def jl:Ctr:=⟨62,18,uL [gp,I64],[],[⟨zab,[.one],[]⟩],ap2 iu⟩
theorem jW:Lk 2 jl:=ls F6 (aC zU aN)
def lZ:T0Z->Option (T0Z⊕((Bool×Unit)⊕(LLCn×T0Q))):=λ(v0,v1,v2,v3)=>bif(decide (v2<v1))then((gj v2).bind λx0=>
(fT v0 x0).bind λx1=>
(iu x1 64).bind λ(x2,_)=>bif(!x2)then(some (.inr (.inl (false,()))))else let x3:=w64 (v2+1);some (.inl (v0,v1,x3,v3)))else some (.inr (.inr (v0,v1,v2,false,v3)))
def oT:LDOp×T0z->Option ((LDOp×T0z)⊕((Bool×Unit)⊕(LDOp×T0Q))):=λ(v0,v1,v2,v3,v4,_)=>bif(decide (v2<v1))then((gj v2).bind λx0=>
(fT v0 x0).bind λx1=>
(bif(x1.1==(-1))then(bif(x1.2.1 != 0)then(some (v0,v1,v2,true,v3,v4,x1.1,x1.2.1,x1.2.2,()))else bif x1.2.2 then(some (v0,v1,v2,true,v3,v4,x1.1,x1.2.1,x1.2.2,()))else bif(decide (x1.1<(-1)))then(some (v0,v1,v2,true,v3,v4,x1.1,x1.2.1,x1.2.2,()))else let x2:=fZ v3.length;bif(decide (x1.1>=x2))then(some (v0,v1,v2,true,v3,v4,x1.1,x1.2.1,x1.2.2,()))else bif(decide (x1.1>=0))then(bif(decide (x1.2.1<0))then(some (v0,v1,v2,true,v3,v4,x1.1,x1.2.1,x1.2.2,()))else
(gj x1.1).bind λx3=>
(fT v3 x3).bind λx4=>let x5:=fZ x4.length;some (v0,v1,v2,(decide (x1.2.1>x5)),v3,v4,x1.1,x1.2.1,x1.2.2,()))else some (v0,v1,v2,false,v3,v4,x1.1,x1.2.1,x1.2.2,()))else bif(decide (x1.1<(-1)))then(some (v0,v1,v2,true,v3,v4,x1.1,x1.2.1,x1.2.2,()))else let x2:=fZ v3.length;bif(decide (x1.1>=x2))then(some (v0,v1,v2,true,v3,v4,x1.1,x1.2.1,x1.2.2,()))else bif(decide (x1.1>=0))then(bif(decide (x1.2.1<0))then(some (v0,v1,v2,true,v3,v4,x1.1,x1.2.1,x1.2.2,()))else
(gj x1.1).bind λx3=>
(fT v3 x3).bind λx4=>let x5:=fZ x4.length;some (v0,v1,v2,(decide (x1.2.1>x5)),v3,v4,x1.1,x1.2.1,x1.2.2,()))else some (v0,v1,v2,false,v3,v4,x1.1,x1.2.1,x1.2.2,()):Option (LDOp×Int×Int×Bool×LLCn×LDOp×T0e)).bind λ(x2,x3,x4,x5,x6,x7,_)=>bif x5 then(some (.inr (.inl (false,()))))else let ae:=w64 (x4+1);some (.inl (x2,x3,ae,x6,x7,())))else some (.inr (.inr (v0,v1,v2,false,v3,v4,())))
abbrev z_:=List LDCn
def mQ(a0:z_)(a1:LDOp):f_:=let x0:=fZ a0.length;bif(decide (x0>4))then(some (false,()))else let x1:=fZ a1.length;bif(x1 != 8)then(some (false,()))else let x2:=fZ a0.length;
(match gc lZ NN (a0,x2,0,a0,a1,())with
|none=>none
|some (.inl (x3,_))=>some (x3,())
|some (.inr (_,_,_,_,x7,x8,_))=>let x9:=fZ x8.length;
(match gc oT NN (x8,x9,0,x7,x8,())with
|none=>none
|some (.inl (ac,_))=>some (ac,())
|some (.inr (_,_))=>some (true,())))
def FW:X.Cfg:=⟨E0,[jl],[],[⟨6,0,qS (zaa 1::sP 18 (yaa gp)::il [19,20]) [(4,yae)],[(.ret,qS uau []),(.exit 0,qS [zaa 1,sP 18 (yaa gp),Uaa 19,Uaa 20,Xaa 21] [(4,yae)])]⟩,⟨20,1,qE,[(.normal,qS [zaa 1,sP 29 jm,Uaa 30,Uaa 31,Xaa 81] [(4,yae),(14,yaj)])]⟩,⟨15,2,qS (zaa 1::sP 29 jm::il [30,31]) [(4,yae)],[(.ret,qS uau []),(.exit 2,qS [zaa 1,sP 29 jm,Uaa 30,Uaa 31,Xaa 32] [(4,yae)])]⟩]⟩
def sZ:Ctr:=⟨146,19,[.agg yae],[],[⟨zab,[.one],[]⟩],ap2 mQ⟩
theorem xL:Lk 3 sZ:=ls FW (aC jW aN)
def vW:T1H->Option (T1H⊕(LLI×Int×Int×Bool×T0M)):=λ(v0,v1,v2,v3,v4,v5,v6,_)=>bif(decide (v2<v1))then((gj v2).bind λx0=>
(fT v6 x0).bind λ_=>
(fT v6 x0).bind λ_=>let x3:=v6.modify x0 λe=>((-1),e.2);let x4:=w64 (v2+1);some (.inl (v0,v1,x4,v3,v4,v5,x3,())))else some (.inr (v0,v1,v2,false,v3,v4,v5,v6,()))
def vV:T2B->Option (T2B⊕(LLI×Int×Int×LI×Int×Int×Bool×T13)):=λ(v0,v1,v2,v3,v4,v5,v6,v7,v8,v9,eq,_)=>bif(decide (v5<v4))then((gj v5).bind λx0=>
(fT v3 x0).bind λx1=>let x2:LDCn:=[(0,(x1,(0,0)))];bif(gk 24 eq.length x2.length)then let x3:LDCn:=(List.append eq x2);let x4:=w64 (v5+1);some (.inl (v0,v1,v2,v3,v4,x4,v6,v7,v8,v9,x3,()))else none)else some (.inr (v0,v1,v2,v3,v4,v5,false,v6,v7,v8,v9,eq,()))
def vU:T1G->Option (T1G⊕(LLI×T1s)):=λ(v0,v1,v2,v3,v4,v5,v6,_)=>bif(decide (v2<v1))then((gj v2).bind λx0=>
(fT v0 x0).bind λx1=>let x2:=fZ x1.length;
(gc vV NN (v0,v1,v2,x1,x2,0,v3,v4,v5,v6,[],())).bind λ(x3,x4,x5,_,_,_,_,ac,ae,af,ag,ah,_)=>bif(gk 24 af.length (List.length [ah]))then let ai:z_:=(List.append af [ah]);let aj:=w64 (x5+1);some (.inl (x3,x4,aj,ac,ae,ai,ag,()))else none)else some (.inr (v0,v1,v2,false,v3,v4,v5,v6,()))
def sy(a0:LLI):Option (LLCn×LDOp×Int×Unit):=bif(xH 8 8 3)then let x0:LDOp:=(List.replicate 8 (0,(0,false)));let x1:=fZ x0.length;
(gc vW NN (a0,x1,0,(),(),(),x0,())).bind λ(x2,_,_,_,x6,x7,_,x9,_)=>let ac:=fZ x2.length;
(gc vU NN (x2,ac,0,x6,x7,[],x9,())).bind λ(_,_,_,_,_,_,ak,am,_)=>
(mQ ak am).bind λ(an,_)=>bif(!an)then(some ([],[],3,()))else some (ak,am,0,())else none
def Kr:X.Cfg:=⟨E0,[sZ],[(46,(uaa KCn)),(47,(uaa KCn))],[(lx 4 0 (sP 0 (yaa RW)::zl [2,4]++il [15,16]) [(6,uac),(10,uL [N1,(uaa KOp)])] 17),⟨19,1,qS (zl [2,4]++Zaa 8 19::sP 25 (yaa RW)::il [26,27]++sP 31 RW::il [32,33]) Zaq,[(.exit 4,qS (zl [2,4]++Zaa 8 19::sP 25 (yaa RW)::il [26,27]++sP 31 RW::il [32,33]++[Xaa 34]) Zaq)]⟩,⟨11,2,qS (zl [2,4]++sP 25 (yaa RW)::il [26,27]) [(6,uac),(10,zaf)],[(.exit 2,qS (zl [2,4]++sP 25 (yaa RW)::il [26,27]++[Xaa 28]) [(6,uac),(10,zaf)])]⟩]⟩
def CQ:Ctr:=⟨151,20,uL [(yaa RW)],[],[⟨Xak,[.agg 2,.one],[]⟩],ap1 sy⟩
theorem Kf:Lk 4 CQ:=ls Kr (aC xL aN)
def iH:LLI×Int×Int×LLI×Unit->Option ((LLI×Int×Int×LLI×Unit)⊕(LLI×Int×Int×Bool×LLI×Unit)):=λ(v0,v1,v2,v3,_)=>bif(decide (v2<v1))then((gj v2).bind λx0=>
(fT v0 x0).bind λx1=>bif(gk 2 0 x1.length)then let x2:v_:=(List.append [] x1);bif(gk 24 v3.length (List.length [x2]))then let x3:List LI:=(List.append v3 [x2]);let x4:=w64 (v2+1);some (.inl (v0,v1,x4,x3,()))else none else none)else some (.inr (v0,v1,v2,false,v3,()))
def iM(a0:LLI):Option (LLI×Unit):=let x0:=fZ a0.length;
(gc iH NN (a0,x0,0,[],())).bind λ(_,_,_,_,x5,_)=>some (x5,())
def xY:X.Cfg:=⟨E0,[],[(15,(uaa CW)),(16,(uaa CW))],[(lx 4 0 (Zaa 3 9::sP 6 (yaa RW)::il [7,8]) [(9,zaj)] 9)]⟩
def kG:Ctr:=⟨148,21,uL [(yaa RW)],[],[⟨zaj,[.one],[]⟩],ap1 iM⟩
theorem nz:Lk 1 kG:=ls xY aN
def kA:LDOu×T02->Option ((LDOu×T02)⊕((Bool×Unit)⊕(LDOu×T0e))):=λ(v0,v1,v2,_)=>bif(decide (v2<v1))then((gj v2).bind λx0=>
(fT v0 x0).bind λx1=>
(bif(x1.1 != v2)then(some (v0,v1,v2,true,()))else bif(decide (x1.2.1<0))then(some (v0,v1,v2,true,()))else bif(decide (x1.2.1>=2))then(some (v0,v1,v2,true,()))else let x2:=fZ x1.2.2.length;some (v0,v1,v2,(decide (x2>16)),()):Option (LDOu×T0e)).bind λ(x2,x3,x4,x5,_)=>bif x5 then(some (.inr (.inl (false,()))))else let x6:=w64 (x4+1);some (.inl (x2,x3,x6,())))else some (.inr (.inr (v0,v1,v2,false,())))
def mP(a0:LDOu):f_:=let x0:=fZ a0.length;
(match gc kA NN (a0,x0,0,())with
|none=>none
|some (.inl (x1,_))=>some (x1,())
|some (.inr (_,_))=>some (true,()))
def Ch:X.Cfg:=⟨E0,[],[],[⟨8,0,qE,[(.normal,qS [sP 5 lf,Uaa 6,Uaa 7,Xaa 31] [])]⟩,⟨3,1,qS (sP 5 lf::il [6,7]) [],[(.ret,qS uau []),(.exit 0,qS [sP 5 lf,Uaa 6,Uaa 7,Xaa 8] [])]⟩]⟩
def uR:Ctr:=⟨147,22,uL [lf],[],[⟨zab,[.one],[]⟩],ap1 mP⟩
theorem BU:Lk 1 uR:=ls Ch aN
def lY:T2e->Option (T2e⊕((Bool×Unit)⊕(LLI×T1X))):=λ(v0,v1,v2,v3)=>bif(decide (v2<v1))then((gj v2).bind λx0=>
(fT v0 x0).bind λx1=>let x2:=fZ x1.length;bif(decide (x2>64))then(some (.inr (.inl (false,()))))else let x3:=w64 (v2+1);some (.inl (v0,v1,x3,v3)))else some (.inr (.inr (v0,v1,v2,false,v3)))
def lX:T28->Option (T28⊕((Bool×Unit)⊕(LDOu×T1X))):=λ(v0,v1,v2,v3)=>bif(decide (v2<v1))then((gj v2).bind λx0=>
(fT v0 x0).bind λx1=>
(iu x1.2.2 16).bind λ(x2,_)=>bif(!x2)then(some (.inr (.inl (false,()))))else let x3:=w64 (v2+1);some (.inl (v0,v1,x3,v3)))else some (.inr (.inr (v0,v1,v2,false,v3)))
def lm(a0 a1:LI)(a2:LLI)(a3:z_)(a4:LDOp)(a5:LDOu):f_:=let x0:=fZ a2.length;
(match gc lY NN (a2,x0,0,a0,a1,a2,a3,a4,a5,())with
|none=>none
|some (.inl (x1,_))=>some (x1,())
|some (.inr (_,_,_,_,x5,x6,x7,x8,x9,ac,_))=>let ae:=fZ ac.length;
(match gc lX NN (ac,ae,0,x5,x6,x7,x8,x9,ac,())with
|none=>none
|some (.inl (af,_))=>some (af,())
|some (.inr (_,_,_,_,aj,ak,am,an,ap,aq,_))=>let av:=fZ aj.length;bif(decide (av<=64))then(let ax:Int:=(fZ ak.length);bif(decide (ax<=64))then(let ay:Int:=(fZ am.length);bif(decide (ay<=2))then((mQ an ap).bind λ(az,_)=>bif az then(let aA:Int:=(fZ aq.length);bif(decide (aA<=200))then((mP aq).bind λ(aB,_)=>some (aB,()))else some (false,()))else some (false,()))else some (false,()))else some (false,()))else some (false,())))
def FT:X.Cfg:=⟨E0,[jl,sZ,uR],[],[⟨3,0,qS (zaa 1::sP 8 (yaa RW)::il [9,10]) [(4,Zag)],[(.ret,qS uau []),(.exit 0,qS [zaa 1,sP 8 (yaa RW),Uaa 9,Uaa 10,Xaa 11] [(4,Zag)])]⟩,⟨12,1,qS (zaa 1::sP 19 lf::il [20,21]) [(4,Zag)],[(.ret,qS uau []),(.exit 2,qS [zaa 1,sP 19 lf,Uaa 20,Uaa 21,Xaa 22] [(4,Zag)])]⟩]⟩
def pS:Ctr:=⟨125,23,[.agg Zag],[],[⟨zab,[.one],[]⟩],ap6 lm⟩
theorem sN:Lk 4 pS:=ls FT (aC jW (aC xL (aC BU aN)))
def sx(a0 a1:LLI)(a2 a3:LI):Option (LI×LI×LLI×LLCn×LDOp×Unit×Int×Unit):=
(sy a0).bind λ(x0,x1,x2,_)=>bif(x2 != 0)then(some ([],[],[],[],[],(),x2,()))else bif(gk 2 0 a2.length)then let x3:v_:=(List.append [] a2);bif(gk 2 0 a3.length)then let x4:v_:=(List.append [] a3);
(iM a1).bind λ(x5,_)=>
(lm x3 x4 x5 x0 x1 []).bind λ(x6,_)=>bif(!x6)then(some ([],[],[],[],[],(),3,()))else some (x3,x4,x5,x0,x1,(),0,())else none else none
def FU:X.Cfg:=⟨E0,[CQ,kG,pS],[],[]⟩
def yj:Ctr:=⟨129,24,uL [(yaa RW),(yaa RW),RW,RW],[],[⟨uL [RW,RW,(yaa RW),(yaa gp),jm,N1,I64],[.agg 6,.one],[]⟩],ap4 sx⟩
theorem Fg:Lk 5 yj:=ls FU (aC Kf (aC nz (aC sN aN)))
def oo(a0:LI)(a1:Int):Option (LI×LI×LLI×LLCn×LDOp×Unit×T07):=
(iY 5 a0 a1).bind λ(x0,x1,x2,_)=>
(iY 3 x1 x2).bind λ(x3,x4,x5,_)=>let x6:List LI:=[x0,x3];
(iY 8 x4 x5).bind λ(x7,x8,x9,_)=>
(iY 4 x8 x9).bind λ(ac,ae,af,_)=>let ag:List LI:=[x7,ac];
(iY 5 ae af).bind λ(ah,ai,aj,_)=>
(iY 5 ai aj).bind λ(ak,am)=>
(sx x6 ag ah ak).bind λ(ap,aq,av,ax,ay,az,_,_)=>some (ap,aq,av,ax,ay,az,am)
def DY:X.Cfg:=⟨E0,[vj,yj],[(10,(uaa CW)),(15,(uaa CW))],[]⟩
def wN:Ctr:=⟨95,25,[.ptr ⟨2,0,[]⟩ [0]],[(2,yab)],[⟨uL [RW,RW,(yaa RW),(yaa gp),jm,N1],[.agg 6],[(2,yab)]⟩],ap2 oo⟩
theorem Dw:Lk 6 wN:=ls DY (aC Ab (aC Fg aN))
def me:T2E->Option (T2E⊕((Bool×Unit)⊕T2L)):=λ(v0,v1,v2,v3,v4,v5,v6,v7,v8,v9,eq,eE,_)=>bif(decide (v1<v0))then((gj v1).bind λx0=>
(fT eE x0).bind λ_=>
(fT eE x0).bind λx2=>
(bif(decide (x2<0))then(some (v0,v1,true,v2,v3,v4,v5,v6,v7,v8,v9,eq,eE,()))else bif(decide (x2>=8))then(some (v0,v1,true,v2,v3,v4,v5,v6,v7,v8,v9,eq,eE,()))else
(gj v1).bind λx3=>bif(Nat.beq x3 0)then(bif(!v7)then(some (v0,v1,(x2 != 0),v2,v3,v4,v5,v6,v7,v8,v9,eq,eE,()))else some (v0,v1,false,v2,v3,v4,v5,v6,v7,v8,v9,eq,eE,()))else bif(Nat.beq x3 1)then(bif(!v8)then(some (v0,v1,(x2 != 0),v2,v3,v4,v5,v6,v7,v8,v9,eq,eE,()))else some (v0,v1,false,v2,v3,v4,v5,v6,v7,v8,v9,eq,eE,()))else bif(Nat.beq x3 2)then(bif(!v9)then(some (v0,v1,(x2 != 0),v2,v3,v4,v5,v6,v7,v8,v9,eq,eE,()))else some (v0,v1,false,v2,v3,v4,v5,v6,v7,v8,v9,eq,eE,()))else bif(Nat.beq x3 3)then bif(!eq)then(some (v0,v1,(x2 != 0),v2,v3,v4,v5,v6,v7,v8,v9,eq,eE,()))else some (v0,v1,false,v2,v3,v4,v5,v6,v7,v8,v9,eq,eE,())else none:Option (T2L)).bind λ(x3,x4,x5,x6)=>bif x5 then(some (.inr (.inl (false,()))))else let aj:=w64 (x4+1);some (.inl (x3,aj,x6)))else some (.inr (.inr (v0,v1,false,v2,v3,v4,v5,v6,v7,v8,v9,eq,eE,())))
def pm(a0 a1 a2 a3 a4:Int):f_:=bif(decide (a0<0))then(some (false,()))else bif(decide (a0>24))then(some (false,()))else
(kR a0).bind λ(x0,x1,x2,x3,_)=>let x4:v_:=[a1,a2,a3];let x5:=fZ x4.length;
(match gc me NN (x5,0,a0,a1,a2,a3,a4,x0,x1,x2,x3,x4,())with
|none=>none
|some (.inl (x6,_))=>some (x6,())
|some (.inr (_,_,_,x9,ac,ae,af,ag,_,_,_,ak,_,_))=>
(bif(decide (ag<0))then(some (true,x9,ac,ae,af,ag,()))else bif(decide (ag>65535))then(some (true,x9,ac,ae,af,ag,()))else bif(!ak)then(some ((ag != 0),x9,ac,ae,af,ag,()))else some (false,x9,ac,ae,af,ag,()):Option (Bool×T0R)).bind λ(an,ap,_,_,_,ay,_)=>bif an then(some (false,()))else
(iW ap).bind λ(az,_)=>bif az then(some ((decide (ay<64)),()))else bif(ap==15)then(some ((decide (ay<4)),()))else bif(ap==23)then(some ((decide (ay<=15)),()))else some (true,()))
def Gg:X.Cfg:=⟨E0,[u4,mF],[],[⟨12,0,qE,[(.normal,qS (zl [1,3]++Zaa 23 49::il [24,25]++[Xaa 45]) yap)]⟩,⟨7,1,qS (zl [1,3]++Zaa 23 49::il [24,25]) yap,[(.ret,qS uau []),(.exit 0,qS (zl [1,3]++Zaa 23 49::il [24,25]++[Xaa 26]) yap)]⟩,⟨15,2,qE,[(.normal,qS [zaa 1,Xaa 64] [(4,Uae)])]⟩]⟩
def yx:Ctr:=⟨76,26,[.agg Uae],[],[⟨zab,[.one],[]⟩],ap5 pm⟩
theorem Ft:Lk 2 yx:=ls Gg (aC zX (aC oL aN))
def md:T1n->Option (T1n⊕((Int×Unit)⊕T1F)):=λ(v0,v1,v2,v3,v4,v5,_)=>bif(decide (v2<v1))then((gj v2).bind λx0=>
(fT v0 x0).bind λx1=>let x2:=fZ x1.length;
(gj v2).bind λx3=>
(fT v4 x3).bind λx4=>bif(decide (x2>x4))then(some (.inr (.inl (1,()))))else let x5:=w64 (v2+1);some (.inl (v0,v1,x5,v3,v4,v5,())))else some (.inr (.inr (v0,v1,v2,false,v3,v4,v5,())))
def mc:T1f->Option (T1f⊕((Int×Unit)⊕T1D)):=λ(v0,v1,v2,v3)=>bif(decide (v2<v1))then((gj v2).bind λx0=>
(fT v0 x0).bind λx1=>
(pm x1.1 x1.2.1 x1.2.2.1 x1.2.2.2.1 x1.2.2.2.2).bind λ(x2,_)=>bif(!x2)then(some (.inr (.inl (5,()))))else let x3:=w64 (v2+1);some (.inl (v0,v1,x3,v3)))else some (.inr (.inr (v0,v1,v2,false,v3)))
def mb:T1f->Option (T1f⊕((Int×Unit)⊕T1D)):=λ(v0,v1,v2,v3,v4,v5,_)=>bif(decide (v2<v1))then((gj v2).bind λx0=>
(fT v0 x0).bind λx1=>
((iW x1.1).bind λ(x2,_)=>bif x2 then(let x3:Int:=(fZ v3.length);bif(decide (x1.2.2.2.2>=x3))then(some (v0,v1,v2,true,v3,v4,v5,()))else bif(x1.1==15)then(let x4:Int:=(fZ v4.length);some (v0,v1,v2,(decide (x1.2.2.2.2>=x4)),v3,v4,v5,()))else some (v0,v1,v2,false,v3,v4,v5,()))else bif(x1.1==15)then(let x3:Int:=(fZ v4.length);some (v0,v1,v2,(decide (x1.2.2.2.2>=x3)),v3,v4,v5,()))else some (v0,v1,v2,false,v3,v4,v5,()):Option (T1D)).bind λ(x2,x3,x4,x5,x6)=>bif x5 then(some (.inr (.inl (6,()))))else let x9:=w64 (x4+1);some (.inl (x2,x3,x9,x6)))else some (.inr (.inr (v0,v1,v2,false,v3,v4,v5,())))
def ln(a0:LDIn)(a1:LI)(a2:LLI):h_:=
(iU a1).bind λ(x0,_)=>bif(!x0)then(some (1,()))else let x1:=fZ a2.length;let x2:=fZ a1.length;bif(x1 != x2)then(some (1,()))else let x3:=fZ a2.length;
(match gc md NN (a2,x3,0,a0,a1,a2,())with
|none=>none
|some (.inl (x4,_))=>some (x4,())
|some (.inr (_,_,_,_,x8,x9))=>let ae:=fZ x8.length;bif(decide (ae<1))then(some (3,()))else let af:=fZ x8.length;bif(decide (af>64))then(some (3,()))else let ag:=fZ x8.length;
(match gc mc NN (x8,ag,0,x8,x9)with
|none=>none
|some (.inl (ah,_))=>some (ah,())
|some (.inr (_,_,_,_,am,an))=>let aq:=fZ am.length;
(match gc mb NN (am,aq,0,am,an)with
|none=>none
|some (.inl (av,_))=>some (av,())
|some (.inr (_,_))=>some (0,()))))
def Gf:X.Cfg:=⟨E0,[pW,yx,mF],[],[⟨6,0,qS (zaa 1::sP 23 (yaa RW)::il [24,25]) Uam,[(.ret,qS yau []),(.exit 0,qS [zaa 1,sP 23 (yaa RW),Uaa 24,Uaa 25,Xaa 26] Uam)]⟩,⟨18,1,qS (zaa 1::sP 50 gP::il [51,52]) Uam,[(.ret,qS yau []),(.exit 2,qS [zaa 1,sP 50 gP,Uaa 51,Uaa 52,Xaa 53] Uam)]⟩,⟨32,2,qE,[(.normal,qS [zaa 1,sP 61 gP,Uaa 62,Uaa 63,Xaa 90] Uam)]⟩,⟨27,3,qS (zaa 1::sP 61 gP::il [62,63]) Uam,[(.ret,qS yau []),(.exit 4,qS [zaa 1,sP 61 gP,Uaa 62,Uaa 63,Xaa 64] Uam)]⟩]⟩
def pU:Ctr:=⟨45,27,[.agg uab],[],[⟨zac,[.one],[]⟩],ap3 ln⟩
theorem sQ:Lk 3 pU:=ls Gf (aC sS (aC Ft (aC oL aN)))
def mh:T2A->Option (T2A⊕((Bool×Unit)⊕T2J)):=λ(v0,v1,v2,v3,v4,v5,v6,v7,v8,v9)=>bif(decide (v8<v7))then((match((gj v8).bind λx0=>
(fT v6 x0).bind λx1=>
(gj v1).bind λx2=>
(fT v0 x2).bind λx3=>let x4:=w64 (v2+x3);bif(decide (x4>=x1))then((gj v8).bind λx5=>
(fT v0 x5).bind λx6=>let x7:=w64 (x1+x6);bif(decide (x7>=v2))then(some (.inl (false,())))else some (.inr (v0,v1,v2,v3,v4,v5,v6,v7,v8,false,v9)))else some (.inr (v0,v1,v2,v3,v4,v5,v6,v7,v8,false,v9)):Option ((Bool×Unit)⊕T2J))with
|none=>none
|some (.inl (x0,_))=>some (.inr (.inl (x0,())))
|some (.inr (x0,x1,x2,x3,x4,x5,x6,x7,x8,_,ac))=>let af:=w64 (x8+1);some (.inl (x0,x1,x2,x3,x4,x5,x6,x7,af,ac))))else some (.inr (.inr (v0,v1,v2,v3,v4,v5,v6,v7,v8,false,v9)))
def mg:T1j->Option (T1j⊕((Bool×Unit)⊕(LI×T1h))):=λ(v0,v1,v2,v3,v4,v5,_)=>bif(decide (v3<v2))then((gj v3).bind λx0=>
(fT v1 x0).bind λx1=>bif(decide (x1<0))then(some (.inr (.inl (false,()))))else
(gj v3).bind λx2=>
(fT v0 x2).bind λx3=>let x4:=w64 (512-x3);bif(decide (x1>x4))then(some (.inr (.inl (false,()))))else
(gj v3).bind λx5=>bif(iQ 0 x5 v4.length)then let x6:v_:=(nJ v4 0 (Nat.sub x5 0));let x7:=fZ x6.length;
(match gc mh NN (v0,v3,x1,v1,v2,v3,x6,x7,0,v4,v5,())with
|none=>none
|some (.inl (x8,_))=>some (.inr (.inl (x8,())))
|some (.inr (x8,_,_,ae,af,ag,_,_,_,_,am))=>let ap:=w64 (ag+1);some (.inl (x8,ae,af,ap,am)))else none)else some (.inr (.inr (v0,v1,v2,v3,false,v4,v5,())))
def jQ(a0:LI)(a1:Int)(a2:LI):f_:=
(iU a2).bind λ(x0,_)=>bif(!x0)then(some (false,()))else let x1:=fZ a0.length;let x2:=fZ a2.length;bif(x1 != x2)then(some (false,()))else let x3:=fZ a0.length;
(match gc mg NN (a2,a0,x3,0,a0,a1,())with
|none=>none
|some (.inl (x4,_))=>some (x4,())
|some (.inr (_,_))=>some (true,()))
def Gm:X.Cfg:=⟨E0,[pW],[],[⟨18,0,qE,[(.ret,qS Zat []),(.normal,qS [sP 1 RI,zaa 2,Uaa 5,Uaa 6,sP 21 RI,Uaa 22,Uaa 23,sP 42 RI,Uaa 43,Uaa 44,Xaa 66] Xam)]⟩,⟨15,1,qS (sP 1 RI::zaa 2::il [5,6]++sP 21 RI::il [22,23]++sP 42 RI::il [43,44]) Xam,[(.ret,qS Zat []),(.exit 2,qS [sP 1 RI,zaa 2,Uaa 5,Uaa 6,sP 21 RI,Uaa 22,Uaa 23,sP 42 RI,Uaa 43,Uaa 44,Xaa 45] Xam)]⟩,⟨6,2,qS [sP 1 RI,zaa 2,sP 21 RI,Uaa 22,Uaa 23] Xam,[(.ret,qS Zat []),(.exit 0,qS [sP 1 RI,zaa 2,sP 21 RI,Uaa 22,Uaa 23,Xaa 24] Xam)]⟩]⟩
def nH:Ctr:=⟨33,28,[.agg Uab,shU RI],[],[⟨zab,[.one],[]⟩],ap3 jQ⟩
theorem pM:Lk 2 nH:=ls Gm (aC sS aN)
def AO:Int×Int×LDLn×Unit->Option ((Int×Int×LDLn×Unit)⊕(Int×Int×Bool×LDLn×Unit)):=λ(v0,v1,v2,_)=>bif(decide (v1<v0))then((gj v1).bind λx0=>
(fT v2 x0).bind λ_=>
(fT v2 x0).bind λ_=>let x3:=v2.modify x0 λe=>((-1),e.2);let x4:=w64 (v1+1);some (.inl (v0,x4,x3,())))else some (.inr (v0,v1,false,v2,()))
def po:Option (LDLn×Unit):=bif(xH 4 4 3)then let x0:LDLn:=(List.replicate 4 (0,(false,[])));let x1:=fZ x0.length;
(gc AO NN (x1,0,x0,())).bind λ(_,_,_,x5,_)=>some (x5,())else none
def Gl:X.Cfg:=⟨E0,[],[(3,Su)],[(lx 4 0 (Zaa 1 5::il [5,6]) [(5,uL [iz])] 7)]⟩
def tg:Ctr:=⟨36,29,[],[],[⟨uL [iz],[.one],[]⟩],λh=>po⟩
theorem xS:Lk 1 tg:=ls Gl aN
def uh:T2X->Option (T2X⊕(Int×LLI×Int×Int×LI×T2D)):=λ(v0,v1,v2,v3,v4,v5,v6,v7,v8,v9,eq,eE,eG,eI,eK,eO,_)=>bif(decide (v6<v5))then((gj v6).bind λx0=>
(fT v4 x0).bind λx1=>
(gj v0).bind λx2=>
(fT eq x2).bind λx3=>let x4:=w64 (x3+v6);
(gj x4).bind λx5=>
(fT eK x5).bind λ_=>
(fT eK x5).bind λ_=>let x8:=eK.modify x5 λe=>(e.1,x1);let x9:=w64 (v6+1);some (.inl (v0,v1,v2,v3,v4,v5,x9,v7,v8,v9,eq,eE,eG,eI,x8,eO,())))else some (.inr (v0,v1,v2,v3,v4,v5,v6,false,v7,v8,v9,eq,eE,eG,eI,eK,eO,()))
def qg:T2K->Option (T2K⊕(T0i⊕(LLI×T2D))):=λ(v0,v1,v2,v3,v4,v5)=>bif(decide (v2<v1))then((gj v2).bind λx0=>
(fT v0 x0).bind λx1=>let x2:=fZ x1.length;
(gj v2).bind λx3=>
(fT v4 x3).bind λx4=>bif(decide (x2>x4))then(some (.inr (.inl (1,(),(),()))))else let x5:=fZ x1.length;
(gc uh NN (v2,v0,v1,v2,x1,x5,0,v3,v4,v5)).bind λ(_,x7,x8,x9,_,_,_,_,ah)=>let ax:=w64 (x9+1);some (.inl (x7,x8,ax,ah)))else some (.inr (.inr (v0,v1,v2,false,v3,v4,v5)))
def qZ(a0:LDIn)(a1:LI)(a2:LLI)(a3:LI)(a4:Int):Option (LDCe×LDLn×Int×Unit):=
(jQ a3 a4 a1).bind λ(x0,_)=>bif(!x0)then(some ([],[],1,()))else let x1:=fZ a2.length;let x2:=fZ a1.length;bif(x1 != x2)then(some ([],[],1,()))else bif(xH 512 512 2)then let x3:LDCe:=(List.replicate 512 (0,0));
(po).bind λ(x4,_)=>let x5:=fZ a2.length;
(match gc qg NN (a2,x5,0,a0,a1,a2,a3,a4,(),(),x3,x4,())with
|none=>none
|some (.inl (x6,_,_,_))=>some ([],[],x6,())
|some (.inr (_,_,_,_,_,_,_,_,_,_,_,ak,am,_))=>some (ak,am,0,()))else none
def I2:X.Cfg:=⟨E0,[nH,tg],[],[⟨16,0,qS (zl [2,3,4,6]++Uaa 7::sP 30 (yaa RW)::il [31,32]++sP 46 RW::il [47,48]) yao,[(.exit 2,qS (zl [2,3,4,6]++Uaa 7::sP 30 (yaa RW)::il [31,32]++sP 46 RW::il [47,48]++[Xaa 49]) yao)]⟩,⟨7,1,qS (zl [2,3,4,6]++sP 30 (yaa RW)::il [31,32]) yao,[(.ret,qS zav [(10,uac)]),(.exit 0,qS (zl [2,3,4,6]++sP 30 (yaa RW)::il [31,32]++[Xaa 33]) yao)]⟩]⟩
def AB:Ctr:=⟨64,30,[.agg uab,.agg Uab],[],[⟨uL [(uaa KCe),iz,I64],[.agg 2,.one],[]⟩],ap5 qZ⟩
theorem Ih:Lk 3 AB:=ls I2 (aC pM (aC xS aN))
def tK:T2v->Option (T2v⊕(Int×Bool×T2r)):=λ(v0,v1,v2,v3,v4,v5,v6,v7,v8,v9,eq,_)=>bif(decide (v0<4))then(bif(xH 8 8 2)then let x0:LDCe:=(List.replicate 8 (0,0));
(bif(v0==0)then(some (v0,v1,v2,v3,v4,v5,v6,v7,v8,v9,eq,1,x0,0,0,(-1),(-1),0,0,()))else some (v0,v1,v2,v3,v4,v5,v6,v7,v8,v9,eq,0,x0,0,0,(-1),(-1),0,0,()):Option (Int×Unit×Int×Unit×Unit×Unit×T2N)).bind λ(x1,x2,x3,x4,x5,x6,x7,x8,x9,ac,ae,af,ag,ah,ai,aj,ak,am,an,_)=>let ap:LDTh:=[(af,(ag,(ah,(ai,(aj,(ak,(am,an)))))))];bif(gk 80 ae.length ap.length)then let aq:LDTh:=(List.append ae ap);let av:=w64 (x1+1);some (.inl (av,x2,x3,x4,x5,x6,x7,x8,x9,ac,aq,()))else none else none)else some (.inr (v0,false,v1,v2,v3,v4,v5,v6,v7,v8,v9,eq,()))
def m7(a0:LDIn)(a1:LI)(a2:LLI)(a3:LI)(a4:Int):Option (LI×Int×LDCe×LDLn×LDTh×Int×Unit):=
(ln a0 a1 a2).bind λ(x0,_)=>bif(x0 != 0)then(some ([],0,[],[],[],x0,()))else
(jQ a3 a4 a1).bind λ(x1,_)=>bif(!x1)then(some ([],0,[],[],[],1,()))else
(qZ a0 a1 a2 a3 a4).bind λ(x2,x3,_,_)=>bif(gk 8 0 a3.length)then let x5:v_:=(List.append [] a3);
(gc tK NN (0,(),0,(),(),(),x5,a4,x2,x3,[],())).bind λ(_,_,_,_,_,_,_,ag,ah,ai,aj,ak,_)=>some (ag,ah,ai,aj,ak,0,())else none
def Ge:X.Cfg:=⟨E0,[pU,nH,AB],[(49,Ss),(50,Ss)],[⟨18,0,qE,[(.normal,qS (zl [4,9,11]++[Uaa 38]) [(10,Zab),(20,Zak),(24,Uaf)])]⟩,(lx 12 1 [zaa 4,zaa 9,Uaa 38] [(10,Zab),(20,Zak)] 39)]⟩
def s9:Ctr:=⟨38,31,[.agg uab,.agg Uab],[],[⟨uL [RI,CW,gT,iC,qF,I64],[.agg 5,.one],[]⟩],ap5 m7⟩
theorem xP:Lk 4 s9:=ls Ge (aC sQ (aC pM (aC Ih aN)))
def ia(a0:LI)(a1 a2:Int):f_:=bif(decide (a1>=0))then(let x0:Int:=(fZ a0.length);bif(decide (a1<x0))then(bif(decide (a2>=0))then((gj a1).bind λx1=>
(fT a0 x1).bind λx2=>some ((decide (a2<x2)),()))else some (false,()))else some (false,()))else some (false,())
def DN:X.Cfg:=⟨E0,[],[],[]⟩
def lT:Ctr:=⟨63,32,[shU RI,.agg Zac],[],[⟨zab,[.one],[]⟩],ap3 ia⟩
theorem oy:Lk 1 lT:=ls DN aN
def it(a0:LI)(a1 a2 a3 a4:Int):f_:=bif(a1==0)then(bif(a3==0)then(some ((a4==0),()))else some (false,()))else bif(a1==2)then(bif(a3==0)then(some ((a4==0),()))else some (false,()))else bif(a1==1)then(bif(a2==0)then((ia a0 a3 a4).bind λ(x0,_)=>some (x0,()))else some (false,()))else some (false,())
def DM:X.Cfg:=⟨E0,[lT],[],[]⟩
def lS:Ctr:=⟨35,33,[shU RI,.agg yag],[],[⟨zab,[.one],[]⟩],ap5 it⟩
theorem ox:Lk 2 lS:=ls DM (aC oy aN)
def lj:T2c->Option (T2c⊕((Bool×Unit)⊕(LI×LLCn×Int×Int×LDCn×T0Q))):=λ(v0,v1,v2,v3,v4,v5,v6,v7)=>bif(decide (v6<v5))then((gj v6).bind λx0=>
(fT v4 x0).bind λx1=>
(it v0 x1.1 x1.2.1 x1.2.2.1 x1.2.2.2).bind λ(x2,_)=>bif(!x2)then(some (.inr (.inl (false,()))))else let x3:=w64 (v6+1);some (.inl (v0,v1,v2,v3,v4,v5,x3,v7)))else some (.inr (.inr (v0,v1,v2,v3,v4,v5,v6,false,v7)))
def li:LI×T0Z->Option ((LI×T0Z)⊕((Bool×Unit)⊕(LI×LLCn×T0Q))):=λ(v0,v1,v2,v3,v4)=>bif(decide (v3<v2))then((gj v3).bind λx0=>
(fT v1 x0).bind λx1=>let x2:=fZ x1.length;
(match gc lj NN (v0,v1,v2,v3,x1,x2,0,v4)with
|none=>none
|some (.inl (x3,_))=>some (.inr (.inl (x3,())))
|some (.inr (x3,x4,x5,x6,_,_,_,_,ae))=>let ag:=w64 (x6+1);some (.inl (x3,x4,x5,ag,ae))))else some (.inr (.inr (v0,v1,v2,v3,false,v4)))
def oc(a0:LI)(a1:z_)(a2:LDOp):f_:=let x0:=fZ a1.length;
(match gc li NN (a0,a1,x0,0,a1,a2,())with
|none=>none
|some (.inl (x1,_))=>some (x1,())
|some (.inr (_,_))=>some (true,()))
def DE:X.Cfg:=⟨E0,[lS],[],[⟨9,0,qS (sP 0 RI::sP 10 (yaa gp)::il [11,12]++sP 16 gp::il [17,18]) [(8,yae)],[(.ret,qS Zat []),(.exit 2,qS [sP 0 RI,sP 10 (yaa gp),Uaa 11,Uaa 12,sP 16 gp,Uaa 17,Uaa 18,Xaa 19] [(8,yae)])]⟩,⟨3,1,qS (sP 0 RI::sP 10 (yaa gp)::il [11,12]) [(8,yae)],[(.ret,qS Zat []),(.exit 0,qS [sP 0 RI,sP 10 (yaa gp),Uaa 11,Uaa 12,Xaa 13] [(8,yae)])]⟩]⟩
def wy:Ctr:=⟨126,34,[shU RI,.agg yae],[],[⟨zab,[.one],[]⟩],ap3 oc⟩
theorem Di:Lk 3 wy:=ls DE (aC ox aN)
def kL:T2d->Option (T2d⊕(LLCn×T1Z)):=λ(v0,v1,v2,v3,v4,v5,v6,v7,v8,_)=>bif(decide (v2<v1))then((gj v2).bind λx0=>
(fT v0 x0).bind λx1=>bif(gk 24 0 x1.length)then let x2:LDCn:=(List.append [] x1);bif(gk 24 v7.length (List.length [x2]))then let x3:z_:=(List.append v7 [x2]);let x4:=w64 (v2+1);some (.inl (v0,v1,x4,v3,v4,v5,v6,x3,v8,()))else none else none)else some (.inr (v0,v1,v2,false,v3,v4,v5,v6,v7,v8,()))
def jd(a0:z_)(a1:LDOp):Option (T09):=bif(gk 24 0 a1.length)then let x0:LDOp:=(List.append [] a1);let x1:=fZ a0.length;
(gc kL NN (a0,x1,0,a0,a1,(),(),[],x0,())).bind λ(_,_,_,_,_,_,_,_,ac)=>some (ac)else none
def IF:X.Cfg:=⟨E0,[],[(21,(uaa KCn)),(22,(uaa KCn))],[(lx 4 0 (zl [2,3]++sP 11 (yaa gp)::il [12,13]) [(4,yae),(6,uac),(8,zaf)] 14)]⟩
def lc:Ctr:=⟨149,35,[.agg yae],[],[⟨zaf,[.agg 2],[]⟩],ap2 jd⟩
theorem mC:Lk 1 lc:=ls IF aN
def kJ:LDOu×Int×Int×LDOu×Unit->Option ((LDOu×Int×Int×LDOu×Unit)⊕(LDOu×Int×Int×Bool×LDOu×Unit)):=λ(v0,v1,v2,v3,_)=>bif(decide (v2<v1))then((gj v2).bind λx0=>
(fT v0 x0).bind λx1=>bif(gk 24 0 x1.2.2.length)then let x2:LDCn:=(List.append [] x1.2.2);let x3:LDOu:=[(x1.1,(x1.2.1,x2))];bif(gk 40 v3.length x3.length)then let x4:LDOu:=(List.append v3 x3);let x5:=w64 (v2+1);some (.inl (v0,v1,x5,x4,()))else none else none)else some (.inr (v0,v1,v2,false,v3,()))
def kK(a0:LDOu):Option (LDOu×Unit):=let x0:=fZ a0.length;
(gc kJ NN (a0,x0,0,[],())).bind λ(_,_,_,_,x5,_)=>some (x5,())
def IA:X.Cfg:=⟨E0,[],[(18,JF),(19,JF)],[(lx 4 0 (Zaa 3 9::sP 6 lf::il [7,8]) [(9,uak)] 9)]⟩
def uS:Ctr:=⟨150,36,uL [lf],[],[⟨uak,[.one],[]⟩],ap1 kK⟩
theorem zR:Lk 1 uS:=ls IA aN
def qP(a0 a1:LI)(a2:LLI)(a3:z_)(a4:LDOp)(a5:LDOu):Option (T1k):=bif(gk 2 0 a0.length)then let x0:v_:=(List.append [] a0);bif(gk 2 0 a1.length)then let x1:v_:=(List.append [] a1);
(iM a2).bind λ(x2,_)=>
(jd a3 a4).bind λ(x3,x4,_)=>
(kK a5).bind λ(x5,_)=>some (x0,x1,x2,x3,x4,x5,())else none else none
def Ix:X.Cfg:=⟨E0,[kG,lc,uS],[],[]⟩
def uP:Ctr:=⟨127,37,[.agg Zag],[],[⟨yak,[.agg 6],[]⟩],ap6 qP⟩
theorem zQ:Lk 2 uP:=ls Ix (aC nz (aC mC (aC zR aN)))
def Da:T1a->Option (T1a⊕T1r):=λ(v0,v1,v2,v3,v4,v5,_)=>bif(decide (v1<v0))then((gj v1).bind λx0=>
(fT v4 x0).bind λ_=>
(fT v4 x0).bind λ_=>let x3:=v4.modify x0 λe=>(-1);let x4:=w64 (v1+1);some (.inl (v0,x4,v2,v3,x3,v5,())))else some (.inr (v0,v1,false,v2,v3,v4,v5,()))
def wP:Option (T08):=bif(xH 4 4 1)then let x0:v_:=(List.replicate 4 0);bif(xH 4 4 1)then let x1:List LI:=(List.replicate 4 []);let x2:=fZ x0.length;
(gc Da NN (x2,0,(),(),x0,x1,())).bind λ(_,_,_,_,_,x8)=>some (x8)else none else none
def Kt:X.Cfg:=⟨E0,[],[(4,(uaa I64))],[(lx 4 0 (zl [0,1]++il [8,9]) [(2,uac),(4,yaf)] 10)]⟩
def CR:Ctr:=⟨128,38,[],[],[⟨yaf,[.agg 2],[]⟩],λh=>wP⟩
theorem Kg:Lk 1 CR:=ls Kt aN
def AN:T3Q->Option (T3Q⊕(Int×Bool×T3N)):=λ(v0,v1,v2,v3,v4,v5,v6,v7,v8,v9,eq,eE,eG,eI,eK,eO,eS,eV,eX,eZ,fc,ff,fi,fk,fq,fu,fv,fw,fA,fB,fC,fD,fE,fF,fG,fH,fI,_)=>bif(decide (v0<4))then(bif(gk 8 fI.length (List.length [(-1)]))then let x0:v_:=(List.append fI [(-1)]);let x1:=w64 (v0+1);some (.inl (x1,v1,v2,v3,v4,v5,v6,v7,v8,v9,eq,eE,eG,eI,eK,eO,eS,eV,eX,eZ,fc,ff,fi,fk,fq,fu,fv,fw,fA,fB,fC,fD,fE,fF,fG,fH,x0,()))else none)else some (.inr (v0,false,v1,v2,v3,v4,v5,v6,v7,v8,v9,eq,eE,eG,eI,eK,eO,eS,eV,eX,eZ,fc,ff,fi,fk,fq,fu,fv,fw,fA,fB,fC,fD,fE,fF,fG,fH,fI,()))
def su(a0:LDIn)(a1:LI)(a2:LLI)(a3:LI)(a4:Int)(a5 a6:LI)(a7:LLI)(a8:z_)(a9:LDOp)(ek:LDOu):Option (LDIn×LI×LLI×LI×Int×LDCe×LDLn×LDTh×LI×LI×LLI×LLCn×LDOp×LDOu×LI×LLI×Unit×T07):=
(m7 a0 a1 a2 a3 a4).bind λ(x0,x1,x2,x3,x4,x5,_)=>bif(x5 != 0)then(some ([],[],[],[],0,[],[],[],[],[],[],[],[],[],[],[],(),[],x5,()))else
(lm a5 a6 a7 a8 a9 ek).bind λ(x6,_)=>bif(!x6)then(some ([],[],[],[],0,[],[],[],[],[],[],[],[],[],[],[],(),[],1,()))else
(oc a1 a8 a9).bind λ(x7,_)=>bif(!x7)then(some ([],[],[],[],0,[],[],[],[],[],[],[],[],[],[],[],(),[],1,()))else
(qP a5 a6 a7 a8 a9 ek).bind λ(x8,x9,ac,ae,af,ag,_)=>
(wP).bind λ(ah,ai,_)=>
(gc AN NN (0,(),(),(),(),0,(),(),(),(),(),(),(),(),(),(),(),(),(),a0,a1,a2,x0,x1,x2,x3,x4,x8,x9,ac,ae,af,ag,ah,ai,(),[],())).bind λ(_,_,_,_,_,_,_,_,_,_,_,_,_,_,_,_,_,_,_,_,aL,aM,aO,aP,aQ,aR,aS,aT,aU,aV,aW,aY,aZ,ba,bc,bd,be,bf,_)=>some (aL,aM,aO,aP,aQ,aR,aS,aT,aU,aV,aW,aY,aZ,ba,bc,bd,be,bf,0,())
def FQ:X.Cfg:=⟨E0,[s9,pS,wy,uP,CR],[],[(lx 11 0 [zaa 6,zaa 10,Uaa 39] [(14,Xae),(22,uL [gP,RI,(yaa RW),RI,CW,gT,iC,qF,(uaa CW),(uaa CW),(uaa (uaa CW)),(uaa (uaa KCn)),(uaa KOp),(uaa JF),(uaa I64),(uaa (uaa I64)),N1,(uaa I64)])] 40)]⟩
def yi:Ctr:=⟨93,39,[.agg uab,.agg Uab,.agg Zag],[],[⟨uL [gP,RI,(yaa RW),RI,CW,gT,iC,qF,(uaa CW),(uaa CW),(uaa (uaa CW)),(uaa (uaa KCn)),(uaa KOp),(uaa JF),(uaa I64),(uaa (uaa I64)),N1,(uaa I64),I64],[.agg 18,.one],[]⟩],as2 (as8 ap1) su⟩
theorem Ff:Lk 5 yi:=ls FQ (aC xP (aC sN (aC Di (aC zQ (aC Kg aN)))))
def pF(a0:LI)(a1:Int):Option (T0P):=
(fU 4 a0 a1).bind λ(x0,x1,x2,_)=>let x3:v_:=[0,1,2,3,7,63];
(fU 6 x1 x2).bind λ(x4,x5,x6,_)=>
(gj x4).bind λx7=>
(fT x3 x7).bind λ_=>
(fT x3 x7).bind λx9=>
(fU 4 x5 x6).bind λ(ac,ae)=>some (x0,x9,(ac==0),ae)
def GH:X.Cfg:=⟨E0,[hU],[],[]⟩
def yN:Ctr:=⟨97,40,[.ptr ⟨2,0,[]⟩ [0]],[(2,yab)],[⟨yaj,[.agg 3],[(2,yab)]⟩],ap2 pF⟩
theorem FL:Lk 4 yN:=ls GH (aC ii aN)
def j7:T0D->Option (T0D⊕(LDTh×Int×Int×T00)):=λ(v0,v1,v2,v3,_)=>bif(decide (v2<v1))then(((gj v2).bind λx0=>
(fT v0 x0).bind λx1=>bif(x1.1==1)then(bif(gk 8 v3.length (List.length [v2]))then let x2:v_:=(List.append v3 [v2]);some (v0,v1,v2,x2,())else none)else some (v0,v1,v2,v3,()):Option (T0D)).bind λ(x0,x1,x2,x3,_)=>let x4:=w64 (x2+1);some (.inl (x0,x1,x4,x3,())))else some (.inr (v0,v1,v2,false,v3,()))
def pj(a0:LDTh):Option (LI×Unit):=let x0:=fZ a0.length;
(gc j7 NN (a0,x0,0,[],())).bind λ(_,_,_,_,x5,_)=>some (x5,())
def Ga:X.Cfg:=⟨E0,[],[],[⟨7,0,qE,[(.normal,qS Uaw [(9,uaf)])]⟩,(lx 4 1 Uaw [(9,uaf)] 9)]⟩
def yu:Ctr:=⟨130,41,uL [mn],[],[⟨uaf,[.one],[]⟩],ap1 pj⟩
theorem Fq:Lk 1 yu:=ls Ga aN
def od(a0:LDIn)(a1:LI)(a2:LLI)(a3:LI)(a4:Int)(a5:LDCe)(a6:LDLn)(a7:LDTh)(a8 a9:LI)(ek:LLI)(eu:z_)(eF:LDOp)(eH:LDOu)(eJ:LI)(eM:LLI)(eQ:LDEn)(eU:LI):Option (T36):=bif(gk 8 0 eU.length)then let x0:v_:=(List.append [] eU);bif(gk 184 0 eQ.length)then let x1:LDEn:=(List.append [] eQ);some (a0,a1,a2,a3,a4,a5,a6,a7,a8,a9,ek,eu,eF,eH,eJ,eM,x1,x0,())else none else none
def DF:X.Cfg:=⟨E0,[],[(9,Qd)],[]⟩
def wz:Ctr:=⟨131,42,[.agg Xah],[],[⟨ual,[.agg 18],[]⟩],as1 (as8 (as8 ap1)) od⟩
theorem Dj:Lk 1 wz:=ls DF aN
def qb(a0:LI)(a1:Int)(a2:LDCe)(a3:LDLn)(a4:LDTh)(a5:Int):f_:=bif(decide (a5<0))then(some (false,()))else let x0:=fZ a4.length;bif(decide (a5>=x0))then(some (false,()))else
(gj a5).bind λx1=>
(fT a4 x1).bind λx2=>bif(x2.1==1)then(bif(x2.2.2.2.2.1 != (-1))then(some ((x2.2.2.2.2.2.1==(-1)),()))else some (false,()))else some (false,())
def Ks:X.Cfg:=⟨E0,[],[],[]⟩
def xj:Ctr:=⟨132,43,[.agg yac,shU I64],[],[⟨zab,[.one],[]⟩],ap6 qb⟩
theorem BW:Lk 1 xj:=ls Ks aN
def kS:T27->Option (T27⊕(LDLn×Int×Int×Bool×T1e)):=λ(v0,v1,v2,v3,v4,v5,v6,v7,v8,_)=>bif(decide (v2<v1))then((gj v2).bind λx0=>
(fT v0 x0).bind λx1=>bif(gk 4 0 x1.2.2.length)then let x2:LDCe:=(List.append [] x1.2.2);let x3:LDLn:=[(x1.1,(x1.2.1,x2))];bif(gk 40 v8.length x3.length)then let x4:LDLn:=(List.append v8 x3);let x5:=w64 (v2+1);some (.inl (v0,v1,x5,v3,v4,v5,v6,v7,x4,()))else none else none)else some (.inr (v0,v1,v2,false,v3,v4,v5,v6,v7,v8,()))
def q7(a0:LDCe)(a1:LDLn):Option (T05):=bif(gk 4 0 a0.length)then let x0:LDCe:=(List.append [] a0);let x1:=fZ a1.length;
(gc kS NN (a1,x1,0,a0,a1,(),(),x0,[],())).bind λ(_,_,_,_,_,_,_,_,ac)=>some (ac)else none
def I3:X.Cfg:=⟨E0,[],[(24,Su),(25,Su)],[(lx 4 0 (zl [2,3]++sP 11 iC::il [12,13]) [(4,yad),(6,uac),(8,Uad)] 14)]⟩
def AC:Ctr:=⟨91,44,[.agg yad],[],[⟨Uad,[.agg 2],[]⟩],ap2 q7⟩
theorem Ii:Lk 1 AC:=ls I3 aN
def kP:T37->Option (T37⊕T3e):=λ(v0,v1,v2,v3,v4,v5,v6,v7,v8,v9,eq,eE,eG,eI,eK,eO,eS,eV,_)=>bif(decide (v2<v1))then((gj v2).bind λx0=>
(fT v0 x0).bind λx1=>bif(gk 4 0 x1.2.1.length)then let x2:LDCe:=(List.append [] x1.2.1);let x3:LDTh:=[(x1.1,(x2,(x1.2.2.1,(x1.2.2.2.1,(x1.2.2.2.2.1,(x1.2.2.2.2.2.1,(x1.2.2.2.2.2.2.1,x1.2.2.2.2.2.2.2)))))))];bif(gk 80 eV.length x3.length)then let x4:LDTh:=(List.append eV x3);let x5:=w64 (v2+1);some (.inl (v0,v1,x5,v3,v4,v5,v6,v7,v8,v9,eq,eE,eG,eI,eK,eO,eS,x4,()))else none else none)else some (.inr (v0,v1,v2,false,v3,v4,v5,v6,v7,v8,v9,eq,eE,eG,eI,eK,eO,eS,eV,()))
def kQ(a0:LI)(a1:Int)(a2:LDCe)(a3:LDLn)(a4:LDTh):Option (T0Y):=bif(gk 8 0 a0.length)then let x0:v_:=(List.append [] a0);
(q7 a2 a3).bind λ(x1,x2,_)=>let x3:=fZ a4.length;
(gc kP NN (a4,x3,0,a0,a1,a2,a3,a4,(),0,(),(),(),x0,a1,x1,x2,[],())).bind λ(_,_,_,_,_,_,_,_,_,_,_,_,_,_,am)=>some (am)else none
def IU:X.Cfg:=⟨E0,[AC],[(32,Ss),(33,Ss)],[(lx 4 0 (zl [2,3]++sP 19 mn::il [20,21]) [(4,yac),(6,Zab),(8,Xac)] 22)]⟩
def oO:Ctr:=⟨56,45,[.agg yac],[],[⟨Xac,[.agg 5],[]⟩],ap5 kQ⟩
theorem rj:Lk 2 oO:=ls IU (aC Ii aN)
def mR(a0:LI)(a1:Int)(a2:LDCe)(a3:LDLn)(a4:LDTh)(a5:Int):Option (T1i):=
(kQ a0 a1 a2 a3 a4).bind λ(x0,x1,x2,x3,x4,_)=>
(qb a0 a1 a2 a3 a4 a5).bind λ(x5,_)=>bif(!x5)then(some (x0,x1,x2,x3,x4,false,()))else
(gj a5).bind λx6=>
(fT x4 x6).bind λ_=>
(fT x4 x6).bind λx8=>
(fT x4 x6).bind λx9=>
(fT x4 x6).bind λ_=>let ae:=x4.modify x6 λe=>(e.1,(e.2.1,(e.2.2.1,(e.2.2.2.1,(e.2.2.2.2.1,(x8.2.2.1,e.2.2.2.2.2.2))))));
(fT ae x6).bind λ_=>let ag:=ae.modify x6 λe=>(e.1,(e.2.1,(x9.2.2.2.2.1,e.2.2.2)));some (x0,x1,x2,x3,ag,true,())
def Ci:X.Cfg:=⟨E0,[oO,xj],[],[]⟩
def uT:Ctr:=⟨133,46,[.agg yac,shU I64],[],[⟨yal,[.agg 5,.one],[]⟩],ap6 mR⟩
theorem BV:Lk 3 uT:=ls Ci (aC rj (aC BW aN))
def ng(a0 a1:Int):f_:=some ((decide (a0<=2)),())
def Gs:X.Cfg:=⟨E0,[],[],[]⟩
def tp:Ctr:=⟨79,47,[.agg Xab],[],[⟨zab,[.one],[]⟩],ap2 ng⟩
theorem xT:Lk 1 tp:=ls Gs aN
def oh:T0j->Option (T0j⊕((Bool×Unit)⊕T0B)):=λ(v0,v1,v2,_)=>bif(decide (v2<v1))then((gj v2).bind λx0=>
(fT v0 x0).bind λx1=>
(ng x1.1 x1.2).bind λ(x2,_)=>bif(!x2)then(some (.inr (.inl (false,()))))else let x3:=w64 (v2+1);some (.inl (v0,v1,x3,())))else some (.inr (.inr (v0,v1,v2,false,())))
def qf(a0:LDCe):f_:=let x0:=fZ a0.length;
(match gc oh NN (a0,x0,0,())with
|none=>none
|some (.inl (x1,_))=>some (x1,())
|some (.inr (_,_))=>some (true,()))
def Kz:X.Cfg:=⟨E0,[tp],[],[⟨3,0,qS (sP 5 gT::il [6,7]) [],[(.ret,qS uau []),(.exit 0,qS [sP 5 gT,Uaa 6,Uaa 7,Xaa 8] [])]⟩]⟩
def CY:Ctr:=⟨78,48,uL [gT],[],[⟨zab,[.one],[]⟩],ap1 qf⟩
theorem Kl:Lk 2 CY:=ls Kz (aC xT aN)
def mf:T0W->Option (T0W⊕((Bool×Unit)⊕T1g)):=λ(v0,v1,v2,v3)=>bif(decide (v2<v1))then((gj v2).bind λx0=>
(fT v0 x0).bind λx1=>bif(x1.1==(-1))then(bif x1.2.1 then(some (.inr (.inl (false,()))))else let x2:=fZ x1.2.2.length;bif(decide (x2>0))then(some (.inr (.inl (false,()))))else let x3:=w64 (v2+1);some (.inl (v0,v1,x3,v3)))else
(bif(decide (x1.1<0))then(some (v0,v1,v2,true,v3))else bif(decide (x1.1>=128))then(some (v0,v1,v2,true,v3))else let x2:=Int.tmod x1.1 4;bif(x2 != v2)then(some (v0,v1,v2,true,v3))else let x3:=fZ x1.2.2.length;bif(x3 != 4)then(some (v0,v1,v2,true,v3))else
(qf x1.2.2).bind λ(x4,_)=>some (v0,v1,v2,(!x4),v3):Option (T1g)).bind λ(x2,x3,x4,x5,x6)=>bif x5 then(some (.inr (.inl (false,()))))else let x8:=w64 (x4+1);some (.inl (x2,x3,x8,x6)))else some (.inr (.inr (v0,v1,v2,false,v3)))
def pn(a0:LDCe)(a1:LDLn):f_:=
(let x0:=fZ a0.length;bif(x0 != 512)then(some (true,a0,a1,()))else let x1:=fZ a1.length;bif(x1 != 4)then(some (true,a0,a1,()))else
(qf a0).bind λ(x2,_)=>some ((!x2),a0,a1,()):Option (T0d)).bind λ(x0,x1,x2,_)=>bif x0 then(some (false,()))else let x3:=fZ x2.length;
(match gc mf NN (x2,x3,0,x1,x2,())with
|none=>none
|some (.inl (x4,_))=>some (x4,())
|some (.inr (_,_))=>some (true,()))
def Gk:X.Cfg:=⟨E0,[CY],[],[⟨2,0,qE,[(.normal,qS [zaa 1,Xaa 20] uan)]⟩,⟨16,1,qE,[(.normal,qS [sP 22 iC,Uaa 23,Uaa 24,Xaa 66] uan)]⟩,⟨6,2,qS (sP 22 iC::il [23,24]) uan,[(.ret,qS uau []),(.exit 0,qS [sP 22 iC,Uaa 23,Uaa 24,Xaa 25] uan)]⟩]⟩
def yy:Ctr:=⟨46,49,[.agg yad],[],[⟨zab,[.one],[]⟩],ap2 pn⟩
theorem Fu:Lk 3 yy:=ls Gk (aC Kl aN)
def ma:T2w->Option (T2w⊕((Bool×Unit)⊕(LDCe×Int×Int×Bool×T1R))):=λ(v0,v1,v2,v3)=>bif(decide (v2<v1))then((gj v2).bind λx0=>
(fT v0 x0).bind λx1=>
(ng x1.1 x1.2).bind λ(x2,_)=>bif(!x2)then(some (.inr (.inl (false,()))))else let x3:=w64 (v2+1);some (.inl (v0,v1,x3,v3)))else some (.inr (.inr (v0,v1,v2,false,v3)))
def pi(a0:Int)(a1:LDCe)(a2 a3 a4 a5 a6 a7:Int):f_:=let x0:=fZ a1.length;
(match gc ma NN (a1,x0,0,a0,a1,a2,a3,a4,a5,a6,a7,())with
|none=>none
|some (.inl (x1,_))=>some (x1,())
|some (.inr (_,_,_,_,x5,x6,x7,x8,x9,ac,ae,_,_))=>bif(decide (x5>=0))then(bif(decide (x5<=4))then(let ag:Int:=(fZ x6.length);bif(ag==8)then(bif(decide (x7>=0))then(bif(decide (x7<=255))then(bif(decide (x8>=0))then(bif(decide (x8<=1099511627776))then(bif(decide (x9>=(-1)))then(bif(decide (x9<=255))then(bif(decide (ac>=(-1)))then(bif(decide (ac<=255))then(bif(decide (ae>=0))then(some ((decide (ae<=6)),()))else some (false,()))else some (false,()))else some (false,()))else some (false,()))else some (false,()))else some (false,()))else some (false,()))else some (false,()))else some (false,()))else some (false,()))else some (false,()))else some (false,()))
def F9:X.Cfg:=⟨E0,[tp],[],[⟨3,0,qS (zaa 1::sP 6 gT::il [7,8]) [(4,Xad)],[(.ret,qS uau []),(.exit 0,qS [zaa 1,sP 6 gT,Uaa 7,Uaa 8,Xaa 9] [(4,Xad)])]⟩]⟩
def yr:Ctr:=⟨47,50,[.agg Xad],[],[⟨zab,[.one],[]⟩],as1 (as2 (as4 ap1)) pi⟩
theorem Fp:Lk 2 yr:=ls F9 (aC xT aN)
def oV:T1T->Option (T1T⊕((Bool×Unit)⊕(LDTh×Int×T1p))):=λ(v0,v1,v2,v3)=>bif(decide (v2<v1))then((gj v2).bind λx0=>
(fT v0 x0).bind λx1=>
(pi x1.1 x1.2.1 x1.2.2.1 x1.2.2.2.1 x1.2.2.2.2.1 x1.2.2.2.2.2.1 x1.2.2.2.2.2.2.1 x1.2.2.2.2.2.2.2).bind λ(x2,_)=>bif(!x2)then(some (.inr (.inl (false,()))))else let x3:=w64 (v2+1);some (.inl (v0,v1,x3,v3)))else some (.inr (.inr (v0,v1,v2,false,v3)))
def jf(a0:LDIn)(a1:LI)(a2:LLI)(a3:LI)(a4:Int)(a5:LDCe)(a6:LDLn)(a7:LDTh):f_:=
((ln a0 a1 a2).bind λ(x0,_)=>bif(x0 != 0)then(some (true,a3,a4,a5,a6,a7,()))else
(jQ a3 a4 a1).bind λ(x1,_)=>bif(!x1)then(some (true,a3,a4,a5,a6,a7,()))else
(pn a5 a6).bind λ(x2,_)=>bif(!x2)then(some (true,a3,a4,a5,a6,a7,()))else let x3:=fZ a7.length;some ((x3 != 4),a3,a4,a5,a6,a7,()):Option (T14)).bind λ(x0,x1,x2,x3,x4,x5,_)=>bif x0 then(some (false,()))else let x6:=fZ x5.length;
(match gc oV NN (x5,x6,0,x1,x2,x3,x4,x5,())with
|none=>none
|some (.inl (x7,_))=>some (x7,())
|some (.inr (_,_))=>some (true,()))
def F7:X.Cfg:=⟨E0,[pU,nH,yy,yr],[],[⟨2,0,qE,[(.normal,qS [zaa 3,Xaa 29] [(8,yac)])]⟩,⟨6,1,qS (sP 31 mn::il [32,33]) [(8,yac)],[(.ret,qS Zat []),(.exit 0,qS [sP 31 mn,Uaa 32,Uaa 33,Xaa 34] [(8,yac)])]⟩]⟩
def nG:Ctr:=⟨17,51,[.agg uab,.agg yac],[],[⟨zab,[.one],[]⟩],as1 (as2 (as4 ap1)) jf⟩
theorem pL:Lk 4 nG:=ls F7 (aC sQ (aC pM (aC Fu (aC Fp aN))))
def iy(a0:Nat)(a1:Int)(a2:LDTh):Option (Int×LDTh×Unit):=
(fT a2 a0).bind λ_=>let x1:=a2.modify a0 λe=>(4,e.2);
(fT x1 a0).bind λ_=>let x3:=x1.modify a0 λe=>(e.1,(e.2.1,(e.2.2.1,(e.2.2.2.1,(e.2.2.2.2.1,(e.2.2.2.2.2.1,(a1,e.2.2.2.2.2.2.2)))))));
(fT x3 a0).bind λ_=>let x5:=x3.modify a0 λe=>(e.1,(e.2.1,(e.2.2.1,(e.2.2.2.1,(e.2.2.2.2.1,(e.2.2.2.2.2.1,(e.2.2.2.2.2.2.1,0)))))));some (2,x5,())
def IP:X.Cfg:=⟨E0,[],[],[]⟩
def Aw:Ctr:=⟨175,52,[.ptr ⟨2,0,[((),(8,0))]⟩ [0,0],shU I64],[(2,uL [qF])],[⟨zac,[.one],[(2,uL [qF])]⟩],ap3 iy⟩
theorem Ic:Lk 1 Aw:=ls IP aN
def gK:T2a->Option (T2a⊕(T0c⊕(LI×T24))):=λ(v0,v1,v2,v3,v4,v5)=>bif(decide (v4<v3))then((match((gj v4).bind λx0=>
(fT v2 x0).bind λx1=>bif(decide (v1>=x1))then((gj v4).bind λx2=>
(fT v0 x2).bind λx3=>let x4:=w64 (x1+x3);bif(decide (v1<x4))then(let x5:Int:=(w64 (v1-x1));some (.inl (true,v4,x5,())))else some (.inr (v0,v1,v4,x1,v2,v3,v4,false,v5)))else some (.inr (v0,v1,v4,x1,v2,v3,v4,false,v5)):Option (T0c⊕(LI×Int×Int×T24)))with
|none=>none
|some (.inl (x0,x1,x2,_))=>some (.inr (.inl (x0,x1,x2,())))
|some (.inr (x0,x1,_,_,x4,x5,x6,_,x8))=>let af:=w64 (x6+1);some (.inl (x0,x1,x4,x5,af,x8))))else some (.inr (.inr (v0,v1,v2,v3,v4,false,v5)))
def gY(a0:LI)(a1:Int)(a2:LI)(a3:Int):Option (T0e):=let x0:=fZ a0.length;
(match gc gK NN (a2,a3,a0,x0,0,a0,a1,0,0,())with
|none=>none
|some (.inl (x1,x2,x3,_))=>some (x2,x3,x1,())
|some (.inr (_,_,_,_))=>some (0,0,false,()))
def Cm:X.Cfg:=⟨E0,[],[],[⟨6,0,qE,[(.ret,qS uav [(14,Zac)]),(.normal,qS [sP 1 RI,Uaa 2,zaa 6,Uaa 8,Uaa 9,sP 11 RI,Uaa 12,Uaa 13,Xaa 30] zap)]⟩,⟨3,1,qS [sP 1 RI,Uaa 2,zaa 6,sP 11 RI,Uaa 12,Uaa 13] zap,[(.ret,qS uav [(14,Zac)]),(.exit 0,qS [sP 1 RI,Uaa 2,zaa 6,sP 11 RI,Uaa 12,Uaa 13,Xaa 14] zap)]⟩]⟩
def jH:Ctr:=⟨27,53,[.agg Uab,shU RI,shU I64],[],[⟨yaj,[.agg 2,.one],[]⟩],ap4 gY⟩
theorem kY:Lk 1 jH:=ls Cm aN
def iI(a0:LI)(a1:Int)(a2:LI)(a3 a4 a5:Int)(a6:Bool):Option (T0f):=bif(a3 != 1)then(some (0,0,3,()))else let x0:=wk .i64 a4;
(gY a0 a1 a2 x0).bind λ(x1,x2,x3,_)=>bif(!x3)then(some (0,0,4,()))else
(bif a6 then(let x4:Int:=(wk .i64 a5);let x5:=w64 (x2-x4);some (a2,a0,a1,0,0,x1,x5,()))else let x4:=wk .i64 a5;let x5:=w64 (x2+x4);some (a2,a0,a1,0,0,x1,x5,()):Option (LI×LI×T0R)).bind λ(x4,x5,_,_,_,x9,ac,_)=>
(ia x4 x9 ac).bind λ(ae,_)=>bif(!ae)then(some (0,0,4,()))else
(gj x9).bind λaf=>
(fT x5 af).bind λag=>let ah:=w64 (ag+ac);let ai:=wk .u16 ah;some (1,ai,0,())
def IT:X.Cfg:=⟨E0,[jH,lT],[],[⟨8,0,qE,[(.normal,qS (sP 1 RI::zl [5,10,12]) [(12,Uab),(22,Xab),(26,Zac)])]⟩]⟩
def u3:Ctr:=⟨176,54,[.agg Uab,shU RI,.agg Xab,shU CW,shU .bool],[],[⟨zai,[.agg 2,.one],[]⟩],as2 (as4 ap1) iI⟩
theorem zW:Lk 2 u3:=ls IT (aC kY (aC oy aN))
def na(a0:Int)(a1:LDCe)(a2:LDLn):Option (Nat×T05):=let x0:=w64 (Int.tdiv a0 4);let x1:=Int.tmod x0 4;
(gj x1).bind λx2=>
(fT a2 x2).bind λ_=>
(fT a2 x2).bind λx4=>bif(x4.1==x0)then(some (x2,a1,a2,()))else
((fT a2 x2).bind λx5=>bif x5.2.1 then((fT a2 x2).bind λx6=>let x7:=w64 (x6.1*4);
(gj x7).bind λx8=>bif(iQ x8 a1.length a1.length)then(fT a2 x2).bind λ_=>
(fT a2 x2).bind λac=>bif(iQ x8 (Nat.add x8 (Nat.min ac.2.2.length (Nat.sub a1.length x8))) a1.length)then bif(Nat.blt 0 (Nat.min ac.2.2.length (Nat.sub a1.length x8)))then(let ae:LDCe:=(qi a1 x8 (Nat.min ac.2.2.length (Nat.sub a1.length x8)) ac.2.2);let af:=(fZ (Nat.min ac.2.2.length (Nat.sub a1.length x8)));some (x0,x2,ae,a2,()))else let ae:=(fZ (Nat.min ac.2.2.length (Nat.sub a1.length x8)));some (x0,x2,a1,a2,())else none else none)else some (x0,x2,a1,a2,()):Option (Int×Nat×T05)).bind λ(x5,x6,x7,x8,_)=>
(fT x8 x6).bind λ_=>let ac:=x8.modify x6 λe=>(x5,e.2);
(fT ac x6).bind λ_=>let af:=ac.modify x6 λe=>(e.1,(false,e.2.2));let ag:=w64 (x5*4);let ah:=w64 (x5+1);let ai:=w64 (ah*4);
(gj ag).bind λaj=>
(gj ai).bind λak=>bif(iQ aj ak x7.length)then bif(gk 4 0 (List.length (nJ x7 aj (Nat.sub ak aj))))then let am:LDCe:=(List.append [] (nJ x7 aj (Nat.sub ak aj)));
(fT af x6).bind λ_=>let ap:=af.modify x6 λe=>(e.1,(e.2.1,am));some (x6,x7,ap,())else none else none
def Gj:X.Cfg:=⟨E0,[],[],[⟨6,0,qE,[(.normal,(qS [zaa 0,Uaa 5,(6,.ptr ⟨2,1,[((),(3,0))]⟩ [0,0])] [(2,Uad)]))]⟩]⟩
def te:Ctr:=⟨192,55,[.ptr ⟨2,0,[]⟩ [0],shU I64],[(2,Uad)],[⟨[.ptr ⟨2,1,[((),(3,0))]⟩ [0,0]],[.ptr],[(2,Uad)]⟩],ap3 na⟩
theorem xR:Lk 1 te:=ls Gj aN
def qX(a0:Int)(a1:LDCe)(a2:LDLn):Option (T0x):=
(na a0 a1 a2).bind λ(x0,x1,x2,_)=>
(fT x2 x0).bind λ_=>let x4:=Int.tmod a0 4;
(gj x4).bind λx5=>
(fT x2 x0).bind λx6=>
(fT x6.2.2 x5).bind λ_=>
(fT x2 x0).bind λx8=>
(fT x8.2.2 x5).bind λx9=>some (x9.1,x9.2,x1,x2,())
def IY:X.Cfg:=⟨E0,[te],[],[]⟩
def Az:Ctr:=⟨177,56,[.ptr ⟨2,0,[]⟩ [0],shU I64],[(2,Uad)],[⟨Xab,[.agg 2],[(2,Uad)]⟩],ap3 qX⟩
theorem If:Lk 2 Az:=ls IY (aC xR aN)
def m8(a0 a1 a2:Int)(a3:LDCe)(a4:LDLn):Option (T05):=
(na a0 a3 a4).bind λ(x0,x1,x2,_)=>
(fT x2 x0).bind λ_=>let x4:=Int.tmod a0 4;
(gj x4).bind λx5=>
(fT x2 x0).bind λx6=>
(fT x6.2.2 x5).bind λ_=>
(fT x2 x0).bind λx8=>
(fT x8.2.2 x5).bind λ_=>let ac:=x2.modify x0 λe=>(e.1,(e.2.1,(e.2.2.modify x5 λe=>(a1,a2))));
(fT ac x0).bind λ_=>let af:=ac.modify x0 λe=>(e.1,(true,e.2.2));some (x1,af,())
def Gi:X.Cfg:=⟨E0,[te],[],[]⟩
def td:Ctr:=⟨178,57,[.ptr ⟨2,0,[]⟩ [0],shU I64,.agg Xab],[(2,Uad)],[⟨[],[],[(2,Uad)]⟩],ap5 m8⟩
theorem xQ:Lk 2 td:=ls Gi (aC xR aN)
def mz(a0:Bool):Option (T02):=bif a0 then(some (0,1,()))else some (0,0,())
def IS:X.Cfg:=⟨E0,[],[],[]⟩
def uZ:Ctr:=⟨193,58,zab,[],[⟨Xab,[.agg 2],[]⟩],ap1 mz⟩
theorem zV:Lk 1 uZ:=ls IS aN
def mZ(a0 a1 a2:Int):Option (T0f):=bif(a0==3)then(let x0:Int:=(wk .u16 (a1+a2));some (0,x0,0,()))else bif(a0==4)then(let x0:Int:=(wk .u16 (a1-a2));some (0,x0,0,()))else bif(a0==5)then(let x0:Int:=(wk .u16 (a1*a2));some (0,x0,0,()))else bif(a0==6)then(bif(a2==0)then(some (0,0,5,()))else bif(a0==6)then(bif(a2 != 0)then let x0:Int:=(wk .u16 (Int.tdiv a1 a2));some (0,x0,0,())else none)else bif(a2 != 0)then let x0:Int:=(Int.tmod a1 a2);some (0,x0,0,())else none)else bif(a0==7)then(bif(a2==0)then(some (0,0,5,()))else bif(a0==6)then(bif(a2 != 0)then let x0:Int:=(wk .u16 (Int.tdiv a1 a2));some (0,x0,0,())else none)else bif(a2 != 0)then let x0:Int:=(Int.tmod a1 a2);some (0,x0,0,())else none)else bif(a0==8)then(let x0:Int:=(arR .and .u16 a1 a2);some (0,x0,0,()))else bif(a0==9)then(let x0:Int:=(arR .or .u16 a1 a2);some (0,x0,0,()))else bif(a0==10)then(let x0:Int:=(arR .xor .u16 a1 a2);some (0,x0,0,()))else bif(a0==11)then(let x0:Int:=(Int.tmod a2 16);
(gj x0).bind λx1=>let x2:Int:=(shR .shl .u16 a1 x1);some (0,x2,0,()))else bif(a0==12)then(let x0:Int:=(Int.tmod a2 16);
(gj x0).bind λx1=>let x2:Int:=(shR .shr .u16 a1 x1);some (0,x2,0,()))else
(mz (decide (a1<a2))).bind λ(x0,x1,_)=>some (x0,x1,0,())
def Ck:X.Cfg:=⟨E0,[uZ],[],[]⟩
def uY:Ctr:=⟨194,59,uL [I64,CW,CW],[],[⟨zai,[.agg 2,.one],[]⟩],ap3 mZ⟩
theorem BZ:Lk 2 uY:=ls Ck (aC zV aN)
def m6(a0:LI)(a1:Int)(a2:LI)(a3 a4 a5 a6:Int):Option (Int×Int×T0e):=let x0:=wk .i64 a4;
(gY a0 a1 a2 x0).bind λ(x1,x2,x3,_)=>let x4:=wk .i64 a6;
(gY a0 a1 a2 x4).bind λ(x5,x6,x7,_)=>bif x3 then(bif x7 then(some (x1,x2,x5,x6,(x1==x5),()))else some (x1,x2,x5,x6,false,()))else some (x1,x2,x5,x6,false,())
def Gd:X.Cfg:=⟨E0,[jH],[],[]⟩
def yw:Ctr:=⟨195,60,[.agg Uab,shU RI,.agg Xab,.agg Xab],[],[⟨uL [I64,I64,I64,I64,.bool],[.agg 2,.agg 2,.one],[]⟩],as2 (as4 ap1) m6⟩
theorem Fs:Lk 2 yw:=ls Gd (aC kY aN)
def vy(a0:LI)(a1:Int)(a2:LI)(a3 a4 a5 a6 a7:Int):Option (T0f):=bif(decide (a3<3))then(some (0,0,1,()))else bif(decide (a3>14))then(some (0,0,1,()))else
(match(bif(a3==14)then((mz ((a4==a6)&&((a5==a7)&&true))).bind λ(x0,x1,_)=>some (.inl (0,x0,x1,())))else bif(a4==0)then(bif(a6==0)then((mZ a3 a5 a7).bind λ(x0,x1,x2,_)=>some (.inl (x2,x0,x1,())))else
(bif(a3==3)then(bif(a4==1)then(some (a2,a3,(a6==0),a0,a1,a4,a5,a6,a7,0,0,()))else some (a2,a3,false,a0,a1,a4,a5,a6,a7,0,0,()))else some (a2,a3,false,a0,a1,a4,a5,a6,a7,0,0,()):Option (T2y)).bind λ(x0,x1,x2,x3,x4,x5,x6,x7,x8,x9,ac,_)=>bif x2 then((iI x3 x4 x0 x5 x6 x8 false).bind λ(ae,af,ag,_)=>some (.inl (ag,ae,af,())))else
(bif(x1==3)then(bif(x5==0)then(some (x0,x1,(x7==1),x3,x4,x5,x6,x7,x8,x9,ac,()))else some (x0,x1,false,x3,x4,x5,x6,x7,x8,x9,ac,()))else some (x0,x1,false,x3,x4,x5,x6,x7,x8,x9,ac,()):Option (T2y)).bind λ(ae,af,ag,ah,ai,aj,ak,am,an,ap,aq,_)=>bif ag then((iI ah ai ae am an ak false).bind λ(av,ax,ay,_)=>some (.inl (ay,av,ax,())))else
(bif(af==4)then(bif(aj==1)then(some (ae,af,(am==0),ah,ai,aj,ak,am,an,ap,aq,()))else some (ae,af,false,ah,ai,aj,ak,am,an,ap,aq,()))else some (ae,af,false,ah,ai,aj,ak,am,an,ap,aq,()):Option (T2y)).bind λ(av,ax,ay,az,aA,aB,aD,aE,aF,aG,aH,_)=>bif ay then((iI az aA av aB aD aF true).bind λ(aI,aJ,aK,_)=>some (.inl (aK,aI,aJ,())))else
(bif(ax==4)then(bif(aB==1)then(some (av,ax,(aE==1),az,aA,aB,aD,aE,aF,aG,aH,()))else some (av,ax,false,az,aA,aB,aD,aE,aF,aG,aH,()))else bif(ax==13)then(bif(aB==1)then(some (av,ax,(aE==1),az,aA,aB,aD,aE,aF,aG,aH,()))else some (av,ax,false,az,aA,aB,aD,aE,aF,aG,aH,()))else some (av,ax,false,az,aA,aB,aD,aE,aF,aG,aH,()):Option (T2y)).bind λ(aI,aJ,aK,aL,aM,aO,aP,aQ,aR,aS,aT,_)=>bif aK then((m6 aL aM aI aO aP aQ aR).bind λ(_,aV,_,aY,aZ,_)=>bif(!aZ)then(some (.inl (4,0,0,())))else bif(aJ==13)then((mz (decide (aV<aY))).bind λ(ba,bc,_)=>some (.inl (0,ba,bc,())))else let ba:=w64 (aV-aY);let bc:=wk .u16 ba;some (.inl (0,0,bc,())))else some (.inr (aI,aJ,false,aL,aM,aO,aP,aQ,aR,aS,aT,())))else
(bif(a3==3)then(bif(a4==1)then(some (a2,a3,(a6==0),a0,a1,a4,a5,a6,a7,0,0,()))else some (a2,a3,false,a0,a1,a4,a5,a6,a7,0,0,()))else some (a2,a3,false,a0,a1,a4,a5,a6,a7,0,0,()):Option (T2y)).bind λ(x0,x1,x2,x3,x4,x5,x6,x7,x8,x9,ac,_)=>bif x2 then((iI x3 x4 x0 x5 x6 x8 false).bind λ(ae,af,ag,_)=>some (.inl (ag,ae,af,())))else
(bif(x1==3)then(bif(x5==0)then(some (x0,x1,(x7==1),x3,x4,x5,x6,x7,x8,x9,ac,()))else some (x0,x1,false,x3,x4,x5,x6,x7,x8,x9,ac,()))else some (x0,x1,false,x3,x4,x5,x6,x7,x8,x9,ac,()):Option (T2y)).bind λ(ae,af,ag,ah,ai,aj,ak,am,an,ap,aq,_)=>bif ag then((iI ah ai ae am an ak false).bind λ(av,ax,ay,_)=>some (.inl (ay,av,ax,())))else
(bif(af==4)then(bif(aj==1)then(some (ae,af,(am==0),ah,ai,aj,ak,am,an,ap,aq,()))else some (ae,af,false,ah,ai,aj,ak,am,an,ap,aq,()))else some (ae,af,false,ah,ai,aj,ak,am,an,ap,aq,()):Option (T2y)).bind λ(av,ax,ay,az,aA,aB,aD,aE,aF,aG,aH,_)=>bif ay then((iI az aA av aB aD aF true).bind λ(aI,aJ,aK,_)=>some (.inl (aK,aI,aJ,())))else
(bif(ax==4)then(bif(aB==1)then(some (av,ax,(aE==1),az,aA,aB,aD,aE,aF,aG,aH,()))else some (av,ax,false,az,aA,aB,aD,aE,aF,aG,aH,()))else bif(ax==13)then(bif(aB==1)then(some (av,ax,(aE==1),az,aA,aB,aD,aE,aF,aG,aH,()))else some (av,ax,false,az,aA,aB,aD,aE,aF,aG,aH,()))else some (av,ax,false,az,aA,aB,aD,aE,aF,aG,aH,()):Option (T2y)).bind λ(aI,aJ,aK,aL,aM,aO,aP,aQ,aR,aS,aT,_)=>bif aK then((m6 aL aM aI aO aP aQ aR).bind λ(_,aV,_,aY,aZ,_)=>bif(!aZ)then(some (.inl (4,0,0,())))else bif(aJ==13)then((mz (decide (aV<aY))).bind λ(ba,bc,_)=>some (.inl (0,ba,bc,())))else let ba:=w64 (aV-aY);let bc:=wk .u16 ba;some (.inl (0,0,bc,())))else some (.inr (aI,aJ,false,aL,aM,aO,aP,aQ,aR,aS,aT,())):Option (T0f⊕T2y))with
|none=>none
|some (.inl (x0,x1,x2,_))=>some (x1,x2,x0,())
|some (.inr (_,_,_,_,_,_,_,_,_,_,_,_))=>some (0,0,3,()))
def Na:X.Cfg:=⟨E0,[uZ,uY,u3,yw],[],[⟨9,0,qE,[(.normal,qS (sP 1 RI::Uaa 2::zl [5,8,9,10]++[Xaa 46]) Uan)]⟩,⟨11,1,qE,[(.normal,qS (sP 1 RI::Uaa 2::zl [5,8,9,10]++[Xaa 67]) Uan)]⟩,⟨13,2,qE,[(.normal,qS (sP 1 RI::Uaa 2::zl [5,8,9,10]++[Xaa 88]) Uan)]⟩,⟨15,3,qE,[(.normal,qS Xaw Uan)]⟩,⟨4,4,qE,[(.ret,qS [zaa 10,Uaa 11] [(22,Xab)]),(.normal,qS Xaw Uan)]⟩]⟩
def ED:Ctr:=⟨179,61,[.agg Uab,shU RI,shU I64,.agg Xab,.agg Xab],[],[⟨zai,[.agg 2,.one],[]⟩],as1 (as2 (as4 ap1)) vy⟩
theorem M2:Lk 3 ED:=ls Na (aC zV (aC BZ (aC zW (aC Fs aN))))
def og(a0:Int):f_:=
(iW a0).bind λ(x0,_)=>bif x0 then(some (true,()))else bif(a0==22)then(some (true,()))else some ((a0==24),())
def DL:X.Cfg:=⟨E0,[mF],[],[]⟩
def wE:Ctr:=⟨180,62,zac,[],[⟨zab,[.one],[]⟩],ap1 og⟩
theorem Do:Lk 2 wE:=ls DL (aC oL aN)
def sB(a0:LDIn)(a1:LI)(a2:LLI)(a3:Int)(a4:LI)(a5:Int)(a6:LDCe)(a7:LDLn)(a8:LDTh):Option (T1c):=
(gj a3).bind λx0=>
(fT a8 x0).bind λ_=>
(fT a8 x0).bind λx2=>let x3:=fZ a0.length;bif(decide (x2.2.2.1>=x3))then((iy x0 2 a8).bind λ(x4,x5,_)=>some (x4,a4,a5,a6,a7,x5,()))else
(fT a8 x0).bind λx4=>
(gj x4.2.2.1).bind λx5=>
(fT a0 x5).bind λx6=>
(fT a8 x0).bind λx7=>let x8:=w64 (x7.2.2.1+1);
(fT a8 x0).bind λ_=>
(gj x6.2.1).bind λac=>
(fT a8 x0).bind λae=>
(fT ae.2.1 ac).bind λ_=>
(fT a8 x0).bind λag=>
(fT ag.2.1 ac).bind λah=>
(fT a8 x0).bind λ_=>
(gj x6.2.2.1).bind λaj=>
(fT a8 x0).bind λak=>
(fT ak.2.1 aj).bind λ_=>
(fT a8 x0).bind λan=>
(fT an.2.1 aj).bind λap=>
(match(bif(x6.1==0)then(some (.inl (x0,x8,a4,a5,a6,a7,a8,x6.1,x6.2.1,x6.2.2.1,x6.2.2.2.1,x6.2.2.2.2,())))else bif(x6.1==1)then((fT a8 x0).bind λ_=>let av:=wk .u16 x6.2.2.2.2;
(gj x6.2.1).bind λax=>
(fT a8 x0).bind λay=>
(fT ay.2.1 ax).bind λ_=>
(fT a8 x0).bind λaA=>
(fT aA.2.1 ax).bind λ_=>let aD:=a8.modify x0 λe=>(e.1,((e.2.1.modify ax λe=>(0,av)),e.2.2));some (.inl (x0,x8,a4,a5,a6,a7,aD,x6.1,x6.2.1,x6.2.2.1,x6.2.2.2.1,x6.2.2.2.2,())))else bif(x6.1==2)then((fT a8 x0).bind λ_=>
(gj x6.2.1).bind λav=>
(fT a8 x0).bind λax=>
(fT ax.2.1 av).bind λ_=>
(fT a8 x0).bind λaz=>
(fT az.2.1 av).bind λ_=>let aB:=a8.modify x0 λe=>(e.1,((e.2.1.modify av λe=>(ap.1,ap.2)),e.2.2));some (.inl (x0,x8,a4,a5,a6,a7,aB,x6.1,x6.2.1,x6.2.2.1,x6.2.2.2.1,x6.2.2.2.2,())))else bif(x6.1==15)then((fT a8 x0).bind λ_=>
(gj x6.2.2.2.2).bind λav=>
(fT a4 av).bind λax=>let ay:=wk .u16 ax;
(gj x6.2.1).bind λaz=>
(fT a8 x0).bind λaA=>
(fT aA.2.1 az).bind λ_=>
(fT a8 x0).bind λaD=>
(fT aD.2.1 az).bind λ_=>let aF:=a8.modify x0 λe=>(e.1,((e.2.1.modify az λe=>(1,ay)),e.2.2));some (.inl (x0,x8,a4,a5,a6,a7,aF,x6.1,x6.2.1,x6.2.2.1,x6.2.2.2.1,x6.2.2.2.2,())))else bif(x6.1==16)then((bif(x6.1==17)then(some (x0,x8,a4,a5,a6,a7,a8,a0,a1,a2,x6.1,x6.2.1,x6.2.2.1,x6.2.2.2.1,x6.2.2.2.2,ap.1,ap.2,ah.1,ah.2,()))else some (x0,x8,a4,a5,a6,a7,a8,a0,a1,a2,x6.1,x6.2.1,x6.2.2.1,x6.2.2.2.1,x6.2.2.2.2,ap.1,ap.2,ap.1,ap.2,()):Option (T3f)).bind λ(aq,av,ax,ay,az,aA,aB,_,aE,_,aG,aH,aI,aJ,aK,aL,aM,aO,aP,_)=>let aQ:=wk .u16 aK;
(iI ax ay aE aO aP aQ false).bind λ(_,aS,aT,_)=>bif(aT != 0)then((iy aq aT aB).bind λ(aU,aV,_)=>some (.inr (aU,ax,ay,az,aA,aV,())))else bif(aG==16)then((fT aB aq).bind λ_=>let aV:=wk .i64 aS;
(qX aV az aA).bind λ(aW,aY,aZ,ba,_)=>
(gj aH).bind λbc=>
(fT aB aq).bind λbd=>
(fT bd.2.1 bc).bind λ_=>
(fT aB aq).bind λbf=>
(fT bf.2.1 bc).bind λ_=>let bh:=aB.modify aq λe=>(e.1,((e.2.1.modify bc λe=>(aW,aY)),e.2.2));some (.inl (aq,av,ax,ay,aZ,ba,bh,aG,aH,aI,aJ,aK,())))else let aU:=wk .i64 aS;
(m8 aU aL aM az aA).bind λ(aV,aW,_)=>some (.inl (aq,av,ax,ay,aV,aW,aB,aG,aH,aI,aJ,aK,())))else bif(x6.1==17)then((bif(x6.1==17)then(some (x0,x8,a4,a5,a6,a7,a8,a0,a1,a2,x6.1,x6.2.1,x6.2.2.1,x6.2.2.2.1,x6.2.2.2.2,ap.1,ap.2,ah.1,ah.2,()))else some (x0,x8,a4,a5,a6,a7,a8,a0,a1,a2,x6.1,x6.2.1,x6.2.2.1,x6.2.2.2.1,x6.2.2.2.2,ap.1,ap.2,ap.1,ap.2,()):Option (T3f)).bind λ(aq,av,ax,ay,az,aA,aB,_,aE,_,aG,aH,aI,aJ,aK,aL,aM,aO,aP,_)=>let aQ:=wk .u16 aK;
(iI ax ay aE aO aP aQ false).bind λ(_,aS,aT,_)=>bif(aT != 0)then((iy aq aT aB).bind λ(aU,aV,_)=>some (.inr (aU,ax,ay,az,aA,aV,())))else bif(aG==16)then((fT aB aq).bind λ_=>let aV:=wk .i64 aS;
(qX aV az aA).bind λ(aW,aY,aZ,ba,_)=>
(gj aH).bind λbc=>
(fT aB aq).bind λbd=>
(fT bd.2.1 bc).bind λ_=>
(fT aB aq).bind λbf=>
(fT bf.2.1 bc).bind λ_=>let bh:=aB.modify aq λe=>(e.1,((e.2.1.modify bc λe=>(aW,aY)),e.2.2));some (.inl (aq,av,ax,ay,aZ,ba,bh,aG,aH,aI,aJ,aK,())))else let aU:=wk .i64 aS;
(m8 aU aL aM az aA).bind λ(aV,aW,_)=>some (.inl (aq,av,ax,ay,aV,aW,aB,aG,aH,aI,aJ,aK,())))else bif(x6.1==18)then(some (.inl (x0,x6.2.2.2.2,a4,a5,a6,a7,a8,x6.1,x6.2.1,x6.2.2.1,x6.2.2.2.1,x6.2.2.2.2,())))else bif(x6.1==19)then(bif(ah.1 != 0)then((iy x0 3 a8).bind λ(aq,av,_)=>some (.inr (aq,a4,a5,a6,a7,av,())))else bif((ah.2==0)==(x6.1==19))then(some (.inl (x0,x6.2.2.2.2,a4,a5,a6,a7,a8,x6.1,x6.2.1,x6.2.2.1,x6.2.2.2.1,x6.2.2.2.2,())))else some (.inl (x0,x8,a4,a5,a6,a7,a8,x6.1,x6.2.1,x6.2.2.1,x6.2.2.2.1,x6.2.2.2.2,())))else bif(x6.1==20)then(bif(ah.1 != 0)then((iy x0 3 a8).bind λ(aq,av,_)=>some (.inr (aq,a4,a5,a6,a7,av,())))else bif((ah.2==0)==(x6.1==19))then(some (.inl (x0,x6.2.2.2.2,a4,a5,a6,a7,a8,x6.1,x6.2.1,x6.2.2.1,x6.2.2.2.1,x6.2.2.2.2,())))else some (.inl (x0,x8,a4,a5,a6,a7,a8,x6.1,x6.2.1,x6.2.2.1,x6.2.2.2.1,x6.2.2.2.2,())))else bif(x6.1==21)then((fT a8 x0).bind λ_=>let av:=wk .u16 x8;
(gj x6.2.1).bind λax=>
(fT a8 x0).bind λay=>
(fT ay.2.1 ax).bind λ_=>
(fT a8 x0).bind λaA=>
(fT aA.2.1 ax).bind λ_=>let aD:=a8.modify x0 λe=>(e.1,((e.2.1.modify ax λe=>(0,av)),e.2.2));some (.inl (x0,x6.2.2.2.2,a4,a5,a6,a7,aD,x6.1,x6.2.1,x6.2.2.1,x6.2.2.2.1,x6.2.2.2.2,())))else bif(x6.1==22)then(bif(ah.1 != 0)then((iy x0 3 a8).bind λ(aq,av,_)=>some (.inr (aq,a4,a5,a6,a7,av,())))else bif(decide (ah.2>255))then((iy x0 2 a8).bind λ(aq,av,_)=>some (.inr (aq,a4,a5,a6,a7,av,())))else let aq:=wk .i64 ah.2;some (.inl (x0,aq,a4,a5,a6,a7,a8,x6.1,x6.2.1,x6.2.2.1,x6.2.2.2.1,x6.2.2.2.2,())))else bif(x6.1==24)then((fT a8 x0).bind λaq=>bif(aq.2.2.2.2.2.1==(-1))then((iy x0 1 a8).bind λ(av,ax,_)=>some (.inr (av,a4,a5,a6,a7,ax,())))else
(fT a8 x0).bind λav=>
(fT a8 x0).bind λ_=>let ay:=a8.modify x0 λe=>(e.1,(e.2.1,(e.2.2.1,(e.2.2.2.1,(e.2.2.2.2.1,((-1),e.2.2.2.2.2.2))))));some (.inl (x0,av.2.2.2.2.2.1,a4,a5,a6,a7,ay,x6.1,x6.2.1,x6.2.2.1,x6.2.2.2.1,x6.2.2.2.2,())))else bif(x6.1==23)then((fT a8 x0).bind λ_=>let av:=a8.modify x0 λe=>(2,e.2);
(fT av x0).bind λ_=>let ay:=av.modify x0 λe=>(e.1,(e.2.1,(x8,e.2.2.2)));some (.inr (1,a4,a5,a6,a7,ay,())))else
(fT a8 x0).bind λ_=>
(gj x6.2.2.2.1).bind λav=>
(fT a8 x0).bind λax=>
(fT ax.2.1 av).bind λ_=>
(fT a8 x0).bind λaz=>
(fT az.2.1 av).bind λaA=>
(vy a4 a5 a1 x6.1 ap.1 ap.2 aA.1 aA.2).bind λ(aB,aD,aE,_)=>bif(aE != 0)then((iy x0 aE a8).bind λ(aF,aG,_)=>some (.inr (aF,a4,a5,a6,a7,aG,())))else
(fT a8 x0).bind λ_=>
(gj x6.2.1).bind λaG=>
(fT a8 x0).bind λaH=>
(fT aH.2.1 aG).bind λ_=>
(fT a8 x0).bind λaJ=>
(fT aJ.2.1 aG).bind λ_=>let aL:=a8.modify x0 λe=>(e.1,((e.2.1.modify aG λe=>(aB,aD)),e.2.2));some (.inl (x0,x8,a4,a5,a6,a7,aL,x6.1,x6.2.1,x6.2.2.1,x6.2.2.2.1,x6.2.2.2.2,())):Option ((Nat×Int×LI×Int×LDCe×LDLn×LDTh×T0R)⊕T1c))with
|none=>none
|some (.inl (aq,av,ax,ay,az,aA,aB,aD,_,_,_,_,_))=>
(fT aB aq).bind λ_=>let aJ:=aB.modify aq λe=>(e.1,(e.2.1,(av,e.2.2.2)));
((og aD).bind λ(aK,_)=>bif aK then((fT aJ aq).bind λaL=>let aM:=w64 (aL.2.2.2.1+1);
(fT aJ aq).bind λ_=>let aP:=aJ.modify aq λe=>(e.1,(e.2.1,(e.2.2.1,(aM,e.2.2.2.2))));some (ax,ay,az,aA,aP,()))else some (ax,ay,az,aA,aJ,()):Option (T0Y)).bind λ(aK,aL,aM,aO,aP,_)=>some ((-1),aK,aL,aM,aO,aP,())
|some (.inr (aq,av,ax,ay,az,aA,_))=>some (aq,av,ax,ay,az,aA,()))
def Kw:X.Cfg:=⟨E0,[Aw,u3,Az,td,ED,wE],[],[⟨17,0,qE,[(.normal,(qS (zl [1,3]++(7,.ptr ⟨4,4,[((),(8,0))]⟩ [0,0])::zaa 8::Uaa 9::zl [11,12]) [(4,Xac),(8,uab),(18,Uae),(24,Xab),(26,Xab)]))]⟩,⟨8,1,qE,[(.normal,(qS [zaa 1,(7,.ptr ⟨4,4,[((),(8,0))]⟩ [0,0]),zaa 8,Uaa 9] [(4,Xac),(18,Uae)])),(.ret,qS [zaa 1,Uaa 6] yan)]⟩,⟨52,2,qE,[(.normal,qS [zaa 1] yan)]⟩]⟩
def CV:Ctr:=⟨164,63,[.agg uab,.ptr ⟨4,0,[]⟩ [0],shU I64],[(4,Xac)],[⟨zac,[.one],[(4,Xac)]⟩],as8 ap1 sB⟩
theorem Kj:Lk 4 CV:=ls Kw (aC Ic (aC zW (aC If (aC xQ (aC M2 (aC Do aN))))))
def tJ:T2T->Option (T2T⊕T1y):=λ(v0,v1,v2,v3,v4,v5,v6,v7,v8,v9,eq,eE,eG,eI,eK,_)=>
(sB v2 v3 v4 v0 eq eE eG eI eK).bind λ(x0,x1,x2,x3,x4,x5,_)=>bif(x0 != (-1))then(some (.inr (x0,0,x1,x2,x3,x4,x5,())))else
(gj v0).bind λx6=>
(fT x5 x6).bind λ_=>
(fT x5 x6).bind λx8=>bif(x8.2.2.2.1==v1)then(some (.inr (0,0,x1,x2,x3,x4,x5,())))else some (.inl (v0,v1,v2,v3,v4,v5,v6,v7,v8,v9,x1,x2,x3,x4,x5,()))
def ph(a0:LDIn)(a1:LI)(a2:LLI)(a3:LI)(a4:Int)(a5:LDCe)(a6:LDLn)(a7:LDTh)(a8 a9:Int):Option (T1E):=
((jf a0 a1 a2 a3 a4 a5 a6 a7).bind λ(x0,_)=>bif(!x0)then(some (a8,a9,true,a0,a1,a2,a3,a4,a5,a6,a7,(),0,(),(),(),()))else bif(decide (a8<0))then(some (a8,a9,true,a0,a1,a2,a3,a4,a5,a6,a7,(),0,(),(),(),()))else bif(decide (a8>=4))then(some (a8,a9,true,a0,a1,a2,a3,a4,a5,a6,a7,(),0,(),(),(),()))else bif(decide (a9<1))then(some (a8,a9,true,a0,a1,a2,a3,a4,a5,a6,a7,(),0,(),(),(),()))else some (a8,a9,(decide (a9>64)),a0,a1,a2,a3,a4,a5,a6,a7,(),0,(),(),(),()):Option (Int×Int×Bool×LDIn×LI×LLI×LI×Int×LDCe×LDLn×LDTh×T10)).bind λ(x0,x1,x2,x3,x4,x5,x6,x7,x8,x9,ac,ae,af,ag,ah,ai,_)=>bif x2 then(some ([],0,[],[],[],0,1,()))else
(kQ x6 x7 x8 x9 ac).bind λ(aj,ak,am,an,ap,_)=>
(gj x0).bind λaq=>
(fT ac aq).bind λav=>bif(av.1 != 1)then(some (aj,ak,am,an,ap,3,0,()))else
(gj x0).bind λax=>
(fT ap ax).bind λ_=>
(fT ap ax).bind λaz=>let aA:=w64 (az.2.2.2.1+x1);
(gc tJ NN (x0,aA,x3,x4,x5,ae,af,ag,ah,ai,aj,ak,am,an,ap,())).bind λ(aB,aD,aE,aF,aG,aH,aI,_)=>some (aE,aF,aG,aH,aI,aB,aD,())
def F8:X.Cfg:=⟨E0,[nG,oO,CV],[],[⟨2,0,qE,[(.normal,qS (il [2,3]++zl [4,5,8]++[Xaa 33]) [(10,uab),(12,yac),(18,Zab)])]⟩,⟨9,1,qS (Uaa 2::zl [4,8,11]++[Uaa 12]) [(10,uab),(18,Zab),(24,Xac)],[(.ret,qS (zaa 8::il [9,10]) [(18,Xac)])]⟩]⟩
def yq:Ctr:=⟨152,64,[.agg uab,.agg yac,shU I64,shU I64],[],[⟨uL [RI,CW,(uaa KCe),iz,qF,I64,I64],[.agg 5,.one,.one],[]⟩],as1 (as8 ap1) ph⟩
theorem Fo:Lk 5 yq:=ls F8 (aC pL (aC rj (aC Kj aN)))
def mW(a0:Int):Option (ByteArray×Unit):=let x0:ByteArray:=(bytes []);
(bif(a0==0)then(some (a0,true,()))else bif(a0==8)then(some (a0,true,()))else bif(a0==9)then(some (a0,true,()))else bif(a0==11)then(some (a0,true,()))else some (a0,(a0==12),()):Option (T01)).bind λ(x1,x2,_)=>bif x2 then(let x3:ByteArray:=(bytes [78]);some (x3,()))else bif(x1==1)then(let x3:ByteArray:=(bytes [72,80,78]);some (x3,()))else bif(x1==2)then(let x3:ByteArray:=(bytes [72,80,78]);some (x3,()))else bif(x1==3)then(let x3:ByteArray:=(bytes [78,78]);some (x3,()))else bif(x1==4)then(let x3:ByteArray:=(bytes [72]);some (x3,()))else bif(x1==5)then(let x3:ByteArray:=(bytes [72,78]);some (x3,()))else bif(x1==10)then(let x3:ByteArray:=(bytes [78,88]);some (x3,()))else bif(x1==13)then(let x3:ByteArray:=(bytes [78,80,78]);some (x3,()))else bif(x1==14)then(let x3:ByteArray:=(bytes [78,80,78]);some (x3,()))else let x3:ByteArray:=(bytes []);some (x3,())
def F2:X.Cfg:=⟨E0,[],[],[⟨3,0,qE,[(.normal,qS [Uaa 3,Xaa 4] [])]⟩]⟩
def pT:Ctr:=⟨165,65,zac,[],[⟨uL [.str],[.one],[]⟩],ap1 mW⟩
theorem sO:Lk 1 pT:=ls F2 aN
def oG(a0 a1:Int):f_:=bif(a0==78)then(some ((a1==0),()))else bif(a0==72)then(some ((a1==2),()))else bif(a0==80)then(some ((a1==1),()))else some (true,())
def IL:X.Cfg:=⟨E0,[],[],[]⟩
def uW:Ctr:=⟨166,66,uL [CB,CB],[],[⟨zab,[.one],[]⟩],ap2 oG⟩
theorem zT:Lk 1 uW:=ls IL aN
def kt(a0:Int):h_:=bif(decide (a0<0))then(some ((-1),()))else bif(decide (a0>15))then(some ((-1),()))else bif(a0==1)then(some (1,()))else bif(a0==13)then(some (1,()))else bif(a0==2)then(some (2,()))else bif(a0==14)then(some (2,()))else some (0,())
def DI:X.Cfg:=⟨E0,[],[],[]⟩
def lR:Ctr:=⟨20,67,zac,[],[⟨zac,[.one],[]⟩],ap1 kt⟩
theorem ov:Lk 1 lR:=ls DI aN
def of(a0:LI)(a1:Int)(a2:LI)(a3 a4 a5:Int):Option (T02):=bif(a3 != 1)then(some (0,3,()))else let x0:=wk .i64 a4;
(gY a0 a1 a2 x0).bind λ(x1,x2,x3,_)=>
(bif(!x3)then(some (true,a3,a4,()))else bif(decide (a5<0))then(some (true,a3,a4,()))else
(gj x1).bind λx4=>
(fT a2 x4).bind λx5=>let x6:=w64 (x5-x2);some ((decide (a5>x6)),a3,a4,()):Option (T0c)).bind λ(x4,_,x6,_)=>bif x4 then(some (0,4,()))else let x7:=wk .i64 x6;some (x7,0,())
def DK:X.Cfg:=⟨E0,[jH],[],[⟨6,0,qE,[(.normal,qS [zaa 6,Xaa 41] [(14,Xab)])]⟩]⟩
def wD:Ctr:=⟨167,68,[.agg Uab,shU RI,.agg Xab,shU I64],[],[⟨Zac,[.one,.one],[]⟩],ap6 of⟩
theorem Dn:Lk 2 wD:=ls DK (aC kY aN)
def oU:T3h->Option (T3h⊕((Int×Unit)⊕(Int×ByteArray×Int×Int×Bool×T2Y))):=λ(v0,v1,v2,v3,v4,v5,v6,v7,v8,v9,eq,eE,eG,eI,eK)=>bif(decide (v3<v2))then((gj v3).bind λx0=>
(Ec v1 x0).bind λx1=>
(gj v3).bind λx2=>
(fT eI x2).bind λx3=>
(oG x1 x3.1).bind λ(x4,_)=>bif(!x4)then(some (.inr (.inl (6,()))))else let x5:=w64 (v3+1);some (.inl (v0,v1,v2,x5,v4,v5,v6,v7,v8,v9,eq,eE,eG,eI,eK)))else some (.inr (.inr (v0,v1,v2,v3,false,v4,v5,v6,v7,v8,v9,eq,eE,eG,eI,eK)))
def pf(a0:LDIn)(a1:LI)(a2:LLI)(a3:LI)(a4:Int)(a5:LDCe)(a6:LDLn)(a7:LDTh)(a8:Int):h_:=
(gj a8).bind λx0=>
(fT a7 x0).bind λx1=>let x2:=w64 (x1.2.2.1-1);
(gj x2).bind λx3=>
(fT a0 x3).bind λx4=>
(mW x4.2.2.2.2).bind λ(x5,_)=>let x6:=By x5;
(match gc oU NN (x4.2.2.2.2,x5,x6,0,a0,a1,a2,a3,a4,a5,a6,a7,x1.1,x1.2.1,x1.2.2.1,x1.2.2.2.1,x1.2.2.2.2.1,x1.2.2.2.2.2.1,x1.2.2.2.2.2.2.1,x1.2.2.2.2.2.2.2,())with
|none=>none
|some (.inl (x7,_))=>some (x7,())
|some (.inr (x7,_,_,_,_,af,ag,_,ai,aj,_,_,_,_,aq,_))=>
(kt x7).bind λ(aD,_)=>bif(decide (aD>0))then((fT aq 1).bind λaE=>
(fT aq 2).bind λaF=>let aG:=wk .i64 aF.2;
(of ai aj ag aE.1 aE.2 aG).bind λ(_,aI,_)=>bif(aI != 0)then(some (6,()))else
(fT aq 2).bind λaJ=>bif(decide (aJ.2>16))then(some (6,()))else
(bif(x7==10)then((fT aq 0).bind λaK=>let aL:=wk .i64 aK.2;let aM:=fZ af.length;some ((decide (aL>=aM)),()))else bif(x7==12)then((fT aq 0).bind λaK=>let aL:=wk .i64 aK.2;let aM:=fZ af.length;some ((decide (aL>=aM)),()))else some (false,()):f_).bind λ(aK,_)=>bif aK then(some (6,()))else some (0,()))else
(bif(x7==10)then((fT aq 0).bind λaE=>let aF:=wk .i64 aE.2;let aG:=fZ af.length;some ((decide (aF>=aG)),()))else bif(x7==12)then((fT aq 0).bind λaE=>let aF:=wk .i64 aE.2;let aG:=fZ af.length;some ((decide (aF>=aG)),()))else some (false,()):f_).bind λ(aE,_)=>bif aE then(some (6,()))else some (0,()))
def F5:X.Cfg:=⟨E0,[pT,uW,lR,wD],[],[⟨6,0,qS (zl [3,4,7]++Uaa 8::sP 9 .str::il [29,30]) uar,[(.ret,qS [Uaa 6] []),(.exit 0,qS (zl [3,4,7]++Uaa 8::sP 9 .str::il [29,30]++[Xaa 31]) uar)]⟩,⟨19,1,qE,[(.normal,qS [Xaa 93] [])]⟩]⟩
def yp:Ctr:=⟨153,69,[.agg uab,.agg yac,shU I64],[],[⟨zac,[.one],[]⟩],as8 ap1 pf⟩
theorem Fn:Lk 3 yp:=ls F5 (aC sO (aC zT (aC ov (aC Dn aN))))
def oe(a0:Int)(a1:LDCe)(a2 a3 a4 a5 a6 a7:Int):Option (T1R):=bif(gk 4 0 a1.length)then let x0:LDCe:=(List.append [] a1);some (a0,x0,a2,a3,a4,a5,a6,a7,())else none
def DJ:X.Cfg:=⟨E0,[],[],[]⟩
def wC:Ctr:=⟨168,70,[.agg Xad],[],[⟨Uaf,[.agg 8],[]⟩],as1 (as2 (as4 ap1)) oe⟩
theorem Dm:Lk 1 wC:=ls DJ aN
def qe(a0:Int)(a1:LDCe)(a2 a3 a4 a5 a6 a7 a8 a9:Int):Option (T1R):=
(oe a0 a1 a2 a3 a4 a5 a6 a7).bind λ(_,x1,x2,x3,x4,x5,_)=>some (4,x1,x2,x3,x4,x5,a8,a9,())
def Ky:X.Cfg:=⟨E0,[wC],[],[]⟩
def xk:Ctr:=⟨154,71,[.agg Xad,shU I64,shU CW],[],[⟨Uaf,[.agg 8],[]⟩],as1 (as8 ap1) qe⟩
theorem BY:Lk 2 xk:=ls Ky (aC Dm aN)
def jC(a0:Int):h_:=bif(decide (a0<0))then(some ((-1),()))else bif(decide (a0>15))then(some ((-1),()))else
(mW a0).bind λ(x0,_)=>let x1:=By x0;some (x1,())
def zw:X.Cfg:=⟨E0,[pT],[],[]⟩
def n7:Ctr:=⟨155,72,zac,[],[⟨zac,[.one],[]⟩],ap1 jC⟩
theorem rZ:Lk 2 n7:=ls zw (aC sO aN)
def ji(a0:LI)(a1:Int)(a2:LI)(a3 a4:Int):Option (T0w):=bif(a3==0)then(some (0,a4,0,0,()))else bif(a3==2)then(let x0:Int:=(wk .u16 (a4-a1));some (2,x0,0,0,()))else let x0:=wk .i64 a4;
(gY a0 a1 a2 x0).bind λ(x1,x2,x3,_)=>bif x3 then(some (1,0,x1,x2,()))else let x4:=wk .i64 a4;some (1,0,(-1),x4,())
def Gp:X.Cfg:=⟨E0,[jH],[],[]⟩
def pV:Ctr:=⟨21,73,[.agg Uab,shU RI,.agg Xab],[],[⟨yag,[.agg 4],[]⟩],ap5 ji⟩
theorem sR:Lk 2 pV:=ls Gp (aC kY aN)
def oI(a0:LDCe)(a1:LDLn)(a2:Int):Option (T02):=let x0:=w64 (Int.tdiv a2 4);let x1:=Int.tmod x0 4;
(gj x1).bind λx2=>
(fT a1 x2).bind λx3=>bif(x3.1==x0)then(let x4:Int:=(Int.tmod a2 4);
(gj x4).bind λx5=>
(fT x3.2.2 x5).bind λx6=>some (x6.1,x6.2,()))else
(gj a2).bind λx4=>
(fT a0 x4).bind λx5=>some (x5.1,x5.2,())
def IX:X.Cfg:=⟨E0,[],[],[]⟩
def u6:Ctr:=⟨60,74,[.agg yad,shU I64],[],[⟨Xab,[.agg 2],[]⟩],ap3 oI⟩
theorem zY:Lk 1 u6:=ls IX aN
def kO:T3Z->Option (T3Z⊕(Int×Int×T3U)):=λ(v0,v1,v2,v3,v4,v5,v6,v7,v8,v9,eq,eE,eG,eI,eK,eO,eS,eV,eX,eZ,fc,ff,fi,fk,fq,fu,fv,fw,fA,fB,fC,fD,fE,fF,fG,fH,fI,fJ,fK,_)=>bif(decide (v1<v0))then((gj v1).bind λx0=>
(fT fq x0).bind λx1=>
(ji eX eZ v3 x1.1 x1.2).bind λ(x2,x3,x4,x5,_)=>let x6:LDCn:=[(x2,(x3,(x4,x5)))];bif(gk 24 fJ.length x6.length)then let x7:LDCn:=(List.append fJ x6);let x8:=w64 (v1+1);some (.inl (v0,x8,v2,v3,v4,v5,v6,v7,v8,v9,eq,eE,eG,eI,eK,eO,eS,eV,eX,eZ,fc,ff,fi,fk,fq,fu,fv,fw,fA,fB,fC,fD,fE,fF,fG,fH,fI,x7,fK,()))else none)else some (.inr (v0,v1,false,v2,v3,v4,v5,v6,v7,v8,v9,eq,eE,eG,eI,eK,eO,eS,eV,eX,eZ,fc,ff,fi,fk,fq,fu,fv,fw,fA,fB,fC,fD,fE,fF,fG,fH,fI,fJ,fK,()))
def kN:T3Y->Option (T3Y⊕T43):=λ(v0,v1,v2,v3,v4,v5,v6,v7,v8,v9,eq,eE,eG,eI,eK,eO,eS,eV,eX,eZ,fc,ff,fi,fk,fq,fu,fv,fw,fA,fB,fC,fD,fE,fF,fG,fH,fI,fJ,fK,_)=>bif(decide (v1<v0))then((fT fq 1).bind λx0=>let x1:=wk .i64 x0.2;let x2:=w64 (x1+v1);
(oI fc ff x2).bind λ(x3,x4,_)=>
(ji eX eZ v3 x3 x4).bind λ(x5,x6,x7,x8,_)=>let x9:LDCn:=[(x5,(x6,(x7,x8)))];bif(gk 24 fK.length x9.length)then let ac:LDCn:=(List.append fK x9);let ae:=w64 (v1+1);some (.inl (v0,ae,v2,v3,v4,v5,v6,v7,v8,v9,eq,eE,eG,eI,eK,eO,eS,eV,eX,eZ,fc,ff,fi,fk,fq,fu,fv,fw,fA,fB,fC,fD,fE,fF,fG,fH,fI,fJ,ac,()))else none)else some (.inr (v0,v1,false,v2,v3,v4,v5,v6,v7,v8,v9,eq,eE,eG,eI,eK,eO,eS,eV,eX,eZ,fc,ff,fi,fk,fq,fu,fv,fw,fA,fB,fC,fD,fE,fF,fG,fH,fI,fJ,fK,()))
def oH(a0:LDIn)(a1:LI)(a2:LLI)(a3:LI)(a4:Int)(a5:LDCe)(a6:LDLn)(a7:LDTh)(a8 a9:Int):Option (LI×Int×LDCe×LDLn×LDTh×Int×Int×Int×Int×Int×Int×LDCn×LDCn×Int×Unit):=
(ph a0 a1 a2 a3 a4 a5 a6 a7 a8 a9).bind λ(x0,x1,x2,x3,x4,x5,x6,_)=>bif(x6 != 0)then(some ([],0,[],[],[],0,0,0,0,0,0,[],[],x6,()))else
(gj a8).bind λx7=>
(fT x4 x7).bind λ_=>
(fT x4 x7).bind λx9=>
(fT x4 x7).bind λac=>
(match(bif(x5==2)then(some (.inl ((),0,(),(),(),0,0,0,0,0,0,(),(),x0,x1,x2,x3,x4,a8,x5,x9.2.2.2.2.2.2.1,x9.2.2.2.1,x9.2.2.1,0,(),(),())))else bif(x5==1)then((pf a0 a1 a2 x0 x1 x2 x3 x4 a8).bind λ(ae,_)=>bif(ae != 0)then((qe x9.1 ac.2.1 x9.2.2.1 x9.2.2.2.1 x9.2.2.2.2.1 x9.2.2.2.2.2.1 x9.2.2.2.2.2.2.1 x9.2.2.2.2.2.2.2 ae 0).bind λ(af,ag,ah,ai,aj,ak,am,an,_)=>
(gj a8).bind λap=>
(fT x4 ap).bind λ_=>
(fT x4 ap).bind λ_=>let ax:=x4.modify ap λe=>(af,(ag,(ah,(ai,(aj,(ak,(am,an)))))));some (.inl ((),0,(),(),(),0,0,0,0,0,0,(),(),x0,x1,x2,x3,ax,a8,2,ae,x9.2.2.2.1,x9.2.2.1,0,(),(),())))else let af:=w64 (x9.2.2.1-1);
(gj af).bind λag=>
(fT a0 ag).bind λah=>
(jC ah.2.2.2.2).bind λ(ai,_)=>
(gc kO NN (ai,0,a0,a1,a2,(),0,(),(),(),0,0,0,0,0,0,(),(),x0,x1,x2,x3,x4,x9.1,ac.2.1,x9.2.2.1,x9.2.2.2.1,x9.2.2.2.2.1,x9.2.2.2.2.2.1,x9.2.2.2.2.2.2.1,x9.2.2.2.2.2.2.2,a8,x5,0,x9.2.2.2.1,x9.2.2.1,ah.2.2.2.2,[],(),())).bind λ(_,_,_,an,ap,aq,av,ax,ay,az,aA,aB,aD,aE,aF,aG,aH,aI,aJ,aK,aL,aM,aO,aP,aQ,aR,aS,aT,aU,aV,aW,aY,aZ,ba,bc,bd,be,bf,bg,bh,_)=>
(kt bf).bind λ(bi,_)=>bif(bi==1)then((fT aR 2).bind λbj=>let bk:=wk .i64 bj.2;
(gc kN NN (bk,0,an,ap,aq,av,ax,ay,az,aA,aB,aD,aE,aF,aG,aH,aI,aJ,aK,aL,aM,aO,aP,aQ,aR,aS,aT,aU,aV,aW,aY,aZ,ba,bc,bd,be,bf,bg,[],())).bind λ(bm)=>some (.inr (.inl (bm))))else some (.inr (.inr (.inl (false,an,ap,aq,av,ax,ay,az,aA,aB,aD,aE,aF,aG,aH,aI,aJ,aK,aL,aM,aO,aP,aQ,aR,aS,aT,aU,aV,aW,aY,aZ,ba,bc,bd,be,bf,bg,bh,())))))else some (.inr (.inr (.inr (a8,false,a0,a1,a2,(),0,(),(),(),0,0,0,0,0,0,(),(),x0,x1,x2,x3,x4,x9.1,ac.2.1,x9.2.2.1,x9.2.2.2.1,x9.2.2.2.2.1,x9.2.2.2.2.2.1,x9.2.2.2.2.2.2.1,x9.2.2.2.2.2.2.2,a8,x5,0,x9.2.2.2.1,x9.2.2.1,0,(),(),())))):Option ((Unit×Int×Unit×Unit×Unit×Int×Int×Int×Int×Int×Int×Unit×Unit×LI×Int×LDCe×LDLn×LDTh×T1M)⊕(T43⊕(T3U⊕(Int×Bool×LDIn×LI×LLI×Unit×Int×Unit×Unit×Unit×Int×Int×Int×Int×Int×Int×Unit×Unit×LI×Int×LDCe×LDLn×LDTh×Int×LDCe×Int×Int×Int×Int×Int×Int×T1M)))))with
|none=>none
|some (.inl (_,_,_,_,_,_,_,_,_,_,_,_,_,ay,az,aA,aB,aD,aE,aF,aG,aH,aI,aJ,_,_,_))=>some (ay,az,aA,aB,aD,aE,aF,aG,aH,aI,aJ,[],[],0,())
|some (.inr (.inl (_,_,_,_,_,_,_,_,_,_,_,_,_,_,_,_,_,_,_,aF,aG,aH,aI,aJ,_,_,_,_,_,_,_,_,aT,aU,aV,aW,aY,aZ,ba,bc,_)))=>some (aF,aG,aH,aI,aJ,aT,aU,aV,aW,aY,aZ,ba,bc,0,())
|some (.inr (.inr (.inl (_,_,_,_,_,_,_,_,_,_,_,_,_,_,_,_,_,aD,aE,aF,aG,aH,_,_,_,_,_,_,_,_,aR,aS,aT,aU,aV,aW,aY,_,_))))=>some (aD,aE,aF,aG,aH,aR,aS,aT,aU,aV,aW,aY,[],0,())
|some (.inr (.inr (.inr (_,_,_,_,_,_,_,_,_,_,_,_,_,_,_,_,_,_,aE,aF,aG,aH,aI,_,_,_,_,_,_,_,_,aS,aT,aU,aV,aW,aY,_,_,_))))=>some (aE,aF,aG,aH,aI,aS,aT,aU,aV,aW,aY,[],[],0,()))
def IM:X.Cfg:=⟨E0,[yq,yp,xk,n7,pV,lR,u6],[],[⟨19,0,qS (zl [4,8,9,11,14,15]++il [80,81]) Uap,[(.exit 1,qS (zl [4,8,9,11,14,15]++il [80,81]++[Xaa 82]) Uap)]⟩,⟨26,1,qS (zl [4,8,9,11,14,15]++il [109,110]) Xap,[(.exit 3,qS Zaw Xap)]⟩,⟨7,2,qE,[(.normal,qS (zl [8,9,11,15]) [(18,Zab),(20,zae),(24,uah),(32,zae)]),(.normal,qS Zaw Xap),(.normal,qS (zl [4,8,9,11,14,15]++[Xaa 103]) Uap),(.normal,qS (Uaa 2::zl [4,8,9,11,14,15]++[Xaa 51]) [(10,uab),(18,Zab),(20,zae),(24,uah),(30,Xad),(32,zae)])]⟩]⟩
def Av:Ctr:=⟨134,75,[.agg uab,.agg yac,shU I64,shU I64],[],[⟨uL [RI,CW,(uaa KCe),iz,(uaa nL),I64,I64,I64,I64,I64,I64,(uaa KCn),(uaa KCn),I64],[.agg 5,.agg 8,.one],[]⟩],as1 (as8 ap1) oH⟩
theorem Ib:Lk 6 Av:=ls IM (aC Fo (aC Fn (aC BY (aC rZ (aC sR (aC ov (aC zY aN)))))))
def kM:T2f->Option (T2f⊕T2q):=λ(v0,v1,v2,v3,v4,v5,v6,v7,v8,_)=>bif(decide (v2<v1))then((gj v2).bind λx0=>
(fT v0 x0).bind λx1=>bif(gk 8 0 x1.length)then let x2:v_:=(List.append [] x1);bif(gk 24 v8.length (List.length [x2]))then let x3:List LI:=(List.append v8 [x2]);let x4:=w64 (v2+1);some (.inl (v0,v1,x4,v3,v4,v5,v6,v7,x3,()))else none else none)else some (.inr (v0,v1,v2,false,v3,v4,v5,v6,v7,v8,()))
def oE(a0:LI)(a1:LLI):Option (T08):=bif(gk 8 0 a0.length)then let x0:v_:=(List.append [] a0);let x1:=fZ a1.length;
(gc kM NN (a1,x1,0,a0,a1,(),(),x0,[],())).bind λ(_,_,_,_,_,_,_,_,ac)=>some (ac)else none
def IJ:X.Cfg:=⟨E0,[],[(21,(uaa I64)),(22,(uaa I64))],[(lx 4 0 (zl [2,3]++sP 11 (yaa RI)::il [12,13]) [(4,Xaf),(6,uac),(8,yaf)] 14)]⟩
def rx:Ctr:=⟨169,76,[.agg Xaf],[],[⟨yaf,[.agg 2],[]⟩],ap2 oE⟩
theorem uB:Lk 1 rx:=ls IJ aN
def jK(a0:LI)(a1:LLI)(a2 a3:Int):Option (LI×LLI×T01):=
(oE a0 a1).bind λ(x0,x1,_)=>
(bif(decide (a2<0))then(some (a2,true,(),(),x0,x1,()))else bif(decide (a2>=4))then(some (a2,true,(),(),x0,x1,()))else
(gj a2).bind λx2=>
(fT a0 x2).bind λx3=>some (a2,(x3 != a3),(),(),x0,x1,()):Option (T16)).bind λ(x2,x3,_,_,x6,x7,_)=>bif x3 then(some (x6,x7,(-1),false,()))else
(gj x2).bind λx8=>
(fT x6 x8).bind λ_=>
(fT x6 x8).bind λ_=>let ae:=x6.modify x8 λe=>(-1);
(gj x2).bind λaf=>
(fT x7 af).bind λ_=>
(fT x7 af).bind λ_=>
(fT x7 af).bind λai=>let aj:=fZ ai.length;bif(decide (aj>0))then((gj x2).bind λak=>
(fT x7 ak).bind λ_=>
(fT x7 ak).bind λ_=>
(fT x7 ak).bind λap=>
(fT ap 0).bind λ_=>
(fT x7 ak).bind λav=>
(fT av 0).bind λax=>
(gj x2).bind λay=>
(fT ae ay).bind λ_=>
(fT ae ay).bind λ_=>let aB:=ae.modify ay λe=>ax;
(gj x2).bind λaD=>
(fT x7 aD).bind λ_=>
(fT x7 aD).bind λ_=>
(fT x7 aD).bind λaG=>bif(iQ 1 aG.length aG.length)then(fT x7 aD).bind λ_=>
(gj x2).bind λaI=>
(fT x7 aI).bind λ_=>
(fT x7 aD).bind λaK=>
(fT x7 aI).bind λ_=>let aM:=x7.modify aI λe=>(nJ aK 1 (Nat.sub aG.length 1));
(gj x2).bind λaO=>
(fT aB aO).bind λaP=>some (aB,aM,aP,true,())else none)else
(gj x2).bind λak=>
(fT ae ak).bind λam=>some (ae,x7,am,true,())
def IH:X.Cfg:=⟨E0,[rx],[],[⟨3,0,qE,[(.normal,qS [Uaa 1,zaa 6,zaa 9,Xaa 26] [(14,uac),(20,yaf)])]⟩]⟩
def ru:Ctr:=⟨156,77,[.agg Xaf,shU I64,shU I64],[],[⟨uL [RI,(yaa RI),I64,.bool],[.agg 2,.one,.one],[]⟩],ap4 jK⟩
theorem uA:Lk 2 ru:=ls IH (aC uB aN)
def gr(a0:Int)(a1:Bool):Option (T1v):=
(bif(!a1)then(some (65535,0,0,0,0,(),0,false,()))else some (a0,0,0,0,0,(),0,false,()):Option (Int×T1v)).bind λ(x0,_)=>let x8:=wk .u16 x0;some (0,x8,0,0,(),(-1),false,())
def FR:X.Cfg:=⟨E0,[],[],[⟨1,0,qE,[(.normal,qS [Uaa 0,zaa 4] [(10,Zad)])]⟩]⟩
def nF:Ctr:=⟨170,78,uL [I64,.bool],[],[⟨Zad,[.agg 7],[]⟩],ap2 gr⟩
theorem pK:Lk 1 nF:=ls FR aN
def qd:T2Q->Option (T2Q⊕((Int×T08)⊕(Int×Int×LLI×Int×Int×LI×T1Y))):=λ(v0,v1,v2,v3,v4,v5,v6,v7,v8,v9,eq,eE,eG)=>bif(decide (v7<v6))then((gj v7).bind λx0=>
(fT v5 x0).bind λx1=>bif(x1==v1)then(some (.inr (.inl (2,eG))))else let x2:=w64 (v7+1);some (.inl (v0,v1,v2,v3,v4,v5,v6,x2,v8,v9,eq,eE,eG)))else some (.inr (.inr (v0,v1,v2,v3,v4,v5,v6,v7,false,v8,v9,eq,eE,eG)))
def qc:T2u->Option (T2u⊕((Int×T08)⊕(Int×Int×T2q))):=λ(v0,v1,v2,v3,v4,v5)=>bif(decide (v4<v3))then((gj v4).bind λx0=>
(fT v2 x0).bind λx1=>let x2:=fZ x1.length;
(match gc qd NN (v0,v1,v2,v3,v4,x1,x2,0,v5)with
|none=>none
|some (.inl (x3,x4,x5,_))=>some (.inr (.inl (x3,x4,x5,())))
|some (.inr (x3,x4,x5,x6,x7,_,_,_,_,af))=>let am:=w64 (x7+1);some (.inl (x3,x4,x5,x6,am,af))))else some (.inr (.inr (v0,v1,v2,v3,v4,false,v5)))
def qU(a0:LI)(a1:LLI)(a2 a3:Int):Option (LI×LLI×Int×Unit):=
(oE a0 a1).bind λ(x0,x1,_)=>
(bif(decide (a2<0))then(some (a2,a3,true,a0,a1,(),(),x0,x1,()))else bif(decide (a2>=4))then(some (a2,a3,true,a0,a1,(),(),x0,x1,()))else
(gj a2).bind λx2=>
(fT a0 x2).bind λx3=>some (a2,a3,(x3==a3),a0,a1,(),(),x0,x1,()):Option (T1Y)).bind λ(x2,x3,x4,x5,x6,x7,x8,x9,ac,_)=>bif x4 then(some (x9,ac,2,()))else let ae:=fZ x6.length;
(match gc qc NN (x2,x3,x6,ae,0,x5,x6,x7,x8,x9,ac,())with
|none=>none
|some (.inl (af,ag,ah,_))=>some (ag,ah,af,())
|some (.inr (af,ag,_,_,_,_,am,_,_,_,av,ax,_))=>
(gj af).bind λay=>
(fT am ay).bind λaz=>bif(az==(-1))then((gj af).bind λaA=>
(fT av aA).bind λ_=>
(fT av aA).bind λ_=>let aE:=av.modify aA λe=>ag;some (aE,ax,0,()))else
(gj af).bind λaA=>
(fT ax aA).bind λ_=>
(fT ax aA).bind λ_=>
(fT ax aA).bind λaE=>bif(gk 8 aE.length (List.length [ag]))then let aF:v_:=(List.append aE [ag]);
(gj af).bind λaG=>
(fT ax aG).bind λ_=>
(fT ax aG).bind λ_=>bif(Nat.beq aG aA)then let aJ:List LI:=(ax.modify aG λe=>aF);some (av,aJ,1,())else none else none)
def IG:X.Cfg:=⟨E0,[rx],[],[⟨3,0,qE,[(.normal,qS (il [1,2]++zl [3,6,8]++[Xaa 29]) Xan)]⟩,⟨13,1,qS (il [1,2]++zl [3,6,8]++sP 32 (yaa RI)::il [33,34]++sP 38 RI::il [39,40]) Xan,[(.ret,qS Uav [(14,yaf)]),(.exit 2,qS (il [1,2]++zl [3,6,8]++sP 32 (yaa RI)::il [33,34]++sP 38 RI::il [39,40]++[Xaa 41]) Xan)]⟩,⟨7,2,qS (il [1,2]++zl [3,6,8]++sP 32 (yaa RI)::il [33,34]) Xan,[(.ret,qS Uav [(14,yaf)]),(.exit 0,qS (il [1,2]++zl [3,6,8]++sP 32 (yaa RI)::il [33,34]++[Xaa 35]) Xan)]⟩]⟩
def At:Ctr:=⟨171,79,[.agg Xaf,shU I64,shU I64],[],[⟨uL [(uaa I64),(uaa (uaa I64)),I64],[.agg 2,.one],[]⟩],ap4 qU⟩
theorem H9:Lk 2 At:=ls IG (aC uB aN)
def mX(a0 a1 a2 a3 a4 a5:Int)(a6 a7:LDCn):f_:=bif(decide (a0>=0))then(bif(decide (a0<4))then(bif(decide (a1>=0))then(bif(decide (a1<=3))then(bif(decide (a2>=0))then(bif(decide (a2<=6))then(bif(decide (a3>=0))then(bif(decide (a3<=1099511627776))then(bif(decide (a4>=0))then(bif(decide (a4<=255))then(bif(decide (a5>=0))then(bif(decide (a5<=15))then((iu a6 3).bind λ(x0,_)=>bif x0 then((iu a7 16).bind λ(x1,_)=>some (x1,()))else some (false,()))else some (false,()))else some (false,()))else some (false,()))else some (false,()))else some (false,()))else some (false,()))else some (false,()))else some (false,()))else some (false,()))else some (false,()))else some (false,()))else some (false,())
def F3:X.Cfg:=⟨E0,[jl],[],[]⟩
def s8:Ctr:=⟨173,80,[.agg Uac],[],[⟨zab,[.one],[]⟩],as1 (as2 (as4 ap1)) mX⟩
theorem xO:Lk 3 s8:=ls F3 (aC jW aN)
def ub(a0:Int):f_:=bif(decide (a0>=1))then(bif(decide (a0<=7))then(some (true,()))else bif(a0==13)then(some (true,()))else some ((a0==14),()))else bif(a0==13)then(some (true,()))else some ((a0==14),())
def Iy:X.Cfg:=⟨E0,[],[],[]⟩
def Ao:Ctr:=⟨181,81,zac,[],[⟨zab,[.one],[]⟩],ap1 ub⟩
theorem H4:Lk 1 Ao:=ls Iy aN
def j6:T2C->Option (T2C⊕((Bool×Unit)⊕(ByteArray×LDCn×Int×Int×Bool×T1K))):=λ(v0,v1,v2,v3,v4)=>bif(decide (v3<v2))then((gj v3).bind λx0=>
(fT v1 x0).bind λx1=>
(gj v3).bind λx2=>
(Ec v0 x2).bind λx3=>
(oG x3 x1.1).bind λ(x4,_)=>bif(!x4)then(some (.inr (.inl (false,()))))else let x5:=w64 (v3+1);some (.inl (v0,v1,v2,x5,v4)))else some (.inr (.inr (v0,v1,v2,v3,false,v4)))
def pe(a0 a1 a2 a3 a4 a5:Int)(a6 a7:LDCn):f_:=
(mW a5).bind λ(x0,_)=>let x1:=By x0;let x2:=fZ a6.length;bif(x1 != x2)then(some (false,()))else let x3:=fZ a6.length;
(match gc j6 NN (x0,a6,x3,0,a0,a1,a2,a3,a4,a5,a6,a7,())with
|none=>none
|some (.inl (x4,_))=>some (x4,())
|some (.inr (_,_))=>some (true,()))
def F4:X.Cfg:=⟨E0,[pT,uW],[],[⟨7,0,qS (sP 3 .str::sP 16 gp::il [17,18]) [(4,Uac)],[(.ret,qS uau []),(.exit 0,qS [sP 3 .str,sP 16 gp,Uaa 17,Uaa 18,Xaa 19] [(4,Uac)])]⟩]⟩
def yo:Ctr:=⟨182,82,[.agg Uac],[],[⟨zab,[.one],[]⟩],as1 (as2 (as4 ap1)) pe⟩
theorem Fl:Lk 2 yo:=ls F4 (aC sO (aC zT aN))
def jJ(a0:z_)(a1:LDOp)(a2:Int):f_:=bif(decide (a2>=0))then(let x0:Int:=(fZ a1.length);bif(decide (a2<x0))then((gj a2).bind λx1=>
(fT a1 x1).bind λx2=>some ((x2.1 != (-1)),()))else some (false,()))else some (false,())
def IB:X.Cfg:=⟨E0,[],[],[]⟩
def oN:Ctr:=⟨196,83,[.agg yae,shU I64],[],[⟨zab,[.one],[]⟩],ap3 jJ⟩
theorem ri:Lk 1 oN:=ls IB aN
def tI:T2x->Option (T2x⊕(LDCn×Nat×Int×Int×Int×Bool×T1o)):=λ(v0,v1,v2,v3,v4,v5,v6,v7,v8,v9,eq,_)=>bif(decide (v4<v3))then(((fT v9 v1).bind λx0=>let x1:=w64 (x0.2.1+v4);let x2:=fZ eq.length;bif(decide (x1<x2))then((fT v9 v1).bind λx3=>let x4:=w64 (x3.2.1+v4);
(gj v4).bind λx5=>
(fT v0 x5).bind λx6=>
(gj x4).bind λx7=>
(fT eq x7).bind λ_=>
(fT eq x7).bind λ_=>let ac:=eq.modify x7 λe=>(x6.1,(x6.2.1,(x6.2.2.1,x6.2.2.2)));some (v0,v1,v2,v3,v4,v5,v6,v7,v8,v9,ac,()))else
(gj v4).bind λx3=>
(fT v0 x3).bind λx4=>let x5:LDCn:=[(x4.1,(x4.2.1,(x4.2.2.1,x4.2.2.2)))];bif(gk 24 eq.length x5.length)then let x6:LDCn:=(List.append eq x5);some (v0,v1,v2,v3,v4,v5,v6,v7,v8,v9,x6,())else none:Option (T2x)).bind λ(x0,x1,x2,x3,x4,x5,x6,x7,x8,x9,ac,_)=>let ae:=w64 (x4+1);some (.inl (x0,x1,x2,x3,ae,x5,x6,x7,x8,x9,ac,())))else some (.inr (v0,v1,v2,v3,v4,false,v5,v6,v7,v8,v9,eq,()))
def pa(a0:z_)(a1:LDOp)(a2:Int)(a3:LDCn):Option (LLCn×LDOp×T01):=
(jd a0 a1).bind λ(x0,x1,_)=>
((jJ a0 a1 a2).bind λ(x2,_)=>bif(!x2)then(some (a2,a3,true,(),(),x0,x1,()))else
(gj a2).bind λx3=>
(fT a1 x3).bind λx4=>bif(!x4.2.2)then(some (a2,a3,true,(),(),x0,x1,()))else let x5:=fZ a3.length;
(iu a3 x5).bind λ(x6,_)=>some (a2,a3,(!x6),(),(),x0,x1,()):Option (Int×LDCn×T0O)).bind λ(x2,x3,x4,x5,x6,x7,x8,_)=>bif x4 then(some (x7,x8,0,false,()))else
(gj x2).bind λx9=>
(fT x8 x9).bind λ_=>let ae:=fZ x3.length;
(fT x8 x9).bind λaf=>let ag:=w64 (64-af.2.1);let ah:=mmR false ae ag;
(fT x8 x9).bind λai=>
(gj ai.1).bind λaj=>
(fT x7 aj).bind λ_=>
(fT x7 aj).bind λ_=>
(fT x7 aj).bind λan=>
(gc tI NN (x3,x9,ah,ah,0,x5,x6,x7,aj,x8,an,())).bind λ(_,aq,av,_,_,_,_,_,aD,aE,aF,aG,_)=>
(fT aF aq).bind λaH=>
(gj aH.1).bind λaI=>
(fT aD aI).bind λ_=>
(fT aD aI).bind λ_=>bif(Nat.beq aI aE)then let aL:z_:=(aD.modify aI λe=>aG);
(fT aF aq).bind λaM=>let aO:=w64 (aM.2.1+av);
(fT aF aq).bind λ_=>let aQ:=aF.modify aq λe=>(e.1,(aO,e.2.2));some (aL,aQ,av,true,())else none
def FV:X.Cfg:=⟨E0,[lc,oN,jl],[],[⟨3,0,qE,[(.normal,qS [Uaa 1,sP 2 gp,zaa 6,zaa 9,Xaa 35] [(14,uac),(20,zaf)])]⟩,⟨13,1,qE,[(.normal,(qS uax yar))]⟩,(lx 10 2 uax yar 59)]⟩
def yk:Ctr:=⟨183,84,[.agg yae,shU I64,shU gp],[],[⟨uL [(uaa (uaa KCn)),(uaa KOp),I64,.bool],[.agg 2,.one,.one],[]⟩],ap4 pa⟩
theorem Fh:Lk 3 yk:=ls FV (aC mC (aC ri (aC jW aN)))
def qR(a0:z_)(a1:LDOp)(a2 a3:Int):Option ((LLCn×LDOp×Unit×Bool×Unit)⊕(LLCn×LDOp×LDCn×Bool×Unit)):=
(jd a0 a1).bind λ(x0,x1,_)=>
((jJ a0 a1 a2).bind λ(x2,_)=>bif(!x2)then(some (a2,a3,true,a0,a1,(),(),x0,x1,()))else bif(decide (a3<0))then(some (a2,a3,true,a0,a1,(),(),x0,x1,()))else
(gj a2).bind λx3=>
(fT a1 x3).bind λx4=>some (a2,a3,x4.2.2,a0,a1,(),(),x0,x1,()):Option (T1Z)).bind λ(x2,x3,x4,_,_,_,_,x9,ac,_)=>bif x4 then(some (.inl (x9,ac,(),false,())))else
(gj x2).bind λae=>
(fT ac ae).bind λ_=>
(fT ac ae).bind λag=>
(gj ag.1).bind λah=>
(fT x9 ah).bind λ_=>
(fT x9 ah).bind λ_=>
(fT x9 ah).bind λak=>let am:=fZ ak.length;
(fT ac ae).bind λan=>let ap:=w64 (am-an.2.1);let aq:=mmR false x3 ap;
(fT ac ae).bind λav=>
(fT ac ae).bind λax=>let ay:=w64 (ax.2.1+aq);
(gj av.2.1).bind λaz=>
(gj ay).bind λaA=>bif(iQ az aA ak.length)then let aB:LDCn:=(nJ ak az (Nat.sub aA az));bif(gk 24 0 aB.length)then let aD:LDCn:=(List.append [] aB);
(fT ac ae).bind λaE=>let aF:=w64 (aE.2.1+aq);
(fT ac ae).bind λ_=>let aH:=ac.modify ae λe=>(e.1,(aF,e.2.2));some (.inr (x9,aH,aD,true,()))else none else none
def ID:X.Cfg:=⟨E0,[lc,oN],[],[⟨3,0,qE,[(.normal,qS (il [1,2]++zl [6,9]++[Xaa 31]) [(8,yae),(14,uac),(20,zaf)])]⟩]⟩
def Ar:Ctr:=⟨184,85,[.agg yae,shU I64,shU I64],[],[⟨uL [(uaa (uaa KCn)),(uaa KOp),N1,.bool],[.agg 2,.one,.one],[]⟩,⟨uL [(uaa gp),(uaa KOp),(uaa KCn),.bool],[.agg 2,.one,.one],[]⟩],ap4 qR⟩
theorem H7:Lk 2 Ar:=ls ID (aC mC (aC ri aN))
def ud:T23->Option (T23⊕(Int×T1Z)):=λ(v0,v1,v2,v3,v4,v5)=>let x0:=fZ v4.length;bif(decide (v2<x0))then((gj v2).bind λx1=>
(fT v4 x1).bind λx2=>bif(x2.1 != (-1))then(let x3:Int:=(w64 (v2+1));some (.inl (v0,v1,x3,v3,v4,v5)))else some (.inr (v0,v1,v2,false,v3,v4,v5)))else some (.inr (v0,v1,v2,false,v3,v4,v5))
def uc:T21->Option (T21⊕(Int×Int×T1J)):=λ(v0,v1,v2,v3,v4,v5,v6,v7,v8,_)=>bif(decide (v4<v3))then(((gj v4).bind λx0=>
(fT v8 x0).bind λ_=>
(fT v8 x0).bind λx2=>bif(x2.1==v0)then((gj v4).bind λx3=>
(fT v8 x3).bind λ_=>
(fT v8 x3).bind λ_=>let x6:=v8.modify x3 λe=>(e.1,(0,e.2.2));some (v0,v1,v2,v3,v4,v5,v6,v7,x6,()))else some (v0,v1,v2,v3,v4,v5,v6,v7,v8,()):Option (T21)).bind λ(x0,x1,x2,x3,x4,x5,x6,x7)=>let x9:=w64 (x4+1);some (.inl (x0,x1,x2,x3,x9,x5,x6,x7)))else some (.inr (v0,v1,v2,v3,v4,false,v5,v6,v7,v8,()))
def qT(a0:z_)(a1:LDOp)(a2 a3:Int):Option (LLCn×LDOp×Int×Unit):=
(jd a0 a1).bind λ(x0,x1,_)=>
(gc ud NN (a2,a3,0,a0,a1,(),(),x0,x1,())).bind λ(x2,x3,x4,_,x6,x7,x8)=>
(bif(decide (x2<0))then(some (x2,x3,x4,true,x8))else let af:=fZ x6.length;bif(decide (x2>=af))then(some (x2,x3,x4,true,x8))else bif(decide (x3<0))then(some (x2,x3,x4,true,x8))else bif(decide (x3>2))then(some (x2,x3,x4,true,x8))else let ag:=fZ x7.length;some (x2,x3,x4,(x4==ag),x8):Option (T1J)).bind λ(af,ag,ah,ai,aj,ak,am,an,_)=>bif ai then(some (am,an,(-1),()))else bif(ag==1)then((gj af).bind λap=>
(fT am ap).bind λ_=>
(fT am ap).bind λ_=>let ax:=am.modify ap λe=>[];let ay:=fZ an.length;
(gc uc NN (af,ag,ah,ay,0,aj,ak,ax,an,())).bind λ(az,aA,aB,_,_,_,aG,aH,aI,aJ,_)=>
(gj aB).bind λaK=>
(fT aJ aK).bind λ_=>
(fT aJ aK).bind λ_=>let aO:=aJ.modify aK λe=>(az,(0,(decide (aA>0))));
(bif(aA==2)then((gj az).bind λaP=>
(fT aI aP).bind λ_=>
(fT aI aP).bind λ_=>
(fT aI aP).bind λaS=>let aT:=fZ aS.length;
(gj aB).bind λaU=>
(fT aO aU).bind λ_=>
(fT aO aU).bind λ_=>let aY:=aO.modify aU λe=>(e.1,(aT,e.2.2));some (aB,aG,aH,aI,aY,()))else some (aB,aG,aH,aI,aO,()):Option (T0T)).bind λ(aP,_,_,aS,aT,_)=>some (aS,aT,aP,()))else
(gj ah).bind λap=>
(fT an ap).bind λ_=>
(fT an ap).bind λ_=>let ax:=an.modify ap λe=>(af,(0,(decide (ag>0))));
(bif(ag==2)then((gj af).bind λay=>
(fT am ay).bind λ_=>
(fT am ay).bind λ_=>
(fT am ay).bind λaB=>let aD:=fZ aB.length;
(gj ah).bind λaE=>
(fT ax aE).bind λ_=>
(fT ax aE).bind λ_=>let aH:=ax.modify aE λe=>(e.1,(aD,e.2.2));some (ah,aj,ak,am,aH,()))else some (ah,aj,ak,am,ax,()):Option (T0T)).bind λ(ay,_,_,aB,aD,_)=>some (aB,aD,ay,())
def IE:X.Cfg:=⟨E0,[lc],[],[(lx 4 0 (il [1,2]++zl [3,6,8]++[Uaa 9]) [(8,yae),(14,uac),(18,zaf)] 26),⟨8,1,qE,[(.normal,qS (il [1,2]++zl [6,8]++[Uaa 9,Xaa 52]) zan)]⟩,⟨17,2,qE,[(.normal,qS yax zan)]⟩,⟨14,3,qS yax zan,[(.exit 2,qS (il [1,2]++zl [6,8]++il [9,62,63]++[Xaa 64]) zan)]⟩,⟨21,4,qE,[(.normal,qS [zaa 6,zaa 8,Uaa 9] zan)]⟩]⟩
def As:Ctr:=⟨185,86,[.agg yae,shU I64,shU I64],[],[⟨Xak,[.agg 2,.one],[]⟩],ap4 qT⟩
theorem H8:Lk 2 As:=ls IE (aC mC aN)
def pb(a0:z_)(a1:LDOp)(a2:Int):Option (LLCn×LDOp×Bool×Unit):=
(jd a0 a1).bind λ(x0,x1,_)=>
(jJ a0 a1 a2).bind λ(x2,_)=>bif(!x2)then(some (x0,x1,false,()))else
(gj a2).bind λx3=>
(fT x1 x3).bind λ_=>
(fT x1 x3).bind λ_=>let x6:=x1.modify x3 λe=>((-1),(0,false));some (x0,x6,true,())
def FX:X.Cfg:=⟨E0,[lc,oN],[],[]⟩
def yl:Ctr:=⟨186,87,[.agg yae,shU I64],[],[⟨zal,[.agg 2,.one],[]⟩],ap3 pb⟩
theorem Fi:Lk 2 yl:=ls FX (aC mC (aC ri aN))
def qQ(a0:z_)(a1:LDOp)(a2 a3:Int):Option (LLCn×LDOp×Bool×Unit):=
(jd a0 a1).bind λ(x0,x1,_)=>
((jJ a0 a1 a2).bind λ(x2,_)=>bif(!x2)then(some (a2,a3,true,(),(),x0,x1,()))else bif(decide (a3<0))then(some (a2,a3,true,(),(),x0,x1,()))else
(gj a2).bind λx3=>
(fT a1 x3).bind λx4=>
(gj x4.1).bind λx5=>
(fT a0 x5).bind λx6=>let x7:=fZ x6.length;some (a2,a3,(decide (a3>x7)),(),(),x0,x1,()):Option (T1s)).bind λ(x2,x3,x4,_,_,x7,x8,_)=>bif x4 then(some (x7,x8,false,()))else
(gj x2).bind λx9=>
(fT x8 x9).bind λ_=>
(fT x8 x9).bind λ_=>let af:=x8.modify x9 λe=>(e.1,(x3,e.2.2));some (x7,af,true,())
def IC:X.Cfg:=⟨E0,[lc,oN],[],[⟨3,0,qE,[(.normal,qS (il [1,2]++zl [6,8]++[Xaa 33]) zan)]⟩]⟩
def Aq:Ctr:=⟨187,88,[.agg yae,shU I64,shU I64],[],[⟨zal,[.agg 2,.one],[]⟩],ap4 qQ⟩
theorem H6:Lk 2 Aq:=ls IC (aC mC (aC ri aN))
def mu(a0:LDOu)(a1:Int)(a2:LDCn):Option (LDOu×T01):=
(kK a0).bind λ(x0,_)=>
(bif(decide (a1<0))then(some (a0,a1,a2,true,x0,()))else bif(decide (a1>=2))then(some (a0,a1,a2,true,x0,()))else let x1:=fZ a0.length;bif(decide (x1>=200))then(some (a0,a1,a2,true,x0,()))else let x2:=fZ a2.length;some (a0,a1,a2,(decide (x2>16)),x0,()):Option (LDOu×Int×LDCn×Bool×LDOu×Unit)).bind λ(x1,x2,x3,x4,x5,_)=>bif x4 then(some (x5,0,false,()))else let x6:=fZ x1.length;bif(gk 24 0 x3.length)then let x7:LDCn:=(List.append [] x3);let x8:LDOu:=[(x6,(x2,x7))];bif(gk 40 x5.length x8.length)then let x9:LDOu:=(List.append x5 x8);let ac:=fZ x3.length;some (x9,ac,true,())else none else none
def Iz:X.Cfg:=⟨E0,[uS],[(36,JF),(37,JF)],[⟨3,0,qE,[(.normal,qS [sP 0 lf,Uaa 1,sP 2 gp,Zaa 9 21,Xaa 27] [(21,uak)])]⟩]⟩
def Ap:Ctr:=⟨188,89,uL [lf,I64,gp],[],[⟨uL [(uaa JF),I64,.bool],[.one,.one,.one],[]⟩],ap3 mu⟩
theorem H5:Lk 2 Ap:=ls Iz (aC zR aN)
def jc:T1x->Option (T1x⊕(Int×Int×LI×Int×Int×Bool×LLI×LDCn×Unit)):=λ(v0,v1,v2,v3,v4,v5,v6,_)=>bif(decide (v4<v3))then((gj v4).bind λx0=>
(fT v2 x0).bind λx1=>let x2:LDCn:=[(0,(x1,(0,0)))];bif(gk 24 v6.length x2.length)then let x3:LDCn:=(List.append v6 x2);let x4:=w64 (v4+1);some (.inl (v0,v1,v2,v3,x4,v5,x3,()))else none)else some (.inr (v0,v1,v2,v3,v4,false,v5,v6,()))
def mO(a0:LLI)(a1 a2:Int):Option ((LLI×Unit×Bool×Unit)⊕(LLI×LDCn×Bool×Unit)):=
(iM a0).bind λ(x0,_)=>
(bif(decide (a1<0))then(some (a0,a1,a2,true,x0,()))else let x1:=fZ a0.length;bif(decide (a1>=x1))then(some (a0,a1,a2,true,x0,()))else some (a0,a1,a2,(decide (a2<0)),x0,()):Option (LLI×Int×Int×Bool×LLI×Unit)).bind λ(x1,x2,x3,x4,x5,_)=>bif x4 then(some (.inl (x5,(),false,())))else
(gj x2).bind λx6=>
(fT x1 x6).bind λx7=>let x8:=fZ x7.length;let x9:=mmR false x3 x8;
(gj x2).bind λac=>
(fT x1 ac).bind λae=>
(gj x9).bind λaf=>bif(iQ 0 af ae.length)then let ag:v_:=(nJ ae 0 (Nat.sub af 0));let ah:=fZ ag.length;
(gc jc NN (x2,x9,ag,ah,0,x5,[],())).bind λ(ai,aj,_,_,_,_,aq,av,_)=>
(gj ai).bind λax=>
(fT aq ax).bind λ_=>
(fT aq ax).bind λ_=>
(fT aq ax).bind λaA=>
(gj aj).bind λaB=>bif(iQ aB aA.length aA.length)then(fT aq ax).bind λ_=>
(gj ai).bind λaE=>
(fT aq aE).bind λ_=>
(fT aq ax).bind λaG=>
(fT aq aE).bind λ_=>let aI:=aq.modify aE λe=>(nJ aG aB (Nat.sub aA.length aB));some (.inr (aI,av,true,()))else none else none
def Cg:X.Cfg:=⟨E0,[kG],[],[⟨3,0,qE,[(.normal,qS [sP 0 (yaa RW),Uaa 1,Uaa 2,Zaa 9 21,Xaa 27] [(21,zaj)])]⟩,(lx 9 1 [Uaa 1,Zaa 9 21,Uaa 10,Zaa 11 25,sP 41 RW,Uaa 42,Uaa 43] [(21,zaj),(25,Xag)] 44)]⟩
def uQ:Ctr:=⟨189,90,uL [(yaa RW),I64,I64],[],[⟨uL [(uaa (uaa CW)),N1,.bool],[.one,.one,.one],[]⟩,⟨uL [(uaa RW),(uaa KCn),.bool],[.one,.one,.one],[]⟩],ap3 mO⟩
theorem BT:Lk 2 uQ:=ls Cg (aC nz aN)
def sw:T3R->Option (T3R⊕(LDCn×Int×Int×Bool×T3J)):=λ(v0,v1,v2,v3,v4,v5,v6,v7,v8,v9,eq,eE,eG,eI,eK,eO,eS,eV,eX,eZ,fc,ff,fi,fk,fq,fu,fv,fw,fA,fB,fC,fD,fE,fF,fG,fH,fI,_)=>bif(decide (v2<v1))then((gj v2).bind λx0=>
(fT v0 x0).bind λx1=>let x2:=wk .i64 x1.2.1;
(gj v2).bind λx3=>
(fT fI x3).bind λ_=>
(fT fI x3).bind λ_=>let x6:=fI.modify x3 λe=>x2;let x7:=w64 (v2+1);some (.inl (v0,v1,x7,v3,v4,v5,v6,v7,v8,v9,eq,eE,eG,eI,eK,eO,eS,eV,eX,eZ,fc,ff,fi,fk,fq,fu,fv,fw,fA,fB,fC,fD,fE,fF,fG,fH,x6,())))else some (.inr (v0,v1,v2,false,v3,v4,v5,v6,v7,v8,v9,eq,eE,eG,eI,eK,eO,eS,eV,eX,eZ,fc,ff,fi,fk,fq,fu,fv,fw,fA,fB,fC,fD,fE,fF,fG,fH,fI,()))
def nS(a0 a1:LI)(a2:LLI)(a3:z_)(a4:LDOp)(a5:LDOu)(a6 a7 a8 a9 ek eu:Int)(eF eH:LDCn):Option (LI×LI×LLI×LLCn×LDOp×LDOu×Int×Int×Int×Int×LDCn×Int×Bool×Int×Unit):=
((lm a0 a1 a2 a3 a4 a5).bind λ(x0,_)=>bif(!x0)then(some (true,a0,a1,a2,a3,a4,a5,a6,a7,a8,a9,ek,eu,eF,eH,(),(),(),(),(),(),0,0,0,0,(),0,false,()))else
(mX a6 a7 a8 a9 ek eu eF eH).bind λ(x1,_)=>bif(!x1)then(some (true,a0,a1,a2,a3,a4,a5,a6,a7,a8,a9,ek,eu,eF,eH,(),(),(),(),(),(),0,0,0,0,(),0,false,()))else bif(a7 != 1)then(some (true,a0,a1,a2,a3,a4,a5,a6,a7,a8,a9,ek,eu,eF,eH,(),(),(),(),(),(),0,0,0,0,(),0,false,()))else
(ub eu).bind λ(x2,_)=>bif(!x2)then(some (true,a0,a1,a2,a3,a4,a5,a6,a7,a8,a9,ek,eu,eF,eH,(),(),(),(),(),(),0,0,0,0,(),0,false,()))else
(pe a6 a7 a8 a9 ek eu eF eH).bind λ(x3,_)=>bif(!x3)then(some (true,a0,a1,a2,a3,a4,a5,a6,a7,a8,a9,ek,eu,eF,eH,(),(),(),(),(),(),0,0,0,0,(),0,false,()))else
(kt eu).bind λ(x4,_)=>bif(x4==2)then((fT eF 2).bind λx5=>some ((decide (x5.2.1>16)),a0,a1,a2,a3,a4,a5,a6,a7,a8,a9,ek,eu,eF,eH,(),(),(),(),(),(),0,0,0,0,(),0,false,()))else some (false,a0,a1,a2,a3,a4,a5,a6,a7,a8,a9,ek,eu,eF,eH,(),(),(),(),(),(),0,0,0,0,(),0,false,()):Option (Bool×LI×LI×LLI×LLCn×LDOp×LDOu×Int×Int×Int×Int×Int×Int×LDCn×LDCn×Unit×Unit×Unit×Unit×Unit×Unit×T1v)).bind λ(x0,x1,x2,x3,x4,x5,x6,x7,x8,x9,ac,ae,af,ag,ah,ai,aj,ak,am,an,ap,aq,av,ax,ay,az,aA,aB,_)=>bif x0 then(some ([],[],[],[],[],[],0,0,0,0,[],0,false,1,()))else
(qP x1 x2 x3 x4 x5 x6).bind λ(aD,aE,aF,aG,aH,aI,_)=>let aJ:v_:=[0,0,0];let aK:=fZ ag.length;
(gc sw NN (ag,aK,0,x1,x2,x3,x4,x5,x6,x7,x8,x9,ac,ae,af,ag,ah,ai,aj,ak,am,an,ap,aq,av,ax,ay,az,aA,aB,aD,aE,aF,aG,aH,aI,aJ,())).bind λ(_,_,_,_,aQ,aR,aS,aT,aU,aV,_,_,_,_,_,bd,_,bf,bg,bh,bi,bj,bk,bm,bn,bo,bp,bq,bt,bv,bx,bA,bB,bC,bD,bE,bF,bG,_)=>
(gr 0 false).bind λ(bH,bI,bJ,bK,bL)=>
(match(bif(bd==1)then((fT bG 0).bind λ_=>
(fT bG 0).bind λbP=>
(pa aT aU bP bf).bind λ(bQ,bR,bS,bT,_)=>
(gr bS bT).bind λ(bU,bV,bW,bY,_,b8,b9,_)=>some (.inl (bg,bh,bi,bj,bk,bm,bn,bo,bp,bq,bt,bv,bx,bA,bB,bC,bQ,bR,bF,bU,bV,bW,bY,[],b8,b9,())))else bif(bd==2)then((fT bG 0).bind λ_=>
(fT bG 0).bind λbP=>
(fT bG 2).bind λ_=>
(fT bG 2).bind λbR=>
(match qR aT aU bP bR with
|none=>none
|some (.inl (bS,bT,_,bV,_))=>
(gr 0 bV).bind λ(bW,bY,bZ,b8,_,cb,cd,_)=>some (.inl (bg,bh,bi,bj,bk,bm,bn,bo,bp,bq,bt,bv,bx,bA,bB,bC,bS,bT,bF,bW,bY,bZ,b8,[],cb,cd,()))
|some (.inr (bS,bT,bU,bV,_))=>let bW:=fZ bU.length;
(gr bW bV).bind λ(bY,bZ,b8,b9,_,cd,cf,_)=>some (.inl (bg,bh,bi,bj,bk,bm,bn,bo,bp,bq,bt,bv,bx,bA,bB,bC,bS,bT,bF,bY,bZ,b8,b9,bU,cd,cf,()))))else bif(bd==3)then((fT bG 0).bind λ_=>
(fT bG 0).bind λbP=>
(fT bG 1).bind λ_=>
(fT bG 1).bind λbR=>
(qT aT aU bP bR).bind λ(bS,bT,bU,_)=>bif(decide (bU>=0))then(let bV:Int:=(wk .u16 bU);some (.inr (.inl (bg,bh,bi,bj,bk,bm,bn,bo,bp,bq,bt,bv,bx,bA,bB,bC,bS,bT,bF,2,bV,0,0,bL))))else some (.inr (.inl (bg,bh,bi,bj,bk,bm,bn,bo,bp,bq,bt,bv,bx,bA,bB,bC,bS,bT,bF,bH,bI,bJ,bK,bL))))else bif(bd==4)then((fT bG 0).bind λ_=>
(fT bG 0).bind λbP=>
(pb aT aU bP).bind λ(bQ,bR,bS,_)=>
(gr 0 bS).bind λ(bT,bU,bV,bW,_,bZ,b8,_)=>some (.inl (bg,bh,bi,bj,bk,bm,bn,bo,bp,bq,bt,bv,bx,bA,bB,bC,bQ,bR,bF,bT,bU,bV,bW,[],bZ,b8,())))else bif(bd==5)then((fT bG 0).bind λ_=>
(fT bG 0).bind λbP=>
(fT bG 1).bind λ_=>
(fT bG 1).bind λbR=>
(qQ aT aU bP bR).bind λ(bS,bT,bU,_)=>
(gr 0 bU).bind λ(bV,bW,bY,bZ,_,b9,cb,_)=>some (.inl (bg,bh,bi,bj,bk,bm,bn,bo,bp,bq,bt,bv,bx,bA,bB,bC,bS,bT,bF,bV,bW,bY,bZ,[],b9,cb,())))else bif(bd==6)then(let bO:Int:=(fZ aQ.length);bif(decide (bO>0))then((fT aQ 0).bind λbP=>let bQ:=wk .i64 bP;
(gr bQ true).bind λ(bR,bS,bT,bU,bV,bW,bY,_)=>bif(iQ 1 bA.length bA.length)then let bZ:v_:=(nJ bA 1 (Nat.sub bA.length 1));some (.inr (.inr (.inl (bg,bh,bi,bj,bk,bm,bn,bo,bp,bq,bt,bv,bx,bZ,bB,bC,bD,bE,bF,bR,bS,bT,bU,bV,bW,bY,()))))else none)else some (.inr (.inl (bg,bh,bi,bj,bk,bm,bn,bo,bp,bq,bt,bv,bx,bA,bB,bC,bD,bE,bF,bH,bI,bJ,bK,bL))))else bif(bd==7)then(let bO:Int:=(fZ aR.length);bif(decide (bO>0))then((fT aR 0).bind λbP=>let bQ:=wk .i64 bP;
(gr bQ true).bind λ(bR,bS,bT,bU,bV,bW,bY,_)=>bif(iQ 1 bB.length bB.length)then let bZ:v_:=(nJ bB 1 (Nat.sub bB.length 1));some (.inr (.inr (.inr (.inl (bg,bh,bi,bj,bk,bm,bn,bo,bp,bq,bt,bv,bx,bA,bZ,bC,bD,bE,bF,bR,bS,bT,bU,bV,bW,bY,())))))else none)else some (.inr (.inl (bg,bh,bi,bj,bk,bm,bn,bo,bp,bq,bt,bv,bx,bA,bB,bC,bD,bE,bF,bH,bI,bJ,bK,bL))))else bif(bd==13)then((fT bG 0).bind λ_=>
(fT bG 0).bind λbP=>
(mu aV bP bf).bind λ(bQ,bR,bS,_)=>
(gr bR bS).bind λ(bT,bU,bV,bW,bY,bZ,b8,_)=>some (.inr (.inl (bg,bh,bi,bj,bk,bm,bn,bo,bp,bq,bt,bv,bx,bA,bB,bC,bD,bE,bQ,bT,bU,bV,bW,bY,bZ,b8,()))))else bif(bd==14)then((fT bG 0).bind λ_=>
(fT bG 0).bind λbP=>
(fT bG 2).bind λ_=>
(fT bG 2).bind λbR=>
(match mO aS bP bR with
|none=>none
|some (.inl (bS,bT,bU,_))=>
(gr 0 bU).bind λ(bV,bW,bY,bZ,_,b9,cb,_)=>some (.inr (.inl (bg,bh,bi,bj,bk,bm,bn,bo,bp,bq,bt,bv,bx,bA,bB,bS,bD,bE,bF,bV,bW,bY,bZ,bT,b9,cb,())))
|some (.inr (bS,bT,bU,_))=>let bV:=fZ bT.length;
(gr bV bU).bind λ(bW,bY,bZ,b8,_,cb,cd,_)=>some (.inr (.inr (.inr (.inr (bg,bh,bi,bj,bk,bm,bn,bo,bp,bq,bt,bv,bx,bA,bB,bS,bD,bE,bF,bW,bY,bZ,b8,bT,cb,cd,())))))))else some (.inr (.inl (bg,bh,bi,bj,bk,bm,bn,bo,bp,bq,bt,bv,bx,bA,bB,bC,bD,bE,bF,bH,bI,bJ,bK,bL))):Option (T3y⊕(T3z⊕(T3z⊕(T3z⊕T3y)))))with
|none=>none
|some (.inl (_,_,_,_,_,_,_,_,_,_,_,_,_,cb,cd,cf,cg,ch,ci,cj,cn,cq,cr,cu,cw,cx,_))=>some (cb,cd,cf,cg,ch,ci,cj,cn,cq,cr,cu,cw,cx,0,())
|some (.inr (.inl (_,_,_,_,_,_,_,_,_,_,_,_,_,cb,cd,cf,cg,ch,ci,cj,cn,cq,cr,_,cw,cx,_)))=>some (cb,cd,cf,cg,ch,ci,cj,cn,cq,cr,[],cw,cx,0,())
|some (.inr (.inr (.inl (_,_,_,_,_,_,_,_,_,_,_,_,_,cb,cd,cf,cg,ch,ci,cj,cn,cq,cr,_,cw,cx,_))))=>some (cb,cd,cf,cg,ch,ci,cj,cn,cq,cr,[],cw,cx,0,())
|some (.inr (.inr (.inr (.inl (_,_,_,_,_,_,_,_,_,_,_,_,_,cb,cd,cf,cg,ch,ci,cj,cn,cq,cr,_,cw,cx,_)))))=>some (cb,cd,cf,cg,ch,ci,cj,cn,cq,cr,[],cw,cx,0,())
|some (.inr (.inr (.inr (.inr (_,_,_,_,_,_,_,_,_,_,_,_,_,cb,cd,cf,cg,ch,ci,cj,cn,cq,cr,cu,cw,cx,_)))))=>some (cb,cd,cf,cg,ch,ci,cj,cn,cq,cr,cu,cw,cx,0,()))
def M9:X.Cfg:=⟨E0,[pS,s8,Ao,yo,lR,uP,nF,yk,Ar,As,yl,Aq,Ap,uQ],[],[⟨2,0,qE,[(.normal,qS (zl [2,3,4,5]++[Xaa 67]) [(6,Zag),(8,Uac),(10,zah),(12,Zad)])]⟩,(lx 8 1 (zl [2,3,4,5,7]++Zaa 8 19::sP 74 gp::il [75,76]) [(6,Zag),(8,Uac),(10,zah),(12,Zad),(16,yak),(19,uaf)] 77),⟨14,2,qE,[(.normal,(qS Xau [(10,zah),(12,Zad),(16,uL [(uaa CW),(uaa CW),(uaa (uaa CW)),(yaa gp),jm,(uaa JF)]),(24,yah)])),(.normal,qS Xau [(10,zah),(12,Zad),(16,yak),(24,Zad)]),(.normal,(qS Xau [(10,zah),(12,Zad),(16,uL [RW,(uaa CW),(uaa (uaa CW)),(uaa (uaa KCn)),(uaa KOp),(uaa JF)]),(24,Zad)])),(.normal,(qS Xau [(10,zah),(12,Zad),(16,uL [(uaa CW),RW,(uaa (uaa CW)),(uaa (uaa KCn)),(uaa KOp),(uaa JF)]),(24,Zad)])),(.normal,(qS Xau [(10,zah),(12,Zad),(16,uL [(uaa CW),(uaa CW),(uaa RW),(uaa (uaa KCn)),(uaa KOp),(uaa JF)]),(24,yah)]))]⟩]⟩
def EC:Ctr:=⟨172,91,[.agg Zag,.agg Uac],[],[⟨uL [RW,RW,(yaa RW),(yaa gp),jm,lf,CB,CW,I64,I64,gp,I64,.bool,I64],[.agg 6,.agg 7,.one],[]⟩],as1 (as4 (as8 ap1)) nS⟩
theorem M1:Lk 5 EC:=ls M9 (aC sN (aC xO (aC H4 (aC Fl (aC ov (aC zQ (aC pK (aC Fh (aC H7 (aC H8 (aC Fi (aC H6 (aC H5 (aC BT aN))))))))))))))
def mL:T3A->Option (T3A⊕(T3u⊕(Int×Int×Bool×T3u))):=λ(v0,v1,v2,v3,v4,v5,v6,v7,v8,v9,eq,eE,eG,eI,eK,eO,eS,eV,eX,eZ,fc)=>bif(decide (v1<v0))then((gj v1).bind λx0=>
(fT v9 x0).bind λ_=>
(fT v9 x0).bind λx2=>bif(x2.1==0)then((gr v1 true).bind λ(x3,x4,x5,x6,x7,_,x9,_)=>some (.inr (.inl (v2,v3,v4,v5,v6,v7,v8,v9,eq,eE,eG,eI,eK,eO,eS,eV,eX,eZ,x3,x4,x5,x6,x7,v1,x9,()))))else let x3:=w64 (v1+1);some (.inl (v0,x3,v2,v3,v4,v5,v6,v7,v8,v9,eq,eE,eG,eI,eK,eO,eS,eV,eX,eZ,fc)))else some (.inr (.inr (v0,v1,false,v2,v3,v4,v5,v6,v7,v8,v9,eq,eE,eG,eI,eK,eO,eS,eV,eX,eZ,fc)))
def mM(a0 a1 a2 a3 a4 a5:Int)(a6 a7:LDCn)(a8:LDIn)(a9:LI)(ek:LLI)(eu:LI)(eF:Int)(eH:LDCe)(eJ:LDLn)(eM:LDTh)(eQ eU:LI)(eW:LLI)(eY:z_)(fa:LDOp)(fe:LDOu)(fh:LI)(fj:LLI)(fm:LDEn)(fr:LI):Option (Int×Int×Int×Int×LDCn×T3g):=
(bif(a5==0)then(some (a5,true,a8,a9,ek,eu,eF,eH,eJ,eM,eQ,eU,eW,eY,fa,fe,fh,fj,fm,fr,a0,a1,a2,a3,a4,a5,a6,a7,0,0,0,0,(),0,false,()))else bif(a5==12)then(some (a5,true,a8,a9,ek,eu,eF,eH,eJ,eM,eQ,eU,eW,eY,fa,fe,fh,fj,fm,fr,a0,a1,a2,a3,a4,a5,a6,a7,0,0,0,0,(),0,false,()))else some (a5,(a5==15),a8,a9,ek,eu,eF,eH,eJ,eM,eQ,eU,eW,eY,fa,fe,fh,fj,fm,fr,a0,a1,a2,a3,a4,a5,a6,a7,0,0,0,0,(),0,false,()):Option (T3K)).bind λ(x0,x1,x2,x3,x4,x5,x6,x7,x8,x9,ac,ae,af,ag,ah,ai,aj,ak,am,an,ap,aq,av,ax,ay,az,aA,aB,aD)=>bif x1 then((gr 0 true).bind λ(aK,aL,aM,aO,_,aQ,aR,_)=>some (aK,aL,aM,aO,[],aQ,aR,x2,x3,x4,x5,x6,x7,x8,x9,ac,ae,af,ag,ah,ai,aj,ak,am,an,()))else bif(x0==8)then((fT aA 0).bind λaK=>let aL:=wk .i64 aK.2.1;
(qU aj ak aL ap).bind λ(aM,aO,aP,_)=>
(gr 0 (aP != 2)).bind λ(aQ,aR,aS,aT,_,aV,_,_)=>some (aQ,aR,aS,aT,[],aV,(aP==1),x2,x3,x4,x5,x6,x7,x8,x9,ac,ae,af,ag,ah,ai,aM,aO,am,an,()))else bif(x0==9)then((fT aA 0).bind λaK=>let aL:=wk .i64 aK.2.1;
(jK aj ak aL ap).bind λ(aM,aO,_,aQ,_)=>
(gr 0 aQ).bind λ(aR,aS,aT,aU,_,aW,aY,_)=>some (aR,aS,aT,aU,[],aW,aY,x2,x3,x4,x5,x6,x7,x8,x9,ac,ae,af,ag,ah,ai,aM,aO,am,an,()))else bif(x0==10)then(let aK:Int:=(fZ x9.length);
(match gc mL NN (aK,0,x2,x3,x4,x5,x6,x7,x8,x9,ac,ae,af,ag,ah,ai,aj,ak,am,an,aD)with
|none=>none
|some (.inl (aL,aM,aO,aP,aQ,aR,aS,aT,aU,aV,aW,aY,aZ,ba,bc,bd,be,bf,bg,bh,bi,bj,_,bm,bn,_))=>some (bg,bh,bi,bj,[],bm,bn,aL,aM,aO,aP,aQ,aR,aS,aT,aU,aV,aW,aY,aZ,ba,bc,bd,be,bf,())
|some (.inr (_,_,_,aP,aQ,aR,aS,aT,aU,aV,aW,aY,aZ,ba,bc,bd,be,bf,bg,bh,bi,_,_,_,_,_,_,_,_))=>
(gr 0 false).bind λ(bt,bv,bx,bA,_,bC,bD,_)=>some (bt,bv,bx,bA,[],bC,bD,aP,aQ,aR,aS,aT,aU,aV,aW,aY,aZ,ba,bc,bd,be,bf,bg,bh,bi,())))else bif(x0==11)then((fT aA 0).bind λaK=>let aL:=wk .i64 aK.2.1;
(bif(aL==ap)then(some (aL,true,x2,x3,x4,x5,x6,x7,x8,x9,ac,ae,af,ag,ah,ai,aj,ak,am,an,ap,aq,av,ax,ay,az,aA,aB,aD))else bif(decide (aL>=4))then(some (aL,true,x2,x3,x4,x5,x6,x7,x8,x9,ac,ae,af,ag,ah,ai,aj,ak,am,an,ap,aq,av,ax,ay,az,aA,aB,aD))else
(gj aL).bind λaM=>
(fT x9 aM).bind λ_=>
(fT x9 aM).bind λaP=>some (aL,(aP.1==0),x2,x3,x4,x5,x6,x7,x8,x9,ac,ae,af,ag,ah,ai,aj,ak,am,an,ap,aq,av,ax,ay,az,aA,aB,aD):Option (T3K)).bind λ(aM,aO,aP,aQ,aR,aS,aT,aU,aV,aW,aY,aZ,ba,bc,bd,be,bf,bg,bh,bi,bj,_,_,_,_,_,_,_,_,_,_,_,_,_,_,_)=>bif aO then((gr 0 false).bind λ(bF,bG,bH,bI,_,bK,bL,_)=>some (bF,bG,bH,bI,[],bK,bL,aP,aQ,aR,aS,aT,aU,aV,aW,aY,aZ,ba,bc,bd,be,bf,bg,bh,bi,()))else
(gj aM).bind λbF=>
(fT aW bF).bind λ_=>
(fT aW bF).bind λbH=>bif(bH.1==4)then(let bI:Int:=(wk .i64 bH.2.2.2.2.2.2.2);
(gr bI true).bind λ(bJ,bK,bL,bM,_,bO,bP,_)=>some (bJ,bK,bL,bM,[],bO,bP,aP,aQ,aR,aS,aT,aU,aV,aW,aY,aZ,ba,bc,bd,be,bf,bg,bh,bi,()))else
(gj bj).bind λbI=>
(fT bi bI).bind λ_=>
(fT bi bI).bind λ_=>let bL:=bi.modify bI λe=>aM;
(gr 0 true).bind λ(bM,bN,bO,bP,_,bR,_,_)=>some (bM,bN,bO,bP,[],bR,true,aP,aQ,aR,aS,aT,aU,aV,aW,aY,aZ,ba,bc,bd,be,bf,bg,bh,bL,()))else
(nS ac ae af ag ah ai ap aq av ax ay az aA aB).bind λ(aK,aL,aM,aO,aP,aQ,aR,aS,aT,aU,aV,aW,aY,_,_)=>some (aR,aS,aT,aU,aV,aW,aY,x2,x3,x4,x5,x6,x7,x8,x9,aK,aL,aM,aO,aP,aQ,aj,ak,am,an,())
def Cf:X.Cfg:=⟨E0,[nF,At,ru,EC],[],[⟨3,0,qE,[(.normal,qS (zl [0,3,4]++[Uaa 21,Xaa 22]) zar)]⟩,⟨20,1,(qS (zl [0,4]++(87,.pk ⟨2,7,[]⟩ [0,0])::il [88,89]) Zap),[(.ret,qS (zl [0,4]) Zap),(.exit 1,(qS (zl [0,4]++(87,.pk ⟨2,7,[]⟩ [0,0])::il [88,89]++[Xaa 90]) Zap))]⟩,⟨33,2,qE,[(.normal,qS (zl [0,3,4]++[Uaa 14,Xaa 131]) zar)]⟩]⟩
def uO:Ctr:=⟨157,92,[.ptr ⟨2,0,[]⟩ [0],.agg Uac],[(2,uae)],[⟨uad,[.agg 7],[(2,uae)]⟩],as1 (as8 (as8 (as8 ap1))) mM⟩
theorem BS:Lk 6 uO:=ls Cf (aC pK (aC H9 (aC uA (aC M1 aN))))
def mS(a0 a1 a2 a3:Int)(a4:LDCn)(a5:Int)(a6:Bool):f_:=
(mw a0 a1 a2 a3).bind λ(x0,_)=>bif x0 then((iu a4 16).bind λ(x1,_)=>bif x1 then(bif(decide (a5>=(-1)))then(some ((decide (a5<4)),()))else some (false,()))else some (false,()))else some (false,())
def FY:X.Cfg:=⟨E0,[uX,jl],[],[]⟩
def s6:Ctr:=⟨55,93,[.agg uad],[],[⟨zab,[.one],[]⟩],as2 (as4 ap1) mS⟩
theorem xM:Lk 3 s6:=ls FY (aC zU (aC jW aN))
def jp(a0:LI)(a1:Int)(a2:LI)(a3 a4 a5 a6:Int):Option (T0f):=
(it a2 a3 a4 a5 a6).bind λ(x0,_)=>bif(!x0)then(some (0,0,1,()))else bif(a3==0)then(some (0,a4,0,()))else bif(a3==2)then(let x1:Int:=(wk .u16 (a4+a1));some (2,x1,0,()))else
(gj a5).bind λx1=>
(fT a0 x1).bind λx2=>let x3:=w64 (x2+a6);let x4:=wk .u16 x3;some (1,x4,0,())
def KA:X.Cfg:=⟨E0,[lS],[],[]⟩
def tn:Ctr:=⟨37,94,[.agg Uab,shU RI,.agg yag],[],[⟨zai,[.agg 2,.one],[]⟩],as2 (as4 ap1) jp⟩
theorem wY:Lk 3 tn:=ls KA (aC ox aN)
def ne(a0:LI)(a1:Int)(a2:LI)(a3 a4:Int):Option (T02):=
(ia a2 a3 a4).bind λ(x0,_)=>bif(!x0)then(some (0,6,()))else
(gj a3).bind λx1=>
(fT a0 x1).bind λx2=>let x3:=w64 (x2+a4);some (x3,0,())
def Cn:X.Cfg:=⟨E0,[lT],[],[]⟩
def u7:Ctr:=⟨190,95,[.agg Uab,shU RI,.agg Zac],[],[⟨Zac,[.one,.one],[]⟩],ap5 ne⟩
theorem B3:Lk 2 u7:=ls Cn (aC oy aN)
def xu:Option (T1R):=bif(xH 8 8 2)then let x0:LDCe:=(List.replicate 8 (0,0));some (0,x0,0,0,(-1),(-1),0,0,())else none
def Gb:X.Cfg:=⟨E0,[],[],[]⟩
def yv:Ctr:=⟨197,96,[],[],[⟨Uaf,[.agg 8],[]⟩],λh=>xu⟩
theorem Fr:Lk 1 yv:=ls Gb aN
def sC(a0 a1 a2:Int):Option (T1R):=
(xu).bind λ(_,x1,_,x3)=>
(fT x1 0).bind λ_=>
(fT x1 0).bind λ_=>let ac:=x1.modify 0 λe=>(a1,a2);some (1,ac,a0,x3)
def Kx:X.Cfg:=⟨E0,[yv],[],[]⟩
def CX:Ctr:=⟨191,97,[shU I64,.agg Xab],[],[⟨Uaf,[.agg 8],[]⟩],ap3 sC⟩
theorem Kk:Lk 2 CX:=ls Kx (aC Fr aN)
def jo:T3D->Option (T3D⊕(T14⊕T3F)):=λ(v0,v1,v2,v3,v4,v5,v6,v7,v8,v9,eq,eE,eG,eI,eK,eO,eS,eV,eX,eZ,fc,ff,fi,fk,fq,fu,fv,fw,fA,fB,fC,_)=>bif(decide (v3<v2))then((gj v3).bind λx0=>
(fT v1 x0).bind λx1=>
(jp v4 v5 eq x1.1 x1.2.1 x1.2.2.1 x1.2.2.2).bind λ(x2,x3,x4,_)=>bif(x4 != 0)then(some (.inr (.inl (false,v4,v5,v6,v7,v8,()))))else
(ia eq fB fC).bind λ(x5,_)=>bif(!x5)then(some (.inr (.inl (false,v4,v5,v6,v7,v8,()))))else
(ne v4 v5 eq fB fC).bind λ(x6,_,_)=>
(m8 x6 x2 x3 v6 v7).bind λ(x8,x9,_)=>let ac:=w64 (fC+1);let ae:=w64 (v3+1);some (.inl (v0,v1,v2,ae,v4,v5,x8,x9,v8,v9,eq,eE,eG,eI,eK,eO,eS,eV,eX,eZ,fc,ff,fi,fk,fq,fu,fv,fw,fA,fB,ac,())))else some (.inr (.inr (v0,v1,v2,v3,false,v4,v5,v6,v7,v8,v9,eq,eE,eG,eI,eK,eO,eS,eV,eX,eZ,fc,ff,fi,fk,fq,fu,fv,fw,fA,fB,fC,())))
def nT(a0:LDIn)(a1:LI)(a2:LLI)(a3 a4 a5 a6 a7 a8:Int)(a9 ek:LDCn)(eu eF eH eJ:Int)(eM:LDCn)(eQ:Int)(eU:Bool)(eW:LI)(eY:Int)(fa:LDCe)(fe:LDLn)(fh:LDTh):Option (T14):=
(gj a3).bind λx0=>
(fT fh x0).bind λ_=>
(jp eW eY a1 eu eF eH eJ).bind λ(x2,x3,x4,_)=>bif(x4 != 0)then(some (false,eW,eY,fa,fe,fh,()))else
(match((kt a8).bind λ(x5,_)=>bif(x5==2)then(let x6:Int:=(fZ eM.length);bif(decide (x6>0))then((fT a9 1).bind λx7=>
(fT a9 1).bind λx8=>
(fT a9 1).bind λx9=>
(it a1 x9.1 x9.2.1 x9.2.2.1 x9.2.2.2).bind λ(ac,_)=>bif(!ac)then(some (.inl (false,eW,eY,fa,fe,fh,())))else
(fT a9 1).bind λae=>bif(ae.1 != 1)then(some (.inl (false,eW,eY,fa,fe,fh,())))else let af:=fZ eM.length;
(match gc jo NN (x0,eM,af,0,eW,eY,fa,fe,fh,a0,a1,a2,a3,a4,a5,a6,a7,a8,a9,ek,eu,eF,eH,eJ,eM,eQ,eU,x2,x3,x7.2.2.1,x8.2.2.2,())with
|none=>none
|some (.inl (ag,ah,ai,aj,ak,am,_))=>some (.inl (ag,ah,ai,aj,ak,am,()))
|some (.inr (ag,ah,ai,aj,ak,am,an,ap,aq,av,ax,ay,az,aA,aB,aD,aE,aF,aG,aH,aI,aJ,aK,aL,aM,aO,aP,aQ,aR,aS,aT,aU,_))=>some (.inr (.inl (ag,ah,ai,aj,ak,am,an,ap,aq,av,ax,ay,az,aA,aB,aD,aE,aF,aG,aH,aI,aJ,aK,aL,aM,aO,aP,aQ,aR,aS,aT,aU,())))))else some (.inr (.inr (x0,false,eW,eY,fa,fe,fh,a0,a1,a2,a3,a4,a5,a6,a7,a8,a9,ek,eu,eF,eH,eJ,eM,eQ,eU,x2,x3,()))))else some (.inr (.inr (x0,false,eW,eY,fa,fe,fh,a0,a1,a2,a3,a4,a5,a6,a7,a8,a9,ek,eu,eF,eH,eJ,eM,eQ,eU,x2,x3,()))):Option (T14⊕(T3F⊕(Nat×Bool×T3v))))with
|none=>none
|some (.inl (x5,x6,x7,x8,x9,ac,_))=>some (x5,x6,x7,x8,x9,ac,())
|some (.inr (.inl (x5,_,_,_,_,ac,ae,af,ag,ah,ai,aj,ak,am,an,ap,aq,av,ax,ay,az,aA,aB,aD,aE,aF,aG,aH,aI,aJ,_,_,_)))=>
(match(bif(ax==12)then((fT ay 0).bind λaM=>let aO:=wk .i64 aM.2.1;bif(decide (aO>255))then(some (.inl (false,ac,ae,af,ag,ah,())))else
(fT ay 0).bind λaP=>bif(aP.1 != 0)then(some (.inl (false,ac,ae,af,ag,ah,())))else
(fT ay 0).bind λaQ=>let aR:=wk .i64 aQ.2.1;
(fT ah x5).bind λ_=>let aT:=ah.modify x5 λe=>(e.1,(e.2.1,(e.2.2.1,(e.2.2.2.1,(aR,e.2.2.2.2.2)))));some (.inr (x5,ac,ae,af,ag,aT,ai,aj,ak,am,an,ap,aq,av,ax,ay,az,aA,aB,aD,aE,aF,aG,aH,aI,aJ,())))else some (.inr (x5,ac,ae,af,ag,ah,ai,aj,ak,am,an,ap,aq,av,ax,ay,az,aA,aB,aD,aE,aF,aG,aH,aI,aJ,())):Option (T14⊕T3x))with
|none=>none
|some (.inl (aM,aO,aP,aQ,aR,aS,_))=>some (aM,aO,aP,aQ,aR,aS,())
|some (.inr (aM,aO,aP,aQ,aR,aS,_,aU,_,aW,aY,aZ,ba,bc,bd,be,bf,bg,bh,bi,bj,bk,bm,bn,bo,bp,_))=>
(match(bif(bd==10)then(bif(decide (bm>=0))then((fT be 1).bind λbq=>
(jp aO aP aU bq.1 bq.2.1 bq.2.2.1 bq.2.2.2).bind λ(bt,bv,bx,_)=>
(bif(bx != 0)then(some (aM,true,aO,aP,aQ,aR,aS,aW,aY,aZ,ba,bc,bd,be,bf,bg,bh,bi,bj,bk,bm,bn,bo,bp,bt,bv,()))else
(gj bm).bind λbA=>
(fT aS bA).bind λ_=>
(fT aS bA).bind λbC=>bif(bC.1 != 0)then(some (aM,true,aO,aP,aQ,aR,aS,aW,aY,aZ,ba,bc,bd,be,bf,bg,bh,bi,bj,bk,bm,bn,bo,bp,bt,bv,()))else
(fT be 0).bind λbD=>let bE:=wk .i64 bD.2.1;bif(decide (bE>255))then(some (aM,true,aO,aP,aQ,aR,aS,aW,aY,aZ,ba,bc,bd,be,bf,bg,bh,bi,bj,bk,bm,bn,bo,bp,bt,bv,()))else
(fT be 0).bind λbF=>some (aM,(bF.1 != 0),aO,aP,aQ,aR,aS,aW,aY,aZ,ba,bc,bd,be,bf,bg,bh,bi,bj,bk,bm,bn,bo,bp,bt,bv,()):Option (T3w)).bind λ(bA,bB,bC,bD,bE,bF,bG,bH,bI,bJ,bK,bL,bM,bN,bO,_,_,_,_,_,bU,_,bW,bY,bZ,b8,_)=>bif bB then(some (.inl (false,bC,bD,bE,bF,bG,())))else
(fT bN 0).bind λb9=>let cb:=wk .i64 b9.2.1;
(sC cb bZ b8).bind λ(cd,cf,cg,ch,ci,cj,cn,cq,_)=>
(gj bU).bind λcr=>
(fT bG cr).bind λ_=>
(fT bG cr).bind λ_=>let cx:=bG.modify cr λe=>(cd,(cf,(cg,(ch,(ci,(cj,(cn,cq)))))));some (.inr (bA,bC,bD,bE,bF,cx,bH,bI,bJ,bK,bL,bM,bN,bO,bW,bY,())))else some (.inr (aM,aO,aP,aQ,aR,aS,aW,aY,aZ,ba,bc,bd,be,bf,bo,bp,())))else some (.inr (aM,aO,aP,aQ,aR,aS,aW,aY,aZ,ba,bc,bd,be,bf,bo,bp,())):Option (T14⊕T30))with
|none=>none
|some (.inl (bq,bt,bv,bx,bA,bB,_))=>some (bq,bt,bv,bx,bA,bB,())
|some (.inr (bq,bt,bv,bx,bA,bB,_,_,_,_,_,_,_,_,bK,bL,_))=>
(fT bB bq).bind λ_=>
(fT bB bq).bind λbN=>
(fT bN.2.1 0).bind λ_=>
(fT bB bq).bind λbP=>
(fT bP.2.1 0).bind λ_=>let bR:=bB.modify bq λe=>(e.1,((e.2.1.modify 0 λe=>(bK,bL)),e.2.2));
(fT bR bq).bind λ_=>let bT:=bR.modify bq λe=>(1,e.2);some (true,bt,bv,bx,bA,bT,())))
|some (.inr (.inr (x5,_,x7,x8,x9,ac,ae,af,ag,ah,ai,aj,ak,am,an,ap,aq,av,ax,ay,az,aA,aB,aD,aE,aF,aG,_)))=>
(match(bif(ap==12)then((fT aq 0).bind λaH=>let aI:=wk .i64 aH.2.1;bif(decide (aI>255))then(some (.inl (false,x7,x8,x9,ac,ae,())))else
(fT aq 0).bind λaJ=>bif(aJ.1 != 0)then(some (.inl (false,x7,x8,x9,ac,ae,())))else
(fT aq 0).bind λaK=>let aL:=wk .i64 aK.2.1;
(fT ae x5).bind λ_=>let aO:=ae.modify x5 λe=>(e.1,(e.2.1,(e.2.2.1,(e.2.2.2.1,(aL,e.2.2.2.2.2)))));some (.inr (x5,x7,x8,x9,ac,aO,af,ag,ah,ai,aj,ak,am,an,ap,aq,av,ax,ay,az,aA,aB,aD,aE,aF,aG,())))else some (.inr (x5,x7,x8,x9,ac,ae,af,ag,ah,ai,aj,ak,am,an,ap,aq,av,ax,ay,az,aA,aB,aD,aE,aF,aG,())):Option (T14⊕T3x))with
|none=>none
|some (.inl (aH,aI,aJ,aK,aL,aM,_))=>some (aH,aI,aJ,aK,aL,aM,())
|some (.inr (aH,aI,aJ,aK,aL,aM,_,aP,_,aR,aS,aT,aU,aV,aW,aY,aZ,ba,bc,bd,be,bf,bg,bh,bi,bj,_))=>
(match(bif(aW==10)then(bif(decide (bg>=0))then((fT aY 1).bind λbk=>
(jp aI aJ aP bk.1 bk.2.1 bk.2.2.1 bk.2.2.2).bind λ(bm,bn,bo,_)=>
(bif(bo != 0)then(some (aH,true,aI,aJ,aK,aL,aM,aR,aS,aT,aU,aV,aW,aY,aZ,ba,bc,bd,be,bf,bg,bh,bi,bj,bm,bn,()))else
(gj bg).bind λbp=>
(fT aM bp).bind λ_=>
(fT aM bp).bind λbt=>bif(bt.1 != 0)then(some (aH,true,aI,aJ,aK,aL,aM,aR,aS,aT,aU,aV,aW,aY,aZ,ba,bc,bd,be,bf,bg,bh,bi,bj,bm,bn,()))else
(fT aY 0).bind λbv=>let bx:=wk .i64 bv.2.1;bif(decide (bx>255))then(some (aH,true,aI,aJ,aK,aL,aM,aR,aS,aT,aU,aV,aW,aY,aZ,ba,bc,bd,be,bf,bg,bh,bi,bj,bm,bn,()))else
(fT aY 0).bind λbA=>some (aH,(bA.1 != 0),aI,aJ,aK,aL,aM,aR,aS,aT,aU,aV,aW,aY,aZ,ba,bc,bd,be,bf,bg,bh,bi,bj,bm,bn,()):Option (T3w)).bind λ(bp,bq,bt,bv,bx,bA,bB,bC,bD,bE,bF,bG,bH,bI,bJ,_,_,_,_,_,bP,_,bR,bS,bT,bU,_)=>bif bq then(some (.inl (false,bt,bv,bx,bA,bB,())))else
(fT bI 0).bind λbV=>let bW:=wk .i64 bV.2.1;
(sC bW bT bU).bind λ(bY,bZ,b8,b9,cb,cd,cf,cg,_)=>
(gj bP).bind λch=>
(fT bB ch).bind λ_=>
(fT bB ch).bind λ_=>let cn:=bB.modify ch λe=>(bY,(bZ,(b8,(b9,(cb,(cd,(cf,cg)))))));some (.inr (bp,bt,bv,bx,bA,cn,bC,bD,bE,bF,bG,bH,bI,bJ,bR,bS,())))else some (.inr (aH,aI,aJ,aK,aL,aM,aR,aS,aT,aU,aV,aW,aY,aZ,bi,bj,())))else some (.inr (aH,aI,aJ,aK,aL,aM,aR,aS,aT,aU,aV,aW,aY,aZ,bi,bj,())):Option (T14⊕T30))with
|none=>none
|some (.inl (bk,bm,bn,bo,bp,bq,_))=>some (bk,bm,bn,bo,bp,bq,())
|some (.inr (bk,bm,bn,bo,bp,bq,_,_,_,_,_,_,_,_,bF,bG,_))=>
(fT bq bk).bind λ_=>
(fT bq bk).bind λbI=>
(fT bI.2.1 0).bind λ_=>
(fT bq bk).bind λbK=>
(fT bK.2.1 0).bind λ_=>let bM:=bq.modify bk λe=>(e.1,((e.2.1.modify 0 λe=>(bF,bG)),e.2.2));
(fT bM bk).bind λ_=>let bO:=bM.modify bk λe=>(1,e.2);some (true,bm,bn,bo,bp,bO,()))))
def Ku:X.Cfg:=⟨E0,[tn,lR,lS,lT,u7,td,CX],[],[⟨13,0,(qS (zl [1,4,6,7]++(9,.ptr ⟨4,4,[((),(8,0))]⟩ [0,0])::zl [10,12]++sP 80 gp::il [81,82]) uaq),[(.ret,qS Zau yan),(.exit 0,(qS zax uaq))]⟩,⟨6,1,qE,[(.ret,qS Zau yan),(.normal,(qS zax uaq)),(.normal,(qS (zl [1,4,6,7]++[(9,.ptr ⟨4,4,[((),(8,0))]⟩ [0,0]),zaa 10,Xaa 51]) Uar))]⟩,⟨24,2,qE,[(.ret,qS Zau yan),(.normal,(qS (zl [1,4,6,7]++[(9,.ptr ⟨4,4,[((),(8,0))]⟩ [0,0]),zaa 10]) Uar))]⟩,⟨33,3,qE,[(.normal,(qS (zl [1,6,7]++(9,.ptr ⟨4,4,[((),(8,0))]⟩ [0,0])::zl [10,19]++[Xaa 207]) [(4,Xac),(14,Uac),(16,uad),(22,Xab),(40,Xab)]))]⟩,⟨29,4,qE,[(.ret,qS Zau yan),(.normal,(qS [zaa 1,(9,.ptr ⟨4,4,[((),(8,0))]⟩ [0,0]),zaa 10] [(4,Xac),(14,Uac),(22,Xab)]))]⟩]⟩
def CS:Ctr:=⟨174,98,[.agg uab,.ptr ⟨4,0,[]⟩ [0],.agg Uac,.agg uad],[(4,Xac)],[⟨zab,[.one],[(4,Xac)]⟩],as2 (as4 (as8 (as8 ap1))) nT⟩
theorem Kh:Lk 4 CS:=ls Ku (aC wY (aC ov (aC ox (aC oy (aC B3 (aC xQ (aC Kk aN)))))))
def sA(a0:LDIn)(a1:LI)(a2:LLI)(a3:LI)(a4:Int)(a5:LDCe)(a6:LDLn)(a7:LDTh)(a8 a9 ek eu eF eH:Int)(eJ eM:LDCn)(eQ eU eW eY:Int)(fa:LDCn)(fe:Int)(fh:Bool):Option (T1i):=
((jf a0 a1 a2 a3 a4 a5 a6 a7).bind λ(x0,_)=>bif(!x0)then(some (true,a0,a1,a2,a3,a4,a5,a6,a7,a8,a9,ek,eu,eF,eH,eJ,eM,eQ,eU,eW,eY,fa,fe,fh,(),0,(),(),(),()))else
(mX a8 a9 ek eu eF eH eJ eM).bind λ(x1,_)=>bif(!x1)then(some (true,a0,a1,a2,a3,a4,a5,a6,a7,a8,a9,ek,eu,eF,eH,eJ,eM,eQ,eU,eW,eY,fa,fe,fh,(),0,(),(),(),()))else bif(a9 != 1)then(some (true,a0,a1,a2,a3,a4,a5,a6,a7,a8,a9,ek,eu,eF,eH,eJ,eM,eQ,eU,eW,eY,fa,fe,fh,(),0,(),(),(),()))else let x2:=fZ eJ.length;
(jC eH).bind λ(x3,_)=>bif(x2 != x3)then(some (true,a0,a1,a2,a3,a4,a5,a6,a7,a8,a9,ek,eu,eF,eH,eJ,eM,eQ,eU,eW,eY,fa,fe,fh,(),0,(),(),(),()))else
(mS eQ eU eW eY fa fe fh).bind λ(x4,_)=>bif(!x4)then(some (true,a0,a1,a2,a3,a4,a5,a6,a7,a8,a9,ek,eu,eF,eH,eJ,eM,eQ,eU,eW,eY,fa,fe,fh,(),0,(),(),(),()))else
(gj a8).bind λx5=>
(fT a7 x5).bind λx6=>some ((x6.1 != 2),a0,a1,a2,a3,a4,a5,a6,a7,a8,a9,ek,eu,eF,eH,eJ,eM,eQ,eU,eW,eY,fa,fe,fh,(),0,(),(),(),()):Option (Bool×LDIn×LI×LLI×LI×Int×LDCe×LDLn×LDTh×Int×Int×Int×Int×Int×Int×LDCn×LDCn×T2F)).bind λ(x0,x1,x2,x3,x4,x5,x6,x7,x8,x9,ac,ae,af,ag,ah,ai,aj,ak,am,an,ap,aq,av,ax,_)=>bif x0 then(none)else
(kQ x4 x5 x6 x7 x8).bind λ(aE,aF,aG,aH,aI,_)=>bif(ah==0)then((gj x9).bind λaJ=>
(fT aI aJ).bind λ_=>
(fT aI aJ).bind λaL=>
(fT ai 0).bind λaM=>
(fT aI aJ).bind λaO=>
(qe aL.1 aO.2.1 aL.2.2.1 aL.2.2.2.1 aL.2.2.2.2.1 aL.2.2.2.2.2.1 aL.2.2.2.2.2.2.1 aL.2.2.2.2.2.2.2 0 aM.2.1).bind λ(aP,aQ,aR,aS,aT,aU,aV,aW,_)=>
(gj x9).bind λaY=>
(fT aI aY).bind λ_=>
(fT aI aY).bind λ_=>let bc:=aI.modify aY λe=>(aP,(aQ,(aR,(aS,(aT,(aU,(aV,aW)))))));
(fT bc 0).bind λ_=>some (aE,aF,aG,aH,bc,true,()))else bif ax then((gj x9).bind λaJ=>
(fT aI aJ).bind λ_=>
(fT aI aJ).bind λ_=>let aM:=aI.modify aJ λe=>(3,e.2);
(fT aM 0).bind λ_=>
(fT aM 0).bind λ_=>some (aE,aF,aG,aH,aM,true,()))else
(nT x1 x2 x3 x9 ac ae af ag ah ai aj ak am an ap aq av ax aE aF aG aH aI).bind λ(aJ,aK,aL,aM,aO,aP,_)=>bif(!aJ)then(none)else
(fT aP 0).bind λ_=>
(fT aP 0).bind λ_=>some (aK,aL,aM,aO,aP,true,())
def Kv:X.Cfg:=⟨E0,[nG,s8,n7,s6,oO,xk,CS],[],[⟨2,0,qE,[(.normal,qS (zl [4,5,6,7,8]++[Xaa 48]) [(10,uab),(12,yac),(14,Uac),(16,uad),(18,Zab)])]⟩]⟩
def CU:Ctr:=⟨158,99,[.agg uab,.agg yac,.agg Uac,.agg uad],[],[⟨Ual,[.agg 5,.one],[]⟩],as2 (as4 (as8 (as8 ap1))) sA⟩
theorem Ki:Lk 5 CU:=ls Kv (aC pL (aC xO (aC rZ (aC xM (aC rj (aC BY (aC Kh aN)))))))
def oF(a0:LDIn)(a1:LI)(a2:LLI)(a3:LI)(a4:Int)(a5:LDCe)(a6:LDLn)(a7:LDTh)(a8 a9 ek eu eF:Int)(eH:LDCn)(eJ:Int)(eM:Bool):Option (T1i):=
((jf a0 a1 a2 a3 a4 a5 a6 a7).bind λ(x0,_)=>bif(!x0)then(some (a8,true,a0,a1,a2,a3,a4,a5,a6,a7,a9,ek,eu,eF,eH,eJ,eM,(),0,(),(),(),()))else
(mS a9 ek eu eF eH eJ eM).bind λ(x1,_)=>bif(!x1)then(some (a8,true,a0,a1,a2,a3,a4,a5,a6,a7,a9,ek,eu,eF,eH,eJ,eM,(),0,(),(),(),()))else bif(decide (a8<0))then(some (a8,true,a0,a1,a2,a3,a4,a5,a6,a7,a9,ek,eu,eF,eH,eJ,eM,(),0,(),(),(),()))else bif(decide (a8>=4))then(some (a8,true,a0,a1,a2,a3,a4,a5,a6,a7,a9,ek,eu,eF,eH,eJ,eM,(),0,(),(),(),()))else
(gj a8).bind λx2=>
(fT a7 x2).bind λx3=>some (a8,(x3.1 != 3),a0,a1,a2,a3,a4,a5,a6,a7,a9,ek,eu,eF,eH,eJ,eM,(),0,(),(),(),()):Option (T3n)).bind λ(x0,x1,_,x3,_,x5,x6,x7,x8,x9,ac,ae,af,ag,_)=>bif x1 then(none)else
(jp x5 x6 x3 ac ae af ag).bind λ(av,ax,ay,_)=>bif(ay != 0)then(none)else
(kQ x5 x6 x7 x8 x9).bind λ(az,aA,aB,aD,aE,_)=>
(gj x0).bind λaF=>
(fT aE aF).bind λ_=>
(fT aE aF).bind λ_=>
(fT aE aF).bind λaI=>
(fT aI.2.1 0).bind λ_=>
(fT aE aF).bind λaK=>
(fT aK.2.1 0).bind λ_=>let aM:=aE.modify aF λe=>(e.1,((e.2.1.modify 0 λe=>(av,ax)),e.2.2));
(gj x0).bind λaO=>
(fT aM aO).bind λ_=>
(fT aM aO).bind λ_=>let aR:=aM.modify aO λe=>(1,e.2);
(fT aR 0).bind λ_=>
(fT aR 0).bind λ_=>some (az,aA,aB,aD,aR,true,())
def IK:X.Cfg:=⟨E0,[nG,s6,tn,oO],[],[⟨2,0,qE,[(.normal,qS Uax Xar)]⟩]⟩
def uU:Ctr:=⟨23,100,[.agg uab,.agg yac,shU I64,.agg uad],[],[⟨Ual,[.agg 5,.one],[]⟩],as1 (as2 (as4 (as8 ap1))) oF⟩
theorem zS:Lk 5 uU:=ls IK (aC pL (aC xM (aC wY (aC rj aN))))
def qO(a0 a1:Int)(a2:LDIn)(a3:LI)(a4:LLI)(a5:LI)(a6:Int)(a7:LDCe)(a8:LDLn)(a9:LDTh)(ek eu:LI)(eF:LLI)(eH:z_)(eJ:LDOp)(eM:LDOu)(eQ:LI)(eU:LLI)(eW:LDEn)(eY:LI):Option (T36):=let x0:=wk .i64 a1;
(gr x0 true).bind λ(x1,x2,x3,x4,_,x6,x7,_)=>
(oF a2 a3 a4 a5 a6 a7 a8 a9 a0 x1 x2 x3 x4 [] x6 x7).bind λ(x8,x9,ac,ae,af,_,_)=>let ah:LDEn:=[(4,(a0,(0,(0,(0,(0,(0,(0,(0,([],([],(x1,(x2,(x3,(x4,([],(x6,x7)))))))))))))))))];bif(gk 184 eW.length ah.length)then let ai:LDEn:=(List.append eW ah);some (a2,a3,a4,x8,x9,ac,ae,af,ek,eu,eF,eH,eJ,eM,eQ,eU,ai,eY,())else none
def Iv:X.Cfg:=⟨E0,[nF,uU],[(35,Qd),(36,Qd)],[]⟩
def Am:Ctr:=⟨159,101,[.ptr ⟨2,0,[]⟩ [0],shU I64,shU CW],[(2,uae)],[⟨[],[],[(2,uae)]⟩],as1 (as2 (as8 (as8 ap1))) qO⟩
theorem HZ:Lk 6 Am:=ls Iv (aC pK (aC zS aN))
def lI(a0 a1 a2 a3 a4 a5:Int)(a6 a7:LDCn)(a8:LDIn)(a9:LI)(ek:LLI)(eu:LI)(eF:Int)(eH:LDCe)(eJ:LDLn)(eM:LDTh)(eQ eU:LI)(eW:LLI)(eY:z_)(fa:LDOp)(fe:LDOu)(fh:LI)(fj:LLI)(fm:LDEn)(fr:LI):Option (T36):=
(bif(a5==9)then((fT a6 0).bind λx0=>let x1:=wk .i64 x0.2.1;
(jK fh fj x1 a0).bind λ(_,_,x4,_,_)=>some (x4,a8,a9,ek,eu,eF,eH,eJ,eM,eQ,eU,eW,eY,fa,fe,fh,fj,fm,fr,a0,a1,a2,a3,a4,a5,a6,a7,()))else some ((-1),a8,a9,ek,eu,eF,eH,eJ,eM,eQ,eU,eW,eY,fa,fe,fh,fj,fm,fr,a0,a1,a2,a3,a4,a5,a6,a7,()):Option (Int×LDIn×LI×LLI×LI×Int×LDCe×LDLn×LDTh×LI×LI×LLI×LLCn×LDOp×LDOu×LI×LLI×LDEn×LI×T1K)).bind λ(x0,x1,x2,x3,x4,x5,x6,x7,x8,x9,ac,ae,af,ag,ah,ai,aj,ak,am,an,ap,aq,av,ax,ay,az,aA,_)=>
(mM an ap aq av ax ay az aA x1 x2 x3 x4 x5 x6 x7 x8 x9 ac ae af ag ah ai aj ak am).bind λ(aB,aD,aE,aF,aG,aH,aI,aJ,aK,aL,aM,aO,aP,aQ,aR,aS,aT,aU,aV,aW,aY,aZ,ba,bc,bd,_)=>
(sA aJ aK aL aM aO aP aQ aR an ap aq av ax ay az aA aB aD aE aF aG aH aI).bind λ(be,bf,bg,bh,bi,_,_)=>let bk:LDEn:=[(2,(an,(0,(an,(ap,(aq,(av,(ax,(ay,(az,(aA,(aB,(aD,(aE,(aF,(aG,(aH,aI)))))))))))))))))];bif(gk 184 bc.length bk.length)then let bm:LDEn:=(List.append bc bk);bif(decide (x0>=0))then((qO x0 0 aJ aK aL be bf bg bh bi aS aT aU aV aW aY aZ ba bm bd).bind λ(bn)=>some (bn))else some (aJ,aK,aL,be,bf,bg,bh,bi,aS,aT,aU,aV,aW,aY,aZ,ba,bm,bd,())else none
def DG:X.Cfg:=⟨E0,[ru,uO,CU,Am],[(56,Qd),(57,Qd)],[⟨2,0,qE,[(.normal,qS [zaa 0,zaa 3,Uaa 4] [(2,uae),(8,Uac)])]⟩]⟩
def wA:Ctr:=⟨135,102,[.ptr ⟨2,0,[]⟩ [0],.agg Uac],[(2,uae)],[⟨[],[],[(2,uae)]⟩],as1 (as8 (as8 (as8 ap1))) lI⟩
theorem Dk:Lk 7 wA:=ls DG (aC uA (aC BS (aC Ki (aC HZ aN))))
def ug:T2G->Option (T2G⊕(Int×Int×Int×Int×Nat×T1I)):=λ(v0,v1,v2,v3,v4,v5,v6,v7,v8,v9,eq,eE,_)=>bif(decide (v6<v5))then(((gj v6).bind λx0=>
(fT eq v4).bind λx1=>
(fT x1 x0).bind λ_=>
(fT eq v4).bind λx3=>
(fT x3 x0).bind λx4=>bif(x4 != v0)then(bif(gk 8 eE.length (List.length [x4]))then let x5:v_:=(List.append eE [x4]);some (v0,v1,v2,v3,v4,v5,v6,v7,v8,v9,eq,x5,())else none)else some (v0,v1,v2,v3,v4,v5,v6,v7,v8,v9,eq,eE,()):Option (T2G)).bind λ(x0,x1,x2,x3,x4,x5,x6,x7)=>let af:=w64 (x6+1);some (.inl (x0,x1,x2,x3,x4,x5,af,x7)))else some (.inr (v0,v1,v2,v3,v4,v5,v6,false,v7,v8,v9,eq,eE,()))
def uf:T1w->Option (T1w⊕(Int×T1r)):=λ(v0,v1,v2,v3,v4,v5,v6,_)=>bif(decide (v2<v1))then((gj v2).bind λx0=>
(fT v6 x0).bind λ_=>
(fT v6 x0).bind λ_=>
(fT v6 x0).bind λx3=>let x4:=fZ x3.length;
(gc ug NN (v0,v2,v1,v2,x0,x4,0,v3,v4,v5,v6,[],())).bind λ(x5,x6,x7,x8,_,_,_,_,ag,ah,ai,aj,ak,_)=>
(gj x6).bind λam=>
(fT aj am).bind λ_=>
(fT aj am).bind λ_=>let aq:=aj.modify am λe=>ak;let av:=w64 (x8+1);some (.inl (x5,x7,av,ag,ah,ai,aq,())))else some (.inr (v0,v1,v2,false,v3,v4,v5,v6,()))
def ue:T1N->Option (T1N⊕(Int×T1I)):=λ(v0,v1,v2,v3,v4,v5,v6,v7,_)=>bif(decide (v2<v1))then((jK v5 v6 v2 v0).bind λ(x0,x1,x2,x3,_)=>
(bif x3 then(bif(decide (x2>=0))then(bif(gk 8 v7.length (List.length [x2]))then let x4:v_:=(List.append v7 [x2]);some (v0,v1,v2,v3,v4,v5,v6,x4,x0,x1,())else none)else some (v0,v1,v2,v3,v4,v5,v6,v7,x0,x1,()))else some (v0,v1,v2,v3,v4,v5,v6,v7,x0,x1,()):Option (Int×Int×Int×Unit×Unit×LI×LLI×LI×T08)).bind λ(x4,x5,x6,x7,x8,_,_,ae,af,ag,_)=>let ah:=w64 (x6+1);some (.inl (x4,x5,ah,x7,x8,af,ag,ae,())))else some (.inr (v0,v1,v2,false,v3,v4,v5,v6,v7,()))
def qV(a0:LI)(a1:LLI)(a2:Int):Option (T0q):=
(oE a0 a1).bind λ(x0,x1,_)=>let x2:=fZ x1.length;
(gc uf NN (a2,x2,0,(),(),x0,x1,())).bind λ(x3,_,_,_,x7,x8,x9,ac,_)=>let ae:=fZ x9.length;
(gc ue NN (x3,ae,0,x7,x8,x9,ac,[],())).bind λ(_,_,_,_,_,_,am)=>some (am)
def II:X.Cfg:=⟨E0,[rx,ru],[],[⟨15,0,qE,[(.normal,(qS Xax yaq))]⟩,⟨12,1,(qS Xax yaq),[(.exit 2,(qS [Uaa 1,zaa 4,zaa 6,Uaa 7,Zaa 9 21,(20,.pk ⟨14,1,[]⟩ [0,0]),Uaa 21,Uaa 22,(27,.pk ⟨14,1,[((),(1,0))]⟩ [0,0,0]),Uaa 28,Uaa 29,Xaa 30] yaq))]⟩,(lx 4 2 (Uaa 1::zl [4,6]++(20,.pk ⟨14,1,[]⟩ [0,0])::il [21,22]) [(10,uac),(14,yaf)] 23),⟨27,3,qE,[(.normal,qS (Uaa 1::zl [4,6]++Zaa 12 27::zaa 14::il [49,50]) [(10,uac),(14,Xaf),(27,uaf),(30,Xaf)])]⟩,⟨21,4,qS (Uaa 1::zl [4,6]++Zaa 12 27::il [49,50]) Zar,[(.exit 4,qS [Uaa 1,zaa 4,zaa 6,Zaa 12 27,Uaa 49,Uaa 50,Xaa 51] Zar)]⟩]⟩
def Au:Ctr:=⟨160,103,[.agg Xaf,shU I64],[],[⟨uL [RI,(yaa RI),(uaa I64)],[.agg 2,.one],[]⟩],ap3 qV⟩
theorem Ia:Lk 3 Au:=ls II (aC uB (aC uA aN))
def lH(a0 a1:Int)(a2:LDIn)(a3:LI)(a4:LLI)(a5:LI)(a6:Int)(a7:LDCe)(a8:LDLn)(a9:LDTh)(ek eu:LI)(eF:LLI)(eH:z_)(eJ:LDOp)(eM:LDOu)(eQ:LI)(eU:LLI)(eW:LDEn):Option (LDIn×LI×LLI×LI×Int×LDCe×LDLn×LDTh×LI×LI×LLI×LLCn×LDOp×LDOu×LI×LLI×LDEn×Unit):=let x0:=wk .i64 a1;
(gr x0 true).bind λ(x1,x2,x3,x4,_,x6,x7,_)=>
(oF a2 a3 a4 a5 a6 a7 a8 a9 a0 x1 x2 x3 x4 [] x6 x7).bind λ(x8,x9,ac,ae,af,_,_)=>let ah:LDEn:=[(4,(a0,(0,(0,(0,(0,(0,(0,(0,([],([],(x1,(x2,(x3,(x4,([],(x6,x7)))))))))))))))))];bif(gk 184 eW.length ah.length)then let ai:LDEn:=(List.append eW ah);some (a2,a3,a4,x8,x9,ac,ae,af,ek,eu,eF,eH,eJ,eM,eQ,eU,ai,())else none
def DD:X.Cfg:=⟨E0,[nF,uU],[(35,Qd),(36,Qd)],[]⟩
def ww:Ctr:=⟨159,104,[.ptr ⟨2,0,[]⟩ [0],shU I64,shU CW],[(2,Xal)],[⟨[],[],[(2,Xal)]⟩],as2 (as8 (as8 ap1)) lH⟩
theorem Dh:Lk 6 ww:=ls DD (aC pK (aC zS aN))
def tH:T3o->Option (T3o⊕(Int×Int×Int×Bool×T3d)):=λ(v0,v1,v2,v3,v4,v5,v6,v7,v8,v9,eq,eE,eG,eI,eK,eO,eS,eV,eX,eZ,fc,ff,_)=>bif(decide (v2<v1))then((gj v2).bind λx0=>
(fT ff x0).bind λ_=>
(fT ff x0).bind λx2=>
(lH x2 0 v3 v4 v5 v6 v7 v8 v9 eq eE eG eI eK eO eS eV eX eZ).bind λ(x3,x4,x5,x6,x7,x8,x9,ac,ae,af,ag,ah,ai,aj,ak,am,an,_)=>let ap:=w64 (v2+1);some (.inl (v0,v1,ap,x3,x4,x5,x6,x7,x8,x9,ac,ae,af,ag,ah,ai,aj,ak,am,an,fc,ff,())))else some (.inr (v0,v1,v2,false,v3,v4,v5,v6,v7,v8,v9,eq,eE,eG,eI,eK,eO,eS,eV,eX,eZ,fc,ff,()))
def tG:T3l->Option (T3l⊕(Int×Int×T3g)):=λ(v0,v1,v2,v3,v4,v5,v6,v7,v8,v9,eq,eE,eG,eI,eK,eO,eS,eV,eX,eZ,fc,_)=>bif(decide (v2<v1))then(((gj v2).bind λx0=>
(fT fc x0).bind λ_=>
(fT fc x0).bind λx2=>bif(x2==v0)then((gj v0).bind λx3=>
(fT eq x3).bind λ_=>
(fT eq x3).bind λx5=>
(lH v2 x5.2.2.2.2.2.2.2 v3 v4 v5 v6 v7 v8 v9 eq eE eG eI eK eO eS eV eX eZ).bind λ(x6,x7,x8,x9,ac,ae,af,ag,ah,ai,aj,ak,am,an,ap,aq,av,_)=>
(gj v2).bind λax=>
(fT fc ax).bind λ_=>
(fT fc ax).bind λ_=>let aA:=fc.modify ax λe=>(-1);some (v0,v1,v2,x6,x7,x8,x9,ac,ae,af,ag,ah,ai,aj,ak,am,an,ap,aq,av,aA,()))else some (v0,v1,v2,v3,v4,v5,v6,v7,v8,v9,eq,eE,eG,eI,eK,eO,eS,eV,eX,eZ,fc,()):Option (T3l)).bind λ(x0,x1,x2,x3,x4,x5,x6,x7,x8,x9,ac,ae,af,ag,ah,ai,aj,ak,am,an,ap,_)=>let aq:=w64 (x2+1);some (.inl (x0,x1,aq,x3,x4,x5,x6,x7,x8,x9,ac,ae,af,ag,ah,ai,aj,ak,am,an,ap,())))else some (.inr (v0,v1,v2,false,v3,v4,v5,v6,v7,v8,v9,eq,eE,eG,eI,eK,eO,eS,eV,eX,eZ,fc,()))
def mN(a0:Int)(a1:LDIn)(a2:LI)(a3:LLI)(a4:LI)(a5:Int)(a6:LDCe)(a7:LDLn)(a8:LDTh)(a9 ek:LI)(eu:LLI)(eF:z_)(eH:LDOp)(eJ:LDOu)(eM:LI)(eQ:LLI)(eU:LDEn)(eW:LI):Option (T36):=
(qV eM eQ a0).bind λ(x0,x1,x2,_)=>let x3:=fZ x2.length;
(gc tH NN (a0,x3,0,a1,a2,a3,a4,a5,a6,a7,a8,a9,ek,eu,eF,eH,eJ,x0,x1,eU,eW,x2,())).bind λ(x4,_,_,_,x8,x9,ac,ae,af,ag,ah,ai,aj,ak,am,an,ap,aq,av,ax,ay,az,_,_)=>let aB:=fZ az.length;
(gc tG NN (x4,aB,0,x8,x9,ac,ae,af,ag,ah,ai,aj,ak,am,an,ap,aq,av,ax,ay,az,())).bind λ(_,_,_,_,aH)=>some (aH)
def FP:X.Cfg:=⟨E0,[Au,ww],[],[(lx 4 0 [zaa 0,Uaa 1,Zaa 23 13,Uaa 24,Uaa 25] [(2,uae),(13,uaf)] 26),⟨13,1,qE,[(.normal,(qS Zax [(2,uae)]))]⟩,⟨10,2,(qS Zax [(2,uae)]),[(.exit 2,(qS [zaa 0,Uaa 1,(36,.pk ⟨2,17,[]⟩ [0,0]),Uaa 37,Uaa 38,Xaa 39] [(2,uae)]))]⟩]⟩
def yh:Ctr:=⟨136,105,[.ptr ⟨2,0,[]⟩ [0],shU I64],[(2,uae)],[⟨[],[],[(2,uae)]⟩],as2 (as8 (as8 ap1)) mN⟩
theorem Fe:Lk 7 yh:=ls FP (aC Ia (aC Dh aN))
def oD(a0:LDIn)(a1:LI)(a2:LLI)(a3:LI)(a4:Int)(a5:LDCe)(a6:LDLn)(a7:LDTh)(a8 a9:LI)(ek:LLI)(eu:z_)(eF:LDOp)(eH:LDOu)(eJ:LI)(eM:LLI)(eQ:LDEn)(eU:LI)(eW eY:Int)(fa:Bool):Option ((Unit×Unit×Unit×Unit×Int×Unit×Unit×Unit×Unit×Unit×Unit×Unit×Unit×Unit×Unit×Unit×Unit×Unit×Int×Unit)⊕(LDIn×LI×LLI×LI×Int×LDCe×LDLn×LDTh×LI×LI×LLI×LLCn×LDOp×LDOu×LI×LLI×LDEn×T07)):=
(pj a7).bind λ(x0,_)=>let x1:=fZ x0.length;bif(x1==0)then(some (.inl ((),(),(),(),0,(),(),(),(),(),(),(),(),(),(),(),(),(),15,())))else let x2:=fZ eQ.length;bif(decide (x2>192))then(some (.inl ((),(),(),(),0,(),(),(),(),(),(),(),(),(),(),(),(),(),3,())))else let x3:=fZ x0.length;
(mp eW x3).bind λ(x4,_)=>
(gj x4).bind λx5=>
(fT x0 x5).bind λ_=>
(fT x0 x5).bind λx7=>
(mp eY 64).bind λ(x8,_)=>let x9:=w64 (1+x8);
(od a0 a1 a2 a3 a4 a5 a6 a7 a8 a9 ek eu eF eH eJ eM eQ eU).bind λ(ac,ae,af,ag,ah,ai,aj,ak,am,an,ap,aq,av,ax,ay,az,aA,aB,_)=>
(match(bif fa then((qb ag ah ai aj ak x7).bind λ(aD,_)=>bif aD then((mR ag ah ai aj ak x7).bind λ(aE,aF,aG,aH,aI,_,_)=>let aK:LDEn:=[(3,(x7,(0,(0,(0,(0,(0,(0,(0,([],([],(0,(0,(0,(0,([],(0,false)))))))))))))))))];bif(gk 184 aA.length aK.length)then let aL:LDEn:=(List.append aA aK);some (.inl (x7,x9,(),(),(),(),0,(),(),(),(),(),(),(),(),(),(),(),(),(),ac,ae,af,aE,aF,aG,aH,aI,am,an,ap,aq,av,ax,ay,az,aL,aB,()))else none)else some (.inr (x7,x9,(),(),(),(),0,(),(),(),(),(),(),(),(),(),(),(),(),(),ac,ae,af,ag,ah,ai,aj,ak,am,an,ap,aq,av,ax,ay,az,aA,aB,())))else some (.inr (x7,x9,(),(),(),(),0,(),(),(),(),(),(),(),(),(),(),(),(),(),ac,ae,af,ag,ah,ai,aj,ak,am,an,ap,aq,av,ax,ay,az,aA,aB,())):Option (T3V⊕T3V))with
|none=>none
|some (.inl (aD,aE,aF,aG,aH,aI,aJ,aK,aL,aM,aO,aP,aQ,aR,aS,aT,aU,aV,aW,aY,aZ,ba,bc,bd,be,bf,bg,bh,bi,bj,bk,bm,bn,bo,bp,bq,bt,bv,_))=>
(oH aZ ba bc bd be bf bg bh aD aE).bind λ(bx,bA,bB,bC,bD,bE,bF,bG,bH,bI,bJ,bK,bL,_,_)=>let bN:LDEn:=[(1,(aD,(aE,(bE,(bF,(bG,(bH,(bI,(bJ,(bK,(bL,(0,(0,(0,(0,([],(0,false)))))))))))))))))];bif(gk 184 bt.length bN.length)then let bO:LDEn:=(List.append bt bN);
(bif(bF==1)then((lI bE bF bG bH bI bJ bK bL aZ ba bc bx bA bB bC bD bi bj bk bm bn bo bp bq bO bv).bind λ(bP,bQ,bR,bS,bT,bU,bV,bW,bY,bZ,b8,b9,cb,cd,cf,cg,ch,ci,_)=>some (aD,aF,aG,aH,aI,aJ,aK,aL,aM,aO,aP,aQ,aR,aS,aT,aU,aV,aW,aY,bP,bQ,bR,bS,bT,bU,bV,bW,bY,bZ,b8,b9,cb,cd,cf,cg,ch,ci,()))else some (aD,aF,aG,aH,aI,aJ,aK,aL,aM,aO,aP,aQ,aR,aS,aT,aU,aV,aW,aY,aZ,ba,bc,bx,bA,bB,bC,bD,bi,bj,bk,bm,bn,bo,bp,bq,bO,bv,()):Option (T3P)).bind λ(bP,bQ,bR,bS,bT,bU,bV,bW,bY,bZ,b8,b9,cb,cd,cf,cg,ch,ci,cj,cn,cq,cr,cu,cw,cx,cy,cz,cD,cE,cF,cG,cH,cI,cJ,cK,cL,cM,_)=>
((gj bP).bind λcN=>
(fT cz cN).bind λ_=>
(fT cz cN).bind λcP=>bif(cP.1==4)then((mN bP cn cq cr cu cw cx cy cz cD cE cF cG cH cI cJ cK cL cM).bind λ(cQ,cR,cS,cT,cU,cV,cW,cX,cY,cZ,c8,c9,dc,de,df,dg,dh,dk,_)=>some (bQ,bR,bS,bT,bU,bV,bW,bY,bZ,b8,b9,cb,cd,cf,cg,ch,ci,cj,cQ,cR,cS,cT,cU,cV,cW,cX,cY,cZ,c8,c9,dc,de,df,dg,dh,dk,()))else some (bQ,bR,bS,bT,bU,bV,bW,bY,bZ,b8,b9,cb,cd,cf,cg,ch,ci,cj,cn,cq,cr,cu,cw,cx,cy,cz,cD,cE,cF,cG,cH,cI,cJ,cK,cL,cM,()):Option (T3M)).bind λ(_,_,_,_,_,_,_,_,_,_,_,_,_,_,_,_,_,_,dg,dh,dk,dm,dn,dp,dq,dx,dy,dz,dA,dB,dC,dD,dE,dF,dG,dH,_)=>some (.inr (dg,dh,dk,dm,dn,dp,dq,dx,dy,dz,dA,dB,dC,dD,dE,dF,dG,dH,0,()))else none
|some (.inr (aD,aE,aF,aG,aH,aI,aJ,aK,aL,aM,aO,aP,aQ,aR,aS,aT,aU,aV,aW,aY,aZ,ba,bc,bd,be,bf,bg,bh,bi,bj,bk,bm,bn,bo,bp,bq,bt,bv,_))=>
(oH aZ ba bc bd be bf bg bh aD aE).bind λ(bx,bA,bB,bC,bD,bE,bF,bG,bH,bI,bJ,bK,bL,_,_)=>let bN:LDEn:=[(1,(aD,(aE,(bE,(bF,(bG,(bH,(bI,(bJ,(bK,(bL,(0,(0,(0,(0,([],(0,false)))))))))))))))))];bif(gk 184 bt.length bN.length)then let bO:LDEn:=(List.append bt bN);
(bif(bF==1)then((lI bE bF bG bH bI bJ bK bL aZ ba bc bx bA bB bC bD bi bj bk bm bn bo bp bq bO bv).bind λ(bP,bQ,bR,bS,bT,bU,bV,bW,bY,bZ,b8,b9,cb,cd,cf,cg,ch,ci,_)=>some (aD,aF,aG,aH,aI,aJ,aK,aL,aM,aO,aP,aQ,aR,aS,aT,aU,aV,aW,aY,bP,bQ,bR,bS,bT,bU,bV,bW,bY,bZ,b8,b9,cb,cd,cf,cg,ch,ci,()))else some (aD,aF,aG,aH,aI,aJ,aK,aL,aM,aO,aP,aQ,aR,aS,aT,aU,aV,aW,aY,aZ,ba,bc,bx,bA,bB,bC,bD,bi,bj,bk,bm,bn,bo,bp,bq,bO,bv,()):Option (T3P)).bind λ(bP,bQ,bR,bS,bT,bU,bV,bW,bY,bZ,b8,b9,cb,cd,cf,cg,ch,ci,cj,cn,cq,cr,cu,cw,cx,cy,cz,cD,cE,cF,cG,cH,cI,cJ,cK,cL,cM,_)=>
((gj bP).bind λcN=>
(fT cz cN).bind λ_=>
(fT cz cN).bind λcP=>bif(cP.1==4)then((mN bP cn cq cr cu cw cx cy cz cD cE cF cG cH cI cJ cK cL cM).bind λ(cQ,cR,cS,cT,cU,cV,cW,cX,cY,cZ,c8,c9,dc,de,df,dg,dh,dk,_)=>some (bQ,bR,bS,bT,bU,bV,bW,bY,bZ,b8,b9,cb,cd,cf,cg,ch,ci,cj,cQ,cR,cS,cT,cU,cV,cW,cX,cY,cZ,c8,c9,dc,de,df,dg,dh,dk,()))else some (bQ,bR,bS,bT,bU,bV,bW,bY,bZ,b8,b9,cb,cd,cf,cg,ch,ci,cj,cn,cq,cr,cu,cw,cx,cy,cz,cD,cE,cF,cG,cH,cI,cJ,cK,cL,cM,()):Option (T3M)).bind λ(_,_,_,_,_,_,_,_,_,_,_,_,_,_,_,_,_,_,dg,dh,dk,dm,dn,dp,dq,dx,dy,dz,dA,dB,dC,dD,dE,dF,dG,dH,_)=>some (.inr (dg,dh,dk,dm,dn,dp,dq,dx,dy,dz,dA,dB,dC,dD,dE,dF,dG,dH,0,()))else none)
def Iw:X.Cfg:=⟨E0,[yu,xm,wz,xj,uT,Av,wA,yh],[(60,Qd),(61,Qd),(82,Qd),(83,Qd)],[⟨11,0,qE,[(.normal,(qS uay [(10,Xae),(20,uL [gP,RI,(yaa RW),RI,CW,(uaa KCe),iz,qF,RW,RW,(yaa RW),(yaa gp),jm,lf,RI,(yaa RI),(uaa qJ),(uaa I64)])])),(.normal,qS uay [(10,Xae),(20,ual)])]⟩,⟨17,1,qE,[(.normal,qS [zaa 4,Uaa 7,zaa 9] [(10,Xae),(20,uae)])]⟩,⟨19,2,qE,[(.normal,qS (zl [4,9]) [(10,Xae),(20,uae)])]⟩]⟩
def An:Ctr:=⟨96,106,[.agg Xah,.agg yaj],[],[⟨uL [N1,N1,N1,N1,CW,N1,N1,N1,N1,N1,N1,N1,N1,N1,N1,N1,N1,N1,I64],[.agg 18,.one],[]⟩,⟨uL [gP,RI,(yaa RW),RI,CW,(uaa KCe),iz,(uaa nL),RW,RW,(yaa RW),(yaa gp),jm,lf,RI,(yaa RI),(uaa qJ),(uaa I64),I64],[.agg 18,.one],[]⟩],as4 (as8 (as8 ap1)) oD⟩
theorem H3:Lk 8 An:=ls Iw (aC Fq (aC B4 (aC Dj (aC BW (aC BV (aC Ib (aC Dk (aC Fe aN))))))))
def sI:T40->Option (T40⊕(T4a⊕(T4a⊕(T49⊕(Int×Bool×T3W))))):=λ(v0,v1,v2,v3,v4,v5,v6,v7,v8,v9,eq,eE,eG,eI,eK,eO,eS,eV,eX,eZ,fc,ff,fi,fk,fq,fu,fv,fw,fA,fB,fC,fD,fE,fF,fG,fH,fI,fJ,fK,_)=>bif(decide (v0>0))then((match((pF v1 v2).bind λ(x0,x1,x2,x3,x4,_)=>
(match oD ff fi fk fq fu fv fw fA fB fC fD fE fF fG fH fI fJ fK x0 x1 x2 with
|none=>none
|some (.inl (x5,x6,x7,x8,x9,ac,ae,af,ag,ah,ai,aj,ak,am,an,ap,aq,av,ax,_))=>bif(ax != 0)then(some (.inl (v0,true,x3,x4,v3,v4,v5,v6,v7,v8,v9,eq,eE,eG,eI,eK,eO,eS,eV,eX,eZ,fc,ff,fi,fk,fq,fu,fv,fw,fA,fB,fC,fD,fE,fF,fG,fH,fI,fJ,fK,x5,x6,x7,x8,x9,ac,ae,af,ag,ah,ai,aj,ak,am,an,ap,aq,av,())))else some (.inr (.inl (v0,x3,x4,v3,v4,v5,v6,v7,v8,v9,eq,eE,eG,eI,eK,eO,eS,eV,eX,eZ,fc,x5,x6,x7,x8,x9,ac,ae,af,ag,ah,ai,aj,ak,am,an,ap,aq,av,())))
|some (.inr (_,_,_,_,_,_,_,_,_,_,_,_,_,_,_,_,_,_,_,_))=>
(match oD ff fi fk fq fu fv fw fA fB fC fD fE fF fG fH fI fJ fK x0 x1 x2 with
|none=>none
|some (.inl (ay,az,aA,aB,aD,aE,aF,aG,aH,aI,aJ,aK,aL,aM,aO,aP,aQ,aR,aS,_))=>bif(aS != 0)then(some (.inr (.inr (.inl (v0,true,x3,x4,v3,v4,v5,v6,v7,v8,v9,eq,eE,eG,eI,eK,eO,eS,eV,eX,eZ,fc,ff,fi,fk,fq,fu,fv,fw,fA,fB,fC,fD,fE,fF,fG,fH,fI,fJ,fK,ay,az,aA,aB,aD,aE,aF,aG,aH,aI,aJ,aK,aL,aM,aO,aP,aQ,aR,())))))else some (.inr (.inl (v0,x3,x4,v3,v4,v5,v6,v7,v8,v9,eq,eE,eG,eI,eK,eO,eS,eV,eX,eZ,fc,ay,az,aA,aB,aD,aE,aF,aG,aH,aI,aJ,aK,aL,aM,aO,aP,aQ,aR,())))
|some (.inr (ay,az,aA,aB,aD,aE,aF,aG,aH,aI,aJ,aK,aL,aM,aO,aP,aQ,aR,aS,_))=>bif(aS != 0)then(some (.inr (.inr (.inr (.inl (v0,true,x3,x4,v3,v4,v5,v6,v7,v8,v9,eq,eE,eG,eI,eK,eO,eS,eV,eX,eZ,fc,ff,fi,fk,fq,fu,fv,fw,fA,fB,fC,fD,fE,fF,fG,fH,fI,fJ,fK,ay,az,aA,aB,aD,aE,aF,aG,aH,aI,aJ,aK,aL,aM,aO,aP,aQ,aR,()))))))else some (.inr (.inr (.inr (.inr (v0,x3,x4,v3,v4,v5,v6,v7,v8,v9,eq,eE,eG,eI,eK,eO,eS,eV,eX,eZ,fc,ay,az,aA,aB,aD,aE,aF,aG,aH,aI,aJ,aK,aL,aM,aO,aP,aQ,aR,()))))))):Option (T4a⊕((Int×LI×Int×Unit×Unit×Unit×Unit×Int×Unit×Unit×Unit×Unit×Unit×Unit×Unit×Unit×Unit×Unit×Unit×Unit×Unit×T3a)⊕(T4a⊕(T49⊕T40)))))with
|none=>none
|some (.inl (x0,x1,x2,x3,x4,x5,x6,x7,x8,x9,ac,ae,af,ag,ah,ai,aj,ak,am,an,ap,aq,av,ax,ay,az,aA,aB,aD,aE,aF,aG,aH,aI,aJ,aK,aL,aM,aO,aP,aQ,aR,aS,aT,aU,aV,aW,aY,aZ,ba,bc,bd,be,bf,bg,bh,bi,bj,_))=>some (.inr (.inl (x0,x1,x2,x3,x4,x5,x6,x7,x8,x9,ac,ae,af,ag,ah,ai,aj,ak,am,an,ap,aq,av,ax,ay,az,aA,aB,aD,aE,aF,aG,aH,aI,aJ,aK,aL,aM,aO,aP,aQ,aR,aS,aT,aU,aV,aW,aY,aZ,ba,bc,bd,be,bf,bg,bh,bi,bj,())))
|some (.inr (.inl (x0,x1,x2,x3,x4,x5,x6,x7,x8,x9,ac,ae,af,ag,ah,ai,aj,ak,am,an,ap,_,_,_,_,az,_,_,_,_,_,_,_,_,_,_,_,_,_,_)))=>let aP:=w64 (x0-1);some (.inl (aP,x1,x2,x3,x4,x5,x6,x7,x8,x9,ac,ae,af,ag,ah,ai,aj,ak,am,an,ap,[],[],[],[],az,[],[],[],[],[],[],[],[],[],[],[],[],[],()))
|some (.inr (.inr (.inl (x0,x1,x2,x3,x4,x5,x6,x7,x8,x9,ac,ae,af,ag,ah,ai,aj,ak,am,an,ap,aq,av,ax,ay,az,aA,aB,aD,aE,aF,aG,aH,aI,aJ,aK,aL,aM,aO,aP,aQ,aR,aS,aT,aU,aV,aW,aY,aZ,ba,bc,bd,be,bf,bg,bh,bi,bj,_))))=>some (.inr (.inr (.inl (x0,x1,x2,x3,x4,x5,x6,x7,x8,x9,ac,ae,af,ag,ah,ai,aj,ak,am,an,ap,aq,av,ax,ay,az,aA,aB,aD,aE,aF,aG,aH,aI,aJ,aK,aL,aM,aO,aP,aQ,aR,aS,aT,aU,aV,aW,aY,aZ,ba,bc,bd,be,bf,bg,bh,bi,bj,()))))
|some (.inr (.inr (.inr (.inl (x0,x1,x2,x3,x4,x5,x6,x7,x8,x9,ac,ae,af,ag,ah,ai,aj,ak,am,an,ap,aq,av,ax,ay,az,aA,aB,aD,aE,aF,aG,aH,aI,aJ,aK,aL,aM,aO,aP,aQ,aR,aS,aT,aU,aV,aW,aY,aZ,ba,bc,bd,be,bf,bg,bh,bi,bj,_)))))=>some (.inr (.inr (.inr (.inl (x0,x1,x2,x3,x4,x5,x6,x7,x8,x9,ac,ae,af,ag,ah,ai,aj,ak,am,an,ap,aq,av,ax,ay,az,aA,aB,aD,aE,aF,aG,aH,aI,aJ,aK,aL,aM,aO,aP,aQ,aR,aS,aT,aU,aV,aW,aY,aZ,ba,bc,bd,be,bf,bg,bh,bi,bj,())))))
|some (.inr (.inr (.inr (.inr (x0,x1,x2,x3,x4,x5,x6,x7,x8,x9,ac,ae,af,ag,ah,ai,aj,ak,am,an,ap,aq,av,ax,ay,az,aA,aB,aD,aE,aF,aG,aH,aI,aJ,aK,aL,aM,aO,_)))))=>let aP:=w64 (x0-1);some (.inl (aP,x1,x2,x3,x4,x5,x6,x7,x8,x9,ac,ae,af,ag,ah,ai,aj,ak,am,an,ap,aq,av,ax,ay,az,aA,aB,aD,aE,aF,aG,aH,aI,aJ,aK,aL,aM,aO,()))))else some (.inr (.inr (.inr (.inr (v0,false,v1,v2,v3,v4,v5,v6,v7,v8,v9,eq,eE,eG,eI,eK,eO,eS,eV,eX,eZ,fc,ff,fi,fk,fq,fu,fv,fw,fA,fB,fC,fD,fE,fF,fG,fH,fI,fJ,fK,())))))
def vA(a0:LI)(a1:Int):Option (LDIn×LI×LLI×LI×Int×LDCe×LDLn×LDTh×LI×LI×LLI×LLCn×LDOp×LDOu×LI×LLI×LDEn×LI×T07):=
(om a0 a1).bind λ(x0,x1,x2,x3,x4,_)=>
(pE x1 x3 x4).bind λ(x5,x6,x7,x8,_)=>
(oo x7 x8).bind λ(x9,ac,ae,af,ag,_,ai,aj,_)=>
(su x0 x1 x2 x5 x6 x9 ac ae af ag []).bind λ(ak,am,an,ap,aq,av,ax,ay,az,aA,aB,aD,aE,aF,aG,aH,_,aJ,_,_)=>
(fT ay 0).bind λ_=>
(fT ay 0).bind λ_=>
(fU 16 ai aj).bind λ(aO,aP,aQ,_)=>let aR:=w64 (3+aO);
(match gc sI NN (aR,aP,aQ,(),(),(),(),0,(),(),(),(),(),(),(),(),(),(),(),(),(),ak,am,an,ap,aq,av,ax,ay,az,aA,aB,aD,aE,aF,aG,aH,[],aJ,())with
|none=>none
|some (.inl (_,_,aU,aV,_,_,_,_,_,_,_,_,_,_,_,_,_,_,_,_,_,_,bt,bv,bx,bA,bB,bC,bD,bE,bF,bG,bH,bI,bJ,bK,bL,bM,bN,bO,_,_,_,_,_,_,_,_,_,_,_,_,_,_,_,_,_,_,_))=>some (bt,bv,bx,bA,bB,bC,bD,bE,bF,bG,bH,bI,bJ,bK,bL,bM,bN,bO,aU,aV,())
|some (.inr (.inl (_,_,_,_,_,_,_,_,_,_,_,_,_,_,_,_,_,_,_,_,_,_,_,_,_,_,_,_,_,_,_,_,_,_,_,_,_,_,_,_,_,_,_,_,_,_,_,_,_,_,_,_,_,_,_,_,_,_,_)))=>none
|some (.inr (.inr (.inl (_,_,_,_,_,_,_,_,_,_,_,_,_,_,_,_,_,_,_,_,_,_,_,_,_,_,_,_,_,_,_,_,_,_,_,_,_,_,_,_,_,_,_,_,_,_,_,_,_,_,_,_,_,_,_,_,_,_,_))))=>none
|some (.inr (.inr (.inr (_,_,aU,aV,_,_,_,_,_,_,_,_,_,_,_,_,_,_,_,_,_,_,bt,bv,bx,bA,bB,bC,bD,bE,bF,bG,bH,bI,bJ,bK,bL,bM,bN,bO,_))))=>some (bt,bv,bx,bA,bB,bC,bD,bE,bF,bG,bH,bI,bJ,bK,bL,bM,bN,bO,aU,aV,()))
def Nc:X.Cfg:=⟨E0,[wM,yM,wN,yi,hU,yN,An],[],[⟨8,0,qE,[(.exit 0,qS zau uas),(.normal,qS Xav [(2,yab),(6,Xae),(10,Xae)]),(.exit 0,qS zau yas),(.exit 0,qS zau zas),(.normal,qS Xav [(2,yab),(6,Xae),(10,uae)])]⟩,⟨5,1,qS Xav Uas,[(.exit 0,qS zau uas),(.exit 0,qS zau yas),(.exit 0,qS zau zas),(.exit 0,qS (zl [0,2,4]++[Uaa 6,Xaa 26]) Uas)]⟩]⟩
def EF:Ctr:=⟨57,107,[.ptr ⟨2,0,[]⟩ [0]],[(2,yab)],[⟨Xai,[.agg 18],[(2,yab)]⟩],ap2 vA⟩
theorem M4:Lk 9 EF:=ls Nc (aC Dv (aC FJ (aC Dw (aC Ff (aC ii (aC FL (aC H3 aN)))))))
def jh:T2O->Option (T2O⊕(LI×Int×LI×Int×Int×Int×Int×Bool×T1d)):=λ(v0,v1,v2,v3,v4,v5,v6,v7,v8,v9,eq,eE,eG,_)=>bif(decide (v6<v5))then((gj v1).bind λx0=>
(fT v9 x0).bind λx1=>let x2:=w64 (x1+v6);
(oI v7 v8 x2).bind λ(x3,x4,_)=>
(ji v9 eq v0 x3 x4).bind λ(x5,x6,x7,x8,_)=>let x9:LDCn:=[(x5,(x6,(x7,x8)))];bif(gk 24 eG.length x9.length)then let ac:LDCn:=(List.append eG x9);let ae:=w64 (v6+1);some (.inl (v0,v1,v2,v3,v4,v5,ae,v7,v8,v9,eq,eE,ac,()))else none)else some (.inr (v0,v1,v2,v3,v4,v5,v6,false,v7,v8,v9,eq,eE,eG,()))
def jg:T2b->Option (T2b⊕(LI×LI×Int×Int×Bool×T0U)):=λ(v0,v1,v2,v3,v4,v5,v6,v7,v8,_)=>bif(decide (v3<v2))then((gj v3).bind λx0=>
(fT v1 x0).bind λx1=>
(gc jh NN (v0,v3,v1,v2,v3,x1,0,v4,v5,v6,v7,v8,[],())).bind λ(x2,_,x4,x5,x6,_,_,_,ac,ae,af,ag,ah,ai,_)=>bif(gk 24 ah.length (List.length [ai]))then let aj:z_:=(List.append ah [ai]);let ak:=w64 (x6+1);some (.inl (x2,x4,x5,ak,ac,ae,af,ag,aj,()))else none)else some (.inr (v0,v1,v2,v3,false,v4,v5,v6,v7,v8,()))
def m9(a0:LDCe)(a1:LDLn)(a2:LI)(a3:Int)(a4:LI):Option (LLCn×Unit):=let x0:=fZ a4.length;
(gc jg NN (a4,a4,x0,0,a0,a1,a2,a3,[],())).bind λ(_,_,_,_,_,_,_,_,_,ac,_)=>some (ac,())
def Cl:X.Cfg:=⟨E0,[u6,pV],[(41,(uaa KCn)),(42,(uaa KCn))],[⟨12,0,qS (sP 2 RI::zl [3,4]++Zaa 7 17::Uaa 8::Zaa 10 23::sP 12 RI::il [13,14,19,20]) Xas,[(.exit 2,qS (sP 2 RI::zl [3,4]++Zaa 7 17::Uaa 8::Zaa 10 23::sP 12 RI::il [13,14,19,20]++[Xaa 21]) Xas)]⟩,(lx 4 1 (sP 2 RI::zl [3,4]++Zaa 7 17::sP 12 RI::il [13,14]) [(8,yad),(10,Uab),(17,Uaj)] 15)]⟩
def u5:Ctr:=⟨29,108,[.agg yad,.agg Uab,shU RI],[],[⟨Uaj,[.one],[]⟩],ap5 m9⟩
theorem B2:Lk 3 u5:=ls Cl (aC zY (aC sR aN))
def j5:T3H->Option (T3H⊕(LDTh×Int×Int×LDCe×Int×Int×Bool×T3C)):=λ(v0,v1,v2,v3,v4,v5,v6,v7,v8,v9,eq,eE,eG,eI,eK,eO,eS,eV,eX,eZ,fc,ff,fi,fk,fq,fu,fv,fw,fA,fB,fC,fD,fE,fF,_)=>bif(decide (v5<v4))then((gj v5).bind λx0=>
(fT v3 x0).bind λx1=>
(ji v9 eq v7 x1.1 x1.2).bind λ(x2,x3,x4,x5,_)=>let x6:LDCn:=[(x2,(x3,(x4,x5)))];bif(gk 24 fF.length x6.length)then let x7:LDCn:=(List.append fF x6);let x8:=w64 (v5+1);some (.inl (v0,v1,v2,v3,v4,x8,v6,v7,v8,v9,eq,eE,eG,eI,eK,eO,eS,eV,eX,eZ,fc,ff,fi,fk,fq,fu,fv,fw,fA,fB,fC,fD,fE,x7,()))else none)else some (.inr (v0,v1,v2,v3,v4,v5,false,v6,v7,v8,v9,eq,eE,eG,eI,eK,eO,eS,eV,eX,eZ,fc,ff,fi,fk,fq,fu,fv,fw,fA,fB,fC,fD,fE,fF,()))
def j4:T2U->Option (T2U⊕(LDTh×Int×Int×Bool×T2I)):=λ(v0,v1,v2,v3,v4,v5,v6,v7,v8,v9,eq,eE,eG,eI,eK,_)=>bif(decide (v2<v1))then((gj v2).bind λx0=>
(fT v0 x0).bind λx1=>let x2:=fZ x1.2.1.length;
(gc j5 NN (v0,v1,v2,x1.2.1,x2,0,v3,v4,v5,v6,v7,v8,v9,eq,eE,eG,eI,eK,x1.1,x1.2.1,x1.2.2.1,x1.2.2.2.1,x1.2.2.2.2.1,x1.2.2.2.2.2.1,x1.2.2.2.2.2.2.1,x1.2.2.2.2.2.2.2,x1.1,x1.2.2.1,x1.2.2.2.1,x1.2.2.2.2.1,x1.2.2.2.2.2.1,x1.2.2.2.2.2.2.1,x1.2.2.2.2.2.2.2,[],())).bind λ(x3,x4,x5,_,_,_,_,ac,ae,af,ag,ah,ai,aj,ak,am,an,ap,aq,_,_,_,_,_,_,_,_,aF,aG,aH,aI,aJ,aK,aL,aM,_)=>let aO:LDTs:=[(aF,(aG,(aH,(aI,(aJ,(aK,(aL,aM)))))))];bif(gk 80 aq.length aO.length)then let aP:LDTs:=(List.append aq aO);let aQ:=w64 (x5+1);some (.inl (x3,x4,aQ,ac,ae,af,ag,ah,ai,aj,ak,am,an,ap,aP,()))else none)else some (.inr (v0,v1,v2,false,v3,v4,v5,v6,v7,v8,v9,eq,eE,eG,eI,eK,()))
def mV(a0:LDIn)(a1:LI)(a2:LLI)(a3:LI)(a4:Int)(a5:LDCe)(a6:LDLn)(a7:LDTh):Option (T0a):=
(m9 a5 a6 a3 a4 a1).bind λ(x0,_)=>let x1:=fZ a7.length;
(gc j4 NN (a7,x1,0,a0,a1,a2,a3,a4,a5,a6,a7,(),(),x0,[],())).bind λ(_,_,_,_,_,_,_,_,_,_,_,_,_,_,aj)=>some (aj)
def F1:X.Cfg:=⟨E0,[u5,pV],[(63,Mc),(64,Mc)],[⟨12,0,qS (zl [2,3,4,5,8]++sP 20 mn::il [21,22]++sP 42 gT::il [43,44]) Zas,[(.exit 2,qS (zl [2,3,4,5,8]++sP 20 mn::il [21,22]++sP 42 gT::il [43,44]++[Xaa 45]) Zas)]⟩,(lx 4 1 (zl [2,3,4,5]++sP 20 mn::il [21,22]) [(6,uab),(8,yac),(10,uac),(12,uag)] 23)]⟩
def s7:Ctr:=⟨10,109,[.agg uab,.agg yac],[],[⟨uag,[.agg 2],[]⟩],as1 (as2 (as4 ap1)) mV⟩
theorem xN:Lk 4 s7:=ls F1 (aC B2 (aC sR aN))
def j8:Int×T0o->Option ((Int×T0o)⊕(Int×T0E)):=λ(v0,v1,v2,v3,_)=>bif(decide (v3<v2))then((gj v3).bind λx0=>
(fT v1 x0).bind λx1=>let x2:=w64 (v0+x1);let x3:=w64 (v3+1);some (.inl (x2,v1,v2,x3,())))else some (.inr (v0,v1,v2,v3,false,()))
def pt(a0:LI):h_:=let x0:=fZ a0.length;
(gc j8 NN (0,a0,x0,0,())).bind λ(x1,_)=>some (x1,())
def Gr:X.Cfg:=⟨E0,[],[],[(lx 4 0 (Uaa 3::sP 6 RI::il [7,8]) [] 9)]⟩
def yz:Ctr:=⟨99,110,yai,[],[⟨zac,[.one],[]⟩],ap1 pt⟩
theorem Fv:Lk 1 yz:=ls Gr aN
def sD:Int×LI×T0w->Option ((Int×LI×T0w)⊕(T0f⊕T1C)):=λ(v0,v1,v2,v3,v4)=>bif(decide (v3<v2))then((gj v3).bind λx0=>
(fT v1 x0).bind λx1=>
(match(bif(decide (v0>=0))then(bif(decide (v0<x1))then(some (.inl (0,v3,v0,())))else some (.inr (v0,v3,x1,v1,v2,v3,false,v4)))else some (.inr (v0,v3,x1,v1,v2,v3,false,v4)):Option (T0f⊕(Int×Int×T1C)))with
|none=>none
|some (.inl (x2,x3,x4,_))=>some (.inr (.inl (x2,x3,x4,())))
|some (.inr (x2,_,x4,x5,x6,x7,_,x9))=>let ae:=w64 (x2-x4);let af:=w64 (x7+1);some (.inl (ae,x5,x6,af,x9))))else some (.inr (.inr (v0,v1,v2,v3,false,v4)))
def vz(a0:LI)(a1:Int):Option (T0f):=let x0:=fZ a0.length;
(match gc sD NN (a1,a0,x0,0,0,0,())with
|none=>none
|some (.inl (x1,x2,x3,_))=>some (x2,x3,x1,())
|some (.inr (_,_,_,_))=>some (0,0,6,()))
def Nb:X.Cfg:=⟨E0,[],[],[⟨8,0,qE,[(.ret,qS zav Zan),(.normal,qS [Uaa 1,zaa 4,Uaa 6,Uaa 7,sP 8 RI,Uaa 9,Uaa 10,Xaa 21] Zan)]⟩,⟨3,1,qS [Uaa 1,zaa 4,sP 8 RI,Uaa 9,Uaa 10] Zan,[(.ret,qS zav Zan),(.exit 0,qS [Uaa 1,zaa 4,sP 8 RI,Uaa 9,Uaa 10,Xaa 11] Zan)]⟩]⟩
def EE:Ctr:=⟨98,111,yab,[],[⟨zak,[.agg 2,.one],[]⟩],ap2 vz⟩
theorem M3:Lk 1 EE:=ls Nb aN
def jL(a0 a1:LI)(a2:Int):Option (T19):=
(fU 6 a1 a2).bind λ(x0,x1,x2,_)=>bif(x0==4)then((pt a0).bind λ(x3,_)=>
(fU x3 x1 x2).bind λ(x4,x5,x6,_)=>
(vz a0 x4).bind λ(x7,x8,_,_)=>some (1,0,x7,x8,x5,x6,()))else bif(x0==5)then((fU 10 x1 x2).bind λ(x3,x4,x5,_)=>let x6:=wk .u16 x3;some (2,x6,0,0,x4,x5,()))else
(kW x1 x2).bind λ(x3,x4,x5,_)=>some (0,x3,0,0,x4,x5,())
def Je:X.Cfg:=⟨E0,[hU,yz,EE,qC],[],[]⟩
def oQ:Ctr:=⟨58,112,[.ptr ⟨2,0,[]⟩ [0],shU RI],[(2,yab)],[⟨yag,[.agg 4],[(2,yab)]⟩],ap3 jL⟩
theorem rm:Lk 5 oQ:=ls Je (aC ii (aC Fv (aC M3 (aC sT aN))))
def je:LDTs×LDTs×T02->Option ((LDTs×LDTs×T02)⊕((Bool×Unit)⊕(LDTs×LDTs×T0e))):=λ(v0,v1,v2,v3,_)=>bif(decide (v3<v2))then((gj v3).bind λx0=>
(fT v1 x0).bind λx1=>
(bif(decide (x1.1>=0))then(bif(decide (x1.1<=4))then(bif(decide (x1.2.1>=0))then(bif(decide (x1.2.1<=255))then(bif(decide (x1.2.2.1>=0))then(bif(decide (x1.2.2.1<=1099511627776))then(bif(decide (x1.2.2.2.1>=(-1)))then(bif(decide (x1.2.2.2.1<=255))then(bif(decide (x1.2.2.2.2.1>=(-1)))then(bif(decide (x1.2.2.2.2.1<=255))then(bif(decide (x1.2.2.2.2.2.1>=0))then(some (v0,(decide (x1.2.2.2.2.2.1<=6)),v1,v2,v3,x1.1,x1.2.1,x1.2.2.1,x1.2.2.2.1,x1.2.2.2.2.1,x1.2.2.2.2.2.1,x1.2.2.2.2.2.2.1,x1.2.2.2.2.2.2.2,()))else some (v0,false,v1,v2,v3,x1.1,x1.2.1,x1.2.2.1,x1.2.2.2.1,x1.2.2.2.2.1,x1.2.2.2.2.2.1,x1.2.2.2.2.2.2.1,x1.2.2.2.2.2.2.2,()))else some (v0,false,v1,v2,v3,x1.1,x1.2.1,x1.2.2.1,x1.2.2.2.1,x1.2.2.2.2.1,x1.2.2.2.2.2.1,x1.2.2.2.2.2.2.1,x1.2.2.2.2.2.2.2,()))else some (v0,false,v1,v2,v3,x1.1,x1.2.1,x1.2.2.1,x1.2.2.2.1,x1.2.2.2.2.1,x1.2.2.2.2.2.1,x1.2.2.2.2.2.2.1,x1.2.2.2.2.2.2.2,()))else some (v0,false,v1,v2,v3,x1.1,x1.2.1,x1.2.2.1,x1.2.2.2.1,x1.2.2.2.2.1,x1.2.2.2.2.2.1,x1.2.2.2.2.2.2.1,x1.2.2.2.2.2.2.2,()))else some (v0,false,v1,v2,v3,x1.1,x1.2.1,x1.2.2.1,x1.2.2.2.1,x1.2.2.2.2.1,x1.2.2.2.2.2.1,x1.2.2.2.2.2.2.1,x1.2.2.2.2.2.2.2,()))else some (v0,false,v1,v2,v3,x1.1,x1.2.1,x1.2.2.1,x1.2.2.2.1,x1.2.2.2.2.1,x1.2.2.2.2.2.1,x1.2.2.2.2.2.2.1,x1.2.2.2.2.2.2.2,()))else some (v0,false,v1,v2,v3,x1.1,x1.2.1,x1.2.2.1,x1.2.2.2.1,x1.2.2.2.2.1,x1.2.2.2.2.2.1,x1.2.2.2.2.2.2.1,x1.2.2.2.2.2.2.2,()))else some (v0,false,v1,v2,v3,x1.1,x1.2.1,x1.2.2.1,x1.2.2.2.1,x1.2.2.2.2.1,x1.2.2.2.2.2.1,x1.2.2.2.2.2.2.1,x1.2.2.2.2.2.2.2,()))else some (v0,false,v1,v2,v3,x1.1,x1.2.1,x1.2.2.1,x1.2.2.2.1,x1.2.2.2.2.1,x1.2.2.2.2.2.1,x1.2.2.2.2.2.2.1,x1.2.2.2.2.2.2.2,()))else some (v0,false,v1,v2,v3,x1.1,x1.2.1,x1.2.2.1,x1.2.2.2.1,x1.2.2.2.2.1,x1.2.2.2.2.2.1,x1.2.2.2.2.2.2.1,x1.2.2.2.2.2.2.2,()))else some (v0,false,v1,v2,v3,x1.1,x1.2.1,x1.2.2.1,x1.2.2.2.1,x1.2.2.2.2.1,x1.2.2.2.2.2.1,x1.2.2.2.2.2.2.1,x1.2.2.2.2.2.2.2,()):Option (LDTs×Bool×LDTs×T2i)).bind λ(x2,x3,x4,x5,x6,_,_,_,_,_,_,_,ah,_)=>
(bif(!x3)then(some (x2,x4,x5,x6,true,()))else let ai:=fZ ah.length;bif(ai != 8)then(some (x2,x4,x5,x6,true,()))else
(iu ah 8).bind λ(aj,_)=>some (x2,x4,x5,x6,(!aj),()):Option (LDTs×LDTs×T0e)).bind λ(ai,aj,ak,am,an,_)=>bif an then(some (.inr (.inl (false,()))))else let ap:=w64 (am+1);some (.inl (ai,aj,ak,ap,())))else some (.inr (.inr (v0,v1,v2,v3,false,())))
def mT(a0:LDTs):f_:=let x0:=fZ a0.length;
(match gc je NN (a0,a0,x0,0,())with
|none=>none
|some (.inl (x1,_))=>some (x1,())
|some (.inr (x1,_))=>let x6:=fZ x1.length;some ((x6==4),()))
def Cj:X.Cfg:=⟨E0,[jl],[],[⟨8,0,qE,[(.normal,qS [sP 0 (yaa vP),zaa 4,Xaa 5,sP 6 (yaa vP),Uaa 7,Uaa 8] [(10,Uak)])]⟩,⟨9,1,qE,[(.normal,qS [sP 0 (yaa vP),sP 6 (yaa vP),Uaa 7,Uaa 8,Xaa 83] [])]⟩,⟨3,2,qS (sP 0 (yaa vP)::sP 6 (yaa vP)::il [7,8]) [],[(.ret,qS uau []),(.exit 0,qS [sP 0 (yaa vP),sP 6 (yaa vP),Uaa 7,Uaa 8,Xaa 9] [])]⟩]⟩
def uV:Ctr:=⟨61,113,uL [(yaa vP)],[],[⟨zab,[.one],[]⟩],ap1 mT⟩
theorem BX:Lk 3 uV:=ls Cj (aC jW aN)
def l8:T1W->Option (T1W⊕((Bool×Unit)⊕(LLCn×Int×Int×Bool×T0V))):=λ(v0,v1,v2,v3,v4,v5)=>bif(decide (v2<v1))then((gj v2).bind λx0=>
(fT v0 x0).bind λx1=>let x2:=fZ x1.length;
(gj v2).bind λx3=>
(fT v4 x3).bind λx4=>bif(x2 != x4)then(some (.inr (.inl (false,()))))else
(iu x1 32).bind λ(x5,_)=>bif(!x5)then(some (.inr (.inl (false,()))))else let x6:=w64 (v2+1);some (.inl (v0,v1,x6,v3,v4,v5)))else some (.inr (.inr (v0,v1,v2,false,v3,v4,v5)))
def mU(a0:LDIn)(a1:LI)(a2:LLI)(a3:z_)(a4:LDTs):f_:=
((ln a0 a1 a2).bind λ(x0,_)=>bif(x0 != 0)then(some (true,a0,a1,a2,a3,a4,()))else let x1:=fZ a3.length;let x2:=fZ a1.length;bif(x1 != x2)then(some (true,a0,a1,a2,a3,a4,()))else
(mT a4).bind λ(x3,_)=>some ((!x3),a0,a1,a2,a3,a4,()):Option (Bool×T0V)).bind λ(x0,x1,x2,x3,x4,x5,_)=>bif x0 then(some (false,()))else let x6:=fZ x4.length;
(match gc l8 NN (x4,x6,0,x1,x2,x3,x4,x5,())with
|none=>none
|some (.inl (x7,_))=>some (x7,())
|some (.inr (_,_))=>some (true,()))
def F0:X.Cfg:=⟨E0,[pU,uV,jl],[],[⟨2,0,qE,[(.normal,qS [zaa 2,zaa 3,Xaa 24] zaq)]⟩,⟨6,1,qS (zaa 2::sP 26 (yaa gp)::il [27,28]) zaq,[(.ret,qS Zat []),(.exit 0,qS [zaa 2,sP 26 (yaa gp),Uaa 27,Uaa 28,Xaa 29] zaq)]⟩]⟩
def yn:Ctr:=⟨32,114,[.agg uab,.agg Zae],[],[⟨zab,[.one],[]⟩],ap5 mU⟩
theorem Fk:Lk 4 yn:=ls F0 (aC sQ (aC BX (aC jW aN)))
def j3:LDTs×Int×Int×LLCn×LDTs×LLCn×Unit->Option ((LDTs×Int×Int×LLCn×LDTs×LLCn×Unit)⊕(LDTs×Int×Int×Bool×LLCn×LDTs×LLCn×Unit)):=λ(v0,v1,v2,v3,v4,v5,_)=>bif(decide (v2<v1))then((gj v2).bind λx0=>
(fT v0 x0).bind λx1=>let x2:z_:=[x1.2.2.2.2.2.2.2];bif(gk 24 v5.length x2.length)then let x3:z_:=(List.append v5 x2);let x4:=w64 (v2+1);some (.inl (v0,v1,x4,v3,v4,x3,()))else none)else some (.inr (v0,v1,v2,false,v3,v4,v5,()))
def pd(a0:z_)(a1:LDTs):Option (LLCn×Unit):=bif(gk 24 0 a0.length)then let x0:z_:=(List.append [] a0);let x1:=fZ a1.length;
(gc j3 NN (a1,x1,0,a0,a1,x0,())).bind λ(_,_,_,_,_,_,x8,_)=>some (x8,())else none
def FZ:X.Cfg:=⟨E0,[],[(8,(uaa KCn)),(19,(uaa KCn)),(20,(uaa KCn))],[(lx 4 0 (Zaa 3 9::sP 10 (yaa vP)::il [11,12]) [(4,Zae),(9,Zah)] 13)]⟩
def ym:Ctr:=⟨34,115,[.agg Zae],[],[⟨Zah,[.one],[]⟩],ap2 pd⟩
theorem Fj:Lk 1 ym:=ls FZ aN
def jB:T33->Option (T33⊕(T15⊕(Int×Int×LDCn×T2W))):=λ(v0,v1,v2,v3,v4,v5,v6,v7)=>bif(decide (v4<v3))then((gj v4).bind λx0=>
(fT v2 x0).bind λx1=>
(it v6 x1.1 x1.2.1 x1.2.2.1 x1.2.2.2).bind λ(x2,_)=>bif(!x2)then(some (.inr (.inl (false,(),0,(),(),(),()))))else let x3:=w64 (v4+1);some (.inl (v0,v1,v2,v3,x3,v5,v6,v7)))else some (.inr (.inr (v0,v1,v2,v3,v4,false,v5,v6,v7)))
def jA:T2S->Option (T2S⊕(T15⊕T2W)):=λ(v0,v1,v2,v3,v4,v5,v6,v7,v8,v9,eq,eE,eG,eI,eK,_)=>bif(decide (v1<v0))then((gj v1).bind λx0=>
(fT eK x0).bind λ_=>
(fT eK x0).bind λx2=>let x3:=fZ x2.length;
(match gc jB NN (v0,v1,x2,x3,0,v2,v3,v4,v5,v6,v7,v8,v9,eq,eE,eG,eI,eK,())with
|none=>none
|some (.inl (x4,x5,x6,x7,x8,x9,_))=>some (.inr (.inl (x4,x5,x6,x7,x8,x9,())))
|some (.inr (x4,x5,_,_,_,_,ac))=>let ax:=w64 (x5+1);some (.inl (x4,ax,ac))))else some (.inr (.inr (v0,v1,false,v2,v3,v4,v5,v6,v7,v8,v9,eq,eE,eG,eI,eK,())))
def jz:T3r->Option (T3r⊕(Int×LLCn×Int×Int×LDCn×T3i)):=λ(v0,v1,v2,v3,v4,v5,v6,v7,v8,v9,eq,eE,eG,eI,eK,eO,eS,eV,eX,eZ,fc,ff,fi)=>bif(decide (v6<v5))then((gj v6).bind λx0=>
(fT v4 x0).bind λx1=>
(gj v0).bind λx2=>
(fT eq x2).bind λx3=>let x4:=w64 (x3+v6);
(jp eq eE v8 x1.1 x1.2.1 x1.2.2.1 x1.2.2.2).bind λ(x5,x6,_,_)=>
(gj x4).bind λx8=>
(fT ff x8).bind λ_=>
(fT ff x8).bind λ_=>let ae:=ff.modify x8 λe=>(x5,x6);let af:=w64 (v6+1);some (.inl (v0,v1,v2,v3,v4,v5,af,v7,v8,v9,eq,eE,eG,eI,eK,eO,eS,eV,eX,eZ,fc,ae,fi)))else some (.inr (v0,v1,v2,v3,v4,v5,v6,false,v7,v8,v9,eq,eE,eG,eI,eK,eO,eS,eV,eX,eZ,fc,ff,fi))
def jy:T3k->Option (T3k⊕(LLCn×T3i)):=λ(v0,v1,v2,v3)=>bif(decide (v2<v1))then((gj v2).bind λx0=>
(fT v0 x0).bind λx1=>let x2:=fZ x1.length;
(gc jz NN (v2,v0,v1,v2,x1,x2,0,v3)).bind λ(_,x4,x5,x6,_,_,_,_,ae)=>let aD:=w64 (x6+1);some (.inl (x4,x5,aD,ae)))else some (.inr (v0,v1,v2,false,v3))
def jx:T42->Option (T42⊕(LDTs×Int×Int×LDCn×Int×Int×Bool×T3G)):=λ(v0,v1,v2,v3,v4,v5,v6,v7,v8,v9,eq,eE,eG,eI,eK,eO,eS,eV,eX,eZ,fc,ff,fi,fk,fq,fu,fv,fw,fA,fB,fC,fD,fE,fF)=>bif(decide (v5<v4))then((gj v5).bind λx0=>
(fT v3 x0).bind λx1=>
(jp v9 eq v7 x1.1 x1.2.1 x1.2.2.1 x1.2.2.2).bind λ(x2,x3,_,_)=>let x5:LDCe:=[(x2,x3)];bif(gk 4 fE.length x5.length)then let x6:LDCe:=(List.append fE x5);let x7:=w64 (v5+1);some (.inl (v0,v1,v2,v3,v4,x7,v6,v7,v8,v9,eq,eE,eG,eI,eK,eO,eS,eV,eX,eZ,fc,ff,fi,fk,fq,fu,fv,fw,fA,fB,fC,fD,x6,fF))else none)else some (.inr (v0,v1,v2,v3,v4,v5,false,v6,v7,v8,v9,eq,eE,eG,eI,eK,eO,eS,eV,eX,eZ,fc,ff,fi,fk,fq,fu,fv,fw,fA,fB,fC,fD,fE,fF))
def jw:T3j->Option (T3j⊕(LDTs×Int×Int×Bool×T31)):=λ(v0,v1,v2,v3,v4,v5,v6,v7,v8,v9,eq,eE,eG,eI,eK,eO,eS,eV,eX,eZ,_)=>bif(decide (v2<v1))then((gj v2).bind λx0=>
(fT v0 x0).bind λx1=>let x2:=fZ x1.2.2.2.2.2.2.2.length;
(gc jx NN (v0,v1,v2,x1.2.2.2.2.2.2.2,x2,0,v3,v4,v5,v6,v7,v8,v9,eq,eE,eG,eI,eK,eO,eS,eV,eX,eZ,x1.1,x1.2.1,x1.2.2.1,x1.2.2.2.1,x1.2.2.2.2.1,x1.2.2.2.2.2.1,x1.2.2.2.2.2.2.1,x1.2.2.2.2.2.2.2,x1.1,[],x1.2.1,x1.2.2.1,x1.2.2.2.1,x1.2.2.2.2.1,x1.2.2.2.2.2.1,x1.2.2.2.2.2.2.1,())).bind λ(x3,x4,x5,_,_,_,_,ac,ae,af,ag,ah,ai,aj,ak,am,an,ap,aq,av,ax,ay,az,aA,_,_,_,_,_,_,_,_,aK,aL,aM,aO,aP,aQ,aR,aS,_)=>let aT:LDTh:=[(aK,(aL,(aM,(aO,(aP,(aQ,(aR,aS)))))))];bif(gk 80 aA.length aT.length)then let aU:LDTh:=(List.append aA aT);let aV:=w64 (x5+1);some (.inl (x3,x4,aV,ac,ae,af,ag,ah,ai,aj,ak,am,an,ap,aq,av,ax,ay,az,aU,()))else none)else some (.inr (v0,v1,v2,false,v3,v4,v5,v6,v7,v8,v9,eq,eE,eG,eI,eK,eO,eS,eV,eX,eZ,()))
def lJ(a0:LDIn)(a1:LI)(a2:LLI)(a3:LI)(a4:Int)(a5:z_)(a6:LDTs):Option (T1i):=
(mU a0 a1 a2 a5 a6).bind λ(x0,_)=>bif(!x0)then(some ([],0,[],[],[],false,()))else
(jQ a3 a4 a1).bind λ(x1,_)=>bif(!x1)then(some ([],0,[],[],[],false,()))else
(pd a5 a6).bind λ(x2,_)=>let x3:=fZ x2.length;
(match gc jA NN (x3,0,a0,a1,a2,a3,a4,a5,a6,(),0,(),(),(),x2,())with
|none=>none
|some (.inl (x4,_,x6,_,_,_,_))=>some ([],x6,[],[],[],x4,())
|some (.inr (_,_,_,x7,x8,x9,ac,ae,af,ag,ah,ai,aj,ak,am,_,_))=>bif(gk 8 0 ac.length)then let ap:v_:=(List.append [] ac);bif(xH 512 512 2)then let aq:LDCe:=(List.replicate 512 (0,0));
(po).bind λ(av,_)=>let ax:=fZ af.length;
(gc jy NN (af,ax,0,x7,x8,x9,ac,ae,af,ag,ah,ai,aj,ak,am,ap,ae,aq,av,(),())).bind λ(_,_,_,_,aD,aE,aF,aG,aH,aI,aJ,aK,aL,aM,aO,aP,aQ,aR,aS,aT,_,_)=>let aV:=fZ aJ.length;
(gc jw NN (aJ,aV,0,aD,aE,aF,aG,aH,aI,aJ,aK,aL,aM,aO,aP,aQ,aR,aS,aT,[],())).bind λ(_,_,_,_,_,_,_,_,_,_,_,_,_,_,_,_,bp,bq,bt,bv,bx,_)=>some (bp,bq,bt,bv,bx,true,())else none else none)
def DH:X.Cfg:=⟨E0,[yn,nH,ym,lS,tg,tn],[(150,Ss),(151,Ss)],[⟨12,0,qS (zl [3,4,5,6]++Zaa 37 77::il [38,39]++sP 43 gp::il [44,45]) zao,[(.ret,qS uav [(14,Zab)]),(.exit 2,qS (zl [3,4,5,6]++Zaa 37 77::il [38,39]++sP 43 gp::il [44,45]++[Xaa 46]) zao)]⟩,⟨6,1,qS (zl [3,4,5,6]++Zaa 37 77::il [38,39]) zao,[(.ret,qS uav [(14,Zab)]),(.exit 0,qS (zl [3,4,5,6]++Zaa 37 77::il [38,39]++[Xaa 40]) zao)]⟩,⟨28,2,qS (zl [3,4,5,6,12]++Uaa 13::sP 68 (yaa gp)::il [69,70]++sP 75 gp::il [76,77]) Uao,[(.exit 6,qS (zl [3,4,5,6,12]++Uaa 13::sP 68 (yaa gp)::il [69,70]++sP 75 gp::il [76,77]++[Xaa 78]) Uao)]⟩,⟨22,3,qS (zl [3,4,5,6,12]++sP 68 (yaa gp)::il [69,70]) Uao,[(.exit 4,qS (zl [3,4,5,6,12]++sP 68 (yaa gp)::il [69,70]++[Xaa 71]) Uao)]⟩,⟨43,4,qS (zl [3,4,6,12,19]++sP 104 (yaa vP)::il [105,106]++sP 126 gp::il [127,128]) uat,[(.exit 10,qS (zl [3,4,6,12,19]++sP 104 (yaa vP)::il [105,106]++sP 126 gp::il [127,128]++[Xaa 129]) uat)]⟩,⟨35,5,qS (zl [3,4,6,12]++sP 104 (yaa vP)::il [105,106]) yat,[(.exit 8,qS (zl [3,4,6,12]++sP 104 (yaa vP)::il [105,106]++[Xaa 107]) yat)]⟩]⟩
def wB:Ctr:=⟨13,116,[.agg uab,.agg Uab,.agg Zae],[],[⟨yal,[.agg 5,.one],[]⟩],as2 (as4 ap1) lJ⟩
theorem Dl:Lk 5 wB:=ls DH (aC Fk (aC pM (aC Fj (aC ox (aC xS (aC wY aN))))))
def nV:T3L->Option (T3L⊕T3O):=λ(v0,v1,v2,v3,v4,v5,v6,v7,v8,v9,eq,eE,eG,eI,eK,eO,eS,eV,eX,eZ,fc,ff,fi,fk,fq,fu,fv,fw,fA,fB,fC,fD,fE,fF,fG,fH,_)=>bif(decide (v1<v0))then(((fU 3 v2 v3).bind λ(x0,x1,x2,_)=>bif(x0==0)then((fT fG 0).bind λ_=>
(fT fG 0).bind λ_=>
(jL eI x1 x2).bind λ(x5,x6,x7,x8,x9,ac,_)=>
(gj v1).bind λae=>
(fT fG 0).bind λaf=>
(fT af ae).bind λ_=>
(fT fG 0).bind λah=>
(fT ah ae).bind λ_=>let aj:=fG.modify 0 λe=>(e.modify ae λe=>(x5,(x6,(x7,x8))));some (v0,v1,x9,ac,v4,v5,v6,v7,v8,v9,eq,eE,eG,eI,eK,eO,eS,eV,eX,eZ,fc,ff,fi,fk,fq,fu,fv,fw,fA,fB,fC,fD,fE,fF,aj,fH,()))else some (v0,v1,x1,x2,v4,v5,v6,v7,v8,v9,eq,eE,eG,eI,eK,eO,eS,eV,eX,eZ,fc,ff,fi,fk,fq,fu,fv,fw,fA,fB,fC,fD,fE,fF,fG,fH,()):Option (T3L)).bind λ(x0,x1,x2,x3,x4,x5,x6,x7,x8,x9,ac,ae,af,ag,ah,ai,aj,ak)=>let aL:=w64 (x1+1);some (.inl (x0,aL,x2,x3,x4,x5,x6,x7,x8,x9,ac,ae,af,ag,ah,ai,aj,ak)))else some (.inr (v0,v1,false,v2,v3,v4,v5,v6,v7,v8,v9,eq,eE,eG,eI,eK,eO,eS,eV,eX,eZ,fc,ff,fi,fk,fq,fu,fv,fw,fA,fB,fC,fD,fE,fF,fG,fH,()))
def rS:T3X->Option (T3X⊕(Int×Int×Int×T3O)):=λ(v0,v1,v2,v3,v4,v5,v6,v7,v8,v9,eq,eE,eG,eI,eK,eO,eS,eV,eX,eZ,fc,ff,fi,fk,fq,fu,fv,fw,fA,fB,fC,fD,fE,fF,fG,fH,fI,fJ,fK,_)=>bif(decide (v4<v3))then(((fU 3 v5 v6).bind λ(x0,x1,x2,_)=>bif(x0==0)then((gj v0).bind λx3=>
(fT fK x3).bind λ_=>
(fT fK x3).bind λ_=>
(jL eS x1 x2).bind λ(x6,x7,x8,x9,ac,ae,_)=>
(gj v4).bind λaf=>
(fT fK x3).bind λag=>
(fT ag.2.2.2.2.2.2.2 af).bind λ_=>
(fT fK x3).bind λai=>
(fT ai.2.2.2.2.2.2.2 af).bind λ_=>let ak:=fK.modify x3 λe=>(e.1,(e.2.1,(e.2.2.1,(e.2.2.2.1,(e.2.2.2.2.1,(e.2.2.2.2.2.1,(e.2.2.2.2.2.2.1,(e.2.2.2.2.2.2.2.modify af λe=>(x6,(x7,(x8,x9)))))))))));some (v0,v1,v2,v3,v4,ac,ae,v7,v8,v9,eq,eE,eG,eI,eK,eO,eS,eV,eX,eZ,fc,ff,fi,fk,fq,fu,fv,fw,fA,fB,fC,fD,fE,fF,fG,fH,fI,fJ,ak,()))else some (v0,v1,v2,v3,v4,x1,x2,v7,v8,v9,eq,eE,eG,eI,eK,eO,eS,eV,eX,eZ,fc,ff,fi,fk,fq,fu,fv,fw,fA,fB,fC,fD,fE,fF,fG,fH,fI,fJ,fK,()):Option (T3X)).bind λ(x0,x1,x2,x3,x4,x5,x6,x7,x8,x9,ac,ae,af,ag,ah,ai,aj,ak,am)=>let aP:=w64 (x4+1);some (.inl (x0,x1,x2,x3,aP,x5,x6,x7,x8,x9,ac,ae,af,ag,ah,ai,aj,ak,am)))else some (.inr (v0,v1,v2,v3,v4,false,v5,v6,v7,v8,v9,eq,eE,eG,eI,eK,eO,eS,eV,eX,eZ,fc,ff,fi,fk,fq,fu,fv,fw,fA,fB,fC,fD,fE,fF,fG,fH,fI,fJ,fK,()))
def nU:T3L->Option (T3L⊕T3O):=λ(v0,v1,v2,v3,v4,v5,v6,v7,v8,v9,eq,eE,eG,eI,eK,eO,eS,eV,eX,eZ,fc,ff,fi,fk,fq,fu,fv,fw,fA,fB,fC,fD,fE,fF,fG,fH,_)=>bif(decide (v1<v0))then(((gj v1).bind λx0=>
(fT fH x0).bind λ_=>
(fT fH x0).bind λ_=>
(fT fH x0).bind λx3=>let x4:=fZ x3.2.2.2.2.2.2.2.length;
(gc rS NN (v1,v0,v1,x4,0,v2,v3,v4,v5,v6,v7,v8,v9,eq,eE,eG,eI,eK,eO,eS,eV,eX,eZ,fc,ff,fi,fk,fq,fu,fv,fw,fA,fB,fC,fD,fE,fF,fG,fH,())).bind λ(x5,x6,x7,_,_,_,ae,af,ag,ah,ai,aj,ak,am,an,ap,aq,av,ax,ay,az,aA,aB,aD,aE,aF,aG,aH,aI,aJ,aK,aL,aM,aO,aP,aQ,aR,aS,aT,aU,_)=>
(fU 4 ae af).bind λ(aV,aW,aY,_)=>bif(aV==0)then((fU 5 aW aY).bind λ(aZ,ba,bc,_)=>
(gj x5).bind λbd=>
(fT aU bd).bind λ_=>
(fT aU bd).bind λ_=>let bg:=aU.modify bd λe=>(aZ,e.2);some (x6,x7,ba,bc,ag,ah,ai,aj,ak,am,an,ap,aq,av,ax,ay,az,aA,aB,aD,aE,aF,aG,aH,aI,aJ,aK,aL,aM,aO,aP,aQ,aR,aS,aT,bg,()))else some (x6,x7,aW,aY,ag,ah,ai,aj,ak,am,an,ap,aq,av,ax,ay,az,aA,aB,aD,aE,aF,aG,aH,aI,aJ,aK,aL,aM,aO,aP,aQ,aR,aS,aT,aU,()):Option (T3L)).bind λ(x0,x1,x2,x3,x4,x5,x6,x7,x8,x9,ac,ae,af,ag,ah,ai,aj,ak,am,an,ap,aq,av,ax,ay,az,aA,aB,aD,aE,aF,aG,aH,aI,aJ,aK,_)=>let aL:=w64 (x1+1);some (.inl (x0,aL,x2,x3,x4,x5,x6,x7,x8,x9,ac,ae,af,ag,ah,ai,aj,ak,am,an,ap,aq,av,ax,ay,az,aA,aB,aD,aE,aF,aG,aH,aI,aJ,aK,())))else some (.inr (v0,v1,false,v2,v3,v4,v5,v6,v7,v8,v9,eq,eE,eG,eI,eK,eO,eS,eV,eX,eZ,fc,ff,fi,fk,fq,fu,fv,fw,fA,fB,fC,fD,fE,fF,fG,fH,()))
def oq(a0:LI)(a1:Int):Option (LDIn×LI×LLI×LI×Int×LDCe×LDLn×LDTh×T07):=
(vA a0 a1).bind λ(x0,x1,x2,x3,x4,x5,x6,x7,x8,x9,ac,ae,af,ag,ah,ai,aj,ak,am,an,_)=>
(match((fU 3 am an).bind λ(ap,aq,av,_)=>bif(ap==0)then((mV x0 x1 x2 x3 x4 x5 x6 x7).bind λ(ax,ay,_)=>
(fT ax 0).bind λ_=>
(fT ax 0).bind λ_=>
(fT ax 0).bind λaB=>let aD:=fZ aB.length;
(gc nV NN (aD,0,aq,av,(),(),(),(),0,(),(),(),x0,x1,x2,x3,x4,x5,x6,x8,x9,ac,ae,af,ag,ah,ai,aj,ak,x3,x4,x5,x6,x7,ax,ay,())).bind λ(_,_,_,aH,aI,aJ,aK,aL,aM,aO,aP,aQ,aR,aS,aT,aU,aV,aW,aY,aZ,ba,bc,bd,be,bf,bg,bh,bi,bj,bk,bm,bn,bo,bp,bq,bt,bv,_)=>let bx:=fZ bv.length;
(gc nU NN (bx,0,aH,aI,aJ,aK,aL,aM,aO,aP,aQ,aR,aS,aT,aU,aV,aW,aY,aZ,ba,bc,bd,be,bf,bg,bh,bi,bj,bk,bm,bn,bo,bp,bq,bt,bv,())).bind λ(_,_,_,bD,bE,bF,bG,bH,bI,bJ,bK,bL,bM,bN,bO,bP,bQ,bR,bS,bT,bU,bV,bW,bY,bZ,b8,b9,cb,cd,cf,cg,ch,ci,cj,cn,cq,cr,_)=>
(lJ bN bO bP cg ch cq cr).bind λ(cu,cw,cx,cy,cz,cD,_)=>bif cD then(some (.inl (bD,bE,bF,bG,bH,bI,bJ,bK,bL,bM,bN,bO,bP,bQ,bR,bS,bT,bU,bV,bW,bY,bZ,b8,b9,cb,cd,cf,cu,cw,cx,cy,cz,())))else some (.inr (bD,bE,bF,bG,bH,bI,bJ,bK,bL,bM,bN,bO,bP,bQ,bR,bS,bT,bU,bV,bW,bY,bZ,b8,b9,cb,cd,cf,cg,ch,ci,cj,cn,())))else some (.inr (aq,av,(),(),(),(),0,(),(),(),x0,x1,x2,x3,x4,x5,x6,x8,x9,ac,ae,af,ag,ah,ai,aj,ak,x3,x4,x5,x6,x7,())):Option (T3E⊕T3E))with
|none=>none
|some (.inl (ap,aq,_,_,_,_,_,_,_,_,aF,aG,aH,_,_,_,_,_,_,_,_,_,_,_,_,_,_,aY,aZ,ba,bc,bd,_))=>
(fT bd 0).bind λ_=>
(fT bd 0).bind λ_=>some (aF,aG,aH,aY,aZ,ba,bc,bd,ap,aq,())
|some (.inr (ap,aq,_,_,_,_,_,_,_,_,aF,aG,aH,_,_,_,_,_,_,_,_,_,_,_,_,_,_,aY,aZ,ba,bc,bd,_))=>
(fT bd 0).bind λ_=>some (aF,aG,aH,aY,aZ,ba,bc,bd,ap,aq,()))
def DZ:X.Cfg:=⟨E0,[EF,hU,s7,oQ,wB],[],[⟨11,0,qE,[(.normal,(qS yay Zam))]⟩,(lx 8 1 yay Zam 29),⟨26,2,qE,[(.normal,(qS zay Zam))]⟩,⟨23,3,(qS zay Zam),[(.exit 4,(qS (zl [0,2,3,4,5,6]++il [8,48,49,58,59]++[Xaa 60]) Zam))]⟩,⟨19,4,qE,[(.normal,(qS Uay Zam))]⟩,⟨16,5,(qS Uay Zam),[(.exit 2,(qS (zl [0,2,3,4,5,6]++il [48,49]++[Xaa 50]) Zam))]⟩,⟨3,6,qE,[(.normal,(qS Xay [(2,yab),(6,zad),(8,Zab),(10,yam),(12,Xac)])),(.normal,(qS Xay [(2,yab),(6,zad),(8,Zab),(10,yam),(12,Zaf)]))]⟩]⟩
def wO:Ctr:=⟨24,117,[.ptr ⟨2,0,[]⟩ [0]],[(2,yab)],[⟨uL [gP,RI,(yaa RW),RI,CW,gT,iC,(uaa nL)],[.agg 3,.agg 5],[(2,yab)]⟩],ap2 oq⟩
theorem Dx:Lk 10 wO:=ls DZ (aC M4 (aC ii (aC xN (aC rm (aC Dl aN)))))
def o5:Int×LI×T03->Option ((Int×LI×T03)⊕(Int×Bool×LI×T03)):=λ(v0,v1,v2,v3,_)=>bif(decide (v0>0))then(let x0:v_:=[8,4];
(jL x0 v1 v2).bind λ(x1,x2,x3,x4,x5,x6,_)=>
((fU 12 x5 x6).bind λ(x7,x8,x9,_)=>bif(x7==0)then((fU 65536 x8 x9).bind λ(ac,ae,af,_)=>some (v0,ae,af,v3,1,0,(-1),ac,()))else some (v0,x8,x9,v3,x1,x2,x3,x4,()):Option (Int×LI×Int×LDCn×T0w)).bind λ(x7,x8,x9,ac,ae,af,ag,ah,_)=>let ai:LDCn:=[(ae,(af,(ag,ah)))];bif(gk 24 ac.length ai.length)then let aj:LDCn:=(List.append ac ai);let ak:=w64 (x7-1);some (.inl (ak,x8,x9,aj,()))else none)else some (.inr (v0,false,v1,v2,v3,()))
def jS(a0:Int)(a1:LI)(a2:Int):Option (LDCn×T07):=let x0:=w64 (a0+1);
(fU x0 a1 a2).bind λ(x1,x2,x3,_)=>
(gc o5 NN (x1,x2,x3,[],())).bind λ(_,_,x6,x7,x8,_)=>some (x8,x6,x7,())
def GI:X.Cfg:=⟨E0,[hU,oQ],[],[⟨9,0,qE,[(.normal,qS [zaa 0,Zaa 5 13,Uaa 6,zaa 7] [(2,yab),(13,Xag),(16,yag)])]⟩,(lx 4 1 [zaa 0,Zaa 5 13,Uaa 6] [(2,yab),(13,Xag)] 13)]⟩
def tz:Ctr:=⟨59,118,[.ptr ⟨2,0,[]⟩ [0],shU I64],[(2,yab)],[⟨Xag,[.one],[(2,yab)]⟩],ap3 jS⟩
theorem xV:Lk 6 tz:=ls GI (aC ii (aC rm aN))
def lu:T3m->Option (T3m⊕(LI×Int×Int×Bool×T39)):=λ(v0,v1,v2,v3,v4,v5,v6,v7,v8,v9,eq,eE,eG,eI,eK,eO,eS,eV,eX,eZ,fc,_)=>bif(decide (v2<v1))then(((gj v2).bind λx0=>
(fT v0 x0).bind λx1=>bif(x1==78)then((fU 5 v3 v4).bind λ(x2,x3,x4,_)=>let x5:=wk .u16 x2;let x6:LDCn:=[(0,(x5,(0,0)))];bif(gk 24 eZ.length x6.length)then let x7:LDCn:=(List.append eZ x6);some (v0,v1,v2,x3,x4,v5,v6,v7,v8,v9,eq,eE,eG,eI,eK,eO,eS,eV,eX,x7,fc,())else none)else bif(x1==72)then((fU 4 v3 v4).bind λ(x2,x3,x4,_)=>let x5:=wk .u16 x2;let x6:LDCn:=[(2,(x5,(0,0)))];bif(gk 24 eZ.length x6.length)then let x7:LDCn:=(List.append eZ x6);some (v0,v1,v2,x3,x4,v5,v6,v7,v8,v9,eq,eE,eG,eI,eK,eO,eS,eV,eX,x7,fc,())else none)else bif(x1==80)then((fU 2 v3 v4).bind λ(x2,x3,x4,_)=>
(fU 4 x3 x4).bind λ(x5,x6,x7,_)=>let x8:LDCn:=[(1,(0,(x2,x5)))];bif(gk 24 eZ.length x8.length)then let x9:LDCn:=(List.append eZ x8);some (v0,v1,v2,x6,x7,v5,v6,v7,v8,v9,eq,eE,eG,eI,eK,eO,eS,eV,eX,x9,fc,())else none)else let x2:v_:=[8,4];
(jL x2 v3 v4).bind λ(x3,x4,x5,x6,x7,x8,_)=>let x9:LDCn:=[(x3,(x4,(x5,x6)))];bif(gk 24 eZ.length x9.length)then let ac:LDCn:=(List.append eZ x9);some (v0,v1,v2,x7,x8,v5,v6,v7,v8,v9,eq,eE,eG,eI,eK,eO,eS,eV,eX,ac,fc,())else none:Option (T3m)).bind λ(x0,x1,x2,x3,x4,x5,x6,x7,x8,x9,ac,ae)=>let aq:=w64 (x2+1);some (.inl (x0,x1,aq,x3,x4,x5,x6,x7,x8,x9,ac,ae)))else some (.inr (v0,v1,v2,false,v3,v4,v5,v6,v7,v8,v9,eq,eE,eG,eI,eK,eO,eS,eV,eX,eZ,fc,()))
def lM(a0:LI)(a1:Int):Option (Int×Int×Int×Int×Int×Int×LDCn×LDCn×T07):=
(fU 4 a0 a1).bind λ(x0,x1,x2,_)=>let x3:v_:=[1,1,1,0,2,3];
(fU 6 x1 x2).bind λ(x4,x5,x6,_)=>
(gj x4).bind λx7=>
(fT x3 x7).bind λ_=>
(fT x3 x7).bind λx9=>
(fU 50 x5 x6).bind λ(ac,ae,af,_)=>
(fU 64 ae af).bind λ(ag,ah,ai,_)=>
(bif(x9==2)then((fU 6 ah ai).bind λ(aj,ak,am,_)=>let an:=w64 (1+aj);some (ak,am,0,0,0,0,0,0,(),(),x0,x9,an,ac,ag,0,(),(),()))else some (ah,ai,0,0,0,0,0,0,(),(),x0,x9,0,ac,ag,0,(),(),()):Option (LI×Int×Int×Int×Int×Int×Int×Int×Unit×Unit×T1M)).bind λ(aj,ak,am,an,ap,aq,av,ax,ay,az,aA,aB,aD,aE,aF,aG,_,aI,_)=>bif(aB != 1)then(some (aA,aB,aD,aE,aF,aG,[],[],aj,ak,()))else
(fU 16 aj ak).bind λ(aJ,aK,aL,_)=>let aM:List (ByteArray):=[(bytes [78]),(bytes [72,80,78]),(bytes [72,80,78]),(bytes [78,78]),(bytes [72]),(bytes [72,78]),(bytes []),(bytes []),(bytes [78]),(bytes [78]),(bytes [78,88]),(bytes [78]),(bytes [78]),(bytes [78,80,78]),(bytes [78,80,78]),(bytes [])];
(gj aJ).bind λaO=>
(fT aM aO).bind λ_=>
(fT aM aO).bind λaQ=>bif(SC aQ)then let aR:v_:=(NL aQ);let aS:=fZ aR.length;
(gc lu NN (aR,aS,0,aK,aL,am,an,ap,aq,av,ax,ay,az,aA,aB,aD,aE,aF,aJ,[],aI,())).bind λ(_,_,_,_,aY,aZ,ba,bc,bd,be,bf,bg,bh,bi,bj,bk,bm,bn,bo,bp,bq,_,_)=>
(bif(bp==1)then((jS 6 aY aZ).bind λ(bv,bx,bA,_)=>some (bx,bA,ba,bc,bd,be,bf,bg,bh,bi,bj,bk,bm,bn,bo,bp,bq,bv,()))else bif(bp==13)then((jS 6 aY aZ).bind λ(bv,bx,bA,_)=>some (bx,bA,ba,bc,bd,be,bf,bg,bh,bi,bj,bk,bm,bn,bo,bp,bq,bv,()))else some (aY,aZ,ba,bc,bd,be,bf,bg,bh,bi,bj,bk,bm,bn,bo,bp,bq,[],()):Option (T38)).bind λ(bv,bx,bA,bB,bC,bD,bE,bF,bG,bH,bI,bJ,bK,bL,bM,bN,bO,bP,_)=>
((fU 10 bv bx).bind λ(bQ,bR,bS,_)=>bif(bQ==0)then((jS 3 bR bS).bind λ(bT,bU,bV,_)=>some (bU,bV,bA,bB,bC,bD,bE,bF,bG,bH,bI,bJ,bK,bL,bM,bN,bT,bP,()))else some (bR,bS,bA,bB,bC,bD,bE,bF,bG,bH,bI,bJ,bK,bL,bM,bN,bO,bP,()):Option (T38)).bind λ(bQ,bR,_,_,_,_,_,_,_,_,b9,cb,cd,cf,cg,ch,ci,cj,_)=>some (b9,cb,cd,cf,cg,ch,ci,cj,bQ,bR,())else none
def DW:X.Cfg:=⟨E0,[hU,oQ,tz],[],[⟨2,0,qE,[(.normal,qS Uau [(2,yab),(6,zae),(8,zae)])]⟩,⟨14,1,qE,[(.normal,qS Zay zat)]⟩,(lx 11 2 Zay zat 42),⟨20,3,qE,[(.normal,qS Uau Uat)]⟩,⟨22,4,qE,[(.normal,qS Uau Uat)]⟩]⟩
def wL:Ctr:=⟨25,119,[.ptr ⟨2,0,[]⟩ [0]],[(2,yab)],[⟨zag,[.agg 8],[(2,yab)]⟩],ap2 lM⟩
theorem Du:Lk 7 wL:=ls DW (aC ii (aC rm (aC xV aN)))
def pD(a0:LI)(a1:Int):Option (T22):=let x0:v_:=[8,4];
(jL x0 a0 a1).bind λ(x1,x2,x3,x4,x5,x6,_)=>
(fU 6 x5 x6).bind λ(x7,x8,x9,_)=>
(fU 3 x8 x9).bind λ(ac,ae,af,_)=>bif(ac==0)then((jS 5 ae af).bind λ(ag,ah,ai,_)=>
((fU 5 ah ai).bind λ(aj,ak,am,_)=>bif(aj==0)then((fU 4 ak am).bind λ(an,ap,aq,_)=>some (ap,aq,0,0,0,0,(),0,false,x1,x2,x3,x4,ag,an,(x7==0),()))else some (ak,am,0,0,0,0,(),0,false,x1,x2,x3,x4,ag,(-1),(x7==0),()):Option (T2Z)).bind λ(aj,ak,_,_,_,_,_,_,_,az,aA,aB,aD,aE,aF,aG,_)=>some (az,aA,aB,aD,aE,aF,aG,aj,ak,()))else
((fU 5 ae af).bind λ(ag,ah,ai,_)=>bif(ag==0)then((fU 4 ah ai).bind λ(aj,ak,am,_)=>some (ak,am,0,0,0,0,(),0,false,x1,x2,x3,x4,[],aj,(x7==0),()))else some (ah,ai,0,0,0,0,(),0,false,x1,x2,x3,x4,[],(-1),(x7==0),()):Option (T2Z)).bind λ(ag,ah,_,_,_,_,_,_,_,av,ax,ay,az,aA,aB,aD,_)=>some (av,ax,ay,az,aA,aB,aD,ag,ah,())
def GF:X.Cfg:=⟨E0,[oQ,hU,tz],[],[⟨4,0,qE,[(.normal,qS Uau [(2,yab),(6,Zad),(8,yah)])]⟩]⟩
def yL:Ctr:=⟨26,120,[.ptr ⟨2,0,[]⟩ [0]],[(2,yab)],[⟨yah,[.agg 7],[(2,yab)]⟩],ap2 pD⟩
theorem FI:Lk 7 yL:=ls GF (aC rm (aC ii (aC xV aN)))
def nn:T46->Option (T46⊕(Int×Bool×T45)):=λ(v0,v1,v2,v3,v4,v5,v6,v7,v8,v9,eq,eE,eG,eI,eK,eO,eS,eV,eX,eZ,fc,ff,fi,fk,fq,fu,fv,fw,fA,fB,fC,fD,fE,fF,fG,fH,fI)=>bif(decide (v0<5))then(bif(fH != 1)then((lM v1 v2).bind λ(x0,x1,x2,x3,x4,x5,x6,x7,x8,x9,_)=>let ac:=w64 (v0+1);some (.inl (ac,x8,x9,v3,v4,v5,v6,v7,v8,v9,eq,eE,eG,eI,eK,eO,eS,eV,eX,eZ,fc,ff,fi,fk,fq,fu,fv,fw,fA,fB,fC,fD,fE,fF,x0,x1,x2,x3,x4,x5,x6,x7,())))else some (.inr (v0,false,v1,v2,v3,v4,v5,v6,v7,v8,v9,eq,eE,eG,eI,eK,eO,eS,eV,eX,eZ,fc,ff,fi,fk,fq,fu,fv,fw,fA,fB,fC,fD,fE,fF,fG,fH,fI)))else some (.inr (v0,false,v1,v2,v3,v4,v5,v6,v7,v8,v9,eq,eE,eG,eI,eK,eO,eS,eV,eX,eZ,fc,ff,fi,fk,fq,fu,fv,fw,fA,fB,fC,fD,fE,fF,fG,fH,fI))
def nj:T48->Option (T48⊕(Int×Int×Bool×T47)):=λ(v0,v1,v2,v3,v4,v5,v6,v7,v8,v9,eq,eE,eG,eI,eK,eO,eS,eV,eX,eZ,fc,ff,fi,fk,fq,fu,fv,fw,fA,fB,fC,fD,fE,fF,fG,fH,fI,fJ,fK,fL,fM,fN,fO)=>bif(decide (v1<v0))then(((gj v1).bind λx0=>
(fT fN x0).bind λ_=>
(fT fN x0).bind λx2=>bif(x2.1==1)then(let x3:Int:=(fZ fA.length);
(fU x3 v2 v3).bind λ(x4,x5,x6,_)=>
(gj x4).bind λx7=>
(fT fC x7).bind λx8=>
(gY fC fD fA x8).bind λ(x9,_,_,_)=>
(gj x9).bind λaf=>
(fT fA af).bind λag=>
(fU ag x5 x6).bind λ(ah,ai,aj,_)=>
(gj v1).bind λak=>
(fT fN ak).bind λ_=>
(fT fN ak).bind λ_=>let ap:=fN.modify ak λe=>(e.1,(e.2.1,(x9,e.2.2.2)));
(gj v1).bind λaq=>
(fT ap aq).bind λ_=>
(fT ap aq).bind λ_=>let ay:=ap.modify aq λe=>(e.1,(e.2.1,(e.2.2.1,ah)));some (v0,v1,ai,aj,v4,v5,v6,v7,v8,v9,eq,eE,eG,eI,eK,eO,eS,eV,eX,eZ,fc,ff,fi,fk,fq,fu,fv,fw,fA,fB,fC,fD,fE,fF,fG,fH,fI,fJ,fK,fL,fM,ay,fO))else some (v0,v1,v2,v3,v4,v5,v6,v7,v8,v9,eq,eE,eG,eI,eK,eO,eS,eV,eX,eZ,fc,ff,fi,fk,fq,fu,fv,fw,fA,fB,fC,fD,fE,fF,fG,fH,fI,fJ,fK,fL,fM,fN,fO):Option (T48)).bind λ(x0,x1,x2,x3,x4,x5,x6,x7,x8,x9,ac,ae,af,ag,ah,ai,aj,ak,am,an,ap,aq,av,ax,ay,az)=>let bc:=w64 (x1+1);some (.inl (x0,bc,x2,x3,x4,x5,x6,x7,x8,x9,ac,ae,af,ag,ah,ai,aj,ak,am,an,ap,aq,av,ax,ay,az)))else some (.inr (v0,v1,false,v2,v3,v4,v5,v6,v7,v8,v9,eq,eE,eG,eI,eK,eO,eS,eV,eX,eZ,fc,ff,fi,fk,fq,fu,fv,fw,fA,fB,fC,fD,fE,fF,fG,fH,fI,fJ,fK,fL,fM,fN,fO))
def kU(a0:LI)(a1:Int):Option (LDIn×LI×LLI×LI×Int×LDCe×LDLn×LDTh×Int×Int×Int×Int×Int×Int×LDCn×LDCn×T22):=
(oq a0 a1).bind λ(x0,x1,x2,x3,x4,x5,x6,x7,x8,x9,_)=>
(lM x8 x9).bind λ(ac,ae,af,ag,ah,ai,aj,ak,am,an,_)=>
(gc nn NN (0,am,an,(),(),(),(),0,(),(),(),0,0,0,0,0,0,(),(),0,0,0,0,(),0,false,x0,x1,x2,x3,x4,x5,x6,x7,ac,ae,af,ag,ah,ai,aj,ak,())).bind λ(_,_,av,ax,ay,az,aA,aB,aD,aE,aF,aG,aH,aI,aJ,aK,aL,aM,aO,aP,aQ,aR,aS,aT,aU,aV,aW,aY,aZ,ba,bc,bd,be,bf,bg,bh,bi,bj,bk,bm,bn,bo,bp,_)=>
(gj bh).bind λbq=>
(fT bg bq).bind λ_=>
(fT bg bq).bind λ_=>let bx:=bg.modify bq λe=>(2,e.2);
(pD av ax).bind λ(bA,bB,bC,bD,bE,bF,bG,bH,bI,_)=>let bJ:=fZ bo.length;
(gc nj NN (bJ,0,bH,bI,ay,az,aA,aB,aD,aE,aF,aG,aH,aI,aJ,aK,aL,aM,aO,aP,aQ,aR,aS,aT,aU,aV,aW,aY,aZ,ba,bc,bd,be,bf,bx,bh,bi,bj,bk,bm,bn,bo,bp,bA,bB,bC,bD,bE,bF,bG,())).bind λ(_,_,_,bN,bO,bP,bQ,bR,bS,bT,bU,bV,bW,bY,bZ,b8,b9,cb,cd,cf,cg,ch,ci,cj,cn,cq,cr,cu,cw,cx,cy,cz,cD,cE,cF,cG,cH,cI,cJ,cK,cL,cM,cN,cO,cP,cQ,cR,cS,cT,cU,cV,_)=>
(bif(cM==10)then((fU 3 bN bO).bind λ(cW,cX,cY,_)=>bif(decide (cW>0))then((fT cG 3).bind λ_=>
(fT cG 3).bind λ_=>let c9:=cG.modify 3 λe=>(0,e.2);bif(cH != 3)then(some (cX,cY,bP,bQ,bR,bS,bT,bU,bV,bW,bY,bZ,b8,b9,cb,cd,cf,cg,ch,ci,cj,cn,cq,cr,cu,cw,cx,cy,cz,cD,cE,cF,c9,cH,cI,cJ,cK,cL,cM,cN,cO,cP,cQ,cR,cS,cT,3,cV,()))else some (cX,cY,bP,bQ,bR,bS,bT,bU,bV,bW,bY,bZ,b8,b9,cb,cd,cf,cg,ch,ci,cj,cn,cq,cr,cu,cw,cx,cy,cz,cD,cE,cF,c9,cH,cI,cJ,cK,cL,cM,cN,cO,cP,cQ,cR,cS,cT,cU,cV,()))else some (cX,cY,bP,bQ,bR,bS,bT,bU,bV,bW,bY,bZ,b8,b9,cb,cd,cf,cg,ch,ci,cj,cn,cq,cr,cu,cw,cx,cy,cz,cD,cE,cF,cG,cH,cI,cJ,cK,cL,cM,cN,cO,cP,cQ,cR,cS,cT,cU,cV,()))else some (bN,bO,bP,bQ,bR,bS,bT,bU,bV,bW,bY,bZ,b8,b9,cb,cd,cf,cg,ch,ci,cj,cn,cq,cr,cu,cw,cx,cy,cz,cD,cE,cF,cG,cH,cI,cJ,cK,cL,cM,cN,cO,cP,cQ,cR,cS,cT,cU,cV,()):Option (T47)).bind λ(cW,cX,_,_,_,_,_,_,_,_,_,_,_,_,_,_,_,_,_,_,_,_,_,_,_,dG,dH,dI,dJ,dK,dL,dM,dN,dO,dP,dQ,dR,dS,dT,dU,dV,dW,dX,dY,dZ,ee,ef,ej,_)=>some (dG,dH,dI,dJ,dK,dL,dM,dN,dO,dP,dQ,dR,dS,dT,dU,dV,dW,dX,dY,dZ,ee,ef,ej,cW,cX,())
def Cq:X.Cfg:=⟨E0,[wO,wL,yL,hU,jH],[],[(lx 5 0 (zl [0,2,3,4,5,6,7,8]++[Uaa 9]) [(2,yab),(6,zad),(8,Zab),(10,zae),(12,Zad),(14,uab),(16,Zaf),(18,zag)] 28),⟨16,1,qE,[(.normal,(qS uaz Xao))]⟩,⟨13,2,(qS uaz Xao),[(.exit 2,(qS (zl [0,2,3,4,5,6,7,8,10]++(42,.pk ⟨18,6,[]⟩ [0,0])::il [43,44]++[Xaa 45]) Xao))]⟩,⟨20,3,qE,[(.normal,qS (zl [0,2,3,4,5,6,7,8,10]) Xao)]⟩]⟩
def vg:Ctr:=⟨9,121,[.ptr ⟨2,0,[]⟩ [0]],[(2,yab)],[⟨uL [gP,RI,(yaa RW),RI,CW,gT,iC,mn,I64,I64,I64,I64,I64,I64,gp,gp,CB,CW,I64,I64,gp,I64,.bool],[.agg 3,.agg 5,.agg 8,.agg 7],[(2,yab)]⟩],ap2 kU⟩
theorem B7:Lk 11 vg:=ls Cq (aC Dx (aC Du (aC FI (aC ii (aC kY aN)))))
def yV:T0H->Option (T0H⊕((Bool×Unit)⊕(LI×T0E))):=λ(v0,v1,v2,v3,_)=>bif(decide (v3<v2))then((gj v3).bind λx0=>
(fT v1 x0).bind λx1=>bif(decide (x1<1))then(some (.inr (.inl (false,()))))else bif(decide (x1>32))then(some (.inr (.inl (false,()))))else let x2:=w64 (v3+1);some (.inl (v0,v1,v2,x2,())))else some (.inr (.inr (v0,v1,v2,v3,false,())))
def lG(a0:LI):f_:=let x0:=fZ a0.length;
(match gc yV NN (a0,a0,x0,0,())with
|none=>none
|some (.inl (x1,_))=>some (x1,())
|some (.inr (x1,_))=>let x6:=fZ x1.length;bif(decide (x6>=1))then(let x7:Int:=(fZ x1.length);some ((decide (x7<=4)),()))else some (false,()))
def DC:X.Cfg:=⟨E0,[],[],[⟨3,0,qS yaw [],[(.ret,qS uau []),(.exit 0,qS zaw [])]⟩]⟩
def rK:Ctr:=⟨110,122,yai,[],[⟨zab,[.one],[]⟩],ap1 lG⟩
theorem wi:Lk 1 rK:=ls DC aN
def rA(a0:Int):Option (T0s):=
(bif(a0==1)then(some (a0,true,false,false,false,false,()))else bif(a0==15)then(some (a0,true,false,false,false,false,()))else bif(a0==19)then(some (a0,true,false,false,false,false,()))else bif(a0==20)then(some (a0,true,false,false,false,false,()))else some (a0,(a0==21),false,false,false,false,()):Option (Int×Bool×T0s)).bind λ(x0,x1,_)=>bif x1 then(some (true,false,false,true,()))else bif(x0==2)then(some (true,true,false,false,()))else bif(x0==16)then(some (true,true,false,true,()))else bif(x0==17)then(some (true,true,false,true,()))else bif(x0==18)then(some (false,false,false,true,()))else bif(x0==23)then(some (false,false,false,true,()))else bif(x0==22)then(some (true,false,false,false,()))else bif(x0==0)then(some (false,false,false,false,()))else bif(x0==24)then(some (false,false,false,false,()))else some (true,true,true,false,())
def DS:X.Cfg:=⟨E0,[],[],[⟨3,0,qE,[(.normal,qS [zaa 2,Uaa 3,Xaa 4] [(6,Uag)])]⟩]⟩
def wH:Ctr:=⟨161,123,zac,[],[⟨Uag,[.agg 4],[]⟩],ap1 rA⟩
theorem Dr:Lk 1 wH:=ls DS aN
def i5(a0:Bool)(a1 a2:Int):f_:=bif(a1==0)then(some (true,()))else bif a0 then(bif(decide (a1>0))then(some ((decide (a1<=a2)),()))else some (false,()))else some (false,())
def Cr:X.Cfg:=⟨E0,[],[],[]⟩
def vh:Ctr:=⟨162,124,uL [.bool,I64,I64],[],[⟨zab,[.one],[]⟩],ap3 i5⟩
theorem B8:Lk 1 vh:=ls Cr aN
def nq(a0:Int):f_:=bif(a0==18)then(some (true,()))else bif(a0==19)then(some (true,()))else bif(a0==20)then(some (true,()))else some ((a0==21),())
def GA:X.Cfg:=⟨E0,[],[],[]⟩
def tw:Ctr:=⟨140,125,zac,[],[⟨zab,[.one],[]⟩],ap1 nq⟩
theorem xU:Lk 1 tw:=ls GA aN
def ra(a0:Int):h_:=
(nq a0).bind λ(x0,_)=>bif x0 then(some (63,()))else bif(a0==15)then(some (3,()))else bif(a0==23)then(some (15,()))else some (65535,())
def I9:X.Cfg:=⟨E0,[tw],[],[]⟩
def AG:Ctr:=⟨163,126,zac,[],[⟨zac,[.one],[]⟩],ap1 ra⟩
theorem Im:Lk 2 AG:=ls I9 (aC xU aN)
def pA(a0 a1 a2 a3 a4:Int):f_:=bif(decide (a0<0))then(some (false,()))else bif(decide (a0>24))then(some (false,()))else
(rA a0).bind λ(x0,x1,x2,x3,_)=>
(i5 x0 a1 7).bind λ(x4,_)=>bif x4 then((i5 x1 a2 7).bind λ(x5,_)=>bif x5 then((i5 x2 a3 7).bind λ(x6,_)=>bif x6 then((ra a0).bind λ(x7,_)=>
(i5 x3 a4 x7).bind λ(x8,_)=>some (x8,()))else some (false,()))else some (false,()))else some (false,())
def Gz:X.Cfg:=⟨E0,[wH,vh,AG],[],[]⟩
def yG:Ctr:=⟨139,127,[.agg Uae],[],[⟨zab,[.one],[]⟩],ap5 pA⟩
theorem FD:Lk 3 yG:=ls Gz (aC Dr (aC B8 (aC Im aN)))
end
end Go.Proofs.YtabfnmgabblofaaGreat
