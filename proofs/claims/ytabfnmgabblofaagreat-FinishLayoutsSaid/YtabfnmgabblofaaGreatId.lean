/- Part of the proof; no condition. -/
import Derived.Test.YtabfnmgabblofaaGreatIc
import Derived.Test.YtabfnmgabblofaaGreatProg
import Derived.KernelRfl
set_option linter.unusedVariables false
set_option linter.unusedSimpArgs false
namespace Go.Proofs.YtabfnmgabblofaaGreat
open Go.RowKit
section
variable {α β γ δ Y:Type}
theorem Qu{F:iE}{C:X.Cfg}(YZ:∀c∈C.TB,yR F c)(u:HL den []):∀(ops:List lI){σ:XS den}{k:Unit->XS den->Option Y}{y:Y},X.spOps fY C u ops σ k=some y->∃ σ',xD (evCall C.E F) ops (erS σ)=some (erS σ')/\k () σ'=some y:=by intro ops;induction ops with|nil=>intro σ k y h;exact⟨σ,rfl,h⟩|cons o ops ih=>intro σ k y h;have ⟨a,σ1,r1,_,h1⟩:=K8 YZ u o σ _ y h;have ⟨σ',r2,h2⟩:=ih h1;refine⟨σ',?_,h2⟩;simp[xD];rw[K5 r1];exact r2
def LG(f g:vO):Prop:=(∀x∈f.1,x∈g.1)/\∀x∈f.2,x∈g.2
inductive UE:List (Nat×vO)->List (Nat×vO)->Prop
 |nil:UE [] []
 |cons {i:Nat} {f g:vO} {l r:List (Nat×vO)} (h:LG f g) (t:UE l r):UE ((i,f)::l) ((i,g)::r)
theorem xK{a a' b b':List Loc}(ha:∀x∈a,x∈a')(hb:∀x∈b,x∈b')(h:ML a' b'=false):ML a b=false:=by unfold ML at h⊢;simp_all
theorem Nk{f f' g g':vO}(h1:LG f f')(h2:LG g g')(h:sY f' g'=false):sY f g=false:=by unfold sY at h⊢;simp at h⊢;have ⟨⟨⟨a,b⟩,c⟩,d⟩:=h;exact⟨⟨⟨xK h1.2 h2.1 a,xK h1.2 h2.2 b⟩,xK h2.2 h1.1 c⟩,xK h2.2 h1.2 d⟩
theorem O3{deps:k_}{j:Nat}{f f':vO}(hf:LG f f'){l r:List (Nat×vO)}(h:UE l r):(r.all λy=>!sY f' y.2||(deps.getD y.1 []).contains j)=true->(l.all λy=>!sY f y.2||(deps.getD y.1 []).contains j)=true:=by induction h with|nil=>exact id|cons h t ih=>intro hr;simp only[List.all_cons,oBA]at hr⊢;refine⟨?_,ih hr.2⟩;simp at hr⊢;rcases hr.1 with h3|h3;exact .inl (Nk hf h h3);simp_all
theorem HM{deps:k_}{l r:List (Nat×vO)}(h:UE l r):lG deps r=true->lG deps l=true:=by induction h with|nil=>exact id|cons h t ih=>intro hr;simp only[lG,oBA]at hr⊢;exact⟨O3 h t hr.1,ih hr.2⟩
theorem S9{F:iE}{C:X.Cfg}(YZ:∀c∈C.TB,yR F c)(u:HL den [])(ops:List lI):∀(L:N_){σ:XS den}{k:List (Nat×vO)->XS den->Option Y}{y:Y},X.spFL fY C u ops L σ k=some y ->∃fs gs σ',vP (λi=>spOp (evCall C.E F) (ops.getD i JA)) L (erS σ)=some (fs,erS σ')/\UE fs gs/\k gs σ'=some y:=by intro L;induction L with|nil=>intro σ k y h;exact⟨[],[],σ,rfl,.nil,h⟩|cons i L ih=>intro σ k y h;have ⟨a,σ1,r1,n1,h1⟩:=K8 YZ u _ _ _ y h;have r1:(spOp (evCall C.E F) (ops.getD i JA)).run (erS σ)=some (a,erS σ1):=r1;have ⟨fs,gs,σ',r2,le,h2⟩:=ih h1;refine⟨(i,(spOp (evCall C.E F) (ops.getD i JA)).foot (erS σ))::fs,(i,σ1.lg)::gs,σ',?_,.cons ⟨n1.r,n1.w⟩ le,h2⟩;simp[vP];simp_all
theorem zh(L:N_)(σ:XS den){t:XV den}(h:X.okN0 t=true):er (X.renorm0 L σ t)=renorm0 L (erS σ) (er t):=by
 cases t with
 |d t x=>cases t with
  |row o t=>cases o<;>first|rfl|simp[X.okN0]at h
  |nilr o=>cases o<;>rfl|nat=>simp[X.okN0]at h|pair a b=>simp[X.okN0]at h|_=>rfl
 |ptr p vs=>show er (if _ then _ else _)=(if _ then _ else _);by_cases hc:(L.contains p.root&&vs==lK (nH σ.vr) p.root p.off p.hops.length)=true;rw[oIP hc,oIP (by exact hc)];rfl;rw[oIN hc,oIN (by exact hc)];rfl|pk p vs=>show er (if _ then _ else _)=(if _ then _ else _);by_cases hc:(L.contains p.root&&vs==lK (nH σ.vr) p.root p.off (p.hops.length+1))=true;rw[oIP hc,oIP (by exact hc)];rfl;rw[oIN hc,oIN (by exact hc)];rfl|pw p vs sz lo n=>show er (if _ then _ else _)=(if _ then _ else _);by_cases hc:(L.contains p.root&&vs==lK (nH σ.vr) p.root p.off (p.hops.length+1))=true;rw[oIP hc,oIP (by exact hc)];rfl;rw[oIN hc,oIN (by exact hc)];rfl|tup l=>cases l<;>rfl|gap=>simp[X.okN0]at h|half=>simp[X.okN0]at h|_=>rfl
theorem OD(L:N_)(σ:XS den){t:XV den}(h:X.okN t=true):er (X.renorm L σ t)=renorm L (erS σ) (er t):=by
 have key:X.okN0 t=true->er (X.renorm0 L σ t)=renorm0 L (erS σ) (er t):=λh=>zh L σ h;cases t with
 |agg l=>simp only[X.renorm,er,renorm,lj,oPM];congr 1;refine List.map_congr_left λx hx=>zh L σ (oAE.1 h x hx)|fn f l=>simp only[X.renorm,er,renorm,lj,oPM];congr 1;refine List.map_congr_left λx hx=>zh L σ (oAE.1 h x hx)|d t x=>have:=key h;cases t with|row o t=>cases o<;>exact this|nilr o=>cases o<;>exact this|_=>exact this
 |_=>exact key h
theorem Se{α:Type}{P:α->Bool}:∀{l:List (Nat×α)}{i:Nat}{t:α},(l.all λx=>P x.2)=true->gG l i=some t->P t=true:=by intro l;induction l with|nil=>intro i t _ h;simp[gG]at h|cons x l ih=>intro i t ha h;simp only[List.all_cons,oBA]at ha;simp[gG]at h;split at h;simp_all;exact ih ha.2 h
theorem Ri(L:N_)(σ:XS den)(hok:X.okS σ=true):∀l:N_,(X.normT L σ l).map (λx=>(x.1,er x.2))=normT L (erS σ) l:=by intro l;induction l with|nil=>rfl|cons i l ih=>simp[X.normT,normT];have e:gG (erS σ).tm i=(gG σ.tm i).map er:=Bs _ _ _;rw[e];cases h:gG σ.tm i with|none=>exact ih|some t=>have ht:=Se hok h;simp only[oMS,oPC];rw[OD L σ ht,ih]
theorem Rj(σ:XS den):∀l:N_,erC (X.normC σ l)=normC (erS σ) l:=by intro l;induction l with|nil=>rfl|cons r l ih=>simp[X.normC,normC];rw[Ah];cases h:gG σ.ce r with|none=>exact ih|some c=>simp;show(r,erL c)::erC _=_;rw[ih]
theorem E9{σ:XS den}(hok:X.okS σ=true)(pers:Prs):erS (X.norm σ pers)=(erS σ).norm pers:=by show(⟨(X.normT pers.2 σ pers.1).map _,erC (X.normC σ pers.2),sat pers.2 σ.vr σ.vr⟩:St)=_;rw[Ri _ σ hok,Rj];rfl
theorem KT{σ:XS den}(hok:X.okS σ=true):erS (X.anew σ)=(erS σ).anew:=by unfold X.anew St.anew;rw[E9 hok];congr 1;congr 1;show _=(σ.tm.map λx=>(x.1,er x.2)).map (·.1);simp_all;show _=(erC σ.ce).map (·.1);unfold erC;simp_all
theorem UT(p:XP den)(off:Nat):erP (X.shq fY p off)=shq (erP p) off:=by unfold X.shq shq;split;exact KC p off;rfl
theorem Qy(x:Nat×x_):Sim (Y:=Y) (X.shr1 fY x) (shr1 x) id:=by
 obtain⟨i,off⟩:=x;refine Sim.rdT λt=>?_;cases off with
 |none=>cases t with
  |pk p vs=>refine(kg false (.pk p vs)).bind λt'=>Sim.opt λt2 h2=>?_;rw[<- Cd h2];exact BD i t2|d t y=>cases t with|row o t=>cases o<;>exact .ret rfl|nilr o=>cases o<;>exact .ret rfl|_=>exact .ret rfl
  |agg l=>exact Sim.ite (λ_=>.fail) λ_=>.ret rfl|_=>exact .fail
 |some off=>cases t with
  |ptr p vs=>
  refine(iV p _ vs).bind λ_=>Sim.ite (λh=>?_) λ_=>.fail;rw[oIP (by rw[<- GI];exact h),<- UT];refine(lR _).bind λt=>Sim.ite (λho=>?_) λho=>?_;obtain⟨c,hc⟩:=pL ho;have hpk:=nj (Y:=Y) (X.shq fY p off) t;rw[hc]at hpk;rw[hc];exact hpk.bind λt'=>(kg false t').bind λ_=>.ret rfl;cases t with
   |d t y=>
   cases t with
    |row o t=>cases o<;>first|exact .ret rfl|simp[X.isOwX,X.isOwT]at ho
    |nilr o=>cases o<;>first|exact .ret rfl|simp[X.isOwX,X.isOwT]at ho
    |_=>exact .ret rfl
   |_=>exact .fail
  |d t y=>cases t with|row o t=>cases o<;>exact .fail|nilr o=>cases o<;>exact .fail|_=>exact .fail
  |_=>exact .fail
theorem K9:∀l:a_,Sim (Y:=Y) (X.shrs fY l) (shrs l) id:=by intro l;induction l with|nil=>exact .ret rfl|cons x l ih=>exact(Qy x).bind λ_=>ih
theorem RD{n:Nat}{t:XV den}{k:XV den->Option Y}{y:Y}(h:X.halfX fY n t k=some y):∃t',er t'=er t/\k t'=some y:=by
 unfold X.halfX at h;split at h;rename_i t xs;split at h;rename_i hs;split at h;rename_i hc;refine⟨_,?_,h⟩;have h':=iA (NK t);show TV.ow (lH (X.upT t) 0 (cast (iA hs) xs))=.ow (List.map (enc t) xs);have e:(cast (iA hs) xs:List (den (X.upT t)))=List.map (cast h') (xs:List (den t)):=GT h' _ xs;rw[e,M0,oPM];congr 1;exact List.map_congr_left λx _=>T9 hc.2 h' x;cases h;cases h;rename_i t xs m;split at h;have h2:fY.br (Nat.beq m (List.length xs)) _ none=some y:=h;cases hc:Nat.beq m (List.length xs)with|false=>rw[hc]at h2;cases h2|true=>rw[hc]at h2;have e:=Nat.eq_of_beq_eq_true hc;subst e;refine⟨_,?_,h2⟩;show TV.ow (List.map (enc t) xs)=.ow (lH t (List.length xs) xs);rw[PG]
 cases h;split at h;grind;cases h;cases h
theorem QP(r o n:Nat):Sim (Y:=Y) (X.halfM fY r o n) (.ret ()) id:=by
 intro σ k y hk;unfold X.halfM at hk;split at hk;case h_2=>cases hk
 rename_i l hl;split at hk;case isFalse=>cases hk
 have ⟨t',e,hk⟩:=RD hk;refine⟨(),⟨σ.tm,iN σ.ce r (l.set o t'),σ.vr,σ.lg⟩,?_,⟨λx h=>by simp[SP.foot]at h,λx h=>by simp[SP.foot]at h,λ_ h=>h,λ_ h=>h⟩,hk⟩;show some ((),erS σ)=some ((),_);congr 2;unfold erS erC;congr 1;rw[<- rx,xf,e,yd];have hs:(erL l).set o ((erL l).getD o .dead)=erL l:=by
  apply oEG;intro j;rw[List.getElem?_set];split
  ·rename_i h;split
   all_goals simp_all
  rfl
 rw[hs];exact(C7 (by show gG (erC σ.ce) r=some (erL l);have:=Ah;rw[show erC σ.ce=(erS σ).ce from rfl,this,hl];rfl)).symm
theorem Tj(i n:Nat):Sim (Y:=Y) (X.frzM fY i n) (Vk i n) id:=by refine Sim.ite (λh=>?_) λh=>?_;unfold Vk;rw[oIP h];refine Sim.ite (λ_=>?_) λ_=>QP _ _ n;intro σ k y hk;unfold X.ownM at hk;split at hk;split at hk;exact⟨(),σ,rfl,sf.refl σ,hk⟩;cases hk;cases hk;exact .fail
theorem Tv{i:Nat}{σ:XS den}{u:HL den []}:∀{L:List Jx}{H:Jx}{h:HL den (lvS H.s)},X.selH fY i σ u L=some ⟨H,h⟩->X.convS fY H.s σ u=some h:=by intro L;induction L with|nil=>intro H h hs;cases hs|cons H0 L ih=>intro H h hs;unfold X.selH at hs;grind
theorem Ey{Z:Type}{outs:List (nK×Shs)}{i:Nat}{h:HL den (E8 (outs.map λx=>lvS x.2) i)}{o:EN (outs.map λx=>lvS x.2)}{x:nK×XS den}(K:nK×XS den->Option Z)(hm:zo (outs.map λx=>lvS x.2) i h=some o)(hf:Ag outs i h=some x):(o5 (outs.map λx=>lvS x.2) o λj ho=>X.onOut fY (Ag outs j ho) K)=K x:=by rw[Ez _ hm,hf];rfl
theorem QE{F:iE}{C:X.Cfg}(YZ:∀c∈C.TB,yR F c)(u:HL den []){N:Nat}(hN:NN<=N):∀(tc:lY)(i:Nat){Y:Type}(σ:XS den)(k:nK->XS den->Option Y)(y:Y),X.runC fY C u tc i σ k=some y->∃e σ',runC (evCall C.E F) N tc (erS σ)=some (e,erS σ')/\k e σ'=some y:=by
 intro tc;induction tc with
 |skip=>intro i Y σ k y h;exact⟨.normal,σ,rfl,h⟩|frz j n a ih=>intro i Y σ k y h;obtain⟨_,σ1,r1,_,h1⟩:=Tj j n σ _ y h;split at h1;rename_i hok;obtain⟨e,σ2,r2,h2⟩:=ih _ _ k y h1;refine⟨e,σ2,?_,h2⟩;simp only[runC];rw[r1];simp only[oBS];rw[<- KT hok];exact r2;cases h1|nrm pers=>intro i Y σ k y h;have h:(if X.okS σ then k .normal (X.norm σ pers)else none)=some y:=h;split at h;rename_i hok;exact⟨.normal,X.norm σ pers,by rw[E9 hok];rfl,h⟩;cases h|reg id draw ops pers=>intro i Y σ k y h;cases draw with|none=>have h:X.spOps fY C u ops σ (λ_ σ'=>if X.okS σ' then k .normal (X.norm σ' pers)else none)=some y:=h;obtain⟨σ1,r1,h1⟩:=Qu YZ u ops h;split at h1;rename_i hok;refine⟨.normal,X.norm σ1 pers,?_,h1⟩;simp only[runC];rw[r1,E9 hok];rfl;cases h1|some deps=>obtain⟨fs,gs,σ1,r1,le,h1⟩:=S9 YZ u ops _ h;split at h1;rename_i hok;simp only[oBA]at hok;rw[JX]at hok;refine⟨.normal,X.norm σ1 pers,?_,h1⟩;simp only[runC];rw[r1,E9 hok.2];simp only[oBS];rw[oIP (HM le hok.1)];cases h1
 |seq a b ZH ZE=>
 intro i Y σ k y h;have ZU:∀(e:nK)(σ1:XS den),runC (evCall C.E F) N a (erS σ)=some (e,erS σ1)->(match e with|.normal=>X.runC fY C u b (i+1+X.marks a) σ1 k|e=>k e σ1)=some y->∃e σ',runC (evCall C.E F) N (.seq a b) (erS σ)=some (e,erS σ')/\k e σ'=some y:=by intro e σ1 r1 h1;simp only[runC];rw[r1];simp only[oBS];cases e with|normal=>exact ZE _ σ1 k y h1|exit j=>exact⟨_,σ1,rfl,h1⟩|ret=>exact⟨_,σ1,rfl,h1⟩
 unfold X.runC at h;cases hs:X.selJ i C.HL with|none=>rw[hs]at h;obtain⟨e,σ1,r1,h1⟩:=ZH _ σ _ y h;exact ZU e σ1 r1 h1|some H=>rw[hs]at h;obtain⟨o,h1,h2⟩:=gg (show(X.runC fY C u a (i+1) σ _:Option _).bind _=some y from h);obtain⟨e,σ1,r1,h3⟩:=ZH _ σ _ o h1;cases hi:X.injE fY e σ1 u H.outs with|none=>rw[hi]at h3;cases h3|some x=>rw[hi]at h3;obtain⟨j,ho⟩:=x;have h3:zo (H.outs.map λx=>lvS x.2) j ho=some o:=h3;obtain⟨x,hf,he,hσ⟩:=PA hi;rw[Ey _ h3 hf]at h2;rw[<- hσ]at r1;rw[<- he]at r1;exact ZU x.1 x.2 r1 h2
 |cond c a b ZH ZE=>
 intro i Y σ k y h;obtain⟨t,σ1,r1,e1,_,h1⟩:=Bd h;cases t with
  |d t x=>cases t with
   |bool=>
   have hkn:erS (X.knownO fY c x σ)=erS σ:=by
    cases c with
    |t j=>
    have hj:X.tOf σ j=.d .bool x:=by
     have h9:X.condX fY (X.runC fY C u a i (X.knownO fY (.t j) true σ) k) (X.runC fY C u b (i+X.marks a) (X.knownO fY (.t j) false σ) k) (X.tOf σ j)=some y:=h;have r1:(some ((erS σ).t j,erS σ):Option (TV×St))=some (er (.d .bool x),erS σ):=r1;injection r1 with r1
     injection r1 with r1 _
     rw[RS]at r1;cases ht:X.tOf σ j with
     |d t2 z=>cases t2 with
      |bool=>rw[ht]at r1;injection r1 with r1;injection r1 with r1;rw[show z=x from r1]
      |_=>rw[ht]at h9;cases h9
     |_=>rw[ht]at h9;cases h9
    exact Lw hj
    |_=>rfl
   have r1:(opd c).run (erS σ)=some (.v (.bool x),erS σ):=r1;simp only[runC];rw[r1];simp only[oBS];cases x with|true=>rw[<- hkn];exact ZH _ _ k y h1|false=>rw[<- hkn];exact ZE _ _ k y h1
   |_=>cases h1
  |_=>cases h1
 |block id b ih=>intro i Y σ k y h;unfold X.runC at h;obtain⟨e,σ1,r1,h1⟩:=ih _ σ _ y h;simp only[runC];rw[r1];simp only[oBS];grind|loop b ih=>
 intro i Y σ k y h;unfold X.runC at h;cases hs:X.selH fY i σ u C.HL with
  |none=>rw[hs]at h;cases h|some x=>
  obtain⟨H,h0⟩:=x;rw[hs]at h;have hconv:=GM (Tv hs);obtain⟨o,h1,h2⟩:=gg (show(gc _ NN h0).bind _=some y from h);have key:∀(n:Nat)(hd:HL den (lvS H.s))(o:EN (H.outs.map λx=>lvS x.2)),gc (λh=>X.runC fY C u b (i+1) (KA H.s h) (X.roundK fY H u)) n hd=some o->∀N',n<=N'->∃x j ho,TZ (runC (evCall C.E F) N b) N' (erS (KA H.s hd))=some (x.1,erS x.2)/\zo (H.outs.map λx=>lvS x.2) j ho=some o/\Ag H.outs j ho=some x:=by
   intro n;induction n with
   |zero=>intro hd o h;cases h|succ n ihn=>
   intro hd o h N' hle;obtain⟨N',rfl⟩:∃N'',N'=N''+1:=⟨N'-1,by omega⟩;obtain⟨z,hz,XY⟩:=gg (show(X.runC fY C u b (i+1) (KA H.s hd) _:Option _).bind _=some o from h);obtain⟨e,σ1,r1,h3⟩:=ih _ _ _ z hz;simp only[TZ];rw[r1];simp only[oBS];have Y7:∀e':nK,(∀s:Option (HL den (lvS H.s)⊕EN (H.outs.map λx=>lvS x.2)),s=some z->s=X.onOut fY (X.injE fY e' σ1 u H.outs) (λx=>fY.exitL (lvS H.s) (H.outs.map λx=>lvS x.2) x.1 x.2)->∃x j ho,(some (e',erS σ1):Option (nK×St))=some (x.1,erS x.2)/\zo (H.outs.map λx=>lvS x.2) j ho=some o/\Ag H.outs j ho=some x):=by intro e' s hs1 YX;rw[hs1]at YX;cases hi:X.injE fY e' σ1 u H.outs with|none=>rw[hi]at YX;cases YX|some x=>rw[hi]at YX;obtain⟨j,ho⟩:=x;obtain⟨t,Yq,YY⟩:=kM (show(zo (H.outs.map λx=>lvS x.2) j ho).map Sum.inr=some z from YX.symm);subst YY;obtain⟨x,hf,he,hσ⟩:=PA hi;refine⟨x,j,ho,by rw[he,hσ],?_,hf⟩;have:some t=some o:=XY;rw[<- this];exact Yq
   cases e with
   |normal=>
   have h3:X.onOut fY (X.convS fY H.s σ1 u) (fY.next (lvS H.s) (H.outs.map λx=>lvS x.2))=some z:=h3;cases hc:X.convS fY H.s σ1 u with
    |none=>rw[hc]at h3;cases h3|some h'=>
    rw[hc]at h3;have h3:some (Sum.inl h')=some z:=h3;injection h3 with h3
    subst h3;rw[<- GM hc];exact ihn h' o XY N' (by omega)
   |exit j=>exact Y7 (.exit j) _ h3 rfl|ret=>exact Y7 .ret _ h3 rfl
  obtain⟨x,j,ho,r1,hm,hf⟩:=key NN h0 o h1 N hN;rw[Ey _ hm hf]at h2;refine⟨x.1,x.2,?_,h2⟩;simp only[runC];rw[<- hconv];exact r1
 |exit id=>intro i Y σ k y h;exact⟨.exit id,σ,rfl,h⟩|ret=>intro i Y σ k y h;exact⟨.ret,σ,rfl,h⟩|pre l a ih=>intro i Y σ k y h;obtain⟨_,σ1,r1,_,h1⟩:=K9 l σ _ y h;split at h1;rename_i hok;obtain⟨e,σ2,r2,h2⟩:=ih _ _ k y h1;refine⟨e,σ2,?_,h2⟩;simp only[runC];rw[r1];simp only[oBS];rw[<- KT hok];exact r2;cases h1|post a l ih=>intro i Y σ k y h;obtain⟨e,σ1,r1,h1⟩:=ih _ _ _ y h;obtain⟨_,σ2,r2,_,h2⟩:=K9 l σ1 _ y h1;split at h2;rename_i hok;refine⟨e,X.anew σ2,?_,h2⟩;simp only[runC];rw[r1];simp only[oBS];rw[r2];simp only[oBS];rw[KT hok];cases h2
end
section
variable {α β γ δ Y:Type}
theorem Ei(np:Nat)(t:XV den):Sim (Y:=Y) (X.takeR1 fY np t) (takeR1 np (er t)) er:=by
 have key:Sim (Y:=Y) (X.take1 fY true t) (take1 true (er t)) er:=kg true t;cases t with
 |pk p vs=>exact kg _ (.pk p vs)|d t y=>cases t with|row o t=>cases o<;>exact key|nilr o=>cases o<;>exact key|_=>exact key
 |_=>exact key
theorem Mc(np:Nat):∀l:List (XV den),Sim (Y:=Y) (X.takeRL fY np l) (takeRL np (erL l)) erL:=by intro l;induction l with|nil=>exact .ret rfl|cons t l ih=>exact(Ei np t).bind λt'=>ih.bind λr'=>.ret rfl
theorem yZ(np:Nat)(t:XV den):Sim (Y:=Y) (X.takeRV fY np t) (takeRV np (er t)) λx=>(erL x.1,x.2):=by
 have one:∀t:XV den,Sim (Y:=Y) (X.bind (X.takeR1 fY np t) λt'=>X.ret ([t'],RSh.one)) ((takeR1 np (er t)).bind λt'=>.ret ([t'],.one)) λx=>(erL x.1,x.2):=λt=>(Ei np t).bind λt'=>.ret rfl;have key:=one t;cases t with
 |agg l=>exact(Mc np l).bind λl'=>.ret (by simp[iM])|d t y=>cases t with|row o t=>cases o<;>exact key|nilr o=>cases o<;>exact key|_=>exact key
 |_=>exact key
theorem QH(np:Nat)(q:TRs):Sim (Y:=Y) (X.res1 fY np q) (res1 np q) λx=>(erL x.1,x.2):=by
 cases q with
 |tmp t=>exact Sim.rdT λtv=>yZ np tv|cell t n=>
 refine Sim.rdT λtv=>?_;cases tv with
 |ptr p vs=>refine(iV p _ vs).bind λ_=>?_;cases n with|none=>exact(lR p).bind λt=>(nj p t).bind λt'=>yZ np t'|some n=>exact(Hq p n).bind λl=>yZ np (.agg l)
 |d t y=>cases t with|row o t=>cases o<;>exact .fail|nilr o=>cases o<;>exact .fail|_=>exact .fail
 |_=>exact .fail
theorem QF(np:Nat):∀l:Q_,Sim (Y:=Y) (X.resL fY np l) (resL np l) λx=>(erL x.1,x.2):=by intro l;induction l with|nil=>exact .ret rfl|cons q l ih=>exact(QH np q).bind λx=>ih.bind λy=>.ret (by simp[r6])
theorem O4(l:List (XV den)):onesOf (erL l)=X.onesOf l:=by induction l with|nil=>rfl|cons t l ih=>simp[erL,onesOf,X.onesOf,ih]
theorem Mh:∀l:Q_,Sim (Y:=Y) (X.flatsR fY l) (flatsR l) erL:=by
 intro l;induction l with
 |nil=>exact .ret rfl|cons q l ih=>cases q with
  |cell t n=>exact .fail|tmp t=>
  refine Sim.rdT λtv=>Sim.ite (λhc=>?_) λ_=>.fail;have h1:FL (er tv)=true:=by have:=LK (l:=[tv]) (by simp_all);simpa[erL]using this
  rw[oIP h1];exact ih.bind λl=>.ret rfl
theorem QG(np:Nat)(l:Q_):Sim (Y:=Y) (X.resF fY np l) (resF np l) λx=>(erL x.1,x.2):=by
 have base:=QF (Y:=Y) np l;cases l with
 |nil=>exact base|cons q r=>cases q with
  |cell t n=>exact base|tmp t=>
  refine Sim.rdT λtv=>?_;cases tv with
  |ptr p vs=>exact(iV p _ vs).bind λ_=>(Mh r).bind λl=>.ret (by simp[O4];rfl)|d ty y=>cases ty with|row o ty=>cases o<;>exact base|nilr o=>cases o<;>exact base|_=>exact base
  |_=>exact base
theorem Pu(t:XV den):(∃p vs,t=.ptr p vs)\/(X.isPtrX t=false/\∀p vs,er t≠.ptr p vs):=by
 cases t with
 |ptr p vs=>exact .inl ⟨p,vs,rfl⟩|d t y=>cases t with|row o t=>cases o<;>exact .inr ⟨rfl,by simp[er,er1]⟩|nilr o=>cases o<;>exact .inr ⟨rfl,by simp[er,er1]⟩|_=>exact .inr ⟨rfl,by simp[er,er1]⟩
 |gap t x i o=>exact .inr ⟨rfl,λp vs h=>by cases h⟩|half t x m=>exact .inr ⟨rfl,λp vs h=>by cases h⟩|_=>exact .inr ⟨rfl,by simp[er]⟩
theorem Rx{t:XV den}(h:X.isShX t=true):∃c,er t=.sl c:=by
 cases t with
 |d t y=>cases t with
  |row o t=>cases o with|false=>exact⟨_,rfl⟩|true=>cases h
  |nilr o=>cases o with|false=>exact⟨_,rfl⟩|true=>cases h
  |_=>cases h
 |_=>cases h
theorem Mx{pp:N_}:∀{l:List (XV den)}{i:Nat},X.ptrsInX pp i l=true->rd pp i (erL l)=true:=by intro l;induction l with|nil=>intro i _;rfl|cons t l ih=>intro i h;simp only[X.ptrsInX,oBA]at h;have ⟨⟨h0,hs⟩,hr⟩:=h;rcases Pu t with⟨p,vs,rfl⟩|⟨h1,h2⟩;show(pp.contains i&&rd pp (i+1) (erL l))=true;rw[ih hr,Bool.and_true];simpa[X.isPtrX]using h0;show rd pp i (er t::erL l)=true;rw[h1,Bool.false_or]at hs;cases hsh:X.isShX t with|true=>have ⟨c,hc⟩:=Rx hsh;rw[hc];exact ih hr|false=>rw[hsh,Bool.false_or]at hs;cases he:er t with|ptr p vs=>simp_all|sl c=>exact ih hr|_=>show(!pp.contains (1000+i)&&rd pp (i+1) (erL l))=true;rw[hs,ih hr];rfl
theorem JY(l:List (XV den)):∀i,(jk i l).map (λx=>(x.1,er x.2))=jk i (erL l):=by induction l with|nil=>intro i;rfl|cons t l ih=>intro i;simp[jk,erL,ih]
theorem TR(kq:p_)(vals:List (XV den))(pts:List (Nat×List (XV den))):erS (X.mkSt kq vals pts)=Df kq (erL vals) (erC pts):=by unfold X.mkSt Df erS;simp only[JY]
theorem Q7(σ:XS den)(pts:List (Nat×List (XV den))):erC (X.ptsOf σ pts)=(erC pts).map λx=>(x.1,(gG (erS σ).ce x.1).getD []):=by induction pts with|nil=>rfl|cons x pts ih=>show(x.1,erL ((gG σ.ce x.1).getD []))::erC (X.ptsOf σ pts)=(x.1,(gG (erS σ).ce x.1).getD [])::_;rw[ih,Ah];cases gG σ.ce x.1<;>rfl
theorem PQ(a b:List (Nat×List (XV den))):erC (a++b)=erC a++erC b:=by unfold erC;rw[List.map_append]
theorem Vc(pp:N_):erC (X.kpX (D:=den) pp)=kpE pp:=by unfold erC X.kpX kpE;rw[oPM];rfl
theorem Vd(kq:p_)(σ:XS den):erC (X.kcX kq σ)=kcE kq (erS σ):=by unfold erC X.kcX kcE;rw[oPM];refine List.map_congr_left λq _=>?_;show(q.1,erL (List.replicate (q.2+1) XV.dead))=_;rw[lj,List.map_replicate];rfl
theorem Tz{F:iE}{C:X.Cfg}(YZ:∀c∈C.TB,yR F c)(u:HL den []){N:Nat}(hN:NN<=N){tf:TFn}{outs:List XO}{vals:List (XV den)}{pts:List (Nat×List (XV den))}{o:EN (outs.map lvO)}(h:X.runT fY C u tf outs vals pts=some o):∃x,o5 (outs.map lvO) o (λi ho=>pO outs i ho)=some x/\runT C.E F N tf (erL vals) (erC pts)=some (⟨erL x.1,x.2.1⟩,erC x.2.2):=by
 unfold X.runT at h;split at h;case isFalse=>cases h
 rename_i hc;obtain⟨e,σ1,r1,h1⟩:=QE YZ u hN tf.body 0 _ _ o h;have key:X.resF fY tf.np tf.res σ1 (λy σ'=>X.onOut fY (X.injO fY y.1 y.2 (X.ptsOf σ' pts++(X.kpX tf.pp++X.kcX (J6 tf.pp) σ')) u outs) λx=>fY.out (outs.map lvO) x.1 x.2)=some o ->∃x,o5 (outs.map lvO) o (λi ho=>pO outs i ho)=some x/\(((resF tf.np tf.res).run (erS σ1)).bind λy=>some ((⟨y.1.1,y.1.2⟩:L0),((erC pts).map λx=>(x.1,(gG y.2.ce x.1).getD []))++(kpE tf.pp++kcE (J6 tf.pp) y.2)))=some (⟨erL x.1,x.2.1⟩,erC x.2.2):=by intro h2;obtain⟨y,σ2,r2,_,h3⟩:=QG tf.np tf.res σ1 _ o h2;cases hi:X.injO fY y.1 y.2 (X.ptsOf σ2 pts++(X.kpX tf.pp++X.kcX (J6 tf.pp) σ2)) u outs with|none=>rw[hi]at h3;cases h3|some z=>rw[hi]at h3;obtain⟨i,ho⟩:=z;obtain⟨x,hf,e1,e2,e3⟩:=T1 hi;refine⟨x,?_,?_⟩;rw[Ez _ (show zo (outs.map lvO) i ho=some o from h3)];exact hf;rw[r2];simp only[oBS];rw[e1,e2,e3,PQ,PQ,Q7,Vc,Vd]
 have Z1:(erL vals).length=tf.np/\(rd tf.pp 0 (erL vals)&&(!tf.pp.contains 1000||(erC pts).isEmpty))=true:=by have h2:=hc.2;rw[oBA]at h2;refine⟨by rw[iM];exact hc.1,?_⟩;rw[Mx h2.1,Bool.true_and];have h3:=h2.2;cases pts with|nil=>simp[erC]|cons x pts=>simpa[erC]using h3
 unfold runT;rw[oIP Z1,<- TR,r1];simp only[oBS];cases e with|exit j=>cases h1|normal=>exact key h1|ret=>exact key h1
end
theorem RV{E:Env}{T:FuncId->y_}{B F:iE}{N:Nat}(hN:NN<=N){C:X.Cfg}(hE:C.E=E)(YZ:∀c∈C.TB,yR F c){c:Ctr}{tf:TFn}(hT:T c.f=some tf) (hg:∀h,X.runT fY C () tf c.outs (lS c.ins _ h).1 (ya c.pts [] (lS c.ins _ h).2).1=c.g h):yR (Mb E T B F N) c:=by intro h o x ho hx;rw[Ma hT];rw[<- hg h]at ho;have ⟨x',h1,h2⟩:=Tz YZ () hN ho;simp_all
def Lvl(E:Env)(T:FuncId->y_)(B:iE)(n:Nat)(c:Ctr):Prop:=∀k,n<=k->yR (runF E T B (NN+k)) c
def L4(E:Env)(T:FuncId->y_)(B:iE)(n:Nat):B_->Prop| []=>True|c::r=>Lvl E T B n c/\L4 E T B n r
theorem Lvl.mono{E:Env}{T:FuncId->y_}{B:iE}{n m:Nat}{c:Ctr}(h:Lvl E T B n c)(hm:n<=m):Lvl E T B m c:=λk hk=>h k (Nat.le_trans hm hk)
theorem L4.get{E:Env}{T:FuncId->y_}{B:iE}{n:Nat}:∀{l:B_},L4 E T B n l->∀c∈l,Lvl E T B n c:=by intro l;induction l with|nil=>simp_all|cons x l ih=>intro h c hc;rcases oMC.1 hc with rfl|hc;exact h.1;exact ih h.2 c hc
theorem VV{E:Env}{T:FuncId->y_}{B:iE}{n:Nat}{C:X.Cfg}(hE:C.E=E)(YZ:L4 E T B n C.TB){c:Ctr}{tf:TFn}(hT:T c.f=some tf) (hg:∀h,X.runT fY C () tf c.outs (lS c.ins _ h).1 (ya c.pts [] (lS c.ins _ h).2).1=c.g h):Lvl E T B (n+1) c:=by intro k hk;obtain⟨k,rfl⟩:∃k',k=k'+1:=⟨k-1,by omega⟩;exact RV (F:=runF E T B (NN+k)) (Nat.le_add_right _ _) hE (λc hc=>YZ.get c hc k (by omega)) hT hg
theorem Ni{P:Program}{H:Nat->a_}{f:FuncId}{tf:TFn}(h:zD P H f=some tf):∃fn,P.funcs[f]?=some fn/\tf.np<=fn.params.size+fn.nfree/\tf.nt=fn.ntmps:=by
 unfold zD at h;split at h;case h_2=>simp at h
 split at h;case h_2=>simp at h
 split at h;rename_i tf' Y8;have ⟨_,g2,g3,_⟩:=Ak Y8;simp_all;simp only at h;split at h;injection h with h
 subst h;simp_all;simp at h
theorem S6{P:Program}(H:FuncId->Nat->a_)(ZL:(P.funcs.all λfn=>decide (fn.params.size+fn.nfree<=fn.ntmps) && !(fn.name== "runtime.NumGoroutine"))=true):Qb P λf=>zD P (H f) f:=by refine Qq λf tf h=>?_;have ⟨fn,hf,e1,e2⟩:=Ni h;have ⟨hlt,he⟩:=Array.getElem?_eq_some_iff.1 hf;have:=Array.all_eq_true.1 ZL f hlt;rw[he]at this;simp at this;refine⟨⟨H f,h⟩,by omega,λfn' hf'=>?_⟩;simp_all
def WB:TFn:=⟨0,[],0,.skip,[]⟩
theorem V2{o:y_}(h:o.isSome=true):o=some (o.getD WB):=by cases o with|none=>simp at h|some x=>rfl
def WA(P:Program)(f:FuncId):List x_:=match P.funcs[f]? with
 |some fn=>fn.params.toList.map λt=>match P.underlying t with|some (.pointer e)=>ER P e|_=>none
 |none=>[]
def noB:iE:=λ_ _ _=>none
theorem noB_ok{P:Program}:nF P noB:=λf vals pts res Zu h=>by simp[noB]at h
abbrev I64:CT:=.int .i64
def w64(x:Int):Int:=IntKind.wrap .i64 x
def wk(k:IntKind)(x:Int):Int:=IntKind.wrap k x
def BB(s:ByteArray):Int:=(s.size:Int)
def SA(s:ByteArray):Bool:=decide (s.size<4294967296)
def bytes(l:N_):ByteArray:=⟨(l.map UInt8.ofNat).toArray⟩
end Go.Proofs.YtabfnmgabblofaaGreat
namespace Go.Proofs.YtabfnmgabblofaaGreat
open Go.RowKit
set_option maxRecDepth 100000
noncomputable section
abbrev KCe:CT:=(.pair (.int .u8) (.int .u16))
abbrev KCn:CT:=(.pair (.int .u8) (.pair (.int .u16) (.pair I64 I64)))
abbrev KIn:CT:=(.pair I64 (.pair I64 (.pair I64 (.pair I64 I64))))
abbrev KOp:CT:=(.pair I64 (.pair I64 .bool))
abbrev Wy:CT:=(.pair I64 (.pair .bool (.row false KCe)))
abbrev nI:CT:=(.pair I64 (.pair (.row false KCe) (.pair I64 (.pair I64 (.pair I64 (.pair I64 (.pair I64 (.int .u16))))))))
abbrev WU:CT:=(.pair I64 (.pair I64 (.row false KCn)))
abbrev pW:CT:=(.pair I64 (.pair I64 (.pair I64 (.pair I64 (.pair I64 (.pair I64 (.pair (.int .u16) (.row false KCn))))))))
abbrev qJ:CT:=(.pair I64 (.pair I64 (.pair I64 (.pair I64 (.pair I64 (.pair I64 (.pair I64 (.pair I64 (.pair I64 (.pair (.row false KCn) (.pair (.row false KCn) (.pair (.int .u8) (.pair (.int .u16) (.pair I64 (.pair I64 (.pair (.row false KCn) (.pair I64 .bool)))))))))))))))))
abbrev Sr:CT:=(.pair I64 (.pair .bool (.row true KCe)))
abbrev Sq:CT:=(.pair I64 (.pair (.row true KCe) (.pair I64 (.pair I64 (.pair I64 (.pair I64 (.pair I64 (.int .u16))))))))
abbrev Jy:CT:=(.pair I64 (.pair I64 (.row true KCn)))
abbrev L3:CT:=(.pair I64 (.pair I64 (.pair I64 (.pair I64 (.pair I64 (.pair I64 (.pair (.int .u16) (.row true KCn))))))))
abbrev Qe:CT:=(.pair I64 (.pair I64 (.pair I64 (.pair I64 (.pair I64 (.pair I64 (.pair I64 (.pair I64 (.pair I64 (.pair (.row true KCn) (.pair (.row true KCn) (.pair (.int .u8) (.pair (.int .u16) (.pair I64 (.pair I64 (.pair (.row true KCn) (.pair I64 .bool)))))))))))))))))
abbrev gS:CT:=(.row false KIn)
abbrev gk:CT:=(.row false KCn)
abbrev RW:CT:=(.row false (.int .u16))
abbrev RI:CT:=(.row false I64)
abbrev ig:CT:=(.row false KCe)
abbrev i8:CT:=(.row false Wy)
abbrev iB:CT:=(.row true Sr)
abbrev oQ:CT:=(.row false nI)
abbrev qD:CT:=(.row true Sq)
abbrev jm:CT:=(.row false KOp)
abbrev lp:CT:=(.row false WU)
abbrev UB:CT:=(.row false qJ)
abbrev DCe:Type:=(Int×Int)
abbrev DCn:Type:=(Int×Int×Int×Int)
abbrev DIn:Type:=(Int×Int×Int×Int×Int)
abbrev DOp:Type:=(Int×Int×Bool)
abbrev C_:=List DCe
abbrev DLn:Type:=(Int×Bool×C_)
abbrev DTh:Type:=(Int×C_×Int×Int×Int×Int×Int×Int)
abbrev D_:=List DCn
abbrev DOu:Type:=(Int×Int×D_)
abbrev DTs:Type:=(Int×Int×Int×Int×Int×Int×Int×D_)
abbrev DEn:Type:=(Int×Int×Int×Int×Int×Int×Int×Int×Int×D_×D_×Int×Int×Int×Int×D_×Int×Bool)
def HH(f i:Nat):a_:=if f=136 then(if i=1000011 then[(11,some 27)]else if i=1000005 then[(2,some 27)]else[])else if f=183 then(if i=1000006 then[(8,some 1)]else if i=1000014 then[(8,some 1)]else[])else if f=44 then(if i=5000001 then[(4004,none)]else[])else if f=68 then(if i=4000002 then[(3,some 1002)]else if i=4000007 then[(3,some 1003)]else[])else if f=137 then(if i=1000000 then[(8,some 1)]else[])else if f=106 then(if i=1000007 then[(17,some 1)]else[])else if f=4 then(if i=1 then[(10,some 1),(11,some 1)]else[])else if f=23 then(if i=4000002 then[(5,some 2004)]else if i=4000005 then[(5,some 2004)]else if i=0 then[(8,some 801004)]else[])else if f=122 then(if i=0 then[(8,none)]else[])else if f=92 then(if i=2 then[(3,some 1)]else if i=3 then[(3,some 0)]else[])else if f=129 then(if i=0 then[(8,some 0),(8,some 1),(8,some 2),(8,some 3),(8,some 4)]else[])else if f=38 then(if i=0 then[(4,some 0),(4,some 2),(4,some 3)]else[])else if f=93 then(if i=1000006 then[(5,some 1)]else if i=0 then[(6,some 0),(6,some 1),(6,some 2),(6,some 3),(6,some 5),(6,some 6)]else[])else if f=152 then(if i=2000067 then[(2,none),(4,none),(8,none),(11,none),(12,none),(0,some 10),(0,some 18),(0,some 24)]else if i=0 then[(8,some 0)]else[])else if f=134 then(if i=1000026 then[(2,some 1),(3,some 1)]else if i=1000012 then[(7,none)]else if i=0 then[(8,some 0)]else[])else if f=96 then(if i=6000000 then[(0,none)]else if i=1000011 then[(5,none)]else if i=1000014 then[(7,none)]else[])else if f=156 then(if i=3000008 then[(9,some 0),(9,some 1)]else if i=0 then[(6,some 0),(6,some 1)]else[])else if f=172 then(if i=0 then[(4,some 0),(4,some 1),(4,some 2),(4,some 3),(4,some 4),(4,some 5),(5,some 4)]else[])else if f=157 then(if i=0 then[(0,some 14),(0,some 15),(4,some 4)]else[])else if f=158 then(if i=4000002 then[(5,some 2004)]else if i=4000005 then[(5,some 2004)]else if i=0 then[(8,some 801004)]else if i=1000007 then[(17,none)]else[])else if f=159 then(if i=1000002 then[(9,none)]else[])else if f=160 then(if i=1000004 then[(4,some 2)]else if i=3 then[(6,some 0),(6,some 1)]else[])else if f=57 then(if i=1000006 then[(3,some 7)]else if i=4000009 then[(4,some 2007)]else if i=3000003 then[(4,some 801007)]else if i=1 then[(4,some 0),(4,some 1),(4,some 2),(4,some 3),(4,some 5),(4,some 6),(4,some 8),(4,some 9),(4,some 10),(4,some 11),(4,some 12),(4,some 13),(4,some 14),(4,some 15)]else[])else if f=13 then(if i=0 then[(6,some 0)]else[])else if f=24 then(if i=1000004 then[(3,some 7)]else if i=1000002 then[(3,some 1)]else if i=1000026 then[(4,some 1)]else if i=0 then[(3,some 801004),(3,some 2),(3,some 3)]else[])else if f=16 then(if i=1000012 then[(6,some 14),(13,some 1001011)]else if i=0 then[(8,some 4)]else if i=1000006 then[(11,none)]else[])else if f=22 then(if i=0 then[(8,some 4)]else if i=1000007 then[(11,none)]else[])else[]
noncomputable def TT (f:FuncId):y_:=zD Tryz.prog (HH f) f
noncomputable def E0:Env:={ box:=λf=>if f=8 then some (1,[.arg 0,.val (.int .i64 0)])else none,ps:=λf=>WA Tryz.prog f }
theorem tt_ok:Qb Tryz.prog TT:=S6 HH (by kernel_rfl)
abbrev qE:Shs:=⟨[],[],[],([],[])⟩
abbrev qS(s:List (Nat×Sh))(c:List (Nat×T_)):Shs:=⟨s,c,[],([],[])⟩
abbrev N1:CT:=.nilr true
abbrev N0:CT:=.nilr false
abbrev CW:CT:=.int .u16
abbrev CB:CT:=.int .u8
abbrev uL(l:R_):T_:=l.map fun c=>.d c ()
abbrev pP(t r:Nat):Nat×Sh:=(t,.ptr ⟨r,0,[]⟩ [0])
abbrev sP(t:Nat)(c:CT):Nat×Sh:=(t,.d c ())
abbrev Lk(n:Nat)(c:Ctr):Prop:=Lvl E0 TT noB n c
theorem aN{m:Nat}:L4 E0 TT noB m []:=trivial
theorem aC{n m:Nat}{c:Ctr}{l:B_}(h:Lk n c)(r:L4 E0 TT noB m l)(hm:n≤m:=by decide):L4 E0 TT noB m (c::l):=⟨h.mono hm,r⟩
abbrev lx(i n:Nat)(s:List (Nat×Sh))(c:List (Nat×T_))(b:Nat):Jx:=⟨i,n,⟨s,c,[],([],[])⟩,[(.exit 0,⟨s++[(b,.d .bool ())],c,[],([],[])⟩)]⟩
abbrev LI:Type:=M_
abbrev j_:=List M_
abbrev LLI:Type:=j_
abbrev LDCe:Type:=C_
abbrev LDCn:Type:=D_
abbrev F_:=List DIn
abbrev LDIn:Type:=F_
abbrev H_:=List DOp
abbrev LDOp:Type:=H_
abbrev G_:=List DLn
abbrev LDLn:Type:=G_
abbrev J_:=List DTh
abbrev LDTh:Type:=J_
abbrev I_:=List DOu
abbrev LDOu:Type:=I_
abbrev K_:=List DTs
abbrev LDTs:Type:=K_
abbrev E_:=List DEn
abbrev LDEn:Type:=E_
abbrev i_:=List D_
abbrev LLCn:Type:=i_
abbrev T00:=Bool×LI×Unit
abbrev T01:=Int×Bool×Unit
abbrev T02:=Int×Int×Unit
abbrev T03:=Int×LDCn×Unit
abbrev T04:=Int×LI×Unit
abbrev T05:=Int×LLCn×Unit
abbrev T06:=LDCe×LDLn×Unit
abbrev T07:=LDOp×LDCn×Unit
abbrev T08:=LI×Int×Unit
abbrev T09:=LI×LLI×Unit
abbrev T0a:=LLCn×LDOp×Unit
abbrev T0b:=LLCn×LDTs×Unit
abbrev T0c:=Unit×Unit×Unit
abbrev T0d:=Bool×T02
abbrev T0e:=Bool×T06
abbrev T0f:=Int×T01
abbrev T0g:=Int×T02
abbrev T0h:=Int×T05
abbrev T0i:=Int×T06
abbrev T0j:=Int×T08
abbrev T0k:=Int×T0c
abbrev T0l:=LDCe×T02
abbrev T0m:=LDCe×LDLn×Nat×Unit
abbrev T0n:=LDCn×T02
abbrev T0o:=LDIn×T09
abbrev T0p:=LDTh×T02
abbrev T0q:=LI×T02
abbrev T0r:=LI×T04
abbrev T0s:=LI×LLI×LI×Unit
abbrev T0t:=Unit×T0c
abbrev T0u:=Bool×Bool×Bool×Bool×Unit
abbrev T0v:=Int×T0d
abbrev T0w:=Int×T0e
abbrev T0x:=Int×Bool×T08
abbrev T0y:=Int×Int×Bool×LLCn×Unit
abbrev T0z:=Int×T0g
abbrev T0A:=Int×T0i
abbrev T0B:=Int×T0j
abbrev T0C:=Int×Int×T0a
abbrev T0D:=Int×T0r
abbrev T0E:=LDCe×T0f
abbrev T0F:=LDCn×T0f
abbrev T0G:=LDCn×T0n
abbrev T0H:=LDTh×Int×T04
abbrev T0I:=LI×T0f
abbrev T0J:=LI×T0g
abbrev T0K:=LI×T0q
abbrev T0L:=LLCn×LDTs×T0b
abbrev T0M:=Unit×T0j
abbrev T0N:=Unit×Unit×T06
abbrev T0O:=Unit×Unit×T09
abbrev T0P:=Unit×Unit×T0a
abbrev T0Q:=Unit×Unit×Unit×LDOp×Unit
abbrev T0R:=Bool×T0z
abbrev T0S:=Bool×T0P
abbrev T0T:=Int×T0x
abbrev T0U:=Int×Int×Bool×T0a
abbrev T0V:=Int×T0z
abbrev T0W:=Int×Int×T0o
abbrev T0X:=Int×T0P
abbrev T0Y:=LDCe×LDLn×LI×T05
abbrev T0Z:=LDIn×LI×LLI×T0b
abbrev T10:=LDLn×T0A
abbrev T11:=LI×T0B
abbrev T12:=LI×Int×LDCe×LDLn×LDTh×Unit
abbrev T13:=LLCn×T0C
abbrev T14:=Unit×Int×T0t
abbrev T15:=Unit×Unit×T0m
abbrev T16:=Unit×Unit×T0s
abbrev T17:=Unit×Unit×LLCn×T07
abbrev T18:=Bool×T12
abbrev T19:=Bool×T14
abbrev T1a:=Int×Bool×T0O
abbrev T1b:=Int×Int×Bool×T0o
abbrev T1c:=Int×T0V
abbrev T1d:=Int×Int×T0B
abbrev T1e:=Int×Int×T0L
abbrev T1f:=Int×Int×T0O
abbrev T1g:=Int×T0X
abbrev T1h:=Int×T12
abbrev T1i:=LDCe×LDLn×LI×Int×LLCn×LDCn×Unit
abbrev T1j:=LDCe×LDLn×T0N
abbrev T1k:=LDIn×T0W
abbrev T1l:=LDLn×Int×T0w
abbrev T1m:=LI×T0T
abbrev T1n:=LI×Int×LDCe×LDLn×LDTh×Bool×Unit
abbrev T1o:=LI×T11
abbrev T1p:=LI×LI×LLI×LLCn×LDOp×LDOu×Unit
abbrev T1q:=LI×LLI×T0O
abbrev T1r:=LLCn×LDOp×T0P
abbrev T1s:=LLI×T0W
abbrev T1t:=Unit×Unit×LLCn×Nat×T07
abbrev T1u:=Int×Int×Bool×T0L
abbrev T1v:=Int×T1a
abbrev T1w:=Int×Int×T0S
abbrev T1x:=Int×T1c
abbrev T1y:=Int×Int×Int×Int×LDCn×T01
abbrev T1z:=Int×Int×Int×Int×Unit×T01
abbrev T1A:=Int×T1f
abbrev T1B:=Int×Int×LDCn×T0y
abbrev T1C:=Int×Int×LI×Int×Int×LLI×LDCn×Unit
abbrev T1D:=Int×T1h
abbrev T1E:=Int×Int×T15
abbrev T1F:=Int×Int×T16
abbrev T1G:=Int×T1k
abbrev T1H:=Int×LI×Int×T0v
abbrev T1I:=LDIn×T1b
abbrev T1J:=LDTs×T1e
abbrev T1K:=LI×Int×LDCe×LDLn×T0p
abbrev T1L:=LLI×T1b
abbrev T1M:=LLI×T1g
abbrev T1N:=LLI×Int×Int×T0Q
abbrev T1O:=Int×Int×Bool×T16
abbrev T1P:=Int×T1w
abbrev T1Q:=Int×Int×Int×Int×Int×Int×LDCn×LDCn×Unit
abbrev T1R:=Int×Int×Int×Int×Int×Int×LDCn×Unit×Unit
abbrev T1S:=Int×Int×Int×Int×Int×T0k
abbrev T1T:=Int×T1F
abbrev T1U:=Int×Int×T1p
abbrev T1V:=Int×Int×T1q
abbrev T1W:=Int×Int×T1r
abbrev T1X:=Int×LDCe×T1c
abbrev T1Y:=Int×T1I
abbrev T1Z:=LDTh×T1D
abbrev T20:=LDTs×T1u
abbrev T21:=LI×Int×Unit×Unit×Unit×T0o
abbrev T22:=LI×Int×Unit×Unit×T0O
abbrev T23:=LLCn×Int×Int×T0Z
abbrev T24:=Int×Int×Bool×T1p
abbrev T25:=Int×Int×Bool×T1q
abbrev T26:=Int×Int×Bool×T1r
abbrev T27:=Int×Int×T1x
abbrev T28:=Int×Int×Int×T1g
abbrev T29:=Int×Int×Int×Int×LDCn×T0x
abbrev T2a:=Int×T1W
abbrev T2b:=Int×LI×Int×Int×Bool×T0J
abbrev T2c:=Int×T21
abbrev T2d:=LDIn×LI×LLI×LI×Int×T0N
abbrev T2e:=LDLn×Int×Int×T1j
abbrev T2f:=LDOu×T1U
abbrev T2g:=LI×Int×Int×T1m
abbrev T2h:=LI×Int×LI×Int×Int×T0J
abbrev T2i:=LI×LI×Int×Int×T0Y
abbrev T2j:=LI×LLCn×Int×Int×LDCn×T0C
abbrev T2k:=LLCn×T1W
abbrev T2l:=LLI×T1U
abbrev T2m:=LLI×T1V
abbrev T2n:=Int×Bool×T21
abbrev T2o:=Int×Int×Int×Int×Int×Bool×Bool×Bool×T00
abbrev T2p:=Int×Int×Int×Int×Int×Int×Int×Int×T03
abbrev T2q:=Int×Int×T1Q
abbrev T2r:=Int×Int×T1X
abbrev T2s:=Int×T2c
abbrev T2t:=Int×Int×T22
abbrev T2u:=LI×Int×Int×Int×Int×Int×T0M
abbrev T2v:=LI×Int×Int×LI×T1d
abbrev T2w:=LLI×T25
abbrev T2x:=Unit×Int×Unit×Unit×Unit×T12
abbrev T2y:=Int×Int×T2d
abbrev T2z:=Int×Int×T2m
abbrev T2A:=Int×T2x
abbrev T2B:=LDCe×T2r
abbrev T2C:=LDCn×Nat×Int×Int×Int×T1t
abbrev T2D:=LI×Int×Bool×LI×T1x
abbrev T2E:=LI×Int×Int×LI×Int×Int×T0T
abbrev T2F:=LI×Int×Int×LI×Int×Int×T11
abbrev T2G:=LLI×Int×Int×LI×Int×Int×T17
abbrev T2H:=ByteArray×LDCn×T2q
abbrev T2I:=Int×Int×Bool×T2d
abbrev T2J:=Int×Int×T2o
abbrev T2K:=Int×Int×Int×Int×LDCn×Int×T19
abbrev T2L:=Int×Int×Int×Int×Nat×T1F
abbrev T2M:=LDIn×LI×LLI×LI×Int×LDCe×LDLn×LDTh×Unit×Unit×T0b
abbrev T2N:=LI×Int×Int×T2g
abbrev T2O:=LLI×T2y
abbrev T2P:=Int×Int×Bool×T2o
abbrev T2Q:=LDIn×LI×LLI×LI×Int×LLCn×LDTs×Unit×Int×Unit×Unit×Unit×LLCn×Unit
abbrev T2R:=LI×Int×LDCe×LDLn×LDTh×T1X
abbrev T2S:=LI×Int×LI×Int×Int×Int×Int×T1i
abbrev T2T:=Int×Int×LLI×Int×Int×LI×T1V
abbrev T2U:=Int×Int×Int×Int×Int×Int×LDCn×LDCn×T1y
abbrev T2V:=Int×Int×T2Q
abbrev T2W:=Int×Int×LDIn×LI×LLI×T2x
abbrev T2X:=LDTh×Int×Int×T2M
abbrev T2Y:=LI×Int×LDCe×LDLn×LDTh×T2x
abbrev T2Z:=Int×Int×Bool×T2Q
abbrev T30:=Int×LLI×Int×Int×LI×T2y
abbrev T31:=LDIn×LI×LLI×T2R
abbrev T32:=LI×Int×Int×Int×Int×Int×Unit×Int×Bool×T1y
abbrev T33:=Nat×LI×Int×LDCe×LDLn×LDTh×Int×Int×Int×Int×Int×Int×T0G
abbrev T34:=LDIn×LI×LLI×LI×Int×LLCn×LDTs×T2x
abbrev T35:=LDIn×LI×LLI×LI×Int×LLCn×LDTs×Unit×Int×Unit×Unit×Unit×LI×Int×LDCe×LDLn×Unit×Unit
abbrev T36:=Int×Int×LDCn×T2V
abbrev T37:=Int×Int×LI×Int×Int×Int×Int×Int×Int×Int×Int×Int×Int×Int×T0u
abbrev T38:=LDIn×LI×LLI×T2U
abbrev T39:=LDIn×LI×LLI×LI×Int×LDCe×LDLn×LDTh×LI×LI×LLI×LLCn×LDOp×LDOu×LI×LLI×LDEn×LI×Unit
abbrev T3a:=LDTh×Int×Int×T2Y
abbrev T3b:=LI×Int×Int×Int×Int×Int×Int×Int×Unit×Unit×T1Q
abbrev T3c:=LI×Int×Int×Int×Int×Int×Int×Int×Unit×Unit×T1R
abbrev T3d:=Unit×Unit×Unit×Unit×Int×Unit×Unit×Unit×Unit×Unit×Unit×Unit×Unit×Unit×Unit×T0t
abbrev T3e:=Int×Int×Int×Int×Int×Int×LDCn×LDCn×Int×Int×Int×Int×LDCn×Int×T0R
abbrev T3f:=Int×Int×T35
abbrev T3g:=LDIn×LI×LLI×LI×Int×LDCe×LDLn×LDTh×LI×LI×LLI×LLCn×LDOp×LDOu×LI×LLI×LDEn×LI×LI×Unit
abbrev T3h:=LDTh×Int×Int×Bool×T2Y
abbrev T3i:=Nat×Int×LI×Int×LDCe×LDLn×LDTh×LDIn×LI×LLI×T27
abbrev T3j:=Int×Bool×T39
abbrev T3k:=Int×ByteArray×Int×Int×T31
abbrev T3l:=Int×Int×Bool×T35
abbrev T3m:=LDTs×Int×Int×T34
abbrev T3n:=LLCn×T3f
abbrev T3o:=Int×Int×Int×T39
abbrev T3p:=LI×Int×Int×T3c
abbrev T3q:=Int×Int×Int×T3g
abbrev T3r:=LDIn×LI×LLI×T3e
abbrev T3s:=LI×Int×LDCe×LDLn×T38
abbrev T3t:=Int×LLCn×Int×Int×LDCn×T3f
abbrev T3u:=Bool×Bool×LI×Int×LDCe×LDLn×LDTh×T38
abbrev T3v:=LDCn×Int×Int×T3s
abbrev T3w:=LDIn×LI×LLI×LI×Int×LDCe×LDLn×LDTh×LI×LI×LLI×LLCn×LDOp×LDOu×LI×LLI×LDEn×LI×T1z
abbrev T3x:=LI×Int×LDCe×LDLn×LDTh×LDIn×LI×LLI×Int×Int×Int×Int×Int×Int×LDCn×LDCn×Int×Int×Int×Int×LDCn×T0v
abbrev T3y:=Nat×Bool×LI×Int×LDCe×LDLn×LDTh×T3e
abbrev T3z:=Nat×T3x
abbrev T3A:=Unit×Unit×Unit×Unit×Unit×Unit×Int×Int×Int×Int×Unit×Int×Bool×LI×LI×LLI×LLCn×LDOp×LDOu×T1y
abbrev T3B:=Unit×Unit×Unit×Unit×Unit×Unit×Int×Int×Int×Int×Unit×Int×Bool×LI×LI×LLI×LLCn×LDOp×LDOu×T1z
abbrev T3C:=Int×Int×T3w
abbrev T3D:=LI×Int×LDCe×LDLn×LDTh×T3r
abbrev T3E:=LDIn×LI×LLI×LI×Int×LDCe×LDLn×LDTh×Unit×Unit×LLCn×LDTs×Int×LDCe×Int×Int×Int×Int×T2p
abbrev T3F:=Nat×LDCn×Int×Int×T3D
abbrev T3G:=LI×Int×Unit×Unit×Unit×Unit×Int×Unit×Unit×Unit×LDIn×LI×LLI×LI×Int×LDCe×LDLn×LI×LI×LLI×LLCn×LDOp×LDOu×LI×LLI×LDEn×LI×T12
abbrev T3H:=Nat×LDCn×Int×Int×Bool×T3D
abbrev T3I:=LDIn×LI×LLI×LI×Int×LLCn×LDTs×Unit×Int×Unit×Unit×Unit×LI×Int×LDCe×LDLn×LDTh×Int×Int×Int×Int×Int×Int×Int×LDCn×T1X
abbrev T3J:=LDTh×Int×Int×LDCe×Int×Int×T3E
abbrev T3K:=LI×Int×Unit×Unit×Unit×Unit×Int×Unit×Unit×Unit×LDIn×LI×LLI×LI×Int×LDCe×LDLn×LI×LI×LLI×LLCn×LDOp×LDOu×LI×LLI×LDEn×LI×LI×Int×LDCe×LDLn×LDTh×T0b
abbrev T3L:=LI×LI×LLI×LLCn×LDOp×LDOu×Int×Int×Int×Int×Int×Int×LDCn×LDCn×Unit×Unit×Unit×Unit×Unit×Unit×Int×Int×Int×Int×Unit×Int×Bool×LI×LI×LLI×LLCn×LDOp×LDOu×LI×Unit
abbrev T3M:=Int×Bool×LDIn×LI×LLI×LI×Int×LDCe×LDLn×LDTh×LI×LI×LLI×LLCn×LDOp×LDOu×LI×LLI×LDEn×LI×Int×Int×Int×Int×Int×Int×LDCn×LDCn×T1z
abbrev T3N:=Int×Int×T3K
abbrev T3O:=Unit×Unit×Unit×Unit×Int×Unit×Unit×Unit×Unit×Unit×Unit×Unit×Unit×Unit×Unit×Unit×Unit×Unit×T39
abbrev T3P:=Unit×Unit×Unit×Unit×Int×Unit×Unit×Unit×Unit×Unit×Unit×Unit×Unit×Unit×Unit×Unit×Unit×Unit×LDIn×LI×LLI×LI×Int×LDCe×LDLn×LDTh×LI×LI×LLI×LLCn×LDOp×LDOu×LI×LLI×Unit×LI×Unit
abbrev T3Q:=Int×Int×Bool×T3K
abbrev T3R:=Int×T3O
abbrev T3S:=Int×T3P
abbrev T3T:=LDCn×Int×Int×T3L
abbrev T3U:=LDIn×LI×LLI×Unit×Int×Unit×Unit×Unit×Int×Int×Int×Int×Int×Int×Unit×Unit×LI×Int×LDCe×LDLn×LDTh×Int×LDCe×Int×Int×Int×Int×T2q
abbrev T3V:=LDIn×LI×LLI×Unit×Int×Unit×Unit×Unit×Int×Int×Int×Int×Int×Int×Unit×Unit×LI×Int×LDCe×LDLn×LDTh×Int×LDCe×Int×Int×Int×Int×Int×Int×T1R
abbrev T3W:=Bool×T3V
abbrev T3X:=Int×T3R
abbrev T3Y:=LI×T3R
abbrev T3Z:=Int×Int×Int×T3N
abbrev T40:=Int×Int×T3U
abbrev T41:=Int×Int×T3V
abbrev T42:=Int×T3Y
abbrev T43:=LDIn×LI×LLI×Int×Int×Int×Int×Int×Int×LDCn×LDCn×Int×Int×Int×Int×LDCn×Int×Bool×LI×Int×LDCe×LDLn×LDTh×Int×LDCe×Int×Int×Int×Int×T2r
abbrev T44:=LDTs×Int×Int×LDCn×Int×Int×T3I
abbrev T45:=Int×Int×Bool×T3U
abbrev T46:=Int×T43
abbrev T47:=LI×Int×Unit×Unit×Unit×Unit×Int×Unit×Unit×Unit×Int×Int×Int×Int×Int×Int×Unit×Unit×Int×Int×Int×Int×Unit×Int×Bool×LDIn×LI×LLI×LI×Int×LDCe×LDLn×LDTh×T1Q
abbrev T48:=Int×T47
abbrev T49:=LI×Int×Unit×Unit×Unit×Unit×Int×Unit×Unit×Unit×Int×Int×Int×Int×Int×Int×Unit×Unit×Int×Int×Int×Int×Unit×Int×Bool×LDIn×LI×LLI×LI×Int×LDCe×LDLn×LDTh×T2U
abbrev T4a:=Int×Int×T49
abbrev T4b:=Int×Bool×LI×Int×Unit×Unit×Unit×Unit×Int×Unit×Unit×Unit×Unit×Unit×Unit×Unit×Unit×Unit×Unit×Unit×Unit×Unit×LDIn×LI×LLI×LI×Int×LDCe×LDLn×LDTh×LI×LI×LLI×LLCn×LDOp×LDOu×LI×LLI×LDEn×LI×T39
abbrev T4c:=Int×Bool×LI×Int×Unit×Unit×Unit×Unit×Int×Unit×Unit×Unit×Unit×Unit×Unit×Unit×Unit×Unit×Unit×Unit×Unit×Unit×LDIn×LI×LLI×LI×Int×LDCe×LDLn×LDTh×LI×LI×LLI×LLCn×LDOp×LDOu×LI×LLI×LDEn×LI×T3d
noncomputable abbrev ap1{A0 D R:Type}(f:A0→R)(h:A0×D):R:=f h.1
noncomputable abbrev ap2{A0 A1 D R:Type}(f:A0→A1→R)(h:A0×A1×D):R:=f h.1 h.2.1
noncomputable abbrev ap3{A0 A1 A2 D R:Type}(f:A0→A1→A2→R)(h:A0×A1×A2×D):R:=f h.1 h.2.1 h.2.2.1
noncomputable abbrev ap4{A0 A1 A2 A3 D R:Type}(f:A0→A1→A2→A3→R)(h:A0×A1×A2×A3×D):R:=f h.1 h.2.1 h.2.2.1 h.2.2.2.1
noncomputable abbrev ap5{A0 A1 A2 A3 A4 D R:Type}(f:A0→A1→A2→A3→A4→R)(h:A0×A1×A2×A3×A4×D):R:=f h.1 h.2.1 h.2.2.1 h.2.2.2.1 h.2.2.2.2.1
noncomputable abbrev ap6{A0 A1 A2 A3 A4 A5 D R:Type}(f:A0→A1→A2→A3→A4→A5→R)(h:A0×A1×A2×A3×A4×A5×D):R:=f h.1 h.2.1 h.2.2.1 h.2.2.2.1 h.2.2.2.2.1 h.2.2.2.2.2.1
noncomputable abbrev as1{A X H R:Type}(g:X->H->R)(f:A->X)(h:A×H):R:=g (f h.1) h.2
noncomputable abbrev as2{A B X H R:Type}(g:X->H->R):(A->B->X)->A×B×H->R:=as1 (as1 g)
noncomputable abbrev as4{A B C D X H R:Type}(g:X->H->R):(A->B->C->D->X)->A×B×C×D×H->R:=as2 (as2 g)
noncomputable abbrev as8{A B C D E F G I X H R:Type}(g:X->H->R):(A->B->C->D->E->F->G->I->X)->A×B×C×D×E×F×G×I×H->R:=as4 (as4 g)
theorem ls{n:Nat}(C:X.Cfg)(hT:L4 E0 TT noB n C.TB){c:Ctr}(hE:C.E=E0:=by rfl)(h1:(TT c.f).isSome=true:=by kernel_rfl)(hg:∀h,X.runT fY C () ((TT c.f).getD WB) c.outs (lS c.ins _ h).1 (ya c.pts [] (lS c.ins _ h).2).1=c.g h:=by intro h;kernel_rfl):Lk (n+1) c:=VV (n:=n) (C:=C) hE hT (V2 h1) hg
abbrev Uaa(t:Nat):Nat×Sh:=sP t I64
abbrev Xaa(t:Nat):Nat×Sh:=sP t .bool
abbrev Zaa(t r:Nat):Nat×Sh:=(t,.pk ⟨r,0,[]⟩ [0,0])
abbrev uaa(t:CT):CT:=.row true t
abbrev yaa(t:CT):CT:=.row false t
abbrev zaa(t:Nat):Nat×Sh:=pP t (2*t+2)
abbrev uab:T_:=uL [RI,I64]
abbrev yab:T_:=uL [gS,RI,(yaa RW)]
abbrev zab:T_:=uL [.bool]
abbrev Uab:T_:=uL [RI,CW]
abbrev Xab:T_:=uL [CB,CW]
abbrev Zab:T_:=uL [N1,CW,N1,N1,N1]
abbrev uac:T_:=uL [N1,N1]
abbrev yac:T_:=uL [I64]
abbrev zac:T_:=uL [I64,I64,I64,I64,I64,I64,gk,gk]
abbrev Uac:T_:=uL [(yaa gk),(yaa pW)]
abbrev Xac:T_:=uL [RI,CW,ig,i8,oQ]
abbrev Zac:T_:=uL [RI,CW,(uaa KCe),iB,qD]
abbrev uad:T_:=uL [I64,I64]
abbrev yad:T_:=uL [N1,N1,N1]
abbrev zad:T_:=uL [(uaa KCe),iB]
abbrev Uad:T_:=uL [CB,CW,I64,I64,N1,I64,.bool]
abbrev Xad:T_:=uL [gS,RI,(yaa RW),RI,CW,(uaa KCe),iB,(uaa nI),RW,RW,(yaa RW),(yaa gk),jm,lp,RI,(yaa RI),(uaa qJ),(uaa I64)]
abbrev Zad:T_:=uL [CB,CW,I64,I64,gk,I64,.bool]
abbrev uae:T_:=uL [(yaa gk),jm]
abbrev yae:T_:=uL [I64,I64,I64,I64,I64,I64,N1,N1]
abbrev zae:T_:=uL [I64,I64,I64,I64,I64]
abbrev Uae:T_:=uL [N1,N1,N1,N1,CW,N1,N1,N1,N1,N1,N1,N1,N1,N1,N1,N1,N1,N1]
abbrev Xae:T_:=uL [I64,ig,I64,I64,I64,I64,I64,CW]
abbrev Zae:T_:=uL [(uaa I64)]
abbrev uaf:T_:=uL [(uaa I64),(uaa (uaa I64))]
abbrev yaf:T_:=uL [ig,i8]
abbrev zaf:T_:=uL [(uaa (uaa KCn)),(uaa KOp)]
abbrev Uaf:T_:=uL [RI,(yaa RI)]
abbrev Xaf:T_:=uL [RI,CW,ig,i8,(uaa nI)]
abbrev Zaf:T_:=uL [I64,(uaa KCe),I64,I64,I64,I64,I64,CW]
abbrev uag:T_:=uL [(uaa (uaa KCn)),(uaa L3)]
abbrev yag:T_:=uL [CB,CW,I64,I64]
abbrev zag:T_:=uL [I64,I64,I64,I64,I64,I64,(uaa KCn),(uaa KCn)]
abbrev Uag:T_:=uL [(uaa gk)]
abbrev Xag:T_:=uL [.bool,.bool,.bool,.bool]
abbrev Zag:T_:=uL [(uaa KCn)]
abbrev uah:T_:=uL [RW,RW,(yaa RW),(yaa gk),jm,lp]
abbrev yah:T_:=uL [RI,CW,(uaa KCe),iB,(uaa nI)]
abbrev zah:T_:=uL [CB,CW,I64,I64,(uaa KCn),I64,.bool]
abbrev Uah:T_:=uL [N1,N1,N1,N1,N1,N1]
abbrev Xah:T_:=uL [(uaa I64),CW,(uaa KCe),iB,qD]
abbrev Zah:T_:=uL [gS,RI,(yaa RW),RI,CW,ig,i8,oQ,RW,RW,(yaa RW),(yaa gk),jm,lp,RI,(yaa RI),UB,RI]
abbrev uai:T_:=uL [(uaa I64),CW,(uaa KCe),iB]
abbrev yai:T_:=uL [CB,CW,I64]
abbrev zai:T_:=uL [I64,I64,I64,I64,I64,I64,(uaa KCn),N1]
abbrev Uai:T_:=uL [gS,RI,(yaa RW),RI,CW,ig,i8,(uaa nI),RW,RW,(yaa RW),(yaa gk),jm,lp,RI,(yaa RI),(uaa qJ),(uaa I64)]
abbrev Xai:T_:=uL [(uaa KIn),RI,(uaa (uaa CW))]
abbrev Zai:T_:=uL [gS,RI,(uaa (uaa CW))]
abbrev uaj:T_:=uL [I64,I64,.bool]
abbrev yaj:T_:=uL [(uaa (uaa CW))]
abbrev zaj:T_:=uL [(uaa (uaa KCn))]
abbrev Uaj:T_:=uL [RI,CW,(uaa KCe),iB,N1]
abbrev Xaj:T_:=uL [(uaa I64),CW]
abbrev Zaj:T_:=uL [(uaa Jy)]
abbrev uak:T_:=uL [(uaa CW),(uaa CW),(uaa (uaa CW)),(uaa (uaa KCn)),(uaa KOp),(uaa Jy)]
abbrev yak:T_:=uL [I64,I64,I64]
abbrev zak:T_:=uL [I64,I64,I64,I64,I64,I64,CW,gk]
abbrev Uak:T_:=uL [(uaa (uaa KCn)),(uaa KOp),I64]
abbrev Xak:T_:=uL [RI,CW,ig,i8,qD]
abbrev Zak:T_:=uL [gS,RI,(yaa RW),RI,CW,ig,i8,oQ,RW,RW,(yaa RW),(yaa gk),jm,lp,RI,(yaa RI),(uaa qJ),(uaa I64)]
abbrev ual:T_:=uL [RI,CW,(uaa KCe),iB,qD,.bool]
abbrev yal:T_:=uL [(uaa (uaa KCn)),(uaa KOp),.bool]
abbrev zal:T_:=uL [RI,CW,(uaa KCe),iB,(uaa nI),.bool]
abbrev Ual:T_:=uL [gS,RI,(yaa RW),RI,CW,(uaa KCe),iB,(uaa nI),RW,RW,(yaa RW),(yaa gk),jm,lp,RI,(yaa RI),(uaa qJ)]
abbrev Xal:T_:=uL [I64,I64,I64,I64,I64,I64,CW,(uaa KCn)]
abbrev QA:=List (Nat×Sh)
abbrev QB:=List (Nat×T_)
abbrev QC:=T_
abbrev zl(l:N_):QA:=l.map zaa
abbrev il(l:N_):QA:=l.map Uaa
abbrev Zal:QC:=[shU gS,shU RI,shU (yaa RW),shU RI,shU CW,shU ig,shU i8,.dead,shU RW,shU RW,shU (yaa RW),shU (yaa gk),shU jm,shU lp,shU RI,shU (yaa RI),shU (uaa qJ),shU (uaa I64)]
abbrev uam:QC:=[.gap (uaa KCn) () () 0,shU (uaa KOp)]
abbrev yam:QB:=[(4,yab)]
abbrev zam:QB:=[(6,Uab)]
abbrev Uam:QB:=[(2,uab),(6,yad),(8,Zab),(10,Zal),(12,Xaf),(14,uag)]
abbrev Xam:QB:=[(4,yaf)]
abbrev Zam:QB:=[(4,Zac)]
abbrev uan:QB:=[(14,uac),(18,zaf)]
abbrev yan:QB:=[(12,Uab),(18,Xab),(20,Xab),(22,Xab)]
abbrev zan:QB:=[(8,Uaf),(14,uac),(18,uaf)]
abbrev Uan:QB:=[(10,uad)]
abbrev Xan:QB:=[(19,Uag)]
abbrev Zan:QB:=[(6,Uac),(8,Uac)]
abbrev uao:QB:=[(2,uab),(6,yad),(8,Xai)]
abbrev yao:QB:=[(6,yab),(8,Uab),(10,uac),(14,zad)]
abbrev zao:QB:=[(8,yab),(10,Uab),(12,Uac),(14,Zab),(77,Uag)]
abbrev Uao:QB:=[(8,yab),(10,Uab),(12,Uac),(14,Zab),(26,Uaj)]
abbrev Xao:QB:=[(2,uab),(6,yad),(8,Zab),(10,yae),(12,Uad),(14,yab),(16,Xaf),(18,zag),(22,zah)]
abbrev Zao:QB:=[(2,uab),(14,zae),(16,zae),(18,Xag)]
abbrev uap:QB:=[(2,uab),(6,yad),(8,Zai)]
abbrev yap:QB:=[(4,zae),(8,Xag),(49,Zae)]
abbrev zap:QB:=[(8,Uab),(14,uad)]
abbrev Uap:QB:=[(10,yab),(18,Zab),(20,yae),(24,yah),(30,Xae),(32,zai)]
abbrev Xap:QB:=[(10,yab),(18,Zab),(20,yae),(24,yah),(30,Xae),(32,zag)]
abbrev Zap:QB:=[(2,Xad),(10,Uad)]
abbrev uaq:QB:=[(4,Zac),(10,yab),(14,zac),(16,Zad),(22,Xab),(26,uad)]
abbrev yaq:QB:=[(10,uac),(14,uaf),(21,Zae)]
abbrev zaq:QB:=[(6,yab),(8,Uac)]
abbrev Uaq:QB:=[(6,uac),(10,zaf),(19,Zag)]
abbrev Xaq:QB:=[(8,yab),(10,Xac),(16,Xae)]
abbrev Zaq:QB:=[(14,uac),(20,uam),(27,Zag)]
abbrev uar:QB:=[(2,Xad),(8,zac),(10,Uad)]
abbrev yar:QB:=[(4,Zac),(10,yab),(14,zac),(16,Zad),(22,Xab)]
abbrev zar:QB:=[(10,uac),(14,Uaf),(27,Zae)]
abbrev Uar:QB:=[(2,uab),(6,Uae),(10,Uai),(16,Uae)]
abbrev Xar:QB:=[(2,uab),(6,Uae),(10,Zah),(16,Uae)]
abbrev Zar:QB:=[(2,uab),(6,Uae),(10,Zah),(16,Xad)]
abbrev uas:QB:=[(2,uab),(6,Uae),(10,Uai)]
abbrev yas:QB:=[(8,yaf),(10,Uab),(17,zaj),(23,Zag)]
abbrev zas:QB:=[(6,yab),(8,Xac),(10,uac),(12,uag),(16,Xae),(18,Xal)]
abbrev Uas:QB:=[(8,yab),(10,Uab),(12,Uac),(14,Zab),(26,Zac),(38,zak),(40,Zaf)]
abbrev Xas:QB:=[(8,yab),(10,Uab),(12,Uac),(14,Zab),(26,Zac)]
abbrev Zas:QB:=[(2,uab),(6,yae),(8,zai)]
abbrev uat:QB:=[(2,uab),(6,yae),(8,zag)]
abbrev yat:QB:=[(4,uai),(10,yab),(14,zac),(16,Zad)]
abbrev zat:QA:=[Xaa 2]
abbrev Uat:QA:=[Xaa 4]
abbrev Xat:QA:=[Uaa 2]
abbrev Zat:QA:=zl [0,2,4]++[Uaa 6,zaa 7,Xaa 37]
abbrev uau:QA:=zl [0,2,3]
abbrev yau:QA:=zl [4,5,7,11]
abbrev zau:QA:=[zaa 1,Xaa 8]
abbrev Uau:QA:=[zaa 6,Xaa 7]
abbrev Xau:QA:=zaa 0::il [1,2]++zl [6,7,8]
abbrev Zau:QA:=[zaa 4,Uaa 5]
abbrev uav:QA:=[zaa 6,Uaa 7]
abbrev yav:QA:=zl [0,2,4]++[Uaa 6]
abbrev zav:QA:=zl [0,2,3]++[Uaa 6]
abbrev Uav:QA:=zl [0,2,3]++il [101,102]
abbrev Xav:QA:=sP 0 RI::sP 5 RI::il [6,7]
abbrev Zav:QA:=sP 0 RI::sP 5 RI::il [6,7]++[Xaa 8]
abbrev uaw:QA:=Zaa 3 9::sP 6 oQ::il [7,8]
abbrev yaw:QA:=sP 1 RI::Uaa 2::zl [5,8,9,10]++[Xaa 109]
abbrev zaw:QA:=zl [4,8,9,11,14,15]++il [109,110]++[Xaa 111]
abbrev Uaw:QA:=sP 2 gk::zl [6,9]++(10,.ptr ⟨20,1,[((),(3,0))]⟩ [0,0])::Uaa 11::Zaa 12 27::il [57,58]
abbrev Xaw:QA:=il [1,2]++zl [6,8]++il [9,62,63]
abbrev Zaw:QA:=zl [1,4,6,7]++(9,.ptr ⟨4,4,[((),(8,0))]⟩ [0,0])::zl [10,12]++sP 80 gk::il [81,82]++[Xaa 83]
abbrev uax:QA:=Uaa 1::zl [4,6]++Uaa 7::Zaa 9 21::(20,.pk ⟨14,1,[]⟩ [0,0])::il [21,22]++(27,.pk ⟨14,1,[((),(1,0))]⟩ [0,0,0])::il [28,29]
abbrev yax:QA:=zaa 0::Uaa 1::(36,.pk ⟨2,17,[]⟩ [0,0])::il [37,38]
abbrev zax:QA:=zaa 4::il [7,8]++[zaa 9]
abbrev Uax:QA:=zl [0,2,3,4,5,6]++il [27,28]
abbrev Xax:QA:=zl [0,2,3,4,5,6]++il [8,48,49,58,59]
abbrev Zax:QA:=zl [0,2,3,4,5,6]++il [48,49]
abbrev uay:QA:=zl [0,2,3,4,5]
abbrev yay:QA:=zl [0,2,3]++sP 39 (yaa CB)::il [40,41]
abbrev zay:QA:=zl [0,2,3,4,5,6,7,8,10]++(42,.pk ⟨18,6,[]⟩ [0,0])::il [43,44]
abbrev Uay:QA:=zaa 1::Uaa 5::sP 49 gS::il [50,51]
abbrev h_:=Option (Int×Unit)
def ms(a0 a1:Int):h_:=bif(a1 != 0)then let x0:Int:=(Int.tmod a0 a1);
(bif(decide (x0<0))then(let x1:Int:=(w64 (x0+a1));some (x1,()))else some (x0,()):h_).bind λ(x1,_)=>some (x1,())else none
def Ks:X.Cfg:=⟨E0,[],[],[⟨2,0,qE,[(.normal,qS [Uaa 5] [])]⟩]⟩
def xk:Ctr:=⟨31,0,uad,[],[⟨yac,[.one],[]⟩],ap2 ms⟩
theorem B7:Lk 1 xk:=ls Ks aN
def xw(a0 a1:Int):h_:=
(ms a0 a1).bind λ(x0,_)=>some (x0,())
def RG:X.Cfg:=⟨E0,[xk],[],[]⟩
def GZ:Ctr:=⟨12,1,uad,[],[⟨yac,[.one],[]⟩],ap2 xw⟩
theorem Ly:Lk 2 GZ:=ls RG (aC B7 aN)
def fV(a0:Int)(a1:LI)(a2:Int):Option (T0j):=let x0:=f6 a1.length;bif(decide (a2>=x0))then(some (0,a1,a2,()))else let x1:=w64 (a2+1);let x2:=w64 (x1-1);
(gj x2).bind λx3=>
(fU a1 x3).bind λx4=>
(xw x4 a0).bind λ(x5,_)=>some (x5,a1,x1,())
def Kv:X.Cfg:=⟨E0,[GZ],[],[]⟩
def hJ:Ctr:=⟨28,2,[.ptr ⟨2,0,[]⟩ [0],shU I64],[(2,uab)],[⟨yac,[.one],[(2,uab)]⟩],ap3 fV⟩
theorem ie:Lk 3 hJ:=ls Kv (aC Ly aN)
abbrev v_:=List (Int)
def ul:T0D->Option (T0D⊕(Int×Bool×T0r)):=λ(v0,v1,v2,v3,_)=>bif(decide (v0>0))then(let x0:v_:=[6,12,32];
(fV 3 v1 v2).bind λ(x1,x2,x3,_)=>
(gj x1).bind λx4=>
(fU x0 x4).bind λ_=>
(fU x0 x4).bind λx6=>
(fV x6 x2 x3).bind λ(x7,x8,x9,_)=>let ac:=w64 (1+x7);bif(gl 8 v3.length (List.length [ac]))then let ae:v_:=(List.append v3 [ac]);let af:=w64 (v0-1);some (.inl (af,x8,x9,ae,()))else none)else some (.inr (v0,false,v1,v2,v3,()))
def q9(a0:LI)(a1:Int):Option (LI×T08):=
(fV 9 a0 a1).bind λ(x0,x1,x2,_)=>let x3:=w64 (4+x0);
(fV 4 x1 x2).bind λ(x4,x5,x6,_)=>
(gc ul NN (x4,x5,x6,[x3],())).bind λ(_,_,x9,ac,ae,_)=>some (ae,x9,ac,())
def I5:X.Cfg:=⟨E0,[hJ],[],[(lx 4 0 [zaa 0,Zaa 3 9,Uaa 4] [(2,uab),(9,Zae)] 12)]⟩
def AG:Ctr:=⟨120,3,[.ptr ⟨2,0,[]⟩ [0]],[(2,uab)],[⟨Zae,[.one],[(2,uab)]⟩],ap2 q9⟩
theorem Ik:Lk 4 AG:=ls I5 (aC ie aN)
def lf(a0:LI)(a1:Int):Option (T0j):=
(fV 5 a0 a1).bind λ(x0,x1)=>
(bif(x0==0)then(some (x0,true,x1))else bif(x0==1)then(some (x0,true,x1))else some (x0,(x0==2),x1):Option (T0x)).bind λ(x3,x4,x5,x6,_)=>bif x4 then((fV 8 x5 x6).bind λ(x7,x8,x9,_)=>let ac:=wk .u16 x7;some (ac,x8,x9,()))else bif(x3==3)then((fV 3 x5 x6).bind λ(x7,x8,x9,_)=>let ac:=w64 (65535-x7);let ae:=wk .u16 ac;some (ae,x8,x9,()))else
(fV 65536 x5 x6).bind λ(x7,x8,x9,_)=>let ac:=wk .u16 x7;some (ac,x8,x9,())
def Ku:X.Cfg:=⟨E0,[hJ],[],[⟨3,0,qE,[(.normal,qS [zaa 0,Uaa 4,Xaa 5] [(2,uab)])]⟩]⟩
def qB:Ctr:=⟨100,4,[.ptr ⟨2,0,[]⟩ [0]],[(2,uab)],[⟨uL [CW],[.one],[(2,uab)]⟩],ap2 lf⟩
theorem sT:Lk 4 qB:=ls Ku (aC ie aN)
def uk:T0D->Option (T0D⊕(Int×Bool×T0r)):=λ(v0,v1,v2,v3,_)=>bif(decide (v0>0))then((lf v1 v2).bind λ(x0,x1,x2,_)=>bif(gl 2 v3.length (List.length [x0]))then let x3:v_:=(List.append v3 [x0]);let x4:=w64 (v0-1);some (.inl (x4,x1,x2,x3,()))else none)else some (.inr (v0,false,v1,v2,v3,()))
def iX(a0:Int)(a1:LI)(a2:Int):Option (LI×T08):=let x0:=w64 (a0+1);
(fV x0 a1 a2).bind λ(x1,x2,x3,_)=>
(gc uk NN (x1,x2,x3,[],())).bind λ(_,_,x6,x7,x8,_)=>some (x8,x6,x7,())
def I4:X.Cfg:=⟨E0,[hJ,qB],[],[(lx 4 0 [zaa 0,Zaa 5 13,Uaa 6] [(2,uab),(13,uL [(uaa CW)])] 12)]⟩
def vk:Ctr:=⟨121,5,[.ptr ⟨2,0,[]⟩ [0],shU I64],[(2,uab)],[⟨uL [(uaa CW)],[.one],[(2,uab)]⟩],ap3 iX⟩
theorem Ad:Lk 5 vk:=ls I4 (aC ie (aC sT aN))
def kY(a0 a1:Int):Option (T0V):=some (1,a0,0,0,a1,())
def T5:X.Cfg:=⟨E0,[],[],[]⟩
def KQ:Ctr:=⟨123,6,uad,[],[⟨zae,[.agg 5],[]⟩],ap2 kY⟩
theorem Pp:Lk 1 KQ:=ls T5 aN
def jU(a0:Int):Option (T0V):=some (23,0,0,0,a0,())
def RE:X.Cfg:=⟨E0,[],[],[]⟩
def GY:Ctr:=⟨124,7,yac,[],[⟨zae,[.agg 5],[]⟩],ap1 jU⟩
theorem Lx:Lk 1 GY:=ls RE aN
def po(a0 a1:Int):Option (T0V):=some (2,a0,a1,0,0,())
def RF:X.Cfg:=⟨E0,[],[],[]⟩
def LU:Ctr:=⟨144,8,uad,[],[⟨zae,[.agg 5],[]⟩],ap2 po⟩
theorem Rv:Lk 1 LU:=ls RF aN
def kW(a0:Int):Option (T0u):=
(bif(a0==1)then(some (a0,true,false,false,false,false,()))else bif(a0==15)then(some (a0,true,false,false,false,false,()))else bif(a0==19)then(some (a0,true,false,false,false,false,()))else bif(a0==20)then(some (a0,true,false,false,false,false,()))else some (a0,(a0==21),false,false,false,false,()):Option (Int×Bool×T0u)).bind λ(x0,x1,_)=>bif x1 then(some (true,false,false,true,()))else bif(x0==2)then(some (true,true,false,false,()))else bif(x0==16)then(some (true,true,false,true,()))else bif(x0==17)then(some (true,true,false,true,()))else bif(x0==18)then(some (false,false,false,true,()))else bif(x0==23)then(some (false,false,false,true,()))else bif(x0==22)then(some (true,false,false,false,()))else bif(x0==0)then(some (false,false,false,false,()))else bif(x0==24)then(some (false,false,false,false,()))else some (true,true,true,false,())
def IR:X.Cfg:=⟨E0,[],[],[⟨3,0,qE,[(.normal,qS [zaa 2,Uaa 3,Xaa 4] [(6,Xag)])]⟩]⟩
def u5:Ctr:=⟨108,9,yac,[],[⟨Xag,[.agg 4],[]⟩],ap1 kW⟩
theorem zZ:Lk 1 u5:=ls IR aN
abbrev f_:=Option (Bool×Unit)
def iW(a0:Int):f_:=bif(a0==18)then(some (true,()))else bif(a0==19)then(some (true,()))else bif(a0==20)then(some (true,()))else some ((a0==21),())
def IS:X.Cfg:=⟨E0,[],[],[]⟩
def mF:Ctr:=⟨77,10,yac,[],[⟨zab,[.one],[]⟩],ap1 iW⟩
theorem oJ:Lk 1 mF:=ls IS aN
def ra(a0 a1:Int)(a2:LI)(a3:Int):Option (Int×T1d):=
(fV 25 a2 a3).bind λ(x0,x1,x2,_)=>
(kW x0).bind λ(x3,x4)=>
(bif x3 then((fV 8 x1 x2).bind λ(x7,x8,x9,_)=>some (a0,a1,x8,x9,0,0,0,0,0,x0,x7,0,0,0,x3,x4))else some (a0,a1,x1,x2,0,0,0,0,0,x0,0,0,0,0,x3,x4):Option (T37)).bind λ(x7,x8,x9,ac,ae,af,ag,ah,ai,aj,ak,am,an,ap,aq,av,ax)=>
(bif av then((fV 8 x9 ac).bind λ(az,aA,aB,_)=>some (x7,x8,aA,aB,ae,af,ag,ah,ai,aj,ak,az,an,ap,aq,av,ax))else some (x7,x8,x9,ac,ae,af,ag,ah,ai,aj,ak,am,an,ap,aq,av,ax):Option (T37)).bind λ(az,aA,aB,aD,aE,aF,aG,aH,aI,aJ,aK,aL,aM,aO,aP,aQ,aR,aS,_)=>
(bif aR then((fV 8 aB aD).bind λ(aT,aU,aV,_)=>some (az,aA,aU,aV,aE,aF,aG,aH,aI,aJ,aK,aL,aT,aO,aP,aQ,aR,aS,()))else some (az,aA,aB,aD,aE,aF,aG,aH,aI,aJ,aK,aL,aM,aO,aP,aQ,aR,aS,()):Option (T37)).bind λ(aT,aU,aV,aW,aY,aZ,ba,bc,bd,be,bf,bg,bh,bi,_,_,_,bn,_)=>
((iW be).bind λ(bo,_)=>bif bo then((fV aU aV aW).bind λ(bp,bq,bt,_)=>some (bq,bt,aY,aZ,ba,bc,bd,be,bf,bg,bh,bp,()))else bif(be==15)then((fV aT aV aW).bind λ(bp,bq,bt,_)=>some (bq,bt,aY,aZ,ba,bc,bd,be,bf,bg,bh,bp,()))else bif(be==23)then((fV 16 aV aW).bind λ(bp,bq,bt,_)=>some (bq,bt,aY,aZ,ba,bc,bd,be,bf,bg,bh,bp,()))else bif bn then((lf aV aW).bind λ(bp,bq,bt,_)=>let bv:=wk .i64 bp;some (bq,bt,aY,aZ,ba,bc,bd,be,bf,bg,bh,bv,()))else some (aV,aW,aY,aZ,ba,bc,bd,be,bf,bg,bh,bi,()):Option (LI×Int×Int×T27)).bind λ(bo,bp,_,_,_,_,_,bB,bC,bD,bE,bF,_)=>some (bB,bC,bD,bE,bF,bo,bp,())
def I6:X.Cfg:=⟨E0,[hJ,u5,mF,qB],[],[⟨3,0,qE,[(.normal,qS Xau Zao)]⟩,⟨5,1,qE,[(.normal,qS Xau Zao)]⟩,⟨7,2,qE,[(.normal,qS Xau Zao)]⟩,⟨9,3,qE,[(.normal,qS (zl [0,6,7]) [(2,uab),(14,zae),(16,zae)])]⟩]⟩
def AH:Ctr:=⟨145,11,[.ptr ⟨2,0,[]⟩ [0],shU I64,shU I64],[(2,uab)],[⟨zae,[.agg 5],[(2,uab)]⟩],ap4 ra⟩
theorem Il:Lk 5 AH:=ls I6 (aC ie (aC zZ (aC oJ (aC sT aN))))
def sG(a0:LI)(a1 a2:Int)(a3:LI)(a4:Int):Option (LDIn×T08):=let x0:=f6 a0.length;
(fV x0 a3 a4).bind λ(x1,x2,x3,_)=>
(gj x1).bind λx4=>
(fU a0 x4).bind λx5=>let x6:=w64 (x5+1);let x7:=mmR false 5 x6;
(fV x7 x2 x3).bind λ(x8,x9,ac,_)=>
(kY 2 x8).bind λ(ae,af,ag,ah,ai,_)=>let aj:LDIn:=[(15,(1,(0,(0,x1)))),(ae,(af,(ag,(ah,ai))))];
(fV 20 x9 ac).bind λ(ak,am,an,_)=>bif(ak==0)then((fV 3 am an).bind λ(ap,aq,av,_)=>let ax:=w64 (3+ap);
(lf aq av).bind λ(ay,az,aA,_)=>let aB:=wk .i64 ay;
(kY ax aB).bind λ(aD,aE,aF,aG,aH,_)=>let aI:LDIn:=[(aD,(aE,(aF,(aG,aH))))];some (aI,az,aA,()))else bif(ak==1)then(let ap:v_:=[3,4,5,10,13,14,11,9];
(fV 8 am an).bind λ(aq,av,ax,_)=>
(gj aq).bind λay=>
(fU ap ay).bind λ_=>
(fU ap ay).bind λaA=>
(fV 3 av ax).bind λ(aB,aD,aE,_)=>let aF:=w64 (3+aB);
(fV 3 aD aE).bind λ(aG,aH,aI,_)=>let aJ:=w64 (3+aG);
(fV 3 aH aI).bind λ(aK,aL,aM,_)=>let aO:=w64 (3+aK);let aP:LDIn:=[(aA,(aF,(aJ,(aO,0))))];some (aP,aL,aM,()))else bif(ak==2)then(let ap:LDIn:=[(15,(6,(0,(0,x1))))];some (ap,am,an,()))else bif(ak==3)then((fV 5 am an).bind λ(ap,aq,av,_)=>let ax:=w64 (3+ap);
(gj x1).bind λay=>
(fU a0 ay).bind λaz=>
(fV az aq av).bind λ(aA,aB,aD,_)=>let aE:LDIn:=[(15,(6,(0,(0,x1)))),(17,(6,(ax,(0,aA))))];some (aE,aB,aD,()))else bif(ak==4)then((fV 5 am an).bind λ(ap,aq,av,_)=>let ax:=w64 (3+ap);
(gj x1).bind λay=>
(fU a0 ay).bind λaz=>
(fV az aq av).bind λ(aA,aB,aD,_)=>let aE:LDIn:=[(15,(6,(0,(0,x1)))),(17,(6,(ax,(0,aA))))];some (aE,aB,aD,()))else bif(ak==5)then((fV 4 am an).bind λ(ap,aq,av,_)=>let ax:=w64 (3+ap);
(gj x1).bind λay=>
(fU a0 ay).bind λaz=>
(fV az aq av).bind λ(aA,aB,aD,_)=>let aE:LDIn:=[(15,(6,(0,(0,x1)))),(16,(ax,(6,(0,aA))))];some (aE,aB,aD,()))else bif(ak==6)then((fV 4 am an).bind λ(ap,aq,av,_)=>let ax:=w64 (3+ap);
(gj x1).bind λay=>
(fU a0 ay).bind λaz=>
(fV az aq av).bind λ(aA,aB,aD,_)=>let aE:LDIn:=[(15,(6,(0,(0,x1)))),(16,(ax,(6,(0,aA))))];some (aE,aB,aD,()))else bif(ak==7)then((fV 3 am an).bind λ(ap,aq,av,_)=>
(kY 0 ap).bind λ(ax,ay,az,aA,aB,_)=>let aD:LDIn:=[(ax,(ay,(az,(aA,aB))))];bif(gl 40 aD.length aj.length)then let aE:LDIn:=(List.append aD aj);
(jU 13).bind λ(aF,aG,aH,aI,aJ,_)=>let aK:LDIn:=[(aF,(aG,(aH,(aI,aJ))))];bif(gl 40 aE.length aK.length)then let aL:LDIn:=(List.append aE aK);some (aL,aq,av,())else none else none)else bif(ak==8)then((fV 3 am an).bind λ(ap,aq,av,_)=>
(kY 0 ap).bind λ(ax,ay,az,aA,aB,_)=>let aD:LDIn:=[(ax,(ay,(az,(aA,aB))))];bif(gl 40 aD.length aj.length)then let aE:LDIn:=(List.append aD aj);
(jU 13).bind λ(aF,aG,aH,aI,aJ,_)=>let aK:LDIn:=[(aF,(aG,(aH,(aI,aJ))))];bif(gl 40 aE.length aK.length)then let aL:LDIn:=(List.append aE aK);some (aL,aq,av,())else none else none)else bif(ak==9)then((fV 3 am an).bind λ(ap,aq,av,_)=>
(kY 0 ap).bind λ(ax,ay,az,aA,aB,_)=>let aD:LDIn:=[(ax,(ay,(az,(aA,aB))))];bif(gl 40 aD.length aj.length)then let aE:LDIn:=(List.append aD aj);
(jU 14).bind λ(aF,aG,aH,aI,aJ,_)=>
(po 3 0).bind λ(aK,aL,aM,aO,aP,_)=>let aQ:LDIn:=[(aF,(aG,(aH,(aI,aJ)))),(aK,(aL,(aM,(aO,aP))))];bif(gl 40 aE.length aQ.length)then let aR:LDIn:=(List.append aE aQ);some (aR,aq,av,())else none else none)else bif(ak==10)then((fV 3 am an).bind λ(ap,aq,av,_)=>
(kY 0 ap).bind λ(ax,ay,az,aA,aB,_)=>
(fV 4 aq av).bind λ(aD,aE,aF,_)=>
(kY 1 aD).bind λ(aG,aH,aI,aJ,aK,_)=>
(jU 3).bind λ(aL,aM,aO,aP,aQ,_)=>
(po 7 0).bind λ(aR,aS,aT,aU,aV,_)=>let aW:LDIn:=[(ax,(ay,(az,(aA,aB)))),(aG,(aH,(aI,(aJ,aK)))),(aL,(aM,(aO,(aP,aQ)))),(aR,(aS,(aT,(aU,aV))))];some (aW,aE,aF,()))else bif(ak==11)then((po 0 7).bind λ(ap,aq,av,ax,ay,_)=>let az:LDIn:=[(ap,(aq,(av,(ax,ay))))];bif(gl 40 az.length aj.length)then let aA:LDIn:=(List.append az aj);let aB:v_:=[1,2];
(fV 2 am an).bind λ(aD,aE,aF,_)=>
(gj aD).bind λaG=>
(fU aB aG).bind λ_=>
(fU aB aG).bind λaI=>
(jU aI).bind λ(aJ,aK,aL,aM,aO,_)=>let aP:LDIn:=[(aJ,(aK,(aL,(aM,aO))))];bif(gl 40 aA.length aP.length)then let aQ:LDIn:=(List.append aA aP);some (aQ,aE,aF,())else none else none)else bif(ak==12)then((po 0 7).bind λ(ap,aq,av,ax,ay,_)=>
(jU 4).bind λ(az,aA,aB,aD,aE,_)=>let aF:LDIn:=[(ap,(aq,(av,(ax,ay)))),(az,(aA,(aB,(aD,aE))))];
(po 0 7).bind λ(aG,aH,aI,aJ,aK,_)=>
(fV 4 am an).bind λ(aL,aM,aO,_)=>
(kY 1 aL).bind λ(aP,aQ,aR,aS,aT,_)=>
(jU 5).bind λ(aU,aV,aW,aY,aZ,_)=>let ba:LDIn:=[(aG,(aH,(aI,(aJ,aK)))),(aP,(aQ,(aR,(aS,aT)))),(aU,(aV,(aW,(aY,aZ))))];let bc:List LDIn:=[aF,ba];
(fV 2 aM aO).bind λ(bd,be)=>
(gj bd).bind λbg=>
(fU bc bg).bind λ_=>
(fU bc bg).bind λ_=>
(fU bc bg).bind λbj=>some (bj,be))else bif(ak==13)then(let ap:v_:=[6,7,15];
(fV 3 am an).bind λ(aq,av,ax,_)=>
(gj aq).bind λay=>
(fU ap ay).bind λ_=>
(fU ap ay).bind λaA=>
(jU aA).bind λ(aB,aD,aE,aF,aG,_)=>
(fV 3 av ax).bind λ(aH,aI,aJ,_)=>let aK:=w64 (3+aH);
(po aK 0).bind λ(aL,aM,aO,aP,aQ,_)=>let aR:LDIn:=[(aB,(aD,(aE,(aF,aG)))),(aL,(aM,(aO,(aP,aQ))))];some (aR,aI,aJ,()))else bif(ak==14)then((fV 3 am an).bind λ(ap,aq,av,_)=>
(kY 0 ap).bind λ(ax,ay,az,aA,aB,_)=>let aD:v_:=[8,9];
(fV 2 aq av).bind λ(aE,aF,aG,_)=>
(gj aE).bind λaH=>
(fU aD aH).bind λ_=>
(fU aD aH).bind λaJ=>
(jU aJ).bind λ(aK,aL,aM,aO,aP,_)=>let aQ:LDIn:=[(ax,(ay,(az,(aA,aB)))),(aK,(aL,(aM,(aO,aP))))];some (aQ,aF,aG,()))else bif(ak==15)then((fV 3 am an).bind λ(ap,aq,av,_)=>
(kY 0 ap).bind λ(ax,ay,az,aA,aB,_)=>let aD:v_:=[8,9];
(fV 2 aq av).bind λ(aE,aF,aG,_)=>
(gj aE).bind λaH=>
(fU aD aH).bind λ_=>
(fU aD aH).bind λaJ=>
(jU aJ).bind λ(aK,aL,aM,aO,aP,_)=>let aQ:LDIn:=[(ax,(ay,(az,(aA,aB)))),(aK,(aL,(aM,(aO,aP))))];some (aQ,aF,aG,()))else bif(ak==16)then((fV a1 am an).bind λ(ap,aq,av,_)=>
(kY 0 ap).bind λ(ax,ay,az,aA,aB,_)=>
(po 1 3).bind λ(aD,aE,aF,aG,aH,_)=>
(jU 10).bind λ(aI,aJ,aK,aL,aM,_)=>let aO:LDIn:=[(ax,(ay,(az,(aA,aB)))),(aD,(aE,(aF,(aG,aH)))),(aI,(aJ,(aK,(aL,aM))))];some (aO,aq,av,()))else bif(ak==17)then(let ap:v_:=[a1,5];
(fV 2 am an).bind λ(aq,av,ax,_)=>
(gj aq).bind λay=>
(fU ap ay).bind λ_=>
(fU ap ay).bind λaA=>
(fV aA av ax).bind λ(aB,aD,aE,_)=>
(kY 0 aB).bind λ(aF,aG,aH,aI,aJ,_)=>let aK:v_:=[12,11];
(fV 2 aD aE).bind λ(aL,aM,aO,_)=>
(gj aL).bind λaP=>
(fU aK aP).bind λ_=>
(fU aK aP).bind λaR=>
(jU aR).bind λ(aS,aT,aU,aV,aW,_)=>let aY:LDIn:=[(aF,(aG,(aH,(aI,aJ)))),(aS,(aT,(aU,(aV,aW))))];some (aY,aM,aO,()))else bif(ak==18)then((fV 4 am an).bind λ(ap,aq,av,_)=>let ax:=w64 (1+ap);
(kY 5 ax).bind λ(ay,az,aA,aB,aD,_)=>
(kY 4 1).bind λ(aE,aF,aG,aH,aI,_)=>let aJ:=w64 (a2+2);let aK:LDIn:=[(ay,(az,(aA,(aB,aD)))),(aE,(aF,(aG,(aH,aI)))),(4,(5,(5,(4,0)))),(20,(5,(0,(0,aJ))))];some (aK,aq,av,()))else let ap:=f6 a0.length;
(ra ap a1 am an).bind λ(aq,av,ax,ay,az,aA,aB,_)=>let aD:LDIn:=[(aq,(av,(ax,(ay,az))))];some (aD,aA,aB,())
def Kt:X.Cfg:=⟨E0,[hJ,KQ,qB,GY,LU,AH],[(156,(uaa KIn))],[]⟩
def C6:Ctr:=⟨122,12,[.ptr ⟨2,0,[]⟩ [0],shU RI,shU I64,shU I64],[(2,uab)],[⟨uL [gS],[.one],[(2,uab)]⟩],ap5 sG⟩
theorem Ke:Lk 6 C6:=ls Kt (aC ie (aC Pp (aC sT (aC Lx (aC Rv (aC Il aN))))))
def rQ:T2t->Option (T2t⊕(Int×Int×Bool×T22)):=λ(v0,v1,v2,v3,v4,v5,v6,v7,v8,v9,_)=>bif(decide (v1<v0))then((gj v1).bind λx0=>
(fU v8 x0).bind λ_=>
(fU v8 x0).bind λx2=>
(iX x2 v2 v3).bind λ(x3,x4,x5,_)=>bif(gl 24 v9.length (List.length [x3]))then let x6:List LI:=(List.append v9 [x3]);let x7:=w64 (v1+1);some (.inl (v0,x7,x4,x5,v4,v5,v6,v7,v8,x6,()))else none)else some (.inr (v0,v1,false,v2,v3,v4,v5,v6,v7,v8,v9,()))
def rP:T2c->Option (T2c⊕T2n):=λ(v0,v1,v2,v3,v4,v5,v6,v7,v8,_)=>bif(decide (v0>0))then((let x0:Int:=(f6 v6.length);let x1:=w64 (x0+1);let x2:=f6 v6.length;
(sG v7 x1 x2 v1 v2).bind λ(x3,x4,x5,_)=>let x6:=f6 v6.length;let x7:=f6 x3.length;let x8:=w64 (x6+x7);bif(decide (x8<=62))then(bif(gl 40 v6.length x3.length)then let x9:LDIn:=(List.append v6 x3);some (v0,x4,x5,v3,v4,v5,x9,v7,v8,())else none)else some (v0,x4,x5,v3,v4,v5,v6,v7,v8,()):Option (T2c)).bind λ(x0,x1,x2,x3,x4,x5,x6,x7,x8,_)=>let x9:=w64 (x0-1);some (.inl (x9,x1,x2,x3,x4,x5,x6,x7,x8,())))else some (.inr (v0,false,v1,v2,v3,v4,v5,v6,v7,v8,()))
def jH:T2s->Option (T2s⊕(Int×T2n)):=λ(v0,v1,v2,v3,v4,v5,v6,v7,v8)=>bif(decide (v1<v0))then(((gj v1).bind λx0=>
(fU v7 x0).bind λx1=>
(iW x1.1).bind λ(x2,_)=>bif x2 then((gj v1).bind λx3=>
(fU v7 x3).bind λx4=>let x5:=f6 v7.length;bif(decide (x4.2.2.2.2>=x5))then((gj v1).bind λx6=>
(fU v7 x6).bind λ_=>none)else some (v0,v1,v2,v3,v4,v5,v6,v7,v8))else some (v0,v1,v2,v3,v4,v5,v6,v7,v8):Option (T2s)).bind λ(x0,x1,x2,x3,x4,x5,x6,x7,x8)=>let ac:=w64 (x1+1);some (.inl (x0,ac,x2,x3,x4,x5,x6,x7,x8)))else some (.inr (v0,v1,false,v2,v3,v4,v5,v6,v7,v8))
def ol(a0:LI)(a1:Int):Option (LDIn×LI×LLI×T08):=
(q9 a0 a1).bind λ(x0,x1,x2,_)=>let x3:=f6 x0.length;
(gc rQ NN (x3,0,x1,x2,(),(),(),(),x0,[],())).bind λ(_,_,_,x7,x8,x9,ac,ae,_,ag)=>
(fV 12 x7 x8).bind λ(ai,aj,ak,_)=>let am:=w64 (1+ai);
(gc rP NN (am,aj,ak,x9,ac,ae,[],ag)).bind λ(_,_,aq,av,ax,ay,az,aA,aB)=>
((fV 4 aq av).bind λ(aE,aF,aG,_)=>bif(aE==0)then(let aH:Int:=(f6 aA.length);let aI:=w64 (aH+1);
(fV aI aF aG).bind λ(aJ,aK,aL,_)=>let aM:LDIn:=[(18,(0,(0,(0,aJ))))];bif(gl 40 aA.length aM.length)then let aO:LDIn:=(List.append aA aM);some (aK,aL,ax,ay,az,aO,aB)else none)else bif(aE==1)then(let aH:LDIn:=[(24,(0,(0,(0,0))))];bif(gl 40 aA.length aH.length)then let aI:LDIn:=(List.append aA aH);some (aF,aG,ax,ay,az,aI,aB)else none)else some (aF,aG,ax,ay,az,aA,aB):Option (T21)).bind λ(aE,aF,aG,aH,aI,aJ,aK,aL,_)=>
(fV 9 aE aF).bind λ(aM,aO,aP,_)=>
(kY 0 aM).bind λ(aQ,aR,aS,aT,aU,_)=>
(jU 0).bind λ(aV,aW,aY,aZ,ba,_)=>let bc:LDIn:=[(aQ,(aR,(aS,(aT,aU)))),(aV,(aW,(aY,(aZ,ba))))];bif(gl 40 aJ.length bc.length)then let bd:LDIn:=(List.append aJ bc);let be:=f6 bd.length;bif(decide (be>64))then(bif(iO 0 64 bd.length)then let bf:LDIn:=(nG bd 0 (Nat.sub 64 0));let bg:=f6 bf.length;
(gc jH NN (bg,0,aO,aP,aG,aH,aI,bf,aK,aL,())).bind λ(_,_,_,bk,bm,_,_,_,bq,bt,bv,_)=>some (bq,bt,bv,bk,bm,())else none)else let bf:=f6 bd.length;
(gc jH NN (bf,0,aO,aP,aG,aH,aI,bd,aK,aL,())).bind λ(_,_,_,bj,bk,_,_,_,bp,bq,bt,_)=>some (bp,bq,bt,bj,bk,())else none
def D0:X.Cfg:=⟨E0,[AG,vk,hJ,C6,KQ,GY,mF],[(24,(uaa CW)),(25,(uaa CW))],[(lx 4 0 (zl [0,2,3]++(13,.pk ⟨8,1,[]⟩ [0,0])::il [14,15]) [(2,uab),(6,yad),(8,uL [N1,(uaa I64),(uaa (uaa CW))])] 16),⟨14,1,qE,[(.normal,qS zav uao)]⟩,⟨11,2,qS zav uao,[(.exit 2,qS (zl [0,2,3]++[Uaa 6,Xaa 32]) uao)]⟩,⟨17,3,qE,[(.normal,qS uau uao)]⟩,⟨29,4,qE,[(.normal,qS Uav uap)]⟩,⟨26,5,qS Uav uap,[(.exit 5,qS (zl [0,2,3]++il [101,102]++[Xaa 103]) uap)]⟩]⟩
def wN:Ctr:=⟨92,13,[.ptr ⟨2,0,[]⟩ [0]],[(2,uab)],[⟨Zai,[.agg 3],[(2,uab)]⟩],ap2 ol⟩
theorem Dy:Lk 7 wN:=ls D0 (aC Ik (aC Ad (aC ie (aC Ke (aC Pp (aC Lx (aC oJ aN)))))))
def oV:T0K->Option (T0K⊕((Bool×Unit)⊕(LI×T0I))):=λ(v0,v1,v2,v3,_)=>bif(decide (v3<v2))then((gj v3).bind λx0=>
(fU v1 x0).bind λx1=>bif(decide (x1<1))then(some (.inr (.inl (false,()))))else bif(decide (x1>32))then(some (.inr (.inl (false,()))))else let x2:=w64 (v3+1);some (.inl (v0,v1,v2,x2,())))else some (.inr (.inr (v0,v1,v2,v3,false,())))
def iT(a0:LI):f_:=let x0:=f6 a0.length;
(match gc oV NN (a0,a0,x0,0,())with
|none=>none
|some (.inl (x1,_))=>some (x1,())
|some (.inr (x1,_))=>let x6:=f6 x1.length;bif(decide (x6>=1))then(let x7:Int:=(f6 x1.length);some ((decide (x7<=4)),()))else some (false,()))
def Gp:X.Cfg:=⟨E0,[],[],[⟨3,0,qS Xav [],[(.ret,qS zat []),(.exit 0,qS Zav [])]⟩]⟩
def pV:Ctr:=⟨30,14,uL [RI],[],[⟨zab,[.one],[]⟩],ap1 iT⟩
theorem sS:Lk 1 pV:=ls Gp aN
def ui:T2u->Option (T2u⊕(LI×Int×Int×Int×Int×Int×Bool×T0M)):=λ(v0,v1,v2,v3,v4,v5,v6,v7,v8,v9,_)=>bif(decide (v5<v4))then(let x0:Int:=(w64 (v5+v1));bif(v2 != 0)then let x1:Int:=(Int.tmod x0 v2);
(gj x1).bind λx2=>
(fU v8 x2).bind λ_=>
(fU v8 x2).bind λ_=>let x5:=v8.modify x2 λe=>v3;
(gj x1).bind λx6=>
(fU v0 x6).bind λx7=>let x8:=w64 (x7+1);let x9:=w64 (50*v2);bif(x9 != 0)then let ac:Int:=(w64 (Int.tdiv v1 x9));let ae:=Int.tmod ac 40;let af:=w64 (x8+ae);let ag:=w64 (v3+af);let ah:=w64 (v5+1);some (.inl (v0,v1,v2,ag,v4,ah,v6,v7,x5,v9,()))else none else none)else some (.inr (v0,v1,v2,v3,v4,v5,false,v6,v7,v8,v9,()))
def oG(a0:LI)(a1:Int):Option (T0q):=
((iT a0).bind λ(x0,_)=>bif(!x0)then(some (a0,a1,true,(),0,()))else bif(decide (a1<0))then(some (a0,a1,true,(),0,()))else some (a0,a1,(decide (a1>1073741824)),(),0,()):Option (LI×Int×Bool×Unit×Int×Unit)).bind λ(x0,x1,x2,x3,x4,_)=>bif x2 then(some ([],0,1,()))else let x5:=f6 x0.length;
(gj x5).bind λx6=>
(gj x5).bind λx7=>bif(xJ x6 x7 1)then let x8:v_:=(List.replicate x6 0);let x9:=w64 (40503*x1);let ac:=wk .u16 x9;bif(x5 != 0)then let ae:Int:=(w64 (Int.tdiv x1 x5));let af:=Int.tmod ae 50;let ag:=w64 (1+af);
(gc ui NN (x0,x1,x5,ag,x5,0,x3,x4,x8,ac,())).bind λ(_,_,_,_,_,_,_,_,_,ax,ay,_)=>some (ax,ay,0,())else none else none
def IX:X.Cfg:=⟨E0,[pV],[],[⟨2,0,qE,[(.normal,(qS [sP 0 RI,Uaa 1,zaa 4,Xaa 21] [(10,uL [N1,CW])]))]⟩,(lx 9 1 (sP 0 RI::Uaa 1::zaa 4::Uaa 6::zaa 7::il [8,36,37]) [(10,uL [N1,CW]),(16,Xaj)] 38)]⟩
def u9:Ctr:=⟨11,15,uab,[],[⟨uL [(uaa I64),CW,I64],[.agg 2,.one],[]⟩],ap2 oG⟩
theorem Ab:Lk 2 u9:=ls IX (aC sS aN)
def pC(a0 a1:LI)(a2:Int):Option (LI×T0j):=
(fV 1048576 a1 a2).bind λ(x0,x1)=>
(oG a0 x0).bind λ(x3,x4,_,_)=>some (x3,x4,x1)
def GE:X.Cfg:=⟨E0,[hJ,u9],[],[]⟩
def yM:Ctr:=⟨94,16,[.ptr ⟨2,0,[]⟩ [0],shU RI],[(2,uab)],[⟨Xaj,[.agg 2],[(2,uab)]⟩],ap3 pC⟩
theorem FI:Lk 4 yM:=ls GE (aC ie (aC Ab aN))
def mz(a0 a1 a2 a3:Int):f_:=bif(a0==0)then(bif(a2==0)then(some ((a3==0),()))else some (false,()))else bif(a0==2)then(bif(a2==0)then(some ((a3==0),()))else some (false,()))else bif(a0==1)then(bif(a2==(-1))then(bif(a1==0)then(bif(decide (a3>=0))then(some ((decide (a3<=65535)),()))else some (false,()))else some (false,()))else bif(a1==0)then(bif(decide (a2>=0))then(bif(decide (a2<4))then(bif(decide (a3>=0))then(some ((decide (a3<32)),()))else some (false,()))else some (false,()))else some (false,()))else some (false,()))else some (false,())
def IL:X.Cfg:=⟨E0,[],[],[]⟩
def uY:Ctr:=⟨90,17,[.agg yag],[],[⟨zab,[.one],[]⟩],ap4 mz⟩
theorem zW:Lk 1 uY:=ls IL aN
def md:LDCn×Int×T0n->Option ((LDCn×Int×T0n)⊕((Bool×Unit)⊕(LDCn×Int×T0F))):=λ(v0,v1,v2,v3,v4,_)=>bif(decide (v4<v3))then((gj v4).bind λx0=>
(fU v2 x0).bind λx1=>
(mz x1.1 x1.2.1 x1.2.2.1 x1.2.2.2).bind λ(x2,_)=>bif(!x2)then(some (.inr (.inl (false,()))))else let x3:=w64 (v4+1);some (.inl (v0,v1,v2,v3,x3,())))else some (.inr (.inr (v0,v1,v2,v3,v4,false,())))
def iu(a0:LDCn)(a1:Int):f_:=let x0:=f6 a0.length;
(match gc md NN (a0,a1,a0,x0,0,())with
|none=>none
|some (.inl (x1,_))=>some (x1,())
|some (.inr (x1,x2,_))=>let x7:=f6 x1.length;some ((decide (x7<=x2)),()))
def F5:X.Cfg:=⟨E0,[uY],[],[⟨3,0,qS [sP 0 gk,Uaa 1,sP 7 gk,Uaa 8,Uaa 9] [],[(.ret,qS Uat []),(.exit 0,qS [sP 0 gk,Uaa 1,sP 7 gk,Uaa 8,Uaa 9,Xaa 10] [])]⟩]⟩
def jl:Ctr:=⟨62,18,uL [gk,I64],[],[⟨zab,[.one],[]⟩],ap2 iu⟩
theorem jZ:Lk 2 jl:=ls F5 (aC zW aN)
def mb:T13->Option (T13⊕((Bool×Unit)⊕(LLCn×T0U))):=λ(v0,v1,v2,v3)=>bif(decide (v2<v1))then((gj v2).bind λx0=>
(fU v0 x0).bind λx1=>
(iu x1 64).bind λ(x2,_)=>bif(!x2)then(some (.inr (.inl (false,()))))else let x3:=w64 (v2+1);some (.inl (v0,v1,x3,v3)))else some (.inr (.inr (v0,v1,v2,false,v3)))
def oS:LDOp×T0C->Option ((LDOp×T0C)⊕((Bool×Unit)⊕(LDOp×T0U))):=λ(v0,v1,v2,v3,v4,_)=>bif(decide (v2<v1))then((gj v2).bind λx0=>
(fU v0 x0).bind λx1=>
(bif(x1.1==(-1))then(bif(x1.2.1 != 0)then(some (v0,v1,v2,true,v3,v4,x1.1,x1.2.1,x1.2.2,()))else bif x1.2.2 then(some (v0,v1,v2,true,v3,v4,x1.1,x1.2.1,x1.2.2,()))else bif(decide (x1.1<(-1)))then(some (v0,v1,v2,true,v3,v4,x1.1,x1.2.1,x1.2.2,()))else let x2:=f6 v3.length;bif(decide (x1.1>=x2))then(some (v0,v1,v2,true,v3,v4,x1.1,x1.2.1,x1.2.2,()))else bif(decide (x1.1>=0))then(bif(decide (x1.2.1<0))then(some (v0,v1,v2,true,v3,v4,x1.1,x1.2.1,x1.2.2,()))else
(gj x1.1).bind λx3=>
(fU v3 x3).bind λx4=>let x5:=f6 x4.length;some (v0,v1,v2,(decide (x1.2.1>x5)),v3,v4,x1.1,x1.2.1,x1.2.2,()))else some (v0,v1,v2,false,v3,v4,x1.1,x1.2.1,x1.2.2,()))else bif(decide (x1.1<(-1)))then(some (v0,v1,v2,true,v3,v4,x1.1,x1.2.1,x1.2.2,()))else let x2:=f6 v3.length;bif(decide (x1.1>=x2))then(some (v0,v1,v2,true,v3,v4,x1.1,x1.2.1,x1.2.2,()))else bif(decide (x1.1>=0))then(bif(decide (x1.2.1<0))then(some (v0,v1,v2,true,v3,v4,x1.1,x1.2.1,x1.2.2,()))else
(gj x1.1).bind λx3=>
(fU v3 x3).bind λx4=>let x5:=f6 x4.length;some (v0,v1,v2,(decide (x1.2.1>x5)),v3,v4,x1.1,x1.2.1,x1.2.2,()))else some (v0,v1,v2,false,v3,v4,x1.1,x1.2.1,x1.2.2,()):Option (LDOp×Int×Int×Bool×LLCn×LDOp×T0f)).bind λ(x2,x3,x4,x5,x6,x7,_)=>bif x5 then(some (.inr (.inl (false,()))))else let ae:=w64 (x4+1);some (.inl (x2,x3,ae,x6,x7,())))else some (.inr (.inr (v0,v1,v2,false,v3,v4,())))
abbrev z_:=List LDCn
def mP(a0:z_)(a1:LDOp):f_:=let x0:=f6 a0.length;bif(decide (x0>4))then(some (false,()))else let x1:=f6 a1.length;bif(x1 != 8)then(some (false,()))else let x2:=f6 a0.length;
(match gc mb NN (a0,x2,0,a0,a1,())with
|none=>none
|some (.inl (x3,_))=>some (x3,())
|some (.inr (_,_,_,_,x7,x8,_))=>let x9:=f6 x8.length;
(match gc oS NN (x8,x9,0,x7,x8,())with
|none=>none
|some (.inl (ac,_))=>some (ac,())
|some (.inr (_,_))=>some (true,())))
def FV:X.Cfg:=⟨E0,[jl],[],[⟨6,0,qS (zaa 1::sP 18 (yaa gk)::il [19,20]) [(4,uae)],[(.ret,qS zat []),(.exit 0,qS [zaa 1,sP 18 (yaa gk),Uaa 19,Uaa 20,Xaa 21] [(4,uae)])]⟩,⟨20,1,qE,[(.normal,qS [zaa 1,sP 29 jm,Uaa 30,Uaa 31,Xaa 81] [(4,uae),(14,uaj)])]⟩,⟨15,2,qS (zaa 1::sP 29 jm::il [30,31]) [(4,uae)],[(.ret,qS zat []),(.exit 2,qS [zaa 1,sP 29 jm,Uaa 30,Uaa 31,Xaa 32] [(4,uae)])]⟩]⟩
def sZ:Ctr:=⟨146,19,[.agg uae],[],[⟨zab,[.one],[]⟩],ap2 mP⟩
theorem xM:Lk 3 sZ:=ls FV (aC jZ aN)
def vY:T1N->Option (T1N⊕(LLI×Int×Int×Bool×T0Q)):=λ(v0,v1,v2,v3,v4,v5,v6,_)=>bif(decide (v2<v1))then((gj v2).bind λx0=>
(fU v6 x0).bind λ_=>
(fU v6 x0).bind λ_=>let x3:=v6.modify x0 λe=>((-1),e.2);let x4:=w64 (v2+1);some (.inl (v0,v1,x4,v3,v4,v5,x3,())))else some (.inr (v0,v1,v2,false,v3,v4,v5,v6,()))
def vW:T2G->Option (T2G⊕(LLI×Int×Int×LI×Int×Int×Bool×T17)):=λ(v0,v1,v2,v3,v4,v5,v6,v7,v8,v9,eq,_)=>bif(decide (v5<v4))then((gj v5).bind λx0=>
(fU v3 x0).bind λx1=>let x2:LDCn:=[(0,(x1,(0,0)))];bif(gl 24 eq.length x2.length)then let x3:LDCn:=(List.append eq x2);let x4:=w64 (v5+1);some (.inl (v0,v1,v2,v3,v4,x4,v6,v7,v8,v9,x3,()))else none)else some (.inr (v0,v1,v2,v3,v4,v5,false,v6,v7,v8,v9,eq,()))
def vV:T1M->Option (T1M⊕(LLI×T1w)):=λ(v0,v1,v2,v3,v4,v5,v6,_)=>bif(decide (v2<v1))then((gj v2).bind λx0=>
(fU v0 x0).bind λx1=>let x2:=f6 x1.length;
(gc vW NN (v0,v1,v2,x1,x2,0,v3,v4,v5,v6,[],())).bind λ(x3,x4,x5,_,_,_,_,ac,ae,af,ag,ah,_)=>bif(gl 24 af.length (List.length [ah]))then let ai:z_:=(List.append af [ah]);let aj:=w64 (x5+1);some (.inl (x3,x4,aj,ac,ae,ai,ag,()))else none)else some (.inr (v0,v1,v2,false,v3,v4,v5,v6,()))
def sx(a0:LLI):Option (LLCn×LDOp×Int×Unit):=bif(xJ 8 8 3)then let x0:LDOp:=(List.replicate 8 (0,(0,false)));let x1:=f6 x0.length;
(gc vY NN (a0,x1,0,(),(),(),x0,())).bind λ(x2,_,_,_,x6,x7,_,x9,_)=>let ac:=f6 x2.length;
(gc vV NN (x2,ac,0,x6,x7,[],x9,())).bind λ(_,_,_,_,_,_,ak,am,_)=>
(mP ak am).bind λ(an,_)=>bif(!an)then(some ([],[],3,()))else some (ak,am,0,())else none
def Ki:X.Cfg:=⟨E0,[sZ],[(46,(uaa KCn)),(47,(uaa KCn))],[(lx 4 0 (sP 0 (yaa RW)::zl [2,4]++il [15,16]) [(6,uac),(10,uL [N1,(uaa KOp)])] 17),⟨19,1,qS (zl [2,4]++Zaa 8 19::sP 25 (yaa RW)::il [26,27]++sP 31 RW::il [32,33]) Uaq,[(.exit 4,qS (zl [2,4]++Zaa 8 19::sP 25 (yaa RW)::il [26,27]++sP 31 RW::il [32,33]++[Xaa 34]) Uaq)]⟩,⟨11,2,qS (zl [2,4]++sP 25 (yaa RW)::il [26,27]) [(6,uac),(10,zaf)],[(.exit 2,qS (zl [2,4]++sP 25 (yaa RW)::il [26,27]++[Xaa 28]) [(6,uac),(10,zaf)])]⟩]⟩
def CV:Ctr:=⟨151,20,uL [(yaa RW)],[],[⟨Uak,[.agg 2,.one],[]⟩],ap1 sx⟩
theorem J7:Lk 4 CV:=ls Ki (aC xM aN)
def iF:LLI×Int×Int×LLI×Unit->Option ((LLI×Int×Int×LLI×Unit)⊕(LLI×Int×Int×Bool×LLI×Unit)):=λ(v0,v1,v2,v3,_)=>bif(decide (v2<v1))then((gj v2).bind λx0=>
(fU v0 x0).bind λx1=>bif(gl 2 0 x1.length)then let x2:v_:=(List.append [] x1);bif(gl 24 v3.length (List.length [x2]))then let x3:List LI:=(List.append v3 [x2]);let x4:=w64 (v2+1);some (.inl (v0,v1,x4,x3,()))else none else none)else some (.inr (v0,v1,v2,false,v3,()))
def iK(a0:LLI):Option (LLI×Unit):=let x0:=f6 a0.length;
(gc iF NN (a0,x0,0,[],())).bind λ(_,_,_,_,x5,_)=>some (x5,())
def xZ:X.Cfg:=⟨E0,[],[(15,(uaa CW)),(16,(uaa CW))],[(lx 4 0 (Zaa 3 9::sP 6 (yaa RW)::il [7,8]) [(9,yaj)] 9)]⟩
def kK:Ctr:=⟨148,21,uL [(yaa RW)],[],[⟨yaj,[.one],[]⟩],ap1 iK⟩
theorem nv:Lk 1 kK:=ls xZ aN
def kF:LDOu×T02->Option ((LDOu×T02)⊕((Bool×Unit)⊕(LDOu×T0f))):=λ(v0,v1,v2,_)=>bif(decide (v2<v1))then((gj v2).bind λx0=>
(fU v0 x0).bind λx1=>
(bif(x1.1 != v2)then(some (v0,v1,v2,true,()))else bif(decide (x1.2.1<0))then(some (v0,v1,v2,true,()))else bif(decide (x1.2.1>=2))then(some (v0,v1,v2,true,()))else let x2:=f6 x1.2.2.length;some (v0,v1,v2,(decide (x2>16)),()):Option (LDOu×T0f)).bind λ(x2,x3,x4,x5,_)=>bif x5 then(some (.inr (.inl (false,()))))else let x6:=w64 (x4+1);some (.inl (x2,x3,x6,())))else some (.inr (.inr (v0,v1,v2,false,())))
def mO(a0:LDOu):f_:=let x0:=f6 a0.length;
(match gc kF NN (a0,x0,0,())with
|none=>none
|some (.inl (x1,_))=>some (x1,())
|some (.inr (_,_))=>some (true,()))
def Cl:X.Cfg:=⟨E0,[],[],[⟨8,0,qE,[(.normal,qS [sP 5 lp,Uaa 6,Uaa 7,Xaa 31] [])]⟩,⟨3,1,qS (sP 5 lp::il [6,7]) [],[(.ret,qS zat []),(.exit 0,qS [sP 5 lp,Uaa 6,Uaa 7,Xaa 8] [])]⟩]⟩
def uS:Ctr:=⟨147,22,uL [lp],[],[⟨zab,[.one],[]⟩],ap1 mO⟩
theorem BX:Lk 1 uS:=ls Cl aN
def ma:T2l->Option (T2l⊕((Bool×Unit)⊕(LLI×T24))):=λ(v0,v1,v2,v3)=>bif(decide (v2<v1))then((gj v2).bind λx0=>
(fU v0 x0).bind λx1=>let x2:=f6 x1.length;bif(decide (x2>64))then(some (.inr (.inl (false,()))))else let x3:=w64 (v2+1);some (.inl (v0,v1,x3,v3)))else some (.inr (.inr (v0,v1,v2,false,v3)))
def l9:T2f->Option (T2f⊕((Bool×Unit)⊕(LDOu×T24))):=λ(v0,v1,v2,v3)=>bif(decide (v2<v1))then((gj v2).bind λx0=>
(fU v0 x0).bind λx1=>
(iu x1.2.2 16).bind λ(x2,_)=>bif(!x2)then(some (.inr (.inl (false,()))))else let x3:=w64 (v2+1);some (.inl (v0,v1,x3,v3)))else some (.inr (.inr (v0,v1,v2,false,v3)))
def lw(a0 a1:LI)(a2:LLI)(a3:z_)(a4:LDOp)(a5:LDOu):f_:=let x0:=f6 a2.length;
(match gc ma NN (a2,x0,0,a0,a1,a2,a3,a4,a5,())with
|none=>none
|some (.inl (x1,_))=>some (x1,())
|some (.inr (_,_,_,_,x5,x6,x7,x8,x9,ac,_))=>let ae:=f6 ac.length;
(match gc l9 NN (ac,ae,0,x5,x6,x7,x8,x9,ac,())with
|none=>none
|some (.inl (af,_))=>some (af,())
|some (.inr (_,_,_,_,aj,ak,am,an,ap,aq,_))=>let av:=f6 aj.length;bif(decide (av<=64))then(let ax:Int:=(f6 ak.length);bif(decide (ax<=64))then(let ay:Int:=(f6 am.length);bif(decide (ay<=2))then((mP an ap).bind λ(az,_)=>bif az then(let aA:Int:=(f6 aq.length);bif(decide (aA<=200))then((mO aq).bind λ(aB,_)=>some (aB,()))else some (false,()))else some (false,()))else some (false,()))else some (false,()))else some (false,())))
def FR:X.Cfg:=⟨E0,[jl,sZ,uS],[],[⟨3,0,qS (zaa 1::sP 8 (yaa RW)::il [9,10]) [(4,uah)],[(.ret,qS zat []),(.exit 0,qS [zaa 1,sP 8 (yaa RW),Uaa 9,Uaa 10,Xaa 11] [(4,uah)])]⟩,⟨12,1,qS (zaa 1::sP 19 lp::il [20,21]) [(4,uah)],[(.ret,qS zat []),(.exit 2,qS [zaa 1,sP 19 lp,Uaa 20,Uaa 21,Xaa 22] [(4,uah)])]⟩]⟩
def pQ:Ctr:=⟨125,23,[.agg uah],[],[⟨zab,[.one],[]⟩],ap6 lw⟩
theorem sM:Lk 4 pQ:=ls FR (aC jZ (aC xM (aC BX aN)))
def sw(a0 a1:LLI)(a2 a3:LI):Option (LI×LI×LLI×LLCn×LDOp×Unit×Int×Unit):=
(sx a0).bind λ(x0,x1,x2,_)=>bif(x2 != 0)then(some ([],[],[],[],[],(),x2,()))else bif(gl 2 0 a2.length)then let x3:v_:=(List.append [] a2);bif(gl 2 0 a3.length)then let x4:v_:=(List.append [] a3);
(iK a1).bind λ(x5,_)=>
(lw x3 x4 x5 x0 x1 []).bind λ(x6,_)=>bif(!x6)then(some ([],[],[],[],[],(),3,()))else some (x3,x4,x5,x0,x1,(),0,())else none else none
def FT:X.Cfg:=⟨E0,[CV,kK,pQ],[],[]⟩
def yl:Ctr:=⟨129,24,uL [(yaa RW),(yaa RW),RW,RW],[],[⟨uL [RW,RW,(yaa RW),(yaa gk),jm,N1,I64],[.agg 6,.one],[]⟩],ap4 sw⟩
theorem Fh:Lk 5 yl:=ls FT (aC J7 (aC nv (aC sM aN)))
def om(a0:LI)(a1:Int):Option (LI×LI×LLI×LLCn×LDOp×Unit×T08):=
(iX 5 a0 a1).bind λ(x0,x1,x2,_)=>
(iX 3 x1 x2).bind λ(x3,x4,x5,_)=>let x6:List LI:=[x0,x3];
(iX 8 x4 x5).bind λ(x7,x8,x9,_)=>
(iX 4 x8 x9).bind λ(ac,ae,af,_)=>let ag:List LI:=[x7,ac];
(iX 5 ae af).bind λ(ah,ai,aj,_)=>
(iX 5 ai aj).bind λ(ak,am)=>
(sw x6 ag ah ak).bind λ(ap,aq,av,ax,ay,az,_,_)=>some (ap,aq,av,ax,ay,az,am)
def D1:X.Cfg:=⟨E0,[vk,yl],[(10,(uaa CW)),(15,(uaa CW))],[]⟩
def wO:Ctr:=⟨95,25,[.ptr ⟨2,0,[]⟩ [0]],[(2,uab)],[⟨uL [RW,RW,(yaa RW),(yaa gk),jm,N1],[.agg 6],[(2,uab)]⟩],ap2 om⟩
theorem Dz:Lk 6 wO:=ls D1 (aC Ad (aC Fh aN))
def mi:T2J->Option (T2J⊕((Bool×Unit)⊕T2P)):=λ(v0,v1,v2,v3,v4,v5,v6,v7,v8,v9,eq,eE,_)=>bif(decide (v1<v0))then((gj v1).bind λx0=>
(fU eE x0).bind λ_=>
(fU eE x0).bind λx2=>
(bif(decide (x2<0))then(some (v0,v1,true,v2,v3,v4,v5,v6,v7,v8,v9,eq,eE,()))else bif(decide (x2>=8))then(some (v0,v1,true,v2,v3,v4,v5,v6,v7,v8,v9,eq,eE,()))else
(gj v1).bind λx3=>bif(Nat.beq x3 0)then(bif(!v7)then(some (v0,v1,(x2 != 0),v2,v3,v4,v5,v6,v7,v8,v9,eq,eE,()))else some (v0,v1,false,v2,v3,v4,v5,v6,v7,v8,v9,eq,eE,()))else bif(Nat.beq x3 1)then(bif(!v8)then(some (v0,v1,(x2 != 0),v2,v3,v4,v5,v6,v7,v8,v9,eq,eE,()))else some (v0,v1,false,v2,v3,v4,v5,v6,v7,v8,v9,eq,eE,()))else bif(Nat.beq x3 2)then(bif(!v9)then(some (v0,v1,(x2 != 0),v2,v3,v4,v5,v6,v7,v8,v9,eq,eE,()))else some (v0,v1,false,v2,v3,v4,v5,v6,v7,v8,v9,eq,eE,()))else bif(Nat.beq x3 3)then bif(!eq)then(some (v0,v1,(x2 != 0),v2,v3,v4,v5,v6,v7,v8,v9,eq,eE,()))else some (v0,v1,false,v2,v3,v4,v5,v6,v7,v8,v9,eq,eE,())else none:Option (T2P)).bind λ(x3,x4,x5,x6)=>bif x5 then(some (.inr (.inl (false,()))))else let aj:=w64 (x4+1);some (.inl (x3,aj,x6)))else some (.inr (.inr (v0,v1,false,v2,v3,v4,v5,v6,v7,v8,v9,eq,eE,())))
def pi(a0 a1 a2 a3 a4:Int):f_:=bif(decide (a0<0))then(some (false,()))else bif(decide (a0>24))then(some (false,()))else
(kW a0).bind λ(x0,x1,x2,x3,_)=>let x4:v_:=[a1,a2,a3];let x5:=f6 x4.length;
(match gc mi NN (x5,0,a0,a1,a2,a3,a4,x0,x1,x2,x3,x4,())with
|none=>none
|some (.inl (x6,_))=>some (x6,())
|some (.inr (_,_,_,x9,ac,ae,af,ag,_,_,_,ak,_,_))=>
(bif(decide (ag<0))then(some (true,x9,ac,ae,af,ag,()))else bif(decide (ag>65535))then(some (true,x9,ac,ae,af,ag,()))else bif(!ak)then(some ((ag != 0),x9,ac,ae,af,ag,()))else some (false,x9,ac,ae,af,ag,()):Option (Bool×T0V)).bind λ(an,ap,_,_,_,ay,_)=>bif an then(some (false,()))else
(iW ap).bind λ(az,_)=>bif az then(some ((decide (ay<64)),()))else bif(ap==15)then(some ((decide (ay<4)),()))else bif(ap==23)then(some ((decide (ay<=15)),()))else some (true,()))
def Gf:X.Cfg:=⟨E0,[u5,mF],[],[⟨12,0,qE,[(.normal,qS (zl [1,3]++Zaa 23 49::il [24,25]++[Xaa 45]) yap)]⟩,⟨7,1,qS (zl [1,3]++Zaa 23 49::il [24,25]) yap,[(.ret,qS zat []),(.exit 0,qS (zl [1,3]++Zaa 23 49::il [24,25]++[Xaa 26]) yap)]⟩,⟨15,2,qE,[(.normal,qS [zaa 1,Xaa 64] [(4,zae)])]⟩]⟩
def yy:Ctr:=⟨76,26,[.agg zae],[],[⟨zab,[.one],[]⟩],ap5 pi⟩
theorem Ft:Lk 2 yy:=ls Gf (aC zZ (aC oJ aN))
def mh:T1s->Option (T1s⊕((Int×Unit)⊕T1L)):=λ(v0,v1,v2,v3,v4,v5,_)=>bif(decide (v2<v1))then((gj v2).bind λx0=>
(fU v0 x0).bind λx1=>let x2:=f6 x1.length;
(gj v2).bind λx3=>
(fU v4 x3).bind λx4=>bif(decide (x2>x4))then(some (.inr (.inl (1,()))))else let x5:=w64 (v2+1);some (.inl (v0,v1,x5,v3,v4,v5,())))else some (.inr (.inr (v0,v1,v2,false,v3,v4,v5,())))
def mg:T1k->Option (T1k⊕((Int×Unit)⊕T1I)):=λ(v0,v1,v2,v3)=>bif(decide (v2<v1))then((gj v2).bind λx0=>
(fU v0 x0).bind λx1=>
(pi x1.1 x1.2.1 x1.2.2.1 x1.2.2.2.1 x1.2.2.2.2).bind λ(x2,_)=>bif(!x2)then(some (.inr (.inl (5,()))))else let x3:=w64 (v2+1);some (.inl (v0,v1,x3,v3)))else some (.inr (.inr (v0,v1,v2,false,v3)))
def mf:T1k->Option (T1k⊕((Int×Unit)⊕T1I)):=λ(v0,v1,v2,v3,v4,v5,_)=>bif(decide (v2<v1))then((gj v2).bind λx0=>
(fU v0 x0).bind λx1=>
((iW x1.1).bind λ(x2,_)=>bif x2 then(let x3:Int:=(f6 v3.length);bif(decide (x1.2.2.2.2>=x3))then(some (v0,v1,v2,true,v3,v4,v5,()))else bif(x1.1==15)then(let x4:Int:=(f6 v4.length);some (v0,v1,v2,(decide (x1.2.2.2.2>=x4)),v3,v4,v5,()))else some (v0,v1,v2,false,v3,v4,v5,()))else bif(x1.1==15)then(let x3:Int:=(f6 v4.length);some (v0,v1,v2,(decide (x1.2.2.2.2>=x3)),v3,v4,v5,()))else some (v0,v1,v2,false,v3,v4,v5,()):Option (T1I)).bind λ(x2,x3,x4,x5,x6)=>bif x5 then(some (.inr (.inl (6,()))))else let x9:=w64 (x4+1);some (.inl (x2,x3,x9,x6)))else some (.inr (.inr (v0,v1,v2,false,v3,v4,v5,())))
def ly(a0:LDIn)(a1:LI)(a2:LLI):h_:=
(iT a1).bind λ(x0,_)=>bif(!x0)then(some (1,()))else let x1:=f6 a2.length;let x2:=f6 a1.length;bif(x1 != x2)then(some (1,()))else let x3:=f6 a2.length;
(match gc mh NN (a2,x3,0,a0,a1,a2,())with
|none=>none
|some (.inl (x4,_))=>some (x4,())
|some (.inr (_,_,_,_,x8,x9))=>let ae:=f6 x8.length;bif(decide (ae<1))then(some (3,()))else let af:=f6 x8.length;bif(decide (af>64))then(some (3,()))else let ag:=f6 x8.length;
(match gc mg NN (x8,ag,0,x8,x9)with
|none=>none
|some (.inl (ah,_))=>some (ah,())
|some (.inr (_,_,_,_,am,an))=>let aq:=f6 am.length;
(match gc mf NN (am,aq,0,am,an)with
|none=>none
|some (.inl (av,_))=>some (av,())
|some (.inr (_,_))=>some (0,()))))
def Ge:X.Cfg:=⟨E0,[pV,yy,mF],[],[⟨6,0,qS (zaa 1::sP 23 (yaa RW)::il [24,25]) yam,[(.ret,qS Xat []),(.exit 0,qS [zaa 1,sP 23 (yaa RW),Uaa 24,Uaa 25,Xaa 26] yam)]⟩,⟨18,1,qS (zaa 1::sP 50 gS::il [51,52]) yam,[(.ret,qS Xat []),(.exit 2,qS [zaa 1,sP 50 gS,Uaa 51,Uaa 52,Xaa 53] yam)]⟩,⟨32,2,qE,[(.normal,qS [zaa 1,sP 61 gS,Uaa 62,Uaa 63,Xaa 90] yam)]⟩,⟨27,3,qS (zaa 1::sP 61 gS::il [62,63]) yam,[(.ret,qS Xat []),(.exit 4,qS [zaa 1,sP 61 gS,Uaa 62,Uaa 63,Xaa 64] yam)]⟩]⟩
def pT:Ctr:=⟨45,27,[.agg yab],[],[⟨yac,[.one],[]⟩],ap3 ly⟩
theorem sQ:Lk 3 pT:=ls Ge (aC sS (aC Ft (aC oJ aN)))
def mn:T2F->Option (T2F⊕((Bool×Unit)⊕T2N)):=λ(v0,v1,v2,v3,v4,v5,v6,v7,v8,v9)=>bif(decide (v8<v7))then((match((gj v8).bind λx0=>
(fU v6 x0).bind λx1=>
(gj v1).bind λx2=>
(fU v0 x2).bind λx3=>let x4:=w64 (v2+x3);bif(decide (x4>=x1))then((gj v8).bind λx5=>
(fU v0 x5).bind λx6=>let x7:=w64 (x1+x6);bif(decide (x7>=v2))then(some (.inl (false,())))else some (.inr (v0,v1,v2,v3,v4,v5,v6,v7,v8,false,v9)))else some (.inr (v0,v1,v2,v3,v4,v5,v6,v7,v8,false,v9)):Option ((Bool×Unit)⊕T2N))with
|none=>none
|some (.inl (x0,_))=>some (.inr (.inl (x0,())))
|some (.inr (x0,x1,x2,x3,x4,x5,x6,x7,x8,_,ac))=>let af:=w64 (x8+1);some (.inl (x0,x1,x2,x3,x4,x5,x6,x7,af,ac))))else some (.inr (.inr (v0,v1,v2,v3,v4,v5,v6,v7,v8,false,v9)))
def ml:T1o->Option (T1o⊕((Bool×Unit)⊕(LI×T1m))):=λ(v0,v1,v2,v3,v4,v5,_)=>bif(decide (v3<v2))then((gj v3).bind λx0=>
(fU v1 x0).bind λx1=>bif(decide (x1<0))then(some (.inr (.inl (false,()))))else
(gj v3).bind λx2=>
(fU v0 x2).bind λx3=>let x4:=w64 (512-x3);bif(decide (x1>x4))then(some (.inr (.inl (false,()))))else
(gj v3).bind λx5=>bif(iO 0 x5 v4.length)then let x6:v_:=(nG v4 0 (Nat.sub x5 0));let x7:=f6 x6.length;
(match gc mn NN (v0,v3,x1,v1,v2,v3,x6,x7,0,v4,v5,())with
|none=>none
|some (.inl (x8,_))=>some (.inr (.inl (x8,())))
|some (.inr (x8,_,_,ae,af,ag,_,_,_,_,am))=>let ap:=w64 (ag+1);some (.inl (x8,ae,af,ap,am)))else none)else some (.inr (.inr (v0,v1,v2,v3,false,v4,v5,())))
def jT(a0:LI)(a1:Int)(a2:LI):f_:=
(iT a2).bind λ(x0,_)=>bif(!x0)then(some (false,()))else let x1:=f6 a0.length;let x2:=f6 a2.length;bif(x1 != x2)then(some (false,()))else let x3:=f6 a0.length;
(match gc ml NN (a2,a0,x3,0,a0,a1,())with
|none=>none
|some (.inl (x4,_))=>some (x4,())
|some (.inr (_,_))=>some (true,()))
def Gl:X.Cfg:=⟨E0,[pV],[],[⟨18,0,qE,[(.ret,qS Uat []),(.normal,qS [sP 1 RI,zaa 2,Uaa 5,Uaa 6,sP 21 RI,Uaa 22,Uaa 23,sP 42 RI,Uaa 43,Uaa 44,Xaa 66] zam)]⟩,⟨15,1,qS (sP 1 RI::zaa 2::il [5,6]++sP 21 RI::il [22,23]++sP 42 RI::il [43,44]) zam,[(.ret,qS Uat []),(.exit 2,qS [sP 1 RI,zaa 2,Uaa 5,Uaa 6,sP 21 RI,Uaa 22,Uaa 23,sP 42 RI,Uaa 43,Uaa 44,Xaa 45] zam)]⟩,⟨6,2,qS [sP 1 RI,zaa 2,sP 21 RI,Uaa 22,Uaa 23] zam,[(.ret,qS Uat []),(.exit 0,qS [sP 1 RI,zaa 2,sP 21 RI,Uaa 22,Uaa 23,Xaa 24] zam)]⟩]⟩
def nE:Ctr:=⟨33,28,[.agg Uab,shU RI],[],[⟨zab,[.one],[]⟩],ap3 jT⟩
theorem pK:Lk 2 nE:=ls Gl (aC sS aN)
def AN:Int×Int×LDLn×Unit->Option ((Int×Int×LDLn×Unit)⊕(Int×Int×Bool×LDLn×Unit)):=λ(v0,v1,v2,_)=>bif(decide (v1<v0))then((gj v1).bind λx0=>
(fU v2 x0).bind λ_=>
(fU v2 x0).bind λ_=>let x3:=v2.modify x0 λe=>((-1),e.2);let x4:=w64 (v1+1);some (.inl (v0,x4,x3,())))else some (.inr (v0,v1,false,v2,()))
def pm:Option (LDLn×Unit):=bif(xJ 4 4 3)then let x0:LDLn:=(List.replicate 4 (0,(false,[])));let x1:=f6 x0.length;
(gc AN NN (x1,0,x0,())).bind λ(_,_,_,x5,_)=>some (x5,())else none
def Gk:X.Cfg:=⟨E0,[],[(3,Sr)],[(lx 4 0 (Zaa 1 5::il [5,6]) [(5,uL [iB])] 7)]⟩
def tg:Ctr:=⟨36,29,[],[],[⟨uL [iB],[.one],[]⟩],λh=>pm⟩
theorem xT:Lk 1 tg:=ls Gk aN
def uh:T30->Option (T30⊕(Int×LLI×Int×Int×LI×T2I)):=λ(v0,v1,v2,v3,v4,v5,v6,v7,v8,v9,eq,eE,eG,eI,eK,eO,_)=>bif(decide (v6<v5))then((gj v6).bind λx0=>
(fU v4 x0).bind λx1=>
(gj v0).bind λx2=>
(fU eq x2).bind λx3=>let x4:=w64 (x3+v6);
(gj x4).bind λx5=>
(fU eK x5).bind λ_=>
(fU eK x5).bind λ_=>let x8:=eK.modify x5 λe=>(e.1,x1);let x9:=w64 (v6+1);some (.inl (v0,v1,v2,v3,v4,v5,x9,v7,v8,v9,eq,eE,eG,eI,x8,eO,())))else some (.inr (v0,v1,v2,v3,v4,v5,v6,false,v7,v8,v9,eq,eE,eG,eI,eK,eO,()))
def qi:T2O->Option (T2O⊕(T0k⊕(LLI×T2I))):=λ(v0,v1,v2,v3,v4,v5)=>bif(decide (v2<v1))then((gj v2).bind λx0=>
(fU v0 x0).bind λx1=>let x2:=f6 x1.length;
(gj v2).bind λx3=>
(fU v4 x3).bind λx4=>bif(decide (x2>x4))then(some (.inr (.inl (1,(),(),()))))else let x5:=f6 x1.length;
(gc uh NN (v2,v0,v1,v2,x1,x5,0,v3,v4,v5)).bind λ(_,x7,x8,x9,_,_,_,_,ah)=>let ax:=w64 (x9+1);some (.inl (x7,x8,ax,ah)))else some (.inr (.inr (v0,v1,v2,false,v3,v4,v5)))
def qZ(a0:LDIn)(a1:LI)(a2:LLI)(a3:LI)(a4:Int):Option (LDCe×LDLn×Int×Unit):=
(jT a3 a4 a1).bind λ(x0,_)=>bif(!x0)then(some ([],[],1,()))else let x1:=f6 a2.length;let x2:=f6 a1.length;bif(x1 != x2)then(some ([],[],1,()))else bif(xJ 512 512 2)then let x3:LDCe:=(List.replicate 512 (0,0));
(pm).bind λ(x4,_)=>let x5:=f6 a2.length;
(match gc qi NN (a2,x5,0,a0,a1,a2,a3,a4,(),(),x3,x4,())with
|none=>none
|some (.inl (x6,_,_,_))=>some ([],[],x6,())
|some (.inr (_,_,_,_,_,_,_,_,_,_,_,ak,am,_))=>some (ak,am,0,()))else none
def IV:X.Cfg:=⟨E0,[nE,tg],[],[⟨16,0,qS (zl [2,3,4,6]++Uaa 7::sP 30 (yaa RW)::il [31,32]++sP 46 RW::il [47,48]) yao,[(.exit 2,qS (zl [2,3,4,6]++Uaa 7::sP 30 (yaa RW)::il [31,32]++sP 46 RW::il [47,48]++[Xaa 49]) yao)]⟩,⟨7,1,qS (zl [2,3,4,6]++sP 30 (yaa RW)::il [31,32]) yao,[(.ret,qS Zau [(10,uac)]),(.exit 0,qS (zl [2,3,4,6]++sP 30 (yaa RW)::il [31,32]++[Xaa 33]) yao)]⟩]⟩
def AC:Ctr:=⟨64,30,[.agg yab,.agg Uab],[],[⟨uL [(uaa KCe),iB,I64],[.agg 2,.one],[]⟩],ap5 qZ⟩
theorem Ig:Lk 3 AC:=ls IV (aC pK (aC xT aN))
def tK:T2A->Option (T2A⊕(Int×Bool×T2x)):=λ(v0,v1,v2,v3,v4,v5,v6,v7,v8,v9,eq,_)=>bif(decide (v0<4))then(bif(xJ 8 8 2)then let x0:LDCe:=(List.replicate 8 (0,0));
(bif(v0==0)then(some (v0,v1,v2,v3,v4,v5,v6,v7,v8,v9,eq,1,x0,0,0,(-1),(-1),0,0,()))else some (v0,v1,v2,v3,v4,v5,v6,v7,v8,v9,eq,0,x0,0,0,(-1),(-1),0,0,()):Option (Int×Unit×Int×Unit×Unit×Unit×T2R)).bind λ(x1,x2,x3,x4,x5,x6,x7,x8,x9,ac,ae,af,ag,ah,ai,aj,ak,am,an,_)=>let ap:LDTh:=[(af,(ag,(ah,(ai,(aj,(ak,(am,an)))))))];bif(gl 80 ae.length ap.length)then let aq:LDTh:=(List.append ae ap);let av:=w64 (x1+1);some (.inl (av,x2,x3,x4,x5,x6,x7,x8,x9,ac,aq,()))else none else none)else some (.inr (v0,false,v1,v2,v3,v4,v5,v6,v7,v8,v9,eq,()))
def m7(a0:LDIn)(a1:LI)(a2:LLI)(a3:LI)(a4:Int):Option (LI×Int×LDCe×LDLn×LDTh×Int×Unit):=
(ly a0 a1 a2).bind λ(x0,_)=>bif(x0 != 0)then(some ([],0,[],[],[],x0,()))else
(jT a3 a4 a1).bind λ(x1,_)=>bif(!x1)then(some ([],0,[],[],[],1,()))else
(qZ a0 a1 a2 a3 a4).bind λ(x2,x3,_,_)=>bif(gl 8 0 a3.length)then let x5:v_:=(List.append [] a3);
(gc tK NN (0,(),0,(),(),(),x5,a4,x2,x3,[],())).bind λ(_,_,_,_,_,_,_,ag,ah,ai,aj,ak,_)=>some (ag,ah,ai,aj,ak,0,())else none
def Gd:X.Cfg:=⟨E0,[pT,nE,AC],[(49,Sq),(50,Sq)],[⟨18,0,qE,[(.normal,qS (zl [4,9,11]++[Uaa 38]) [(10,Zab),(20,Xak),(24,Zaf)])]⟩,(lx 12 1 [zaa 4,zaa 9,Uaa 38] [(10,Zab),(20,Xak)] 39)]⟩
def s9:Ctr:=⟨38,31,[.agg yab,.agg Uab],[],[⟨uL [RI,CW,ig,i8,qD,I64],[.agg 5,.one],[]⟩],ap5 m7⟩
theorem xQ:Lk 4 s9:=ls Gd (aC sQ (aC pK (aC Ig aN)))
def hU(a0:LI)(a1 a2:Int):f_:=bif(decide (a1>=0))then(let x0:Int:=(f6 a0.length);bif(decide (a1<x0))then(bif(decide (a2>=0))then((gj a1).bind λx1=>
(fU a0 x1).bind λx2=>some ((decide (a2<x2)),()))else some (false,()))else some (false,()))else some (false,())
def DQ:X.Cfg:=⟨E0,[],[],[]⟩
def lX:Ctr:=⟨63,32,[shU RI,.agg uad],[],[⟨zab,[.one],[]⟩],ap3 hU⟩
theorem ov:Lk 1 lX:=ls DQ aN
def it(a0:LI)(a1 a2 a3 a4:Int):f_:=bif(a1==0)then(bif(a3==0)then(some ((a4==0),()))else some (false,()))else bif(a1==2)then(bif(a3==0)then(some ((a4==0),()))else some (false,()))else bif(a1==1)then(bif(a2==0)then((hU a0 a3 a4).bind λ(x0,_)=>some (x0,()))else some (false,()))else some (false,())
def DP:X.Cfg:=⟨E0,[lX],[],[]⟩
def lW:Ctr:=⟨35,33,[shU RI,.agg yag],[],[⟨zab,[.one],[]⟩],ap5 it⟩
theorem ou:Lk 2 lW:=ls DP (aC ov aN)
def lu:T2j->Option (T2j⊕((Bool×Unit)⊕(LI×LLCn×Int×Int×LDCn×T0U))):=λ(v0,v1,v2,v3,v4,v5,v6,v7)=>bif(decide (v6<v5))then((gj v6).bind λx0=>
(fU v4 x0).bind λx1=>
(it v0 x1.1 x1.2.1 x1.2.2.1 x1.2.2.2).bind λ(x2,_)=>bif(!x2)then(some (.inr (.inl (false,()))))else let x3:=w64 (v6+1);some (.inl (v0,v1,v2,v3,v4,v5,x3,v7)))else some (.inr (.inr (v0,v1,v2,v3,v4,v5,v6,false,v7)))
def lr:LI×T13->Option ((LI×T13)⊕((Bool×Unit)⊕(LI×LLCn×T0U))):=λ(v0,v1,v2,v3,v4)=>bif(decide (v3<v2))then((gj v3).bind λx0=>
(fU v1 x0).bind λx1=>let x2:=f6 x1.length;
(match gc lu NN (v0,v1,v2,v3,x1,x2,0,v4)with
|none=>none
|some (.inl (x3,_))=>some (.inr (.inl (x3,())))
|some (.inr (x3,x4,x5,x6,_,_,_,_,ae))=>let ag:=w64 (x6+1);some (.inl (x3,x4,x5,ag,ae))))else some (.inr (.inr (v0,v1,v2,v3,false,v4)))
def n9(a0:LI)(a1:z_)(a2:LDOp):f_:=let x0:=f6 a1.length;
(match gc lr NN (a0,a1,x0,0,a1,a2,())with
|none=>none
|some (.inl (x1,_))=>some (x1,())
|some (.inr (_,_))=>some (true,()))
def DH:X.Cfg:=⟨E0,[lW],[],[⟨9,0,qS (sP 0 RI::sP 10 (yaa gk)::il [11,12]++sP 16 gk::il [17,18]) [(8,uae)],[(.ret,qS Uat []),(.exit 2,qS [sP 0 RI,sP 10 (yaa gk),Uaa 11,Uaa 12,sP 16 gk,Uaa 17,Uaa 18,Xaa 19] [(8,uae)])]⟩,⟨3,1,qS (sP 0 RI::sP 10 (yaa gk)::il [11,12]) [(8,uae)],[(.ret,qS Uat []),(.exit 0,qS [sP 0 RI,sP 10 (yaa gk),Uaa 11,Uaa 12,Xaa 13] [(8,uae)])]⟩]⟩
def wy:Ctr:=⟨126,34,[shU RI,.agg uae],[],[⟨zab,[.one],[]⟩],ap3 n9⟩
theorem Dk:Lk 3 wy:=ls DH (aC ou aN)
def kQ:T2k->Option (T2k⊕(LLCn×T26)):=λ(v0,v1,v2,v3,v4,v5,v6,v7,v8,_)=>bif(decide (v2<v1))then((gj v2).bind λx0=>
(fU v0 x0).bind λx1=>bif(gl 24 0 x1.length)then let x2:LDCn:=(List.append [] x1);bif(gl 24 v7.length (List.length [x2]))then let x3:z_:=(List.append v7 [x2]);let x4:=w64 (v2+1);some (.inl (v0,v1,x4,v3,v4,v5,v6,x3,v8,()))else none else none)else some (.inr (v0,v1,v2,false,v3,v4,v5,v6,v7,v8,()))
def jd(a0:z_)(a1:LDOp):Option (T0a):=bif(gl 24 0 a1.length)then let x0:LDOp:=(List.append [] a1);let x1:=f6 a0.length;
(gc kQ NN (a0,x1,0,a0,a1,(),(),[],x0,())).bind λ(_,_,_,_,_,_,_,_,ac)=>some (ac)else none
def IB:X.Cfg:=⟨E0,[],[(21,(uaa KCn)),(22,(uaa KCn))],[(lx 4 0 (zl [2,3]++sP 11 (yaa gk)::il [12,13]) [(4,uae),(6,uac),(8,zaf)] 14)]⟩
def ln:Ctr:=⟨149,35,[.agg uae],[],[⟨zaf,[.agg 2],[]⟩],ap2 jd⟩
theorem mC:Lk 1 ln:=ls IB aN
def kO:LDOu×Int×Int×LDOu×Unit->Option ((LDOu×Int×Int×LDOu×Unit)⊕(LDOu×Int×Int×Bool×LDOu×Unit)):=λ(v0,v1,v2,v3,_)=>bif(decide (v2<v1))then((gj v2).bind λx0=>
(fU v0 x0).bind λx1=>bif(gl 24 0 x1.2.2.length)then let x2:LDCn:=(List.append [] x1.2.2);let x3:LDOu:=[(x1.1,(x1.2.1,x2))];bif(gl 40 v3.length x3.length)then let x4:LDOu:=(List.append v3 x3);let x5:=w64 (v2+1);some (.inl (v0,v1,x5,x4,()))else none else none)else some (.inr (v0,v1,v2,false,v3,()))
def kP(a0:LDOu):Option (LDOu×Unit):=let x0:=f6 a0.length;
(gc kO NN (a0,x0,0,[],())).bind λ(_,_,_,_,x5,_)=>some (x5,())
def Iw:X.Cfg:=⟨E0,[],[(18,Jy),(19,Jy)],[(lx 4 0 (Zaa 3 9::sP 6 lp::il [7,8]) [(9,Zaj)] 9)]⟩
def uT:Ctr:=⟨150,36,uL [lp],[],[⟨Zaj,[.one],[]⟩],ap1 kP⟩
theorem zT:Lk 1 uT:=ls Iw aN
def qQ(a0 a1:LI)(a2:LLI)(a3:z_)(a4:LDOp)(a5:LDOu):Option (T1p):=bif(gl 2 0 a0.length)then let x0:v_:=(List.append [] a0);bif(gl 2 0 a1.length)then let x1:v_:=(List.append [] a1);
(iK a2).bind λ(x2,_)=>
(jd a3 a4).bind λ(x3,x4,_)=>
(kP a5).bind λ(x5,_)=>some (x0,x1,x2,x3,x4,x5,())else none else none
def It:X.Cfg:=⟨E0,[kK,ln,uT],[],[]⟩
def uQ:Ctr:=⟨127,37,[.agg uah],[],[⟨uak,[.agg 6],[]⟩],ap6 qQ⟩
theorem zS:Lk 2 uQ:=ls It (aC nv (aC mC (aC zT aN)))
def Dd:T1f->Option (T1f⊕T1v):=λ(v0,v1,v2,v3,v4,v5,_)=>bif(decide (v1<v0))then((gj v1).bind λx0=>
(fU v4 x0).bind λ_=>
(fU v4 x0).bind λ_=>let x3:=v4.modify x0 λe=>(-1);let x4:=w64 (v1+1);some (.inl (v0,x4,v2,v3,x3,v5,())))else some (.inr (v0,v1,false,v2,v3,v4,v5,()))
def wQ:Option (T09):=bif(xJ 4 4 1)then let x0:v_:=(List.replicate 4 0);bif(xJ 4 4 1)then let x1:List LI:=(List.replicate 4 []);let x2:=f6 x0.length;
(gc Dd NN (x2,0,(),(),x0,x1,())).bind λ(_,_,_,_,_,x8)=>some (x8)else none else none
def Kk:X.Cfg:=⟨E0,[],[(4,(uaa I64))],[(lx 4 0 (zl [0,1]++il [8,9]) [(2,uac),(4,uaf)] 10)]⟩
def CX:Ctr:=⟨128,38,[],[],[⟨uaf,[.agg 2],[]⟩],λh=>wQ⟩
theorem J8:Lk 1 CX:=ls Kk aN
def AM:T3S->Option (T3S⊕(Int×Bool×T3P)):=λ(v0,v1,v2,v3,v4,v5,v6,v7,v8,v9,eq,eE,eG,eI,eK,eO,eS,eW,eY,fa,fe,fh,fj,fm,fr,fv,fw,fA,fB,fC,fD,fE,fF,fG,fH,fI,fJ,_)=>bif(decide (v0<4))then(bif(gl 8 fJ.length (List.length [(-1)]))then let x0:v_:=(List.append fJ [(-1)]);let x1:=w64 (v0+1);some (.inl (x1,v1,v2,v3,v4,v5,v6,v7,v8,v9,eq,eE,eG,eI,eK,eO,eS,eW,eY,fa,fe,fh,fj,fm,fr,fv,fw,fA,fB,fC,fD,fE,fF,fG,fH,fI,x0,()))else none)else some (.inr (v0,false,v1,v2,v3,v4,v5,v6,v7,v8,v9,eq,eE,eG,eI,eK,eO,eS,eW,eY,fa,fe,fh,fj,fm,fr,fv,fw,fA,fB,fC,fD,fE,fF,fG,fH,fI,fJ,()))
def sr(a0:LDIn)(a1:LI)(a2:LLI)(a3:LI)(a4:Int)(a5 a6:LI)(a7:LLI)(a8:z_)(a9:LDOp)(ek:LDOu):Option (LDIn×LI×LLI×LI×Int×LDCe×LDLn×LDTh×LI×LI×LLI×LLCn×LDOp×LDOu×LI×LLI×Unit×T08):=
(m7 a0 a1 a2 a3 a4).bind λ(x0,x1,x2,x3,x4,x5,_)=>bif(x5 != 0)then(some ([],[],[],[],0,[],[],[],[],[],[],[],[],[],[],[],(),[],x5,()))else
(lw a5 a6 a7 a8 a9 ek).bind λ(x6,_)=>bif(!x6)then(some ([],[],[],[],0,[],[],[],[],[],[],[],[],[],[],[],(),[],1,()))else
(n9 a1 a8 a9).bind λ(x7,_)=>bif(!x7)then(some ([],[],[],[],0,[],[],[],[],[],[],[],[],[],[],[],(),[],1,()))else
(qQ a5 a6 a7 a8 a9 ek).bind λ(x8,x9,ac,ae,af,ag,_)=>
(wQ).bind λ(ah,ai,_)=>
(gc AM NN (0,(),(),(),(),0,(),(),(),(),(),(),(),(),(),(),(),(),(),a0,a1,a2,x0,x1,x2,x3,x4,x8,x9,ac,ae,af,ag,ah,ai,(),[],())).bind λ(_,_,_,_,_,_,_,_,_,_,_,_,_,_,_,_,_,_,_,_,aL,aM,aO,aP,aQ,aR,aS,aT,aU,aV,aW,aY,aZ,ba,bc,bd,be,bf,_)=>some (aL,aM,aO,aP,aQ,aR,aS,aT,aU,aV,aW,aY,aZ,ba,bc,bd,be,bf,0,())
def FP:X.Cfg:=⟨E0,[s9,pQ,wy,uQ,CX],[],[(lx 11 0 [zaa 6,zaa 10,Uaa 39] [(14,Uae),(22,uL [gS,RI,(yaa RW),RI,CW,ig,i8,qD,(uaa CW),(uaa CW),(uaa (uaa CW)),(uaa (uaa KCn)),(uaa KOp),(uaa Jy),(uaa I64),(uaa (uaa I64)),N1,(uaa I64)])] 40)]⟩
def yk:Ctr:=⟨93,39,[.agg yab,.agg Uab,.agg uah],[],[⟨uL [gS,RI,(yaa RW),RI,CW,ig,i8,qD,(uaa CW),(uaa CW),(uaa (uaa CW)),(uaa (uaa KCn)),(uaa KOp),(uaa Jy),(uaa I64),(uaa (uaa I64)),N1,(uaa I64),I64],[.agg 18,.one],[]⟩],as2 (as8 ap1) sr⟩
theorem Fg:Lk 5 yk:=ls FP (aC xQ (aC sM (aC Dk (aC zS (aC J8 aN)))))
def pD(a0:LI)(a1:Int):Option (T0T):=
(fV 4 a0 a1).bind λ(x0,x1,x2,_)=>let x3:v_:=[0,1,2,3,7,63];
(fV 6 x1 x2).bind λ(x4,x5,x6,_)=>
(gj x4).bind λx7=>
(fU x3 x7).bind λ_=>
(fU x3 x7).bind λx9=>
(fV 4 x5 x6).bind λ(ac,ae)=>some (x0,x9,(ac==0),ae)
def GF:X.Cfg:=⟨E0,[hJ],[],[]⟩
def yN:Ctr:=⟨97,40,[.ptr ⟨2,0,[]⟩ [0]],[(2,uab)],[⟨uaj,[.agg 3],[(2,uab)]⟩],ap2 pD⟩
theorem FJ:Lk 4 yN:=ls GF (aC ie aN)
def ke:T0H->Option (T0H⊕(LDTh×Int×Int×T00)):=λ(v0,v1,v2,v3,_)=>bif(decide (v2<v1))then(((gj v2).bind λx0=>
(fU v0 x0).bind λx1=>bif(x1.1==1)then(bif(gl 8 v3.length (List.length [v2]))then let x2:v_:=(List.append v3 [v2]);some (v0,v1,v2,x2,())else none)else some (v0,v1,v2,v3,()):Option (T0H)).bind λ(x0,x1,x2,x3,_)=>let x4:=w64 (x2+1);some (.inl (x0,x1,x4,x3,())))else some (.inr (v0,v1,v2,false,v3,()))
def ph(a0:LDTh):Option (LI×Unit):=let x0:=f6 a0.length;
(gc ke NN (a0,x0,0,[],())).bind λ(_,_,_,_,x5,_)=>some (x5,())
def F9:X.Cfg:=⟨E0,[],[],[⟨7,0,qE,[(.normal,qS uaw [(9,Zae)])]⟩,(lx 4 1 uaw [(9,Zae)] 9)]⟩
def yv:Ctr:=⟨130,41,uL [oQ],[],[⟨Zae,[.one],[]⟩],ap1 ph⟩
theorem Fq:Lk 1 yv:=ls F9 aN
def oa(a0:LDIn)(a1:LI)(a2:LLI)(a3:LI)(a4:Int)(a5:LDCe)(a6:LDLn)(a7:LDTh)(a8 a9:LI)(ek:LLI)(eu:z_)(eF:LDOp)(eH:LDOu)(eJ:LI)(eM:LLI)(eQ:LDEn)(eU:LI):Option (T39):=bif(gl 8 0 eU.length)then let x0:v_:=(List.append [] eU);bif(gl 184 0 eQ.length)then let x1:LDEn:=(List.append [] eQ);some (a0,a1,a2,a3,a4,a5,a6,a7,a8,a9,ek,eu,eF,eH,eJ,eM,x1,x0,())else none else none
def DI:X.Cfg:=⟨E0,[],[(9,Qe)],[]⟩
def wz:Ctr:=⟨131,42,[.agg Zah],[],[⟨Zak,[.agg 18],[]⟩],as1 (as8 (as8 ap1)) oa⟩
theorem Dl:Lk 1 wz:=ls DI aN
def qd(a0:LI)(a1:Int)(a2:LDCe)(a3:LDLn)(a4:LDTh)(a5:Int):f_:=bif(decide (a5<0))then(some (false,()))else let x0:=f6 a4.length;bif(decide (a5>=x0))then(some (false,()))else
(gj a5).bind λx1=>
(fU a4 x1).bind λx2=>bif(x2.1==1)then(bif(x2.2.2.2.2.1 != (-1))then(some ((x2.2.2.2.2.2.1==(-1)),()))else some (false,()))else some (false,())
def Kj:X.Cfg:=⟨E0,[],[],[]⟩
def xg:Ctr:=⟨132,43,[.agg Xac,shU I64],[],[⟨zab,[.one],[]⟩],ap6 qd⟩
theorem BZ:Lk 1 xg:=ls Kj aN
def kX:T2e->Option (T2e⊕(LDLn×Int×Int×Bool×T1j)):=λ(v0,v1,v2,v3,v4,v5,v6,v7,v8,_)=>bif(decide (v2<v1))then((gj v2).bind λx0=>
(fU v0 x0).bind λx1=>bif(gl 4 0 x1.2.2.length)then let x2:LDCe:=(List.append [] x1.2.2);let x3:LDLn:=[(x1.1,(x1.2.1,x2))];bif(gl 40 v8.length x3.length)then let x4:LDLn:=(List.append v8 x3);let x5:=w64 (v2+1);some (.inl (v0,v1,x5,v3,v4,v5,v6,v7,x4,()))else none else none)else some (.inr (v0,v1,v2,false,v3,v4,v5,v6,v7,v8,()))
def q7(a0:LDCe)(a1:LDLn):Option (T06):=bif(gl 4 0 a0.length)then let x0:LDCe:=(List.append [] a0);let x1:=f6 a1.length;
(gc kX NN (a1,x1,0,a0,a1,(),(),x0,[],())).bind λ(_,_,_,_,_,_,_,_,ac)=>some (ac)else none
def IW:X.Cfg:=⟨E0,[],[(24,Sr),(25,Sr)],[(lx 4 0 (zl [2,3]++sP 11 i8::il [12,13]) [(4,yaf),(6,uac),(8,zad)] 14)]⟩
def AD:Ctr:=⟨91,44,[.agg yaf],[],[⟨zad,[.agg 2],[]⟩],ap2 q7⟩
theorem Ih:Lk 1 AD:=ls IW aN
def kU:T3a->Option (T3a⊕T3h):=λ(v0,v1,v2,v3,v4,v5,v6,v7,v8,v9,eq,eE,eG,eI,eK,eO,eS,eW,_)=>bif(decide (v2<v1))then((gj v2).bind λx0=>
(fU v0 x0).bind λx1=>bif(gl 4 0 x1.2.1.length)then let x2:LDCe:=(List.append [] x1.2.1);let x3:LDTh:=[(x1.1,(x2,(x1.2.2.1,(x1.2.2.2.1,(x1.2.2.2.2.1,(x1.2.2.2.2.2.1,(x1.2.2.2.2.2.2.1,x1.2.2.2.2.2.2.2)))))))];bif(gl 80 eW.length x3.length)then let x4:LDTh:=(List.append eW x3);let x5:=w64 (v2+1);some (.inl (v0,v1,x5,v3,v4,v5,v6,v7,v8,v9,eq,eE,eG,eI,eK,eO,eS,x4,()))else none else none)else some (.inr (v0,v1,v2,false,v3,v4,v5,v6,v7,v8,v9,eq,eE,eG,eI,eK,eO,eS,eW,()))
def kV(a0:LI)(a1:Int)(a2:LDCe)(a3:LDLn)(a4:LDTh):Option (T12):=bif(gl 8 0 a0.length)then let x0:v_:=(List.append [] a0);
(q7 a2 a3).bind λ(x1,x2,_)=>let x3:=f6 a4.length;
(gc kU NN (a4,x3,0,a0,a1,a2,a3,a4,(),0,(),(),(),x0,a1,x1,x2,[],())).bind λ(_,_,_,_,_,_,_,_,_,_,_,_,_,_,am)=>some (am)else none
def IQ:X.Cfg:=⟨E0,[AD],[(32,Sq),(33,Sq)],[(lx 4 0 (zl [2,3]++sP 19 oQ::il [20,21]) [(4,Xac),(6,Zab),(8,Zac)] 22)]⟩
def oM:Ctr:=⟨56,45,[.agg Xac],[],[⟨Zac,[.agg 5],[]⟩],ap5 kV⟩
theorem rh:Lk 2 oM:=ls IQ (aC Ih aN)
def mQ(a0:LI)(a1:Int)(a2:LDCe)(a3:LDLn)(a4:LDTh)(a5:Int):Option (T1n):=
(kV a0 a1 a2 a3 a4).bind λ(x0,x1,x2,x3,x4,_)=>
(qd a0 a1 a2 a3 a4 a5).bind λ(x5,_)=>bif(!x5)then(some (x0,x1,x2,x3,x4,false,()))else
(gj a5).bind λx6=>
(fU x4 x6).bind λ_=>
(fU x4 x6).bind λx8=>
(fU x4 x6).bind λx9=>
(fU x4 x6).bind λ_=>let ae:=x4.modify x6 λe=>(e.1,(e.2.1,(e.2.2.1,(e.2.2.2.1,(e.2.2.2.2.1,(x8.2.2.1,e.2.2.2.2.2.2))))));
(fU ae x6).bind λ_=>let ag:=ae.modify x6 λe=>(e.1,(e.2.1,(x9.2.2.2.2.1,e.2.2.2)));some (x0,x1,x2,x3,ag,true,())
def Cm:X.Cfg:=⟨E0,[oM,xg],[],[]⟩
def uU:Ctr:=⟨133,46,[.agg Xac,shU I64],[],[⟨ual,[.agg 5,.one],[]⟩],ap6 mQ⟩
theorem BY:Lk 3 uU:=ls Cm (aC rh (aC BZ aN))
def nc(a0 a1:Int):f_:=some ((decide (a0<=2)),())
def Gr:X.Cfg:=⟨E0,[],[],[]⟩
def tp:Ctr:=⟨79,47,[.agg Xab],[],[⟨zab,[.one],[]⟩],ap2 nc⟩
theorem xU:Lk 1 tp:=ls Gr aN
def of:T0l->Option (T0l⊕((Bool×Unit)⊕T0E)):=λ(v0,v1,v2,_)=>bif(decide (v2<v1))then((gj v2).bind λx0=>
(fU v0 x0).bind λx1=>
(nc x1.1 x1.2).bind λ(x2,_)=>bif(!x2)then(some (.inr (.inl (false,()))))else let x3:=w64 (v2+1);some (.inl (v0,v1,x3,())))else some (.inr (.inr (v0,v1,v2,false,())))
def qh(a0:LDCe):f_:=let x0:=f6 a0.length;
(match gc of NN (a0,x0,0,())with
|none=>none
|some (.inl (x1,_))=>some (x1,())
|some (.inr (_,_))=>some (true,()))
def Kq:X.Cfg:=⟨E0,[tp],[],[⟨3,0,qS (sP 5 ig::il [6,7]) [],[(.ret,qS zat []),(.exit 0,qS [sP 5 ig,Uaa 6,Uaa 7,Xaa 8] [])]⟩]⟩
def C5:Ctr:=⟨78,48,uL [ig],[],[⟨zab,[.one],[]⟩],ap1 qh⟩
theorem Kd:Lk 2 C5:=ls Kq (aC xU aN)
def mj:T10->Option (T10⊕((Bool×Unit)⊕T1l)):=λ(v0,v1,v2,v3)=>bif(decide (v2<v1))then((gj v2).bind λx0=>
(fU v0 x0).bind λx1=>bif(x1.1==(-1))then(bif x1.2.1 then(some (.inr (.inl (false,()))))else let x2:=f6 x1.2.2.length;bif(decide (x2>0))then(some (.inr (.inl (false,()))))else let x3:=w64 (v2+1);some (.inl (v0,v1,x3,v3)))else
(bif(decide (x1.1<0))then(some (v0,v1,v2,true,v3))else bif(decide (x1.1>=128))then(some (v0,v1,v2,true,v3))else let x2:=Int.tmod x1.1 4;bif(x2 != v2)then(some (v0,v1,v2,true,v3))else let x3:=f6 x1.2.2.length;bif(x3 != 4)then(some (v0,v1,v2,true,v3))else
(qh x1.2.2).bind λ(x4,_)=>some (v0,v1,v2,(!x4),v3):Option (T1l)).bind λ(x2,x3,x4,x5,x6)=>bif x5 then(some (.inr (.inl (false,()))))else let x8:=w64 (x4+1);some (.inl (x2,x3,x8,x6)))else some (.inr (.inr (v0,v1,v2,false,v3)))
def pj(a0:LDCe)(a1:LDLn):f_:=
(let x0:=f6 a0.length;bif(x0 != 512)then(some (true,a0,a1,()))else let x1:=f6 a1.length;bif(x1 != 4)then(some (true,a0,a1,()))else
(qh a0).bind λ(x2,_)=>some ((!x2),a0,a1,()):Option (T0e)).bind λ(x0,x1,x2,_)=>bif x0 then(some (false,()))else let x3:=f6 x2.length;
(match gc mj NN (x2,x3,0,x1,x2,())with
|none=>none
|some (.inl (x4,_))=>some (x4,())
|some (.inr (_,_))=>some (true,()))
def Gj:X.Cfg:=⟨E0,[C5],[],[⟨2,0,qE,[(.normal,qS [zaa 1,Xaa 20] Xam)]⟩,⟨16,1,qE,[(.normal,qS [sP 22 i8,Uaa 23,Uaa 24,Xaa 66] Xam)]⟩,⟨6,2,qS (sP 22 i8::il [23,24]) Xam,[(.ret,qS zat []),(.exit 0,qS [sP 22 i8,Uaa 23,Uaa 24,Xaa 25] Xam)]⟩]⟩
def yz:Ctr:=⟨46,49,[.agg yaf],[],[⟨zab,[.one],[]⟩],ap2 pj⟩
theorem Fu:Lk 3 yz:=ls Gj (aC Kd aN)
def me:T2B->Option (T2B⊕((Bool×Unit)⊕(LDCe×Int×Int×Bool×T1X))):=λ(v0,v1,v2,v3)=>bif(decide (v2<v1))then((gj v2).bind λx0=>
(fU v0 x0).bind λx1=>
(nc x1.1 x1.2).bind λ(x2,_)=>bif(!x2)then(some (.inr (.inl (false,()))))else let x3:=w64 (v2+1);some (.inl (v0,v1,x3,v3)))else some (.inr (.inr (v0,v1,v2,false,v3)))
def pf(a0:Int)(a1:LDCe)(a2 a3 a4 a5 a6 a7:Int):f_:=let x0:=f6 a1.length;
(match gc me NN (a1,x0,0,a0,a1,a2,a3,a4,a5,a6,a7,())with
|none=>none
|some (.inl (x1,_))=>some (x1,())
|some (.inr (_,_,_,_,x5,x6,x7,x8,x9,ac,ae,_,_))=>bif(decide (x5>=0))then(bif(decide (x5<=4))then(let ag:Int:=(f6 x6.length);bif(ag==8)then(bif(decide (x7>=0))then(bif(decide (x7<=255))then(bif(decide (x8>=0))then(bif(decide (x8<=1099511627776))then(bif(decide (x9>=(-1)))then(bif(decide (x9<=255))then(bif(decide (ac>=(-1)))then(bif(decide (ac<=255))then(bif(decide (ae>=0))then(some ((decide (ae<=6)),()))else some (false,()))else some (false,()))else some (false,()))else some (false,()))else some (false,()))else some (false,()))else some (false,()))else some (false,()))else some (false,()))else some (false,()))else some (false,()))else some (false,()))
def F8:X.Cfg:=⟨E0,[tp],[],[⟨3,0,qS (zaa 1::sP 6 ig::il [7,8]) [(4,Xae)],[(.ret,qS zat []),(.exit 0,qS [zaa 1,sP 6 ig,Uaa 7,Uaa 8,Xaa 9] [(4,Xae)])]⟩]⟩
def yu:Ctr:=⟨47,50,[.agg Xae],[],[⟨zab,[.one],[]⟩],as1 (as2 (as4 ap1)) pf⟩
theorem Fp:Lk 2 yu:=ls F8 (aC xU aN)
def oU:T1Z->Option (T1Z⊕((Bool×Unit)⊕(LDTh×Int×Int×T18))):=λ(v0,v1,v2,v3)=>bif(decide (v2<v1))then((gj v2).bind λx0=>
(fU v0 x0).bind λx1=>
(pf x1.1 x1.2.1 x1.2.2.1 x1.2.2.2.1 x1.2.2.2.2.1 x1.2.2.2.2.2.1 x1.2.2.2.2.2.2.1 x1.2.2.2.2.2.2.2).bind λ(x2,_)=>bif(!x2)then(some (.inr (.inl (false,()))))else let x3:=w64 (v2+1);some (.inl (v0,v1,x3,v3)))else some (.inr (.inr (v0,v1,v2,false,v3)))
def iS(a0:LDIn)(a1:LI)(a2:LLI)(a3:LI)(a4:Int)(a5:LDCe)(a6:LDLn)(a7:LDTh):f_:=
((ly a0 a1 a2).bind λ(x0,_)=>bif(x0 != 0)then(some (true,a3,a4,a5,a6,a7,()))else
(jT a3 a4 a1).bind λ(x1,_)=>bif(!x1)then(some (true,a3,a4,a5,a6,a7,()))else
(pj a5 a6).bind λ(x2,_)=>bif(!x2)then(some (true,a3,a4,a5,a6,a7,()))else let x3:=f6 a7.length;some ((x3 != 4),a3,a4,a5,a6,a7,()):Option (T18)).bind λ(x0,x1,x2,x3,x4,x5,_)=>bif x0 then(some (false,()))else let x6:=f6 x5.length;
(match gc oU NN (x5,x6,0,x1,x2,x3,x4,x5,())with
|none=>none
|some (.inl (x7,_))=>some (x7,())
|some (.inr (_,_))=>some (true,()))
def F6:X.Cfg:=⟨E0,[pT,nE,yz,yu],[],[⟨2,0,qE,[(.normal,qS [zaa 3,Xaa 29] [(8,Xac)])]⟩,⟨6,1,qS (sP 31 oQ::il [32,33]) [(8,Xac)],[(.ret,qS Uat []),(.exit 0,qS [sP 31 oQ,Uaa 32,Uaa 33,Xaa 34] [(8,Xac)])]⟩]⟩
def nD:Ctr:=⟨17,51,[.agg yab,.agg Xac],[],[⟨zab,[.one],[]⟩],as1 (as2 (as4 ap1)) iS⟩
theorem pJ:Lk 4 nD:=ls F6 (aC sQ (aC pK (aC Fu (aC Fp aN))))
def iy(a0:Nat)(a1:Int)(a2:LDTh):Option (Int×LDTh×Unit):=
(fU a2 a0).bind λ_=>let x1:=a2.modify a0 λe=>(4,e.2);
(fU x1 a0).bind λ_=>let x3:=x1.modify a0 λe=>(e.1,(e.2.1,(e.2.2.1,(e.2.2.2.1,(e.2.2.2.2.1,(e.2.2.2.2.2.1,(a1,e.2.2.2.2.2.2.2)))))));
(fU x3 a0).bind λ_=>let x5:=x3.modify a0 λe=>(e.1,(e.2.1,(e.2.2.1,(e.2.2.2.1,(e.2.2.2.2.1,(e.2.2.2.2.2.1,(e.2.2.2.2.2.2.1,0)))))));some (2,x5,())
def IM:X.Cfg:=⟨E0,[],[],[]⟩
def AA:Ctr:=⟨175,52,[.ptr ⟨2,0,[((),(8,0))]⟩ [0,0],shU I64],[(2,uL [qD])],[⟨yac,[.one],[(2,uL [qD])]⟩],ap3 iy⟩
theorem Ie:Lk 1 AA:=ls IM aN
def gK:T2h->Option (T2h⊕(T0d⊕(LI×T2b))):=λ(v0,v1,v2,v3,v4,v5)=>bif(decide (v4<v3))then((match((gj v4).bind λx0=>
(fU v2 x0).bind λx1=>bif(decide (v1>=x1))then((gj v4).bind λx2=>
(fU v0 x2).bind λx3=>let x4:=w64 (x1+x3);bif(decide (v1<x4))then(let x5:Int:=(w64 (v1-x1));some (.inl (true,v4,x5,())))else some (.inr (v0,v1,v4,x1,v2,v3,v4,false,v5)))else some (.inr (v0,v1,v4,x1,v2,v3,v4,false,v5)):Option (T0d⊕(LI×Int×Int×T2b)))with
|none=>none
|some (.inl (x0,x1,x2,_))=>some (.inr (.inl (x0,x1,x2,())))
|some (.inr (x0,x1,_,_,x4,x5,x6,_,x8))=>let af:=w64 (x6+1);some (.inl (x0,x1,x4,x5,af,x8))))else some (.inr (.inr (v0,v1,v2,v3,v4,false,v5)))
def gW(a0:LI)(a1:Int)(a2:LI)(a3:Int):Option (T0f):=let x0:=f6 a0.length;
(match gc gK NN (a2,a3,a0,x0,0,a0,a1,0,0,())with
|none=>none
|some (.inl (x1,x2,x3,_))=>some (x2,x3,x1,())
|some (.inr (_,_,_,_))=>some (0,0,false,()))
def Cq:X.Cfg:=⟨E0,[],[],[⟨6,0,qE,[(.ret,qS Uau [(14,uad)]),(.normal,qS [sP 1 RI,Uaa 2,zaa 6,Uaa 8,Uaa 9,sP 11 RI,Uaa 12,Uaa 13,Xaa 30] zap)]⟩,⟨3,1,qS [sP 1 RI,Uaa 2,zaa 6,sP 11 RI,Uaa 12,Uaa 13] zap,[(.ret,qS Uau [(14,uad)]),(.exit 0,qS [sP 1 RI,Uaa 2,zaa 6,sP 11 RI,Uaa 12,Uaa 13,Xaa 14] zap)]⟩]⟩
def jK:Ctr:=⟨27,53,[.agg Uab,shU RI,shU I64],[],[⟨uaj,[.agg 2,.one],[]⟩],ap4 gW⟩
theorem li:Lk 1 jK:=ls Cq aN
def iG(a0:LI)(a1:Int)(a2:LI)(a3 a4 a5:Int)(a6:Bool):Option (T0g):=bif(a3 != 1)then(some (0,0,3,()))else let x0:=wk .i64 a4;
(gW a0 a1 a2 x0).bind λ(x1,x2,x3,_)=>bif(!x3)then(some (0,0,4,()))else
(bif a6 then(let x4:Int:=(wk .i64 a5);let x5:=w64 (x2-x4);some (a2,a0,a1,0,0,x1,x5,()))else let x4:=wk .i64 a5;let x5:=w64 (x2+x4);some (a2,a0,a1,0,0,x1,x5,()):Option (LI×LI×T0V)).bind λ(x4,x5,_,_,_,x9,ac,_)=>
(hU x4 x9 ac).bind λ(ae,_)=>bif(!ae)then(some (0,0,4,()))else
(gj x9).bind λaf=>
(fU x5 af).bind λag=>let ah:=w64 (ag+ac);let ai:=wk .u16 ah;some (1,ai,0,())
def IP:X.Cfg:=⟨E0,[jK,lX],[],[⟨8,0,qE,[(.normal,qS (sP 1 RI::zl [5,10,12]) [(12,Uab),(22,Xab),(26,uad)])]⟩]⟩
def u4:Ctr:=⟨176,54,[.agg Uab,shU RI,.agg Xab,shU CW,shU .bool],[],[⟨yai,[.agg 2,.one],[]⟩],as2 (as4 ap1) iG⟩
theorem zY:Lk 2 u4:=ls IP (aC li (aC ov aN))
def na(a0:Int)(a1:LDCe)(a2:LDLn):Option (Nat×T06):=let x0:=w64 (Int.tdiv a0 4);let x1:=Int.tmod x0 4;
(gj x1).bind λx2=>
(fU a2 x2).bind λ_=>
(fU a2 x2).bind λx4=>bif(x4.1==x0)then(some (x2,a1,a2,()))else
((fU a2 x2).bind λx5=>bif x5.2.1 then((fU a2 x2).bind λx6=>let x7:=w64 (x6.1*4);
(gj x7).bind λx8=>bif(iO x8 a1.length a1.length)then(fU a2 x2).bind λ_=>
(fU a2 x2).bind λac=>bif(iO x8 (Nat.add x8 (Nat.min ac.2.2.length (Nat.sub a1.length x8))) a1.length)then bif(Nat.blt 0 (Nat.min ac.2.2.length (Nat.sub a1.length x8)))then(let ae:LDCe:=(qk a1 x8 (Nat.min ac.2.2.length (Nat.sub a1.length x8)) ac.2.2);let af:=(f6 (Nat.min ac.2.2.length (Nat.sub a1.length x8)));some (x0,x2,ae,a2,()))else let ae:=(f6 (Nat.min ac.2.2.length (Nat.sub a1.length x8)));some (x0,x2,a1,a2,())else none else none)else some (x0,x2,a1,a2,()):Option (Int×Nat×T06)).bind λ(x5,x6,x7,x8,_)=>
(fU x8 x6).bind λ_=>let ac:=x8.modify x6 λe=>(x5,e.2);
(fU ac x6).bind λ_=>let af:=ac.modify x6 λe=>(e.1,(false,e.2.2));let ag:=w64 (x5*4);let ah:=w64 (x5+1);let ai:=w64 (ah*4);
(gj ag).bind λaj=>
(gj ai).bind λak=>bif(iO aj ak x7.length)then bif(gl 4 0 (List.length (nG x7 aj (Nat.sub ak aj))))then let am:LDCe:=(List.append [] (nG x7 aj (Nat.sub ak aj)));
(fU af x6).bind λ_=>let ap:=af.modify x6 λe=>(e.1,(e.2.1,am));some (x6,x7,ap,())else none else none
def Gi:X.Cfg:=⟨E0,[],[],[⟨6,0,qE,[(.normal,(qS [zaa 0,Uaa 5,(6,.ptr ⟨2,1,[((),(3,0))]⟩ [0,0])] [(2,zad)]))]⟩]⟩
def te:Ctr:=⟨192,55,[.ptr ⟨2,0,[]⟩ [0],shU I64],[(2,zad)],[⟨[.ptr ⟨2,1,[((),(3,0))]⟩ [0,0]],[.ptr],[(2,zad)]⟩],ap3 na⟩
theorem xS:Lk 1 te:=ls Gi aN
def qY(a0:Int)(a1:LDCe)(a2:LDLn):Option (T0A):=
(na a0 a1 a2).bind λ(x0,x1,x2,_)=>
(fU x2 x0).bind λ_=>let x4:=Int.tmod a0 4;
(gj x4).bind λx5=>
(fU x2 x0).bind λx6=>
(fU x6.2.2 x5).bind λ_=>
(fU x2 x0).bind λx8=>
(fU x8.2.2 x5).bind λx9=>some (x9.1,x9.2,x1,x2,())
def IU:X.Cfg:=⟨E0,[te],[],[]⟩
def AB:Ctr:=⟨177,56,[.ptr ⟨2,0,[]⟩ [0],shU I64],[(2,zad)],[⟨Xab,[.agg 2],[(2,zad)]⟩],ap3 qY⟩
theorem If:Lk 2 AB:=ls IU (aC xS aN)
def m8(a0 a1 a2:Int)(a3:LDCe)(a4:LDLn):Option (T06):=
(na a0 a3 a4).bind λ(x0,x1,x2,_)=>
(fU x2 x0).bind λ_=>let x4:=Int.tmod a0 4;
(gj x4).bind λx5=>
(fU x2 x0).bind λx6=>
(fU x6.2.2 x5).bind λ_=>
(fU x2 x0).bind λx8=>
(fU x8.2.2 x5).bind λ_=>let ac:=x2.modify x0 λe=>(e.1,(e.2.1,(e.2.2.modify x5 λe=>(a1,a2))));
(fU ac x0).bind λ_=>let af:=ac.modify x0 λe=>(e.1,(true,e.2.2));some (x1,af,())
def Gg:X.Cfg:=⟨E0,[te],[],[]⟩
def td:Ctr:=⟨178,57,[.ptr ⟨2,0,[]⟩ [0],shU I64,.agg Xab],[(2,zad)],[⟨[],[],[(2,zad)]⟩],ap5 m8⟩
theorem xR:Lk 2 td:=ls Gg (aC xS aN)
def mA(a0:Bool):Option (T02):=bif a0 then(some (0,1,()))else some (0,0,())
def IN:X.Cfg:=⟨E0,[],[],[]⟩
def u3:Ctr:=⟨193,58,zab,[],[⟨Xab,[.agg 2],[]⟩],ap1 mA⟩
theorem zX:Lk 1 u3:=ls IN aN
def mZ(a0 a1 a2:Int):Option (T0g):=bif(a0==3)then(let x0:Int:=(wk .u16 (a1+a2));some (0,x0,0,()))else bif(a0==4)then(let x0:Int:=(wk .u16 (a1-a2));some (0,x0,0,()))else bif(a0==5)then(let x0:Int:=(wk .u16 (a1*a2));some (0,x0,0,()))else bif(a0==6)then(bif(a2==0)then(some (0,0,5,()))else bif(a0==6)then(bif(a2 != 0)then let x0:Int:=(wk .u16 (Int.tdiv a1 a2));some (0,x0,0,())else none)else bif(a2 != 0)then let x0:Int:=(Int.tmod a1 a2);some (0,x0,0,())else none)else bif(a0==7)then(bif(a2==0)then(some (0,0,5,()))else bif(a0==6)then(bif(a2 != 0)then let x0:Int:=(wk .u16 (Int.tdiv a1 a2));some (0,x0,0,())else none)else bif(a2 != 0)then let x0:Int:=(Int.tmod a1 a2);some (0,x0,0,())else none)else bif(a0==8)then(let x0:Int:=(arR .and .u16 a1 a2);some (0,x0,0,()))else bif(a0==9)then(let x0:Int:=(arR .or .u16 a1 a2);some (0,x0,0,()))else bif(a0==10)then(let x0:Int:=(arR .xor .u16 a1 a2);some (0,x0,0,()))else bif(a0==11)then(let x0:Int:=(Int.tmod a2 16);
(gj x0).bind λx1=>let x2:Int:=(shR .shl .u16 a1 x1);some (0,x2,0,()))else bif(a0==12)then(let x0:Int:=(Int.tmod a2 16);
(gj x0).bind λx1=>let x2:Int:=(shR .shr .u16 a1 x1);some (0,x2,0,()))else
(mA (decide (a1<a2))).bind λ(x0,x1,_)=>some (x0,x1,0,())
def Co:X.Cfg:=⟨E0,[u3],[],[]⟩
def uZ:Ctr:=⟨194,59,uL [I64,CW,CW],[],[⟨yai,[.agg 2,.one],[]⟩],ap3 mZ⟩
theorem B4:Lk 2 uZ:=ls Co (aC zX aN)
def m6(a0:LI)(a1:Int)(a2:LI)(a3 a4 a5 a6:Int):Option (Int×Int×T0f):=let x0:=wk .i64 a4;
(gW a0 a1 a2 x0).bind λ(x1,x2,x3,_)=>let x4:=wk .i64 a6;
(gW a0 a1 a2 x4).bind λ(x5,x6,x7,_)=>bif x3 then(bif x7 then(some (x1,x2,x5,x6,(x1==x5),()))else some (x1,x2,x5,x6,false,()))else some (x1,x2,x5,x6,false,())
def Gb:X.Cfg:=⟨E0,[jK],[],[]⟩
def yx:Ctr:=⟨195,60,[.agg Uab,shU RI,.agg Xab,.agg Xab],[],[⟨uL [I64,I64,I64,I64,.bool],[.agg 2,.agg 2,.one],[]⟩],as2 (as4 ap1) m6⟩
theorem Fs:Lk 2 yx:=ls Gb (aC li aN)
def vy(a0:LI)(a1:Int)(a2:LI)(a3 a4 a5 a6 a7:Int):Option (T0g):=bif(decide (a3<3))then(some (0,0,1,()))else bif(decide (a3>14))then(some (0,0,1,()))else
(match(bif(a3==14)then((mA ((a4==a6)&&((a5==a7)&&true))).bind λ(x0,x1,_)=>some (.inl (0,x0,x1,())))else bif(a4==0)then(bif(a6==0)then((mZ a3 a5 a7).bind λ(x0,x1,x2,_)=>some (.inl (x2,x0,x1,())))else
(bif(a3==3)then(bif(a4==1)then(some (a2,a3,(a6==0),a0,a1,a4,a5,a6,a7,0,0,()))else some (a2,a3,false,a0,a1,a4,a5,a6,a7,0,0,()))else some (a2,a3,false,a0,a1,a4,a5,a6,a7,0,0,()):Option (T2D)).bind λ(x0,x1,x2,x3,x4,x5,x6,x7,x8,x9,ac,_)=>bif x2 then((iG x3 x4 x0 x5 x6 x8 false).bind λ(ae,af,ag,_)=>some (.inl (ag,ae,af,())))else
(bif(x1==3)then(bif(x5==0)then(some (x0,x1,(x7==1),x3,x4,x5,x6,x7,x8,x9,ac,()))else some (x0,x1,false,x3,x4,x5,x6,x7,x8,x9,ac,()))else some (x0,x1,false,x3,x4,x5,x6,x7,x8,x9,ac,()):Option (T2D)).bind λ(ae,af,ag,ah,ai,aj,ak,am,an,ap,aq,_)=>bif ag then((iG ah ai ae am an ak false).bind λ(av,ax,ay,_)=>some (.inl (ay,av,ax,())))else
(bif(af==4)then(bif(aj==1)then(some (ae,af,(am==0),ah,ai,aj,ak,am,an,ap,aq,()))else some (ae,af,false,ah,ai,aj,ak,am,an,ap,aq,()))else some (ae,af,false,ah,ai,aj,ak,am,an,ap,aq,()):Option (T2D)).bind λ(av,ax,ay,az,aA,aB,aD,aE,aF,aG,aH,_)=>bif ay then((iG az aA av aB aD aF true).bind λ(aI,aJ,aK,_)=>some (.inl (aK,aI,aJ,())))else
(bif(ax==4)then(bif(aB==1)then(some (av,ax,(aE==1),az,aA,aB,aD,aE,aF,aG,aH,()))else some (av,ax,false,az,aA,aB,aD,aE,aF,aG,aH,()))else bif(ax==13)then(bif(aB==1)then(some (av,ax,(aE==1),az,aA,aB,aD,aE,aF,aG,aH,()))else some (av,ax,false,az,aA,aB,aD,aE,aF,aG,aH,()))else some (av,ax,false,az,aA,aB,aD,aE,aF,aG,aH,()):Option (T2D)).bind λ(aI,aJ,aK,aL,aM,aO,aP,aQ,aR,aS,aT,_)=>bif aK then((m6 aL aM aI aO aP aQ aR).bind λ(_,aV,_,aY,aZ,_)=>bif(!aZ)then(some (.inl (4,0,0,())))else bif(aJ==13)then((mA (decide (aV<aY))).bind λ(ba,bc,_)=>some (.inl (0,ba,bc,())))else let ba:=w64 (aV-aY);let bc:=wk .u16 ba;some (.inl (0,0,bc,())))else some (.inr (aI,aJ,false,aL,aM,aO,aP,aQ,aR,aS,aT,())))else
(bif(a3==3)then(bif(a4==1)then(some (a2,a3,(a6==0),a0,a1,a4,a5,a6,a7,0,0,()))else some (a2,a3,false,a0,a1,a4,a5,a6,a7,0,0,()))else some (a2,a3,false,a0,a1,a4,a5,a6,a7,0,0,()):Option (T2D)).bind λ(x0,x1,x2,x3,x4,x5,x6,x7,x8,x9,ac,_)=>bif x2 then((iG x3 x4 x0 x5 x6 x8 false).bind λ(ae,af,ag,_)=>some (.inl (ag,ae,af,())))else
(bif(x1==3)then(bif(x5==0)then(some (x0,x1,(x7==1),x3,x4,x5,x6,x7,x8,x9,ac,()))else some (x0,x1,false,x3,x4,x5,x6,x7,x8,x9,ac,()))else some (x0,x1,false,x3,x4,x5,x6,x7,x8,x9,ac,()):Option (T2D)).bind λ(ae,af,ag,ah,ai,aj,ak,am,an,ap,aq,_)=>bif ag then((iG ah ai ae am an ak false).bind λ(av,ax,ay,_)=>some (.inl (ay,av,ax,())))else
(bif(af==4)then(bif(aj==1)then(some (ae,af,(am==0),ah,ai,aj,ak,am,an,ap,aq,()))else some (ae,af,false,ah,ai,aj,ak,am,an,ap,aq,()))else some (ae,af,false,ah,ai,aj,ak,am,an,ap,aq,()):Option (T2D)).bind λ(av,ax,ay,az,aA,aB,aD,aE,aF,aG,aH,_)=>bif ay then((iG az aA av aB aD aF true).bind λ(aI,aJ,aK,_)=>some (.inl (aK,aI,aJ,())))else
(bif(ax==4)then(bif(aB==1)then(some (av,ax,(aE==1),az,aA,aB,aD,aE,aF,aG,aH,()))else some (av,ax,false,az,aA,aB,aD,aE,aF,aG,aH,()))else bif(ax==13)then(bif(aB==1)then(some (av,ax,(aE==1),az,aA,aB,aD,aE,aF,aG,aH,()))else some (av,ax,false,az,aA,aB,aD,aE,aF,aG,aH,()))else some (av,ax,false,az,aA,aB,aD,aE,aF,aG,aH,()):Option (T2D)).bind λ(aI,aJ,aK,aL,aM,aO,aP,aQ,aR,aS,aT,_)=>bif aK then((m6 aL aM aI aO aP aQ aR).bind λ(_,aV,_,aY,aZ,_)=>bif(!aZ)then(some (.inl (4,0,0,())))else bif(aJ==13)then((mA (decide (aV<aY))).bind λ(ba,bc,_)=>some (.inl (0,ba,bc,())))else let ba:=w64 (aV-aY);let bc:=wk .u16 ba;some (.inl (0,0,bc,())))else some (.inr (aI,aJ,false,aL,aM,aO,aP,aQ,aR,aS,aT,())):Option (T0g⊕T2D))with
|none=>none
|some (.inl (x0,x1,x2,_))=>some (x1,x2,x0,())
|some (.inr (_,_,_,_,_,_,_,_,_,_,_,_))=>some (0,0,3,()))
def M2:X.Cfg:=⟨E0,[u3,uZ,u4,yx],[],[⟨9,0,qE,[(.normal,qS (sP 1 RI::Uaa 2::zl [5,8,9,10]++[Xaa 46]) yan)]⟩,⟨11,1,qE,[(.normal,qS (sP 1 RI::Uaa 2::zl [5,8,9,10]++[Xaa 67]) yan)]⟩,⟨13,2,qE,[(.normal,qS (sP 1 RI::Uaa 2::zl [5,8,9,10]++[Xaa 88]) yan)]⟩,⟨15,3,qE,[(.normal,qS yaw yan)]⟩,⟨4,4,qE,[(.ret,qS [zaa 10,Uaa 11] [(22,Xab)]),(.normal,qS yaw yan)]⟩]⟩
def EH:Ctr:=⟨179,61,[.agg Uab,shU RI,shU I64,.agg Xab,.agg Xab],[],[⟨yai,[.agg 2,.one],[]⟩],as1 (as2 (as4 ap1)) vy⟩
theorem MU:Lk 3 EH:=ls M2 (aC zX (aC B4 (aC zY (aC Fs aN))))
def oe(a0:Int):f_:=
(iW a0).bind λ(x0,_)=>bif x0 then(some (true,()))else bif(a0==22)then(some (true,()))else some ((a0==24),())
def DO:X.Cfg:=⟨E0,[mF],[],[]⟩
def wD:Ctr:=⟨180,62,yac,[],[⟨zab,[.one],[]⟩],ap1 oe⟩
theorem Dp:Lk 2 wD:=ls DO (aC oJ aN)
def sA(a0:LDIn)(a1:LI)(a2:LLI)(a3:Int)(a4:LI)(a5:Int)(a6:LDCe)(a7:LDLn)(a8:LDTh):Option (T1h):=
(gj a3).bind λx0=>
(fU a8 x0).bind λ_=>
(fU a8 x0).bind λx2=>let x3:=f6 a0.length;bif(decide (x2.2.2.1>=x3))then((iy x0 2 a8).bind λ(x4,x5,_)=>some (x4,a4,a5,a6,a7,x5,()))else
(fU a8 x0).bind λx4=>
(gj x4.2.2.1).bind λx5=>
(fU a0 x5).bind λx6=>
(fU a8 x0).bind λx7=>let x8:=w64 (x7.2.2.1+1);
(fU a8 x0).bind λ_=>
(gj x6.2.1).bind λac=>
(fU a8 x0).bind λae=>
(fU ae.2.1 ac).bind λ_=>
(fU a8 x0).bind λag=>
(fU ag.2.1 ac).bind λah=>
(fU a8 x0).bind λ_=>
(gj x6.2.2.1).bind λaj=>
(fU a8 x0).bind λak=>
(fU ak.2.1 aj).bind λ_=>
(fU a8 x0).bind λan=>
(fU an.2.1 aj).bind λap=>
(match(bif(x6.1==0)then(some (.inl (x0,x8,a4,a5,a6,a7,a8,x6.1,x6.2.1,x6.2.2.1,x6.2.2.2.1,x6.2.2.2.2,())))else bif(x6.1==1)then((fU a8 x0).bind λ_=>let av:=wk .u16 x6.2.2.2.2;
(gj x6.2.1).bind λax=>
(fU a8 x0).bind λay=>
(fU ay.2.1 ax).bind λ_=>
(fU a8 x0).bind λaA=>
(fU aA.2.1 ax).bind λ_=>let aD:=a8.modify x0 λe=>(e.1,((e.2.1.modify ax λe=>(0,av)),e.2.2));some (.inl (x0,x8,a4,a5,a6,a7,aD,x6.1,x6.2.1,x6.2.2.1,x6.2.2.2.1,x6.2.2.2.2,())))else bif(x6.1==2)then((fU a8 x0).bind λ_=>
(gj x6.2.1).bind λav=>
(fU a8 x0).bind λax=>
(fU ax.2.1 av).bind λ_=>
(fU a8 x0).bind λaz=>
(fU az.2.1 av).bind λ_=>let aB:=a8.modify x0 λe=>(e.1,((e.2.1.modify av λe=>(ap.1,ap.2)),e.2.2));some (.inl (x0,x8,a4,a5,a6,a7,aB,x6.1,x6.2.1,x6.2.2.1,x6.2.2.2.1,x6.2.2.2.2,())))else bif(x6.1==15)then((fU a8 x0).bind λ_=>
(gj x6.2.2.2.2).bind λav=>
(fU a4 av).bind λax=>let ay:=wk .u16 ax;
(gj x6.2.1).bind λaz=>
(fU a8 x0).bind λaA=>
(fU aA.2.1 az).bind λ_=>
(fU a8 x0).bind λaD=>
(fU aD.2.1 az).bind λ_=>let aF:=a8.modify x0 λe=>(e.1,((e.2.1.modify az λe=>(1,ay)),e.2.2));some (.inl (x0,x8,a4,a5,a6,a7,aF,x6.1,x6.2.1,x6.2.2.1,x6.2.2.2.1,x6.2.2.2.2,())))else bif(x6.1==16)then((bif(x6.1==17)then(some (x0,x8,a4,a5,a6,a7,a8,a0,a1,a2,x6.1,x6.2.1,x6.2.2.1,x6.2.2.2.1,x6.2.2.2.2,ap.1,ap.2,ah.1,ah.2,()))else some (x0,x8,a4,a5,a6,a7,a8,a0,a1,a2,x6.1,x6.2.1,x6.2.2.1,x6.2.2.2.1,x6.2.2.2.2,ap.1,ap.2,ap.1,ap.2,()):Option (T3i)).bind λ(aq,av,ax,ay,az,aA,aB,_,aE,_,aG,aH,aI,aJ,aK,aL,aM,aO,aP,_)=>let aQ:=wk .u16 aK;
(iG ax ay aE aO aP aQ false).bind λ(_,aS,aT,_)=>bif(aT != 0)then((iy aq aT aB).bind λ(aU,aV,_)=>some (.inr (aU,ax,ay,az,aA,aV,())))else bif(aG==16)then((fU aB aq).bind λ_=>let aV:=wk .i64 aS;
(qY aV az aA).bind λ(aW,aY,aZ,ba,_)=>
(gj aH).bind λbc=>
(fU aB aq).bind λbd=>
(fU bd.2.1 bc).bind λ_=>
(fU aB aq).bind λbf=>
(fU bf.2.1 bc).bind λ_=>let bh:=aB.modify aq λe=>(e.1,((e.2.1.modify bc λe=>(aW,aY)),e.2.2));some (.inl (aq,av,ax,ay,aZ,ba,bh,aG,aH,aI,aJ,aK,())))else let aU:=wk .i64 aS;
(m8 aU aL aM az aA).bind λ(aV,aW,_)=>some (.inl (aq,av,ax,ay,aV,aW,aB,aG,aH,aI,aJ,aK,())))else bif(x6.1==17)then((bif(x6.1==17)then(some (x0,x8,a4,a5,a6,a7,a8,a0,a1,a2,x6.1,x6.2.1,x6.2.2.1,x6.2.2.2.1,x6.2.2.2.2,ap.1,ap.2,ah.1,ah.2,()))else some (x0,x8,a4,a5,a6,a7,a8,a0,a1,a2,x6.1,x6.2.1,x6.2.2.1,x6.2.2.2.1,x6.2.2.2.2,ap.1,ap.2,ap.1,ap.2,()):Option (T3i)).bind λ(aq,av,ax,ay,az,aA,aB,_,aE,_,aG,aH,aI,aJ,aK,aL,aM,aO,aP,_)=>let aQ:=wk .u16 aK;
(iG ax ay aE aO aP aQ false).bind λ(_,aS,aT,_)=>bif(aT != 0)then((iy aq aT aB).bind λ(aU,aV,_)=>some (.inr (aU,ax,ay,az,aA,aV,())))else bif(aG==16)then((fU aB aq).bind λ_=>let aV:=wk .i64 aS;
(qY aV az aA).bind λ(aW,aY,aZ,ba,_)=>
(gj aH).bind λbc=>
(fU aB aq).bind λbd=>
(fU bd.2.1 bc).bind λ_=>
(fU aB aq).bind λbf=>
(fU bf.2.1 bc).bind λ_=>let bh:=aB.modify aq λe=>(e.1,((e.2.1.modify bc λe=>(aW,aY)),e.2.2));some (.inl (aq,av,ax,ay,aZ,ba,bh,aG,aH,aI,aJ,aK,())))else let aU:=wk .i64 aS;
(m8 aU aL aM az aA).bind λ(aV,aW,_)=>some (.inl (aq,av,ax,ay,aV,aW,aB,aG,aH,aI,aJ,aK,())))else bif(x6.1==18)then(some (.inl (x0,x6.2.2.2.2,a4,a5,a6,a7,a8,x6.1,x6.2.1,x6.2.2.1,x6.2.2.2.1,x6.2.2.2.2,())))else bif(x6.1==19)then(bif(ah.1 != 0)then((iy x0 3 a8).bind λ(aq,av,_)=>some (.inr (aq,a4,a5,a6,a7,av,())))else bif((ah.2==0)==(x6.1==19))then(some (.inl (x0,x6.2.2.2.2,a4,a5,a6,a7,a8,x6.1,x6.2.1,x6.2.2.1,x6.2.2.2.1,x6.2.2.2.2,())))else some (.inl (x0,x8,a4,a5,a6,a7,a8,x6.1,x6.2.1,x6.2.2.1,x6.2.2.2.1,x6.2.2.2.2,())))else bif(x6.1==20)then(bif(ah.1 != 0)then((iy x0 3 a8).bind λ(aq,av,_)=>some (.inr (aq,a4,a5,a6,a7,av,())))else bif((ah.2==0)==(x6.1==19))then(some (.inl (x0,x6.2.2.2.2,a4,a5,a6,a7,a8,x6.1,x6.2.1,x6.2.2.1,x6.2.2.2.1,x6.2.2.2.2,())))else some (.inl (x0,x8,a4,a5,a6,a7,a8,x6.1,x6.2.1,x6.2.2.1,x6.2.2.2.1,x6.2.2.2.2,())))else bif(x6.1==21)then((fU a8 x0).bind λ_=>let av:=wk .u16 x8;
(gj x6.2.1).bind λax=>
(fU a8 x0).bind λay=>
(fU ay.2.1 ax).bind λ_=>
(fU a8 x0).bind λaA=>
(fU aA.2.1 ax).bind λ_=>let aD:=a8.modify x0 λe=>(e.1,((e.2.1.modify ax λe=>(0,av)),e.2.2));some (.inl (x0,x6.2.2.2.2,a4,a5,a6,a7,aD,x6.1,x6.2.1,x6.2.2.1,x6.2.2.2.1,x6.2.2.2.2,())))else bif(x6.1==22)then(bif(ah.1 != 0)then((iy x0 3 a8).bind λ(aq,av,_)=>some (.inr (aq,a4,a5,a6,a7,av,())))else bif(decide (ah.2>255))then((iy x0 2 a8).bind λ(aq,av,_)=>some (.inr (aq,a4,a5,a6,a7,av,())))else let aq:=wk .i64 ah.2;some (.inl (x0,aq,a4,a5,a6,a7,a8,x6.1,x6.2.1,x6.2.2.1,x6.2.2.2.1,x6.2.2.2.2,())))else bif(x6.1==24)then((fU a8 x0).bind λaq=>bif(aq.2.2.2.2.2.1==(-1))then((iy x0 1 a8).bind λ(av,ax,_)=>some (.inr (av,a4,a5,a6,a7,ax,())))else
(fU a8 x0).bind λav=>
(fU a8 x0).bind λ_=>let ay:=a8.modify x0 λe=>(e.1,(e.2.1,(e.2.2.1,(e.2.2.2.1,(e.2.2.2.2.1,((-1),e.2.2.2.2.2.2))))));some (.inl (x0,av.2.2.2.2.2.1,a4,a5,a6,a7,ay,x6.1,x6.2.1,x6.2.2.1,x6.2.2.2.1,x6.2.2.2.2,())))else bif(x6.1==23)then((fU a8 x0).bind λ_=>let av:=a8.modify x0 λe=>(2,e.2);
(fU av x0).bind λ_=>let ay:=av.modify x0 λe=>(e.1,(e.2.1,(x8,e.2.2.2)));some (.inr (1,a4,a5,a6,a7,ay,())))else
(fU a8 x0).bind λ_=>
(gj x6.2.2.2.1).bind λav=>
(fU a8 x0).bind λax=>
(fU ax.2.1 av).bind λ_=>
(fU a8 x0).bind λaz=>
(fU az.2.1 av).bind λaA=>
(vy a4 a5 a1 x6.1 ap.1 ap.2 aA.1 aA.2).bind λ(aB,aD,aE,_)=>bif(aE != 0)then((iy x0 aE a8).bind λ(aF,aG,_)=>some (.inr (aF,a4,a5,a6,a7,aG,())))else
(fU a8 x0).bind λ_=>
(gj x6.2.1).bind λaG=>
(fU a8 x0).bind λaH=>
(fU aH.2.1 aG).bind λ_=>
(fU a8 x0).bind λaJ=>
(fU aJ.2.1 aG).bind λ_=>let aL:=a8.modify x0 λe=>(e.1,((e.2.1.modify aG λe=>(aB,aD)),e.2.2));some (.inl (x0,x8,a4,a5,a6,a7,aL,x6.1,x6.2.1,x6.2.2.1,x6.2.2.2.1,x6.2.2.2.2,())):Option ((Nat×Int×LI×Int×LDCe×LDLn×LDTh×T0V)⊕T1h))with
|none=>none
|some (.inl (aq,av,ax,ay,az,aA,aB,aD,_,_,_,_,_))=>
(fU aB aq).bind λ_=>let aJ:=aB.modify aq λe=>(e.1,(e.2.1,(av,e.2.2.2)));
((oe aD).bind λ(aK,_)=>bif aK then((fU aJ aq).bind λaL=>let aM:=w64 (aL.2.2.2.1+1);
(fU aJ aq).bind λ_=>let aP:=aJ.modify aq λe=>(e.1,(e.2.1,(e.2.2.1,(aM,e.2.2.2.2))));some (ax,ay,az,aA,aP,()))else some (ax,ay,az,aA,aJ,()):Option (T12)).bind λ(aK,aL,aM,aO,aP,_)=>some ((-1),aK,aL,aM,aO,aP,())
|some (.inr (aq,av,ax,ay,az,aA,_))=>some (aq,av,ax,ay,az,aA,()))
def Kn:X.Cfg:=⟨E0,[AA,u4,AB,td,EH,wD],[],[⟨17,0,qE,[(.normal,(qS (zl [1,3]++(7,.ptr ⟨4,4,[((),(8,0))]⟩ [0,0])::zaa 8::Uaa 9::zl [11,12]) [(4,Zac),(8,yab),(18,zae),(24,Xab),(26,Xab)]))]⟩,⟨8,1,qE,[(.normal,(qS [zaa 1,(7,.ptr ⟨4,4,[((),(8,0))]⟩ [0,0]),zaa 8,Uaa 9] [(4,Zac),(18,zae)])),(.ret,qS [zaa 1,Uaa 6] Zam)]⟩,⟨52,2,qE,[(.normal,qS [zaa 1] Zam)]⟩]⟩
def C3:Ctr:=⟨164,63,[.agg yab,.ptr ⟨4,0,[]⟩ [0],shU I64],[(4,Zac)],[⟨yac,[.one],[(4,Zac)]⟩],as8 ap1 sA⟩
theorem Kb:Lk 4 C3:=ls Kn (aC Ie (aC zY (aC If (aC xR (aC MU (aC Dp aN))))))
def tJ:T2W->Option (T2W⊕T1D):=λ(v0,v1,v2,v3,v4,v5,v6,v7,v8,v9,eq,eE,eG,eI,eK,_)=>
(sA v2 v3 v4 v0 eq eE eG eI eK).bind λ(x0,x1,x2,x3,x4,x5,_)=>bif(x0 != (-1))then(some (.inr (x0,0,x1,x2,x3,x4,x5,())))else
(gj v0).bind λx6=>
(fU x5 x6).bind λ_=>
(fU x5 x6).bind λx8=>bif(x8.2.2.2.1==v1)then(some (.inr (0,0,x1,x2,x3,x4,x5,())))else some (.inl (v0,v1,v2,v3,v4,v5,v6,v7,v8,v9,x1,x2,x3,x4,x5,()))
def pe(a0:LDIn)(a1:LI)(a2:LLI)(a3:LI)(a4:Int)(a5:LDCe)(a6:LDLn)(a7:LDTh)(a8 a9:Int):Option (T1K):=
((iS a0 a1 a2 a3 a4 a5 a6 a7).bind λ(x0,_)=>bif(!x0)then(some (a8,a9,true,a0,a1,a2,a3,a4,a5,a6,a7,(),0,(),(),(),()))else bif(decide (a8<0))then(some (a8,a9,true,a0,a1,a2,a3,a4,a5,a6,a7,(),0,(),(),(),()))else bif(decide (a8>=4))then(some (a8,a9,true,a0,a1,a2,a3,a4,a5,a6,a7,(),0,(),(),(),()))else bif(decide (a9<1))then(some (a8,a9,true,a0,a1,a2,a3,a4,a5,a6,a7,(),0,(),(),(),()))else some (a8,a9,(decide (a9>64)),a0,a1,a2,a3,a4,a5,a6,a7,(),0,(),(),(),()):Option (Int×Int×Bool×LDIn×LI×LLI×LI×Int×LDCe×LDLn×LDTh×T14)).bind λ(x0,x1,x2,x3,x4,x5,x6,x7,x8,x9,ac,ae,af,ag,ah,ai,_)=>bif x2 then(some ([],0,[],[],[],0,1,()))else
(kV x6 x7 x8 x9 ac).bind λ(aj,ak,am,an,ap,_)=>
(gj x0).bind λaq=>
(fU ac aq).bind λav=>bif(av.1 != 1)then(some (aj,ak,am,an,ap,3,0,()))else
(gj x0).bind λax=>
(fU ap ax).bind λ_=>
(fU ap ax).bind λaz=>let aA:=w64 (az.2.2.2.1+x1);
(gc tJ NN (x0,aA,x3,x4,x5,ae,af,ag,ah,ai,aj,ak,am,an,ap,())).bind λ(aB,aD,aE,aF,aG,aH,aI,_)=>some (aE,aF,aG,aH,aI,aB,aD,())
def F7:X.Cfg:=⟨E0,[nD,oM,C3],[],[⟨2,0,qE,[(.normal,qS (il [2,3]++zl [4,5,8]++[Xaa 33]) [(10,yab),(12,Xac),(18,Zab)])]⟩,⟨9,1,qS (Uaa 2::zl [4,8,11]++[Uaa 12]) [(10,yab),(18,Zab),(24,Zac)],[(.ret,qS (zaa 8::il [9,10]) [(18,Zac)])]⟩]⟩
def yr:Ctr:=⟨152,64,[.agg yab,.agg Xac,shU I64,shU I64],[],[⟨uL [RI,CW,(uaa KCe),iB,qD,I64,I64],[.agg 5,.one,.one],[]⟩],as1 (as8 ap1) pe⟩
theorem Fo:Lk 5 yr:=ls F7 (aC pJ (aC rh (aC Kb aN)))
def mX(a0:Int):Option (ByteArray×Unit):=let x0:ByteArray:=(bytes []);
(bif(a0==0)then(some (a0,true,()))else bif(a0==8)then(some (a0,true,()))else bif(a0==9)then(some (a0,true,()))else bif(a0==11)then(some (a0,true,()))else some (a0,(a0==12),()):Option (T01)).bind λ(x1,x2,_)=>bif x2 then(let x3:ByteArray:=(bytes [78]);some (x3,()))else bif(x1==1)then(let x3:ByteArray:=(bytes [72,80,78]);some (x3,()))else bif(x1==2)then(let x3:ByteArray:=(bytes [72,80,78]);some (x3,()))else bif(x1==3)then(let x3:ByteArray:=(bytes [78,78]);some (x3,()))else bif(x1==4)then(let x3:ByteArray:=(bytes [72]);some (x3,()))else bif(x1==5)then(let x3:ByteArray:=(bytes [72,78]);some (x3,()))else bif(x1==10)then(let x3:ByteArray:=(bytes [78,88]);some (x3,()))else bif(x1==13)then(let x3:ByteArray:=(bytes [78,80,78]);some (x3,()))else bif(x1==14)then(let x3:ByteArray:=(bytes [78,80,78]);some (x3,()))else let x3:ByteArray:=(bytes []);some (x3,())
def F1:X.Cfg:=⟨E0,[],[],[⟨3,0,qE,[(.normal,qS [Uaa 3,Xaa 4] [])]⟩]⟩
def pS:Ctr:=⟨165,65,yac,[],[⟨uL [.str],[.one],[]⟩],ap1 mX⟩
theorem sO:Lk 1 pS:=ls F1 aN
def oD(a0 a1:Int):f_:=bif(a0==78)then(some ((a1==0),()))else bif(a0==72)then(some ((a1==2),()))else bif(a0==80)then(some ((a1==1),()))else some (true,())
def IJ:X.Cfg:=⟨E0,[],[],[]⟩
def uX:Ctr:=⟨166,66,uL [CB,CB],[],[⟨zab,[.one],[]⟩],ap2 oD⟩
theorem zV:Lk 1 uX:=ls IJ aN
def kx(a0:Int):h_:=bif(decide (a0<0))then(some ((-1),()))else bif(decide (a0>15))then(some ((-1),()))else bif(a0==1)then(some (1,()))else bif(a0==13)then(some (1,()))else bif(a0==2)then(some (2,()))else bif(a0==14)then(some (2,()))else some (0,())
def DL:X.Cfg:=⟨E0,[],[],[]⟩
def lV:Ctr:=⟨20,67,yac,[],[⟨yac,[.one],[]⟩],ap1 kx⟩
theorem ot:Lk 1 lV:=ls DL aN
def od(a0:LI)(a1:Int)(a2:LI)(a3 a4 a5:Int):Option (T02):=bif(a3 != 1)then(some (0,3,()))else let x0:=wk .i64 a4;
(gW a0 a1 a2 x0).bind λ(x1,x2,x3,_)=>
(bif(!x3)then(some (true,a3,a4,()))else bif(decide (a5<0))then(some (true,a3,a4,()))else
(gj x1).bind λx4=>
(fU a2 x4).bind λx5=>let x6:=w64 (x5-x2);some ((decide (a5>x6)),a3,a4,()):Option (T0d)).bind λ(x4,_,x6,_)=>bif x4 then(some (0,4,()))else let x7:=wk .i64 x6;some (x7,0,())
def DN:X.Cfg:=⟨E0,[jK],[],[⟨6,0,qE,[(.normal,qS [zaa 6,Xaa 41] [(14,Xab)])]⟩]⟩
def wC:Ctr:=⟨167,68,[.agg Uab,shU RI,.agg Xab,shU I64],[],[⟨uad,[.one,.one],[]⟩],ap6 od⟩
theorem Do:Lk 2 wC:=ls DN (aC li aN)
def oT:T3k->Option (T3k⊕((Int×Unit)⊕(Int×ByteArray×Int×Int×Bool×T31))):=λ(v0,v1,v2,v3,v4,v5,v6,v7,v8,v9,eq,eE,eG,eI,eK)=>bif(decide (v3<v2))then((gj v3).bind λx0=>
(Ef v1 x0).bind λx1=>
(gj v3).bind λx2=>
(fU eI x2).bind λx3=>
(oD x1 x3.1).bind λ(x4,_)=>bif(!x4)then(some (.inr (.inl (6,()))))else let x5:=w64 (v3+1);some (.inl (v0,v1,v2,x5,v4,v5,v6,v7,v8,v9,eq,eE,eG,eI,eK)))else some (.inr (.inr (v0,v1,v2,v3,false,v4,v5,v6,v7,v8,v9,eq,eE,eG,eI,eK)))
def pd(a0:LDIn)(a1:LI)(a2:LLI)(a3:LI)(a4:Int)(a5:LDCe)(a6:LDLn)(a7:LDTh)(a8:Int):h_:=
(gj a8).bind λx0=>
(fU a7 x0).bind λx1=>let x2:=w64 (x1.2.2.1-1);
(gj x2).bind λx3=>
(fU a0 x3).bind λx4=>
(mX x4.2.2.2.2).bind λ(x5,_)=>let x6:=BB x5;
(match gc oT NN (x4.2.2.2.2,x5,x6,0,a0,a1,a2,a3,a4,a5,a6,a7,x1.1,x1.2.1,x1.2.2.1,x1.2.2.2.1,x1.2.2.2.2.1,x1.2.2.2.2.2.1,x1.2.2.2.2.2.2.1,x1.2.2.2.2.2.2.2,())with
|none=>none
|some (.inl (x7,_))=>some (x7,())
|some (.inr (x7,_,_,_,_,af,ag,_,ai,aj,_,_,_,_,aq,_))=>
(kx x7).bind λ(aD,_)=>bif(decide (aD>0))then((fU aq 1).bind λaE=>
(fU aq 2).bind λaF=>let aG:=wk .i64 aF.2;
(od ai aj ag aE.1 aE.2 aG).bind λ(_,aI,_)=>bif(aI != 0)then(some (6,()))else
(fU aq 2).bind λaJ=>bif(decide (aJ.2>16))then(some (6,()))else
(bif(x7==10)then((fU aq 0).bind λaK=>let aL:=wk .i64 aK.2;let aM:=f6 af.length;some ((decide (aL>=aM)),()))else bif(x7==12)then((fU aq 0).bind λaK=>let aL:=wk .i64 aK.2;let aM:=f6 af.length;some ((decide (aL>=aM)),()))else some (false,()):f_).bind λ(aK,_)=>bif aK then(some (6,()))else some (0,()))else
(bif(x7==10)then((fU aq 0).bind λaE=>let aF:=wk .i64 aE.2;let aG:=f6 af.length;some ((decide (aF>=aG)),()))else bif(x7==12)then((fU aq 0).bind λaE=>let aF:=wk .i64 aE.2;let aG:=f6 af.length;some ((decide (aF>=aG)),()))else some (false,()):f_).bind λ(aE,_)=>bif aE then(some (6,()))else some (0,()))
def F4:X.Cfg:=⟨E0,[pS,uX,lV,wC],[],[⟨6,0,qS (zl [3,4,7]++Uaa 8::sP 9 .str::il [29,30]) Xaq,[(.ret,qS [Uaa 6] []),(.exit 0,qS (zl [3,4,7]++Uaa 8::sP 9 .str::il [29,30]++[Xaa 31]) Xaq)]⟩,⟨19,1,qE,[(.normal,qS [Xaa 93] [])]⟩]⟩
def yq:Ctr:=⟨153,69,[.agg yab,.agg Xac,shU I64],[],[⟨yac,[.one],[]⟩],as8 ap1 pd⟩
theorem Fn:Lk 3 yq:=ls F4 (aC sO (aC zV (aC ot (aC Do aN))))
def oc(a0:Int)(a1:LDCe)(a2 a3 a4 a5 a6 a7:Int):Option (T1X):=bif(gl 4 0 a1.length)then let x0:LDCe:=(List.append [] a1);some (a0,x0,a2,a3,a4,a5,a6,a7,())else none
def DM:X.Cfg:=⟨E0,[],[],[]⟩
def wB:Ctr:=⟨168,70,[.agg Xae],[],[⟨Zaf,[.agg 8],[]⟩],as1 (as2 (as4 ap1)) oc⟩
theorem Dn:Lk 1 wB:=ls DM aN
def qg(a0:Int)(a1:LDCe)(a2 a3 a4 a5 a6 a7 a8 a9:Int):Option (T1X):=
(oc a0 a1 a2 a3 a4 a5 a6 a7).bind λ(_,x1,x2,x3,x4,x5,_)=>some (4,x1,x2,x3,x4,x5,a8,a9,())
def Kp:X.Cfg:=⟨E0,[wB],[],[]⟩
def xj:Ctr:=⟨154,71,[.agg Xae,shU I64,shU CW],[],[⟨Zaf,[.agg 8],[]⟩],as1 (as8 ap1) qg⟩
theorem B3:Lk 2 xj:=ls Kp (aC Dn aN)
def jE(a0:Int):h_:=bif(decide (a0<0))then(some ((-1),()))else bif(decide (a0>15))then(some ((-1),()))else
(mX a0).bind λ(x0,_)=>let x1:=BB x0;some (x1,())
def zy:X.Cfg:=⟨E0,[pS],[],[]⟩
def n5:Ctr:=⟨155,72,yac,[],[⟨yac,[.one],[]⟩],ap1 jE⟩
theorem rY:Lk 2 n5:=ls zy (aC sO aN)
def ji(a0:LI)(a1:Int)(a2:LI)(a3 a4:Int):Option (T0z):=bif(a3==0)then(some (0,a4,0,0,()))else bif(a3==2)then(let x0:Int:=(wk .u16 (a4-a1));some (2,x0,0,0,()))else let x0:=wk .i64 a4;
(gW a0 a1 a2 x0).bind λ(x1,x2,x3,_)=>bif x3 then(some (1,0,x1,x2,()))else let x4:=wk .i64 a4;some (1,0,(-1),x4,())
def Gm:X.Cfg:=⟨E0,[jK],[],[]⟩
def pU:Ctr:=⟨21,73,[.agg Uab,shU RI,.agg Xab],[],[⟨yag,[.agg 4],[]⟩],ap5 ji⟩
theorem sR:Lk 2 pU:=ls Gm (aC li aN)
def oF(a0:LDCe)(a1:LDLn)(a2:Int):Option (T02):=let x0:=w64 (Int.tdiv a2 4);let x1:=Int.tmod x0 4;
(gj x1).bind λx2=>
(fU a1 x2).bind λx3=>bif(x3.1==x0)then(let x4:Int:=(Int.tmod a2 4);
(gj x4).bind λx5=>
(fU x3.2.2 x5).bind λx6=>some (x6.1,x6.2,()))else
(gj a2).bind λx4=>
(fU a0 x4).bind λx5=>some (x5.1,x5.2,())
def IT:X.Cfg:=⟨E0,[],[],[]⟩
def u7:Ctr:=⟨60,74,[.agg yaf,shU I64],[],[⟨Xab,[.agg 2],[]⟩],ap3 oF⟩
theorem Aa:Lk 1 u7:=ls IT aN
def kT:T41->Option (T41⊕(Int×Int×T3W)):=λ(v0,v1,v2,v3,v4,v5,v6,v7,v8,v9,eq,eE,eG,eI,eK,eO,eS,eW,eY,fa,fe,fh,fj,fm,fr,fv,fw,fA,fB,fC,fD,fE,fF,fG,fH,fI,fJ,fK,fL,_)=>bif(decide (v1<v0))then((gj v1).bind λx0=>
(fU fr x0).bind λx1=>
(ji eY fa v3 x1.1 x1.2).bind λ(x2,x3,x4,x5,_)=>let x6:LDCn:=[(x2,(x3,(x4,x5)))];bif(gl 24 fK.length x6.length)then let x7:LDCn:=(List.append fK x6);let x8:=w64 (v1+1);some (.inl (v0,x8,v2,v3,v4,v5,v6,v7,v8,v9,eq,eE,eG,eI,eK,eO,eS,eW,eY,fa,fe,fh,fj,fm,fr,fv,fw,fA,fB,fC,fD,fE,fF,fG,fH,fI,fJ,x7,fL,()))else none)else some (.inr (v0,v1,false,v2,v3,v4,v5,v6,v7,v8,v9,eq,eE,eG,eI,eK,eO,eS,eW,eY,fa,fe,fh,fj,fm,fr,fv,fw,fA,fB,fC,fD,fE,fF,fG,fH,fI,fJ,fK,fL,()))
def kS:T40->Option (T40⊕T45):=λ(v0,v1,v2,v3,v4,v5,v6,v7,v8,v9,eq,eE,eG,eI,eK,eO,eS,eW,eY,fa,fe,fh,fj,fm,fr,fv,fw,fA,fB,fC,fD,fE,fF,fG,fH,fI,fJ,fK,fL,_)=>bif(decide (v1<v0))then((fU fr 1).bind λx0=>let x1:=wk .i64 x0.2;let x2:=w64 (x1+v1);
(oF fe fh x2).bind λ(x3,x4,_)=>
(ji eY fa v3 x3 x4).bind λ(x5,x6,x7,x8,_)=>let x9:LDCn:=[(x5,(x6,(x7,x8)))];bif(gl 24 fL.length x9.length)then let ac:LDCn:=(List.append fL x9);let ae:=w64 (v1+1);some (.inl (v0,ae,v2,v3,v4,v5,v6,v7,v8,v9,eq,eE,eG,eI,eK,eO,eS,eW,eY,fa,fe,fh,fj,fm,fr,fv,fw,fA,fB,fC,fD,fE,fF,fG,fH,fI,fJ,fK,ac,()))else none)else some (.inr (v0,v1,false,v2,v3,v4,v5,v6,v7,v8,v9,eq,eE,eG,eI,eK,eO,eS,eW,eY,fa,fe,fh,fj,fm,fr,fv,fw,fA,fB,fC,fD,fE,fF,fG,fH,fI,fJ,fK,fL,()))
def oE(a0:LDIn)(a1:LI)(a2:LLI)(a3:LI)(a4:Int)(a5:LDCe)(a6:LDLn)(a7:LDTh)(a8 a9:Int):Option (LI×Int×LDCe×LDLn×LDTh×Int×Int×Int×Int×Int×Int×LDCn×LDCn×Int×Unit):=
(pe a0 a1 a2 a3 a4 a5 a6 a7 a8 a9).bind λ(x0,x1,x2,x3,x4,x5,x6,_)=>bif(x6 != 0)then(some ([],0,[],[],[],0,0,0,0,0,0,[],[],x6,()))else
(gj a8).bind λx7=>
(fU x4 x7).bind λ_=>
(fU x4 x7).bind λx9=>
(fU x4 x7).bind λac=>
(match(bif(x5==2)then(some (.inl ((),0,(),(),(),0,0,0,0,0,0,(),(),x0,x1,x2,x3,x4,a8,x5,x9.2.2.2.2.2.2.1,x9.2.2.2.1,x9.2.2.1,0,(),(),())))else bif(x5==1)then((pd a0 a1 a2 x0 x1 x2 x3 x4 a8).bind λ(ae,_)=>bif(ae != 0)then((qg x9.1 ac.2.1 x9.2.2.1 x9.2.2.2.1 x9.2.2.2.2.1 x9.2.2.2.2.2.1 x9.2.2.2.2.2.2.1 x9.2.2.2.2.2.2.2 ae 0).bind λ(af,ag,ah,ai,aj,ak,am,an,_)=>
(gj a8).bind λap=>
(fU x4 ap).bind λ_=>
(fU x4 ap).bind λ_=>let ax:=x4.modify ap λe=>(af,(ag,(ah,(ai,(aj,(ak,(am,an)))))));some (.inl ((),0,(),(),(),0,0,0,0,0,0,(),(),x0,x1,x2,x3,ax,a8,2,ae,x9.2.2.2.1,x9.2.2.1,0,(),(),())))else let af:=w64 (x9.2.2.1-1);
(gj af).bind λag=>
(fU a0 ag).bind λah=>
(jE ah.2.2.2.2).bind λ(ai,_)=>
(gc kT NN (ai,0,a0,a1,a2,(),0,(),(),(),0,0,0,0,0,0,(),(),x0,x1,x2,x3,x4,x9.1,ac.2.1,x9.2.2.1,x9.2.2.2.1,x9.2.2.2.2.1,x9.2.2.2.2.2.1,x9.2.2.2.2.2.2.1,x9.2.2.2.2.2.2.2,a8,x5,0,x9.2.2.2.1,x9.2.2.1,ah.2.2.2.2,[],(),())).bind λ(_,_,_,an,ap,aq,av,ax,ay,az,aA,aB,aD,aE,aF,aG,aH,aI,aJ,aK,aL,aM,aO,aP,aQ,aR,aS,aT,aU,aV,aW,aY,aZ,ba,bc,bd,be,bf,bg,bh,_)=>
(kx bf).bind λ(bi,_)=>bif(bi==1)then((fU aR 2).bind λbj=>let bk:=wk .i64 bj.2;
(gc kS NN (bk,0,an,ap,aq,av,ax,ay,az,aA,aB,aD,aE,aF,aG,aH,aI,aJ,aK,aL,aM,aO,aP,aQ,aR,aS,aT,aU,aV,aW,aY,aZ,ba,bc,bd,be,bf,bg,[],())).bind λ(bm)=>some (.inr (.inl (bm))))else some (.inr (.inr (.inl (false,an,ap,aq,av,ax,ay,az,aA,aB,aD,aE,aF,aG,aH,aI,aJ,aK,aL,aM,aO,aP,aQ,aR,aS,aT,aU,aV,aW,aY,aZ,ba,bc,bd,be,bf,bg,bh,())))))else some (.inr (.inr (.inr (a8,false,a0,a1,a2,(),0,(),(),(),0,0,0,0,0,0,(),(),x0,x1,x2,x3,x4,x9.1,ac.2.1,x9.2.2.1,x9.2.2.2.1,x9.2.2.2.2.1,x9.2.2.2.2.2.1,x9.2.2.2.2.2.2.1,x9.2.2.2.2.2.2.2,a8,x5,0,x9.2.2.2.1,x9.2.2.1,0,(),(),())))):Option ((Unit×Int×Unit×Unit×Unit×Int×Int×Int×Int×Int×Int×Unit×Unit×LI×Int×LDCe×LDLn×LDTh×T1S)⊕(T45⊕(T3W⊕(Int×Bool×LDIn×LI×LLI×Unit×Int×Unit×Unit×Unit×Int×Int×Int×Int×Int×Int×Unit×Unit×LI×Int×LDCe×LDLn×LDTh×Int×LDCe×Int×Int×Int×Int×Int×Int×T1S)))))with
|none=>none
|some (.inl (_,_,_,_,_,_,_,_,_,_,_,_,_,ay,az,aA,aB,aD,aE,aF,aG,aH,aI,aJ,_,_,_))=>some (ay,az,aA,aB,aD,aE,aF,aG,aH,aI,aJ,[],[],0,())
|some (.inr (.inl (_,_,_,_,_,_,_,_,_,_,_,_,_,_,_,_,_,_,_,aF,aG,aH,aI,aJ,_,_,_,_,_,_,_,_,aT,aU,aV,aW,aY,aZ,ba,bc,_)))=>some (aF,aG,aH,aI,aJ,aT,aU,aV,aW,aY,aZ,ba,bc,0,())
|some (.inr (.inr (.inl (_,_,_,_,_,_,_,_,_,_,_,_,_,_,_,_,_,aD,aE,aF,aG,aH,_,_,_,_,_,_,_,_,aR,aS,aT,aU,aV,aW,aY,_,_))))=>some (aD,aE,aF,aG,aH,aR,aS,aT,aU,aV,aW,aY,[],0,())
|some (.inr (.inr (.inr (_,_,_,_,_,_,_,_,_,_,_,_,_,_,_,_,_,_,aE,aF,aG,aH,aI,_,_,_,_,_,_,_,_,aS,aT,aU,aV,aW,aY,_,_,_))))=>some (aE,aF,aG,aH,aI,aS,aT,aU,aV,aW,aY,[],[],0,()))
def IK:X.Cfg:=⟨E0,[yr,yq,xj,n5,pU,lV,u7],[],[⟨19,0,qS (zl [4,8,9,11,14,15]++il [80,81]) Uap,[(.exit 1,qS (zl [4,8,9,11,14,15]++il [80,81]++[Xaa 82]) Uap)]⟩,⟨26,1,qS (zl [4,8,9,11,14,15]++il [109,110]) Xap,[(.exit 3,qS zaw Xap)]⟩,⟨7,2,qE,[(.normal,qS (zl [8,9,11,15]) [(18,Zab),(20,yae),(24,yah),(32,yae)]),(.normal,qS zaw Xap),(.normal,qS (zl [4,8,9,11,14,15]++[Xaa 103]) Uap),(.normal,qS (Uaa 2::zl [4,8,9,11,14,15]++[Xaa 51]) [(10,yab),(18,Zab),(20,yae),(24,yah),(30,Xae),(32,yae)])]⟩]⟩
def Az:Ctr:=⟨134,75,[.agg yab,.agg Xac,shU I64,shU I64],[],[⟨uL [RI,CW,(uaa KCe),iB,(uaa nI),I64,I64,I64,I64,I64,I64,(uaa KCn),(uaa KCn),I64],[.agg 5,.agg 8,.one],[]⟩],as1 (as8 ap1) oE⟩
theorem Id:Lk 6 Az:=ls IK (aC Fo (aC Fn (aC B3 (aC rY (aC sR (aC ot (aC Aa aN)))))))
def kR:T2m->Option (T2m⊕T2w):=λ(v0,v1,v2,v3,v4,v5,v6,v7,v8,_)=>bif(decide (v2<v1))then((gj v2).bind λx0=>
(fU v0 x0).bind λx1=>bif(gl 8 0 x1.length)then let x2:v_:=(List.append [] x1);bif(gl 24 v8.length (List.length [x2]))then let x3:List LI:=(List.append v8 [x2]);let x4:=w64 (v2+1);some (.inl (v0,v1,x4,v3,v4,v5,v6,v7,x3,()))else none else none)else some (.inr (v0,v1,v2,false,v3,v4,v5,v6,v7,v8,()))
def oB(a0:LI)(a1:LLI):Option (T09):=bif(gl 8 0 a0.length)then let x0:v_:=(List.append [] a0);let x1:=f6 a1.length;
(gc kR NN (a1,x1,0,a0,a1,(),(),x0,[],())).bind λ(_,_,_,_,_,_,_,_,ac)=>some (ac)else none
def IF:X.Cfg:=⟨E0,[],[(21,(uaa I64)),(22,(uaa I64))],[(lx 4 0 (zl [2,3]++sP 11 (yaa RI)::il [12,13]) [(4,Uaf),(6,uac),(8,uaf)] 14)]⟩
def rq:Ctr:=⟨169,76,[.agg Uaf],[],[⟨uaf,[.agg 2],[]⟩],ap2 oB⟩
theorem uB:Lk 1 rq:=ls IF aN
def jN(a0:LI)(a1:LLI)(a2 a3:Int):Option (LI×LLI×T01):=
(oB a0 a1).bind λ(x0,x1,_)=>
(bif(decide (a2<0))then(some (a2,true,(),(),x0,x1,()))else bif(decide (a2>=4))then(some (a2,true,(),(),x0,x1,()))else
(gj a2).bind λx2=>
(fU a0 x2).bind λx3=>some (a2,(x3 != a3),(),(),x0,x1,()):Option (T1a)).bind λ(x2,x3,_,_,x6,x7,_)=>bif x3 then(some (x6,x7,(-1),false,()))else
(gj x2).bind λx8=>
(fU x6 x8).bind λ_=>
(fU x6 x8).bind λ_=>let ae:=x6.modify x8 λe=>(-1);
(gj x2).bind λaf=>
(fU x7 af).bind λ_=>
(fU x7 af).bind λ_=>
(fU x7 af).bind λai=>let aj:=f6 ai.length;bif(decide (aj>0))then((gj x2).bind λak=>
(fU x7 ak).bind λ_=>
(fU x7 ak).bind λ_=>
(fU x7 ak).bind λap=>
(fU ap 0).bind λ_=>
(fU x7 ak).bind λav=>
(fU av 0).bind λax=>
(gj x2).bind λay=>
(fU ae ay).bind λ_=>
(fU ae ay).bind λ_=>let aB:=ae.modify ay λe=>ax;
(gj x2).bind λaD=>
(fU x7 aD).bind λ_=>
(fU x7 aD).bind λ_=>
(fU x7 aD).bind λaG=>bif(iO 1 aG.length aG.length)then(fU x7 aD).bind λ_=>
(gj x2).bind λaI=>
(fU x7 aI).bind λ_=>
(fU x7 aD).bind λaK=>
(fU x7 aI).bind λ_=>let aM:=x7.modify aI λe=>(nG aK 1 (Nat.sub aG.length 1));
(gj x2).bind λaO=>
(fU aB aO).bind λaP=>some (aB,aM,aP,true,())else none)else
(gj x2).bind λak=>
(fU ae ak).bind λam=>some (ae,x7,am,true,())
def ID:X.Cfg:=⟨E0,[rq],[],[⟨3,0,qE,[(.normal,qS [Uaa 1,zaa 6,zaa 9,Xaa 26] [(14,uac),(20,uaf)])]⟩]⟩
def rp:Ctr:=⟨156,77,[.agg Uaf,shU I64,shU I64],[],[⟨uL [RI,(yaa RI),I64,.bool],[.agg 2,.one,.one],[]⟩],ap4 jN⟩
theorem uA:Lk 2 rp:=ls ID (aC uB aN)
def gt(a0:Int)(a1:Bool):Option (T1z):=
(bif(!a1)then(some (65535,0,0,0,0,(),0,false,()))else some (a0,0,0,0,0,(),0,false,()):Option (Int×T1z)).bind λ(x0,_)=>let x8:=wk .u16 x0;some (0,x8,0,0,(),(-1),false,())
def FQ:X.Cfg:=⟨E0,[],[],[⟨1,0,qE,[(.normal,qS [Uaa 0,zaa 4] [(10,Uad)])]⟩]⟩
def nC:Ctr:=⟨170,78,uL [I64,.bool],[],[⟨Uad,[.agg 7],[]⟩],ap2 gt⟩
theorem pI:Lk 1 nC:=ls FQ aN
def qf:T2T->Option (T2T⊕((Int×T09)⊕(Int×Int×LLI×Int×Int×LI×T25))):=λ(v0,v1,v2,v3,v4,v5,v6,v7,v8,v9,eq,eE,eG)=>bif(decide (v7<v6))then((gj v7).bind λx0=>
(fU v5 x0).bind λx1=>bif(x1==v1)then(some (.inr (.inl (2,eG))))else let x2:=w64 (v7+1);some (.inl (v0,v1,v2,v3,v4,v5,v6,x2,v8,v9,eq,eE,eG)))else some (.inr (.inr (v0,v1,v2,v3,v4,v5,v6,v7,false,v8,v9,eq,eE,eG)))
def qe:T2z->Option (T2z⊕((Int×T09)⊕(Int×Int×T2w))):=λ(v0,v1,v2,v3,v4,v5)=>bif(decide (v4<v3))then((gj v4).bind λx0=>
(fU v2 x0).bind λx1=>let x2:=f6 x1.length;
(match gc qf NN (v0,v1,v2,v3,v4,x1,x2,0,v5)with
|none=>none
|some (.inl (x3,x4,x5,_))=>some (.inr (.inl (x3,x4,x5,())))
|some (.inr (x3,x4,x5,x6,x7,_,_,_,_,af))=>let am:=w64 (x7+1);some (.inl (x3,x4,x5,x6,am,af))))else some (.inr (.inr (v0,v1,v2,v3,v4,false,v5)))
def qV(a0:LI)(a1:LLI)(a2 a3:Int):Option (LI×LLI×Int×Unit):=
(oB a0 a1).bind λ(x0,x1,_)=>
(bif(decide (a2<0))then(some (a2,a3,true,a0,a1,(),(),x0,x1,()))else bif(decide (a2>=4))then(some (a2,a3,true,a0,a1,(),(),x0,x1,()))else
(gj a2).bind λx2=>
(fU a0 x2).bind λx3=>some (a2,a3,(x3==a3),a0,a1,(),(),x0,x1,()):Option (T25)).bind λ(x2,x3,x4,x5,x6,x7,x8,x9,ac,_)=>bif x4 then(some (x9,ac,2,()))else let ae:=f6 x6.length;
(match gc qe NN (x2,x3,x6,ae,0,x5,x6,x7,x8,x9,ac,())with
|none=>none
|some (.inl (af,ag,ah,_))=>some (ag,ah,af,())
|some (.inr (af,ag,_,_,_,_,am,_,_,_,av,ax,_))=>
(gj af).bind λay=>
(fU am ay).bind λaz=>bif(az==(-1))then((gj af).bind λaA=>
(fU av aA).bind λ_=>
(fU av aA).bind λ_=>let aE:=av.modify aA λe=>ag;some (aE,ax,0,()))else
(gj af).bind λaA=>
(fU ax aA).bind λ_=>
(fU ax aA).bind λ_=>
(fU ax aA).bind λaE=>bif(gl 8 aE.length (List.length [ag]))then let aF:v_:=(List.append aE [ag]);
(gj af).bind λaG=>
(fU ax aG).bind λ_=>
(fU ax aG).bind λ_=>bif(Nat.beq aG aA)then let aJ:List LI:=(ax.modify aG λe=>aF);some (av,aJ,1,())else none else none)
def IC:X.Cfg:=⟨E0,[rq],[],[⟨3,0,qE,[(.normal,qS (il [1,2]++zl [3,6,8]++[Xaa 29]) zan)]⟩,⟨13,1,qS (il [1,2]++zl [3,6,8]++sP 32 (yaa RI)::il [33,34]++sP 38 RI::il [39,40]) zan,[(.ret,qS uav [(14,uaf)]),(.exit 2,qS (il [1,2]++zl [3,6,8]++sP 32 (yaa RI)::il [33,34]++sP 38 RI::il [39,40]++[Xaa 41]) zan)]⟩,⟨7,2,qS (il [1,2]++zl [3,6,8]++sP 32 (yaa RI)::il [33,34]) zan,[(.ret,qS uav [(14,uaf)]),(.exit 0,qS (il [1,2]++zl [3,6,8]++sP 32 (yaa RI)::il [33,34]++[Xaa 35]) zan)]⟩]⟩
def Av:Ctr:=⟨171,79,[.agg Uaf,shU I64,shU I64],[],[⟨uL [(uaa I64),(uaa (uaa I64)),I64],[.agg 2,.one],[]⟩],ap4 qV⟩
theorem H9:Lk 2 Av:=ls IC (aC uB aN)
def mY(a0 a1 a2 a3 a4 a5:Int)(a6 a7:LDCn):f_:=bif(decide (a0>=0))then(bif(decide (a0<4))then(bif(decide (a1>=0))then(bif(decide (a1<=3))then(bif(decide (a2>=0))then(bif(decide (a2<=6))then(bif(decide (a3>=0))then(bif(decide (a3<=1099511627776))then(bif(decide (a4>=0))then(bif(decide (a4<=255))then(bif(decide (a5>=0))then(bif(decide (a5<=15))then((iu a6 3).bind λ(x0,_)=>bif x0 then((iu a7 16).bind λ(x1,_)=>some (x1,()))else some (false,()))else some (false,()))else some (false,()))else some (false,()))else some (false,()))else some (false,()))else some (false,()))else some (false,()))else some (false,()))else some (false,()))else some (false,()))else some (false,()))else some (false,())
def F2:X.Cfg:=⟨E0,[jl],[],[]⟩
def s8:Ctr:=⟨173,80,[.agg zac],[],[⟨zab,[.one],[]⟩],as1 (as2 (as4 ap1)) mY⟩
theorem xP:Lk 3 s8:=ls F2 (aC jZ aN)
def ua(a0:Int):f_:=bif(decide (a0>=1))then(bif(decide (a0<=7))then(some (true,()))else bif(a0==13)then(some (true,()))else some ((a0==14),()))else bif(a0==13)then(some (true,()))else some ((a0==14),())
def Iu:X.Cfg:=⟨E0,[],[],[]⟩
def Aq:Ctr:=⟨181,81,yac,[],[⟨zab,[.one],[]⟩],ap1 ua⟩
theorem H4:Lk 1 Aq:=ls Iu aN
def j9:T2H->Option (T2H⊕((Bool×Unit)⊕(ByteArray×LDCn×Int×Int×Bool×T1Q))):=λ(v0,v1,v2,v3,v4)=>bif(decide (v3<v2))then((gj v3).bind λx0=>
(fU v1 x0).bind λx1=>
(gj v3).bind λx2=>
(Ef v0 x2).bind λx3=>
(oD x3 x1.1).bind λ(x4,_)=>bif(!x4)then(some (.inr (.inl (false,()))))else let x5:=w64 (v3+1);some (.inl (v0,v1,v2,x5,v4)))else some (.inr (.inr (v0,v1,v2,v3,false,v4)))
def pb(a0 a1 a2 a3 a4 a5:Int)(a6 a7:LDCn):f_:=
(mX a5).bind λ(x0,_)=>let x1:=BB x0;let x2:=f6 a6.length;bif(x1 != x2)then(some (false,()))else let x3:=f6 a6.length;
(match gc j9 NN (x0,a6,x3,0,a0,a1,a2,a3,a4,a5,a6,a7,())with
|none=>none
|some (.inl (x4,_))=>some (x4,())
|some (.inr (_,_))=>some (true,()))
def F3:X.Cfg:=⟨E0,[pS,uX],[],[⟨7,0,qS (sP 3 .str::sP 16 gk::il [17,18]) [(4,zac)],[(.ret,qS zat []),(.exit 0,qS [sP 3 .str,sP 16 gk,Uaa 17,Uaa 18,Xaa 19] [(4,zac)])]⟩]⟩
def yp:Ctr:=⟨182,82,[.agg zac],[],[⟨zab,[.one],[]⟩],as1 (as2 (as4 ap1)) pb⟩
theorem Fl:Lk 2 yp:=ls F3 (aC sO (aC zV aN))
def jM(a0:z_)(a1:LDOp)(a2:Int):f_:=bif(decide (a2>=0))then(let x0:Int:=(f6 a1.length);bif(decide (a2<x0))then((gj a2).bind λx1=>
(fU a1 x1).bind λx2=>some ((x2.1 != (-1)),()))else some (false,()))else some (false,())
def Ix:X.Cfg:=⟨E0,[],[],[]⟩
def oL:Ctr:=⟨196,83,[.agg uae,shU I64],[],[⟨zab,[.one],[]⟩],ap3 jM⟩
theorem rf:Lk 1 oL:=ls Ix aN
def tI:T2C->Option (T2C⊕(LDCn×Nat×Int×Int×Int×Bool×T1t)):=λ(v0,v1,v2,v3,v4,v5,v6,v7,v8,v9,eq,_)=>bif(decide (v4<v3))then(((fU v9 v1).bind λx0=>let x1:=w64 (x0.2.1+v4);let x2:=f6 eq.length;bif(decide (x1<x2))then((fU v9 v1).bind λx3=>let x4:=w64 (x3.2.1+v4);
(gj v4).bind λx5=>
(fU v0 x5).bind λx6=>
(gj x4).bind λx7=>
(fU eq x7).bind λ_=>
(fU eq x7).bind λ_=>let ac:=eq.modify x7 λe=>(x6.1,(x6.2.1,(x6.2.2.1,x6.2.2.2)));some (v0,v1,v2,v3,v4,v5,v6,v7,v8,v9,ac,()))else
(gj v4).bind λx3=>
(fU v0 x3).bind λx4=>let x5:LDCn:=[(x4.1,(x4.2.1,(x4.2.2.1,x4.2.2.2)))];bif(gl 24 eq.length x5.length)then let x6:LDCn:=(List.append eq x5);some (v0,v1,v2,v3,v4,v5,v6,v7,v8,v9,x6,())else none:Option (T2C)).bind λ(x0,x1,x2,x3,x4,x5,x6,x7,x8,x9,ac,_)=>let ae:=w64 (x4+1);some (.inl (x0,x1,x2,x3,ae,x5,x6,x7,x8,x9,ac,())))else some (.inr (v0,v1,v2,v3,v4,false,v5,v6,v7,v8,v9,eq,()))
def o9(a0:z_)(a1:LDOp)(a2:Int)(a3:LDCn):Option (LLCn×LDOp×T01):=
(jd a0 a1).bind λ(x0,x1,_)=>
((jM a0 a1 a2).bind λ(x2,_)=>bif(!x2)then(some (a2,a3,true,(),(),x0,x1,()))else
(gj a2).bind λx3=>
(fU a1 x3).bind λx4=>bif(!x4.2.2)then(some (a2,a3,true,(),(),x0,x1,()))else let x5:=f6 a3.length;
(iu a3 x5).bind λ(x6,_)=>some (a2,a3,(!x6),(),(),x0,x1,()):Option (Int×LDCn×T0S)).bind λ(x2,x3,x4,x5,x6,x7,x8,_)=>bif x4 then(some (x7,x8,0,false,()))else
(gj x2).bind λx9=>
(fU x8 x9).bind λ_=>let ae:=f6 x3.length;
(fU x8 x9).bind λaf=>let ag:=w64 (64-af.2.1);let ah:=mmR false ae ag;
(fU x8 x9).bind λai=>
(gj ai.1).bind λaj=>
(fU x7 aj).bind λ_=>
(fU x7 aj).bind λ_=>
(fU x7 aj).bind λan=>
(gc tI NN (x3,x9,ah,ah,0,x5,x6,x7,aj,x8,an,())).bind λ(_,aq,av,_,_,_,_,_,aD,aE,aF,aG,_)=>
(fU aF aq).bind λaH=>
(gj aH.1).bind λaI=>
(fU aD aI).bind λ_=>
(fU aD aI).bind λ_=>bif(Nat.beq aI aE)then let aL:z_:=(aD.modify aI λe=>aG);
(fU aF aq).bind λaM=>let aO:=w64 (aM.2.1+av);
(fU aF aq).bind λ_=>let aQ:=aF.modify aq λe=>(e.1,(aO,e.2.2));some (aL,aQ,av,true,())else none
def FU:X.Cfg:=⟨E0,[ln,oL,jl],[],[⟨3,0,qE,[(.normal,qS [Uaa 1,sP 2 gk,zaa 6,zaa 9,Xaa 35] [(14,uac),(20,zaf)])]⟩,⟨13,1,qE,[(.normal,(qS Uaw Zaq))]⟩,(lx 10 2 Uaw Zaq 59)]⟩
def ym:Ctr:=⟨183,84,[.agg uae,shU I64,shU gk],[],[⟨uL [(uaa (uaa KCn)),(uaa KOp),I64,.bool],[.agg 2,.one,.one],[]⟩],ap4 o9⟩
theorem Fi:Lk 3 ym:=ls FU (aC mC (aC rf (aC jZ aN)))
def qT(a0:z_)(a1:LDOp)(a2 a3:Int):Option ((LLCn×LDOp×Unit×Bool×Unit)⊕(LLCn×LDOp×LDCn×Bool×Unit)):=
(jd a0 a1).bind λ(x0,x1,_)=>
((jM a0 a1 a2).bind λ(x2,_)=>bif(!x2)then(some (a2,a3,true,a0,a1,(),(),x0,x1,()))else bif(decide (a3<0))then(some (a2,a3,true,a0,a1,(),(),x0,x1,()))else
(gj a2).bind λx3=>
(fU a1 x3).bind λx4=>some (a2,a3,x4.2.2,a0,a1,(),(),x0,x1,()):Option (T26)).bind λ(x2,x3,x4,_,_,_,_,x9,ac,_)=>bif x4 then(some (.inl (x9,ac,(),false,())))else
(gj x2).bind λae=>
(fU ac ae).bind λ_=>
(fU ac ae).bind λag=>
(gj ag.1).bind λah=>
(fU x9 ah).bind λ_=>
(fU x9 ah).bind λ_=>
(fU x9 ah).bind λak=>let am:=f6 ak.length;
(fU ac ae).bind λan=>let ap:=w64 (am-an.2.1);let aq:=mmR false x3 ap;
(fU ac ae).bind λav=>
(fU ac ae).bind λax=>let ay:=w64 (ax.2.1+aq);
(gj av.2.1).bind λaz=>
(gj ay).bind λaA=>bif(iO az aA ak.length)then let aB:LDCn:=(nG ak az (Nat.sub aA az));bif(gl 24 0 aB.length)then let aD:LDCn:=(List.append [] aB);
(fU ac ae).bind λaE=>let aF:=w64 (aE.2.1+aq);
(fU ac ae).bind λ_=>let aH:=ac.modify ae λe=>(e.1,(aF,e.2.2));some (.inr (x9,aH,aD,true,()))else none else none
def Iz:X.Cfg:=⟨E0,[ln,oL],[],[⟨3,0,qE,[(.normal,qS (il [1,2]++zl [6,9]++[Xaa 31]) [(8,uae),(14,uac),(20,zaf)])]⟩]⟩
def At:Ctr:=⟨184,85,[.agg uae,shU I64,shU I64],[],[⟨uL [(uaa (uaa KCn)),(uaa KOp),N1,.bool],[.agg 2,.one,.one],[]⟩,⟨uL [(uaa gk),(uaa KOp),(uaa KCn),.bool],[.agg 2,.one,.one],[]⟩],ap4 qT⟩
theorem H7:Lk 2 At:=ls Iz (aC mC (aC rf aN))
def uc:T2a->Option (T2a⊕(Int×T26)):=λ(v0,v1,v2,v3,v4,v5)=>let x0:=f6 v4.length;bif(decide (v2<x0))then((gj v2).bind λx1=>
(fU v4 x1).bind λx2=>bif(x2.1 != (-1))then(let x3:Int:=(w64 (v2+1));some (.inl (v0,v1,x3,v3,v4,v5)))else some (.inr (v0,v1,v2,false,v3,v4,v5)))else some (.inr (v0,v1,v2,false,v3,v4,v5))
def ub:T28->Option (T28⊕(Int×Int×T1P)):=λ(v0,v1,v2,v3,v4,v5,v6,v7,v8,_)=>bif(decide (v4<v3))then(((gj v4).bind λx0=>
(fU v8 x0).bind λ_=>
(fU v8 x0).bind λx2=>bif(x2.1==v0)then((gj v4).bind λx3=>
(fU v8 x3).bind λ_=>
(fU v8 x3).bind λ_=>let x6:=v8.modify x3 λe=>(e.1,(0,e.2.2));some (v0,v1,v2,v3,v4,v5,v6,v7,x6,()))else some (v0,v1,v2,v3,v4,v5,v6,v7,v8,()):Option (T28)).bind λ(x0,x1,x2,x3,x4,x5,x6,x7)=>let x9:=w64 (x4+1);some (.inl (x0,x1,x2,x3,x9,x5,x6,x7)))else some (.inr (v0,v1,v2,v3,v4,false,v5,v6,v7,v8,()))
def qU(a0:z_)(a1:LDOp)(a2 a3:Int):Option (LLCn×LDOp×Int×Unit):=
(jd a0 a1).bind λ(x0,x1,_)=>
(gc uc NN (a2,a3,0,a0,a1,(),(),x0,x1,())).bind λ(x2,x3,x4,_,x6,x7,x8)=>
(bif(decide (x2<0))then(some (x2,x3,x4,true,x8))else let af:=f6 x6.length;bif(decide (x2>=af))then(some (x2,x3,x4,true,x8))else bif(decide (x3<0))then(some (x2,x3,x4,true,x8))else bif(decide (x3>2))then(some (x2,x3,x4,true,x8))else let ag:=f6 x7.length;some (x2,x3,x4,(x4==ag),x8):Option (T1P)).bind λ(af,ag,ah,ai,aj,ak,am,an,_)=>bif ai then(some (am,an,(-1),()))else bif(ag==1)then((gj af).bind λap=>
(fU am ap).bind λ_=>
(fU am ap).bind λ_=>let ax:=am.modify ap λe=>[];let ay:=f6 an.length;
(gc ub NN (af,ag,ah,ay,0,aj,ak,ax,an,())).bind λ(az,aA,aB,_,_,_,aG,aH,aI,aJ,_)=>
(gj aB).bind λaK=>
(fU aJ aK).bind λ_=>
(fU aJ aK).bind λ_=>let aO:=aJ.modify aK λe=>(az,(0,(decide (aA>0))));
(bif(aA==2)then((gj az).bind λaP=>
(fU aI aP).bind λ_=>
(fU aI aP).bind λ_=>
(fU aI aP).bind λaS=>let aT:=f6 aS.length;
(gj aB).bind λaU=>
(fU aO aU).bind λ_=>
(fU aO aU).bind λ_=>let aY:=aO.modify aU λe=>(e.1,(aT,e.2.2));some (aB,aG,aH,aI,aY,()))else some (aB,aG,aH,aI,aO,()):Option (T0X)).bind λ(aP,_,_,aS,aT,_)=>some (aS,aT,aP,()))else
(gj ah).bind λap=>
(fU an ap).bind λ_=>
(fU an ap).bind λ_=>let ax:=an.modify ap λe=>(af,(0,(decide (ag>0))));
(bif(ag==2)then((gj af).bind λay=>
(fU am ay).bind λ_=>
(fU am ay).bind λ_=>
(fU am ay).bind λaB=>let aD:=f6 aB.length;
(gj ah).bind λaE=>
(fU ax aE).bind λ_=>
(fU ax aE).bind λ_=>let aH:=ax.modify aE λe=>(e.1,(aD,e.2.2));some (ah,aj,ak,am,aH,()))else some (ah,aj,ak,am,ax,()):Option (T0X)).bind λ(ay,_,_,aB,aD,_)=>some (aB,aD,ay,())
def IA:X.Cfg:=⟨E0,[ln],[],[(lx 4 0 (il [1,2]++zl [3,6,8]++[Uaa 9]) [(8,uae),(14,uac),(18,zaf)] 26),⟨8,1,qE,[(.normal,qS (il [1,2]++zl [6,8]++[Uaa 9,Xaa 52]) uan)]⟩,⟨17,2,qE,[(.normal,qS Xaw uan)]⟩,⟨14,3,qS Xaw uan,[(.exit 2,qS (il [1,2]++zl [6,8]++il [9,62,63]++[Xaa 64]) uan)]⟩,⟨21,4,qE,[(.normal,qS [zaa 6,zaa 8,Uaa 9] uan)]⟩]⟩
def Au:Ctr:=⟨185,86,[.agg uae,shU I64,shU I64],[],[⟨Uak,[.agg 2,.one],[]⟩],ap4 qU⟩
theorem H8:Lk 2 Au:=ls IA (aC mC aN)
def pa(a0:z_)(a1:LDOp)(a2:Int):Option (LLCn×LDOp×Bool×Unit):=
(jd a0 a1).bind λ(x0,x1,_)=>
(jM a0 a1 a2).bind λ(x2,_)=>bif(!x2)then(some (x0,x1,false,()))else
(gj a2).bind λx3=>
(fU x1 x3).bind λ_=>
(fU x1 x3).bind λ_=>let x6:=x1.modify x3 λe=>((-1),(0,false));some (x0,x6,true,())
def FW:X.Cfg:=⟨E0,[ln,oL],[],[]⟩
def yn:Ctr:=⟨186,87,[.agg uae,shU I64],[],[⟨yal,[.agg 2,.one],[]⟩],ap3 pa⟩
theorem Fj:Lk 2 yn:=ls FW (aC mC (aC rf aN))
def qR(a0:z_)(a1:LDOp)(a2 a3:Int):Option (LLCn×LDOp×Bool×Unit):=
(jd a0 a1).bind λ(x0,x1,_)=>
((jM a0 a1 a2).bind λ(x2,_)=>bif(!x2)then(some (a2,a3,true,(),(),x0,x1,()))else bif(decide (a3<0))then(some (a2,a3,true,(),(),x0,x1,()))else
(gj a2).bind λx3=>
(fU a1 x3).bind λx4=>
(gj x4.1).bind λx5=>
(fU a0 x5).bind λx6=>let x7:=f6 x6.length;some (a2,a3,(decide (a3>x7)),(),(),x0,x1,()):Option (T1w)).bind λ(x2,x3,x4,_,_,x7,x8,_)=>bif x4 then(some (x7,x8,false,()))else
(gj x2).bind λx9=>
(fU x8 x9).bind λ_=>
(fU x8 x9).bind λ_=>let af:=x8.modify x9 λe=>(e.1,(x3,e.2.2));some (x7,af,true,())
def Iy:X.Cfg:=⟨E0,[ln,oL],[],[⟨3,0,qE,[(.normal,qS (il [1,2]++zl [6,8]++[Xaa 33]) uan)]⟩]⟩
def As:Ctr:=⟨187,88,[.agg uae,shU I64,shU I64],[],[⟨yal,[.agg 2,.one],[]⟩],ap4 qR⟩
theorem H6:Lk 2 As:=ls Iy (aC mC (aC rf aN))
def my(a0:LDOu)(a1:Int)(a2:LDCn):Option (LDOu×T01):=
(kP a0).bind λ(x0,_)=>
(bif(decide (a1<0))then(some (a0,a1,a2,true,x0,()))else bif(decide (a1>=2))then(some (a0,a1,a2,true,x0,()))else let x1:=f6 a0.length;bif(decide (x1>=200))then(some (a0,a1,a2,true,x0,()))else let x2:=f6 a2.length;some (a0,a1,a2,(decide (x2>16)),x0,()):Option (LDOu×Int×LDCn×Bool×LDOu×Unit)).bind λ(x1,x2,x3,x4,x5,_)=>bif x4 then(some (x5,0,false,()))else let x6:=f6 x1.length;bif(gl 24 0 x3.length)then let x7:LDCn:=(List.append [] x3);let x8:LDOu:=[(x6,(x2,x7))];bif(gl 40 x5.length x8.length)then let x9:LDOu:=(List.append x5 x8);let ac:=f6 x3.length;some (x9,ac,true,())else none else none
def Iv:X.Cfg:=⟨E0,[uT],[(36,Jy),(37,Jy)],[⟨3,0,qE,[(.normal,qS [sP 0 lp,Uaa 1,sP 2 gk,Zaa 9 21,Xaa 27] [(21,Zaj)])]⟩]⟩
def Ar:Ctr:=⟨188,89,uL [lp,I64,gk],[],[⟨uL [(uaa Jy),I64,.bool],[.one,.one,.one],[]⟩],ap3 my⟩
theorem H5:Lk 2 Ar:=ls Iv (aC zT aN)
def jc:T1C->Option (T1C⊕(Int×Int×LI×Int×Int×Bool×LLI×LDCn×Unit)):=λ(v0,v1,v2,v3,v4,v5,v6,_)=>bif(decide (v4<v3))then((gj v4).bind λx0=>
(fU v2 x0).bind λx1=>let x2:LDCn:=[(0,(x1,(0,0)))];bif(gl 24 v6.length x2.length)then let x3:LDCn:=(List.append v6 x2);let x4:=w64 (v4+1);some (.inl (v0,v1,v2,v3,x4,v5,x3,()))else none)else some (.inr (v0,v1,v2,v3,v4,false,v5,v6,()))
def mN(a0:LLI)(a1 a2:Int):Option ((LLI×Unit×Bool×Unit)⊕(LLI×LDCn×Bool×Unit)):=
(iK a0).bind λ(x0,_)=>
(bif(decide (a1<0))then(some (a0,a1,a2,true,x0,()))else let x1:=f6 a0.length;bif(decide (a1>=x1))then(some (a0,a1,a2,true,x0,()))else some (a0,a1,a2,(decide (a2<0)),x0,()):Option (LLI×Int×Int×Bool×LLI×Unit)).bind λ(x1,x2,x3,x4,x5,_)=>bif x4 then(some (.inl (x5,(),false,())))else
(gj x2).bind λx6=>
(fU x1 x6).bind λx7=>let x8:=f6 x7.length;let x9:=mmR false x3 x8;
(gj x2).bind λac=>
(fU x1 ac).bind λae=>
(gj x9).bind λaf=>bif(iO 0 af ae.length)then let ag:v_:=(nG ae 0 (Nat.sub af 0));let ah:=f6 ag.length;
(gc jc NN (x2,x9,ag,ah,0,x5,[],())).bind λ(ai,aj,_,_,_,_,aq,av,_)=>
(gj ai).bind λax=>
(fU aq ax).bind λ_=>
(fU aq ax).bind λ_=>
(fU aq ax).bind λaA=>
(gj aj).bind λaB=>bif(iO aB aA.length aA.length)then(fU aq ax).bind λ_=>
(gj ai).bind λaE=>
(fU aq aE).bind λ_=>
(fU aq ax).bind λaG=>
(fU aq aE).bind λ_=>let aI:=aq.modify aE λe=>(nG aG aB (Nat.sub aA.length aB));some (.inr (aI,av,true,()))else none else none
def Ck:X.Cfg:=⟨E0,[kK],[],[⟨3,0,qE,[(.normal,qS [sP 0 (yaa RW),Uaa 1,Uaa 2,Zaa 9 21,Xaa 27] [(21,yaj)])]⟩,(lx 9 1 [Uaa 1,Zaa 9 21,Uaa 10,Zaa 11 25,sP 41 RW,Uaa 42,Uaa 43] [(21,yaj),(25,Zag)] 44)]⟩
def uR:Ctr:=⟨189,90,uL [(yaa RW),I64,I64],[],[⟨uL [(uaa (uaa CW)),N1,.bool],[.one,.one,.one],[]⟩,⟨uL [(uaa RW),(uaa KCn),.bool],[.one,.one,.one],[]⟩],ap3 mN⟩
theorem BW:Lk 2 uR:=ls Ck (aC nv aN)
def su:T3T->Option (T3T⊕(LDCn×Int×Int×Bool×T3L)):=λ(v0,v1,v2,v3,v4,v5,v6,v7,v8,v9,eq,eE,eG,eI,eK,eO,eS,eW,eY,fa,fe,fh,fj,fm,fr,fv,fw,fA,fB,fC,fD,fE,fF,fG,fH,fI,fJ,_)=>bif(decide (v2<v1))then((gj v2).bind λx0=>
(fU v0 x0).bind λx1=>let x2:=wk .i64 x1.2.1;
(gj v2).bind λx3=>
(fU fJ x3).bind λ_=>
(fU fJ x3).bind λ_=>let x6:=fJ.modify x3 λe=>x2;let x7:=w64 (v2+1);some (.inl (v0,v1,x7,v3,v4,v5,v6,v7,v8,v9,eq,eE,eG,eI,eK,eO,eS,eW,eY,fa,fe,fh,fj,fm,fr,fv,fw,fA,fB,fC,fD,fE,fF,fG,fH,fI,x6,())))else some (.inr (v0,v1,v2,false,v3,v4,v5,v6,v7,v8,v9,eq,eE,eG,eI,eK,eO,eS,eW,eY,fa,fe,fh,fj,fm,fr,fv,fw,fA,fB,fC,fD,fE,fF,fG,fH,fI,fJ,()))
def nP(a0 a1:LI)(a2:LLI)(a3:z_)(a4:LDOp)(a5:LDOu)(a6 a7 a8 a9 ek eu:Int)(eF eH:LDCn):Option (LI×LI×LLI×LLCn×LDOp×LDOu×Int×Int×Int×Int×LDCn×Int×Bool×Int×Unit):=
((lw a0 a1 a2 a3 a4 a5).bind λ(x0,_)=>bif(!x0)then(some (true,a0,a1,a2,a3,a4,a5,a6,a7,a8,a9,ek,eu,eF,eH,(),(),(),(),(),(),0,0,0,0,(),0,false,()))else
(mY a6 a7 a8 a9 ek eu eF eH).bind λ(x1,_)=>bif(!x1)then(some (true,a0,a1,a2,a3,a4,a5,a6,a7,a8,a9,ek,eu,eF,eH,(),(),(),(),(),(),0,0,0,0,(),0,false,()))else bif(a7 != 1)then(some (true,a0,a1,a2,a3,a4,a5,a6,a7,a8,a9,ek,eu,eF,eH,(),(),(),(),(),(),0,0,0,0,(),0,false,()))else
(ua eu).bind λ(x2,_)=>bif(!x2)then(some (true,a0,a1,a2,a3,a4,a5,a6,a7,a8,a9,ek,eu,eF,eH,(),(),(),(),(),(),0,0,0,0,(),0,false,()))else
(pb a6 a7 a8 a9 ek eu eF eH).bind λ(x3,_)=>bif(!x3)then(some (true,a0,a1,a2,a3,a4,a5,a6,a7,a8,a9,ek,eu,eF,eH,(),(),(),(),(),(),0,0,0,0,(),0,false,()))else
(kx eu).bind λ(x4,_)=>bif(x4==2)then((fU eF 2).bind λx5=>some ((decide (x5.2.1>16)),a0,a1,a2,a3,a4,a5,a6,a7,a8,a9,ek,eu,eF,eH,(),(),(),(),(),(),0,0,0,0,(),0,false,()))else some (false,a0,a1,a2,a3,a4,a5,a6,a7,a8,a9,ek,eu,eF,eH,(),(),(),(),(),(),0,0,0,0,(),0,false,()):Option (Bool×LI×LI×LLI×LLCn×LDOp×LDOu×Int×Int×Int×Int×Int×Int×LDCn×LDCn×Unit×Unit×Unit×Unit×Unit×Unit×T1z)).bind λ(x0,x1,x2,x3,x4,x5,x6,x7,x8,x9,ac,ae,af,ag,ah,ai,aj,ak,am,an,ap,aq,av,ax,ay,az,aA,aB,_)=>bif x0 then(some ([],[],[],[],[],[],0,0,0,0,[],0,false,1,()))else
(qQ x1 x2 x3 x4 x5 x6).bind λ(aD,aE,aF,aG,aH,aI,_)=>let aJ:v_:=[0,0,0];let aK:=f6 ag.length;
(gc su NN (ag,aK,0,x1,x2,x3,x4,x5,x6,x7,x8,x9,ac,ae,af,ag,ah,ai,aj,ak,am,an,ap,aq,av,ax,ay,az,aA,aB,aD,aE,aF,aG,aH,aI,aJ,())).bind λ(_,_,_,_,aQ,aR,aS,aT,aU,aV,_,_,_,_,_,bd,_,bf,bg,bh,bi,bj,bk,bm,bn,bo,bp,bq,bt,bv,bx,bA,bB,bC,bD,bE,bF,bG,_)=>
(gt 0 false).bind λ(bH,bI,bJ,bK,bL)=>
(match(bif(bd==1)then((fU bG 0).bind λ_=>
(fU bG 0).bind λbP=>
(o9 aT aU bP bf).bind λ(bQ,bR,bS,bT,_)=>
(gt bS bT).bind λ(bU,bV,bW,bY,_,b8,b9,_)=>some (.inl (bg,bh,bi,bj,bk,bm,bn,bo,bp,bq,bt,bv,bx,bA,bB,bC,bQ,bR,bF,bU,bV,bW,bY,[],b8,b9,())))else bif(bd==2)then((fU bG 0).bind λ_=>
(fU bG 0).bind λbP=>
(fU bG 2).bind λ_=>
(fU bG 2).bind λbR=>
(match qT aT aU bP bR with
|none=>none
|some (.inl (bS,bT,_,bV,_))=>
(gt 0 bV).bind λ(bW,bY,bZ,b8,_,cb,cd,_)=>some (.inl (bg,bh,bi,bj,bk,bm,bn,bo,bp,bq,bt,bv,bx,bA,bB,bC,bS,bT,bF,bW,bY,bZ,b8,[],cb,cd,()))
|some (.inr (bS,bT,bU,bV,_))=>let bW:=f6 bU.length;
(gt bW bV).bind λ(bY,bZ,b8,b9,_,cd,cf,_)=>some (.inl (bg,bh,bi,bj,bk,bm,bn,bo,bp,bq,bt,bv,bx,bA,bB,bC,bS,bT,bF,bY,bZ,b8,b9,bU,cd,cf,()))))else bif(bd==3)then((fU bG 0).bind λ_=>
(fU bG 0).bind λbP=>
(fU bG 1).bind λ_=>
(fU bG 1).bind λbR=>
(qU aT aU bP bR).bind λ(bS,bT,bU,_)=>bif(decide (bU>=0))then(let bV:Int:=(wk .u16 bU);some (.inr (.inl (bg,bh,bi,bj,bk,bm,bn,bo,bp,bq,bt,bv,bx,bA,bB,bC,bS,bT,bF,2,bV,0,0,bL))))else some (.inr (.inl (bg,bh,bi,bj,bk,bm,bn,bo,bp,bq,bt,bv,bx,bA,bB,bC,bS,bT,bF,bH,bI,bJ,bK,bL))))else bif(bd==4)then((fU bG 0).bind λ_=>
(fU bG 0).bind λbP=>
(pa aT aU bP).bind λ(bQ,bR,bS,_)=>
(gt 0 bS).bind λ(bT,bU,bV,bW,_,bZ,b8,_)=>some (.inl (bg,bh,bi,bj,bk,bm,bn,bo,bp,bq,bt,bv,bx,bA,bB,bC,bQ,bR,bF,bT,bU,bV,bW,[],bZ,b8,())))else bif(bd==5)then((fU bG 0).bind λ_=>
(fU bG 0).bind λbP=>
(fU bG 1).bind λ_=>
(fU bG 1).bind λbR=>
(qR aT aU bP bR).bind λ(bS,bT,bU,_)=>
(gt 0 bU).bind λ(bV,bW,bY,bZ,_,b9,cb,_)=>some (.inl (bg,bh,bi,bj,bk,bm,bn,bo,bp,bq,bt,bv,bx,bA,bB,bC,bS,bT,bF,bV,bW,bY,bZ,[],b9,cb,())))else bif(bd==6)then(let bO:Int:=(f6 aQ.length);bif(decide (bO>0))then((fU aQ 0).bind λbP=>let bQ:=wk .i64 bP;
(gt bQ true).bind λ(bR,bS,bT,bU,bV,bW,bY,_)=>bif(iO 1 bA.length bA.length)then let bZ:v_:=(nG bA 1 (Nat.sub bA.length 1));some (.inr (.inr (.inl (bg,bh,bi,bj,bk,bm,bn,bo,bp,bq,bt,bv,bx,bZ,bB,bC,bD,bE,bF,bR,bS,bT,bU,bV,bW,bY,()))))else none)else some (.inr (.inl (bg,bh,bi,bj,bk,bm,bn,bo,bp,bq,bt,bv,bx,bA,bB,bC,bD,bE,bF,bH,bI,bJ,bK,bL))))else bif(bd==7)then(let bO:Int:=(f6 aR.length);bif(decide (bO>0))then((fU aR 0).bind λbP=>let bQ:=wk .i64 bP;
(gt bQ true).bind λ(bR,bS,bT,bU,bV,bW,bY,_)=>bif(iO 1 bB.length bB.length)then let bZ:v_:=(nG bB 1 (Nat.sub bB.length 1));some (.inr (.inr (.inr (.inl (bg,bh,bi,bj,bk,bm,bn,bo,bp,bq,bt,bv,bx,bA,bZ,bC,bD,bE,bF,bR,bS,bT,bU,bV,bW,bY,())))))else none)else some (.inr (.inl (bg,bh,bi,bj,bk,bm,bn,bo,bp,bq,bt,bv,bx,bA,bB,bC,bD,bE,bF,bH,bI,bJ,bK,bL))))else bif(bd==13)then((fU bG 0).bind λ_=>
(fU bG 0).bind λbP=>
(my aV bP bf).bind λ(bQ,bR,bS,_)=>
(gt bR bS).bind λ(bT,bU,bV,bW,bY,bZ,b8,_)=>some (.inr (.inl (bg,bh,bi,bj,bk,bm,bn,bo,bp,bq,bt,bv,bx,bA,bB,bC,bD,bE,bQ,bT,bU,bV,bW,bY,bZ,b8,()))))else bif(bd==14)then((fU bG 0).bind λ_=>
(fU bG 0).bind λbP=>
(fU bG 2).bind λ_=>
(fU bG 2).bind λbR=>
(match mN aS bP bR with
|none=>none
|some (.inl (bS,bT,bU,_))=>
(gt 0 bU).bind λ(bV,bW,bY,bZ,_,b9,cb,_)=>some (.inr (.inl (bg,bh,bi,bj,bk,bm,bn,bo,bp,bq,bt,bv,bx,bA,bB,bS,bD,bE,bF,bV,bW,bY,bZ,bT,b9,cb,())))
|some (.inr (bS,bT,bU,_))=>let bV:=f6 bT.length;
(gt bV bU).bind λ(bW,bY,bZ,b8,_,cb,cd,_)=>some (.inr (.inr (.inr (.inr (bg,bh,bi,bj,bk,bm,bn,bo,bp,bq,bt,bv,bx,bA,bB,bS,bD,bE,bF,bW,bY,bZ,b8,bT,cb,cd,())))))))else some (.inr (.inl (bg,bh,bi,bj,bk,bm,bn,bo,bp,bq,bt,bv,bx,bA,bB,bC,bD,bE,bF,bH,bI,bJ,bK,bL))):Option (T3A⊕(T3B⊕(T3B⊕(T3B⊕T3A)))))with
|none=>none
|some (.inl (_,_,_,_,_,_,_,_,_,_,_,_,_,cb,cd,cf,cg,ch,ci,cj,cn,cq,cr,cu,cw,cx,_))=>some (cb,cd,cf,cg,ch,ci,cj,cn,cq,cr,cu,cw,cx,0,())
|some (.inr (.inl (_,_,_,_,_,_,_,_,_,_,_,_,_,cb,cd,cf,cg,ch,ci,cj,cn,cq,cr,_,cw,cx,_)))=>some (cb,cd,cf,cg,ch,ci,cj,cn,cq,cr,[],cw,cx,0,())
|some (.inr (.inr (.inl (_,_,_,_,_,_,_,_,_,_,_,_,_,cb,cd,cf,cg,ch,ci,cj,cn,cq,cr,_,cw,cx,_))))=>some (cb,cd,cf,cg,ch,ci,cj,cn,cq,cr,[],cw,cx,0,())
|some (.inr (.inr (.inr (.inl (_,_,_,_,_,_,_,_,_,_,_,_,_,cb,cd,cf,cg,ch,ci,cj,cn,cq,cr,_,cw,cx,_)))))=>some (cb,cd,cf,cg,ch,ci,cj,cn,cq,cr,[],cw,cx,0,())
|some (.inr (.inr (.inr (.inr (_,_,_,_,_,_,_,_,_,_,_,_,_,cb,cd,cf,cg,ch,ci,cj,cn,cq,cr,cu,cw,cx,_)))))=>some (cb,cd,cf,cg,ch,ci,cj,cn,cq,cr,cu,cw,cx,0,()))
def M1:X.Cfg:=⟨E0,[pQ,s8,Aq,yp,lV,uQ,nC,ym,At,Au,yn,As,Ar,uR],[],[⟨2,0,qE,[(.normal,qS (zl [2,3,4,5]++[Xaa 67]) [(6,uah),(8,zac),(10,Uah),(12,Uad)])]⟩,(lx 8 1 (zl [2,3,4,5,7]++Zaa 8 19::sP 74 gk::il [75,76]) [(6,uah),(8,zac),(10,Uah),(12,Uad),(16,uak),(19,Zae)] 77),⟨14,2,qE,[(.normal,(qS yau [(10,Uah),(12,Uad),(16,uL [(uaa CW),(uaa CW),(uaa (uaa CW)),(yaa gk),jm,(uaa Jy)]),(24,zah)])),(.normal,qS yau [(10,Uah),(12,Uad),(16,uak),(24,Uad)]),(.normal,(qS yau [(10,Uah),(12,Uad),(16,uL [RW,(uaa CW),(uaa (uaa CW)),(uaa (uaa KCn)),(uaa KOp),(uaa Jy)]),(24,Uad)])),(.normal,(qS yau [(10,Uah),(12,Uad),(16,uL [(uaa CW),RW,(uaa (uaa CW)),(uaa (uaa KCn)),(uaa KOp),(uaa Jy)]),(24,Uad)])),(.normal,(qS yau [(10,Uah),(12,Uad),(16,uL [(uaa CW),(uaa CW),(uaa RW),(uaa (uaa KCn)),(uaa KOp),(uaa Jy)]),(24,zah)]))]⟩]⟩
def EG:Ctr:=⟨172,91,[.agg uah,.agg zac],[],[⟨uL [RW,RW,(yaa RW),(yaa gk),jm,lp,CB,CW,I64,I64,gk,I64,.bool,I64],[.agg 6,.agg 7,.one],[]⟩],as1 (as4 (as8 ap1)) nP⟩
theorem MT:Lk 5 EG:=ls M1 (aC sM (aC xP (aC H4 (aC Fl (aC ot (aC zS (aC pI (aC Fi (aC H7 (aC H8 (aC Fj (aC H6 (aC H5 (aC BW aN))))))))))))))
def mK:T3C->Option (T3C⊕(T3w⊕(Int×Int×Bool×T3w))):=λ(v0,v1,v2,v3,v4,v5,v6,v7,v8,v9,eq,eE,eG,eI,eK,eO,eS,eW,eY,fa,fe)=>bif(decide (v1<v0))then((gj v1).bind λx0=>
(fU v9 x0).bind λ_=>
(fU v9 x0).bind λx2=>bif(x2.1==0)then((gt v1 true).bind λ(x3,x4,x5,x6,x7,_,x9,_)=>some (.inr (.inl (v2,v3,v4,v5,v6,v7,v8,v9,eq,eE,eG,eI,eK,eO,eS,eW,eY,fa,x3,x4,x5,x6,x7,v1,x9,()))))else let x3:=w64 (v1+1);some (.inl (v0,x3,v2,v3,v4,v5,v6,v7,v8,v9,eq,eE,eG,eI,eK,eO,eS,eW,eY,fa,fe)))else some (.inr (.inr (v0,v1,false,v2,v3,v4,v5,v6,v7,v8,v9,eq,eE,eG,eI,eK,eO,eS,eW,eY,fa,fe)))
def mL(a0 a1 a2 a3 a4 a5:Int)(a6 a7:LDCn)(a8:LDIn)(a9:LI)(ek:LLI)(eu:LI)(eF:Int)(eH:LDCe)(eJ:LDLn)(eM:LDTh)(eQ eU:LI)(eX:LLI)(eZ:z_)(fc:LDOp)(ff:LDOu)(fi:LI)(fk:LLI)(fq:LDEn)(fu:LI):Option (Int×Int×Int×Int×LDCn×T3j):=
(bif(a5==0)then(some (a5,true,a8,a9,ek,eu,eF,eH,eJ,eM,eQ,eU,eX,eZ,fc,ff,fi,fk,fq,fu,a0,a1,a2,a3,a4,a5,a6,a7,0,0,0,0,(),0,false,()))else bif(a5==12)then(some (a5,true,a8,a9,ek,eu,eF,eH,eJ,eM,eQ,eU,eX,eZ,fc,ff,fi,fk,fq,fu,a0,a1,a2,a3,a4,a5,a6,a7,0,0,0,0,(),0,false,()))else some (a5,(a5==15),a8,a9,ek,eu,eF,eH,eJ,eM,eQ,eU,eX,eZ,fc,ff,fi,fk,fq,fu,a0,a1,a2,a3,a4,a5,a6,a7,0,0,0,0,(),0,false,()):Option (T3M)).bind λ(x0,x1,x2,x3,x4,x5,x6,x7,x8,x9,ac,ae,af,ag,ah,ai,aj,ak,am,an,ap,aq,av,ax,ay,az,aA,aB,aD)=>bif x1 then((gt 0 true).bind λ(aK,aL,aM,aO,_,aQ,aR,_)=>some (aK,aL,aM,aO,[],aQ,aR,x2,x3,x4,x5,x6,x7,x8,x9,ac,ae,af,ag,ah,ai,aj,ak,am,an,()))else bif(x0==8)then((fU aA 0).bind λaK=>let aL:=wk .i64 aK.2.1;
(qV aj ak aL ap).bind λ(aM,aO,aP,_)=>
(gt 0 (aP != 2)).bind λ(aQ,aR,aS,aT,_,aV,_,_)=>some (aQ,aR,aS,aT,[],aV,(aP==1),x2,x3,x4,x5,x6,x7,x8,x9,ac,ae,af,ag,ah,ai,aM,aO,am,an,()))else bif(x0==9)then((fU aA 0).bind λaK=>let aL:=wk .i64 aK.2.1;
(jN aj ak aL ap).bind λ(aM,aO,_,aQ,_)=>
(gt 0 aQ).bind λ(aR,aS,aT,aU,_,aW,aY,_)=>some (aR,aS,aT,aU,[],aW,aY,x2,x3,x4,x5,x6,x7,x8,x9,ac,ae,af,ag,ah,ai,aM,aO,am,an,()))else bif(x0==10)then(let aK:Int:=(f6 x9.length);
(match gc mK NN (aK,0,x2,x3,x4,x5,x6,x7,x8,x9,ac,ae,af,ag,ah,ai,aj,ak,am,an,aD)with
|none=>none
|some (.inl (aL,aM,aO,aP,aQ,aR,aS,aT,aU,aV,aW,aY,aZ,ba,bc,bd,be,bf,bg,bh,bi,bj,_,bm,bn,_))=>some (bg,bh,bi,bj,[],bm,bn,aL,aM,aO,aP,aQ,aR,aS,aT,aU,aV,aW,aY,aZ,ba,bc,bd,be,bf,())
|some (.inr (_,_,_,aP,aQ,aR,aS,aT,aU,aV,aW,aY,aZ,ba,bc,bd,be,bf,bg,bh,bi,_,_,_,_,_,_,_,_))=>
(gt 0 false).bind λ(bt,bv,bx,bA,_,bC,bD,_)=>some (bt,bv,bx,bA,[],bC,bD,aP,aQ,aR,aS,aT,aU,aV,aW,aY,aZ,ba,bc,bd,be,bf,bg,bh,bi,())))else bif(x0==11)then((fU aA 0).bind λaK=>let aL:=wk .i64 aK.2.1;
(bif(aL==ap)then(some (aL,true,x2,x3,x4,x5,x6,x7,x8,x9,ac,ae,af,ag,ah,ai,aj,ak,am,an,ap,aq,av,ax,ay,az,aA,aB,aD))else bif(decide (aL>=4))then(some (aL,true,x2,x3,x4,x5,x6,x7,x8,x9,ac,ae,af,ag,ah,ai,aj,ak,am,an,ap,aq,av,ax,ay,az,aA,aB,aD))else
(gj aL).bind λaM=>
(fU x9 aM).bind λ_=>
(fU x9 aM).bind λaP=>some (aL,(aP.1==0),x2,x3,x4,x5,x6,x7,x8,x9,ac,ae,af,ag,ah,ai,aj,ak,am,an,ap,aq,av,ax,ay,az,aA,aB,aD):Option (T3M)).bind λ(aM,aO,aP,aQ,aR,aS,aT,aU,aV,aW,aY,aZ,ba,bc,bd,be,bf,bg,bh,bi,bj,_,_,_,_,_,_,_,_,_,_,_,_,_,_,_)=>bif aO then((gt 0 false).bind λ(bF,bG,bH,bI,_,bK,bL,_)=>some (bF,bG,bH,bI,[],bK,bL,aP,aQ,aR,aS,aT,aU,aV,aW,aY,aZ,ba,bc,bd,be,bf,bg,bh,bi,()))else
(gj aM).bind λbF=>
(fU aW bF).bind λ_=>
(fU aW bF).bind λbH=>bif(bH.1==4)then(let bI:Int:=(wk .i64 bH.2.2.2.2.2.2.2);
(gt bI true).bind λ(bJ,bK,bL,bM,_,bO,bP,_)=>some (bJ,bK,bL,bM,[],bO,bP,aP,aQ,aR,aS,aT,aU,aV,aW,aY,aZ,ba,bc,bd,be,bf,bg,bh,bi,()))else
(gj bj).bind λbI=>
(fU bi bI).bind λ_=>
(fU bi bI).bind λ_=>let bL:=bi.modify bI λe=>aM;
(gt 0 true).bind λ(bM,bN,bO,bP,_,bR,_,_)=>some (bM,bN,bO,bP,[],bR,true,aP,aQ,aR,aS,aT,aU,aV,aW,aY,aZ,ba,bc,bd,be,bf,bg,bh,bL,()))else
(nP ac ae af ag ah ai ap aq av ax ay az aA aB).bind λ(aK,aL,aM,aO,aP,aQ,aR,aS,aT,aU,aV,aW,aY,_,_)=>some (aR,aS,aT,aU,aV,aW,aY,x2,x3,x4,x5,x6,x7,x8,x9,aK,aL,aM,aO,aP,aQ,aj,ak,am,an,())
def Cj:X.Cfg:=⟨E0,[nC,Av,rp,EG],[],[⟨3,0,qE,[(.normal,qS (zl [0,3,4]++[Uaa 21,Xaa 22]) uar)]⟩,⟨20,1,(qS (zl [0,4]++(87,.pk ⟨2,7,[]⟩ [0,0])::il [88,89]) Zap),[(.ret,qS (zl [0,4]) Zap),(.exit 1,(qS (zl [0,4]++(87,.pk ⟨2,7,[]⟩ [0,0])::il [88,89]++[Xaa 90]) Zap))]⟩,⟨33,2,qE,[(.normal,qS (zl [0,3,4]++[Uaa 14,Xaa 131]) uar)]⟩]⟩
def uP:Ctr:=⟨157,92,[.ptr ⟨2,0,[]⟩ [0],.agg zac],[(2,Xad)],[⟨Zad,[.agg 7],[(2,Xad)]⟩],as1 (as8 (as8 (as8 ap1))) mL⟩
theorem BV:Lk 6 uP:=ls Cj (aC pI (aC H9 (aC uA (aC MT aN))))
def mR(a0 a1 a2 a3:Int)(a4:LDCn)(a5:Int)(a6:Bool):f_:=
(mz a0 a1 a2 a3).bind λ(x0,_)=>bif x0 then((iu a4 16).bind λ(x1,_)=>bif x1 then(bif(decide (a5>=(-1)))then(some ((decide (a5<4)),()))else some (false,()))else some (false,()))else some (false,())
def FX:X.Cfg:=⟨E0,[uY,jl],[],[]⟩
def s6:Ctr:=⟨55,93,[.agg Zad],[],[⟨zab,[.one],[]⟩],as2 (as4 ap1) mR⟩
theorem xN:Lk 3 s6:=ls FX (aC zW (aC jZ aN))
def jq(a0:LI)(a1:Int)(a2:LI)(a3 a4 a5 a6:Int):Option (T0g):=
(it a2 a3 a4 a5 a6).bind λ(x0,_)=>bif(!x0)then(some (0,0,1,()))else bif(a3==0)then(some (0,a4,0,()))else bif(a3==2)then(let x1:Int:=(wk .u16 (a4+a1));some (2,x1,0,()))else
(gj a5).bind λx1=>
(fU a0 x1).bind λx2=>let x3:=w64 (x2+a6);let x4:=wk .u16 x3;some (1,x4,0,())
def Kr:X.Cfg:=⟨E0,[lW],[],[]⟩
def tn:Ctr:=⟨37,94,[.agg Uab,shU RI,.agg yag],[],[⟨yai,[.agg 2,.one],[]⟩],as2 (as4 ap1) jq⟩
theorem wY:Lk 3 tn:=ls Kr (aC ou aN)
def nb(a0:LI)(a1:Int)(a2:LI)(a3 a4:Int):Option (T02):=
(hU a2 a3 a4).bind λ(x0,_)=>bif(!x0)then(some (0,6,()))else
(gj a3).bind λx1=>
(fU a0 x1).bind λx2=>let x3:=w64 (x2+a4);some (x3,0,())
def Cr:X.Cfg:=⟨E0,[lX],[],[]⟩
def ve:Ctr:=⟨190,95,[.agg Uab,shU RI,.agg uad],[],[⟨uad,[.one,.one],[]⟩],ap5 nb⟩
theorem B6:Lk 2 ve:=ls Cr (aC ov aN)
def xu:Option (T1X):=bif(xJ 8 8 2)then let x0:LDCe:=(List.replicate 8 (0,0));some (0,x0,0,0,(-1),(-1),0,0,())else none
def Ga:X.Cfg:=⟨E0,[],[],[]⟩
def yw:Ctr:=⟨197,96,[],[],[⟨Zaf,[.agg 8],[]⟩],λh=>xu⟩
theorem Fr:Lk 1 yw:=ls Ga aN
def sB(a0 a1 a2:Int):Option (T1X):=
(xu).bind λ(_,x1,_,x3)=>
(fU x1 0).bind λ_=>
(fU x1 0).bind λ_=>let ac:=x1.modify 0 λe=>(a1,a2);some (1,ac,a0,x3)
def Ko:X.Cfg:=⟨E0,[yw],[],[]⟩
def C4:Ctr:=⟨191,97,[shU I64,.agg Xab],[],[⟨Zaf,[.agg 8],[]⟩],ap3 sB⟩
theorem Kc:Lk 2 C4:=ls Ko (aC Fr aN)
def jo:T3F->Option (T3F⊕(T18⊕T3H)):=λ(v0,v1,v2,v3,v4,v5,v6,v7,v8,v9,eq,eE,eG,eI,eK,eO,eS,eW,eY,fa,fe,fh,fj,fm,fr,fv,fw,fA,fB,fC,fD,_)=>bif(decide (v3<v2))then((gj v3).bind λx0=>
(fU v1 x0).bind λx1=>
(jq v4 v5 eq x1.1 x1.2.1 x1.2.2.1 x1.2.2.2).bind λ(x2,x3,x4,_)=>bif(x4 != 0)then(some (.inr (.inl (false,v4,v5,v6,v7,v8,()))))else
(hU eq fC fD).bind λ(x5,_)=>bif(!x5)then(some (.inr (.inl (false,v4,v5,v6,v7,v8,()))))else
(nb v4 v5 eq fC fD).bind λ(x6,_,_)=>
(m8 x6 x2 x3 v6 v7).bind λ(x8,x9,_)=>let ac:=w64 (fD+1);let ae:=w64 (v3+1);some (.inl (v0,v1,v2,ae,v4,v5,x8,x9,v8,v9,eq,eE,eG,eI,eK,eO,eS,eW,eY,fa,fe,fh,fj,fm,fr,fv,fw,fA,fB,fC,ac,())))else some (.inr (.inr (v0,v1,v2,v3,false,v4,v5,v6,v7,v8,v9,eq,eE,eG,eI,eK,eO,eS,eW,eY,fa,fe,fh,fj,fm,fr,fv,fw,fA,fB,fC,fD,())))
def nQ(a0:LDIn)(a1:LI)(a2:LLI)(a3 a4 a5 a6 a7 a8:Int)(a9 ek:LDCn)(eu eF eH eJ:Int)(eM:LDCn)(eQ:Int)(eU:Bool)(eX:LI)(eZ:Int)(fc:LDCe)(ff:LDLn)(fi:LDTh):Option (T18):=
(gj a3).bind λx0=>
(fU fi x0).bind λ_=>
(jq eX eZ a1 eu eF eH eJ).bind λ(x2,x3,x4,_)=>bif(x4 != 0)then(some (false,eX,eZ,fc,ff,fi,()))else
(match((kx a8).bind λ(x5,_)=>bif(x5==2)then(let x6:Int:=(f6 eM.length);bif(decide (x6>0))then((fU a9 1).bind λx7=>
(fU a9 1).bind λx8=>
(fU a9 1).bind λx9=>
(it a1 x9.1 x9.2.1 x9.2.2.1 x9.2.2.2).bind λ(ac,_)=>bif(!ac)then(some (.inl (false,eX,eZ,fc,ff,fi,())))else
(fU a9 1).bind λae=>bif(ae.1 != 1)then(some (.inl (false,eX,eZ,fc,ff,fi,())))else let af:=f6 eM.length;
(match gc jo NN (x0,eM,af,0,eX,eZ,fc,ff,fi,a0,a1,a2,a3,a4,a5,a6,a7,a8,a9,ek,eu,eF,eH,eJ,eM,eQ,eU,x2,x3,x7.2.2.1,x8.2.2.2,())with
|none=>none
|some (.inl (ag,ah,ai,aj,ak,am,_))=>some (.inl (ag,ah,ai,aj,ak,am,()))
|some (.inr (ag,ah,ai,aj,ak,am,an,ap,aq,av,ax,ay,az,aA,aB,aD,aE,aF,aG,aH,aI,aJ,aK,aL,aM,aO,aP,aQ,aR,aS,aT,aU,_))=>some (.inr (.inl (ag,ah,ai,aj,ak,am,an,ap,aq,av,ax,ay,az,aA,aB,aD,aE,aF,aG,aH,aI,aJ,aK,aL,aM,aO,aP,aQ,aR,aS,aT,aU,())))))else some (.inr (.inr (x0,false,eX,eZ,fc,ff,fi,a0,a1,a2,a3,a4,a5,a6,a7,a8,a9,ek,eu,eF,eH,eJ,eM,eQ,eU,x2,x3,()))))else some (.inr (.inr (x0,false,eX,eZ,fc,ff,fi,a0,a1,a2,a3,a4,a5,a6,a7,a8,a9,ek,eu,eF,eH,eJ,eM,eQ,eU,x2,x3,()))):Option (T18⊕(T3H⊕(Nat×Bool×T3x))))with
|none=>none
|some (.inl (x5,x6,x7,x8,x9,ac,_))=>some (x5,x6,x7,x8,x9,ac,())
|some (.inr (.inl (x5,_,_,_,_,ac,ae,af,ag,ah,ai,aj,ak,am,an,ap,aq,av,ax,ay,az,aA,aB,aD,aE,aF,aG,aH,aI,aJ,_,_,_)))=>
(match(bif(ax==12)then((fU ay 0).bind λaM=>let aO:=wk .i64 aM.2.1;bif(decide (aO>255))then(some (.inl (false,ac,ae,af,ag,ah,())))else
(fU ay 0).bind λaP=>bif(aP.1 != 0)then(some (.inl (false,ac,ae,af,ag,ah,())))else
(fU ay 0).bind λaQ=>let aR:=wk .i64 aQ.2.1;
(fU ah x5).bind λ_=>let aT:=ah.modify x5 λe=>(e.1,(e.2.1,(e.2.2.1,(e.2.2.2.1,(aR,e.2.2.2.2.2)))));some (.inr (x5,ac,ae,af,ag,aT,ai,aj,ak,am,an,ap,aq,av,ax,ay,az,aA,aB,aD,aE,aF,aG,aH,aI,aJ,())))else some (.inr (x5,ac,ae,af,ag,ah,ai,aj,ak,am,an,ap,aq,av,ax,ay,az,aA,aB,aD,aE,aF,aG,aH,aI,aJ,())):Option (T18⊕T3z))with
|none=>none
|some (.inl (aM,aO,aP,aQ,aR,aS,_))=>some (aM,aO,aP,aQ,aR,aS,())
|some (.inr (aM,aO,aP,aQ,aR,aS,_,aU,_,aW,aY,aZ,ba,bc,bd,be,bf,bg,bh,bi,bj,bk,bm,bn,bo,bp,_))=>
(match(bif(bd==10)then(bif(decide (bm>=0))then((fU be 1).bind λbq=>
(jq aO aP aU bq.1 bq.2.1 bq.2.2.1 bq.2.2.2).bind λ(bt,bv,bx,_)=>
(bif(bx != 0)then(some (aM,true,aO,aP,aQ,aR,aS,aW,aY,aZ,ba,bc,bd,be,bf,bg,bh,bi,bj,bk,bm,bn,bo,bp,bt,bv,()))else
(gj bm).bind λbA=>
(fU aS bA).bind λ_=>
(fU aS bA).bind λbC=>bif(bC.1 != 0)then(some (aM,true,aO,aP,aQ,aR,aS,aW,aY,aZ,ba,bc,bd,be,bf,bg,bh,bi,bj,bk,bm,bn,bo,bp,bt,bv,()))else
(fU be 0).bind λbD=>let bE:=wk .i64 bD.2.1;bif(decide (bE>255))then(some (aM,true,aO,aP,aQ,aR,aS,aW,aY,aZ,ba,bc,bd,be,bf,bg,bh,bi,bj,bk,bm,bn,bo,bp,bt,bv,()))else
(fU be 0).bind λbF=>some (aM,(bF.1 != 0),aO,aP,aQ,aR,aS,aW,aY,aZ,ba,bc,bd,be,bf,bg,bh,bi,bj,bk,bm,bn,bo,bp,bt,bv,()):Option (T3y)).bind λ(bA,bB,bC,bD,bE,bF,bG,bH,bI,bJ,bK,bL,bM,bN,bO,_,_,_,_,_,bU,_,bW,bY,bZ,b8,_)=>bif bB then(some (.inl (false,bC,bD,bE,bF,bG,())))else
(fU bN 0).bind λb9=>let cb:=wk .i64 b9.2.1;
(sB cb bZ b8).bind λ(cd,cf,cg,ch,ci,cj,cn,cq,_)=>
(gj bU).bind λcr=>
(fU bG cr).bind λ_=>
(fU bG cr).bind λ_=>let cx:=bG.modify cr λe=>(cd,(cf,(cg,(ch,(ci,(cj,(cn,cq)))))));some (.inr (bA,bC,bD,bE,bF,cx,bH,bI,bJ,bK,bL,bM,bN,bO,bW,bY,())))else some (.inr (aM,aO,aP,aQ,aR,aS,aW,aY,aZ,ba,bc,bd,be,bf,bo,bp,())))else some (.inr (aM,aO,aP,aQ,aR,aS,aW,aY,aZ,ba,bc,bd,be,bf,bo,bp,())):Option (T18⊕T33))with
|none=>none
|some (.inl (bq,bt,bv,bx,bA,bB,_))=>some (bq,bt,bv,bx,bA,bB,())
|some (.inr (bq,bt,bv,bx,bA,bB,_,_,_,_,_,_,_,_,bK,bL,_))=>
(fU bB bq).bind λ_=>
(fU bB bq).bind λbN=>
(fU bN.2.1 0).bind λ_=>
(fU bB bq).bind λbP=>
(fU bP.2.1 0).bind λ_=>let bR:=bB.modify bq λe=>(e.1,((e.2.1.modify 0 λe=>(bK,bL)),e.2.2));
(fU bR bq).bind λ_=>let bT:=bR.modify bq λe=>(1,e.2);some (true,bt,bv,bx,bA,bT,())))
|some (.inr (.inr (x5,_,x7,x8,x9,ac,ae,af,ag,ah,ai,aj,ak,am,an,ap,aq,av,ax,ay,az,aA,aB,aD,aE,aF,aG,_)))=>
(match(bif(ap==12)then((fU aq 0).bind λaH=>let aI:=wk .i64 aH.2.1;bif(decide (aI>255))then(some (.inl (false,x7,x8,x9,ac,ae,())))else
(fU aq 0).bind λaJ=>bif(aJ.1 != 0)then(some (.inl (false,x7,x8,x9,ac,ae,())))else
(fU aq 0).bind λaK=>let aL:=wk .i64 aK.2.1;
(fU ae x5).bind λ_=>let aO:=ae.modify x5 λe=>(e.1,(e.2.1,(e.2.2.1,(e.2.2.2.1,(aL,e.2.2.2.2.2)))));some (.inr (x5,x7,x8,x9,ac,aO,af,ag,ah,ai,aj,ak,am,an,ap,aq,av,ax,ay,az,aA,aB,aD,aE,aF,aG,())))else some (.inr (x5,x7,x8,x9,ac,ae,af,ag,ah,ai,aj,ak,am,an,ap,aq,av,ax,ay,az,aA,aB,aD,aE,aF,aG,())):Option (T18⊕T3z))with
|none=>none
|some (.inl (aH,aI,aJ,aK,aL,aM,_))=>some (aH,aI,aJ,aK,aL,aM,())
|some (.inr (aH,aI,aJ,aK,aL,aM,_,aP,_,aR,aS,aT,aU,aV,aW,aY,aZ,ba,bc,bd,be,bf,bg,bh,bi,bj,_))=>
(match(bif(aW==10)then(bif(decide (bg>=0))then((fU aY 1).bind λbk=>
(jq aI aJ aP bk.1 bk.2.1 bk.2.2.1 bk.2.2.2).bind λ(bm,bn,bo,_)=>
(bif(bo != 0)then(some (aH,true,aI,aJ,aK,aL,aM,aR,aS,aT,aU,aV,aW,aY,aZ,ba,bc,bd,be,bf,bg,bh,bi,bj,bm,bn,()))else
(gj bg).bind λbp=>
(fU aM bp).bind λ_=>
(fU aM bp).bind λbt=>bif(bt.1 != 0)then(some (aH,true,aI,aJ,aK,aL,aM,aR,aS,aT,aU,aV,aW,aY,aZ,ba,bc,bd,be,bf,bg,bh,bi,bj,bm,bn,()))else
(fU aY 0).bind λbv=>let bx:=wk .i64 bv.2.1;bif(decide (bx>255))then(some (aH,true,aI,aJ,aK,aL,aM,aR,aS,aT,aU,aV,aW,aY,aZ,ba,bc,bd,be,bf,bg,bh,bi,bj,bm,bn,()))else
(fU aY 0).bind λbA=>some (aH,(bA.1 != 0),aI,aJ,aK,aL,aM,aR,aS,aT,aU,aV,aW,aY,aZ,ba,bc,bd,be,bf,bg,bh,bi,bj,bm,bn,()):Option (T3y)).bind λ(bp,bq,bt,bv,bx,bA,bB,bC,bD,bE,bF,bG,bH,bI,bJ,_,_,_,_,_,bP,_,bR,bS,bT,bU,_)=>bif bq then(some (.inl (false,bt,bv,bx,bA,bB,())))else
(fU bI 0).bind λbV=>let bW:=wk .i64 bV.2.1;
(sB bW bT bU).bind λ(bY,bZ,b8,b9,cb,cd,cf,cg,_)=>
(gj bP).bind λch=>
(fU bB ch).bind λ_=>
(fU bB ch).bind λ_=>let cn:=bB.modify ch λe=>(bY,(bZ,(b8,(b9,(cb,(cd,(cf,cg)))))));some (.inr (bp,bt,bv,bx,bA,cn,bC,bD,bE,bF,bG,bH,bI,bJ,bR,bS,())))else some (.inr (aH,aI,aJ,aK,aL,aM,aR,aS,aT,aU,aV,aW,aY,aZ,bi,bj,())))else some (.inr (aH,aI,aJ,aK,aL,aM,aR,aS,aT,aU,aV,aW,aY,aZ,bi,bj,())):Option (T18⊕T33))with
|none=>none
|some (.inl (bk,bm,bn,bo,bp,bq,_))=>some (bk,bm,bn,bo,bp,bq,())
|some (.inr (bk,bm,bn,bo,bp,bq,_,_,_,_,_,_,_,_,bF,bG,_))=>
(fU bq bk).bind λ_=>
(fU bq bk).bind λbI=>
(fU bI.2.1 0).bind λ_=>
(fU bq bk).bind λbK=>
(fU bK.2.1 0).bind λ_=>let bM:=bq.modify bk λe=>(e.1,((e.2.1.modify 0 λe=>(bF,bG)),e.2.2));
(fU bM bk).bind λ_=>let bO:=bM.modify bk λe=>(1,e.2);some (true,bm,bn,bo,bp,bO,()))))
def Kl:X.Cfg:=⟨E0,[tn,lV,lW,lX,ve,td,C4],[],[⟨13,0,(qS (zl [1,4,6,7]++(9,.ptr ⟨4,4,[((),(8,0))]⟩ [0,0])::zl [10,12]++sP 80 gk::il [81,82]) uaq),[(.ret,qS zau Zam),(.exit 0,(qS Zaw uaq))]⟩,⟨6,1,qE,[(.ret,qS zau Zam),(.normal,(qS Zaw uaq)),(.normal,(qS (zl [1,4,6,7]++[(9,.ptr ⟨4,4,[((),(8,0))]⟩ [0,0]),zaa 10,Xaa 51]) yar))]⟩,⟨24,2,qE,[(.ret,qS zau Zam),(.normal,(qS (zl [1,4,6,7]++[(9,.ptr ⟨4,4,[((),(8,0))]⟩ [0,0]),zaa 10]) yar))]⟩,⟨33,3,qE,[(.normal,(qS (zl [1,6,7]++(9,.ptr ⟨4,4,[((),(8,0))]⟩ [0,0])::zl [10,19]++[Xaa 207]) [(4,Zac),(14,zac),(16,Zad),(22,Xab),(40,Xab)]))]⟩,⟨29,4,qE,[(.ret,qS zau Zam),(.normal,(qS [zaa 1,(9,.ptr ⟨4,4,[((),(8,0))]⟩ [0,0]),zaa 10] [(4,Zac),(14,zac),(22,Xab)]))]⟩]⟩
def CY:Ctr:=⟨174,98,[.agg yab,.ptr ⟨4,0,[]⟩ [0],.agg zac,.agg Zad],[(4,Zac)],[⟨zab,[.one],[(4,Zac)]⟩],as2 (as4 (as8 (as8 ap1))) nQ⟩
theorem J9:Lk 4 CY:=ls Kl (aC wY (aC ot (aC ou (aC ov (aC B6 (aC xR (aC Kc aN)))))))
def sy(a0:LDIn)(a1:LI)(a2:LLI)(a3:LI)(a4:Int)(a5:LDCe)(a6:LDLn)(a7:LDTh)(a8 a9 ek eu eF eH:Int)(eJ eM:LDCn)(eQ eU eX eZ:Int)(fc:LDCn)(ff:Int)(fi:Bool):Option (T1n):=
((iS a0 a1 a2 a3 a4 a5 a6 a7).bind λ(x0,_)=>bif(!x0)then(some (true,a0,a1,a2,a3,a4,a5,a6,a7,a8,a9,ek,eu,eF,eH,eJ,eM,eQ,eU,eX,eZ,fc,ff,fi,(),0,(),(),(),()))else
(mY a8 a9 ek eu eF eH eJ eM).bind λ(x1,_)=>bif(!x1)then(some (true,a0,a1,a2,a3,a4,a5,a6,a7,a8,a9,ek,eu,eF,eH,eJ,eM,eQ,eU,eX,eZ,fc,ff,fi,(),0,(),(),(),()))else bif(a9 != 1)then(some (true,a0,a1,a2,a3,a4,a5,a6,a7,a8,a9,ek,eu,eF,eH,eJ,eM,eQ,eU,eX,eZ,fc,ff,fi,(),0,(),(),(),()))else let x2:=f6 eJ.length;
(jE eH).bind λ(x3,_)=>bif(x2 != x3)then(some (true,a0,a1,a2,a3,a4,a5,a6,a7,a8,a9,ek,eu,eF,eH,eJ,eM,eQ,eU,eX,eZ,fc,ff,fi,(),0,(),(),(),()))else
(mR eQ eU eX eZ fc ff fi).bind λ(x4,_)=>bif(!x4)then(some (true,a0,a1,a2,a3,a4,a5,a6,a7,a8,a9,ek,eu,eF,eH,eJ,eM,eQ,eU,eX,eZ,fc,ff,fi,(),0,(),(),(),()))else
(gj a8).bind λx5=>
(fU a7 x5).bind λx6=>some ((x6.1 != 2),a0,a1,a2,a3,a4,a5,a6,a7,a8,a9,ek,eu,eF,eH,eJ,eM,eQ,eU,eX,eZ,fc,ff,fi,(),0,(),(),(),()):Option (Bool×LDIn×LI×LLI×LI×Int×LDCe×LDLn×LDTh×Int×Int×Int×Int×Int×Int×LDCn×LDCn×T2K)).bind λ(x0,x1,x2,x3,x4,x5,x6,x7,x8,x9,ac,ae,af,ag,ah,ai,aj,ak,am,an,ap,aq,av,ax,_)=>bif x0 then(none)else
(kV x4 x5 x6 x7 x8).bind λ(aE,aF,aG,aH,aI,_)=>bif(ah==0)then((gj x9).bind λaJ=>
(fU aI aJ).bind λ_=>
(fU aI aJ).bind λaL=>
(fU ai 0).bind λaM=>
(fU aI aJ).bind λaO=>
(qg aL.1 aO.2.1 aL.2.2.1 aL.2.2.2.1 aL.2.2.2.2.1 aL.2.2.2.2.2.1 aL.2.2.2.2.2.2.1 aL.2.2.2.2.2.2.2 0 aM.2.1).bind λ(aP,aQ,aR,aS,aT,aU,aV,aW,_)=>
(gj x9).bind λaY=>
(fU aI aY).bind λ_=>
(fU aI aY).bind λ_=>let bc:=aI.modify aY λe=>(aP,(aQ,(aR,(aS,(aT,(aU,(aV,aW)))))));
(fU bc 0).bind λ_=>some (aE,aF,aG,aH,bc,true,()))else bif ax then((gj x9).bind λaJ=>
(fU aI aJ).bind λ_=>
(fU aI aJ).bind λ_=>let aM:=aI.modify aJ λe=>(3,e.2);
(fU aM 0).bind λ_=>
(fU aM 0).bind λ_=>some (aE,aF,aG,aH,aM,true,()))else
(nQ x1 x2 x3 x9 ac ae af ag ah ai aj ak am an ap aq av ax aE aF aG aH aI).bind λ(aJ,aK,aL,aM,aO,aP,_)=>bif(!aJ)then(none)else
(fU aP 0).bind λ_=>
(fU aP 0).bind λ_=>some (aK,aL,aM,aO,aP,true,())
def Km:X.Cfg:=⟨E0,[nD,s8,n5,s6,oM,xj,CY],[],[⟨2,0,qE,[(.normal,qS (zl [4,5,6,7,8]++[Xaa 48]) [(10,yab),(12,Xac),(14,zac),(16,Zad),(18,Zab)])]⟩]⟩
def CZ:Ctr:=⟨158,99,[.agg yab,.agg Xac,.agg zac,.agg Zad],[],[⟨zal,[.agg 5,.one],[]⟩],as2 (as4 (as8 (as8 ap1))) sy⟩
theorem Ka:Lk 5 CZ:=ls Km (aC pJ (aC xP (aC rY (aC xN (aC rh (aC B3 (aC J9 aN)))))))
def oC(a0:LDIn)(a1:LI)(a2:LLI)(a3:LI)(a4:Int)(a5:LDCe)(a6:LDLn)(a7:LDTh)(a8 a9 ek eu eF:Int)(eH:LDCn)(eJ:Int)(eM:Bool):Option (T1n):=
((iS a0 a1 a2 a3 a4 a5 a6 a7).bind λ(x0,_)=>bif(!x0)then(some (a8,true,a0,a1,a2,a3,a4,a5,a6,a7,a9,ek,eu,eF,eH,eJ,eM,(),0,(),(),(),()))else
(mR a9 ek eu eF eH eJ eM).bind λ(x1,_)=>bif(!x1)then(some (a8,true,a0,a1,a2,a3,a4,a5,a6,a7,a9,ek,eu,eF,eH,eJ,eM,(),0,(),(),(),()))else bif(decide (a8<0))then(some (a8,true,a0,a1,a2,a3,a4,a5,a6,a7,a9,ek,eu,eF,eH,eJ,eM,(),0,(),(),(),()))else bif(decide (a8>=4))then(some (a8,true,a0,a1,a2,a3,a4,a5,a6,a7,a9,ek,eu,eF,eH,eJ,eM,(),0,(),(),(),()))else
(gj a8).bind λx2=>
(fU a7 x2).bind λx3=>some (a8,(x3.1 != 3),a0,a1,a2,a3,a4,a5,a6,a7,a9,ek,eu,eF,eH,eJ,eM,(),0,(),(),(),()):Option (Int×Bool×LDIn×LI×LLI×LI×Int×LDCe×LDLn×LDTh×T2K)).bind λ(x0,x1,_,x3,_,x5,x6,x7,x8,x9,ac,ae,af,ag,_)=>bif x1 then(none)else
(jq x5 x6 x3 ac ae af ag).bind λ(av,ax,ay,_)=>bif(ay != 0)then(none)else
(kV x5 x6 x7 x8 x9).bind λ(az,aA,aB,aD,aE,_)=>
(gj x0).bind λaF=>
(fU aE aF).bind λ_=>
(fU aE aF).bind λ_=>
(fU aE aF).bind λaI=>
(fU aI.2.1 0).bind λ_=>
(fU aE aF).bind λaK=>
(fU aK.2.1 0).bind λ_=>let aM:=aE.modify aF λe=>(e.1,((e.2.1.modify 0 λe=>(av,ax)),e.2.2));
(gj x0).bind λaO=>
(fU aM aO).bind λ_=>
(fU aM aO).bind λ_=>let aR:=aM.modify aO λe=>(1,e.2);
(fU aR 0).bind λ_=>
(fU aR 0).bind λ_=>some (az,aA,aB,aD,aR,true,())
def IG:X.Cfg:=⟨E0,[nD,s6,tn,oM],[],[⟨2,0,qE,[(.normal,qS (Uaa 2::zl [4,5,7,8]++[Xaa 38]) [(10,yab),(12,Xac),(16,Zad),(18,Zab)])]⟩]⟩
def uV:Ctr:=⟨23,100,[.agg yab,.agg Xac,shU I64,.agg Zad],[],[⟨zal,[.agg 5,.one],[]⟩],as1 (as2 (as4 (as8 ap1))) oC⟩
theorem zU:Lk 5 uV:=ls IG (aC pJ (aC xN (aC wY (aC rh aN))))
def qP(a0 a1:Int)(a2:LDIn)(a3:LI)(a4:LLI)(a5:LI)(a6:Int)(a7:LDCe)(a8:LDLn)(a9:LDTh)(ek eu:LI)(eF:LLI)(eH:z_)(eJ:LDOp)(eM:LDOu)(eQ:LI)(eU:LLI)(eX:LDEn)(eZ:LI):Option (T39):=let x0:=wk .i64 a1;
(gt x0 true).bind λ(x1,x2,x3,x4,_,x6,x7,_)=>
(oC a2 a3 a4 a5 a6 a7 a8 a9 a0 x1 x2 x3 x4 [] x6 x7).bind λ(x8,x9,ac,ae,af,_,_)=>let ah:LDEn:=[(4,(a0,(0,(0,(0,(0,(0,(0,(0,([],([],(x1,(x2,(x3,(x4,([],(x6,x7)))))))))))))))))];bif(gl 184 eX.length ah.length)then let ai:LDEn:=(List.append eX ah);some (a2,a3,a4,x8,x9,ac,ae,af,ek,eu,eF,eH,eJ,eM,eQ,eU,ai,eZ,())else none
def Ir:X.Cfg:=⟨E0,[nC,uV],[(35,Qe),(36,Qe)],[]⟩
def Ao:Ctr:=⟨159,101,[.ptr ⟨2,0,[]⟩ [0],shU I64,shU CW],[(2,Xad)],[⟨[],[],[(2,Xad)]⟩],as1 (as2 (as8 (as8 ap1))) qP⟩
theorem HZ:Lk 6 Ao:=ls Ir (aC pI (aC zU aN))
def lO(a0 a1 a2 a3 a4 a5:Int)(a6 a7:LDCn)(a8:LDIn)(a9:LI)(ek:LLI)(eu:LI)(eF:Int)(eH:LDCe)(eJ:LDLn)(eM:LDTh)(eQ eU:LI)(eX:LLI)(eZ:z_)(fc:LDOp)(ff:LDOu)(fi:LI)(fk:LLI)(fq:LDEn)(fu:LI):Option (T39):=
(bif(a5==9)then((fU a6 0).bind λx0=>let x1:=wk .i64 x0.2.1;
(jN fi fk x1 a0).bind λ(_,_,x4,_,_)=>some (x4,a8,a9,ek,eu,eF,eH,eJ,eM,eQ,eU,eX,eZ,fc,ff,fi,fk,fq,fu,a0,a1,a2,a3,a4,a5,a6,a7,()))else some ((-1),a8,a9,ek,eu,eF,eH,eJ,eM,eQ,eU,eX,eZ,fc,ff,fi,fk,fq,fu,a0,a1,a2,a3,a4,a5,a6,a7,()):Option (Int×LDIn×LI×LLI×LI×Int×LDCe×LDLn×LDTh×LI×LI×LLI×LLCn×LDOp×LDOu×LI×LLI×LDEn×LI×T1Q)).bind λ(x0,x1,x2,x3,x4,x5,x6,x7,x8,x9,ac,ae,af,ag,ah,ai,aj,ak,am,an,ap,aq,av,ax,ay,az,aA,_)=>
(mL an ap aq av ax ay az aA x1 x2 x3 x4 x5 x6 x7 x8 x9 ac ae af ag ah ai aj ak am).bind λ(aB,aD,aE,aF,aG,aH,aI,aJ,aK,aL,aM,aO,aP,aQ,aR,aS,aT,aU,aV,aW,aY,aZ,ba,bc,bd,_)=>
(sy aJ aK aL aM aO aP aQ aR an ap aq av ax ay az aA aB aD aE aF aG aH aI).bind λ(be,bf,bg,bh,bi,_,_)=>let bk:LDEn:=[(2,(an,(0,(an,(ap,(aq,(av,(ax,(ay,(az,(aA,(aB,(aD,(aE,(aF,(aG,(aH,aI)))))))))))))))))];bif(gl 184 bc.length bk.length)then let bm:LDEn:=(List.append bc bk);bif(decide (x0>=0))then((qP x0 0 aJ aK aL be bf bg bh bi aS aT aU aV aW aY aZ ba bm bd).bind λ(bn)=>some (bn))else some (aJ,aK,aL,be,bf,bg,bh,bi,aS,aT,aU,aV,aW,aY,aZ,ba,bm,bd,())else none
def DJ:X.Cfg:=⟨E0,[rp,uP,CZ,Ao],[(56,Qe),(57,Qe)],[⟨2,0,qE,[(.normal,qS [zaa 0,zaa 3,Uaa 4] [(2,Xad),(8,zac)])]⟩]⟩
def wA:Ctr:=⟨135,102,[.ptr ⟨2,0,[]⟩ [0],.agg zac],[(2,Xad)],[⟨[],[],[(2,Xad)]⟩],as1 (as8 (as8 (as8 ap1))) lO⟩
theorem Dm:Lk 7 wA:=ls DJ (aC uA (aC BV (aC Ka (aC HZ aN))))
def uf:T2L->Option (T2L⊕(Int×Int×Int×Int×Nat×T1O)):=λ(v0,v1,v2,v3,v4,v5,v6,v7,v8,v9,eq,eE,_)=>bif(decide (v6<v5))then(((gj v6).bind λx0=>
(fU eq v4).bind λx1=>
(fU x1 x0).bind λ_=>
(fU eq v4).bind λx3=>
(fU x3 x0).bind λx4=>bif(x4 != v0)then(bif(gl 8 eE.length (List.length [x4]))then let x5:v_:=(List.append eE [x4]);some (v0,v1,v2,v3,v4,v5,v6,v7,v8,v9,eq,x5,())else none)else some (v0,v1,v2,v3,v4,v5,v6,v7,v8,v9,eq,eE,()):Option (T2L)).bind λ(x0,x1,x2,x3,x4,x5,x6,x7)=>let af:=w64 (x6+1);some (.inl (x0,x1,x2,x3,x4,x5,af,x7)))else some (.inr (v0,v1,v2,v3,v4,v5,v6,false,v7,v8,v9,eq,eE,()))
def ue:T1A->Option (T1A⊕(Int×T1v)):=λ(v0,v1,v2,v3,v4,v5,v6,_)=>bif(decide (v2<v1))then((gj v2).bind λx0=>
(fU v6 x0).bind λ_=>
(fU v6 x0).bind λ_=>
(fU v6 x0).bind λx3=>let x4:=f6 x3.length;
(gc uf NN (v0,v2,v1,v2,x0,x4,0,v3,v4,v5,v6,[],())).bind λ(x5,x6,x7,x8,_,_,_,_,ag,ah,ai,aj,ak,_)=>
(gj x6).bind λam=>
(fU aj am).bind λ_=>
(fU aj am).bind λ_=>let aq:=aj.modify am λe=>ak;let av:=w64 (x8+1);some (.inl (x5,x7,av,ag,ah,ai,aq,())))else some (.inr (v0,v1,v2,false,v3,v4,v5,v6,()))
def ud:T1T->Option (T1T⊕(Int×T1O)):=λ(v0,v1,v2,v3,v4,v5,v6,v7,_)=>bif(decide (v2<v1))then((jN v5 v6 v2 v0).bind λ(x0,x1,x2,x3,_)=>
(bif x3 then(bif(decide (x2>=0))then(bif(gl 8 v7.length (List.length [x2]))then let x4:v_:=(List.append v7 [x2]);some (v0,v1,v2,v3,v4,v5,v6,x4,x0,x1,())else none)else some (v0,v1,v2,v3,v4,v5,v6,v7,x0,x1,()))else some (v0,v1,v2,v3,v4,v5,v6,v7,x0,x1,()):Option (Int×Int×Int×Unit×Unit×LI×LLI×LI×T09)).bind λ(x4,x5,x6,x7,x8,_,_,ae,af,ag,_)=>let ah:=w64 (x6+1);some (.inl (x4,x5,ah,x7,x8,af,ag,ae,())))else some (.inr (v0,v1,v2,false,v3,v4,v5,v6,v7,()))
def qW(a0:LI)(a1:LLI)(a2:Int):Option (T0s):=
(oB a0 a1).bind λ(x0,x1,_)=>let x2:=f6 x1.length;
(gc ue NN (a2,x2,0,(),(),x0,x1,())).bind λ(x3,_,_,_,x7,x8,x9,ac,_)=>let ae:=f6 x9.length;
(gc ud NN (x3,ae,0,x7,x8,x9,ac,[],())).bind λ(_,_,_,_,_,_,am)=>some (am)
def IE:X.Cfg:=⟨E0,[rq,rp],[],[⟨15,0,qE,[(.normal,(qS uax yaq))]⟩,⟨12,1,(qS uax yaq),[(.exit 2,(qS [Uaa 1,zaa 4,zaa 6,Uaa 7,Zaa 9 21,(20,.pk ⟨14,1,[]⟩ [0,0]),Uaa 21,Uaa 22,(27,.pk ⟨14,1,[((),(1,0))]⟩ [0,0,0]),Uaa 28,Uaa 29,Xaa 30] yaq))]⟩,(lx 4 2 (Uaa 1::zl [4,6]++(20,.pk ⟨14,1,[]⟩ [0,0])::il [21,22]) [(10,uac),(14,uaf)] 23),⟨27,3,qE,[(.normal,qS (Uaa 1::zl [4,6]++Zaa 12 27::zaa 14::il [49,50]) [(10,uac),(14,Uaf),(27,Zae),(30,Uaf)])]⟩,⟨21,4,qS (Uaa 1::zl [4,6]++Zaa 12 27::il [49,50]) zar,[(.exit 4,qS [Uaa 1,zaa 4,zaa 6,Zaa 12 27,Uaa 49,Uaa 50,Xaa 51] zar)]⟩]⟩
def Aw:Ctr:=⟨160,103,[.agg Uaf,shU I64],[],[⟨uL [RI,(yaa RI),(uaa I64)],[.agg 2,.one],[]⟩],ap3 qW⟩
theorem Ia:Lk 3 Aw:=ls IE (aC uB (aC uA aN))
def lN(a0 a1:Int)(a2:LDIn)(a3:LI)(a4:LLI)(a5:LI)(a6:Int)(a7:LDCe)(a8:LDLn)(a9:LDTh)(ek eu:LI)(eF:LLI)(eH:z_)(eJ:LDOp)(eM:LDOu)(eQ:LI)(eU:LLI)(eX:LDEn):Option (LDIn×LI×LLI×LI×Int×LDCe×LDLn×LDTh×LI×LI×LLI×LLCn×LDOp×LDOu×LI×LLI×LDEn×Unit):=let x0:=wk .i64 a1;
(gt x0 true).bind λ(x1,x2,x3,x4,_,x6,x7,_)=>
(oC a2 a3 a4 a5 a6 a7 a8 a9 a0 x1 x2 x3 x4 [] x6 x7).bind λ(x8,x9,ac,ae,af,_,_)=>let ah:LDEn:=[(4,(a0,(0,(0,(0,(0,(0,(0,(0,([],([],(x1,(x2,(x3,(x4,([],(x6,x7)))))))))))))))))];bif(gl 184 eX.length ah.length)then let ai:LDEn:=(List.append eX ah);some (a2,a3,a4,x8,x9,ac,ae,af,ek,eu,eF,eH,eJ,eM,eQ,eU,ai,())else none
def DG:X.Cfg:=⟨E0,[nC,uV],[(35,Qe),(36,Qe)],[]⟩
def ww:Ctr:=⟨159,104,[.ptr ⟨2,0,[]⟩ [0],shU I64,shU CW],[(2,Ual)],[⟨[],[],[(2,Ual)]⟩],as2 (as8 (as8 ap1)) lN⟩
theorem Dj:Lk 6 ww:=ls DG (aC pI (aC zU aN))
def tH:T3q->Option (T3q⊕(Int×Int×Int×Bool×T3g)):=λ(v0,v1,v2,v3,v4,v5,v6,v7,v8,v9,eq,eE,eG,eI,eK,eO,eS,eW,eY,fa,fe,fh,_)=>bif(decide (v2<v1))then((gj v2).bind λx0=>
(fU fh x0).bind λ_=>
(fU fh x0).bind λx2=>
(lN x2 0 v3 v4 v5 v6 v7 v8 v9 eq eE eG eI eK eO eS eW eY fa).bind λ(x3,x4,x5,x6,x7,x8,x9,ac,ae,af,ag,ah,ai,aj,ak,am,an,_)=>let ap:=w64 (v2+1);some (.inl (v0,v1,ap,x3,x4,x5,x6,x7,x8,x9,ac,ae,af,ag,ah,ai,aj,ak,am,an,fe,fh,())))else some (.inr (v0,v1,v2,false,v3,v4,v5,v6,v7,v8,v9,eq,eE,eG,eI,eK,eO,eS,eW,eY,fa,fe,fh,()))
def tG:T3o->Option (T3o⊕(Int×Int×T3j)):=λ(v0,v1,v2,v3,v4,v5,v6,v7,v8,v9,eq,eE,eG,eI,eK,eO,eS,eW,eY,fa,fe,_)=>bif(decide (v2<v1))then(((gj v2).bind λx0=>
(fU fe x0).bind λ_=>
(fU fe x0).bind λx2=>bif(x2==v0)then((gj v0).bind λx3=>
(fU eq x3).bind λ_=>
(fU eq x3).bind λx5=>
(lN v2 x5.2.2.2.2.2.2.2 v3 v4 v5 v6 v7 v8 v9 eq eE eG eI eK eO eS eW eY fa).bind λ(x6,x7,x8,x9,ac,ae,af,ag,ah,ai,aj,ak,am,an,ap,aq,av,_)=>
(gj v2).bind λax=>
(fU fe ax).bind λ_=>
(fU fe ax).bind λ_=>let aA:=fe.modify ax λe=>(-1);some (v0,v1,v2,x6,x7,x8,x9,ac,ae,af,ag,ah,ai,aj,ak,am,an,ap,aq,av,aA,()))else some (v0,v1,v2,v3,v4,v5,v6,v7,v8,v9,eq,eE,eG,eI,eK,eO,eS,eW,eY,fa,fe,()):Option (T3o)).bind λ(x0,x1,x2,x3,x4,x5,x6,x7,x8,x9,ac,ae,af,ag,ah,ai,aj,ak,am,an,ap,_)=>let aq:=w64 (x2+1);some (.inl (x0,x1,aq,x3,x4,x5,x6,x7,x8,x9,ac,ae,af,ag,ah,ai,aj,ak,am,an,ap,())))else some (.inr (v0,v1,v2,false,v3,v4,v5,v6,v7,v8,v9,eq,eE,eG,eI,eK,eO,eS,eW,eY,fa,fe,()))
def mM(a0:Int)(a1:LDIn)(a2:LI)(a3:LLI)(a4:LI)(a5:Int)(a6:LDCe)(a7:LDLn)(a8:LDTh)(a9 ek:LI)(eu:LLI)(eF:z_)(eH:LDOp)(eJ:LDOu)(eM:LI)(eQ:LLI)(eU:LDEn)(eX:LI):Option (T39):=
(qW eM eQ a0).bind λ(x0,x1,x2,_)=>let x3:=f6 x2.length;
(gc tH NN (a0,x3,0,a1,a2,a3,a4,a5,a6,a7,a8,a9,ek,eu,eF,eH,eJ,x0,x1,eU,eX,x2,())).bind λ(x4,_,_,_,x8,x9,ac,ae,af,ag,ah,ai,aj,ak,am,an,ap,aq,av,ax,ay,az,_,_)=>let aB:=f6 az.length;
(gc tG NN (x4,aB,0,x8,x9,ac,ae,af,ag,ah,ai,aj,ak,am,an,ap,aq,av,ax,ay,az,())).bind λ(_,_,_,_,aH)=>some (aH)
def FO:X.Cfg:=⟨E0,[Aw,ww],[],[(lx 4 0 [zaa 0,Uaa 1,Zaa 23 13,Uaa 24,Uaa 25] [(2,Xad),(13,Zae)] 26),⟨13,1,qE,[(.normal,(qS yax [(2,Xad)]))]⟩,⟨10,2,(qS yax [(2,Xad)]),[(.exit 2,(qS [zaa 0,Uaa 1,(36,.pk ⟨2,17,[]⟩ [0,0]),Uaa 37,Uaa 38,Xaa 39] [(2,Xad)]))]⟩]⟩
def yj:Ctr:=⟨136,105,[.ptr ⟨2,0,[]⟩ [0],shU I64],[(2,Xad)],[⟨[],[],[(2,Xad)]⟩],as2 (as8 (as8 ap1)) mM⟩
theorem Ff:Lk 7 yj:=ls FO (aC Ia (aC Dj aN))
def oA(a0:LDIn)(a1:LI)(a2:LLI)(a3:LI)(a4:Int)(a5:LDCe)(a6:LDLn)(a7:LDTh)(a8 a9:LI)(ek:LLI)(eu:z_)(eF:LDOp)(eH:LDOu)(eJ:LI)(eM:LLI)(eQ:LDEn)(eU:LI)(eX eZ:Int)(fc:Bool):Option ((Unit×Unit×Unit×Unit×Int×Unit×Unit×Unit×Unit×Unit×Unit×Unit×Unit×Unit×Unit×Unit×Unit×Unit×Int×Unit)⊕(LDIn×LI×LLI×LI×Int×LDCe×LDLn×LDTh×LI×LI×LLI×LLCn×LDOp×LDOu×LI×LLI×LDEn×T08)):=
(ph a7).bind λ(x0,_)=>let x1:=f6 x0.length;bif(x1==0)then(some (.inl ((),(),(),(),0,(),(),(),(),(),(),(),(),(),(),(),(),(),15,())))else let x2:=f6 eQ.length;bif(decide (x2>192))then(some (.inl ((),(),(),(),0,(),(),(),(),(),(),(),(),(),(),(),(),(),3,())))else let x3:=f6 x0.length;
(ms eX x3).bind λ(x4,_)=>
(gj x4).bind λx5=>
(fU x0 x5).bind λ_=>
(fU x0 x5).bind λx7=>
(ms eZ 64).bind λ(x8,_)=>let x9:=w64 (1+x8);
(oa a0 a1 a2 a3 a4 a5 a6 a7 a8 a9 ek eu eF eH eJ eM eQ eU).bind λ(ac,ae,af,ag,ah,ai,aj,ak,am,an,ap,aq,av,ax,ay,az,aA,aB,_)=>
(match(bif fc then((qd ag ah ai aj ak x7).bind λ(aD,_)=>bif aD then((mQ ag ah ai aj ak x7).bind λ(aE,aF,aG,aH,aI,_,_)=>let aK:LDEn:=[(3,(x7,(0,(0,(0,(0,(0,(0,(0,([],([],(0,(0,(0,(0,([],(0,false)))))))))))))))))];bif(gl 184 aA.length aK.length)then let aL:LDEn:=(List.append aA aK);some (.inl (x7,x9,(),(),(),(),0,(),(),(),(),(),(),(),(),(),(),(),(),(),ac,ae,af,aE,aF,aG,aH,aI,am,an,ap,aq,av,ax,ay,az,aL,aB,()))else none)else some (.inr (x7,x9,(),(),(),(),0,(),(),(),(),(),(),(),(),(),(),(),(),(),ac,ae,af,ag,ah,ai,aj,ak,am,an,ap,aq,av,ax,ay,az,aA,aB,())))else some (.inr (x7,x9,(),(),(),(),0,(),(),(),(),(),(),(),(),(),(),(),(),(),ac,ae,af,ag,ah,ai,aj,ak,am,an,ap,aq,av,ax,ay,az,aA,aB,())):Option (T3X⊕T3X))with
|none=>none
|some (.inl (aD,aE,aF,aG,aH,aI,aJ,aK,aL,aM,aO,aP,aQ,aR,aS,aT,aU,aV,aW,aY,aZ,ba,bc,bd,be,bf,bg,bh,bi,bj,bk,bm,bn,bo,bp,bq,bt,bv,_))=>
(oE aZ ba bc bd be bf bg bh aD aE).bind λ(bx,bA,bB,bC,bD,bE,bF,bG,bH,bI,bJ,bK,bL,_,_)=>let bN:LDEn:=[(1,(aD,(aE,(bE,(bF,(bG,(bH,(bI,(bJ,(bK,(bL,(0,(0,(0,(0,([],(0,false)))))))))))))))))];bif(gl 184 bt.length bN.length)then let bO:LDEn:=(List.append bt bN);
(bif(bF==1)then((lO bE bF bG bH bI bJ bK bL aZ ba bc bx bA bB bC bD bi bj bk bm bn bo bp bq bO bv).bind λ(bP,bQ,bR,bS,bT,bU,bV,bW,bY,bZ,b8,b9,cb,cd,cf,cg,ch,ci,_)=>some (aD,aF,aG,aH,aI,aJ,aK,aL,aM,aO,aP,aQ,aR,aS,aT,aU,aV,aW,aY,bP,bQ,bR,bS,bT,bU,bV,bW,bY,bZ,b8,b9,cb,cd,cf,cg,ch,ci,()))else some (aD,aF,aG,aH,aI,aJ,aK,aL,aM,aO,aP,aQ,aR,aS,aT,aU,aV,aW,aY,aZ,ba,bc,bx,bA,bB,bC,bD,bi,bj,bk,bm,bn,bo,bp,bq,bO,bv,()):Option (T3R)).bind λ(bP,bQ,bR,bS,bT,bU,bV,bW,bY,bZ,b8,b9,cb,cd,cf,cg,ch,ci,cj,cn,cq,cr,cu,cw,cx,cy,cz,cD,cE,cF,cG,cH,cI,cJ,cK,cL,cM,_)=>
((gj bP).bind λcN=>
(fU cz cN).bind λ_=>
(fU cz cN).bind λcP=>bif(cP.1==4)then((mM bP cn cq cr cu cw cx cy cz cD cE cF cG cH cI cJ cK cL cM).bind λ(cQ,cR,cS,cT,cU,cV,cW,cX,cY,cZ,c8,c9,dc,de,df,dg,dh,dk,_)=>some (bQ,bR,bS,bT,bU,bV,bW,bY,bZ,b8,b9,cb,cd,cf,cg,ch,ci,cj,cQ,cR,cS,cT,cU,cV,cW,cX,cY,cZ,c8,c9,dc,de,df,dg,dh,dk,()))else some (bQ,bR,bS,bT,bU,bV,bW,bY,bZ,b8,b9,cb,cd,cf,cg,ch,ci,cj,cn,cq,cr,cu,cw,cx,cy,cz,cD,cE,cF,cG,cH,cI,cJ,cK,cL,cM,()):Option (T3O)).bind λ(_,_,_,_,_,_,_,_,_,_,_,_,_,_,_,_,_,_,dg,dh,dk,dm,dn,dp,dq,dx,dy,dz,dA,dB,dC,dD,dE,dF,dG,dH,_)=>some (.inr (dg,dh,dk,dm,dn,dp,dq,dx,dy,dz,dA,dB,dC,dD,dE,dF,dG,dH,0,()))else none
|some (.inr (aD,aE,aF,aG,aH,aI,aJ,aK,aL,aM,aO,aP,aQ,aR,aS,aT,aU,aV,aW,aY,aZ,ba,bc,bd,be,bf,bg,bh,bi,bj,bk,bm,bn,bo,bp,bq,bt,bv,_))=>
(oE aZ ba bc bd be bf bg bh aD aE).bind λ(bx,bA,bB,bC,bD,bE,bF,bG,bH,bI,bJ,bK,bL,_,_)=>let bN:LDEn:=[(1,(aD,(aE,(bE,(bF,(bG,(bH,(bI,(bJ,(bK,(bL,(0,(0,(0,(0,([],(0,false)))))))))))))))))];bif(gl 184 bt.length bN.length)then let bO:LDEn:=(List.append bt bN);
(bif(bF==1)then((lO bE bF bG bH bI bJ bK bL aZ ba bc bx bA bB bC bD bi bj bk bm bn bo bp bq bO bv).bind λ(bP,bQ,bR,bS,bT,bU,bV,bW,bY,bZ,b8,b9,cb,cd,cf,cg,ch,ci,_)=>some (aD,aF,aG,aH,aI,aJ,aK,aL,aM,aO,aP,aQ,aR,aS,aT,aU,aV,aW,aY,bP,bQ,bR,bS,bT,bU,bV,bW,bY,bZ,b8,b9,cb,cd,cf,cg,ch,ci,()))else some (aD,aF,aG,aH,aI,aJ,aK,aL,aM,aO,aP,aQ,aR,aS,aT,aU,aV,aW,aY,aZ,ba,bc,bx,bA,bB,bC,bD,bi,bj,bk,bm,bn,bo,bp,bq,bO,bv,()):Option (T3R)).bind λ(bP,bQ,bR,bS,bT,bU,bV,bW,bY,bZ,b8,b9,cb,cd,cf,cg,ch,ci,cj,cn,cq,cr,cu,cw,cx,cy,cz,cD,cE,cF,cG,cH,cI,cJ,cK,cL,cM,_)=>
((gj bP).bind λcN=>
(fU cz cN).bind λ_=>
(fU cz cN).bind λcP=>bif(cP.1==4)then((mM bP cn cq cr cu cw cx cy cz cD cE cF cG cH cI cJ cK cL cM).bind λ(cQ,cR,cS,cT,cU,cV,cW,cX,cY,cZ,c8,c9,dc,de,df,dg,dh,dk,_)=>some (bQ,bR,bS,bT,bU,bV,bW,bY,bZ,b8,b9,cb,cd,cf,cg,ch,ci,cj,cQ,cR,cS,cT,cU,cV,cW,cX,cY,cZ,c8,c9,dc,de,df,dg,dh,dk,()))else some (bQ,bR,bS,bT,bU,bV,bW,bY,bZ,b8,b9,cb,cd,cf,cg,ch,ci,cj,cn,cq,cr,cu,cw,cx,cy,cz,cD,cE,cF,cG,cH,cI,cJ,cK,cL,cM,()):Option (T3O)).bind λ(_,_,_,_,_,_,_,_,_,_,_,_,_,_,_,_,_,_,dg,dh,dk,dm,dn,dp,dq,dx,dy,dz,dA,dB,dC,dD,dE,dF,dG,dH,_)=>some (.inr (dg,dh,dk,dm,dn,dp,dq,dx,dy,dz,dA,dB,dC,dD,dE,dF,dG,dH,0,()))else none)
def Is:X.Cfg:=⟨E0,[yv,xk,wz,xg,uU,Az,wA,yj],[(60,Qe),(61,Qe),(82,Qe),(83,Qe)],[⟨11,0,qE,[(.normal,(qS zax [(10,Uae),(20,uL [gS,RI,(yaa RW),RI,CW,(uaa KCe),iB,qD,RW,RW,(yaa RW),(yaa gk),jm,lp,RI,(yaa RI),(uaa qJ),(uaa I64)])])),(.normal,qS zax [(10,Uae),(20,Zak)])]⟩,⟨17,1,qE,[(.normal,qS [zaa 4,Uaa 7,zaa 9] [(10,Uae),(20,Xad)])]⟩,⟨19,2,qE,[(.normal,qS (zl [4,9]) [(10,Uae),(20,Xad)])]⟩]⟩
def Ap:Ctr:=⟨96,106,[.agg Zah,.agg uaj],[],[⟨uL [N1,N1,N1,N1,CW,N1,N1,N1,N1,N1,N1,N1,N1,N1,N1,N1,N1,N1,I64],[.agg 18,.one],[]⟩,⟨uL [gS,RI,(yaa RW),RI,CW,(uaa KCe),iB,(uaa nI),RW,RW,(yaa RW),(yaa gk),jm,lp,RI,(yaa RI),(uaa qJ),(uaa I64),I64],[.agg 18,.one],[]⟩],as4 (as8 (as8 ap1)) oA⟩
theorem H3:Lk 8 Ap:=ls Is (aC Fq (aC B7 (aC Dl (aC BZ (aC BY (aC Id (aC Dm (aC Ff aN))))))))
def sH:T42->Option (T42⊕(T4c⊕(T4c⊕(T4b⊕(Int×Bool×T3Y))))):=λ(v0,v1,v2,v3,v4,v5,v6,v7,v8,v9,eq,eE,eG,eI,eK,eO,eS,eW,eY,fa,fe,fh,fj,fm,fr,fv,fw,fA,fB,fC,fD,fE,fF,fG,fH,fI,fJ,fK,fL,_)=>bif(decide (v0>0))then((match((pD v1 v2).bind λ(x0,x1,x2,x3,x4,_)=>
(match oA fh fj fm fr fv fw fA fB fC fD fE fF fG fH fI fJ fK fL x0 x1 x2 with
|none=>none
|some (.inl (x5,x6,x7,x8,x9,ac,ae,af,ag,ah,ai,aj,ak,am,an,ap,aq,av,ax,_))=>bif(ax != 0)then(some (.inl (v0,true,x3,x4,v3,v4,v5,v6,v7,v8,v9,eq,eE,eG,eI,eK,eO,eS,eW,eY,fa,fe,fh,fj,fm,fr,fv,fw,fA,fB,fC,fD,fE,fF,fG,fH,fI,fJ,fK,fL,x5,x6,x7,x8,x9,ac,ae,af,ag,ah,ai,aj,ak,am,an,ap,aq,av,())))else some (.inr (.inl (v0,x3,x4,v3,v4,v5,v6,v7,v8,v9,eq,eE,eG,eI,eK,eO,eS,eW,eY,fa,fe,x5,x6,x7,x8,x9,ac,ae,af,ag,ah,ai,aj,ak,am,an,ap,aq,av,())))
|some (.inr (_,_,_,_,_,_,_,_,_,_,_,_,_,_,_,_,_,_,_,_))=>
(match oA fh fj fm fr fv fw fA fB fC fD fE fF fG fH fI fJ fK fL x0 x1 x2 with
|none=>none
|some (.inl (ay,az,aA,aB,aD,aE,aF,aG,aH,aI,aJ,aK,aL,aM,aO,aP,aQ,aR,aS,_))=>bif(aS != 0)then(some (.inr (.inr (.inl (v0,true,x3,x4,v3,v4,v5,v6,v7,v8,v9,eq,eE,eG,eI,eK,eO,eS,eW,eY,fa,fe,fh,fj,fm,fr,fv,fw,fA,fB,fC,fD,fE,fF,fG,fH,fI,fJ,fK,fL,ay,az,aA,aB,aD,aE,aF,aG,aH,aI,aJ,aK,aL,aM,aO,aP,aQ,aR,())))))else some (.inr (.inl (v0,x3,x4,v3,v4,v5,v6,v7,v8,v9,eq,eE,eG,eI,eK,eO,eS,eW,eY,fa,fe,ay,az,aA,aB,aD,aE,aF,aG,aH,aI,aJ,aK,aL,aM,aO,aP,aQ,aR,())))
|some (.inr (ay,az,aA,aB,aD,aE,aF,aG,aH,aI,aJ,aK,aL,aM,aO,aP,aQ,aR,aS,_))=>bif(aS != 0)then(some (.inr (.inr (.inr (.inl (v0,true,x3,x4,v3,v4,v5,v6,v7,v8,v9,eq,eE,eG,eI,eK,eO,eS,eW,eY,fa,fe,fh,fj,fm,fr,fv,fw,fA,fB,fC,fD,fE,fF,fG,fH,fI,fJ,fK,fL,ay,az,aA,aB,aD,aE,aF,aG,aH,aI,aJ,aK,aL,aM,aO,aP,aQ,aR,()))))))else some (.inr (.inr (.inr (.inr (v0,x3,x4,v3,v4,v5,v6,v7,v8,v9,eq,eE,eG,eI,eK,eO,eS,eW,eY,fa,fe,ay,az,aA,aB,aD,aE,aF,aG,aH,aI,aJ,aK,aL,aM,aO,aP,aQ,aR,()))))))):Option (T4c⊕((Int×LI×Int×Unit×Unit×Unit×Unit×Int×Unit×Unit×Unit×Unit×Unit×Unit×Unit×Unit×Unit×Unit×Unit×Unit×Unit×T3d)⊕(T4c⊕(T4b⊕T42)))))with
|none=>none
|some (.inl (x0,x1,x2,x3,x4,x5,x6,x7,x8,x9,ac,ae,af,ag,ah,ai,aj,ak,am,an,ap,aq,av,ax,ay,az,aA,aB,aD,aE,aF,aG,aH,aI,aJ,aK,aL,aM,aO,aP,aQ,aR,aS,aT,aU,aV,aW,aY,aZ,ba,bc,bd,be,bf,bg,bh,bi,bj,_))=>some (.inr (.inl (x0,x1,x2,x3,x4,x5,x6,x7,x8,x9,ac,ae,af,ag,ah,ai,aj,ak,am,an,ap,aq,av,ax,ay,az,aA,aB,aD,aE,aF,aG,aH,aI,aJ,aK,aL,aM,aO,aP,aQ,aR,aS,aT,aU,aV,aW,aY,aZ,ba,bc,bd,be,bf,bg,bh,bi,bj,())))
|some (.inr (.inl (x0,x1,x2,x3,x4,x5,x6,x7,x8,x9,ac,ae,af,ag,ah,ai,aj,ak,am,an,ap,_,_,_,_,az,_,_,_,_,_,_,_,_,_,_,_,_,_,_)))=>let aP:=w64 (x0-1);some (.inl (aP,x1,x2,x3,x4,x5,x6,x7,x8,x9,ac,ae,af,ag,ah,ai,aj,ak,am,an,ap,[],[],[],[],az,[],[],[],[],[],[],[],[],[],[],[],[],[],()))
|some (.inr (.inr (.inl (x0,x1,x2,x3,x4,x5,x6,x7,x8,x9,ac,ae,af,ag,ah,ai,aj,ak,am,an,ap,aq,av,ax,ay,az,aA,aB,aD,aE,aF,aG,aH,aI,aJ,aK,aL,aM,aO,aP,aQ,aR,aS,aT,aU,aV,aW,aY,aZ,ba,bc,bd,be,bf,bg,bh,bi,bj,_))))=>some (.inr (.inr (.inl (x0,x1,x2,x3,x4,x5,x6,x7,x8,x9,ac,ae,af,ag,ah,ai,aj,ak,am,an,ap,aq,av,ax,ay,az,aA,aB,aD,aE,aF,aG,aH,aI,aJ,aK,aL,aM,aO,aP,aQ,aR,aS,aT,aU,aV,aW,aY,aZ,ba,bc,bd,be,bf,bg,bh,bi,bj,()))))
|some (.inr (.inr (.inr (.inl (x0,x1,x2,x3,x4,x5,x6,x7,x8,x9,ac,ae,af,ag,ah,ai,aj,ak,am,an,ap,aq,av,ax,ay,az,aA,aB,aD,aE,aF,aG,aH,aI,aJ,aK,aL,aM,aO,aP,aQ,aR,aS,aT,aU,aV,aW,aY,aZ,ba,bc,bd,be,bf,bg,bh,bi,bj,_)))))=>some (.inr (.inr (.inr (.inl (x0,x1,x2,x3,x4,x5,x6,x7,x8,x9,ac,ae,af,ag,ah,ai,aj,ak,am,an,ap,aq,av,ax,ay,az,aA,aB,aD,aE,aF,aG,aH,aI,aJ,aK,aL,aM,aO,aP,aQ,aR,aS,aT,aU,aV,aW,aY,aZ,ba,bc,bd,be,bf,bg,bh,bi,bj,())))))
|some (.inr (.inr (.inr (.inr (x0,x1,x2,x3,x4,x5,x6,x7,x8,x9,ac,ae,af,ag,ah,ai,aj,ak,am,an,ap,aq,av,ax,ay,az,aA,aB,aD,aE,aF,aG,aH,aI,aJ,aK,aL,aM,aO,_)))))=>let aP:=w64 (x0-1);some (.inl (aP,x1,x2,x3,x4,x5,x6,x7,x8,x9,ac,ae,af,ag,ah,ai,aj,ak,am,an,ap,aq,av,ax,ay,az,aA,aB,aD,aE,aF,aG,aH,aI,aJ,aK,aL,aM,aO,()))))else some (.inr (.inr (.inr (.inr (v0,false,v1,v2,v3,v4,v5,v6,v7,v8,v9,eq,eE,eG,eI,eK,eO,eS,eW,eY,fa,fe,fh,fj,fm,fr,fv,fw,fA,fB,fC,fD,fE,fF,fG,fH,fI,fJ,fK,fL,())))))
def vA(a0:LI)(a1:Int):Option (LDIn×LI×LLI×LI×Int×LDCe×LDLn×LDTh×LI×LI×LLI×LLCn×LDOp×LDOu×LI×LLI×LDEn×LI×T08):=
(ol a0 a1).bind λ(x0,x1,x2,x3,x4,_)=>
(pC x1 x3 x4).bind λ(x5,x6,x7,x8,_)=>
(om x7 x8).bind λ(x9,ac,ae,af,ag,_,ai,aj,_)=>
(sr x0 x1 x2 x5 x6 x9 ac ae af ag []).bind λ(ak,am,an,ap,aq,av,ax,ay,az,aA,aB,aD,aE,aF,aG,aH,_,aJ,_,_)=>
(fU ay 0).bind λ_=>
(fU ay 0).bind λ_=>
(fV 16 ai aj).bind λ(aO,aP,aQ,_)=>let aR:=w64 (3+aO);
(match gc sH NN (aR,aP,aQ,(),(),(),(),0,(),(),(),(),(),(),(),(),(),(),(),(),(),ak,am,an,ap,aq,av,ax,ay,az,aA,aB,aD,aE,aF,aG,aH,[],aJ,())with
|none=>none
|some (.inl (_,_,aU,aV,_,_,_,_,_,_,_,_,_,_,_,_,_,_,_,_,_,_,bt,bv,bx,bA,bB,bC,bD,bE,bF,bG,bH,bI,bJ,bK,bL,bM,bN,bO,_,_,_,_,_,_,_,_,_,_,_,_,_,_,_,_,_,_,_))=>some (bt,bv,bx,bA,bB,bC,bD,bE,bF,bG,bH,bI,bJ,bK,bL,bM,bN,bO,aU,aV,())
|some (.inr (.inl (_,_,_,_,_,_,_,_,_,_,_,_,_,_,_,_,_,_,_,_,_,_,_,_,_,_,_,_,_,_,_,_,_,_,_,_,_,_,_,_,_,_,_,_,_,_,_,_,_,_,_,_,_,_,_,_,_,_,_)))=>none
|some (.inr (.inr (.inl (_,_,_,_,_,_,_,_,_,_,_,_,_,_,_,_,_,_,_,_,_,_,_,_,_,_,_,_,_,_,_,_,_,_,_,_,_,_,_,_,_,_,_,_,_,_,_,_,_,_,_,_,_,_,_,_,_,_,_))))=>none
|some (.inr (.inr (.inr (_,_,aU,aV,_,_,_,_,_,_,_,_,_,_,_,_,_,_,_,_,_,_,bt,bv,bx,bA,bB,bC,bD,bE,bF,bG,bH,bI,bJ,bK,bL,bM,bN,bO,_))))=>some (bt,bv,bx,bA,bB,bC,bD,bE,bF,bG,bH,bI,bJ,bK,bL,bM,bN,bO,aU,aV,()))
def M4:X.Cfg:=⟨E0,[wN,yM,wO,yk,hJ,yN,Ap],[],[⟨8,0,qE,[(.exit 0,qS Zat Uar),(.normal,qS yav [(2,uab),(6,Uae),(10,Uae)]),(.exit 0,qS Zat Xar),(.exit 0,qS Zat Zar),(.normal,qS yav [(2,uab),(6,Uae),(10,Xad)])]⟩,⟨5,1,qS yav uas,[(.exit 0,qS Zat Uar),(.exit 0,qS Zat Xar),(.exit 0,qS Zat Zar),(.exit 0,qS (zl [0,2,4]++[Uaa 6,Xaa 26]) uas)]⟩]⟩
def EJ:Ctr:=⟨57,107,[.ptr ⟨2,0,[]⟩ [0]],[(2,uab)],[⟨Uai,[.agg 18],[(2,uab)]⟩],ap2 vA⟩
theorem MW:Lk 9 EJ:=ls M4 (aC Dy (aC FI (aC Dz (aC Fg (aC ie (aC FJ (aC H3 aN)))))))
def jh:T2S->Option (T2S⊕(LI×Int×LI×Int×Int×Int×Int×Bool×T1i)):=λ(v0,v1,v2,v3,v4,v5,v6,v7,v8,v9,eq,eE,eG,_)=>bif(decide (v6<v5))then((gj v1).bind λx0=>
(fU v9 x0).bind λx1=>let x2:=w64 (x1+v6);
(oF v7 v8 x2).bind λ(x3,x4,_)=>
(ji v9 eq v0 x3 x4).bind λ(x5,x6,x7,x8,_)=>let x9:LDCn:=[(x5,(x6,(x7,x8)))];bif(gl 24 eG.length x9.length)then let ac:LDCn:=(List.append eG x9);let ae:=w64 (v6+1);some (.inl (v0,v1,v2,v3,v4,v5,ae,v7,v8,v9,eq,eE,ac,()))else none)else some (.inr (v0,v1,v2,v3,v4,v5,v6,false,v7,v8,v9,eq,eE,eG,()))
def jg:T2i->Option (T2i⊕(LI×LI×Int×Int×Bool×T0Y)):=λ(v0,v1,v2,v3,v4,v5,v6,v7,v8,_)=>bif(decide (v3<v2))then((gj v3).bind λx0=>
(fU v1 x0).bind λx1=>
(gc jh NN (v0,v3,v1,v2,v3,x1,0,v4,v5,v6,v7,v8,[],())).bind λ(x2,_,x4,x5,x6,_,_,_,ac,ae,af,ag,ah,ai,_)=>bif(gl 24 ah.length (List.length [ai]))then let aj:z_:=(List.append ah [ai]);let ak:=w64 (x6+1);some (.inl (x2,x4,x5,ak,ac,ae,af,ag,aj,()))else none)else some (.inr (v0,v1,v2,v3,false,v4,v5,v6,v7,v8,()))
def m9(a0:LDCe)(a1:LDLn)(a2:LI)(a3:Int)(a4:LI):Option (LLCn×Unit):=let x0:=f6 a4.length;
(gc jg NN (a4,a4,x0,0,a0,a1,a2,a3,[],())).bind λ(_,_,_,_,_,_,_,_,_,ac,_)=>some (ac,())
def Cp:X.Cfg:=⟨E0,[u7,pU],[(41,(uaa KCn)),(42,(uaa KCn))],[⟨12,0,qS (sP 2 RI::zl [3,4]++Zaa 7 17::Uaa 8::Zaa 10 23::sP 12 RI::il [13,14,19,20]) yas,[(.exit 2,qS (sP 2 RI::zl [3,4]++Zaa 7 17::Uaa 8::Zaa 10 23::sP 12 RI::il [13,14,19,20]++[Xaa 21]) yas)]⟩,(lx 4 1 (sP 2 RI::zl [3,4]++Zaa 7 17::sP 12 RI::il [13,14]) [(8,yaf),(10,Uab),(17,zaj)] 15)]⟩
def u6:Ctr:=⟨29,108,[.agg yaf,.agg Uab,shU RI],[],[⟨zaj,[.one],[]⟩],ap5 m9⟩
theorem B5:Lk 3 u6:=ls Cp (aC Aa (aC sR aN))
def j8:T3J->Option (T3J⊕(LDTh×Int×Int×LDCe×Int×Int×Bool×T3E)):=λ(v0,v1,v2,v3,v4,v5,v6,v7,v8,v9,eq,eE,eG,eI,eK,eO,eS,eW,eY,fa,fe,fh,fj,fm,fr,fv,fw,fA,fB,fC,fD,fE,fF,fG,_)=>bif(decide (v5<v4))then((gj v5).bind λx0=>
(fU v3 x0).bind λx1=>
(ji v9 eq v7 x1.1 x1.2).bind λ(x2,x3,x4,x5,_)=>let x6:LDCn:=[(x2,(x3,(x4,x5)))];bif(gl 24 fG.length x6.length)then let x7:LDCn:=(List.append fG x6);let x8:=w64 (v5+1);some (.inl (v0,v1,v2,v3,v4,x8,v6,v7,v8,v9,eq,eE,eG,eI,eK,eO,eS,eW,eY,fa,fe,fh,fj,fm,fr,fv,fw,fA,fB,fC,fD,fE,fF,x7,()))else none)else some (.inr (v0,v1,v2,v3,v4,v5,false,v6,v7,v8,v9,eq,eE,eG,eI,eK,eO,eS,eW,eY,fa,fe,fh,fj,fm,fr,fv,fw,fA,fB,fC,fD,fE,fF,fG,()))
def j7:T2X->Option (T2X⊕(LDTh×Int×Int×Bool×T2M)):=λ(v0,v1,v2,v3,v4,v5,v6,v7,v8,v9,eq,eE,eG,eI,eK,_)=>bif(decide (v2<v1))then((gj v2).bind λx0=>
(fU v0 x0).bind λx1=>let x2:=f6 x1.2.1.length;
(gc j8 NN (v0,v1,v2,x1.2.1,x2,0,v3,v4,v5,v6,v7,v8,v9,eq,eE,eG,eI,eK,x1.1,x1.2.1,x1.2.2.1,x1.2.2.2.1,x1.2.2.2.2.1,x1.2.2.2.2.2.1,x1.2.2.2.2.2.2.1,x1.2.2.2.2.2.2.2,x1.1,x1.2.2.1,x1.2.2.2.1,x1.2.2.2.2.1,x1.2.2.2.2.2.1,x1.2.2.2.2.2.2.1,x1.2.2.2.2.2.2.2,[],())).bind λ(x3,x4,x5,_,_,_,_,ac,ae,af,ag,ah,ai,aj,ak,am,an,ap,aq,_,_,_,_,_,_,_,_,aF,aG,aH,aI,aJ,aK,aL,aM,_)=>let aO:LDTs:=[(aF,(aG,(aH,(aI,(aJ,(aK,(aL,aM)))))))];bif(gl 80 aq.length aO.length)then let aP:LDTs:=(List.append aq aO);let aQ:=w64 (x5+1);some (.inl (x3,x4,aQ,ac,ae,af,ag,ah,ai,aj,ak,am,an,ap,aP,()))else none)else some (.inr (v0,v1,v2,false,v3,v4,v5,v6,v7,v8,v9,eq,eE,eG,eI,eK,()))
def jf(a0:LDIn)(a1:LI)(a2:LLI)(a3:LI)(a4:Int)(a5:LDCe)(a6:LDLn)(a7:LDTh):Option (T0b):=
(m9 a5 a6 a3 a4 a1).bind λ(x0,_)=>let x1:=f6 a7.length;
(gc j7 NN (a7,x1,0,a0,a1,a2,a3,a4,a5,a6,a7,(),(),x0,[],())).bind λ(_,_,_,_,_,_,_,_,_,_,_,_,_,_,aj)=>some (aj)
def F0:X.Cfg:=⟨E0,[u6,pU],[(63,L3),(64,L3)],[⟨12,0,qS (zl [2,3,4,5,8]++sP 20 oQ::il [21,22]++sP 42 ig::il [43,44]) zas,[(.exit 2,qS (zl [2,3,4,5,8]++sP 20 oQ::il [21,22]++sP 42 ig::il [43,44]++[Xaa 45]) zas)]⟩,(lx 4 1 (zl [2,3,4,5]++sP 20 oQ::il [21,22]) [(6,yab),(8,Xac),(10,uac),(12,uag)] 23)]⟩
def pR:Ctr:=⟨10,109,[.agg yab,.agg Xac],[],[⟨uag,[.agg 2],[]⟩],as1 (as2 (as4 ap1)) jf⟩
theorem sN:Lk 4 pR:=ls F0 (aC B5 (aC sR aN))
def kf:Int×T0q->Option ((Int×T0q)⊕(Int×T0I)):=λ(v0,v1,v2,v3,_)=>bif(decide (v3<v2))then((gj v3).bind λx0=>
(fU v1 x0).bind λx1=>let x2:=w64 (v0+x1);let x3:=w64 (v3+1);some (.inl (x2,v1,v2,x3,())))else some (.inr (v0,v1,v2,v3,false,()))
def pn(a0:LI):h_:=let x0:=f6 a0.length;
(gc kf NN (0,a0,x0,0,())).bind λ(x1,_)=>some (x1,())
def Gq:X.Cfg:=⟨E0,[],[],[(lx 4 0 (Uaa 3::sP 6 RI::il [7,8]) [] 9)]⟩
def yA:Ctr:=⟨99,110,uL [RI],[],[⟨yac,[.one],[]⟩],ap1 pn⟩
theorem Fv:Lk 1 yA:=ls Gq aN
def sC:Int×LI×T0z->Option ((Int×LI×T0z)⊕(T0g⊕T1H)):=λ(v0,v1,v2,v3,v4)=>bif(decide (v3<v2))then((gj v3).bind λx0=>
(fU v1 x0).bind λx1=>
(match(bif(decide (v0>=0))then(bif(decide (v0<x1))then(some (.inl (0,v3,v0,())))else some (.inr (v0,v3,x1,v1,v2,v3,false,v4)))else some (.inr (v0,v3,x1,v1,v2,v3,false,v4)):Option (T0g⊕(Int×Int×T1H)))with
|none=>none
|some (.inl (x2,x3,x4,_))=>some (.inr (.inl (x2,x3,x4,())))
|some (.inr (x2,_,x4,x5,x6,x7,_,x9))=>let ae:=w64 (x2-x4);let af:=w64 (x7+1);some (.inl (ae,x5,x6,af,x9))))else some (.inr (.inr (v0,v1,v2,v3,false,v4)))
def vz(a0:LI)(a1:Int):Option (T0g):=let x0:=f6 a0.length;
(match gc sC NN (a1,a0,x0,0,0,0,())with
|none=>none
|some (.inl (x1,x2,x3,_))=>some (x2,x3,x1,())
|some (.inr (_,_,_,_))=>some (0,0,6,()))
def M3:X.Cfg:=⟨E0,[],[],[⟨8,0,qE,[(.ret,qS Zau Uan),(.normal,qS [Uaa 1,zaa 4,Uaa 6,Uaa 7,sP 8 RI,Uaa 9,Uaa 10,Xaa 21] Uan)]⟩,⟨3,1,qS [Uaa 1,zaa 4,sP 8 RI,Uaa 9,Uaa 10] Uan,[(.ret,qS Zau Uan),(.exit 0,qS [Uaa 1,zaa 4,sP 8 RI,Uaa 9,Uaa 10,Xaa 11] Uan)]⟩]⟩
def EI:Ctr:=⟨98,111,uab,[],[⟨yak,[.agg 2,.one],[]⟩],ap2 vz⟩
theorem MV:Lk 1 EI:=ls M3 aN
def jO(a0 a1:LI)(a2:Int):Option (T1d):=
(fV 6 a1 a2).bind λ(x0,x1,x2,_)=>bif(x0==4)then((pn a0).bind λ(x3,_)=>
(fV x3 x1 x2).bind λ(x4,x5,x6,_)=>
(vz a0 x4).bind λ(x7,x8,_,_)=>some (1,0,x7,x8,x5,x6,()))else bif(x0==5)then((fV 10 x1 x2).bind λ(x3,x4,x5,_)=>let x6:=wk .u16 x3;some (2,x6,0,0,x4,x5,()))else
(lf x1 x2).bind λ(x3,x4,x5,_)=>some (0,x3,0,0,x4,x5,())
def I7:X.Cfg:=⟨E0,[hJ,yA,EI,qB],[],[]⟩
def oO:Ctr:=⟨58,112,[.ptr ⟨2,0,[]⟩ [0],shU RI],[(2,uab)],[⟨yag,[.agg 4],[(2,uab)]⟩],ap3 jO⟩
theorem ri:Lk 5 oO:=ls I7 (aC ie (aC Fv (aC MV (aC sT aN))))
def je:LDTs×LDTs×T02->Option ((LDTs×LDTs×T02)⊕((Bool×Unit)⊕(LDTs×LDTs×T0f))):=λ(v0,v1,v2,v3,_)=>bif(decide (v3<v2))then((gj v3).bind λx0=>
(fU v1 x0).bind λx1=>
(bif(decide (x1.1>=0))then(bif(decide (x1.1<=4))then(bif(decide (x1.2.1>=0))then(bif(decide (x1.2.1<=255))then(bif(decide (x1.2.2.1>=0))then(bif(decide (x1.2.2.1<=1099511627776))then(bif(decide (x1.2.2.2.1>=(-1)))then(bif(decide (x1.2.2.2.1<=255))then(bif(decide (x1.2.2.2.2.1>=(-1)))then(bif(decide (x1.2.2.2.2.1<=255))then(bif(decide (x1.2.2.2.2.2.1>=0))then(some (v0,(decide (x1.2.2.2.2.2.1<=6)),v1,v2,v3,x1.1,x1.2.1,x1.2.2.1,x1.2.2.2.1,x1.2.2.2.2.1,x1.2.2.2.2.2.1,x1.2.2.2.2.2.2.1,x1.2.2.2.2.2.2.2,()))else some (v0,false,v1,v2,v3,x1.1,x1.2.1,x1.2.2.1,x1.2.2.2.1,x1.2.2.2.2.1,x1.2.2.2.2.2.1,x1.2.2.2.2.2.2.1,x1.2.2.2.2.2.2.2,()))else some (v0,false,v1,v2,v3,x1.1,x1.2.1,x1.2.2.1,x1.2.2.2.1,x1.2.2.2.2.1,x1.2.2.2.2.2.1,x1.2.2.2.2.2.2.1,x1.2.2.2.2.2.2.2,()))else some (v0,false,v1,v2,v3,x1.1,x1.2.1,x1.2.2.1,x1.2.2.2.1,x1.2.2.2.2.1,x1.2.2.2.2.2.1,x1.2.2.2.2.2.2.1,x1.2.2.2.2.2.2.2,()))else some (v0,false,v1,v2,v3,x1.1,x1.2.1,x1.2.2.1,x1.2.2.2.1,x1.2.2.2.2.1,x1.2.2.2.2.2.1,x1.2.2.2.2.2.2.1,x1.2.2.2.2.2.2.2,()))else some (v0,false,v1,v2,v3,x1.1,x1.2.1,x1.2.2.1,x1.2.2.2.1,x1.2.2.2.2.1,x1.2.2.2.2.2.1,x1.2.2.2.2.2.2.1,x1.2.2.2.2.2.2.2,()))else some (v0,false,v1,v2,v3,x1.1,x1.2.1,x1.2.2.1,x1.2.2.2.1,x1.2.2.2.2.1,x1.2.2.2.2.2.1,x1.2.2.2.2.2.2.1,x1.2.2.2.2.2.2.2,()))else some (v0,false,v1,v2,v3,x1.1,x1.2.1,x1.2.2.1,x1.2.2.2.1,x1.2.2.2.2.1,x1.2.2.2.2.2.1,x1.2.2.2.2.2.2.1,x1.2.2.2.2.2.2.2,()))else some (v0,false,v1,v2,v3,x1.1,x1.2.1,x1.2.2.1,x1.2.2.2.1,x1.2.2.2.2.1,x1.2.2.2.2.2.1,x1.2.2.2.2.2.2.1,x1.2.2.2.2.2.2.2,()))else some (v0,false,v1,v2,v3,x1.1,x1.2.1,x1.2.2.1,x1.2.2.2.1,x1.2.2.2.2.1,x1.2.2.2.2.2.1,x1.2.2.2.2.2.2.1,x1.2.2.2.2.2.2.2,()))else some (v0,false,v1,v2,v3,x1.1,x1.2.1,x1.2.2.1,x1.2.2.2.1,x1.2.2.2.2.1,x1.2.2.2.2.2.1,x1.2.2.2.2.2.2.1,x1.2.2.2.2.2.2.2,()))else some (v0,false,v1,v2,v3,x1.1,x1.2.1,x1.2.2.1,x1.2.2.2.1,x1.2.2.2.2.1,x1.2.2.2.2.2.1,x1.2.2.2.2.2.2.1,x1.2.2.2.2.2.2.2,()):Option (LDTs×Bool×LDTs×T2p)).bind λ(x2,x3,x4,x5,x6,_,_,_,_,_,_,_,ah,_)=>
(bif(!x3)then(some (x2,x4,x5,x6,true,()))else let ai:=f6 ah.length;bif(ai != 8)then(some (x2,x4,x5,x6,true,()))else
(iu ah 8).bind λ(aj,_)=>some (x2,x4,x5,x6,(!aj),()):Option (LDTs×LDTs×T0f)).bind λ(ai,aj,ak,am,an,_)=>bif an then(some (.inr (.inl (false,()))))else let ap:=w64 (am+1);some (.inl (ai,aj,ak,ap,())))else some (.inr (.inr (v0,v1,v2,v3,false,())))
def mS(a0:LDTs):f_:=let x0:=f6 a0.length;
(match gc je NN (a0,a0,x0,0,())with
|none=>none
|some (.inl (x1,_))=>some (x1,())
|some (.inr (x1,_))=>let x6:=f6 x1.length;some ((x6==4),()))
def Cn:X.Cfg:=⟨E0,[jl],[],[⟨8,0,qE,[(.normal,qS [sP 0 (yaa pW),zaa 4,Xaa 5,sP 6 (yaa pW),Uaa 7,Uaa 8] [(10,zak)])]⟩,⟨9,1,qE,[(.normal,qS [sP 0 (yaa pW),sP 6 (yaa pW),Uaa 7,Uaa 8,Xaa 83] [])]⟩,⟨3,2,qS (sP 0 (yaa pW)::sP 6 (yaa pW)::il [7,8]) [],[(.ret,qS zat []),(.exit 0,qS [sP 0 (yaa pW),sP 6 (yaa pW),Uaa 7,Uaa 8,Xaa 9] [])]⟩]⟩
def uW:Ctr:=⟨61,113,uL [(yaa pW)],[],[⟨zab,[.one],[]⟩],ap1 mS⟩
theorem B2:Lk 3 uW:=ls Cn (aC jZ aN)
def mc:T23->Option (T23⊕((Bool×Unit)⊕(LLCn×Int×Int×Bool×T0Z))):=λ(v0,v1,v2,v3,v4,v5)=>bif(decide (v2<v1))then((gj v2).bind λx0=>
(fU v0 x0).bind λx1=>let x2:=f6 x1.length;
(gj v2).bind λx3=>
(fU v4 x3).bind λx4=>bif(x2 != x4)then(some (.inr (.inl (false,()))))else
(iu x1 32).bind λ(x5,_)=>bif(!x5)then(some (.inr (.inl (false,()))))else let x6:=w64 (v2+1);some (.inl (v0,v1,x6,v3,v4,v5)))else some (.inr (.inr (v0,v1,v2,false,v3,v4,v5)))
def mU(a0:LDIn)(a1:LI)(a2:LLI)(a3:z_)(a4:LDTs):f_:=
((ly a0 a1 a2).bind λ(x0,_)=>bif(x0 != 0)then(some (true,a0,a1,a2,a3,a4,()))else let x1:=f6 a3.length;let x2:=f6 a1.length;bif(x1 != x2)then(some (true,a0,a1,a2,a3,a4,()))else
(mS a4).bind λ(x3,_)=>some ((!x3),a0,a1,a2,a3,a4,()):Option (Bool×T0Z)).bind λ(x0,x1,x2,x3,x4,x5,_)=>bif x0 then(some (false,()))else let x6:=f6 x4.length;
(match gc mc NN (x4,x6,0,x1,x2,x3,x4,x5,())with
|none=>none
|some (.inl (x7,_))=>some (x7,())
|some (.inr (_,_))=>some (true,()))
def FZ:X.Cfg:=⟨E0,[pT,uW,jl],[],[⟨2,0,qE,[(.normal,qS [zaa 2,zaa 3,Xaa 24] zaq)]⟩,⟨6,1,qS (zaa 2::sP 26 (yaa gk)::il [27,28]) zaq,[(.ret,qS Uat []),(.exit 0,qS [zaa 2,sP 26 (yaa gk),Uaa 27,Uaa 28,Xaa 29] zaq)]⟩]⟩
def yo:Ctr:=⟨32,114,[.agg yab,.agg Uac],[],[⟨zab,[.one],[]⟩],ap5 mU⟩
theorem Fk:Lk 4 yo:=ls FZ (aC sQ (aC B2 (aC jZ aN)))
def j6:LDTs×Int×Int×LLCn×LDTs×LLCn×Unit->Option ((LDTs×Int×Int×LLCn×LDTs×LLCn×Unit)⊕(LDTs×Int×Int×Bool×LLCn×LDTs×LLCn×Unit)):=λ(v0,v1,v2,v3,v4,v5,_)=>bif(decide (v2<v1))then((gj v2).bind λx0=>
(fU v0 x0).bind λx1=>let x2:z_:=[x1.2.2.2.2.2.2.2];bif(gl 24 v5.length x2.length)then let x3:z_:=(List.append v5 x2);let x4:=w64 (v2+1);some (.inl (v0,v1,x4,v3,v4,x3,()))else none)else some (.inr (v0,v1,v2,false,v3,v4,v5,()))
def mT(a0:z_)(a1:LDTs):Option (LLCn×Unit):=bif(gl 24 0 a0.length)then let x0:z_:=(List.append [] a0);let x1:=f6 a1.length;
(gc j6 NN (a1,x1,0,a0,a1,x0,())).bind λ(_,_,_,_,_,_,x8,_)=>some (x8,())else none
def FY:X.Cfg:=⟨E0,[],[(8,(uaa KCn)),(19,(uaa KCn)),(20,(uaa KCn))],[(lx 4 0 (Zaa 3 9::sP 10 (yaa pW)::il [11,12]) [(4,Uac),(9,Uag)] 13)]⟩
def s7:Ctr:=⟨34,115,[.agg Uac],[],[⟨Uag,[.one],[]⟩],ap2 mT⟩
theorem xO:Lk 1 s7:=ls FY aN
def jD:T36->Option (T36⊕(T19⊕(Int×Int×LDCn×T2Z))):=λ(v0,v1,v2,v3,v4,v5,v6,v7)=>bif(decide (v4<v3))then((gj v4).bind λx0=>
(fU v2 x0).bind λx1=>
(it v6 x1.1 x1.2.1 x1.2.2.1 x1.2.2.2).bind λ(x2,_)=>bif(!x2)then(some (.inr (.inl (false,(),0,(),(),(),()))))else let x3:=w64 (v4+1);some (.inl (v0,v1,v2,v3,x3,v5,v6,v7)))else some (.inr (.inr (v0,v1,v2,v3,v4,false,v5,v6,v7)))
def jC:T2V->Option (T2V⊕(T19⊕T2Z)):=λ(v0,v1,v2,v3,v4,v5,v6,v7,v8,v9,eq,eE,eG,eI,eK,_)=>bif(decide (v1<v0))then((gj v1).bind λx0=>
(fU eK x0).bind λ_=>
(fU eK x0).bind λx2=>let x3:=f6 x2.length;
(match gc jD NN (v0,v1,x2,x3,0,v2,v3,v4,v5,v6,v7,v8,v9,eq,eE,eG,eI,eK,())with
|none=>none
|some (.inl (x4,x5,x6,x7,x8,x9,_))=>some (.inr (.inl (x4,x5,x6,x7,x8,x9,())))
|some (.inr (x4,x5,_,_,_,_,ac))=>let ax:=w64 (x5+1);some (.inl (x4,ax,ac))))else some (.inr (.inr (v0,v1,false,v2,v3,v4,v5,v6,v7,v8,v9,eq,eE,eG,eI,eK,())))
def jB:T3t->Option (T3t⊕(Int×LLCn×Int×Int×LDCn×T3l)):=λ(v0,v1,v2,v3,v4,v5,v6,v7,v8,v9,eq,eE,eG,eI,eK,eO,eS,eW,eY,fa,fe,fh,fj)=>bif(decide (v6<v5))then((gj v6).bind λx0=>
(fU v4 x0).bind λx1=>
(gj v0).bind λx2=>
(fU eq x2).bind λx3=>let x4:=w64 (x3+v6);
(jq eq eE v8 x1.1 x1.2.1 x1.2.2.1 x1.2.2.2).bind λ(x5,x6,_,_)=>
(gj x4).bind λx8=>
(fU fh x8).bind λ_=>
(fU fh x8).bind λ_=>let ae:=fh.modify x8 λe=>(x5,x6);let af:=w64 (v6+1);some (.inl (v0,v1,v2,v3,v4,v5,af,v7,v8,v9,eq,eE,eG,eI,eK,eO,eS,eW,eY,fa,fe,ae,fj)))else some (.inr (v0,v1,v2,v3,v4,v5,v6,false,v7,v8,v9,eq,eE,eG,eI,eK,eO,eS,eW,eY,fa,fe,fh,fj))
def jA:T3n->Option (T3n⊕(LLCn×T3l)):=λ(v0,v1,v2,v3)=>bif(decide (v2<v1))then((gj v2).bind λx0=>
(fU v0 x0).bind λx1=>let x2:=f6 x1.length;
(gc jB NN (v2,v0,v1,v2,x1,x2,0,v3)).bind λ(_,x4,x5,x6,_,_,_,_,ae)=>let aD:=w64 (x6+1);some (.inl (x4,x5,aD,ae)))else some (.inr (v0,v1,v2,false,v3))
def jz:T44->Option (T44⊕(LDTs×Int×Int×LDCn×Int×Int×Bool×T3I)):=λ(v0,v1,v2,v3,v4,v5,v6,v7,v8,v9,eq,eE,eG,eI,eK,eO,eS,eW,eY,fa,fe,fh,fj,fm,fr,fv,fw,fA,fB,fC,fD,fE,fF,fG)=>bif(decide (v5<v4))then((gj v5).bind λx0=>
(fU v3 x0).bind λx1=>
(jq v9 eq v7 x1.1 x1.2.1 x1.2.2.1 x1.2.2.2).bind λ(x2,x3,_,_)=>let x5:LDCe:=[(x2,x3)];bif(gl 4 fF.length x5.length)then let x6:LDCe:=(List.append fF x5);let x7:=w64 (v5+1);some (.inl (v0,v1,v2,v3,v4,x7,v6,v7,v8,v9,eq,eE,eG,eI,eK,eO,eS,eW,eY,fa,fe,fh,fj,fm,fr,fv,fw,fA,fB,fC,fD,fE,x6,fG))else none)else some (.inr (v0,v1,v2,v3,v4,v5,false,v6,v7,v8,v9,eq,eE,eG,eI,eK,eO,eS,eW,eY,fa,fe,fh,fj,fm,fr,fv,fw,fA,fB,fC,fD,fE,fF,fG))
def jy:T3m->Option (T3m⊕(LDTs×Int×Int×Bool×T34)):=λ(v0,v1,v2,v3,v4,v5,v6,v7,v8,v9,eq,eE,eG,eI,eK,eO,eS,eW,eY,fa,_)=>bif(decide (v2<v1))then((gj v2).bind λx0=>
(fU v0 x0).bind λx1=>let x2:=f6 x1.2.2.2.2.2.2.2.length;
(gc jz NN (v0,v1,v2,x1.2.2.2.2.2.2.2,x2,0,v3,v4,v5,v6,v7,v8,v9,eq,eE,eG,eI,eK,eO,eS,eW,eY,fa,x1.1,x1.2.1,x1.2.2.1,x1.2.2.2.1,x1.2.2.2.2.1,x1.2.2.2.2.2.1,x1.2.2.2.2.2.2.1,x1.2.2.2.2.2.2.2,x1.1,[],x1.2.1,x1.2.2.1,x1.2.2.2.1,x1.2.2.2.2.1,x1.2.2.2.2.2.1,x1.2.2.2.2.2.2.1,())).bind λ(x3,x4,x5,_,_,_,_,ac,ae,af,ag,ah,ai,aj,ak,am,an,ap,aq,av,ax,ay,az,aA,_,_,_,_,_,_,_,_,aK,aL,aM,aO,aP,aQ,aR,aS,_)=>let aT:LDTh:=[(aK,(aL,(aM,(aO,(aP,(aQ,(aR,aS)))))))];bif(gl 80 aA.length aT.length)then let aU:LDTh:=(List.append aA aT);let aV:=w64 (x5+1);some (.inl (x3,x4,aV,ac,ae,af,ag,ah,ai,aj,ak,am,an,ap,aq,av,ax,ay,az,aU,()))else none)else some (.inr (v0,v1,v2,false,v3,v4,v5,v6,v7,v8,v9,eq,eE,eG,eI,eK,eO,eS,eW,eY,fa,()))
def jp(a0:LDIn)(a1:LI)(a2:LLI)(a3:LI)(a4:Int)(a5:z_)(a6:LDTs):Option (T1n):=
(mU a0 a1 a2 a5 a6).bind λ(x0,_)=>bif(!x0)then(some ([],0,[],[],[],false,()))else
(jT a3 a4 a1).bind λ(x1,_)=>bif(!x1)then(some ([],0,[],[],[],false,()))else
(mT a5 a6).bind λ(x2,_)=>let x3:=f6 x2.length;
(match gc jC NN (x3,0,a0,a1,a2,a3,a4,a5,a6,(),0,(),(),(),x2,())with
|none=>none
|some (.inl (x4,_,x6,_,_,_,_))=>some ([],x6,[],[],[],x4,())
|some (.inr (_,_,_,x7,x8,x9,ac,ae,af,ag,ah,ai,aj,ak,am,_,_))=>bif(gl 8 0 ac.length)then let ap:v_:=(List.append [] ac);bif(xJ 512 512 2)then let aq:LDCe:=(List.replicate 512 (0,0));
(pm).bind λ(av,_)=>let ax:=f6 af.length;
(gc jA NN (af,ax,0,x7,x8,x9,ac,ae,af,ag,ah,ai,aj,ak,am,ap,ae,aq,av,(),())).bind λ(_,_,_,_,aD,aE,aF,aG,aH,aI,aJ,aK,aL,aM,aO,aP,aQ,aR,aS,aT,_,_)=>let aV:=f6 aJ.length;
(gc jy NN (aJ,aV,0,aD,aE,aF,aG,aH,aI,aJ,aK,aL,aM,aO,aP,aQ,aR,aS,aT,[],())).bind λ(_,_,_,_,_,_,_,_,_,_,_,_,_,_,_,_,bp,bq,bt,bv,bx,_)=>some (bp,bq,bt,bv,bx,true,())else none else none)
def DK:X.Cfg:=⟨E0,[yo,nE,s7,lW,tg,tn],[(150,Sq),(151,Sq)],[⟨12,0,qS (zl [3,4,5,6]++Zaa 37 77::il [38,39]++sP 43 gk::il [44,45]) zao,[(.ret,qS Uau [(14,Zab)]),(.exit 2,qS (zl [3,4,5,6]++Zaa 37 77::il [38,39]++sP 43 gk::il [44,45]++[Xaa 46]) zao)]⟩,⟨6,1,qS (zl [3,4,5,6]++Zaa 37 77::il [38,39]) zao,[(.ret,qS Uau [(14,Zab)]),(.exit 0,qS (zl [3,4,5,6]++Zaa 37 77::il [38,39]++[Xaa 40]) zao)]⟩,⟨28,2,qS (zl [3,4,5,6,12]++Uaa 13::sP 68 (yaa gk)::il [69,70]++sP 75 gk::il [76,77]) Uao,[(.exit 6,qS (zl [3,4,5,6,12]++Uaa 13::sP 68 (yaa gk)::il [69,70]++sP 75 gk::il [76,77]++[Xaa 78]) Uao)]⟩,⟨22,3,qS (zl [3,4,5,6,12]++sP 68 (yaa gk)::il [69,70]) Uao,[(.exit 4,qS (zl [3,4,5,6,12]++sP 68 (yaa gk)::il [69,70]++[Xaa 71]) Uao)]⟩,⟨43,4,qS (zl [3,4,6,12,19]++sP 104 (yaa pW)::il [105,106]++sP 126 gk::il [127,128]) Uas,[(.exit 10,qS (zl [3,4,6,12,19]++sP 104 (yaa pW)::il [105,106]++sP 126 gk::il [127,128]++[Xaa 129]) Uas)]⟩,⟨35,5,qS (zl [3,4,6,12]++sP 104 (yaa pW)::il [105,106]) Xas,[(.exit 8,qS (zl [3,4,6,12]++sP 104 (yaa pW)::il [105,106]++[Xaa 107]) Xas)]⟩]⟩
def rK:Ctr:=⟨13,116,[.agg yab,.agg Uab,.agg Uac],[],[⟨ual,[.agg 5,.one],[]⟩],as2 (as4 ap1) jp⟩
theorem wm:Lk 5 rK:=ls DK (aC Fk (aC pK (aC xO (aC ou (aC xT (aC wY aN))))))
def nS:T3N->Option (T3N⊕T3Q):=λ(v0,v1,v2,v3,v4,v5,v6,v7,v8,v9,eq,eE,eG,eI,eK,eO,eS,eW,eY,fa,fe,fh,fj,fm,fr,fv,fw,fA,fB,fC,fD,fE,fF,fG,fH,fI,_)=>bif(decide (v1<v0))then(((fV 3 v2 v3).bind λ(x0,x1,x2,_)=>bif(x0==0)then((fU fH 0).bind λ_=>
(fU fH 0).bind λ_=>
(jO eI x1 x2).bind λ(x5,x6,x7,x8,x9,ac,_)=>
(gj v1).bind λae=>
(fU fH 0).bind λaf=>
(fU af ae).bind λ_=>
(fU fH 0).bind λah=>
(fU ah ae).bind λ_=>let aj:=fH.modify 0 λe=>(e.modify ae λe=>(x5,(x6,(x7,x8))));some (v0,v1,x9,ac,v4,v5,v6,v7,v8,v9,eq,eE,eG,eI,eK,eO,eS,eW,eY,fa,fe,fh,fj,fm,fr,fv,fw,fA,fB,fC,fD,fE,fF,fG,aj,fI,()))else some (v0,v1,x1,x2,v4,v5,v6,v7,v8,v9,eq,eE,eG,eI,eK,eO,eS,eW,eY,fa,fe,fh,fj,fm,fr,fv,fw,fA,fB,fC,fD,fE,fF,fG,fH,fI,()):Option (T3N)).bind λ(x0,x1,x2,x3,x4,x5,x6,x7,x8,x9,ac,ae,af,ag,ah,ai,aj,ak)=>let aL:=w64 (x1+1);some (.inl (x0,aL,x2,x3,x4,x5,x6,x7,x8,x9,ac,ae,af,ag,ah,ai,aj,ak)))else some (.inr (v0,v1,false,v2,v3,v4,v5,v6,v7,v8,v9,eq,eE,eG,eI,eK,eO,eS,eW,eY,fa,fe,fh,fj,fm,fr,fv,fw,fA,fB,fC,fD,fE,fF,fG,fH,fI,()))
def rR:T3Z->Option (T3Z⊕(Int×Int×Int×T3Q)):=λ(v0,v1,v2,v3,v4,v5,v6,v7,v8,v9,eq,eE,eG,eI,eK,eO,eS,eW,eY,fa,fe,fh,fj,fm,fr,fv,fw,fA,fB,fC,fD,fE,fF,fG,fH,fI,fJ,fK,fL,_)=>bif(decide (v4<v3))then(((fV 3 v5 v6).bind λ(x0,x1,x2,_)=>bif(x0==0)then((gj v0).bind λx3=>
(fU fL x3).bind λ_=>
(fU fL x3).bind λ_=>
(jO eS x1 x2).bind λ(x6,x7,x8,x9,ac,ae,_)=>
(gj v4).bind λaf=>
(fU fL x3).bind λag=>
(fU ag.2.2.2.2.2.2.2 af).bind λ_=>
(fU fL x3).bind λai=>
(fU ai.2.2.2.2.2.2.2 af).bind λ_=>let ak:=fL.modify x3 λe=>(e.1,(e.2.1,(e.2.2.1,(e.2.2.2.1,(e.2.2.2.2.1,(e.2.2.2.2.2.1,(e.2.2.2.2.2.2.1,(e.2.2.2.2.2.2.2.modify af λe=>(x6,(x7,(x8,x9)))))))))));some (v0,v1,v2,v3,v4,ac,ae,v7,v8,v9,eq,eE,eG,eI,eK,eO,eS,eW,eY,fa,fe,fh,fj,fm,fr,fv,fw,fA,fB,fC,fD,fE,fF,fG,fH,fI,fJ,fK,ak,()))else some (v0,v1,v2,v3,v4,x1,x2,v7,v8,v9,eq,eE,eG,eI,eK,eO,eS,eW,eY,fa,fe,fh,fj,fm,fr,fv,fw,fA,fB,fC,fD,fE,fF,fG,fH,fI,fJ,fK,fL,()):Option (T3Z)).bind λ(x0,x1,x2,x3,x4,x5,x6,x7,x8,x9,ac,ae,af,ag,ah,ai,aj,ak,am)=>let aP:=w64 (x4+1);some (.inl (x0,x1,x2,x3,aP,x5,x6,x7,x8,x9,ac,ae,af,ag,ah,ai,aj,ak,am)))else some (.inr (v0,v1,v2,v3,v4,false,v5,v6,v7,v8,v9,eq,eE,eG,eI,eK,eO,eS,eW,eY,fa,fe,fh,fj,fm,fr,fv,fw,fA,fB,fC,fD,fE,fF,fG,fH,fI,fJ,fK,fL,()))
def nR:T3N->Option (T3N⊕T3Q):=λ(v0,v1,v2,v3,v4,v5,v6,v7,v8,v9,eq,eE,eG,eI,eK,eO,eS,eW,eY,fa,fe,fh,fj,fm,fr,fv,fw,fA,fB,fC,fD,fE,fF,fG,fH,fI,_)=>bif(decide (v1<v0))then(((gj v1).bind λx0=>
(fU fI x0).bind λ_=>
(fU fI x0).bind λ_=>
(fU fI x0).bind λx3=>let x4:=f6 x3.2.2.2.2.2.2.2.length;
(gc rR NN (v1,v0,v1,x4,0,v2,v3,v4,v5,v6,v7,v8,v9,eq,eE,eG,eI,eK,eO,eS,eW,eY,fa,fe,fh,fj,fm,fr,fv,fw,fA,fB,fC,fD,fE,fF,fG,fH,fI,())).bind λ(x5,x6,x7,_,_,_,ae,af,ag,ah,ai,aj,ak,am,an,ap,aq,av,ax,ay,az,aA,aB,aD,aE,aF,aG,aH,aI,aJ,aK,aL,aM,aO,aP,aQ,aR,aS,aT,aU,_)=>
(fV 4 ae af).bind λ(aV,aW,aY,_)=>bif(aV==0)then((fV 5 aW aY).bind λ(aZ,ba,bc,_)=>
(gj x5).bind λbd=>
(fU aU bd).bind λ_=>
(fU aU bd).bind λ_=>let bg:=aU.modify bd λe=>(aZ,e.2);some (x6,x7,ba,bc,ag,ah,ai,aj,ak,am,an,ap,aq,av,ax,ay,az,aA,aB,aD,aE,aF,aG,aH,aI,aJ,aK,aL,aM,aO,aP,aQ,aR,aS,aT,bg,()))else some (x6,x7,aW,aY,ag,ah,ai,aj,ak,am,an,ap,aq,av,ax,ay,az,aA,aB,aD,aE,aF,aG,aH,aI,aJ,aK,aL,aM,aO,aP,aQ,aR,aS,aT,aU,()):Option (T3N)).bind λ(x0,x1,x2,x3,x4,x5,x6,x7,x8,x9,ac,ae,af,ag,ah,ai,aj,ak,am,an,ap,aq,av,ax,ay,az,aA,aB,aD,aE,aF,aG,aH,aI,aJ,aK,_)=>let aL:=w64 (x1+1);some (.inl (x0,aL,x2,x3,x4,x5,x6,x7,x8,x9,ac,ae,af,ag,ah,ai,aj,ak,am,an,ap,aq,av,ax,ay,az,aA,aB,aD,aE,aF,aG,aH,aI,aJ,aK,())))else some (.inr (v0,v1,false,v2,v3,v4,v5,v6,v7,v8,v9,eq,eE,eG,eI,eK,eO,eS,eW,eY,fa,fe,fh,fj,fm,fr,fv,fw,fA,fB,fC,fD,fE,fF,fG,fH,fI,()))
def oo(a0:LI)(a1:Int):Option (LDIn×LI×LLI×LI×Int×LDCe×LDLn×LDTh×T08):=
(vA a0 a1).bind λ(x0,x1,x2,x3,x4,x5,x6,x7,x8,x9,ac,ae,af,ag,ah,ai,aj,ak,am,an,_)=>
(match((fV 3 am an).bind λ(ap,aq,av,_)=>bif(ap==0)then((jf x0 x1 x2 x3 x4 x5 x6 x7).bind λ(ax,ay,_)=>
(fU ax 0).bind λ_=>
(fU ax 0).bind λ_=>
(fU ax 0).bind λaB=>let aD:=f6 aB.length;
(gc nS NN (aD,0,aq,av,(),(),(),(),0,(),(),(),x0,x1,x2,x3,x4,x5,x6,x8,x9,ac,ae,af,ag,ah,ai,aj,ak,x3,x4,x5,x6,x7,ax,ay,())).bind λ(_,_,_,aH,aI,aJ,aK,aL,aM,aO,aP,aQ,aR,aS,aT,aU,aV,aW,aY,aZ,ba,bc,bd,be,bf,bg,bh,bi,bj,bk,bm,bn,bo,bp,bq,bt,bv,_)=>let bx:=f6 bv.length;
(gc nR NN (bx,0,aH,aI,aJ,aK,aL,aM,aO,aP,aQ,aR,aS,aT,aU,aV,aW,aY,aZ,ba,bc,bd,be,bf,bg,bh,bi,bj,bk,bm,bn,bo,bp,bq,bt,bv,())).bind λ(_,_,_,bD,bE,bF,bG,bH,bI,bJ,bK,bL,bM,bN,bO,bP,bQ,bR,bS,bT,bU,bV,bW,bY,bZ,b8,b9,cb,cd,cf,cg,ch,ci,cj,cn,cq,cr,_)=>
(jp bN bO bP cg ch cq cr).bind λ(cu,cw,cx,cy,cz,cD,_)=>bif cD then(some (.inl (bD,bE,bF,bG,bH,bI,bJ,bK,bL,bM,bN,bO,bP,bQ,bR,bS,bT,bU,bV,bW,bY,bZ,b8,b9,cb,cd,cf,cu,cw,cx,cy,cz,())))else some (.inr (bD,bE,bF,bG,bH,bI,bJ,bK,bL,bM,bN,bO,bP,bQ,bR,bS,bT,bU,bV,bW,bY,bZ,b8,b9,cb,cd,cf,cg,ch,ci,cj,cn,())))else some (.inr (aq,av,(),(),(),(),0,(),(),(),x0,x1,x2,x3,x4,x5,x6,x8,x9,ac,ae,af,ag,ah,ai,aj,ak,x3,x4,x5,x6,x7,())):Option (T3G⊕T3G))with
|none=>none
|some (.inl (ap,aq,_,_,_,_,_,_,_,_,aF,aG,aH,_,_,_,_,_,_,_,_,_,_,_,_,_,_,aY,aZ,ba,bc,bd,_))=>
(fU bd 0).bind λ_=>
(fU bd 0).bind λ_=>some (aF,aG,aH,aY,aZ,ba,bc,bd,ap,aq,())
|some (.inr (ap,aq,_,_,_,_,_,_,_,_,aF,aG,aH,_,_,_,_,_,_,_,_,_,_,_,_,_,_,aY,aZ,ba,bc,bd,_))=>
(fU bd 0).bind λ_=>some (aF,aG,aH,aY,aZ,ba,bc,bd,ap,aq,()))
def D2:X.Cfg:=⟨E0,[EJ,hJ,pR,oO,rK],[],[⟨11,0,qE,[(.normal,(qS Uax Uam))]⟩,(lx 8 1 Uax Uam 29),⟨26,2,qE,[(.normal,(qS Xax Uam))]⟩,⟨23,3,(qS Xax Uam),[(.exit 4,(qS (zl [0,2,3,4,5,6]++il [8,48,49,58,59]++[Xaa 60]) Uam))]⟩,⟨19,4,qE,[(.normal,(qS Zax Uam))]⟩,⟨16,5,(qS Zax Uam),[(.exit 2,(qS (zl [0,2,3,4,5,6]++il [48,49]++[Xaa 50]) Uam))]⟩,⟨3,6,qE,[(.normal,(qS uay [(2,uab),(6,yad),(8,Zab),(10,Zal),(12,Zac)])),(.normal,(qS uay [(2,uab),(6,yad),(8,Zab),(10,Zal),(12,Xaf)]))]⟩]⟩
def wP:Ctr:=⟨24,117,[.ptr ⟨2,0,[]⟩ [0]],[(2,uab)],[⟨uL [gS,RI,(yaa RW),RI,CW,ig,i8,(uaa nI)],[.agg 3,.agg 5],[(2,uab)]⟩],ap2 oo⟩
theorem DA:Lk 10 wP:=ls D2 (aC MW (aC ie (aC sN (aC ri (aC wm aN)))))
def o4:Int×LI×T03->Option ((Int×LI×T03)⊕(Int×Bool×LI×T03)):=λ(v0,v1,v2,v3,_)=>bif(decide (v0>0))then(let x0:v_:=[8,4];
(jO x0 v1 v2).bind λ(x1,x2,x3,x4,x5,x6,_)=>
((fV 12 x5 x6).bind λ(x7,x8,x9,_)=>bif(x7==0)then((fV 65536 x8 x9).bind λ(ac,ae,af,_)=>some (v0,ae,af,v3,1,0,(-1),ac,()))else some (v0,x8,x9,v3,x1,x2,x3,x4,()):Option (Int×LI×Int×LDCn×T0z)).bind λ(x7,x8,x9,ac,ae,af,ag,ah,_)=>let ai:LDCn:=[(ae,(af,(ag,ah)))];bif(gl 24 ac.length ai.length)then let aj:LDCn:=(List.append ac ai);let ak:=w64 (x7-1);some (.inl (ak,x8,x9,aj,()))else none)else some (.inr (v0,false,v1,v2,v3,()))
def jV(a0:Int)(a1:LI)(a2:Int):Option (LDCn×T08):=let x0:=w64 (a0+1);
(fV x0 a1 a2).bind λ(x1,x2,x3,_)=>
(gc o4 NN (x1,x2,x3,[],())).bind λ(_,_,x6,x7,x8,_)=>some (x8,x6,x7,())
def GG:X.Cfg:=⟨E0,[hJ,oO],[],[⟨9,0,qE,[(.normal,qS [zaa 0,Zaa 5 13,Uaa 6,zaa 7] [(2,uab),(13,Zag),(16,yag)])]⟩,(lx 4 1 [zaa 0,Zaa 5 13,Uaa 6] [(2,uab),(13,Zag)] 13)]⟩
def tz:Ctr:=⟨59,118,[.ptr ⟨2,0,[]⟩ [0],shU I64],[(2,uab)],[⟨Zag,[.one],[(2,uab)]⟩],ap3 jV⟩
theorem xW:Lk 6 tz:=ls GG (aC ie (aC ri aN))
def lC:T3p->Option (T3p⊕(LI×Int×Int×Bool×T3c)):=λ(v0,v1,v2,v3,v4,v5,v6,v7,v8,v9,eq,eE,eG,eI,eK,eO,eS,eW,eY,fa,fe,_)=>bif(decide (v2<v1))then(((gj v2).bind λx0=>
(fU v0 x0).bind λx1=>bif(x1==78)then((fV 5 v3 v4).bind λ(x2,x3,x4,_)=>let x5:=wk .u16 x2;let x6:LDCn:=[(0,(x5,(0,0)))];bif(gl 24 fa.length x6.length)then let x7:LDCn:=(List.append fa x6);some (v0,v1,v2,x3,x4,v5,v6,v7,v8,v9,eq,eE,eG,eI,eK,eO,eS,eW,eY,x7,fe,())else none)else bif(x1==72)then((fV 4 v3 v4).bind λ(x2,x3,x4,_)=>let x5:=wk .u16 x2;let x6:LDCn:=[(2,(x5,(0,0)))];bif(gl 24 fa.length x6.length)then let x7:LDCn:=(List.append fa x6);some (v0,v1,v2,x3,x4,v5,v6,v7,v8,v9,eq,eE,eG,eI,eK,eO,eS,eW,eY,x7,fe,())else none)else bif(x1==80)then((fV 2 v3 v4).bind λ(x2,x3,x4,_)=>
(fV 4 x3 x4).bind λ(x5,x6,x7,_)=>let x8:LDCn:=[(1,(0,(x2,x5)))];bif(gl 24 fa.length x8.length)then let x9:LDCn:=(List.append fa x8);some (v0,v1,v2,x6,x7,v5,v6,v7,v8,v9,eq,eE,eG,eI,eK,eO,eS,eW,eY,x9,fe,())else none)else let x2:v_:=[8,4];
(jO x2 v3 v4).bind λ(x3,x4,x5,x6,x7,x8,_)=>let x9:LDCn:=[(x3,(x4,(x5,x6)))];bif(gl 24 fa.length x9.length)then let ac:LDCn:=(List.append fa x9);some (v0,v1,v2,x7,x8,v5,v6,v7,v8,v9,eq,eE,eG,eI,eK,eO,eS,eW,eY,ac,fe,())else none:Option (T3p)).bind λ(x0,x1,x2,x3,x4,x5,x6,x7,x8,x9,ac,ae)=>let aq:=w64 (x2+1);some (.inl (x0,x1,aq,x3,x4,x5,x6,x7,x8,x9,ac,ae)))else some (.inr (v0,v1,v2,false,v3,v4,v5,v6,v7,v8,v9,eq,eE,eG,eI,eK,eO,eS,eW,eY,fa,fe,()))
def lQ(a0:LI)(a1:Int):Option (Int×Int×Int×Int×Int×Int×LDCn×LDCn×T08):=
(fV 4 a0 a1).bind λ(x0,x1,x2,_)=>let x3:v_:=[1,1,1,0,2,3];
(fV 6 x1 x2).bind λ(x4,x5,x6,_)=>
(gj x4).bind λx7=>
(fU x3 x7).bind λ_=>
(fU x3 x7).bind λx9=>
(fV 50 x5 x6).bind λ(ac,ae,af,_)=>
(fV 64 ae af).bind λ(ag,ah,ai,_)=>
(bif(x9==2)then((fV 6 ah ai).bind λ(aj,ak,am,_)=>let an:=w64 (1+aj);some (ak,am,0,0,0,0,0,0,(),(),x0,x9,an,ac,ag,0,(),(),()))else some (ah,ai,0,0,0,0,0,0,(),(),x0,x9,0,ac,ag,0,(),(),()):Option (LI×Int×Int×Int×Int×Int×Int×Int×Unit×Unit×T1S)).bind λ(aj,ak,am,an,ap,aq,av,ax,ay,az,aA,aB,aD,aE,aF,aG,_,aI,_)=>bif(aB != 1)then(some (aA,aB,aD,aE,aF,aG,[],[],aj,ak,()))else
(fV 16 aj ak).bind λ(aJ,aK,aL,_)=>let aM:List (ByteArray):=[(bytes [78]),(bytes [72,80,78]),(bytes [72,80,78]),(bytes [78,78]),(bytes [72]),(bytes [72,78]),(bytes []),(bytes []),(bytes [78]),(bytes [78]),(bytes [78,88]),(bytes [78]),(bytes [78]),(bytes [78,80,78]),(bytes [78,80,78]),(bytes [])];
(gj aJ).bind λaO=>
(fU aM aO).bind λ_=>
(fU aM aO).bind λaQ=>bif(SA aQ)then let aR:v_:=(NF aQ);let aS:=f6 aR.length;
(gc lC NN (aR,aS,0,aK,aL,am,an,ap,aq,av,ax,ay,az,aA,aB,aD,aE,aF,aJ,[],aI,())).bind λ(_,_,_,_,aY,aZ,ba,bc,bd,be,bf,bg,bh,bi,bj,bk,bm,bn,bo,bp,bq,_,_)=>
(bif(bp==1)then((jV 6 aY aZ).bind λ(bv,bx,bA,_)=>some (bx,bA,ba,bc,bd,be,bf,bg,bh,bi,bj,bk,bm,bn,bo,bp,bq,bv,()))else bif(bp==13)then((jV 6 aY aZ).bind λ(bv,bx,bA,_)=>some (bx,bA,ba,bc,bd,be,bf,bg,bh,bi,bj,bk,bm,bn,bo,bp,bq,bv,()))else some (aY,aZ,ba,bc,bd,be,bf,bg,bh,bi,bj,bk,bm,bn,bo,bp,bq,[],()):Option (T3b)).bind λ(bv,bx,bA,bB,bC,bD,bE,bF,bG,bH,bI,bJ,bK,bL,bM,bN,bO,bP,_)=>
((fV 10 bv bx).bind λ(bQ,bR,bS,_)=>bif(bQ==0)then((jV 3 bR bS).bind λ(bT,bU,bV,_)=>some (bU,bV,bA,bB,bC,bD,bE,bF,bG,bH,bI,bJ,bK,bL,bM,bN,bT,bP,()))else some (bR,bS,bA,bB,bC,bD,bE,bF,bG,bH,bI,bJ,bK,bL,bM,bN,bO,bP,()):Option (T3b)).bind λ(bQ,bR,_,_,_,_,_,_,_,_,b9,cb,cd,cf,cg,ch,ci,cj,_)=>some (b9,cb,cd,cf,cg,ch,ci,cj,bQ,bR,())else none
def DZ:X.Cfg:=⟨E0,[hJ,oO,tz],[],[⟨2,0,qE,[(.normal,qS uau [(2,uab),(6,yae),(8,yae)])]⟩,⟨14,1,qE,[(.normal,qS yay Zas)]⟩,(lx 11 2 yay Zas 42),⟨20,3,qE,[(.normal,qS uau uat)]⟩,⟨22,4,qE,[(.normal,qS uau uat)]⟩]⟩
def wM:Ctr:=⟨25,119,[.ptr ⟨2,0,[]⟩ [0]],[(2,uab)],[⟨zag,[.agg 8],[(2,uab)]⟩],ap2 lQ⟩
theorem Dx:Lk 7 wM:=ls DZ (aC ie (aC ri (aC xW aN)))
def pB(a0:LI)(a1:Int):Option (T29):=let x0:v_:=[8,4];
(jO x0 a0 a1).bind λ(x1,x2,x3,x4,x5,x6,_)=>
(fV 6 x5 x6).bind λ(x7,x8,x9,_)=>
(fV 3 x8 x9).bind λ(ac,ae,af,_)=>bif(ac==0)then((jV 5 ae af).bind λ(ag,ah,ai,_)=>
((fV 5 ah ai).bind λ(aj,ak,am,_)=>bif(aj==0)then((fV 4 ak am).bind λ(an,ap,aq,_)=>some (ap,aq,0,0,0,0,(),0,false,x1,x2,x3,x4,ag,an,(x7==0),()))else some (ak,am,0,0,0,0,(),0,false,x1,x2,x3,x4,ag,(-1),(x7==0),()):Option (T32)).bind λ(aj,ak,_,_,_,_,_,_,_,az,aA,aB,aD,aE,aF,aG,_)=>some (az,aA,aB,aD,aE,aF,aG,aj,ak,()))else
((fV 5 ae af).bind λ(ag,ah,ai,_)=>bif(ag==0)then((fV 4 ah ai).bind λ(aj,ak,am,_)=>some (ak,am,0,0,0,0,(),0,false,x1,x2,x3,x4,[],aj,(x7==0),()))else some (ah,ai,0,0,0,0,(),0,false,x1,x2,x3,x4,[],(-1),(x7==0),()):Option (T32)).bind λ(ag,ah,_,_,_,_,_,_,_,av,ax,ay,az,aA,aB,aD,_)=>some (av,ax,ay,az,aA,aB,aD,ag,ah,())
def GD:X.Cfg:=⟨E0,[oO,hJ,tz],[],[⟨4,0,qE,[(.normal,qS uau [(2,uab),(6,Uad),(8,zah)])]⟩]⟩
def yL:Ctr:=⟨26,120,[.ptr ⟨2,0,[]⟩ [0]],[(2,uab)],[⟨zah,[.agg 7],[(2,uab)]⟩],ap2 pB⟩
theorem FH:Lk 7 yL:=ls GD (aC ri (aC ie (aC xW aN)))
def nh:T48->Option (T48⊕(Int×Bool×T47)):=λ(v0,v1,v2,v3,v4,v5,v6,v7,v8,v9,eq,eE,eG,eI,eK,eO,eS,eW,eY,fa,fe,fh,fj,fm,fr,fv,fw,fA,fB,fC,fD,fE,fF,fG,fH,fI,fJ)=>bif(decide (v0<5))then(bif(fI != 1)then((lQ v1 v2).bind λ(x0,x1,x2,x3,x4,x5,x6,x7,x8,x9,_)=>let ac:=w64 (v0+1);some (.inl (ac,x8,x9,v3,v4,v5,v6,v7,v8,v9,eq,eE,eG,eI,eK,eO,eS,eW,eY,fa,fe,fh,fj,fm,fr,fv,fw,fA,fB,fC,fD,fE,fF,fG,x0,x1,x2,x3,x4,x5,x6,x7,())))else some (.inr (v0,false,v1,v2,v3,v4,v5,v6,v7,v8,v9,eq,eE,eG,eI,eK,eO,eS,eW,eY,fa,fe,fh,fj,fm,fr,fv,fw,fA,fB,fC,fD,fE,fF,fG,fH,fI,fJ)))else some (.inr (v0,false,v1,v2,v3,v4,v5,v6,v7,v8,v9,eq,eE,eG,eI,eK,eO,eS,eW,eY,fa,fe,fh,fj,fm,fr,fv,fw,fA,fB,fC,fD,fE,fF,fG,fH,fI,fJ))
def ng:T4a->Option (T4a⊕(Int×Int×Bool×T49)):=λ(v0,v1,v2,v3,v4,v5,v6,v7,v8,v9,eq,eE,eG,eI,eK,eO,eS,eW,eY,fa,fe,fh,fj,fm,fr,fv,fw,fA,fB,fC,fD,fE,fF,fG,fH,fI,fJ,fK,fL,fM,fN,fO,fP)=>bif(decide (v1<v0))then(((gj v1).bind λx0=>
(fU fO x0).bind λ_=>
(fU fO x0).bind λx2=>bif(x2.1==1)then(let x3:Int:=(f6 fB.length);
(fV x3 v2 v3).bind λ(x4,x5,x6,_)=>
(gj x4).bind λx7=>
(fU fD x7).bind λx8=>
(gW fD fE fB x8).bind λ(x9,_,_,_)=>
(gj x9).bind λaf=>
(fU fB af).bind λag=>
(fV ag x5 x6).bind λ(ah,ai,aj,_)=>
(gj v1).bind λak=>
(fU fO ak).bind λ_=>
(fU fO ak).bind λ_=>let ap:=fO.modify ak λe=>(e.1,(e.2.1,(x9,e.2.2.2)));
(gj v1).bind λaq=>
(fU ap aq).bind λ_=>
(fU ap aq).bind λ_=>let ay:=ap.modify aq λe=>(e.1,(e.2.1,(e.2.2.1,ah)));some (v0,v1,ai,aj,v4,v5,v6,v7,v8,v9,eq,eE,eG,eI,eK,eO,eS,eW,eY,fa,fe,fh,fj,fm,fr,fv,fw,fA,fB,fC,fD,fE,fF,fG,fH,fI,fJ,fK,fL,fM,fN,ay,fP))else some (v0,v1,v2,v3,v4,v5,v6,v7,v8,v9,eq,eE,eG,eI,eK,eO,eS,eW,eY,fa,fe,fh,fj,fm,fr,fv,fw,fA,fB,fC,fD,fE,fF,fG,fH,fI,fJ,fK,fL,fM,fN,fO,fP):Option (T4a)).bind λ(x0,x1,x2,x3,x4,x5,x6,x7,x8,x9,ac,ae,af,ag,ah,ai,aj,ak,am,an,ap,aq,av,ax,ay,az)=>let bc:=w64 (x1+1);some (.inl (x0,bc,x2,x3,x4,x5,x6,x7,x8,x9,ac,ae,af,ag,ah,ai,aj,ak,am,an,ap,aq,av,ax,ay,az)))else some (.inr (v0,v1,false,v2,v3,v4,v5,v6,v7,v8,v9,eq,eE,eG,eI,eK,eO,eS,eW,eY,fa,fe,fh,fj,fm,fr,fv,fw,fA,fB,fC,fD,fE,fF,fG,fH,fI,fJ,fK,fL,fM,fN,fO,fP))
def kZ(a0:LI)(a1:Int):Option (LDIn×LI×LLI×LI×Int×LDCe×LDLn×LDTh×Int×Int×Int×Int×Int×Int×LDCn×LDCn×T29):=
(oo a0 a1).bind λ(x0,x1,x2,x3,x4,x5,x6,x7,x8,x9,_)=>
(lQ x8 x9).bind λ(ac,ae,af,ag,ah,ai,aj,ak,am,an,_)=>
(gc nh NN (0,am,an,(),(),(),(),0,(),(),(),0,0,0,0,0,0,(),(),0,0,0,0,(),0,false,x0,x1,x2,x3,x4,x5,x6,x7,ac,ae,af,ag,ah,ai,aj,ak,())).bind λ(_,_,av,ax,ay,az,aA,aB,aD,aE,aF,aG,aH,aI,aJ,aK,aL,aM,aO,aP,aQ,aR,aS,aT,aU,aV,aW,aY,aZ,ba,bc,bd,be,bf,bg,bh,bi,bj,bk,bm,bn,bo,bp,_)=>
(gj bh).bind λbq=>
(fU bg bq).bind λ_=>
(fU bg bq).bind λ_=>let bx:=bg.modify bq λe=>(2,e.2);
(pB av ax).bind λ(bA,bB,bC,bD,bE,bF,bG,bH,bI,_)=>let bJ:=f6 bo.length;
(gc ng NN (bJ,0,bH,bI,ay,az,aA,aB,aD,aE,aF,aG,aH,aI,aJ,aK,aL,aM,aO,aP,aQ,aR,aS,aT,aU,aV,aW,aY,aZ,ba,bc,bd,be,bf,bx,bh,bi,bj,bk,bm,bn,bo,bp,bA,bB,bC,bD,bE,bF,bG,())).bind λ(_,_,_,bN,bO,bP,bQ,bR,bS,bT,bU,bV,bW,bY,bZ,b8,b9,cb,cd,cf,cg,ch,ci,cj,cn,cq,cr,cu,cw,cx,cy,cz,cD,cE,cF,cG,cH,cI,cJ,cK,cL,cM,cN,cO,cP,cQ,cR,cS,cT,cU,cV,_)=>
(bif(cM==10)then((fV 3 bN bO).bind λ(cW,cX,cY,_)=>bif(decide (cW>0))then((fU cG 3).bind λ_=>
(fU cG 3).bind λ_=>let c9:=cG.modify 3 λe=>(0,e.2);bif(cH != 3)then(some (cX,cY,bP,bQ,bR,bS,bT,bU,bV,bW,bY,bZ,b8,b9,cb,cd,cf,cg,ch,ci,cj,cn,cq,cr,cu,cw,cx,cy,cz,cD,cE,cF,c9,cH,cI,cJ,cK,cL,cM,cN,cO,cP,cQ,cR,cS,cT,3,cV,()))else some (cX,cY,bP,bQ,bR,bS,bT,bU,bV,bW,bY,bZ,b8,b9,cb,cd,cf,cg,ch,ci,cj,cn,cq,cr,cu,cw,cx,cy,cz,cD,cE,cF,c9,cH,cI,cJ,cK,cL,cM,cN,cO,cP,cQ,cR,cS,cT,cU,cV,()))else some (cX,cY,bP,bQ,bR,bS,bT,bU,bV,bW,bY,bZ,b8,b9,cb,cd,cf,cg,ch,ci,cj,cn,cq,cr,cu,cw,cx,cy,cz,cD,cE,cF,cG,cH,cI,cJ,cK,cL,cM,cN,cO,cP,cQ,cR,cS,cT,cU,cV,()))else some (bN,bO,bP,bQ,bR,bS,bT,bU,bV,bW,bY,bZ,b8,b9,cb,cd,cf,cg,ch,ci,cj,cn,cq,cr,cu,cw,cx,cy,cz,cD,cE,cF,cG,cH,cI,cJ,cK,cL,cM,cN,cO,cP,cQ,cR,cS,cT,cU,cV,()):Option (T49)).bind λ(cW,cX,_,_,_,_,_,_,_,_,_,_,_,_,_,_,_,_,_,_,_,_,_,_,_,dG,dH,dI,dJ,dK,dL,dM,dN,dO,dP,dQ,dR,dS,dT,dU,dV,dW,dX,dY,dZ,ee,ef,ej,_)=>some (dG,dH,dI,dJ,dK,dL,dM,dN,dO,dP,dQ,dR,dS,dT,dU,dV,dW,dX,dY,dZ,ee,ef,ej,cW,cX,())
def Cv:X.Cfg:=⟨E0,[wP,wM,yL,hJ,jK],[],[(lx 5 0 (zl [0,2,3,4,5,6,7,8]++[Uaa 9]) [(2,uab),(6,yad),(8,Zab),(10,yae),(12,Uad),(14,yab),(16,Xaf),(18,zag)] 28),⟨16,1,qE,[(.normal,(qS zay Xao))]⟩,⟨13,2,(qS zay Xao),[(.exit 2,(qS (zl [0,2,3,4,5,6,7,8,10]++(42,.pk ⟨18,6,[]⟩ [0,0])::il [43,44]++[Xaa 45]) Xao))]⟩,⟨20,3,qE,[(.normal,qS (zl [0,2,3,4,5,6,7,8,10]) Xao)]⟩]⟩
def vh:Ctr:=⟨9,121,[.ptr ⟨2,0,[]⟩ [0]],[(2,uab)],[⟨uL [gS,RI,(yaa RW),RI,CW,ig,i8,oQ,I64,I64,I64,I64,I64,I64,gk,gk,CB,CW,I64,I64,gk,I64,.bool],[.agg 3,.agg 5,.agg 8,.agg 7],[(2,uab)]⟩],ap2 kZ⟩
theorem Ca:Lk 11 vh:=ls Cv (aC DA (aC Dx (aC FH (aC ie (aC li aN)))))
def yW:T0K->Option (T0K⊕((Bool×Unit)⊕(LI×T0I))):=λ(v0,v1,v2,v3,_)=>bif(decide (v3<v2))then((gj v3).bind λx0=>
(fU v1 x0).bind λx1=>bif(decide (x1<1))then(some (.inr (.inl (false,()))))else bif(decide (x1>32))then(some (.inr (.inl (false,()))))else let x2:=w64 (v3+1);some (.inl (v0,v1,v2,x2,())))else some (.inr (.inr (v0,v1,v2,v3,false,())))
def lM(a0:LI):f_:=let x0:=f6 a0.length;
(match gc yW NN (a0,a0,x0,0,())with
|none=>none
|some (.inl (x1,_))=>some (x1,())
|some (.inr (x1,_))=>let x6:=f6 x1.length;bif(decide (x6>=1))then(let x7:Int:=(f6 x1.length);some ((decide (x7<=4)),()))else some (false,()))
def DF:X.Cfg:=⟨E0,[],[],[⟨3,0,qS Xav [],[(.ret,qS zat []),(.exit 0,qS Zav [])]⟩]⟩
def rJ:Ctr:=⟨110,122,uL [RI],[],[⟨zab,[.one],[]⟩],ap1 lM⟩
theorem wl:Lk 1 rJ:=ls DF aN
def rz(a0:Int):Option (T0u):=
(bif(a0==1)then(some (a0,true,false,false,false,false,()))else bif(a0==15)then(some (a0,true,false,false,false,false,()))else bif(a0==19)then(some (a0,true,false,false,false,false,()))else bif(a0==20)then(some (a0,true,false,false,false,false,()))else some (a0,(a0==21),false,false,false,false,()):Option (Int×Bool×T0u)).bind λ(x0,x1,_)=>bif x1 then(some (true,false,false,true,()))else bif(x0==2)then(some (true,true,false,false,()))else bif(x0==16)then(some (true,true,false,true,()))else bif(x0==17)then(some (true,true,false,true,()))else bif(x0==18)then(some (false,false,false,true,()))else bif(x0==23)then(some (false,false,false,true,()))else bif(x0==22)then(some (true,false,false,false,()))else bif(x0==0)then(some (false,false,false,false,()))else bif(x0==24)then(some (false,false,false,false,()))else some (true,true,true,false,())
def DV:X.Cfg:=⟨E0,[],[],[⟨3,0,qE,[(.normal,qS [zaa 2,Uaa 3,Xaa 4] [(6,Xag)])]⟩]⟩
def wH:Ctr:=⟨161,123,yac,[],[⟨Xag,[.agg 4],[]⟩],ap1 rz⟩
theorem Dt:Lk 1 wH:=ls DV aN
def i4(a0:Bool)(a1 a2:Int):f_:=bif(a1==0)then(some (true,()))else bif a0 then(bif(decide (a1>0))then(some ((decide (a1<=a2)),()))else some (false,()))else some (false,())
def Cw:X.Cfg:=⟨E0,[],[],[]⟩
def vi:Ctr:=⟨162,124,uL [.bool,I64,I64],[],[⟨zab,[.one],[]⟩],ap3 i4⟩
theorem Cb:Lk 1 vi:=ls Cw aN
def ni(a0:Int):f_:=bif(a0==18)then(some (true,()))else bif(a0==19)then(some (true,()))else bif(a0==20)then(some (true,()))else some ((a0==21),())
def Gz:X.Cfg:=⟨E0,[],[],[]⟩
def tw:Ctr:=⟨140,125,yac,[],[⟨zab,[.one],[]⟩],ap1 ni⟩
theorem xV:Lk 1 tw:=ls Gz aN
def q8(a0:Int):h_:=
(ni a0).bind λ(x0,_)=>bif x0 then(some (63,()))else bif(a0==15)then(some (3,()))else bif(a0==23)then(some (15,()))else some (65535,())
def I2:X.Cfg:=⟨E0,[tw],[],[]⟩
def AF:Ctr:=⟨163,126,yac,[],[⟨yac,[.one],[]⟩],ap1 q8⟩
theorem Ij:Lk 2 AF:=ls I2 (aC xV aN)
def py(a0 a1 a2 a3 a4:Int):f_:=bif(decide (a0<0))then(some (false,()))else bif(decide (a0>24))then(some (false,()))else
(rz a0).bind λ(x0,x1,x2,x3,_)=>
(i4 x0 a1 7).bind λ(x4,_)=>bif x4 then((i4 x1 a2 7).bind λ(x5,_)=>bif x5 then((i4 x2 a3 7).bind λ(x6,_)=>bif x6 then((q8 a0).bind λ(x7,_)=>
(i4 x3 a4 x7).bind λ(x8,_)=>some (x8,()))else some (false,()))else some (false,()))else some (false,())
def Gy:X.Cfg:=⟨E0,[wH,vi,AF],[],[]⟩
def yH:Ctr:=⟨139,127,[.agg zae],[],[⟨zab,[.one],[]⟩],ap5 py⟩
theorem FD:Lk 3 yH:=ls Gy (aC Dt (aC Cb (aC Ij aN)))
end
end Go.Proofs.YtabfnmgabblofaaGreat
