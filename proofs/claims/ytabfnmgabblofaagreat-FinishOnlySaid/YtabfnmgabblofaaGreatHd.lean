/- Part of the proof; no condition. -/
import Derived.Test.YtabfnmgabblofaaGreatHc
import Derived.Test.YtabfnmgabblofaaGreatProg
import Derived.KernelRfl
set_option linter.unusedVariables false
set_option linter.unusedSimpArgs false
namespace Go.Proofs.YtabfnmgabblofaaGreat
open Go.RowKit
section
variable {α β γ δ Y:Type}
theorem QU{F:iJ}{C:X.Cfg}(Y0:∀c∈C.TB,za F c)(u:HL den []):∀(ops:List lN){σ:XS den}{k:Unit->XS den->Option Y}{y:Y},X.spOps f6 C u ops σ k=some y->∃ σ',xO (evCall C.E F) ops (erS σ)=some (erS σ')/\k () σ'=some y:=by intro ops;induction ops with|nil=>intro σ k y h;exact⟨σ,rfl,h⟩|cons o ops ih=>intro σ k y h;have ⟨a,σ1,r1,_,h1⟩:=Ly Y0 u o σ _ y h;have ⟨σ',r2,h2⟩:=ih h1;refine⟨σ',?_,h2⟩;simp[xO];rw[Lv r1];exact r2
def L7(f g:wg):Prop:=(∀x∈f.1,x∈g.1)/\∀x∈f.2,x∈g.2
inductive U5:List (Nat×wg)->List (Nat×wg)->Prop
 |nil:U5 [] []
 |cons {i:Nat} {f g:wg} {l r:List (Nat×wg)} (h:L7 f g) (t:U5 l r):U5 ((i,f)::l) ((i,g)::r)
theorem xU{a a' b b':List Loc}(ha:∀x∈a,x∈a')(hb:∀x∈b,x∈b')(h:Na a' b'=false):Na a b=false:=by unfold Na at h⊢;simp_all
theorem NJ{f f' g g':wg}(h1:L7 f f')(h2:L7 g g')(h:tC f' g'=false):tC f g=false:=by unfold tC at h⊢;simp at h⊢;have ⟨⟨⟨a,b⟩,c⟩,d⟩:=h;exact⟨⟨⟨xU h1.2 h2.1 a,xU h1.2 h2.2 b⟩,xU h2.2 h1.1 c⟩,xU h2.2 h1.2 d⟩
theorem Pp{deps:k_}{j:Nat}{f f':wg}(hf:L7 f f'){l r:List (Nat×wg)}(h:U5 l r):(r.all λy=>!tC f' y.2||(deps.getD y.1 []).contains j)=true->(l.all λy=>!tC f y.2||(deps.getD y.1 []).contains j)=true:=by induction h with|nil=>exact id|cons h t ih=>intro hr;simp only[List.all_cons,oBA]at hr⊢;refine⟨?_,ih hr.2⟩;simp at hr⊢;rcases hr.1 with h3|h3;exact .inl (NJ hf h h3);simp_all
theorem H6{deps:k_}{l r:List (Nat×wg)}(h:U5 l r):lL deps r=true->lL deps l=true:=by induction h with|nil=>exact id|cons h t ih=>intro hr;simp only[lL,oBA]at hr⊢;exact⟨Pp h t hr.1,ih hr.2⟩
theorem Tv{F:iJ}{C:X.Cfg}(Y0:∀c∈C.TB,za F c)(u:HL den [])(ops:List lN):∀(L:N_){σ:XS den}{k:List (Nat×wg)->XS den->Option Y}{y:Y},X.spFL f6 C u ops L σ k=some y ->∃fs gs σ',wh (λi=>spOp (evCall C.E F) (ops.getD i J0)) L (erS σ)=some (fs,erS σ')/\U5 fs gs/\k gs σ'=some y:=by intro L;induction L with|nil=>intro σ k y h;exact⟨[],[],σ,rfl,.nil,h⟩|cons i L ih=>intro σ k y h;have ⟨a,σ1,r1,n1,h1⟩:=Ly Y0 u _ _ _ y h;have r1:(spOp (evCall C.E F) (ops.getD i J0)).run (erS σ)=some (a,erS σ1):=r1;have ⟨fs,gs,σ',r2,le,h2⟩:=ih h1;refine⟨(i,(spOp (evCall C.E F) (ops.getD i J0)).foot (erS σ))::fs,(i,σ1.lg)::gs,σ',?_,.cons ⟨n1.r,n1.w⟩ le,h2⟩;simp[wh];simp_all
theorem zt(L:N_)(σ:XS den){t:XV den}(h:X.okN0 t=true):er (X.renorm0 L σ t)=renorm0 L (erS σ) (er t):=by
 cases t with
 |d t x=>cases t with
  |row o t=>cases o<;>first|rfl|simp[X.okN0]at h
  |nilr o=>cases o<;>rfl|nat=>simp[X.okN0]at h|pair a b=>simp[X.okN0]at h|_=>rfl
 |ptr p vs=>show er (if _ then _ else _)=(if _ then _ else _);by_cases hc:(L.contains p.root&&vs==lP (nW σ.vr) p.root p.off p.hops.length)=true;rw[oIP hc,oIP (by exact hc)];rfl;rw[oIN hc,oIN (by exact hc)];rfl|pk p vs=>show er (if _ then _ else _)=(if _ then _ else _);by_cases hc:(L.contains p.root&&vs==lP (nW σ.vr) p.root p.off (p.hops.length+1))=true;rw[oIP hc,oIP (by exact hc)];rfl;rw[oIN hc,oIN (by exact hc)];rfl|pw p vs sz lo n=>show er (if _ then _ else _)=(if _ then _ else _);by_cases hc:(L.contains p.root&&vs==lP (nW σ.vr) p.root p.off (p.hops.length+1))=true;rw[oIP hc,oIP (by exact hc)];rfl;rw[oIN hc,oIN (by exact hc)];rfl|tup l=>cases l<;>rfl|gap=>simp[X.okN0]at h|half=>simp[X.okN0]at h|_=>rfl
theorem O0(L:N_)(σ:XS den){t:XV den}(h:X.okN t=true):er (X.renorm L σ t)=renorm L (erS σ) (er t):=by
 have key:X.okN0 t=true->er (X.renorm0 L σ t)=renorm0 L (erS σ) (er t):=λh=>zt L σ h;cases t with
 |agg l=>simp only[X.renorm,er,renorm,lr,oPM];congr 1;refine List.map_congr_left λx hx=>zt L σ (oAE.1 h x hx)|fn f l=>simp only[X.renorm,er,renorm,lr,oPM];congr 1;refine List.map_congr_left λx hx=>zt L σ (oAE.1 h x hx)|d t x=>have:=key h;cases t with|row o t=>cases o<;>exact this|nilr o=>cases o<;>exact this|_=>exact this
 |_=>exact key h
theorem SG{α:Type}{P:α->Bool}:∀{l:List (Nat×α)}{i:Nat}{t:α},(l.all λx=>P x.2)=true->gI l i=some t->P t=true:=by intro l;induction l with|nil=>intro i t _ h;simp[gI]at h|cons x l ih=>intro i t ha h;simp only[List.all_cons,oBA]at ha;simp[gI]at h;split at h;simp_all;exact ih ha.2 h
theorem RE(L:N_)(σ:XS den)(hok:X.okS σ=true):∀l:N_,(X.normT L σ l).map (λx=>(x.1,er x.2))=normT L (erS σ) l:=by intro l;induction l with|nil=>rfl|cons i l ih=>simp[X.normT,normT];have e:gI (erS σ).tm i=(gI σ.tm i).map er:=BF _ _ _;rw[e];cases h:gI σ.tm i with|none=>exact ih|some t=>have ht:=SG hok h;simp only[oMS,oPC];rw[O0 L σ ht,ih]
theorem RF(σ:XS den):∀l:N_,erC (X.normC σ l)=normC (erS σ) l:=by intro l;induction l with|nil=>rfl|cons r l ih=>simp[X.normC,normC];rw[As];cases h:gI σ.ce r with|none=>exact ih|some c=>simp;show(r,erL c)::erC _=_;rw[ih]
theorem Fp{σ:XS den}(hok:X.okS σ=true)(pers:Prs):erS (X.norm σ pers)=(erS σ).norm pers:=by show(⟨(X.normT pers.2 σ pers.1).map _,erC (X.normC σ pers.2),sat pers.2 σ.vr σ.vr⟩:St)=_;rw[RE _ σ hok,RF];rfl
theorem Ll{σ:XS den}(hok:X.okS σ=true):erS (X.anew σ)=(erS σ).anew:=by unfold X.anew St.anew;rw[Fp hok];congr 1;congr 1;show _=(σ.tm.map λx=>(x.1,er x.2)).map (·.1);simp_all;show _=(erC σ.ce).map (·.1);unfold erC;simp_all
theorem Vj(p:XP den)(off:Nat):erP (X.shq f6 p off)=shq (erP p) off:=by unfold X.shq shq;split;exact K2 p off;rfl
theorem QY(x:Nat×x_):Sim (Y:=Y) (X.shr1 f6 x) (shr1 x) id:=by
 obtain⟨i,off⟩:=x;refine Sim.rdT λt=>?_;cases off with
 |none=>cases t with
  |pk p vs=>refine(kx false (.pk p vs)).bind λt'=>Sim.opt λt2 h2=>?_;rw[<- Cp h2];exact BR i t2|d t y=>cases t with|row o t=>cases o<;>exact .ret rfl|nilr o=>cases o<;>exact .ret rfl|_=>exact .ret rfl
  |agg l=>exact Sim.ite (λ_=>.fail) λ_=>.ret rfl|_=>exact .fail
 |some off=>cases t with
  |ptr p vs=>
  refine(i5 p _ vs).bind λ_=>Sim.ite (λh=>?_) λ_=>.fail;rw[oIP (by rw[<- G6];exact h),<- Vj];refine(lW _).bind λt=>Sim.ite (λho=>?_) λho=>?_;obtain⟨c,hc⟩:=pY ho;have hpk:=nG (Y:=Y) (X.shq f6 p off) t;rw[hc]at hpk;rw[hc];exact hpk.bind λt'=>(kx false t').bind λ_=>.ret rfl;cases t with
   |d t y=>
   cases t with
    |row o t=>cases o<;>first|exact .ret rfl|simp[X.isOwX,X.isOwT]at ho
    |nilr o=>cases o<;>first|exact .ret rfl|simp[X.isOwX,X.isOwT]at ho
    |_=>exact .ret rfl
   |_=>exact .fail
  |d t y=>cases t with|row o t=>cases o<;>exact .fail|nilr o=>cases o<;>exact .fail|_=>exact .fail
  |_=>exact .fail
theorem Lz:∀l:a_,Sim (Y:=Y) (X.shrs f6 l) (shrs l) id:=by intro l;induction l with|nil=>exact .ret rfl|cons x l ih=>exact(QY x).bind λ_=>ih
theorem R4{n:Nat}{t:XV den}{k:XV den->Option Y}{y:Y}(h:X.halfX f6 n t k=some y):∃t',er t'=er t/\k t'=some y:=by
 unfold X.halfX at h;split at h;rename_i t xs;split at h;rename_i hs;split at h;rename_i hc;refine⟨_,?_,h⟩;have h':=iF (Ob t);show TV.ow (lM (X.upT t) 0 (cast (iF hs) xs))=.ow (List.map (enc t) xs);have e:(cast (iF hs) xs:List (den (X.upT t)))=List.map (cast h') (xs:List (den t)):=Hh h' _ xs;rw[e,Nq,oPM];congr 1;exact List.map_congr_left λx _=>UA hc.2 h' x;cases h;cases h;rename_i t xs m;split at h;have h2:f6.br (Nat.beq m (List.length xs)) _ none=some y:=h;cases hc:Nat.beq m (List.length xs)with|false=>rw[hc]at h2;cases h2|true=>rw[hc]at h2;have e:=Nat.eq_of_beq_eq_true hc;subst e;refine⟨_,?_,h2⟩;show TV.ow (List.map (enc t) xs)=.ow (lM t (List.length xs) xs);rw[P1]
 cases h;split at h;grind;cases h;cases h
theorem Rc(r o n:Nat):Sim (Y:=Y) (X.halfM f6 r o n) (.ret ()) id:=by
 intro σ k y hk;unfold X.halfM at hk;split at hk;case h_2=>cases hk
 rename_i l hl;split at hk;case isFalse=>cases hk
 have ⟨t',e,hk⟩:=R4 hk;refine⟨(),⟨σ.tm,iW σ.ce r (l.set o t'),σ.vr,σ.lg⟩,?_,⟨λx h=>by simp[SP.foot]at h,λx h=>by simp[SP.foot]at h,λ_ h=>h,λ_ h=>h⟩,hk⟩;show some ((),erS σ)=some ((),_);congr 2;unfold erS erC;congr 1;rw[<- rO,xy,e,yn];have hs:(erL l).set o ((erL l).getD o .dead)=erL l:=by
  apply oEG;intro j;rw[List.getElem?_set];split
  ·rename_i h;split
   all_goals simp_all
  rfl
 rw[hs];exact(Dj (by show gI (erC σ.ce) r=some (erL l);have:=As;rw[show erC σ.ce=(erS σ).ce from rfl,this,hl];rfl)).symm
theorem TG(i n:Nat):Sim (Y:=Y) (X.frzM f6 i n) (VM i n) id:=by refine Sim.ite (λh=>?_) λh=>?_;unfold VM;rw[oIP h];refine Sim.ite (λ_=>?_) λ_=>Rc _ _ n;intro σ k y hk;unfold X.ownM at hk;split at hk;split at hk;exact⟨(),σ,rfl,sC.refl σ,hk⟩;cases hk;cases hk;exact .fail
theorem TS{i:Nat}{σ:XS den}{u:HL den []}:∀{L:List JW}{H:JW}{h:HL den (lvS H.s)},X.selH f6 i σ u L=some ⟨H,h⟩->X.convS f6 H.s σ u=some h:=by intro L;induction L with|nil=>intro H h hs;cases hs|cons H0 L ih=>intro H h hs;unfold X.selH at hs;grind
theorem EL{Z:Type}{outs:List (nY×Shs)}{i:Nat}{h:HL den (Fo (outs.map λx=>lvS x.2) i)}{o:E1 (outs.map λx=>lvS x.2)}{x:nY×XS den}(K:nY×XS den->Option Z)(hm:zB (outs.map λx=>lvS x.2) i h=some o)(hf:Ar outs i h=some x):(pj (outs.map λx=>lvS x.2) o λj ho=>X.onOut f6 (Ar outs j ho) K)=K x:=by rw[EM _ hm,hf];rfl
theorem Q1{F:iJ}{C:X.Cfg}(Y0:∀c∈C.TB,za F c)(u:HL den []){N:Nat}(hN:NN<=N):∀(tc:mb)(i:Nat){Y:Type}(σ:XS den)(k:nY->XS den->Option Y)(y:Y),X.runC f6 C u tc i σ k=some y->∃e σ',runC (evCall C.E F) N tc (erS σ)=some (e,erS σ')/\k e σ'=some y:=by
 intro tc;induction tc with
 |skip=>intro i Y σ k y h;exact⟨.normal,σ,rfl,h⟩|frz j n a ih=>intro i Y σ k y h;obtain⟨_,σ1,r1,_,h1⟩:=TG j n σ _ y h;split at h1;rename_i hok;obtain⟨e,σ2,r2,h2⟩:=ih _ _ k y h1;refine⟨e,σ2,?_,h2⟩;simp only[runC];rw[r1];simp only[oBS];rw[<- Ll hok];exact r2;cases h1|nrm pers=>intro i Y σ k y h;have h:(if X.okS σ then k .normal (X.norm σ pers)else none)=some y:=h;split at h;rename_i hok;exact⟨.normal,X.norm σ pers,by rw[Fp hok];rfl,h⟩;cases h|reg id draw ops pers=>intro i Y σ k y h;cases draw with|none=>have h:X.spOps f6 C u ops σ (λ_ σ'=>if X.okS σ' then k .normal (X.norm σ' pers)else none)=some y:=h;obtain⟨σ1,r1,h1⟩:=QU Y0 u ops h;split at h1;rename_i hok;refine⟨.normal,X.norm σ1 pers,?_,h1⟩;simp only[runC];rw[r1,Fp hok];rfl;cases h1|some deps=>obtain⟨fs,gs,σ1,r1,le,h1⟩:=Tv Y0 u ops _ h;split at h1;rename_i hok;simp only[oBA]at hok;rw[Kn]at hok;refine⟨.normal,X.norm σ1 pers,?_,h1⟩;simp only[runC];rw[r1,Fp hok.2];simp only[oBS];rw[oIP (H6 le hok.1)];cases h1
 |seq a b ZI ZF=>
 intro i Y σ k y h;have ZV:∀(e:nY)(σ1:XS den),runC (evCall C.E F) N a (erS σ)=some (e,erS σ1)->(match e with|.normal=>X.runC f6 C u b (i+1+X.marks a) σ1 k|e=>k e σ1)=some y->∃e σ',runC (evCall C.E F) N (.seq a b) (erS σ)=some (e,erS σ')/\k e σ'=some y:=by intro e σ1 r1 h1;simp only[runC];rw[r1];simp only[oBS];cases e with|normal=>exact ZF _ σ1 k y h1|exit j=>exact⟨_,σ1,rfl,h1⟩|ret=>exact⟨_,σ1,rfl,h1⟩
 unfold X.runC at h;cases hs:X.selJ i C.HL with|none=>rw[hs]at h;obtain⟨e,σ1,r1,h1⟩:=ZI _ σ _ y h;exact ZV e σ1 r1 h1|some H=>rw[hs]at h;obtain⟨o,h1,h2⟩:=gi (show(X.runC f6 C u a (i+1) σ _:Option _).bind _=some y from h);obtain⟨e,σ1,r1,h3⟩:=ZI _ σ _ o h1;cases hi:X.injE f6 e σ1 u H.outs with|none=>rw[hi]at h3;cases h3|some x=>rw[hi]at h3;obtain⟨j,ho⟩:=x;have h3:zB (H.outs.map λx=>lvS x.2) j ho=some o:=h3;obtain⟨x,hf,he,hσ⟩:=PV hi;rw[EL _ h3 hf]at h2;rw[<- hσ]at r1;rw[<- he]at r1;exact ZV x.1 x.2 r1 h2
 |cond c a b ZI ZF=>
 intro i Y σ k y h;obtain⟨t,σ1,r1,e1,_,h1⟩:=Bq h;cases t with
  |d t x=>cases t with
   |bool=>
   have hkn:erS (X.knownO f6 c x σ)=erS σ:=by
    cases c with
    |t j=>
    have hj:X.tOf σ j=.d .bool x:=by
     have h9:X.condX f6 (X.runC f6 C u a i (X.knownO f6 (.t j) true σ) k) (X.runC f6 C u b (i+X.marks a) (X.knownO f6 (.t j) false σ) k) (X.tOf σ j)=some y:=h;have r1:(some ((erS σ).t j,erS σ):Option (TV×St))=some (er (.d .bool x),erS σ):=r1;injection r1 with r1
     injection r1 with r1 _
     rw[Sm]at r1;cases ht:X.tOf σ j with
     |d t2 z=>cases t2 with
      |bool=>rw[ht]at r1;injection r1 with r1;injection r1 with r1;rw[show z=x from r1]
      |_=>rw[ht]at h9;cases h9
     |_=>rw[ht]at h9;cases h9
    exact LX hj
    |_=>rfl
   have r1:(opd c).run (erS σ)=some (.v (.bool x),erS σ):=r1;simp only[runC];rw[r1];simp only[oBS];cases x with|true=>rw[<- hkn];exact ZI _ _ k y h1|false=>rw[<- hkn];exact ZF _ _ k y h1
   |_=>cases h1
  |_=>cases h1
 |block id b ih=>intro i Y σ k y h;unfold X.runC at h;obtain⟨e,σ1,r1,h1⟩:=ih _ σ _ y h;simp only[runC];rw[r1];simp only[oBS];grind|loop b ih=>
 intro i Y σ k y h;unfold X.runC at h;cases hs:X.selH f6 i σ u C.HL with
  |none=>rw[hs]at h;cases h|some x=>
  obtain⟨H,h0⟩:=x;rw[hs]at h;have hconv:=Ha (TS hs);obtain⟨o,h1,h2⟩:=gi (show(gd _ NN h0).bind _=some y from h);have key:∀(n:Nat)(hd:HL den (lvS H.s))(o:E1 (H.outs.map λx=>lvS x.2)),gd (λh=>X.runC f6 C u b (i+1) (K0 H.s h) (X.roundK f6 H u)) n hd=some o->∀N',n<=N'->∃x j ho,Uq (runC (evCall C.E F) N b) N' (erS (K0 H.s hd))=some (x.1,erS x.2)/\zB (H.outs.map λx=>lvS x.2) j ho=some o/\Ar H.outs j ho=some x:=by
   intro n;induction n with
   |zero=>intro hd o h;cases h|succ n ihn=>
   intro hd o h N' hle;obtain⟨N',rfl⟩:∃N'',N'=N''+1:=⟨N'-1,by omega⟩;obtain⟨z,hz,W'⟩:=gi (show(X.runC f6 C u b (i+1) (K0 H.s hd) _:Option _).bind _=some o from h);obtain⟨e,σ1,r1,h3⟩:=ih _ _ _ z hz;simp only[Uq];rw[r1];simp only[oBS];have Y8:∀e':nY,(∀s:Option (HL den (lvS H.s)⊕E1 (H.outs.map λx=>lvS x.2)),s=some z->s=X.onOut f6 (X.injE f6 e' σ1 u H.outs) (λx=>f6.exitL (lvS H.s) (H.outs.map λx=>lvS x.2) x.1 x.2)->∃x j ho,(some (e',erS σ1):Option (nY×St))=some (x.1,erS x.2)/\zB (H.outs.map λx=>lvS x.2) j ho=some o/\Ar H.outs j ho=some x):=by intro e' s hs1 YY;rw[hs1]at YY;cases hi:X.injE f6 e' σ1 u H.outs with|none=>rw[hi]at YY;cases YY|some x=>rw[hi]at YY;obtain⟨j,ho⟩:=x;obtain⟨t,Yl,YT⟩:=kU (show(zB (H.outs.map λx=>lvS x.2) j ho).map Sum.inr=some z from YY.symm);subst YT;obtain⟨x,hf,he,hσ⟩:=PV hi;refine⟨x,j,ho,by rw[he,hσ],?_,hf⟩;have:some t=some o:=W';rw[<- this];exact Yl
   cases e with
   |normal=>
   have h3:X.onOut f6 (X.convS f6 H.s σ1 u) (f6.next (lvS H.s) (H.outs.map λx=>lvS x.2))=some z:=h3;cases hc:X.convS f6 H.s σ1 u with
    |none=>rw[hc]at h3;cases h3|some h'=>
    rw[hc]at h3;have h3:some (Sum.inl h')=some z:=h3;injection h3 with h3
    subst h3;rw[<- Ha hc];exact ihn h' o W' N' (by omega)
   |exit j=>exact Y8 (.exit j) _ h3 rfl|ret=>exact Y8 .ret _ h3 rfl
  obtain⟨x,j,ho,r1,hm,hf⟩:=key NN h0 o h1 N hN;rw[EL _ hm hf]at h2;refine⟨x.1,x.2,?_,h2⟩;simp only[runC];rw[<- hconv];exact r1
 |exit id=>intro i Y σ k y h;exact⟨.exit id,σ,rfl,h⟩|ret=>intro i Y σ k y h;exact⟨.ret,σ,rfl,h⟩|pre l a ih=>intro i Y σ k y h;obtain⟨_,σ1,r1,_,h1⟩:=Lz l σ _ y h;split at h1;rename_i hok;obtain⟨e,σ2,r2,h2⟩:=ih _ _ k y h1;refine⟨e,σ2,?_,h2⟩;simp only[runC];rw[r1];simp only[oBS];rw[<- Ll hok];exact r2;cases h1|post a l ih=>intro i Y σ k y h;obtain⟨e,σ1,r1,h1⟩:=ih _ _ _ y h;obtain⟨_,σ2,r2,_,h2⟩:=Lz l σ1 _ y h1;split at h2;rename_i hok;refine⟨e,X.anew σ2,?_,h2⟩;simp only[runC];rw[r1];simp only[oBS];rw[r2];simp only[oBS];rw[Ll hok];cases h2
end
section
variable {α β γ δ Y:Type}
theorem Ex(np:Nat)(t:XV den):Sim (Y:=Y) (X.takeR1 f6 np t) (takeR1 np (er t)) er:=by
 have key:Sim (Y:=Y) (X.take1 f6 true t) (take1 true (er t)) er:=kx true t;cases t with
 |pk p vs=>exact kx _ (.pk p vs)|d t y=>cases t with|row o t=>cases o<;>exact key|nilr o=>cases o<;>exact key|_=>exact key
 |_=>exact key
theorem MA(np:Nat):∀l:List (XV den),Sim (Y:=Y) (X.takeRL f6 np l) (takeRL np (erL l)) erL:=by intro l;induction l with|nil=>exact .ret rfl|cons t l ih=>exact(Ex np t).bind λt'=>ih.bind λr'=>.ret rfl
theorem zi(np:Nat)(t:XV den):Sim (Y:=Y) (X.takeRV f6 np t) (takeRV np (er t)) λx=>(erL x.1,x.2):=by
 have one:∀t:XV den,Sim (Y:=Y) (X.bind (X.takeR1 f6 np t) λt'=>X.ret ([t'],RSh.one)) ((takeR1 np (er t)).bind λt'=>.ret ([t'],.one)) λx=>(erL x.1,x.2):=λt=>(Ex np t).bind λt'=>.ret rfl;have key:=one t;cases t with
 |agg l=>exact(MA np l).bind λl'=>.ret (by simp[iV])|d t y=>cases t with|row o t=>cases o<;>exact key|nilr o=>cases o<;>exact key|_=>exact key
 |_=>exact key
theorem Q4(np:Nat)(q:TRs):Sim (Y:=Y) (X.res1 f6 np q) (res1 np q) λx=>(erL x.1,x.2):=by
 cases q with
 |tmp t=>exact Sim.rdT λtv=>zi np tv|cell t n=>
 refine Sim.rdT λtv=>?_;cases tv with
 |ptr p vs=>refine(i5 p _ vs).bind λ_=>?_;cases n with|none=>exact(lW p).bind λt=>(nG p t).bind λt'=>zi np t'|some n=>exact(HI p n).bind λl=>zi np (.agg l)
 |d t y=>cases t with|row o t=>cases o<;>exact .fail|nilr o=>cases o<;>exact .fail|_=>exact .fail
 |_=>exact .fail
theorem Q2(np:Nat):∀l:Q_,Sim (Y:=Y) (X.resL f6 np l) (resL np l) λx=>(erL x.1,x.2):=by intro l;induction l with|nil=>exact .ret rfl|cons q l ih=>exact(Q4 np q).bind λx=>ih.bind λy=>.ret (by simp[sq])
theorem Pq(l:List (XV den)):onesOf (erL l)=X.onesOf l:=by induction l with|nil=>rfl|cons t l ih=>simp[erL,onesOf,X.onesOf,ih]
theorem MF:∀l:Q_,Sim (Y:=Y) (X.flatsR f6 l) (flatsR l) erL:=by
 intro l;induction l with
 |nil=>exact .ret rfl|cons q l ih=>cases q with
  |cell t n=>exact .fail|tmp t=>
  refine Sim.rdT λtv=>Sim.ite (λhc=>?_) λ_=>.fail;have h1:F3 (er tv)=true:=by have:=Ma (l:=[tv]) (by simp_all);simpa[erL]using this
  rw[oIP h1];exact ih.bind λl=>.ret rfl
theorem Q3(np:Nat)(l:Q_):Sim (Y:=Y) (X.resF f6 np l) (resF np l) λx=>(erL x.1,x.2):=by
 have base:=Q2 (Y:=Y) np l;cases l with
 |nil=>exact base|cons q r=>cases q with
  |cell t n=>exact base|tmp t=>
  refine Sim.rdT λtv=>?_;cases tv with
  |ptr p vs=>exact(i5 p _ vs).bind λ_=>(MF r).bind λl=>.ret (by simp[Pq];rfl)|d ty y=>cases ty with|row o ty=>cases o<;>exact base|nilr o=>cases o<;>exact base|_=>exact base
  |_=>exact base
theorem PO(t:XV den):(∃p vs,t=.ptr p vs)\/(X.isPtrX t=false/\∀p vs,er t≠.ptr p vs):=by
 cases t with
 |ptr p vs=>exact .inl ⟨p,vs,rfl⟩|d t y=>cases t with|row o t=>cases o<;>exact .inr ⟨rfl,by simp[er,er1]⟩|nilr o=>cases o<;>exact .inr ⟨rfl,by simp[er,er1]⟩|_=>exact .inr ⟨rfl,by simp[er,er1]⟩
 |gap t x i o=>exact .inr ⟨rfl,λp vs h=>by cases h⟩|half t x m=>exact .inr ⟨rfl,λp vs h=>by cases h⟩|_=>exact .inr ⟨rfl,by simp[er]⟩
theorem RY{t:XV den}(h:X.isShX t=true):∃c,er t=.sl c:=by
 cases t with
 |d t y=>cases t with
  |row o t=>cases o with|false=>exact⟨_,rfl⟩|true=>cases h
  |nilr o=>cases o with|false=>exact⟨_,rfl⟩|true=>cases h
  |_=>cases h
 |_=>cases h
theorem MW{pp:N_}:∀{l:List (XV den)}{i:Nat},X.ptrsInX pp i l=true->rC pp i (erL l)=true:=by intro l;induction l with|nil=>intro i _;rfl|cons t l ih=>intro i h;simp only[X.ptrsInX,oBA]at h;have ⟨⟨h0,hs⟩,hr⟩:=h;rcases PO t with⟨p,vs,rfl⟩|⟨h1,h2⟩;show(pp.contains i&&rC pp (i+1) (erL l))=true;rw[ih hr,Bool.and_true];simpa[X.isPtrX]using h0;show rC pp i (er t::erL l)=true;rw[h1,Bool.false_or]at hs;cases hsh:X.isShX t with|true=>have ⟨c,hc⟩:=RY hsh;rw[hc];exact ih hr|false=>rw[hsh,Bool.false_or]at hs;cases he:er t with|ptr p vs=>simp_all|sl c=>exact ih hr|_=>show(!pp.contains (1000+i)&&rC pp (i+1) (erL l))=true;rw[hs,ih hr];rfl
theorem Ko(l:List (XV den)):∀i,(jp i l).map (λx=>(x.1,er x.2))=jp i (erL l):=by induction l with|nil=>intro i;rfl|cons t l ih=>intro i;simp[jp,erL,ih]
theorem Uh(kq:p_)(vals:List (XV den))(pts:List (Nat×List (XV den))):erS (X.mkSt kq vals pts)=Dt kq (erL vals) (erC pts):=by unfold X.mkSt Dt erS;simp only[Ko]
theorem Rt(σ:XS den)(pts:List (Nat×List (XV den))):erC (X.ptsOf σ pts)=(erC pts).map λx=>(x.1,(gI (erS σ).ce x.1).getD []):=by induction pts with|nil=>rfl|cons x pts ih=>show(x.1,erL ((gI σ.ce x.1).getD []))::erC (X.ptsOf σ pts)=(x.1,(gI (erS σ).ce x.1).getD [])::_;rw[ih,As];cases gI σ.ce x.1<;>rfl
theorem Qb(a b:List (Nat×List (XV den))):erC (a++b)=erC a++erC b:=by unfold erC;rw[List.map_append]
theorem VE(pp:N_):erC (X.kpX (D:=den) pp)=kpE pp:=by unfold erC X.kpX kpE;rw[oPM];rfl
theorem VF(kq:p_)(σ:XS den):erC (X.kcX kq σ)=kcE kq (erS σ):=by unfold erC X.kcX kcE;rw[oPM];refine List.map_congr_left λq _=>?_;show(q.1,erL (List.replicate (q.2+1) XV.dead))=_;rw[lr,List.map_replicate];rfl
theorem TY{F:iJ}{C:X.Cfg}(Y0:∀c∈C.TB,za F c)(u:HL den []){N:Nat}(hN:NN<=N){tf:TFn}{outs:List XO}{vals:List (XV den)}{pts:List (Nat×List (XV den))}{o:E1 (outs.map lvO)}(h:X.runT f6 C u tf outs vals pts=some o):∃x,pj (outs.map lvO) o (λi ho=>p6 outs i ho)=some x/\runT C.E F N tf (erL vals) (erC pts)=some (⟨erL x.1,x.2.1⟩,erC x.2.2):=by
 unfold X.runT at h;split at h;case isFalse=>cases h
 rename_i hc;obtain⟨e,σ1,r1,h1⟩:=Q1 Y0 u hN tf.body 0 _ _ o h;have key:X.resF f6 tf.np tf.res σ1 (λy σ'=>X.onOut f6 (X.injO f6 y.1 y.2 (X.ptsOf σ' pts++(X.kpX tf.pp++X.kcX (Kw tf.pp) σ')) u outs) λx=>f6.out (outs.map lvO) x.1 x.2)=some o ->∃x,pj (outs.map lvO) o (λi ho=>p6 outs i ho)=some x/\(((resF tf.np tf.res).run (erS σ1)).bind λy=>some ((⟨y.1.1,y.1.2⟩:Mq),((erC pts).map λx=>(x.1,(gI y.2.ce x.1).getD []))++(kpE tf.pp++kcE (Kw tf.pp) y.2)))=some (⟨erL x.1,x.2.1⟩,erC x.2.2):=by intro h2;obtain⟨y,σ2,r2,_,h3⟩:=Q3 tf.np tf.res σ1 _ o h2;cases hi:X.injO f6 y.1 y.2 (X.ptsOf σ2 pts++(X.kpX tf.pp++X.kcX (Kw tf.pp) σ2)) u outs with|none=>rw[hi]at h3;cases h3|some z=>rw[hi]at h3;obtain⟨i,ho⟩:=z;obtain⟨x,hf,e1,e2,e3⟩:=Us hi;refine⟨x,?_,?_⟩;rw[EM _ (show zB (outs.map lvO) i ho=some o from h3)];exact hf;rw[r2];simp only[oBS];rw[e1,e2,e3,Qb,Qb,Rt,VE,VF]
 have Z1:(erL vals).length=tf.np/\(rC tf.pp 0 (erL vals)&&(!tf.pp.contains 1000||(erC pts).isEmpty))=true:=by have h2:=hc.2;rw[oBA]at h2;refine⟨by rw[iV];exact hc.1,?_⟩;rw[MW h2.1,Bool.true_and];have h3:=h2.2;cases pts with|nil=>simp[erC]|cons x pts=>simpa[erC]using h3
 unfold runT;rw[oIP Z1,<- Uh,r1];simp only[oBS];cases e with|exit j=>cases h1|normal=>exact key h1|ret=>exact key h1
end
theorem Sp{E:Env}{T:FuncId->y_}{B F:iJ}{N:Nat}(hN:NN<=N){C:X.Cfg}(hE:C.E=E)(Y0:∀c∈C.TB,za F c){c:Ctr}{tf:TFn}(hT:T c.f=some tf) (hg:∀h,X.runT f6 C () tf c.outs (lY c.ins _ h).1 (yk c.pts [] (lY c.ins _ h).2).1=c.g h):za (Mz E T B F N) c:=by intro h o x ho hx;rw[My hT];rw[<- hg h]at ho;have ⟨x',h1,h2⟩:=TY Y0 () hN ho;simp_all
def Lvl(E:Env)(T:FuncId->y_)(B:iJ)(n:Nat)(c:Ctr):Prop:=∀k,n<=k->za (runF E T B (NN+k)) c
def Ms(E:Env)(T:FuncId->y_)(B:iJ)(n:Nat):B_->Prop| []=>True|c::r=>Lvl E T B n c/\Ms E T B n r
theorem Lvl.mono{E:Env}{T:FuncId->y_}{B:iJ}{n m:Nat}{c:Ctr}(h:Lvl E T B n c)(hm:n<=m):Lvl E T B m c:=λk hk=>h k (Nat.le_trans hm hk)
theorem Ms.get{E:Env}{T:FuncId->y_}{B:iJ}{n:Nat}:∀{l:B_},Ms E T B n l->∀c∈l,Lvl E T B n c:=by intro l;induction l with|nil=>simp_all|cons x l ih=>intro h c hc;rcases oMC.1 hc with rfl|hc;exact h.1;exact ih h.2 c hc
theorem Wr{E:Env}{T:FuncId->y_}{B:iJ}{n:Nat}{C:X.Cfg}(hE:C.E=E)(Y0:Ms E T B n C.TB){c:Ctr}{tf:TFn}(hT:T c.f=some tf) (hg:∀h,X.runT f6 C () tf c.outs (lY c.ins _ h).1 (yk c.pts [] (lY c.ins _ h).2).1=c.g h):Lvl E T B (n+1) c:=by intro k hk;obtain⟨k,rfl⟩:∃k',k=k'+1:=⟨k-1,by omega⟩;exact Sp (F:=runF E T B (NN+k)) (Nat.le_add_right _ _) hE (λc hc=>Y0.get c hc k (by omega)) hT hg
theorem NH{P:Program}{H:Nat->a_}{f:FuncId}{tf:TFn}(h:zN P H f=some tf):∃fn,P.funcs[f]?=some fn/\tf.np<=fn.params.size+fn.nfree/\tf.nt=fn.ntmps:=by
 unfold zN at h;split at h;case h_2=>simp at h
 split at h;case h_2=>simp at h
 split at h;rename_i tf' Y9;have ⟨_,g2,g3,_⟩:=Av Y9;simp_all;simp only at h;split at h;injection h with h
 subst h;simp_all;simp at h
theorem Ts{P:Program}(H:FuncId->Nat->a_)(ZN:(P.funcs.all λfn=>decide (fn.params.size+fn.nfree<=fn.ntmps) && !(fn.name== "runtime.NumGoroutine"))=true):Qw P λf=>zN P (H f) f:=by refine QQ λf tf h=>?_;have ⟨fn,hf,e1,e2⟩:=NH h;have ⟨hlt,he⟩:=Array.getElem?_eq_some_iff.1 hf;have:=Array.all_eq_true.1 ZN f hlt;rw[he]at this;simp at this;refine⟨⟨H f,h⟩,by omega,λfn' hf'=>?_⟩;simp_all
def W7:TFn:=⟨0,[],0,.skip,[]⟩
theorem Wy{o:y_}(h:o.isSome=true):o=some (o.getD W7):=by cases o with|none=>simp at h|some x=>rfl
def W6(P:Program)(f:FuncId):List x_:=match P.funcs[f]? with
 |some fn=>fn.params.toList.map λt=>match P.underlying t with|some (.pointer e)=>E5 P e|_=>none
 |none=>[]
def noB:iJ:=λ_ _ _=>none
theorem noB_ok{P:Program}:nU P noB:=λf vals pts res Zv h=>by simp[noB]at h
abbrev I64:CT:=.int .i64
def w64(x:Int):Int:=IntKind.wrap .i64 x
def wk(k:IntKind)(x:Int):Int:=IntKind.wrap k x
def BO(s:ByteArray):Int:=(s.size:Int)
def SY(s:ByteArray):Bool:=decide (s.size<4294967296)
def bytes(l:N_):ByteArray:=⟨(l.map UInt8.ofNat).toArray⟩
end Go.Proofs.YtabfnmgabblofaaGreat
namespace Go.Proofs.YtabfnmgabblofaaGreat
open Go.RowKit
set_option maxRecDepth 100000
noncomputable section
abbrev KCe:CT:=(.pair (.int .u8) (.int .u16))
abbrev KCn:CT:=(.pair (.int .u8) (.pair (.int .u16) (.pair I64 I64)))
abbrev KIn:CT:=(.pair I64 (.pair I64 (.pair I64 (.pair I64 I64))))
abbrev KOp:CT:=(.pair I64 (.pair I64 .bool))
abbrev W4:CT:=(.pair I64 (.pair .bool (.row false KCe)))
abbrev nX:CT:=(.pair I64 (.pair (.row false KCe) (.pair I64 (.pair I64 (.pair I64 (.pair I64 (.pair I64 (.int .u16))))))))
abbrev Xo:CT:=(.pair I64 (.pair I64 (.row false KCn)))
abbrev my:CT:=(.pair I64 (.pair I64 (.pair I64 (.pair I64 (.pair I64 (.pair I64 (.pair (.int .u16) (.row false KCn))))))))
abbrev qX:CT:=(.pair I64 (.pair I64 (.pair I64 (.pair I64 (.pair I64 (.pair I64 (.pair I64 (.pair I64 (.pair I64 (.pair (.row false KCn) (.pair (.row false KCn) (.pair (.int .u8) (.pair (.int .u16) (.pair I64 (.pair I64 (.pair (.row false KCn) (.pair I64 .bool)))))))))))))))))
abbrev SR:CT:=(.pair I64 (.pair .bool (.row true KCe)))
abbrev SQ:CT:=(.pair I64 (.pair (.row true KCe) (.pair I64 (.pair I64 (.pair I64 (.pair I64 (.pair I64 (.int .u16))))))))
abbrev JX:CT:=(.pair I64 (.pair I64 (.row true KCn)))
abbrev J1:CT:=(.pair I64 (.pair I64 (.pair I64 (.pair I64 (.pair I64 (.pair I64 (.pair (.int .u16) (.row true KCn))))))))
abbrev Qz:CT:=(.pair I64 (.pair I64 (.pair I64 (.pair I64 (.pair I64 (.pair I64 (.pair I64 (.pair I64 (.pair I64 (.pair (.row true KCn) (.pair (.row true KCn) (.pair (.int .u8) (.pair (.int .u16) (.pair I64 (.pair I64 (.pair (.row true KCn) (.pair I64 .bool)))))))))))))))))
abbrev gT:CT:=(.row false KIn)
abbrev gp:CT:=(.row false KCn)
abbrev RW:CT:=(.row false (.int .u16))
abbrev RI:CT:=(.row false I64)
abbrev gU:CT:=(.row false KCe)
abbrev iI:CT:=(.row false W4)
abbrev iG:CT:=(.row true SR)
abbrev mO:CT:=(.row false nX)
abbrev qR:CT:=(.row true SQ)
abbrev jt:CT:=(.row false KOp)
abbrev ly:CT:=(.row false Xo)
abbrev U2:CT:=(.row false qX)
abbrev DCe:Type:=(Int×Int)
abbrev DCn:Type:=(Int×Int×Int×Int)
abbrev DIn:Type:=(Int×Int×Int×Int×Int)
abbrev DOp:Type:=(Int×Int×Bool)
abbrev C_:=List DCe
abbrev DLn:Type:=(Int×Bool×C_)
abbrev DTh:Type:=(Int×C_×Int×Int×Int×Int×Int×Int)
abbrev D_:=List DCn
abbrev DOu:Type:=(Int×Int×D_)
abbrev DTs:Type:=(Int×Int×Int×Int×Int×Int×Int×D_)
abbrev DEn:Type:=(Int×Int×Int×Int×Int×Int×Int×Int×Int×D_×D_×Int×Int×Int×Int×D_×Int×Bool)
def HH(f i:Nat):a_:=if f=136 then(if i=1000011 then[(11,some 27)]else if i=1000005 then[(2,some 27)]else[])else if f=183 then(if i=1000006 then[(8,some 1)]else if i=1000014 then[(8,some 1)]else[])else if f=44 then(if i=5000001 then[(4004,none)]else[])else if f=68 then(if i=4000002 then[(3,some 1002)]else if i=4000007 then[(3,some 1003)]else[])else if f=137 then(if i=1000000 then[(8,some 1)]else[])else if f=106 then(if i=1000007 then[(17,some 1)]else[])else if f=4 then(if i=1 then[(10,some 1),(11,some 1)]else[])else if f=23 then(if i=4000002 then[(5,some 2004)]else if i=4000005 then[(5,some 2004)]else if i=0 then[(8,some 801004)]else[])else if f=122 then(if i=0 then[(8,none)]else[])else if f=92 then(if i=2 then[(3,some 1)]else if i=3 then[(3,some 0)]else[])else if f=129 then(if i=0 then[(8,some 0),(8,some 1),(8,some 2),(8,some 3),(8,some 4)]else[])else if f=38 then(if i=0 then[(4,some 0),(4,some 2),(4,some 3)]else[])else if f=93 then(if i=1000006 then[(5,some 1)]else if i=0 then[(6,some 0),(6,some 1),(6,some 2),(6,some 3),(6,some 5),(6,some 6)]else[])else if f=152 then(if i=2000067 then[(2,none),(4,none),(8,none),(11,none),(12,none),(0,some 10),(0,some 18),(0,some 24)]else if i=0 then[(8,some 0)]else[])else if f=134 then(if i=1000026 then[(2,some 1),(3,some 1)]else if i=1000012 then[(7,none)]else if i=0 then[(8,some 0)]else[])else if f=96 then(if i=6000000 then[(0,none)]else if i=1000011 then[(5,none)]else if i=1000014 then[(7,none)]else[])else if f=156 then(if i=3000008 then[(9,some 0),(9,some 1)]else if i=0 then[(6,some 0),(6,some 1)]else[])else if f=172 then(if i=0 then[(4,some 0),(4,some 1),(4,some 2),(4,some 3),(4,some 4),(4,some 5),(5,some 4)]else[])else if f=157 then(if i=0 then[(0,some 14),(0,some 15),(4,some 4)]else[])else if f=158 then(if i=4000002 then[(5,some 2004)]else if i=4000005 then[(5,some 2004)]else if i=0 then[(8,some 801004)]else if i=1000007 then[(17,none)]else[])else if f=159 then(if i=1000002 then[(9,none)]else[])else if f=160 then(if i=1000004 then[(4,some 2)]else if i=3 then[(6,some 0),(6,some 1)]else[])else if f=57 then(if i=1000006 then[(3,some 7)]else if i=4000009 then[(4,some 2007)]else if i=3000003 then[(4,some 801007)]else if i=1 then[(4,some 0),(4,some 1),(4,some 2),(4,some 3),(4,some 5),(4,some 6),(4,some 8),(4,some 9),(4,some 10),(4,some 11),(4,some 12),(4,some 13),(4,some 14),(4,some 15)]else[])else if f=13 then(if i=0 then[(6,some 0)]else[])else if f=24 then(if i=1000004 then[(3,some 7)]else if i=1000002 then[(3,some 1)]else if i=1000026 then[(4,some 1)]else if i=0 then[(3,some 801004),(3,some 2),(3,some 3)]else[])else if f=16 then(if i=1000012 then[(6,some 14),(13,some 1001011)]else if i=0 then[(8,some 4)]else if i=1000006 then[(11,none)]else[])else if f=22 then(if i=0 then[(8,some 4)]else if i=1000007 then[(11,none)]else[])else[]
noncomputable def TT (f:FuncId):y_:=zN Tryz.prog (HH f) f
noncomputable def E0:Env:={ box:=λf=>if f=8 then some (1,[.arg 0,.val (.int .i64 0)])else none,ps:=λf=>W6 Tryz.prog f }
theorem tt_ok:Qw Tryz.prog TT:=Ts HH (by kernel_rfl)
abbrev qE:Shs:=⟨[],[],[],([],[])⟩
abbrev qS(s:List (Nat×Sh))(c:List (Nat×T_)):Shs:=⟨s,c,[],([],[])⟩
abbrev N1:CT:=.nilr true
abbrev N0:CT:=.nilr false
abbrev CW:CT:=.int .u16
abbrev CB:CT:=.int .u8
abbrev uL(l:R_):T_:=l.map fun c=>.d c ()
abbrev pP(t r:Nat):Nat×Sh:=(t,.ptr ⟨r,0,[]⟩ [0])
abbrev sP(t:Nat)(c:CT):Nat×Sh:=(t,.d c ())
abbrev Lk(n:Nat)(c:Ctr):Prop:=Lvl E0 TT noB n c
theorem aN{m:Nat}:Ms E0 TT noB m []:=trivial
theorem aC{n m:Nat}{c:Ctr}{l:B_}(h:Lk n c)(r:Ms E0 TT noB m l)(hm:n≤m:=by decide):Ms E0 TT noB m (c::l):=⟨h.mono hm,r⟩
abbrev lx(i n:Nat)(s:List (Nat×Sh))(c:List (Nat×T_))(b:Nat):JW:=⟨i,n,⟨s,c,[],([],[])⟩,[(.exit 0,⟨s++[(b,.d .bool ())],c,[],([],[])⟩)]⟩
abbrev LI:Type:=M_
abbrev j_:=List M_
abbrev LLI:Type:=j_
abbrev LDCe:Type:=C_
abbrev LDCn:Type:=D_
abbrev F_:=List DIn
abbrev LDIn:Type:=F_
abbrev H_:=List DOp
abbrev LDOp:Type:=H_
abbrev G_:=List DLn
abbrev LDLn:Type:=G_
abbrev J_:=List DTh
abbrev LDTh:Type:=J_
abbrev I_:=List DOu
abbrev LDOu:Type:=I_
abbrev K_:=List DTs
abbrev LDTs:Type:=K_
abbrev E_:=List DEn
abbrev LDEn:Type:=E_
abbrev i_:=List D_
abbrev LLCn:Type:=i_
abbrev T00:=Bool×LI×Unit
abbrev T01:=Int×Bool×Unit
abbrev T02:=Int×Int×Unit
abbrev T03:=Int×LDCn×Unit
abbrev T04:=Int×LI×Unit
abbrev T05:=Int×LLCn×Unit
abbrev T06:=LDCe×LDLn×Unit
abbrev T07:=LDOp×LDCn×Unit
abbrev T08:=LI×Int×Unit
abbrev T09:=LI×LLI×Unit
abbrev T0a:=LLCn×LDOp×Unit
abbrev T0b:=LLCn×LDTs×Unit
abbrev T0c:=Unit×Unit×Unit
abbrev T0d:=Bool×T02
abbrev T0e:=Bool×T06
abbrev T0f:=Int×T01
abbrev T0g:=Int×T02
abbrev T0h:=Int×T05
abbrev T0i:=Int×T06
abbrev T0j:=Int×T08
abbrev T0k:=Int×T0c
abbrev T0l:=LDCe×T02
abbrev T0m:=LDCe×LDLn×Nat×Unit
abbrev T0n:=LDCn×T02
abbrev T0o:=LDIn×T09
abbrev T0p:=LDTh×T02
abbrev T0q:=LI×T02
abbrev T0r:=LI×T04
abbrev T0s:=LI×LLI×LI×Unit
abbrev T0t:=Unit×T0c
abbrev T0u:=Bool×Bool×Bool×Bool×Unit
abbrev T0v:=Int×T0d
abbrev T0w:=Int×T0e
abbrev T0x:=Int×Bool×T08
abbrev T0y:=Int×Int×Bool×LLCn×Unit
abbrev T0z:=Int×T0g
abbrev T0A:=Int×T0i
abbrev T0B:=Int×T0j
abbrev T0C:=Int×Int×T0a
abbrev T0D:=Int×T0r
abbrev T0E:=LDCe×T0f
abbrev T0F:=LDCe×LDLn×T06
abbrev T0G:=LDCn×T0f
abbrev T0H:=LDCn×T0n
abbrev T0I:=LDTh×Int×T04
abbrev T0J:=LI×T0f
abbrev T0K:=LI×T0g
abbrev T0L:=LI×T0j
abbrev T0M:=LI×T0q
abbrev T0N:=LLCn×LDTs×T0b
abbrev T0O:=Unit×T0j
abbrev T0P:=Unit×Unit×T06
abbrev T0Q:=Unit×Unit×T09
abbrev T0R:=Unit×Unit×T0a
abbrev T0S:=Unit×Unit×Unit×LDOp×Unit
abbrev T0T:=Bool×T0z
abbrev T0U:=Bool×T0R
abbrev T0V:=Int×T0x
abbrev T0W:=Int×Int×Bool×T0a
abbrev T0X:=Int×T0z
abbrev T0Y:=Int×Int×T0o
abbrev T0Z:=Int×T0R
abbrev T10:=LDCe×LDLn×LI×T05
abbrev T11:=LDIn×LI×LLI×T0b
abbrev T12:=LDLn×T0A
abbrev T13:=LI×T0B
abbrev T14:=LI×Int×LDCe×LDLn×LDTh×Unit
abbrev T15:=LLCn×T0C
abbrev T16:=Unit×Int×T0t
abbrev T17:=Unit×Unit×T0m
abbrev T18:=Unit×Unit×T0s
abbrev T19:=Unit×Unit×LLCn×T07
abbrev T1a:=Bool×T14
abbrev T1b:=Bool×T16
abbrev T1c:=Int×Bool×T0N
abbrev T1d:=Int×Bool×T0Q
abbrev T1e:=Int×Int×Bool×T0o
abbrev T1f:=Int×T0X
abbrev T1g:=Int×Int×T0B
abbrev T1h:=Int×Int×T0N
abbrev T1i:=Int×Int×T0Q
abbrev T1j:=Int×T0Z
abbrev T1k:=Int×T14
abbrev T1l:=LDCe×LDLn×LI×Int×LLCn×LDCn×Unit
abbrev T1m:=LDCe×LDLn×T0P
abbrev T1n:=LDIn×T0Y
abbrev T1o:=LDLn×Int×T0w
abbrev T1p:=LI×T0V
abbrev T1q:=LI×Int×LDCe×LDLn×LDTh×Bool×Unit
abbrev T1r:=LI×T13
abbrev T1s:=LI×LI×LLI×LLCn×LDOp×LDOu×Unit
abbrev T1t:=LI×LLI×T0Q
abbrev T1u:=LLCn×LDOp×T0R
abbrev T1v:=LLI×T0Y
abbrev T1w:=Unit×Unit×LLCn×Nat×T07
abbrev T1x:=Int×Int×Bool×T0F
abbrev T1y:=Int×T1c
abbrev T1z:=Int×T1d
abbrev T1A:=Int×Int×T0U
abbrev T1B:=Int×T1f
abbrev T1C:=Int×Int×Int×Int×LDCn×T01
abbrev T1D:=Int×Int×Int×Int×Unit×T01
abbrev T1E:=Int×T1i
abbrev T1F:=Int×Int×LDCn×T0y
abbrev T1G:=Int×Int×LI×Int×Int×LLI×LDCn×Unit
abbrev T1H:=Int×T1k
abbrev T1I:=Int×Int×T17
abbrev T1J:=Int×Int×T18
abbrev T1K:=Int×T1n
abbrev T1L:=Int×LI×Int×T0v
abbrev T1M:=LDIn×T1e
abbrev T1N:=LDTs×T1h
abbrev T1O:=LI×Int×LDCe×LDLn×T0p
abbrev T1P:=LLI×T1e
abbrev T1Q:=LLI×T1j
abbrev T1R:=LLI×Int×Int×T0S
abbrev T1S:=Int×Int×Bool×T18
abbrev T1T:=Int×T1A
abbrev T1U:=Int×Int×Int×Int×Int×Int×LDCn×LDCn×Unit
abbrev T1V:=Int×Int×Int×Int×Int×Int×LDCn×Unit×Unit
abbrev T1W:=Int×Int×Int×Int×Int×T0k
abbrev T1X:=Int×T1J
abbrev T1Y:=Int×Int×T1s
abbrev T1Z:=Int×Int×T1t
abbrev T20:=Int×Int×T1u
abbrev T21:=Int×LDCe×T1f
abbrev T22:=Int×T1M
abbrev T23:=LDTh×T1H
abbrev T24:=LDTs×T1y
abbrev T25:=LI×Int×Unit×Unit×Unit×T0o
abbrev T26:=LI×Int×Unit×Unit×T0Q
abbrev T27:=LLCn×Int×Int×T11
abbrev T28:=Int×Int×Bool×T1s
abbrev T29:=Int×Int×Bool×T1t
abbrev T2a:=Int×Int×Bool×T1u
abbrev T2b:=Int×Int×T1B
abbrev T2c:=Int×Int×Int×T1j
abbrev T2d:=Int×Int×Int×Int×LDCn×T0x
abbrev T2e:=Int×T20
abbrev T2f:=Int×LI×Int×Int×Bool×T0K
abbrev T2g:=Int×T25
abbrev T2h:=LDIn×LI×LLI×LI×Int×T0P
abbrev T2i:=LDLn×Int×Int×T1m
abbrev T2j:=LDOu×T1Y
abbrev T2k:=LI×Int×Int×T1p
abbrev T2l:=LI×Int×LI×Int×Int×T0K
abbrev T2m:=LI×LI×Int×Int×T10
abbrev T2n:=LI×LLCn×Int×Int×LDCn×T0C
abbrev T2o:=LLCn×T20
abbrev T2p:=LLI×T1Y
abbrev T2q:=LLI×T1Z
abbrev T2r:=Int×Bool×T25
abbrev T2s:=Int×Int×Int×Int×Int×Bool×Bool×Bool×T00
abbrev T2t:=Int×Int×Int×Int×Int×Int×Int×Int×T03
abbrev T2u:=Int×Int×T1U
abbrev T2v:=Int×Int×T21
abbrev T2w:=Int×T2g
abbrev T2x:=Int×Int×T26
abbrev T2y:=LI×Int×Int×Int×Int×Int×T0O
abbrev T2z:=LI×Int×Int×LI×T1g
abbrev T2A:=LI×Int×LDCe×LDLn×LDTh×T14
abbrev T2B:=LLI×T29
abbrev T2C:=Unit×Int×Unit×Unit×Unit×T14
abbrev T2D:=Bool×T2A
abbrev T2E:=Int×Int×T2h
abbrev T2F:=Int×Int×T2q
abbrev T2G:=Int×T2C
abbrev T2H:=LDCe×T2v
abbrev T2I:=LDCn×Nat×Int×Int×Int×T1w
abbrev T2J:=LI×Int×Bool×LI×T1B
abbrev T2K:=LI×Int×Int×LI×Int×Int×T0V
abbrev T2L:=LI×Int×Int×LI×Int×Int×T13
abbrev T2M:=LLI×Int×Int×LI×Int×Int×T19
abbrev T2N:=ByteArray×LDCn×T2u
abbrev T2O:=Int×Int×Bool×T2h
abbrev T2P:=Int×Int×T2s
abbrev T2Q:=Int×Int×Int×Int×LDCn×Int×T1b
abbrev T2R:=Int×Int×Int×Int×Nat×T1J
abbrev T2S:=Int×Int×T2A
abbrev T2T:=LDIn×LI×LLI×LI×Int×LDCe×LDLn×LDTh×Unit×Unit×T0b
abbrev T2U:=LI×Int×Int×T2k
abbrev T2V:=LLI×T2E
abbrev T2W:=Int×Int×Bool×T2s
abbrev T2X:=LDIn×LI×LLI×LI×Int×LLCn×LDTs×Unit×Int×Unit×Unit×Unit×LLCn×Unit
abbrev T2Y:=LI×Int×LDCe×LDLn×LDTh×T21
abbrev T2Z:=LI×Int×LI×Int×Int×Int×Int×T1l
abbrev T30:=Int×Int×LLI×Int×Int×LI×T1Z
abbrev T31:=Int×Int×Int×Int×Int×Int×LDCn×LDCn×T1C
abbrev T32:=Int×Int×T2X
abbrev T33:=Int×Int×LDIn×LI×LLI×T2C
abbrev T34:=LDTh×Int×Int×T2T
abbrev T35:=LI×Int×LDCe×LDLn×LDTh×T2C
abbrev T36:=Int×Int×Bool×T2X
abbrev T37:=Int×LLI×Int×Int×LI×T2E
abbrev T38:=LDIn×LI×LLI×T2Y
abbrev T39:=LI×Int×Int×Int×Int×Int×Unit×Int×Bool×T1C
abbrev T3a:=Nat×LI×Int×LDCe×LDLn×LDTh×Int×Int×Int×Int×Int×Int×T0H
abbrev T3b:=LDIn×LI×LLI×LI×Int×LLCn×LDTs×T2C
abbrev T3c:=LDIn×LI×LLI×LI×Int×LLCn×LDTs×Unit×Int×Unit×Unit×Unit×LI×Int×LDCe×LDLn×Unit×Unit
abbrev T3d:=Int×Int×LDCn×T32
abbrev T3e:=Int×Int×LI×Int×Int×Int×Int×Int×Int×Int×Int×Int×Int×Int×T0u
abbrev T3f:=LDIn×LI×LLI×T31
abbrev T3g:=LDIn×LI×LLI×LI×Int×LDCe×LDLn×LDTh×LI×LI×LLI×LLCn×LDOp×LDOu×LI×LLI×LDEn×LI×Unit
abbrev T3h:=LDTh×Int×Int×T35
abbrev T3i:=LI×Int×Int×Int×Int×Int×Int×Int×Unit×Unit×T1U
abbrev T3j:=LI×Int×Int×Int×Int×Int×Int×Int×Unit×Unit×T1V
abbrev T3k:=Unit×Unit×Unit×Unit×Int×Unit×Unit×Unit×Unit×Unit×Unit×Unit×Unit×Unit×Unit×T0t
abbrev T3l:=Int×Int×Int×Int×Int×Int×LDCn×LDCn×Int×Int×Int×Int×LDCn×Int×T0T
abbrev T3m:=Int×Int×Int×Int×Int×Int×LDCn×LDCn×Int×Int×Int×Int×LDCn×T1c
abbrev T3n:=Int×Int×T3c
abbrev T3o:=LDIn×LI×LLI×LI×Int×LDCe×LDLn×LDTh×LI×LI×LLI×LLCn×LDOp×LDOu×LI×LLI×LDEn×LI×LI×Unit
abbrev T3p:=LDTh×Int×Int×Bool×T35
abbrev T3q:=Nat×Int×LI×Int×LDCe×LDLn×LDTh×LDIn×LI×LLI×T2b
abbrev T3r:=Int×Bool×T3g
abbrev T3s:=Int×ByteArray×Int×Int×T38
abbrev T3t:=Int×Int×Bool×T3c
abbrev T3u:=LDTs×Int×Int×T3b
abbrev T3v:=LLCn×T3n
abbrev T3w:=Int×Int×T3m
abbrev T3x:=Int×Int×Int×T3g
abbrev T3y:=LI×Int×Int×T3j
abbrev T3z:=Int×Int×Bool×T3m
abbrev T3A:=Int×Int×Int×T3o
abbrev T3B:=LDIn×LI×LLI×T3l
abbrev T3C:=LI×Int×LDCe×LDLn×T3f
abbrev T3D:=Int×T3z
abbrev T3E:=Int×Int×T3w
abbrev T3F:=Int×T3E
abbrev T3G:=Int×LLCn×Int×Int×LDCn×T3n
abbrev T3H:=Bool×Bool×LI×Int×LDCe×LDLn×LDTh×T3f
abbrev T3I:=Int×Int×T3D
abbrev T3J:=LDCn×Int×Int×T3C
abbrev T3K:=LDIn×LI×LLI×LI×Int×LDCe×LDLn×LDTh×LI×LI×LLI×LLCn×LDOp×LDOu×LI×LLI×LDEn×LI×T1D
abbrev T3L:=LI×Int×LDCe×LDLn×LDTh×LDIn×LI×LLI×Int×Int×Int×Int×Int×Int×LDCn×LDCn×Int×Int×Int×Int×LDCn×T0v
abbrev T3M:=Nat×Bool×LI×Int×LDCe×LDLn×LDTh×T3l
abbrev T3N:=Nat×T3L
abbrev T3O:=Unit×Unit×Unit×Unit×Unit×Unit×Int×Int×Int×Int×Unit×Int×Bool×LI×LI×LLI×LLCn×LDOp×LDOu×T1C
abbrev T3P:=Unit×Unit×Unit×Unit×Unit×Unit×Int×Int×Int×Int×Unit×Int×Bool×LI×LI×LLI×LLCn×LDOp×LDOu×T1D
abbrev T3Q:=Int×Int×T3K
abbrev T3R:=LI×Int×LDCe×LDLn×LDTh×T3B
abbrev T3S:=LDIn×LI×LLI×LI×Int×LDCe×LDLn×LDTh×Unit×Unit×LLCn×LDTs×Int×LDCe×Int×Int×Int×Int×T2t
abbrev T3T:=Nat×LDCn×Int×Int×T3R
abbrev T3U:=LI×Int×Unit×Unit×Unit×Unit×Int×Unit×Unit×Unit×LDIn×LI×LLI×LI×Int×LDCe×LDLn×LI×LI×LLI×LLCn×LDOp×LDOu×LI×LLI×LDEn×LI×T14
abbrev T3V:=Nat×LDCn×Int×Int×Bool×T3R
abbrev T3W:=LDIn×LI×LLI×LI×Int×LLCn×LDTs×Unit×Int×Unit×Unit×Unit×LI×Int×LDCe×LDLn×LDTh×Int×Int×Int×Int×Int×Int×Int×LDCn×T21
abbrev T3X:=LDTh×Int×Int×LDCe×Int×Int×T3S
abbrev T3Y:=LI×Int×Unit×Unit×Unit×Unit×Int×Unit×Unit×Unit×LDIn×LI×LLI×LI×Int×LDCe×LDLn×LI×LI×LLI×LLCn×LDOp×LDOu×LI×LLI×LDEn×LI×LI×Int×LDCe×LDLn×LDTh×T0b
abbrev T3Z:=LI×LI×LLI×LLCn×LDOp×LDOu×Int×Int×Int×Int×Int×Int×LDCn×LDCn×Unit×Unit×Unit×Unit×Unit×Unit×Int×Int×Int×Int×Unit×Int×Bool×LI×LI×LLI×LLCn×LDOp×LDOu×LI×Unit
abbrev T40:=Int×Bool×LDIn×LI×LLI×LI×Int×LDCe×LDLn×LDTh×LI×LI×LLI×LLCn×LDOp×LDOu×LI×LLI×LDEn×LI×Int×Int×Int×Int×Int×Int×LDCn×LDCn×T1D
abbrev T41:=Int×Int×T3Y
abbrev T42:=Unit×Unit×Unit×Unit×Int×Unit×Unit×Unit×Unit×Unit×Unit×Unit×Unit×Unit×Unit×Unit×Unit×Unit×T3g
abbrev T43:=Unit×Unit×Unit×Unit×Int×Unit×Unit×Unit×Unit×Unit×Unit×Unit×Unit×Unit×Unit×Unit×Unit×Unit×LDIn×LI×LLI×LI×Int×LDCe×LDLn×LDTh×LI×LI×LLI×LLCn×LDOp×LDOu×LI×LLI×Unit×LI×Unit
abbrev T44:=Int×Int×Bool×T3Y
abbrev T45:=Int×T42
abbrev T46:=Int×T43
abbrev T47:=LDCn×Int×Int×T3Z
abbrev T48:=LDIn×LI×LLI×Unit×Int×Unit×Unit×Unit×Int×Int×Int×Int×Int×Int×Unit×Unit×LI×Int×LDCe×LDLn×LDTh×Int×LDCe×Int×Int×Int×Int×T2u
abbrev T49:=LDIn×LI×LLI×Unit×Int×Unit×Unit×Unit×Int×Int×Int×Int×Int×Int×Unit×Unit×LI×Int×LDCe×LDLn×LDTh×Int×LDCe×Int×Int×Int×Int×Int×Int×T1V
abbrev T4a:=Bool×T49
abbrev T4b:=Int×T45
abbrev T4c:=LI×T45
abbrev T4d:=Int×Int×Int×T41
abbrev T4e:=Int×Int×T48
abbrev T4f:=Int×Int×T49
abbrev T4g:=Int×T4c
abbrev T4h:=LDIn×LI×LLI×Int×Int×Int×Int×Int×Int×LDCn×LDCn×Int×Int×Int×Int×LDCn×Int×Bool×LI×Int×LDCe×LDLn×LDTh×Int×LDCe×Int×Int×Int×Int×T2v
abbrev T4i:=LDTs×Int×Int×LDCn×Int×Int×T3W
abbrev T4j:=Int×Int×Bool×T48
abbrev T4k:=Int×T4h
abbrev T4l:=LI×Int×Unit×Unit×Unit×Unit×Int×Unit×Unit×Unit×Int×Int×Int×Int×Int×Int×Unit×Unit×Int×Int×Int×Int×Unit×Int×Bool×LDIn×LI×LLI×LI×Int×LDCe×LDLn×LDTh×T1U
abbrev T4m:=Int×T4l
abbrev T4n:=LI×Int×Unit×Unit×Unit×Unit×Int×Unit×Unit×Unit×Int×Int×Int×Int×Int×Int×Unit×Unit×Int×Int×Int×Int×Unit×Int×Bool×LDIn×LI×LLI×LI×Int×LDCe×LDLn×LDTh×T31
abbrev T4o:=Int×Int×T4n
abbrev T4p:=Int×Bool×LI×Int×Unit×Unit×Unit×Unit×Int×Unit×Unit×Unit×Unit×Unit×Unit×Unit×Unit×Unit×Unit×Unit×Unit×Unit×LDIn×LI×LLI×LI×Int×LDCe×LDLn×LDTh×LI×LI×LLI×LLCn×LDOp×LDOu×LI×LLI×LDEn×LI×T3g
abbrev T4q:=Int×Bool×LI×Int×Unit×Unit×Unit×Unit×Int×Unit×Unit×Unit×Unit×Unit×Unit×Unit×Unit×Unit×Unit×Unit×Unit×Unit×LDIn×LI×LLI×LI×Int×LDCe×LDLn×LDTh×LI×LI×LLI×LLCn×LDOp×LDOu×LI×LLI×LDEn×LI×T3k
noncomputable abbrev ap1{A0 D R:Type}(f:A0→R)(h:A0×D):R:=f h.1
noncomputable abbrev ap2{A0 A1 D R:Type}(f:A0→A1→R)(h:A0×A1×D):R:=f h.1 h.2.1
noncomputable abbrev ap3{A0 A1 A2 D R:Type}(f:A0→A1→A2→R)(h:A0×A1×A2×D):R:=f h.1 h.2.1 h.2.2.1
noncomputable abbrev ap4{A0 A1 A2 A3 D R:Type}(f:A0→A1→A2→A3→R)(h:A0×A1×A2×A3×D):R:=f h.1 h.2.1 h.2.2.1 h.2.2.2.1
noncomputable abbrev ap5{A0 A1 A2 A3 A4 D R:Type}(f:A0→A1→A2→A3→A4→R)(h:A0×A1×A2×A3×A4×D):R:=f h.1 h.2.1 h.2.2.1 h.2.2.2.1 h.2.2.2.2.1
noncomputable abbrev ap6{A0 A1 A2 A3 A4 A5 D R:Type}(f:A0→A1→A2→A3→A4→A5→R)(h:A0×A1×A2×A3×A4×A5×D):R:=f h.1 h.2.1 h.2.2.1 h.2.2.2.1 h.2.2.2.2.1 h.2.2.2.2.2.1
noncomputable abbrev as1{A X H R:Type}(g:X->H->R)(f:A->X)(h:A×H):R:=g (f h.1) h.2
noncomputable abbrev as2{A B X H R:Type}(g:X->H->R):(A->B->X)->A×B×H->R:=as1 (as1 g)
noncomputable abbrev as4{A B C D X H R:Type}(g:X->H->R):(A->B->C->D->X)->A×B×C×D×H->R:=as2 (as2 g)
noncomputable abbrev as8{A B C D E F G I X H R:Type}(g:X->H->R):(A->B->C->D->E->F->G->I->X)->A×B×C×D×E×F×G×I×H->R:=as4 (as4 g)
theorem ls{n:Nat}(C:X.Cfg)(hT:Ms E0 TT noB n C.TB){c:Ctr}(hE:C.E=E0:=by rfl)(h1:(TT c.f).isSome=true:=by kernel_rfl)(hg:∀h,X.runT f6 C () ((TT c.f).getD W7) c.outs (lY c.ins _ h).1 (yk c.pts [] (lY c.ins _ h).2).1=c.g h:=by intro h;kernel_rfl):Lk (n+1) c:=Wr (n:=n) (C:=C) hE hT (Wy h1) hg
abbrev Uaa(t:Nat):Nat×Sh:=sP t I64
abbrev Xaa(t:Nat):Nat×Sh:=sP t .bool
abbrev Zaa(t r:Nat):Nat×Sh:=(t,.pk ⟨r,0,[]⟩ [0,0])
abbrev uaa(t:CT):CT:=.row true t
abbrev yaa(t:CT):CT:=.row false t
abbrev zaa(t:Nat):Nat×Sh:=pP t (2*t+2)
abbrev uab:T_:=uL [gT,RI,(yaa RW)]
abbrev yab:T_:=uL [RI,I64]
abbrev zab:T_:=uL [.bool]
abbrev Uab:T_:=uL [RI,CW]
abbrev Xab:T_:=uL [CB,CW]
abbrev Zab:T_:=uL [N1,CW,N1,N1,N1]
abbrev uac:T_:=uL [N1,N1]
abbrev yac:T_:=uL [I64,I64,I64,I64,I64,I64,gp,gp]
abbrev zac:T_:=uL [RI,CW,gU,iI,mO]
abbrev Uac:T_:=uL [I64]
abbrev Xac:T_:=uL [(yaa gp),(yaa my)]
abbrev Zac:T_:=uL [CB,CW,I64,I64,gp,I64,.bool]
abbrev uad:T_:=uL [RI,CW,(uaa KCe),iG,qR]
abbrev yad:T_:=uL [I64,I64]
abbrev zad:T_:=uL [gU,iI]
abbrev Uad:T_:=uL [N1,N1,N1]
abbrev Xad:T_:=uL [(uaa KCe),iG]
abbrev Zad:T_:=uL [CB,CW,I64,I64,N1,I64,.bool]
abbrev uae:T_:=uL [gT,RI,(yaa RW),RI,CW,(uaa KCe),iG,(uaa nX),RW,RW,(yaa RW),(yaa gp),jt,ly,RI,(yaa RI),(uaa qX),(uaa I64)]
abbrev yae:T_:=uL [I64,gU,I64,I64,I64,I64,I64,CW]
abbrev zae:T_:=uL [(yaa gp),jt]
abbrev Uae:T_:=uL [I64,I64,I64,I64,I64,I64,N1,N1]
abbrev Xae:T_:=uL [I64,I64,I64,I64,I64]
abbrev Zae:T_:=uL [N1,N1,N1,N1,CW,N1,N1,N1,N1,N1,N1,N1,N1,N1,N1,N1,N1,N1]
abbrev uaf:T_:=uL [(uaa I64)]
abbrev yaf:T_:=uL [(uaa I64),(uaa (uaa I64))]
abbrev zaf:T_:=uL [(uaa (uaa KCn)),(yaa my)]
abbrev Uaf:T_:=uL [(uaa (uaa KCn)),(uaa KOp)]
abbrev Xaf:T_:=uL [RI,(yaa RI)]
abbrev Zaf:T_:=uL [RI,CW,gU,iI,(uaa nX)]
abbrev uag:T_:=uL [I64,(uaa KCe),I64,I64,I64,I64,I64,CW]
abbrev yag:T_:=uL [(uaa (uaa KCn)),(uaa J1)]
abbrev zag:T_:=uL [CB,CW,I64,I64]
abbrev Uag:T_:=uL [I64,I64,I64,I64,I64,I64,(uaa KCn),(uaa KCn)]
abbrev Xag:T_:=uL [.bool,.bool,.bool,.bool]
abbrev Zag:T_:=uL [(uaa KCn)]
abbrev uah:T_:=uL [RW,RW,(yaa RW),(yaa gp),jt,ly]
abbrev yah:T_:=uL [RI,CW,(uaa KCe),iG,(uaa nX)]
abbrev zah:T_:=uL [CB,CW,I64,I64,(uaa KCn),I64,.bool]
abbrev Uah:T_:=uL [N1,N1,N1,N1,N1,N1]
abbrev Xah:T_:=uL [(uaa I64),CW,(uaa KCe),iG,qR]
abbrev Zah:T_:=uL [gT,RI,(yaa RW),RI,CW,gU,iI,mO,RW,RW,(yaa RW),(yaa gp),jt,ly,RI,(yaa RI),U2,RI]
abbrev uai:T_:=uL [(uaa gp)]
abbrev yai:T_:=uL [(uaa I64),CW,(uaa KCe),iG]
abbrev zai:T_:=uL [RI]
abbrev Uai:T_:=uL [CB,CW,I64]
abbrev Xai:T_:=uL [I64,I64,I64,I64,I64,I64,(uaa KCn),N1]
abbrev Zai:T_:=uL [gT,RI,(yaa RW),RI,CW,gU,iI,(uaa nX),RW,RW,(yaa RW),(yaa gp),jt,ly,RI,(yaa RI),(uaa qX),(uaa I64)]
abbrev uaj:T_:=uL [(uaa KIn),RI,(uaa (uaa CW))]
abbrev yaj:T_:=uL [gT,RI,(uaa (uaa CW))]
abbrev zaj:T_:=uL [I64,I64,.bool]
abbrev Uaj:T_:=uL [(uaa (uaa CW))]
abbrev Xaj:T_:=uL [(uaa (uaa KCn))]
abbrev Zaj:T_:=uL [RI,CW,(uaa KCe),iG,N1]
abbrev uak:T_:=uL [(uaa I64),CW]
abbrev yak:T_:=uL [(uaa JX)]
abbrev zak:T_:=uL [(uaa CW),(uaa CW),(uaa (uaa CW)),(uaa (uaa KCn)),(uaa KOp),(uaa JX)]
abbrev Uak:T_:=uL [I64,I64,I64]
abbrev Xak:T_:=uL [I64,I64,I64,I64,I64,I64,CW,gp]
abbrev Zak:T_:=uL [(uaa (uaa KCn)),(uaa KOp),I64]
abbrev ual:T_:=uL [RI,CW,gU,iI,qR]
abbrev yal:T_:=uL [gT,RI,(yaa RW),RI,CW,gU,iI,mO,RW,RW,(yaa RW),(yaa gp),jt,ly,RI,(yaa RI),(uaa qX),(uaa I64)]
abbrev zal:T_:=uL [RI,CW,(uaa KCe),iG,qR,.bool]
abbrev Ual:T_:=uL [(uaa (uaa KCn)),(uaa KOp),.bool]
abbrev Xal:T_:=uL [RI,CW,(uaa KCe),iG,(uaa nX),.bool]
abbrev Zal:T_:=uL [gT,RI,(yaa RW),RI,CW,(uaa KCe),iG,(uaa nX),RW,RW,(yaa RW),(yaa gp),jt,ly,RI,(yaa RI),(uaa qX)]
abbrev uam:T_:=uL [I64,I64,I64,I64,I64,I64,CW,(uaa KCn)]
abbrev QA:=List (Nat×Sh)
abbrev QB:=List (Nat×T_)
abbrev QC:=T_
abbrev zl(l:N_):QA:=l.map zaa
abbrev il(l:N_):QA:=l.map Uaa
abbrev yam:QC:=[shU gT,shU RI,shU (yaa RW),shU RI,shU CW,shU gU,shU iI,.dead,shU RW,shU RW,shU (yaa RW),shU (yaa gp),shU jt,shU ly,shU RI,shU (yaa RI),shU (uaa qX),shU (uaa I64)]
abbrev zam:QC:=[.gap (uaa KCn) () () 0,shU (uaa KOp)]
abbrev Uam:QB:=[(4,uab)]
abbrev Xam:QB:=[(6,Uab)]
abbrev Zam:QB:=[(2,yab),(6,Uad),(8,Zab),(10,yam),(12,Zaf),(14,yag)]
abbrev uan:QB:=[(14,yac),(16,Zac),(22,zaf),(24,zaf)]
abbrev yan:QB:=[(4,zad)]
abbrev zan:QB:=[(4,uad)]
abbrev Uan:QB:=[(14,uac),(18,Uaf)]
abbrev Xan:QB:=[(12,Uab),(18,Xab),(20,Xab),(22,Xab)]
abbrev Zan:QB:=[(8,Xaf),(14,uac),(18,yaf)]
abbrev uao:QB:=[(10,yad)]
abbrev yao:QB:=[(6,Xac),(8,Xac)]
abbrev zao:QB:=[(2,yab),(6,Uad),(8,uaj)]
abbrev Uao:QB:=[(6,uab),(8,Uab),(10,uac),(14,Xad)]
abbrev Xao:QB:=[(8,uab),(10,Uab),(12,Xac),(14,Zab),(77,uai)]
abbrev Zao:QB:=[(8,uab),(10,Uab),(12,Xac),(14,Zab),(26,Zaj)]
abbrev uap:QB:=[(2,yab),(6,Uad),(8,Zab),(10,Uae),(12,Zad),(14,uab),(16,Zaf),(18,Uag),(22,zah)]
abbrev yap:QB:=[(2,yab),(14,Xae),(16,Xae),(18,Xag)]
abbrev zap:QB:=[(2,yab),(6,Uad),(8,yaj)]
abbrev Uap:QB:=[(4,Xae),(8,Xag),(49,uaf)]
abbrev Xap:QB:=[(8,Uab),(14,yad)]
abbrev Zap:QB:=[(10,uab),(18,Zab),(20,Uae),(24,yah),(30,yae),(32,Xai)]
abbrev uaq:QB:=[(10,uab),(18,Zab),(20,Uae),(24,yah),(30,yae),(32,Uag)]
abbrev yaq:QB:=[(2,uae),(10,Zad)]
abbrev zaq:QB:=[(4,uad),(10,uab),(14,yac),(16,Zac),(22,Xab),(26,yad)]
abbrev Uaq:QB:=[(10,uac),(14,yaf),(21,uaf)]
abbrev Xaq:QB:=[(6,uab),(8,Xac)]
abbrev Zaq:QB:=[(6,zad),(8,zad)]
abbrev uar:QB:=[(6,zac),(8,zac)]
abbrev yar:QB:=[(6,uac),(10,Uaf),(19,Zag)]
abbrev zar:QB:=[(8,uab),(10,zac),(16,yae)]
abbrev Uar:QB:=[(14,uac),(20,zam),(27,Zag)]
abbrev Xar:QB:=[(2,uae),(8,yac),(10,Zad)]
abbrev Zar:QB:=[(4,uad),(10,uab),(14,yac),(16,Zac),(22,Xab)]
abbrev uas:QB:=[(10,uac),(14,Xaf),(27,uaf)]
abbrev yas:QB:=[(2,yab),(6,Zae),(10,Zai),(16,Zae)]
abbrev zas:QB:=[(2,yab),(6,Zae),(10,Zah),(16,Zae)]
abbrev Uas:QB:=[(2,yab),(6,Zae),(10,Zah),(16,uae)]
abbrev Xas:QB:=[(2,yab),(6,Zae),(10,Zai)]
abbrev Zas:QB:=[(8,zad),(10,Uab),(17,Xaj),(23,Zag)]
abbrev uat:QB:=[(6,uab),(8,zac),(10,uac),(12,yag),(16,yae),(18,uam)]
abbrev yat:QB:=[(8,uab),(10,Uab),(12,Xac),(14,Zab),(26,uad),(38,Xak),(40,uag)]
abbrev zat:QB:=[(8,uab),(10,Uab),(12,Xac),(14,Zab),(26,uad)]
abbrev Uat:QB:=[(2,yab),(6,Uae),(8,Xai)]
abbrev Xat:QB:=[(2,yab),(6,Uae),(8,Uag)]
abbrev Zat:QB:=[(4,yai),(10,uab),(14,yac),(16,Zac)]
abbrev uau:QA:=[Xaa 4]
abbrev yau:QA:=[Xaa 2]
abbrev zau:QA:=[Uaa 2]
abbrev Uau:QA:=zl [0,2,4]++[Uaa 6,zaa 7,Xaa 37]
abbrev Xau:QA:=zl [0,2,3]
abbrev Zau:QA:=zl [4,5,7,11]
abbrev uav:QA:=[zaa 1,Xaa 8]
abbrev yav:QA:=[zaa 6,Xaa 7]
abbrev zav:QA:=zaa 0::il [1,2]++zl [6,7,8]
abbrev Uav:QA:=[zaa 4,Uaa 5]
abbrev Xav:QA:=[zaa 6,Uaa 7]
abbrev Zav:QA:=zl [0,2,4]++[Uaa 6]
abbrev uaw:QA:=zl [0,2,3]++[Uaa 6]
abbrev yaw:QA:=zl [0,2,3]++il [101,102]
abbrev zaw:QA:=sP 0 RI::sP 5 RI::il [6,7]
abbrev Uaw:QA:=sP 0 RI::sP 5 RI::il [6,7]++[Xaa 8]
abbrev Xaw:QA:=Zaa 3 9::sP 6 mO::il [7,8]
abbrev Zaw:QA:=sP 1 RI::Uaa 2::zl [5,8,9,10]++[Xaa 109]
abbrev uax:QA:=zl [4,8,9,11,14,15]++il [109,110]++[Xaa 111]
abbrev yax:QA:=sP 2 gp::zl [6,9]++(10,.ptr ⟨20,1,[((),(3,0))]⟩ [0,0])::Uaa 11::Zaa 12 27::il [57,58]
abbrev zax:QA:=il [1,2]++zl [6,8]++il [9,62,63]
abbrev Uax:QA:=zl [1,4,6,7]++(9,.ptr ⟨4,4,[((),(8,0))]⟩ [0,0])::zl [10,12]++sP 80 gp::il [81,82]++[Xaa 83]
abbrev Xax:QA:=Uaa 1::zl [4,6]++Uaa 7::Zaa 9 21::(20,.pk ⟨14,1,[]⟩ [0,0])::il [21,22]++(27,.pk ⟨14,1,[((),(1,0))]⟩ [0,0,0])::il [28,29]
abbrev Zax:QA:=zaa 0::Uaa 1::(36,.pk ⟨2,17,[]⟩ [0,0])::il [37,38]
abbrev uay:QA:=zaa 4::il [7,8]++[zaa 9]
abbrev yay:QA:=zl [0,2,3,4,5,6]++il [27,28]
abbrev zay:QA:=zl [0,2,3,4,5,6]++il [8,48,49,58,59]
abbrev Uay:QA:=zl [0,2,3,4,5,6]++il [48,49]
abbrev Xay:QA:=zl [0,2,3,4,5]
abbrev Zay:QA:=zl [0,2,3]++sP 39 (yaa CB)::il [40,41]
abbrev uaz:QA:=zl [0,2,3,4,5,6,7,8,10]++(42,.pk ⟨18,6,[]⟩ [0,0])::il [43,44]
abbrev yaz:QA:=zaa 1::Uaa 5::sP 49 gT::il [50,51]
abbrev h_:=Option (Int×Unit)
def mA(a0 a1:Int):h_:=bif(a1 != 0)then let x0:Int:=(Int.tmod a0 a1);
(bif(decide (x0<0))then(let x1:Int:=(w64 (x0+a1));some (x1,()))else some (x0,()):h_).bind λ(x1,_)=>some (x1,())else none
def KS:X.Cfg:=⟨E0,[],[],[⟨2,0,qE,[(.normal,qS [Uaa 5] [])]⟩]⟩
def xB:Ctr:=⟨31,0,yad,[],[⟨Uac,[.one],[]⟩],ap2 mA⟩
theorem Ck:Lk 1 xB:=ls KS aN
def Bl(a0 a1:Int):h_:=
(mA a0 a1).bind λ(x0,_)=>some (x0,())
def R7:X.Cfg:=⟨E0,[xB],[],[]⟩
def Ml:Ctr:=⟨12,1,yad,[],[⟨Uac,[.one],[]⟩],ap2 Bl⟩
theorem RV:Lk 2 Ml:=ls R7 (aC Ck aN)
def fX(a0:Int)(a1:LI)(a2:Int):Option (T0j):=let x0:=f7 a1.length;bif(decide (a2>=x0))then(some (0,a1,a2,()))else let x1:=w64 (a2+1);let x2:=w64 (x1-1);
(gk x2).bind λx3=>
(fW a1 x3).bind λx4=>
(Bl x4 a0).bind λ(x5,_)=>some (x5,a1,x1,())
def KV:X.Cfg:=⟨E0,[Ml],[],[]⟩
def ia:Ctr:=⟨28,2,[.ptr ⟨2,0,[]⟩ [0],shU I64],[(2,yab)],[⟨Uac,[.one],[(2,yab)]⟩],ap3 fX⟩
theorem ij:Lk 3 ia:=ls KV (aC RV aN)
abbrev v_:=List (Int)
def uA:T0D->Option (T0D⊕(Int×Bool×T0r)):=λ(v0,v1,v2,v3,_)=>bif(decide (v0>0))then(let x0:v_:=[6,12,32];
(fX 3 v1 v2).bind λ(x1,x2,x3,_)=>
(gk x1).bind λx4=>
(fW x0 x4).bind λ_=>
(fW x0 x4).bind λx6=>
(fX x6 x2 x3).bind λ(x7,x8,x9,_)=>let ac:=w64 (1+x7);bif(gr 8 v3.length (List.length [ac]))then let ae:v_:=(List.append v3 [ac]);let af:=w64 (v0-1);some (.inl (af,x8,x9,ae,()))else none)else some (.inr (v0,false,v1,v2,v3,()))
def rz(a0:LI)(a1:Int):Option (LI×T08):=
(fX 9 a0 a1).bind λ(x0,x1,x2,_)=>let x3:=w64 (4+x0);
(fX 4 x1 x2).bind λ(x4,x5,x6,_)=>
(gd uA NN (x4,x5,x6,[x3],())).bind λ(_,_,x9,ac,ae,_)=>some (ae,x9,ac,())
def Jt:X.Cfg:=⟨E0,[ia],[],[(lx 4 0 [zaa 0,Zaa 3 9,Uaa 4] [(2,yab),(9,uaf)] 12)]⟩
def AV:Ctr:=⟨120,3,[.ptr ⟨2,0,[]⟩ [0]],[(2,yab)],[⟨uaf,[.one],[(2,yab)]⟩],ap2 rz⟩
theorem IE:Lk 4 AV:=ls Jt (aC ij aN)
def ln(a0:LI)(a1:Int):Option (T0j):=
(fX 5 a0 a1).bind λ(x0,x1)=>
(bif(x0==0)then(some (x0,true,x1))else bif(x0==1)then(some (x0,true,x1))else some (x0,(x0==2),x1):Option (T0x)).bind λ(x3,x4,x5,x6,_)=>bif x4 then((fX 8 x5 x6).bind λ(x7,x8,x9,_)=>let ac:=wk .u16 x7;some (ac,x8,x9,()))else bif(x3==3)then((fX 3 x5 x6).bind λ(x7,x8,x9,_)=>let ac:=w64 (65535-x7);let ae:=wk .u16 ac;some (ae,x8,x9,()))else
(fX 65536 x5 x6).bind λ(x7,x8,x9,_)=>let ac:=wk .u16 x7;some (ac,x8,x9,())
def KU:X.Cfg:=⟨E0,[ia],[],[⟨3,0,qE,[(.normal,qS [zaa 0,Uaa 4,Xaa 5] [(2,yab)])]⟩]⟩
def qM:Ctr:=⟨100,4,[.ptr ⟨2,0,[]⟩ [0]],[(2,yab)],[⟨uL [CW],[.one],[(2,yab)]⟩],ap2 ln⟩
theorem tp:Lk 4 qM:=ls KU (aC ij aN)
def uz:T0D->Option (T0D⊕(Int×Bool×T0r)):=λ(v0,v1,v2,v3,_)=>bif(decide (v0>0))then((ln v1 v2).bind λ(x0,x1,x2,_)=>bif(gr 2 v3.length (List.length [x0]))then let x3:v_:=(List.append v3 [x0]);let x4:=w64 (v0-1);some (.inl (x4,x1,x2,x3,()))else none)else some (.inr (v0,false,v1,v2,v3,()))
def i7(a0:Int)(a1:LI)(a2:Int):Option (LI×T08):=let x0:=w64 (a0+1);
(fX x0 a1 a2).bind λ(x1,x2,x3,_)=>
(gd uz NN (x1,x2,x3,[],())).bind λ(_,_,x6,x7,x8,_)=>some (x8,x6,x7,())
def Js:X.Cfg:=⟨E0,[ia,qM],[],[(lx 4 0 [zaa 0,Zaa 5 13,Uaa 6] [(2,yab),(13,uL [(uaa CW)])] 12)]⟩
def vA:Ctr:=⟨121,5,[.ptr ⟨2,0,[]⟩ [0],shU I64],[(2,yab)],[⟨uL [(uaa CW)],[.one],[(2,yab)]⟩],ap3 i7⟩
theorem Ao:Lk 5 vA:=ls Js (aC ij (aC tp aN))
def lm(a0 a1:Int):Option (T0X):=some (1,a0,0,0,a1,())
def Uw:X.Cfg:=⟨E0,[],[],[]⟩
def Lh:Ctr:=⟨123,6,yad,[],[⟨Xae,[.agg 5],[]⟩],ap2 lm⟩
theorem PK:Lk 1 Lh:=ls Uw aN
def j4(a0:Int):Option (T0X):=some (23,0,0,0,a0,())
def R5:X.Cfg:=⟨E0,[],[],[]⟩
def Hm:Ctr:=⟨124,7,Uac,[],[⟨Xae,[.agg 5],[]⟩],ap1 j4⟩
theorem LY:Lk 1 Hm:=ls R5 aN
def pG(a0 a1:Int):Option (T0X):=some (2,a0,a1,0,0,())
def R6:X.Cfg:=⟨E0,[],[],[]⟩
def Mk:Ctr:=⟨144,8,yad,[],[⟨Xae,[.agg 5],[]⟩],ap2 pG⟩
theorem RU:Lk 1 Mk:=ls R6 aN
def li(a0:Int):Option (T0u):=
(bif(a0==1)then(some (a0,true,false,false,false,false,()))else bif(a0==15)then(some (a0,true,false,false,false,false,()))else bif(a0==19)then(some (a0,true,false,false,false,false,()))else bif(a0==20)then(some (a0,true,false,false,false,false,()))else some (a0,(a0==21),false,false,false,false,()):Option (Int×Bool×T0u)).bind λ(x0,x1,_)=>bif x1 then(some (true,false,false,true,()))else bif(x0==2)then(some (true,true,false,false,()))else bif(x0==16)then(some (true,true,false,true,()))else bif(x0==17)then(some (true,true,false,true,()))else bif(x0==18)then(some (false,false,false,true,()))else bif(x0==23)then(some (false,false,false,true,()))else bif(x0==22)then(some (true,false,false,false,()))else bif(x0==0)then(some (false,false,false,false,()))else bif(x0==24)then(some (false,false,false,false,()))else some (true,true,true,false,())
def Je:X.Cfg:=⟨E0,[],[],[⟨3,0,qE,[(.normal,qS [zaa 2,Uaa 3,Xaa 4] [(6,Xag)])]⟩]⟩
def vm:Ctr:=⟨108,9,Uac,[],[⟨Xag,[.agg 4],[]⟩],ap1 li⟩
theorem Ak:Lk 1 vm:=ls Je aN
abbrev f_:=Option (Bool×Unit)
def i6(a0:Int):f_:=bif(a0==18)then(some (true,()))else bif(a0==19)then(some (true,()))else bif(a0==20)then(some (true,()))else some ((a0==21),())
def Jf:X.Cfg:=⟨E0,[],[],[]⟩
def mN:Ctr:=⟨77,10,Uac,[],[⟨zab,[.one],[]⟩],ap1 i6⟩
theorem oW:Lk 1 mN:=ls Jf aN
def rA(a0 a1:Int)(a2:LI)(a3:Int):Option (Int×T1g):=
(fX 25 a2 a3).bind λ(x0,x1,x2,_)=>
(li x0).bind λ(x3,x4)=>
(bif x3 then((fX 8 x1 x2).bind λ(x7,x8,x9,_)=>some (a0,a1,x8,x9,0,0,0,0,0,x0,x7,0,0,0,x3,x4))else some (a0,a1,x1,x2,0,0,0,0,0,x0,0,0,0,0,x3,x4):Option (T3e)).bind λ(x7,x8,x9,ac,ae,af,ag,ah,ai,aj,ak,am,an,ap,aq,av,ax)=>
(bif av then((fX 8 x9 ac).bind λ(az,aA,aB,_)=>some (x7,x8,aA,aB,ae,af,ag,ah,ai,aj,ak,az,an,ap,aq,av,ax))else some (x7,x8,x9,ac,ae,af,ag,ah,ai,aj,ak,am,an,ap,aq,av,ax):Option (T3e)).bind λ(az,aA,aB,aD,aE,aF,aG,aH,aI,aJ,aK,aL,aM,aO,aP,aQ,aR,aS,_)=>
(bif aR then((fX 8 aB aD).bind λ(aT,aU,aV,_)=>some (az,aA,aU,aV,aE,aF,aG,aH,aI,aJ,aK,aL,aT,aO,aP,aQ,aR,aS,()))else some (az,aA,aB,aD,aE,aF,aG,aH,aI,aJ,aK,aL,aM,aO,aP,aQ,aR,aS,()):Option (T3e)).bind λ(aT,aU,aV,aW,aY,aZ,ba,bc,bd,be,bf,bg,bh,bi,_,_,_,bn,_)=>
((i6 be).bind λ(bo,_)=>bif bo then((fX aU aV aW).bind λ(bp,bq,bt,_)=>some (bq,bt,aY,aZ,ba,bc,bd,be,bf,bg,bh,bp,()))else bif(be==15)then((fX aT aV aW).bind λ(bp,bq,bt,_)=>some (bq,bt,aY,aZ,ba,bc,bd,be,bf,bg,bh,bp,()))else bif(be==23)then((fX 16 aV aW).bind λ(bp,bq,bt,_)=>some (bq,bt,aY,aZ,ba,bc,bd,be,bf,bg,bh,bp,()))else bif bn then((ln aV aW).bind λ(bp,bq,bt,_)=>let bv:=wk .i64 bp;some (bq,bt,aY,aZ,ba,bc,bd,be,bf,bg,bh,bv,()))else some (aV,aW,aY,aZ,ba,bc,bd,be,bf,bg,bh,bi,()):Option (LI×Int×Int×T2b)).bind λ(bo,bp,_,_,_,_,_,bB,bC,bD,bE,bF,_)=>some (bB,bC,bD,bE,bF,bo,bp,())
def Ju:X.Cfg:=⟨E0,[ia,vm,mN,qM],[],[⟨3,0,qE,[(.normal,qS zav yap)]⟩,⟨5,1,qE,[(.normal,qS zav yap)]⟩,⟨7,2,qE,[(.normal,qS zav yap)]⟩,⟨9,3,qE,[(.normal,qS (zl [0,6,7]) [(2,yab),(14,Xae),(16,Xae)])]⟩]⟩
def AW:Ctr:=⟨145,11,[.ptr ⟨2,0,[]⟩ [0],shU I64,shU I64],[(2,yab)],[⟨Xae,[.agg 5],[(2,yab)]⟩],ap4 rA⟩
theorem IF:Lk 5 AW:=ls Ju (aC ij (aC Ak (aC oW (aC tp aN))))
def sW(a0:LI)(a1 a2:Int)(a3:LI)(a4:Int):Option (LDIn×T08):=let x0:=f7 a0.length;
(fX x0 a3 a4).bind λ(x1,x2,x3,_)=>
(gk x1).bind λx4=>
(fW a0 x4).bind λx5=>let x6:=w64 (x5+1);let x7:=mmR false 5 x6;
(fX x7 x2 x3).bind λ(x8,x9,ac,_)=>
(lm 2 x8).bind λ(ae,af,ag,ah,ai,_)=>let aj:LDIn:=[(15,(1,(0,(0,x1)))),(ae,(af,(ag,(ah,ai))))];
(fX 20 x9 ac).bind λ(ak,am,an,_)=>bif(ak==0)then((fX 3 am an).bind λ(ap,aq,av,_)=>let ax:=w64 (3+ap);
(ln aq av).bind λ(ay,az,aA,_)=>let aB:=wk .i64 ay;
(lm ax aB).bind λ(aD,aE,aF,aG,aH,_)=>let aI:LDIn:=[(aD,(aE,(aF,(aG,aH))))];some (aI,az,aA,()))else bif(ak==1)then(let ap:v_:=[3,4,5,10,13,14,11,9];
(fX 8 am an).bind λ(aq,av,ax,_)=>
(gk aq).bind λay=>
(fW ap ay).bind λ_=>
(fW ap ay).bind λaA=>
(fX 3 av ax).bind λ(aB,aD,aE,_)=>let aF:=w64 (3+aB);
(fX 3 aD aE).bind λ(aG,aH,aI,_)=>let aJ:=w64 (3+aG);
(fX 3 aH aI).bind λ(aK,aL,aM,_)=>let aO:=w64 (3+aK);let aP:LDIn:=[(aA,(aF,(aJ,(aO,0))))];some (aP,aL,aM,()))else bif(ak==2)then(let ap:LDIn:=[(15,(6,(0,(0,x1))))];some (ap,am,an,()))else bif(ak==3)then((fX 5 am an).bind λ(ap,aq,av,_)=>let ax:=w64 (3+ap);
(gk x1).bind λay=>
(fW a0 ay).bind λaz=>
(fX az aq av).bind λ(aA,aB,aD,_)=>let aE:LDIn:=[(15,(6,(0,(0,x1)))),(17,(6,(ax,(0,aA))))];some (aE,aB,aD,()))else bif(ak==4)then((fX 5 am an).bind λ(ap,aq,av,_)=>let ax:=w64 (3+ap);
(gk x1).bind λay=>
(fW a0 ay).bind λaz=>
(fX az aq av).bind λ(aA,aB,aD,_)=>let aE:LDIn:=[(15,(6,(0,(0,x1)))),(17,(6,(ax,(0,aA))))];some (aE,aB,aD,()))else bif(ak==5)then((fX 4 am an).bind λ(ap,aq,av,_)=>let ax:=w64 (3+ap);
(gk x1).bind λay=>
(fW a0 ay).bind λaz=>
(fX az aq av).bind λ(aA,aB,aD,_)=>let aE:LDIn:=[(15,(6,(0,(0,x1)))),(16,(ax,(6,(0,aA))))];some (aE,aB,aD,()))else bif(ak==6)then((fX 4 am an).bind λ(ap,aq,av,_)=>let ax:=w64 (3+ap);
(gk x1).bind λay=>
(fW a0 ay).bind λaz=>
(fX az aq av).bind λ(aA,aB,aD,_)=>let aE:LDIn:=[(15,(6,(0,(0,x1)))),(16,(ax,(6,(0,aA))))];some (aE,aB,aD,()))else bif(ak==7)then((fX 3 am an).bind λ(ap,aq,av,_)=>
(lm 0 ap).bind λ(ax,ay,az,aA,aB,_)=>let aD:LDIn:=[(ax,(ay,(az,(aA,aB))))];bif(gr 40 aD.length aj.length)then let aE:LDIn:=(List.append aD aj);
(j4 13).bind λ(aF,aG,aH,aI,aJ,_)=>let aK:LDIn:=[(aF,(aG,(aH,(aI,aJ))))];bif(gr 40 aE.length aK.length)then let aL:LDIn:=(List.append aE aK);some (aL,aq,av,())else none else none)else bif(ak==8)then((fX 3 am an).bind λ(ap,aq,av,_)=>
(lm 0 ap).bind λ(ax,ay,az,aA,aB,_)=>let aD:LDIn:=[(ax,(ay,(az,(aA,aB))))];bif(gr 40 aD.length aj.length)then let aE:LDIn:=(List.append aD aj);
(j4 13).bind λ(aF,aG,aH,aI,aJ,_)=>let aK:LDIn:=[(aF,(aG,(aH,(aI,aJ))))];bif(gr 40 aE.length aK.length)then let aL:LDIn:=(List.append aE aK);some (aL,aq,av,())else none else none)else bif(ak==9)then((fX 3 am an).bind λ(ap,aq,av,_)=>
(lm 0 ap).bind λ(ax,ay,az,aA,aB,_)=>let aD:LDIn:=[(ax,(ay,(az,(aA,aB))))];bif(gr 40 aD.length aj.length)then let aE:LDIn:=(List.append aD aj);
(j4 14).bind λ(aF,aG,aH,aI,aJ,_)=>
(pG 3 0).bind λ(aK,aL,aM,aO,aP,_)=>let aQ:LDIn:=[(aF,(aG,(aH,(aI,aJ)))),(aK,(aL,(aM,(aO,aP))))];bif(gr 40 aE.length aQ.length)then let aR:LDIn:=(List.append aE aQ);some (aR,aq,av,())else none else none)else bif(ak==10)then((fX 3 am an).bind λ(ap,aq,av,_)=>
(lm 0 ap).bind λ(ax,ay,az,aA,aB,_)=>
(fX 4 aq av).bind λ(aD,aE,aF,_)=>
(lm 1 aD).bind λ(aG,aH,aI,aJ,aK,_)=>
(j4 3).bind λ(aL,aM,aO,aP,aQ,_)=>
(pG 7 0).bind λ(aR,aS,aT,aU,aV,_)=>let aW:LDIn:=[(ax,(ay,(az,(aA,aB)))),(aG,(aH,(aI,(aJ,aK)))),(aL,(aM,(aO,(aP,aQ)))),(aR,(aS,(aT,(aU,aV))))];some (aW,aE,aF,()))else bif(ak==11)then((pG 0 7).bind λ(ap,aq,av,ax,ay,_)=>let az:LDIn:=[(ap,(aq,(av,(ax,ay))))];bif(gr 40 az.length aj.length)then let aA:LDIn:=(List.append az aj);let aB:v_:=[1,2];
(fX 2 am an).bind λ(aD,aE,aF,_)=>
(gk aD).bind λaG=>
(fW aB aG).bind λ_=>
(fW aB aG).bind λaI=>
(j4 aI).bind λ(aJ,aK,aL,aM,aO,_)=>let aP:LDIn:=[(aJ,(aK,(aL,(aM,aO))))];bif(gr 40 aA.length aP.length)then let aQ:LDIn:=(List.append aA aP);some (aQ,aE,aF,())else none else none)else bif(ak==12)then((pG 0 7).bind λ(ap,aq,av,ax,ay,_)=>
(j4 4).bind λ(az,aA,aB,aD,aE,_)=>let aF:LDIn:=[(ap,(aq,(av,(ax,ay)))),(az,(aA,(aB,(aD,aE))))];
(pG 0 7).bind λ(aG,aH,aI,aJ,aK,_)=>
(fX 4 am an).bind λ(aL,aM,aO,_)=>
(lm 1 aL).bind λ(aP,aQ,aR,aS,aT,_)=>
(j4 5).bind λ(aU,aV,aW,aY,aZ,_)=>let ba:LDIn:=[(aG,(aH,(aI,(aJ,aK)))),(aP,(aQ,(aR,(aS,aT)))),(aU,(aV,(aW,(aY,aZ))))];let bc:List LDIn:=[aF,ba];
(fX 2 aM aO).bind λ(bd,be)=>
(gk bd).bind λbg=>
(fW bc bg).bind λ_=>
(fW bc bg).bind λ_=>
(fW bc bg).bind λbj=>some (bj,be))else bif(ak==13)then(let ap:v_:=[6,7,15];
(fX 3 am an).bind λ(aq,av,ax,_)=>
(gk aq).bind λay=>
(fW ap ay).bind λ_=>
(fW ap ay).bind λaA=>
(j4 aA).bind λ(aB,aD,aE,aF,aG,_)=>
(fX 3 av ax).bind λ(aH,aI,aJ,_)=>let aK:=w64 (3+aH);
(pG aK 0).bind λ(aL,aM,aO,aP,aQ,_)=>let aR:LDIn:=[(aB,(aD,(aE,(aF,aG)))),(aL,(aM,(aO,(aP,aQ))))];some (aR,aI,aJ,()))else bif(ak==14)then((fX 3 am an).bind λ(ap,aq,av,_)=>
(lm 0 ap).bind λ(ax,ay,az,aA,aB,_)=>let aD:v_:=[8,9];
(fX 2 aq av).bind λ(aE,aF,aG,_)=>
(gk aE).bind λaH=>
(fW aD aH).bind λ_=>
(fW aD aH).bind λaJ=>
(j4 aJ).bind λ(aK,aL,aM,aO,aP,_)=>let aQ:LDIn:=[(ax,(ay,(az,(aA,aB)))),(aK,(aL,(aM,(aO,aP))))];some (aQ,aF,aG,()))else bif(ak==15)then((fX 3 am an).bind λ(ap,aq,av,_)=>
(lm 0 ap).bind λ(ax,ay,az,aA,aB,_)=>let aD:v_:=[8,9];
(fX 2 aq av).bind λ(aE,aF,aG,_)=>
(gk aE).bind λaH=>
(fW aD aH).bind λ_=>
(fW aD aH).bind λaJ=>
(j4 aJ).bind λ(aK,aL,aM,aO,aP,_)=>let aQ:LDIn:=[(ax,(ay,(az,(aA,aB)))),(aK,(aL,(aM,(aO,aP))))];some (aQ,aF,aG,()))else bif(ak==16)then((fX a1 am an).bind λ(ap,aq,av,_)=>
(lm 0 ap).bind λ(ax,ay,az,aA,aB,_)=>
(pG 1 3).bind λ(aD,aE,aF,aG,aH,_)=>
(j4 10).bind λ(aI,aJ,aK,aL,aM,_)=>let aO:LDIn:=[(ax,(ay,(az,(aA,aB)))),(aD,(aE,(aF,(aG,aH)))),(aI,(aJ,(aK,(aL,aM))))];some (aO,aq,av,()))else bif(ak==17)then(let ap:v_:=[a1,5];
(fX 2 am an).bind λ(aq,av,ax,_)=>
(gk aq).bind λay=>
(fW ap ay).bind λ_=>
(fW ap ay).bind λaA=>
(fX aA av ax).bind λ(aB,aD,aE,_)=>
(lm 0 aB).bind λ(aF,aG,aH,aI,aJ,_)=>let aK:v_:=[12,11];
(fX 2 aD aE).bind λ(aL,aM,aO,_)=>
(gk aL).bind λaP=>
(fW aK aP).bind λ_=>
(fW aK aP).bind λaR=>
(j4 aR).bind λ(aS,aT,aU,aV,aW,_)=>let aY:LDIn:=[(aF,(aG,(aH,(aI,aJ)))),(aS,(aT,(aU,(aV,aW))))];some (aY,aM,aO,()))else bif(ak==18)then((fX 4 am an).bind λ(ap,aq,av,_)=>let ax:=w64 (1+ap);
(lm 5 ax).bind λ(ay,az,aA,aB,aD,_)=>
(lm 4 1).bind λ(aE,aF,aG,aH,aI,_)=>let aJ:=w64 (a2+2);let aK:LDIn:=[(ay,(az,(aA,(aB,aD)))),(aE,(aF,(aG,(aH,aI)))),(4,(5,(5,(4,0)))),(20,(5,(0,(0,aJ))))];some (aK,aq,av,()))else let ap:=f7 a0.length;
(rA ap a1 am an).bind λ(aq,av,ax,ay,az,aA,aB,_)=>let aD:LDIn:=[(aq,(av,(ax,(ay,az))))];some (aD,aA,aB,())
def KT:X.Cfg:=⟨E0,[ia,Lh,qM,Hm,Mk,AW],[(156,(uaa KIn))],[]⟩
def Di:Ctr:=⟨122,12,[.ptr ⟨2,0,[]⟩ [0],shU RI,shU I64,shU I64],[(2,yab)],[⟨uL [gT],[.one],[(2,yab)]⟩],ap5 sW⟩
theorem KE:Lk 6 Di:=ls KT (aC ij (aC PK (aC tp (aC LY (aC RU (aC IF aN))))))
def sc:T2x->Option (T2x⊕(Int×Int×Bool×T26)):=λ(v0,v1,v2,v3,v4,v5,v6,v7,v8,v9,_)=>bif(decide (v1<v0))then((gk v1).bind λx0=>
(fW v8 x0).bind λ_=>
(fW v8 x0).bind λx2=>
(i7 x2 v2 v3).bind λ(x3,x4,x5,_)=>bif(gr 24 v9.length (List.length [x3]))then let x6:List LI:=(List.append v9 [x3]);let x7:=w64 (v1+1);some (.inl (v0,x7,x4,x5,v4,v5,v6,v7,v8,x6,()))else none)else some (.inr (v0,v1,false,v2,v3,v4,v5,v6,v7,v8,v9,()))
def sb:T2g->Option (T2g⊕T2r):=λ(v0,v1,v2,v3,v4,v5,v6,v7,v8,_)=>bif(decide (v0>0))then((let x0:Int:=(f7 v6.length);let x1:=w64 (x0+1);let x2:=f7 v6.length;
(sW v7 x1 x2 v1 v2).bind λ(x3,x4,x5,_)=>let x6:=f7 v6.length;let x7:=f7 x3.length;let x8:=w64 (x6+x7);bif(decide (x8<=62))then(bif(gr 40 v6.length x3.length)then let x9:LDIn:=(List.append v6 x3);some (v0,x4,x5,v3,v4,v5,x9,v7,v8,())else none)else some (v0,x4,x5,v3,v4,v5,v6,v7,v8,()):Option (T2g)).bind λ(x0,x1,x2,x3,x4,x5,x6,x7,x8,_)=>let x9:=w64 (x0-1);some (.inl (x9,x1,x2,x3,x4,x5,x6,x7,x8,())))else some (.inr (v0,false,v1,v2,v3,v4,v5,v6,v7,v8,()))
def jO:T2w->Option (T2w⊕(Int×T2r)):=λ(v0,v1,v2,v3,v4,v5,v6,v7,v8)=>bif(decide (v1<v0))then(((gk v1).bind λx0=>
(fW v7 x0).bind λx1=>
(i6 x1.1).bind λ(x2,_)=>bif x2 then((gk v1).bind λx3=>
(fW v7 x3).bind λx4=>let x5:=f7 v7.length;bif(decide (x4.2.2.2.2>=x5))then((gk v1).bind λx6=>
(fW v7 x6).bind λ_=>none)else some (v0,v1,v2,v3,v4,v5,v6,v7,v8))else some (v0,v1,v2,v3,v4,v5,v6,v7,v8):Option (T2w)).bind λ(x0,x1,x2,x3,x4,x5,x6,x7,x8)=>let ac:=w64 (x1+1);some (.inl (x0,ac,x2,x3,x4,x5,x6,x7,x8)))else some (.inr (v0,v1,false,v2,v3,v4,v5,v6,v7,v8))
def oD(a0:LI)(a1:Int):Option (LDIn×LI×LLI×T08):=
(rz a0 a1).bind λ(x0,x1,x2,_)=>let x3:=f7 x0.length;
(gd sc NN (x3,0,x1,x2,(),(),(),(),x0,[],())).bind λ(_,_,_,x7,x8,x9,ac,ae,_,ag)=>
(fX 12 x7 x8).bind λ(ai,aj,ak,_)=>let am:=w64 (1+ai);
(gd sb NN (am,aj,ak,x9,ac,ae,[],ag)).bind λ(_,_,aq,av,ax,ay,az,aA,aB)=>
((fX 4 aq av).bind λ(aE,aF,aG,_)=>bif(aE==0)then(let aH:Int:=(f7 aA.length);let aI:=w64 (aH+1);
(fX aI aF aG).bind λ(aJ,aK,aL,_)=>let aM:LDIn:=[(18,(0,(0,(0,aJ))))];bif(gr 40 aA.length aM.length)then let aO:LDIn:=(List.append aA aM);some (aK,aL,ax,ay,az,aO,aB)else none)else bif(aE==1)then(let aH:LDIn:=[(24,(0,(0,(0,0))))];bif(gr 40 aA.length aH.length)then let aI:LDIn:=(List.append aA aH);some (aF,aG,ax,ay,az,aI,aB)else none)else some (aF,aG,ax,ay,az,aA,aB):Option (T25)).bind λ(aE,aF,aG,aH,aI,aJ,aK,aL,_)=>
(fX 9 aE aF).bind λ(aM,aO,aP,_)=>
(lm 0 aM).bind λ(aQ,aR,aS,aT,aU,_)=>
(j4 0).bind λ(aV,aW,aY,aZ,ba,_)=>let bc:LDIn:=[(aQ,(aR,(aS,(aT,aU)))),(aV,(aW,(aY,(aZ,ba))))];bif(gr 40 aJ.length bc.length)then let bd:LDIn:=(List.append aJ bc);let be:=f7 bd.length;bif(decide (be>64))then(bif(iX 0 64 bd.length)then let bf:LDIn:=(nV bd 0 (Nat.sub 64 0));let bg:=f7 bf.length;
(gd jO NN (bg,0,aO,aP,aG,aH,aI,bf,aK,aL,())).bind λ(_,_,_,bk,bm,_,_,_,bq,bt,bv,_)=>some (bq,bt,bv,bk,bm,())else none)else let bf:=f7 bd.length;
(gd jO NN (bf,0,aO,aP,aG,aH,aI,bd,aK,aL,())).bind λ(_,_,_,bj,bk,_,_,_,bp,bq,bt,_)=>some (bp,bq,bt,bj,bk,())else none
def Ef:X.Cfg:=⟨E0,[AV,vA,ia,Di,Lh,Hm,mN],[(24,(uaa CW)),(25,(uaa CW))],[(lx 4 0 (zl [0,2,3]++(13,.pk ⟨8,1,[]⟩ [0,0])::il [14,15]) [(2,yab),(6,Uad),(8,uL [N1,(uaa I64),(uaa (uaa CW))])] 16),⟨14,1,qE,[(.normal,qS uaw zao)]⟩,⟨11,2,qS uaw zao,[(.exit 2,qS (zl [0,2,3]++[Uaa 6,Xaa 32]) zao)]⟩,⟨17,3,qE,[(.normal,qS Xau zao)]⟩,⟨29,4,qE,[(.normal,qS yaw zap)]⟩,⟨26,5,qS yaw zap,[(.exit 5,qS (zl [0,2,3]++il [101,102]++[Xaa 103]) zap)]⟩]⟩
def wZ:Ctr:=⟨92,13,[.ptr ⟨2,0,[]⟩ [0]],[(2,yab)],[⟨yaj,[.agg 3],[(2,yab)]⟩],ap2 oD⟩
theorem DN:Lk 7 wZ:=ls Ef (aC IE (aC Ao (aC ij (aC KE (aC PK (aC LY (aC oW aN)))))))
def pd:T0M->Option (T0M⊕((Bool×Unit)⊕(LI×T0J))):=λ(v0,v1,v2,v3,_)=>bif(decide (v3<v2))then((gk v3).bind λx0=>
(fW v1 x0).bind λx1=>bif(decide (x1<1))then(some (.inr (.inl (false,()))))else bif(decide (x1>32))then(some (.inr (.inl (false,()))))else let x2:=w64 (v3+1);some (.inl (v0,v1,v2,x2,())))else some (.inr (.inr (v0,v1,v2,v3,false,())))
def i4(a0:LI):f_:=let x0:=f7 a0.length;
(match gd pd NN (a0,a0,x0,0,())with
|none=>none
|some (.inl (x1,_))=>some (x1,())
|some (.inr (x1,_))=>let x6:=f7 x1.length;bif(decide (x6>=1))then(let x7:Int:=(f7 x1.length);some ((decide (x7<=4)),()))else some (false,()))
def GG:X.Cfg:=⟨E0,[],[],[⟨3,0,qS zaw [],[(.ret,qS yau []),(.exit 0,qS Uaw [])]⟩]⟩
def qc:Ctr:=⟨30,14,zai,[],[⟨zab,[.one],[]⟩],ap1 i4⟩
theorem tn:Lk 1 qc:=ls GG aN
def ux:T2y->Option (T2y⊕(LI×Int×Int×Int×Int×Int×Bool×T0O)):=λ(v0,v1,v2,v3,v4,v5,v6,v7,v8,v9,_)=>bif(decide (v5<v4))then(let x0:Int:=(w64 (v5+v1));bif(v2 != 0)then let x1:Int:=(Int.tmod x0 v2);
(gk x1).bind λx2=>
(fW v8 x2).bind λ_=>
(fW v8 x2).bind λ_=>let x5:=v8.modify x2 λe=>v3;
(gk x1).bind λx6=>
(fW v0 x6).bind λx7=>let x8:=w64 (x7+1);let x9:=w64 (50*v2);bif(x9 != 0)then let ac:Int:=(w64 (Int.tdiv v1 x9));let ae:=Int.tmod ac 40;let af:=w64 (x8+ae);let ag:=w64 (v3+af);let ah:=w64 (v5+1);some (.inl (v0,v1,v2,ag,v4,ah,v6,v7,x5,v9,()))else none else none)else some (.inr (v0,v1,v2,v3,v4,v5,false,v6,v7,v8,v9,()))
def oT(a0:LI)(a1:Int):Option (T0q):=
((i4 a0).bind λ(x0,_)=>bif(!x0)then(some (a0,a1,true,(),0,()))else bif(decide (a1<0))then(some (a0,a1,true,(),0,()))else some (a0,a1,(decide (a1>1073741824)),(),0,()):Option (LI×Int×Bool×Unit×Int×Unit)).bind λ(x0,x1,x2,x3,x4,_)=>bif x2 then(some ([],0,1,()))else let x5:=f7 x0.length;
(gk x5).bind λx6=>
(gk x5).bind λx7=>bif(xT x6 x7 1)then let x8:v_:=(List.replicate x6 0);let x9:=w64 (40503*x1);let ac:=wk .u16 x9;bif(x5 != 0)then let ae:Int:=(w64 (Int.tdiv x1 x5));let af:=Int.tmod ae 50;let ag:=w64 (1+af);
(gd ux NN (x0,x1,x5,ag,x5,0,x3,x4,x8,ac,())).bind λ(_,_,_,_,_,_,_,_,_,ax,ay,_)=>some (ax,ay,0,())else none else none
def Jm:X.Cfg:=⟨E0,[qc],[],[⟨2,0,qE,[(.normal,(qS [sP 0 RI,Uaa 1,zaa 4,Xaa 21] [(10,uL [N1,CW])]))]⟩,(lx 9 1 (sP 0 RI::Uaa 1::zaa 4::Uaa 6::zaa 7::il [8,36,37]) [(10,uL [N1,CW]),(16,uak)] 38)]⟩
def AS:Ctr:=⟨11,15,yab,[],[⟨uL [(uaa I64),CW,I64],[.agg 2,.one],[]⟩],ap2 oT⟩
theorem IB:Lk 2 AS:=ls Jm (aC tn aN)
def pO(a0 a1:LI)(a2:Int):Option (T0L):=
(fX 1048576 a1 a2).bind λ(x0,x1)=>
(oT a0 x0).bind λ(x3,x4,_,_)=>some (x3,x4,x1)
def GW:X.Cfg:=⟨E0,[ia,AS],[],[]⟩
def yX:Ctr:=⟨94,16,[.ptr ⟨2,0,[]⟩ [0],shU RI],[(2,yab)],[⟨uak,[.agg 2],[(2,yab)]⟩],ap3 pO⟩
theorem F1:Lk 4 yX:=ls GW (aC ij (aC IB aN))
def mF(a0 a1 a2 a3:Int):f_:=bif(a0==0)then(bif(a2==0)then(some ((a3==0),()))else some (false,()))else bif(a0==2)then(bif(a2==0)then(some ((a3==0),()))else some (false,()))else bif(a0==1)then(bif(a2==(-1))then(bif(a1==0)then(bif(decide (a3>=0))then(some ((decide (a3<=65535)),()))else some (false,()))else some (false,()))else bif(a1==0)then(bif(decide (a2>=0))then(bif(decide (a2<4))then(bif(decide (a3>=0))then(some ((decide (a3<32)),()))else some (false,()))else some (false,()))else some (false,()))else some (false,()))else some (false,())
def I7:X.Cfg:=⟨E0,[],[],[]⟩
def vi:Ctr:=⟨90,17,[.agg zag],[],[⟨zab,[.one],[]⟩],ap4 mF⟩
theorem Ah:Lk 1 vi:=ls I7 aN
def mi:LDCn×Int×T0n->Option ((LDCn×Int×T0n)⊕((Bool×Unit)⊕(LDCn×Int×T0G))):=λ(v0,v1,v2,v3,v4,_)=>bif(decide (v4<v3))then((gk v4).bind λx0=>
(fW v2 x0).bind λx1=>
(mF x1.1 x1.2.1 x1.2.2.1 x1.2.2.2).bind λ(x2,_)=>bif(!x2)then(some (.inr (.inl (false,()))))else let x3:=w64 (v4+1);some (.inl (v0,v1,v2,v3,x3,())))else some (.inr (.inr (v0,v1,v2,v3,v4,false,())))
def iy(a0:LDCn)(a1:Int):f_:=let x0:=f7 a0.length;
(match gd mi NN (a0,a1,a0,x0,0,())with
|none=>none
|some (.inl (x1,_))=>some (x1,())
|some (.inr (x1,x2,_))=>let x7:=f7 x1.length;some ((decide (x7<=x2)),()))
def Gq:X.Cfg:=⟨E0,[vi],[],[⟨3,0,qS [sP 0 gp,Uaa 1,sP 7 gp,Uaa 8,Uaa 9] [],[(.ret,qS uau []),(.exit 0,qS [sP 0 gp,Uaa 1,sP 7 gp,Uaa 8,Uaa 9,Xaa 10] [])]⟩]⟩
def jq:Ctr:=⟨62,18,uL [gp,I64],[],[⟨zab,[.one],[]⟩],ap2 iy⟩
theorem j9:Lk 2 jq:=ls Gq (aC Ah aN)
def mg:T15->Option (T15⊕((Bool×Unit)⊕(LLCn×T0W))):=λ(v0,v1,v2,v3)=>bif(decide (v2<v1))then((gk v2).bind λx0=>
(fW v0 x0).bind λx1=>
(iy x1 64).bind λ(x2,_)=>bif(!x2)then(some (.inr (.inl (false,()))))else let x3:=w64 (v2+1);some (.inl (v0,v1,x3,v3)))else some (.inr (.inr (v0,v1,v2,false,v3)))
def o9:LDOp×T0C->Option ((LDOp×T0C)⊕((Bool×Unit)⊕(LDOp×T0W))):=λ(v0,v1,v2,v3,v4,_)=>bif(decide (v2<v1))then((gk v2).bind λx0=>
(fW v0 x0).bind λx1=>
(bif(x1.1==(-1))then(bif(x1.2.1 != 0)then(some (v0,v1,v2,true,v3,v4,x1.1,x1.2.1,x1.2.2,()))else bif x1.2.2 then(some (v0,v1,v2,true,v3,v4,x1.1,x1.2.1,x1.2.2,()))else bif(decide (x1.1<(-1)))then(some (v0,v1,v2,true,v3,v4,x1.1,x1.2.1,x1.2.2,()))else let x2:=f7 v3.length;bif(decide (x1.1>=x2))then(some (v0,v1,v2,true,v3,v4,x1.1,x1.2.1,x1.2.2,()))else bif(decide (x1.1>=0))then(bif(decide (x1.2.1<0))then(some (v0,v1,v2,true,v3,v4,x1.1,x1.2.1,x1.2.2,()))else
(gk x1.1).bind λx3=>
(fW v3 x3).bind λx4=>let x5:=f7 x4.length;some (v0,v1,v2,(decide (x1.2.1>x5)),v3,v4,x1.1,x1.2.1,x1.2.2,()))else some (v0,v1,v2,false,v3,v4,x1.1,x1.2.1,x1.2.2,()))else bif(decide (x1.1<(-1)))then(some (v0,v1,v2,true,v3,v4,x1.1,x1.2.1,x1.2.2,()))else let x2:=f7 v3.length;bif(decide (x1.1>=x2))then(some (v0,v1,v2,true,v3,v4,x1.1,x1.2.1,x1.2.2,()))else bif(decide (x1.1>=0))then(bif(decide (x1.2.1<0))then(some (v0,v1,v2,true,v3,v4,x1.1,x1.2.1,x1.2.2,()))else
(gk x1.1).bind λx3=>
(fW v3 x3).bind λx4=>let x5:=f7 x4.length;some (v0,v1,v2,(decide (x1.2.1>x5)),v3,v4,x1.1,x1.2.1,x1.2.2,()))else some (v0,v1,v2,false,v3,v4,x1.1,x1.2.1,x1.2.2,()):Option (LDOp×Int×Int×Bool×LLCn×LDOp×T0f)).bind λ(x2,x3,x4,x5,x6,x7,_)=>bif x5 then(some (.inr (.inl (false,()))))else let ae:=w64 (x4+1);some (.inl (x2,x3,ae,x6,x7,())))else some (.inr (.inr (v0,v1,v2,false,v3,v4,())))
abbrev z_:=List LDCn
def mY(a0:z_)(a1:LDOp):f_:=let x0:=f7 a0.length;bif(decide (x0>4))then(some (false,()))else let x1:=f7 a1.length;bif(x1 != 8)then(some (false,()))else let x2:=f7 a0.length;
(match gd mg NN (a0,x2,0,a0,a1,())with
|none=>none
|some (.inl (x3,_))=>some (x3,())
|some (.inr (_,_,_,_,x7,x8,_))=>let x9:=f7 x8.length;
(match gd o9 NN (x8,x9,0,x7,x8,())with
|none=>none
|some (.inl (ac,_))=>some (ac,())
|some (.inr (_,_))=>some (true,())))
def Gd:X.Cfg:=⟨E0,[jq],[],[⟨6,0,qS (zaa 1::sP 18 (yaa gp)::il [19,20]) [(4,zae)],[(.ret,qS yau []),(.exit 0,qS [zaa 1,sP 18 (yaa gp),Uaa 19,Uaa 20,Xaa 21] [(4,zae)])]⟩,⟨20,1,qE,[(.normal,qS [zaa 1,sP 29 jt,Uaa 30,Uaa 31,Xaa 81] [(4,zae),(14,zaj)])]⟩,⟨15,2,qS (zaa 1::sP 29 jt::il [30,31]) [(4,zae)],[(.ret,qS yau []),(.exit 2,qS [zaa 1,sP 29 jt,Uaa 30,Uaa 31,Xaa 32] [(4,zae)])]⟩]⟩
def tD:Ctr:=⟨146,19,[.agg zae],[],[⟨zab,[.one],[]⟩],ap2 mY⟩
theorem xW:Lk 3 tD:=ls Gd (aC j9 aN)
def wt:T1R->Option (T1R⊕(LLI×Int×Int×Bool×T0S)):=λ(v0,v1,v2,v3,v4,v5,v6,_)=>bif(decide (v2<v1))then((gk v2).bind λx0=>
(fW v6 x0).bind λ_=>
(fW v6 x0).bind λ_=>let x3:=v6.modify x0 λe=>((-1),e.2);let x4:=w64 (v2+1);some (.inl (v0,v1,x4,v3,v4,v5,x3,())))else some (.inr (v0,v1,v2,false,v3,v4,v5,v6,()))
def wq:T2M->Option (T2M⊕(LLI×Int×Int×LI×Int×Int×Bool×T19)):=λ(v0,v1,v2,v3,v4,v5,v6,v7,v8,v9,eu,_)=>bif(decide (v5<v4))then((gk v5).bind λx0=>
(fW v3 x0).bind λx1=>let x2:LDCn:=[(0,(x1,(0,0)))];bif(gr 24 eu.length x2.length)then let x3:LDCn:=(List.append eu x2);let x4:=w64 (v5+1);some (.inl (v0,v1,v2,v3,v4,x4,v6,v7,v8,v9,x3,()))else none)else some (.inr (v0,v1,v2,v3,v4,v5,false,v6,v7,v8,v9,eu,()))
def wo:T1Q->Option (T1Q⊕(LLI×T1A)):=λ(v0,v1,v2,v3,v4,v5,v6,_)=>bif(decide (v2<v1))then((gk v2).bind λx0=>
(fW v0 x0).bind λx1=>let x2:=f7 x1.length;
(gd wq NN (v0,v1,v2,x1,x2,0,v3,v4,v5,v6,[],())).bind λ(x3,x4,x5,_,_,_,_,ac,ae,af,ag,ah,_)=>bif(gr 24 af.length (List.length [ah]))then let ai:z_:=(List.append af [ah]);let aj:=w64 (x5+1);some (.inl (x3,x4,aj,ac,ae,ai,ag,()))else none)else some (.inr (v0,v1,v2,false,v3,v4,v5,v6,()))
def sN(a0:LLI):Option (LLCn×LDOp×Int×Unit):=bif(xT 8 8 3)then let x0:LDOp:=(List.replicate 8 (0,(0,false)));let x1:=f7 x0.length;
(gd wt NN (a0,x1,0,(),(),(),x0,())).bind λ(x2,_,_,_,x6,x7,_,x9,_)=>let ac:=f7 x2.length;
(gd wo NN (x2,ac,0,x6,x7,[],x9,())).bind λ(_,_,_,_,_,_,ak,am,_)=>
(mY ak am).bind λ(an,_)=>bif(!an)then(some ([],[],3,()))else some (ak,am,0,())else none
def KI:X.Cfg:=⟨E0,[tD],[(46,(uaa KCn)),(47,(uaa KCn))],[(lx 4 0 (sP 0 (yaa RW)::zl [2,4]++il [15,16]) [(6,uac),(10,uL [N1,(uaa KOp)])] 17),⟨19,1,qS (zl [2,4]++Zaa 8 19::sP 25 (yaa RW)::il [26,27]++sP 31 RW::il [32,33]) yar,[(.exit 4,qS (zl [2,4]++Zaa 8 19::sP 25 (yaa RW)::il [26,27]++sP 31 RW::il [32,33]++[Xaa 34]) yar)]⟩,⟨11,2,qS (zl [2,4]++sP 25 (yaa RW)::il [26,27]) [(6,uac),(10,Uaf)],[(.exit 2,qS (zl [2,4]++sP 25 (yaa RW)::il [26,27]++[Xaa 28]) [(6,uac),(10,Uaf)])]⟩]⟩
def Db:Ctr:=⟨151,20,uL [(yaa RW)],[],[⟨Zak,[.agg 2,.one],[]⟩],ap1 sN⟩
theorem Kx:Lk 4 Db:=ls KI (aC xW aN)
def iM:LLI×Int×Int×LLI×Unit->Option ((LLI×Int×Int×LLI×Unit)⊕(LLI×Int×Int×Bool×LLI×Unit)):=λ(v0,v1,v2,v3,_)=>bif(decide (v2<v1))then((gk v2).bind λx0=>
(fW v0 x0).bind λx1=>bif(gr 2 0 x1.length)then let x2:v_:=(List.append [] x1);bif(gr 24 v3.length (List.length [x2]))then let x3:List LI:=(List.append v3 [x2]);let x4:=w64 (v2+1);some (.inl (v0,v1,x4,x3,()))else none else none)else some (.inr (v0,v1,v2,false,v3,()))
def iT(a0:LLI):Option (LLI×Unit):=let x0:=f7 a0.length;
(gd iM NN (a0,x0,0,[],())).bind λ(_,_,_,_,x5,_)=>some (x5,())
def yi:X.Cfg:=⟨E0,[],[(15,(uaa CW)),(16,(uaa CW))],[(lx 4 0 (Zaa 3 9::sP 6 (yaa RW)::il [7,8]) [(9,Uaj)] 9)]⟩
def kS:Ctr:=⟨148,21,uL [(yaa RW)],[],[⟨Uaj,[.one],[]⟩],ap1 iT⟩
theorem nJ:Lk 1 kS:=ls yi aN
def kN:LDOu×T02->Option ((LDOu×T02)⊕((Bool×Unit)⊕(LDOu×T0f))):=λ(v0,v1,v2,_)=>bif(decide (v2<v1))then((gk v2).bind λx0=>
(fW v0 x0).bind λx1=>
(bif(x1.1 != v2)then(some (v0,v1,v2,true,()))else bif(decide (x1.2.1<0))then(some (v0,v1,v2,true,()))else bif(decide (x1.2.1>=2))then(some (v0,v1,v2,true,()))else let x2:=f7 x1.2.2.length;some (v0,v1,v2,(decide (x2>16)),()):Option (LDOu×T0f)).bind λ(x2,x3,x4,x5,_)=>bif x5 then(some (.inr (.inl (false,()))))else let x6:=w64 (x4+1);some (.inl (x2,x3,x6,())))else some (.inr (.inr (v0,v1,v2,false,())))
def mX(a0:LDOu):f_:=let x0:=f7 a0.length;
(match gd kN NN (a0,x0,0,())with
|none=>none
|some (.inl (x1,_))=>some (x1,())
|some (.inr (_,_))=>some (true,()))
def Cy:X.Cfg:=⟨E0,[],[],[⟨8,0,qE,[(.normal,qS [sP 5 ly,Uaa 6,Uaa 7,Xaa 31] [])]⟩,⟨3,1,qS (sP 5 ly::il [6,7]) [],[(.ret,qS yau []),(.exit 0,qS [sP 5 ly,Uaa 6,Uaa 7,Xaa 8] [])]⟩]⟩
def u7:Ctr:=⟨147,22,uL [ly],[],[⟨zab,[.one],[]⟩],ap1 mX⟩
theorem Cc:Lk 1 u7:=ls Cy aN
def mf:T2p->Option (T2p⊕((Bool×Unit)⊕(LLI×T28))):=λ(v0,v1,v2,v3)=>bif(decide (v2<v1))then((gk v2).bind λx0=>
(fW v0 x0).bind λx1=>let x2:=f7 x1.length;bif(decide (x2>64))then(some (.inr (.inl (false,()))))else let x3:=w64 (v2+1);some (.inl (v0,v1,x3,v3)))else some (.inr (.inr (v0,v1,v2,false,v3)))
def me:T2j->Option (T2j⊕((Bool×Unit)⊕(LDOu×T28))):=λ(v0,v1,v2,v3)=>bif(decide (v2<v1))then((gk v2).bind λx0=>
(fW v0 x0).bind λx1=>
(iy x1.2.2 16).bind λ(x2,_)=>bif(!x2)then(some (.inr (.inl (false,()))))else let x3:=w64 (v2+1);some (.inl (v0,v1,x3,v3)))else some (.inr (.inr (v0,v1,v2,false,v3)))
def lC(a0 a1:LI)(a2:LLI)(a3:z_)(a4:LDOp)(a5:LDOu):f_:=let x0:=f7 a2.length;
(match gd mf NN (a2,x0,0,a0,a1,a2,a3,a4,a5,())with
|none=>none
|some (.inl (x1,_))=>some (x1,())
|some (.inr (_,_,_,_,x5,x6,x7,x8,x9,ac,_))=>let ae:=f7 ac.length;
(match gd me NN (ac,ae,0,x5,x6,x7,x8,x9,ac,())with
|none=>none
|some (.inl (af,_))=>some (af,())
|some (.inr (_,_,_,_,aj,ak,am,an,ap,aq,_))=>let av:=f7 aj.length;bif(decide (av<=64))then(let ax:Int:=(f7 ak.length);bif(decide (ax<=64))then(let ay:Int:=(f7 am.length);bif(decide (ay<=2))then((mY an ap).bind λ(az,_)=>bif az then(let aA:Int:=(f7 aq.length);bif(decide (aA<=200))then((mX aq).bind λ(aB,_)=>some (aB,()))else some (false,()))else some (false,()))else some (false,()))else some (false,()))else some (false,())))
def F9:X.Cfg:=⟨E0,[jq,tD,u7],[],[⟨3,0,qS (zaa 1::sP 8 (yaa RW)::il [9,10]) [(4,uah)],[(.ret,qS yau []),(.exit 0,qS [zaa 1,sP 8 (yaa RW),Uaa 9,Uaa 10,Xaa 11] [(4,uah)])]⟩,⟨12,1,qS (zaa 1::sP 19 ly::il [20,21]) [(4,uah)],[(.ret,qS yau []),(.exit 2,qS [zaa 1,sP 19 ly,Uaa 20,Uaa 21,Xaa 22] [(4,uah)])]⟩]⟩
def p7:Ctr:=⟨125,23,[.agg uah],[],[⟨zab,[.one],[]⟩],ap6 lC⟩
theorem s8:Lk 4 p7:=ls F9 (aC j9 (aC xW (aC Cc aN)))
def sM(a0 a1:LLI)(a2 a3:LI):Option (LI×LI×LLI×LLCn×LDOp×Unit×Int×Unit):=
(sN a0).bind λ(x0,x1,x2,_)=>bif(x2 != 0)then(some ([],[],[],[],[],(),x2,()))else bif(gr 2 0 a2.length)then let x3:v_:=(List.append [] a2);bif(gr 2 0 a3.length)then let x4:v_:=(List.append [] a3);
(iT a1).bind λ(x5,_)=>
(lC x3 x4 x5 x0 x1 []).bind λ(x6,_)=>bif(!x6)then(some ([],[],[],[],[],(),3,()))else some (x3,x4,x5,x0,x1,(),0,())else none else none
def Ga:X.Cfg:=⟨E0,[Db,kS,p7],[],[]⟩
def yx:Ctr:=⟨129,24,uL [(yaa RW),(yaa RW),RW,RW],[],[⟨uL [RW,RW,(yaa RW),(yaa gp),jt,N1,I64],[.agg 6,.one],[]⟩],ap4 sM⟩
theorem Fz:Lk 5 yx:=ls Ga (aC Kx (aC nJ (aC s8 aN)))
def oE(a0:LI)(a1:Int):Option (LI×LI×LLI×LLCn×LDOp×Unit×T08):=
(i7 5 a0 a1).bind λ(x0,x1,x2,_)=>
(i7 3 x1 x2).bind λ(x3,x4,x5,_)=>let x6:List LI:=[x0,x3];
(i7 8 x4 x5).bind λ(x7,x8,x9,_)=>
(i7 4 x8 x9).bind λ(ac,ae,af,_)=>let ag:List LI:=[x7,ac];
(i7 5 ae af).bind λ(ah,ai,aj,_)=>
(i7 5 ai aj).bind λ(ak,am)=>
(sM x6 ag ah ak).bind λ(ap,aq,av,ax,ay,az,_,_)=>some (ap,aq,av,ax,ay,az,am)
def Eg:X.Cfg:=⟨E0,[vA,yx],[(10,(uaa CW)),(15,(uaa CW))],[]⟩
def w7:Ctr:=⟨95,25,[.ptr ⟨2,0,[]⟩ [0]],[(2,yab)],[⟨uL [RW,RW,(yaa RW),(yaa gp),jt,N1],[.agg 6],[(2,yab)]⟩],ap2 oE⟩
theorem DO:Lk 6 w7:=ls Eg (aC Ao (aC Fz aN))
def mp:T2P->Option (T2P⊕((Bool×Unit)⊕T2W)):=λ(v0,v1,v2,v3,v4,v5,v6,v7,v8,v9,eu,eF,_)=>bif(decide (v1<v0))then((gk v1).bind λx0=>
(fW eF x0).bind λ_=>
(fW eF x0).bind λx2=>
(bif(decide (x2<0))then(some (v0,v1,true,v2,v3,v4,v5,v6,v7,v8,v9,eu,eF,()))else bif(decide (x2>=8))then(some (v0,v1,true,v2,v3,v4,v5,v6,v7,v8,v9,eu,eF,()))else
(gk v1).bind λx3=>bif(Nat.beq x3 0)then(bif(!v7)then(some (v0,v1,(x2 != 0),v2,v3,v4,v5,v6,v7,v8,v9,eu,eF,()))else some (v0,v1,false,v2,v3,v4,v5,v6,v7,v8,v9,eu,eF,()))else bif(Nat.beq x3 1)then(bif(!v8)then(some (v0,v1,(x2 != 0),v2,v3,v4,v5,v6,v7,v8,v9,eu,eF,()))else some (v0,v1,false,v2,v3,v4,v5,v6,v7,v8,v9,eu,eF,()))else bif(Nat.beq x3 2)then(bif(!v9)then(some (v0,v1,(x2 != 0),v2,v3,v4,v5,v6,v7,v8,v9,eu,eF,()))else some (v0,v1,false,v2,v3,v4,v5,v6,v7,v8,v9,eu,eF,()))else bif(Nat.beq x3 3)then bif(!eu)then(some (v0,v1,(x2 != 0),v2,v3,v4,v5,v6,v7,v8,v9,eu,eF,()))else some (v0,v1,false,v2,v3,v4,v5,v6,v7,v8,v9,eu,eF,())else none:Option (T2W)).bind λ(x3,x4,x5,x6)=>bif x5 then(some (.inr (.inl (false,()))))else let aj:=w64 (x4+1);some (.inl (x3,aj,x6)))else some (.inr (.inr (v0,v1,false,v2,v3,v4,v5,v6,v7,v8,v9,eu,eF,())))
def pC(a0 a1 a2 a3 a4:Int):f_:=bif(decide (a0<0))then(some (false,()))else bif(decide (a0>24))then(some (false,()))else
(li a0).bind λ(x0,x1,x2,x3,_)=>let x4:v_:=[a1,a2,a3];let x5:=f7 x4.length;
(match gd mp NN (x5,0,a0,a1,a2,a3,a4,x0,x1,x2,x3,x4,())with
|none=>none
|some (.inl (x6,_))=>some (x6,())
|some (.inr (_,_,_,x9,ac,ae,af,ag,_,_,_,ak,_,_))=>
(bif(decide (ag<0))then(some (true,x9,ac,ae,af,ag,()))else bif(decide (ag>65535))then(some (true,x9,ac,ae,af,ag,()))else bif(!ak)then(some ((ag != 0),x9,ac,ae,af,ag,()))else some (false,x9,ac,ae,af,ag,()):Option (Bool×T0X)).bind λ(an,ap,_,_,_,ay,_)=>bif an then(some (false,()))else
(i6 ap).bind λ(az,_)=>bif az then(some ((decide (ay<64)),()))else bif(ap==15)then(some ((decide (ay<4)),()))else bif(ap==23)then(some ((decide (ay<=15)),()))else some (true,()))
def Gz:X.Cfg:=⟨E0,[vm,mN],[],[⟨12,0,qE,[(.normal,qS (zl [1,3]++Zaa 23 49::il [24,25]++[Xaa 45]) Uap)]⟩,⟨7,1,qS (zl [1,3]++Zaa 23 49::il [24,25]) Uap,[(.ret,qS yau []),(.exit 0,qS (zl [1,3]++Zaa 23 49::il [24,25]++[Xaa 26]) Uap)]⟩,⟨15,2,qE,[(.normal,qS [zaa 1,Xaa 64] [(4,Xae)])]⟩]⟩
def yJ:Ctr:=⟨76,26,[.agg Xae],[],[⟨zab,[.one],[]⟩],ap5 pC⟩
theorem FM:Lk 2 yJ:=ls Gz (aC Ak (aC oW aN))
def mo:T1v->Option (T1v⊕((Int×Unit)⊕T1P)):=λ(v0,v1,v2,v3,v4,v5,_)=>bif(decide (v2<v1))then((gk v2).bind λx0=>
(fW v0 x0).bind λx1=>let x2:=f7 x1.length;
(gk v2).bind λx3=>
(fW v4 x3).bind λx4=>bif(decide (x2>x4))then(some (.inr (.inl (1,()))))else let x5:=w64 (v2+1);some (.inl (v0,v1,x5,v3,v4,v5,())))else some (.inr (.inr (v0,v1,v2,false,v3,v4,v5,())))
def mn:T1n->Option (T1n⊕((Int×Unit)⊕T1M)):=λ(v0,v1,v2,v3)=>bif(decide (v2<v1))then((gk v2).bind λx0=>
(fW v0 x0).bind λx1=>
(pC x1.1 x1.2.1 x1.2.2.1 x1.2.2.2.1 x1.2.2.2.2).bind λ(x2,_)=>bif(!x2)then(some (.inr (.inl (5,()))))else let x3:=w64 (v2+1);some (.inl (v0,v1,x3,v3)))else some (.inr (.inr (v0,v1,v2,false,v3)))
def ml:T1n->Option (T1n⊕((Int×Unit)⊕T1M)):=λ(v0,v1,v2,v3,v4,v5,_)=>bif(decide (v2<v1))then((gk v2).bind λx0=>
(fW v0 x0).bind λx1=>
((i6 x1.1).bind λ(x2,_)=>bif x2 then(let x3:Int:=(f7 v3.length);bif(decide (x1.2.2.2.2>=x3))then(some (v0,v1,v2,true,v3,v4,v5,()))else bif(x1.1==15)then(let x4:Int:=(f7 v4.length);some (v0,v1,v2,(decide (x1.2.2.2.2>=x4)),v3,v4,v5,()))else some (v0,v1,v2,false,v3,v4,v5,()))else bif(x1.1==15)then(let x3:Int:=(f7 v4.length);some (v0,v1,v2,(decide (x1.2.2.2.2>=x3)),v3,v4,v5,()))else some (v0,v1,v2,false,v3,v4,v5,()):Option (T1M)).bind λ(x2,x3,x4,x5,x6)=>bif x5 then(some (.inr (.inl (6,()))))else let x9:=w64 (x4+1);some (.inl (x2,x3,x9,x6)))else some (.inr (.inr (v0,v1,v2,false,v3,v4,v5,())))
def lD(a0:LDIn)(a1:LI)(a2:LLI):h_:=
(i4 a1).bind λ(x0,_)=>bif(!x0)then(some (1,()))else let x1:=f7 a2.length;let x2:=f7 a1.length;bif(x1 != x2)then(some (1,()))else let x3:=f7 a2.length;
(match gd mo NN (a2,x3,0,a0,a1,a2,())with
|none=>none
|some (.inl (x4,_))=>some (x4,())
|some (.inr (_,_,_,_,x8,x9))=>let ae:=f7 x8.length;bif(decide (ae<1))then(some (3,()))else let af:=f7 x8.length;bif(decide (af>64))then(some (3,()))else let ag:=f7 x8.length;
(match gd mn NN (x8,ag,0,x8,x9)with
|none=>none
|some (.inl (ah,_))=>some (ah,())
|some (.inr (_,_,_,_,am,an))=>let aq:=f7 am.length;
(match gd ml NN (am,aq,0,am,an)with
|none=>none
|some (.inl (av,_))=>some (av,())
|some (.inr (_,_))=>some (0,()))))
def Gy:X.Cfg:=⟨E0,[qc,yJ,mN],[],[⟨6,0,qS (zaa 1::sP 23 (yaa RW)::il [24,25]) Uam,[(.ret,qS zau []),(.exit 0,qS [zaa 1,sP 23 (yaa RW),Uaa 24,Uaa 25,Xaa 26] Uam)]⟩,⟨18,1,qS (zaa 1::sP 50 gT::il [51,52]) Uam,[(.ret,qS zau []),(.exit 2,qS [zaa 1,sP 50 gT,Uaa 51,Uaa 52,Xaa 53] Uam)]⟩,⟨32,2,qE,[(.normal,qS [zaa 1,sP 61 gT,Uaa 62,Uaa 63,Xaa 90] Uam)]⟩,⟨27,3,qS (zaa 1::sP 61 gT::il [62,63]) Uam,[(.ret,qS zau []),(.exit 4,qS [zaa 1,sP 61 gT,Uaa 62,Uaa 63,Xaa 64] Uam)]⟩]⟩
def qa:Ctr:=⟨45,27,[.agg uab],[],[⟨Uac,[.one],[]⟩],ap3 lD⟩
theorem te:Lk 3 qa:=ls Gy (aC tn (aC FM (aC oW aN)))
def ms:T2L->Option (T2L⊕((Bool×Unit)⊕T2U)):=λ(v0,v1,v2,v3,v4,v5,v6,v7,v8,v9)=>bif(decide (v8<v7))then((match((gk v8).bind λx0=>
(fW v6 x0).bind λx1=>
(gk v1).bind λx2=>
(fW v0 x2).bind λx3=>let x4:=w64 (v2+x3);bif(decide (x4>=x1))then((gk v8).bind λx5=>
(fW v0 x5).bind λx6=>let x7:=w64 (x1+x6);bif(decide (x7>=v2))then(some (.inl (false,())))else some (.inr (v0,v1,v2,v3,v4,v5,v6,v7,v8,false,v9)))else some (.inr (v0,v1,v2,v3,v4,v5,v6,v7,v8,false,v9)):Option ((Bool×Unit)⊕T2U))with
|none=>none
|some (.inl (x0,_))=>some (.inr (.inl (x0,())))
|some (.inr (x0,x1,x2,x3,x4,x5,x6,x7,x8,_,ac))=>let af:=w64 (x8+1);some (.inl (x0,x1,x2,x3,x4,x5,x6,x7,af,ac))))else some (.inr (.inr (v0,v1,v2,v3,v4,v5,v6,v7,v8,false,v9)))
def mr:T1r->Option (T1r⊕((Bool×Unit)⊕(LI×T1p))):=λ(v0,v1,v2,v3,v4,v5,_)=>bif(decide (v3<v2))then((gk v3).bind λx0=>
(fW v1 x0).bind λx1=>bif(decide (x1<0))then(some (.inr (.inl (false,()))))else
(gk v3).bind λx2=>
(fW v0 x2).bind λx3=>let x4:=w64 (512-x3);bif(decide (x1>x4))then(some (.inr (.inl (false,()))))else
(gk v3).bind λx5=>bif(iX 0 x5 v4.length)then let x6:v_:=(nV v4 0 (Nat.sub x5 0));let x7:=f7 x6.length;
(match gd ms NN (v0,v3,x1,v1,v2,v3,x6,x7,0,v4,v5,())with
|none=>none
|some (.inl (x8,_))=>some (.inr (.inl (x8,())))
|some (.inr (x8,_,_,ae,af,ag,_,_,_,_,am))=>let ap:=w64 (ag+1);some (.inl (x8,ae,af,ap,am)))else none)else some (.inr (.inr (v0,v1,v2,v3,false,v4,v5,())))
def j3(a0:LI)(a1:Int)(a2:LI):f_:=
(i4 a2).bind λ(x0,_)=>bif(!x0)then(some (false,()))else let x1:=f7 a0.length;let x2:=f7 a2.length;bif(x1 != x2)then(some (false,()))else let x3:=f7 a0.length;
(match gd mr NN (a2,a0,x3,0,a0,a1,())with
|none=>none
|some (.inl (x4,_))=>some (x4,())
|some (.inr (_,_))=>some (true,()))
def GE:X.Cfg:=⟨E0,[qc],[],[⟨18,0,qE,[(.ret,qS uau []),(.normal,qS [sP 1 RI,zaa 2,Uaa 5,Uaa 6,sP 21 RI,Uaa 22,Uaa 23,sP 42 RI,Uaa 43,Uaa 44,Xaa 66] Xam)]⟩,⟨15,1,qS (sP 1 RI::zaa 2::il [5,6]++sP 21 RI::il [22,23]++sP 42 RI::il [43,44]) Xam,[(.ret,qS uau []),(.exit 2,qS [sP 1 RI,zaa 2,Uaa 5,Uaa 6,sP 21 RI,Uaa 22,Uaa 23,sP 42 RI,Uaa 43,Uaa 44,Xaa 45] Xam)]⟩,⟨6,2,qS [sP 1 RI,zaa 2,sP 21 RI,Uaa 22,Uaa 23] Xam,[(.ret,qS uau []),(.exit 0,qS [sP 1 RI,zaa 2,sP 21 RI,Uaa 22,Uaa 23,Xaa 24] Xam)]⟩]⟩
def nT:Ctr:=⟨33,28,[.agg Uab,shU RI],[],[⟨zab,[.one],[]⟩],ap3 j3⟩
theorem pX:Lk 2 nT:=ls GE (aC tn aN)
def A4:Int×Int×LDLn×Unit->Option ((Int×Int×LDLn×Unit)⊕(Int×Int×Bool×LDLn×Unit)):=λ(v0,v1,v2,_)=>bif(decide (v1<v0))then((gk v1).bind λx0=>
(fW v2 x0).bind λ_=>
(fW v2 x0).bind λ_=>let x3:=v2.modify x0 λe=>((-1),e.2);let x4:=w64 (v1+1);some (.inl (v0,x4,x3,())))else some (.inr (v0,v1,false,v2,()))
def pE:Option (LDLn×Unit):=bif(xT 4 4 3)then let x0:LDLn:=(List.replicate 4 (0,(false,[])));let x1:=f7 x0.length;
(gd A4 NN (x1,0,x0,())).bind λ(_,_,_,x5,_)=>some (x5,())else none
def GD:X.Cfg:=⟨E0,[],[(3,SR)],[(lx 4 0 (Zaa 1 5::il [5,6]) [(5,uL [iG])] 7)]⟩
def tJ:Ctr:=⟨36,29,[],[],[⟨uL [iG],[.one],[]⟩],λh=>pE⟩
theorem yc:Lk 1 tJ:=ls GD aN
def uw:T37->Option (T37⊕(Int×LLI×Int×Int×LI×T2O)):=λ(v0,v1,v2,v3,v4,v5,v6,v7,v8,v9,eu,eF,eH,eJ,eM,eQ,_)=>bif(decide (v6<v5))then((gk v6).bind λx0=>
(fW v4 x0).bind λx1=>
(gk v0).bind λx2=>
(fW eu x2).bind λx3=>let x4:=w64 (x3+v6);
(gk x4).bind λx5=>
(fW eM x5).bind λ_=>
(fW eM x5).bind λ_=>let x8:=eM.modify x5 λe=>(e.1,x1);let x9:=w64 (v6+1);some (.inl (v0,v1,v2,v3,v4,v5,x9,v7,v8,v9,eu,eF,eH,eJ,x8,eQ,())))else some (.inr (v0,v1,v2,v3,v4,v5,v6,false,v7,v8,v9,eu,eF,eH,eJ,eM,eQ,()))
def qt:T2V->Option (T2V⊕(T0k⊕(LLI×T2O))):=λ(v0,v1,v2,v3,v4,v5)=>bif(decide (v2<v1))then((gk v2).bind λx0=>
(fW v0 x0).bind λx1=>let x2:=f7 x1.length;
(gk v2).bind λx3=>
(fW v4 x3).bind λx4=>bif(decide (x2>x4))then(some (.inr (.inl (1,(),(),()))))else let x5:=f7 x1.length;
(gd uw NN (v2,v0,v1,v2,x1,x5,0,v3,v4,v5)).bind λ(_,x7,x8,x9,_,_,_,_,ah)=>let ax:=w64 (x9+1);some (.inl (x7,x8,ax,ah)))else some (.inr (.inr (v0,v1,v2,false,v3,v4,v5)))
def rq(a0:LDIn)(a1:LI)(a2:LLI)(a3:LI)(a4:Int):Option (LDCe×LDLn×Int×Unit):=
(j3 a3 a4 a1).bind λ(x0,_)=>bif(!x0)then(some ([],[],1,()))else let x1:=f7 a2.length;let x2:=f7 a1.length;bif(x1 != x2)then(some ([],[],1,()))else bif(xT 512 512 2)then let x3:LDCe:=(List.replicate 512 (0,0));
(pE).bind λ(x4,_)=>let x5:=f7 a2.length;
(match gd qt NN (a2,x5,0,a0,a1,a2,a3,a4,(),(),x3,x4,())with
|none=>none
|some (.inl (x6,_,_,_))=>some ([],[],x6,())
|some (.inr (_,_,_,_,_,_,_,_,_,_,_,ak,am,_))=>some (ak,am,0,()))else none
def Jj:X.Cfg:=⟨E0,[nT,tJ],[],[⟨16,0,qS (zl [2,3,4,6]++Uaa 7::sP 30 (yaa RW)::il [31,32]++sP 46 RW::il [47,48]) Uao,[(.exit 2,qS (zl [2,3,4,6]++Uaa 7::sP 30 (yaa RW)::il [31,32]++sP 46 RW::il [47,48]++[Xaa 49]) Uao)]⟩,⟨7,1,qS (zl [2,3,4,6]++sP 30 (yaa RW)::il [31,32]) Uao,[(.ret,qS Uav [(10,uac)]),(.exit 0,qS (zl [2,3,4,6]++sP 30 (yaa RW)::il [31,32]++[Xaa 33]) Uao)]⟩]⟩
def AP:Ctr:=⟨64,30,[.agg uab,.agg Uab],[],[⟨uL [(uaa KCe),iG,I64],[.agg 2,.one],[]⟩],ap5 rq⟩
theorem Iy:Lk 3 AP:=ls Jj (aC pX (aC yc aN))
def tY:T2G->Option (T2G⊕(Int×Bool×T2C)):=λ(v0,v1,v2,v3,v4,v5,v6,v7,v8,v9,eu,_)=>bif(decide (v0<4))then(bif(xT 8 8 2)then let x0:LDCe:=(List.replicate 8 (0,0));
(bif(v0==0)then(some (v0,v1,v2,v3,v4,v5,v6,v7,v8,v9,eu,1,x0,0,0,(-1),(-1),0,0,()))else some (v0,v1,v2,v3,v4,v5,v6,v7,v8,v9,eu,0,x0,0,0,(-1),(-1),0,0,()):Option (Int×Unit×Int×Unit×Unit×Unit×T2Y)).bind λ(x1,x2,x3,x4,x5,x6,x7,x8,x9,ac,ae,af,ag,ah,ai,aj,ak,am,an,_)=>let ap:LDTh:=[(af,(ag,(ah,(ai,(aj,(ak,(am,an)))))))];bif(gr 80 ae.length ap.length)then let aq:LDTh:=(List.append ae ap);let av:=w64 (x1+1);some (.inl (av,x2,x3,x4,x5,x6,x7,x8,x9,ac,aq,()))else none else none)else some (.inr (v0,false,v1,v2,v3,v4,v5,v6,v7,v8,v9,eu,()))
def nj(a0:LDIn)(a1:LI)(a2:LLI)(a3:LI)(a4:Int):Option (LI×Int×LDCe×LDLn×LDTh×Int×Unit):=
(lD a0 a1 a2).bind λ(x0,_)=>bif(x0 != 0)then(some ([],0,[],[],[],x0,()))else
(j3 a3 a4 a1).bind λ(x1,_)=>bif(!x1)then(some ([],0,[],[],[],1,()))else
(rq a0 a1 a2 a3 a4).bind λ(x2,x3,_,_)=>bif(gr 8 0 a3.length)then let x5:v_:=(List.append [] a3);
(gd tY NN (0,(),0,(),(),(),x5,a4,x2,x3,[],())).bind λ(_,_,_,_,_,_,_,ag,ah,ai,aj,ak,_)=>some (ag,ah,ai,aj,ak,0,())else none
def Gx:X.Cfg:=⟨E0,[qa,nT,AP],[(49,SQ),(50,SQ)],[⟨18,0,qE,[(.normal,qS (zl [4,9,11]++[Uaa 38]) [(10,Zab),(20,ual),(24,uag)])]⟩,(lx 12 1 [zaa 4,zaa 9,Uaa 38] [(10,Zab),(20,ual)] 39)]⟩
def tG:Ctr:=⟨38,31,[.agg uab,.agg Uab],[],[⟨uL [RI,CW,gU,iI,qR,I64],[.agg 5,.one],[]⟩],ap5 nj⟩
theorem xZ:Lk 4 tG:=ls Gx (aC te (aC pX (aC Iy aN)))
def ib(a0:LI)(a1 a2:Int):f_:=bif(decide (a1>=0))then(let x0:Int:=(f7 a0.length);bif(decide (a1<x0))then(bif(decide (a2>=0))then((gk a1).bind λx1=>
(fW a0 x1).bind λx2=>some ((decide (a2<x2)),()))else some (false,()))else some (false,()))else some (false,())
def D5:X.Cfg:=⟨E0,[],[],[]⟩
def ma:Ctr:=⟨63,32,[shU RI,.agg yad],[],[⟨zab,[.one],[]⟩],ap3 ib⟩
theorem oI:Lk 1 ma:=ls D5 aN
def iw(a0:LI)(a1 a2 a3 a4:Int):f_:=bif(a1==0)then(bif(a3==0)then(some ((a4==0),()))else some (false,()))else bif(a1==2)then(bif(a3==0)then(some ((a4==0),()))else some (false,()))else bif(a1==1)then(bif(a2==0)then((ib a0 a3 a4).bind λ(x0,_)=>some (x0,()))else some (false,()))else some (false,())
def D4:X.Cfg:=⟨E0,[ma],[],[]⟩
def l9:Ctr:=⟨35,33,[shU RI,.agg zag],[],[⟨zab,[.one],[]⟩],ap5 iw⟩
theorem oH:Lk 2 l9:=ls D4 (aC oI aN)
def lB:T2n->Option (T2n⊕((Bool×Unit)⊕(LI×LLCn×Int×Int×LDCn×T0W))):=λ(v0,v1,v2,v3,v4,v5,v6,v7)=>bif(decide (v6<v5))then((gk v6).bind λx0=>
(fW v4 x0).bind λx1=>
(iw v0 x1.1 x1.2.1 x1.2.2.1 x1.2.2.2).bind λ(x2,_)=>bif(!x2)then(some (.inr (.inl (false,()))))else let x3:=w64 (v6+1);some (.inl (v0,v1,v2,v3,v4,v5,x3,v7)))else some (.inr (.inr (v0,v1,v2,v3,v4,v5,v6,false,v7)))
def lA:LI×T15->Option ((LI×T15)⊕((Bool×Unit)⊕(LI×LLCn×T0W))):=λ(v0,v1,v2,v3,v4)=>bif(decide (v3<v2))then((gk v3).bind λx0=>
(fW v1 x0).bind λx1=>let x2:=f7 x1.length;
(match gd lB NN (v0,v1,v2,v3,x1,x2,0,v4)with
|none=>none
|some (.inl (x3,_))=>some (.inr (.inl (x3,())))
|some (.inr (x3,x4,x5,x6,_,_,_,_,ae))=>let ag:=w64 (x6+1);some (.inl (x3,x4,x5,ag,ae))))else some (.inr (.inr (v0,v1,v2,v3,false,v4)))
def oq(a0:LI)(a1:z_)(a2:LDOp):f_:=let x0:=f7 a1.length;
(match gd lA NN (a0,a1,x0,0,a1,a2,())with
|none=>none
|some (.inl (x1,_))=>some (x1,())
|some (.inr (_,_))=>some (true,()))
def DW:X.Cfg:=⟨E0,[l9],[],[⟨9,0,qS (sP 0 RI::sP 10 (yaa gp)::il [11,12]++sP 16 gp::il [17,18]) [(8,zae)],[(.ret,qS uau []),(.exit 2,qS [sP 0 RI,sP 10 (yaa gp),Uaa 11,Uaa 12,sP 16 gp,Uaa 17,Uaa 18,Xaa 19] [(8,zae)])]⟩,⟨3,1,qS (sP 0 RI::sP 10 (yaa gp)::il [11,12]) [(8,zae)],[(.ret,qS uau []),(.exit 0,qS [sP 0 RI,sP 10 (yaa gp),Uaa 11,Uaa 12,Xaa 13] [(8,zae)])]⟩]⟩
def wK:Ctr:=⟨126,34,[shU RI,.agg zae],[],[⟨zab,[.one],[]⟩],ap3 oq⟩
theorem Dy:Lk 3 wK:=ls DW (aC oH aN)
def kY:T2o->Option (T2o⊕(LLCn×T2a)):=λ(v0,v1,v2,v3,v4,v5,v6,v7,v8,_)=>bif(decide (v2<v1))then((gk v2).bind λx0=>
(fW v0 x0).bind λx1=>bif(gr 24 0 x1.length)then let x2:LDCn:=(List.append [] x1);bif(gr 24 v7.length (List.length [x2]))then let x3:z_:=(List.append v7 [x2]);let x4:=w64 (v2+1);some (.inl (v0,v1,x4,v3,v4,v5,v6,x3,v8,()))else none else none)else some (.inr (v0,v1,v2,false,v3,v4,v5,v6,v7,v8,()))
def jj(a0:z_)(a1:LDOp):Option (T0a):=bif(gr 24 0 a1.length)then let x0:LDOp:=(List.append [] a1);let x1:=f7 a0.length;
(gd kY NN (a0,x1,0,a0,a1,(),(),[],x0,())).bind λ(_,_,_,_,_,_,_,_,ac)=>some (ac)else none
def IW:X.Cfg:=⟨E0,[],[(21,(uaa KCn)),(22,(uaa KCn))],[(lx 4 0 (zl [2,3]++sP 11 (yaa gp)::il [12,13]) [(4,zae),(6,uac),(8,Uaf)] 14)]⟩
def lw:Ctr:=⟨149,35,[.agg zae],[],[⟨Uaf,[.agg 2],[]⟩],ap2 jj⟩
theorem mK:Lk 1 lw:=ls IW aN
def kW:LDOu×Int×Int×LDOu×Unit->Option ((LDOu×Int×Int×LDOu×Unit)⊕(LDOu×Int×Int×Bool×LDOu×Unit)):=λ(v0,v1,v2,v3,_)=>bif(decide (v2<v1))then((gk v2).bind λx0=>
(fW v0 x0).bind λx1=>bif(gr 24 0 x1.2.2.length)then let x2:LDCn:=(List.append [] x1.2.2);let x3:LDOu:=[(x1.1,(x1.2.1,x2))];bif(gr 40 v3.length x3.length)then let x4:LDOu:=(List.append v3 x3);let x5:=w64 (v2+1);some (.inl (v0,v1,x5,x4,()))else none else none)else some (.inr (v0,v1,v2,false,v3,()))
def kX(a0:LDOu):Option (LDOu×Unit):=let x0:=f7 a0.length;
(gd kW NN (a0,x0,0,[],())).bind λ(_,_,_,_,x5,_)=>some (x5,())
def IR:X.Cfg:=⟨E0,[],[(18,JX),(19,JX)],[(lx 4 0 (Zaa 3 9::sP 6 ly::il [7,8]) [(9,yak)] 9)]⟩
def u9:Ctr:=⟨150,36,uL [ly],[],[⟨yak,[.one],[]⟩],ap1 kX⟩
theorem Ae:Lk 1 u9:=ls IR aN
def rd(a0 a1:LI)(a2:LLI)(a3:z_)(a4:LDOp)(a5:LDOu):Option (T1s):=bif(gr 2 0 a0.length)then let x0:v_:=(List.append [] a0);bif(gr 2 0 a1.length)then let x1:v_:=(List.append [] a1);
(iT a2).bind λ(x2,_)=>
(jj a3 a4).bind λ(x3,x4,_)=>
(kX a5).bind λ(x5,_)=>some (x0,x1,x2,x3,x4,x5,())else none else none
def IN:X.Cfg:=⟨E0,[kS,lw,u9],[],[]⟩
def u5:Ctr:=⟨127,37,[.agg uah],[],[⟨zak,[.agg 6],[]⟩],ap6 rd⟩
theorem Ad:Lk 2 u5:=ls IN (aC nJ (aC mK (aC Ae aN)))
def Dq:T1i->Option (T1i⊕T1z):=λ(v0,v1,v2,v3,v4,v5,_)=>bif(decide (v1<v0))then((gk v1).bind λx0=>
(fW v4 x0).bind λ_=>
(fW v4 x0).bind λ_=>let x3:=v4.modify x0 λe=>(-1);let x4:=w64 (v1+1);some (.inl (v0,x4,v2,v3,x3,v5,())))else some (.inr (v0,v1,false,v2,v3,v4,v5,()))
def w9:Option (T09):=bif(xT 4 4 1)then let x0:v_:=(List.replicate 4 0);bif(xT 4 4 1)then let x1:List LI:=(List.replicate 4 []);let x2:=f7 x0.length;
(gd Dq NN (x2,0,(),(),x0,x1,())).bind λ(_,_,_,_,_,x8)=>some (x8)else none else none
def KK:X.Cfg:=⟨E0,[],[(4,(uaa I64))],[(lx 4 0 (zl [0,1]++il [8,9]) [(2,uac),(4,yaf)] 10)]⟩
def Dc:Ctr:=⟨128,38,[],[],[⟨yaf,[.agg 2],[]⟩],λh=>w9⟩
theorem Ky:Lk 1 Dc:=ls KK aN
def A3:T46->Option (T46⊕(Int×Bool×T43)):=λ(v0,v1,v2,v3,v4,v5,v6,v7,v8,v9,eu,eF,eH,eJ,eM,eQ,eW,eY,fa,fe,fh,fj,fm,fr,fv,fA,fB,fC,fD,fE,fF,fG,fH,fI,fJ,fK,fL,_)=>bif(decide (v0<4))then(bif(gr 8 fL.length (List.length [(-1)]))then let x0:v_:=(List.append fL [(-1)]);let x1:=w64 (v0+1);some (.inl (x1,v1,v2,v3,v4,v5,v6,v7,v8,v9,eu,eF,eH,eJ,eM,eQ,eW,eY,fa,fe,fh,fj,fm,fr,fv,fA,fB,fC,fD,fE,fF,fG,fH,fI,fJ,fK,x0,()))else none)else some (.inr (v0,false,v1,v2,v3,v4,v5,v6,v7,v8,v9,eu,eF,eH,eJ,eM,eQ,eW,eY,fa,fe,fh,fj,fm,fr,fv,fA,fB,fC,fD,fE,fF,fG,fH,fI,fJ,fK,fL,()))
def sK(a0:LDIn)(a1:LI)(a2:LLI)(a3:LI)(a4:Int)(a5 a6:LI)(a7:LLI)(a8:z_)(a9:LDOp)(eq:LDOu):Option (LDIn×LI×LLI×LI×Int×LDCe×LDLn×LDTh×LI×LI×LLI×LLCn×LDOp×LDOu×LI×LLI×Unit×T08):=
(nj a0 a1 a2 a3 a4).bind λ(x0,x1,x2,x3,x4,x5,_)=>bif(x5 != 0)then(some ([],[],[],[],0,[],[],[],[],[],[],[],[],[],[],[],(),[],x5,()))else
(lC a5 a6 a7 a8 a9 eq).bind λ(x6,_)=>bif(!x6)then(some ([],[],[],[],0,[],[],[],[],[],[],[],[],[],[],[],(),[],1,()))else
(oq a1 a8 a9).bind λ(x7,_)=>bif(!x7)then(some ([],[],[],[],0,[],[],[],[],[],[],[],[],[],[],[],(),[],1,()))else
(rd a5 a6 a7 a8 a9 eq).bind λ(x8,x9,ac,ae,af,ag,_)=>
(w9).bind λ(ah,ai,_)=>
(gd A3 NN (0,(),(),(),(),0,(),(),(),(),(),(),(),(),(),(),(),(),(),a0,a1,a2,x0,x1,x2,x3,x4,x8,x9,ac,ae,af,ag,ah,ai,(),[],())).bind λ(_,_,_,_,_,_,_,_,_,_,_,_,_,_,_,_,_,_,_,_,aL,aM,aO,aP,aQ,aR,aS,aT,aU,aV,aW,aY,aZ,ba,bc,bd,be,bf,_)=>some (aL,aM,aO,aP,aQ,aR,aS,aT,aU,aV,aW,aY,aZ,ba,bc,bd,be,bf,0,())
def F7:X.Cfg:=⟨E0,[tG,p7,wK,u5,Dc],[],[(lx 11 0 [zaa 6,zaa 10,Uaa 39] [(14,Zae),(22,uL [gT,RI,(yaa RW),RI,CW,gU,iI,qR,(uaa CW),(uaa CW),(uaa (uaa CW)),(uaa (uaa KCn)),(uaa KOp),(uaa JX),(uaa I64),(uaa (uaa I64)),N1,(uaa I64)])] 40)]⟩
def yw:Ctr:=⟨93,39,[.agg uab,.agg Uab,.agg uah],[],[⟨uL [gT,RI,(yaa RW),RI,CW,gU,iI,qR,(uaa CW),(uaa CW),(uaa (uaa CW)),(uaa (uaa KCn)),(uaa KOp),(uaa JX),(uaa I64),(uaa (uaa I64)),N1,(uaa I64),I64],[.agg 18,.one],[]⟩],as2 (as8 ap1) sK⟩
theorem Fy:Lk 5 yw:=ls F7 (aC xZ (aC s8 (aC Dy (aC Ad (aC Ky aN)))))
def pQ(a0:LI)(a1:Int):Option (T0V):=
(fX 4 a0 a1).bind λ(x0,x1,x2,_)=>let x3:v_:=[0,1,2,3,7,63];
(fX 6 x1 x2).bind λ(x4,x5,x6,_)=>
(gk x4).bind λx7=>
(fW x3 x7).bind λ_=>
(fW x3 x7).bind λx9=>
(fX 4 x5 x6).bind λ(ac,ae)=>some (x0,x9,(ac==0),ae)
def GX:X.Cfg:=⟨E0,[ia],[],[]⟩
def yY:Ctr:=⟨97,40,[.ptr ⟨2,0,[]⟩ [0]],[(2,yab)],[⟨zaj,[.agg 3],[(2,yab)]⟩],ap2 pQ⟩
theorem F2:Lk 4 yY:=ls GX (aC ij aN)
def kt:T0I->Option (T0I⊕(LDTh×Int×Int×T00)):=λ(v0,v1,v2,v3,_)=>bif(decide (v2<v1))then(((gk v2).bind λx0=>
(fW v0 x0).bind λx1=>bif(x1.1==1)then(bif(gr 8 v3.length (List.length [v2]))then let x2:v_:=(List.append v3 [v2]);some (v0,v1,v2,x2,())else none)else some (v0,v1,v2,v3,()):Option (T0I)).bind λ(x0,x1,x2,x3,_)=>let x4:=w64 (x2+1);some (.inl (x0,x1,x4,x3,())))else some (.inr (v0,v1,v2,false,v3,()))
def pB(a0:LDTh):Option (LI×Unit):=let x0:=f7 a0.length;
(gd kt NN (a0,x0,0,[],())).bind λ(_,_,_,_,x5,_)=>some (x5,())
def Gu:X.Cfg:=⟨E0,[],[],[⟨7,0,qE,[(.normal,qS Xaw [(9,uaf)])]⟩,(lx 4 1 Xaw [(9,uaf)] 9)]⟩
def yG:Ctr:=⟨130,41,uL [mO],[],[⟨uaf,[.one],[]⟩],ap1 pB⟩
theorem FI:Lk 1 yG:=ls Gu aN
def ot(a0:LDIn)(a1:LI)(a2:LLI)(a3:LI)(a4:Int)(a5:LDCe)(a6:LDLn)(a7:LDTh)(a8 a9:LI)(eq:LLI)(eE:z_)(eG:LDOp)(eI:LDOu)(eK:LI)(eO:LLI)(eS:LDEn)(eX:LI):Option (T3g):=bif(gr 8 0 eX.length)then let x0:v_:=(List.append [] eX);bif(gr 184 0 eS.length)then let x1:LDEn:=(List.append [] eS);some (a0,a1,a2,a3,a4,a5,a6,a7,a8,a9,eq,eE,eG,eI,eK,eO,x1,x0,())else none else none
def DX:X.Cfg:=⟨E0,[],[(9,Qz)],[]⟩
def wL:Ctr:=⟨131,42,[.agg Zah],[],[⟨yal,[.agg 18],[]⟩],as1 (as8 (as8 ap1)) ot⟩
theorem Dz:Lk 1 wL:=ls DX aN
def qn(a0:LI)(a1:Int)(a2:LDCe)(a3:LDLn)(a4:LDTh)(a5:Int):f_:=bif(decide (a5<0))then(some (false,()))else let x0:=f7 a4.length;bif(decide (a5>=x0))then(some (false,()))else
(gk a5).bind λx1=>
(fW a4 x1).bind λx2=>bif(x2.1==1)then(bif(x2.2.2.2.2.1 != (-1))then(some ((x2.2.2.2.2.2.1==(-1)),()))else some (false,()))else some (false,())
def KJ:X.Cfg:=⟨E0,[],[],[]⟩
def xz:Ctr:=⟨132,43,[.agg zac,shU I64],[],[⟨zab,[.one],[]⟩],ap6 qn⟩
theorem Ce:Lk 1 xz:=ls KJ aN
def lj:T2i->Option (T2i⊕(LDLn×Int×Int×Bool×T1m)):=λ(v0,v1,v2,v3,v4,v5,v6,v7,v8,_)=>bif(decide (v2<v1))then((gk v2).bind λx0=>
(fW v0 x0).bind λx1=>bif(gr 4 0 x1.2.2.length)then let x2:LDCe:=(List.append [] x1.2.2);let x3:LDLn:=[(x1.1,(x1.2.1,x2))];bif(gr 40 v8.length x3.length)then let x4:LDLn:=(List.append v8 x3);let x5:=w64 (v2+1);some (.inl (v0,v1,x5,v3,v4,v5,v6,v7,x4,()))else none else none)else some (.inr (v0,v1,v2,false,v3,v4,v5,v6,v7,v8,()))
def ru(a0:LDCe)(a1:LDLn):Option (T06):=bif(gr 4 0 a0.length)then let x0:LDCe:=(List.append [] a0);let x1:=f7 a1.length;
(gd lj NN (a1,x1,0,a0,a1,(),(),x0,[],())).bind λ(_,_,_,_,_,_,_,_,ac)=>some (ac)else none
def Jk:X.Cfg:=⟨E0,[],[(24,SR),(25,SR)],[(lx 4 0 (zl [2,3]++sP 11 iI::il [12,13]) [(4,zad),(6,uac),(8,Xad)] 14)]⟩
def AQ:Ctr:=⟨91,44,[.agg zad],[],[⟨Xad,[.agg 2],[]⟩],ap2 ru⟩
theorem Iz:Lk 1 AQ:=ls Jk aN
def lf:T3h->Option (T3h⊕T3p):=λ(v0,v1,v2,v3,v4,v5,v6,v7,v8,v9,eu,eF,eH,eJ,eM,eQ,eW,eY,_)=>bif(decide (v2<v1))then((gk v2).bind λx0=>
(fW v0 x0).bind λx1=>bif(gr 4 0 x1.2.1.length)then let x2:LDCe:=(List.append [] x1.2.1);let x3:LDTh:=[(x1.1,(x2,(x1.2.2.1,(x1.2.2.2.1,(x1.2.2.2.2.1,(x1.2.2.2.2.2.1,(x1.2.2.2.2.2.2.1,x1.2.2.2.2.2.2.2)))))))];bif(gr 80 eY.length x3.length)then let x4:LDTh:=(List.append eY x3);let x5:=w64 (v2+1);some (.inl (v0,v1,x5,v3,v4,v5,v6,v7,v8,v9,eu,eF,eH,eJ,eM,eQ,eW,x4,()))else none else none)else some (.inr (v0,v1,v2,false,v3,v4,v5,v6,v7,v8,v9,eu,eF,eH,eJ,eM,eQ,eW,eY,()))
def lh(a0:LI)(a1:Int)(a2:LDCe)(a3:LDLn)(a4:LDTh):Option (T14):=bif(gr 8 0 a0.length)then let x0:v_:=(List.append [] a0);
(ru a2 a3).bind λ(x1,x2,_)=>let x3:=f7 a4.length;
(gd lf NN (a4,x3,0,a0,a1,a2,a3,a4,(),0,(),(),(),x0,a1,x1,x2,[],())).bind λ(_,_,_,_,_,_,_,_,_,_,_,_,_,_,am)=>some (am)else none
def Jd:X.Cfg:=⟨E0,[AQ],[(32,SQ),(33,SQ)],[(lx 4 0 (zl [2,3]++sP 19 mO::il [20,21]) [(4,zac),(6,Zab),(8,uad)] 22)]⟩
def o4:Ctr:=⟨56,45,[.agg zac],[],[⟨uad,[.agg 5],[]⟩],ap5 lh⟩
theorem rF:Lk 2 o4:=ls Jd (aC Iz aN)
def mZ(a0:LI)(a1:Int)(a2:LDCe)(a3:LDLn)(a4:LDTh)(a5:Int):Option (T1q):=
(lh a0 a1 a2 a3 a4).bind λ(x0,x1,x2,x3,x4,_)=>
(qn a0 a1 a2 a3 a4 a5).bind λ(x5,_)=>bif(!x5)then(some (x0,x1,x2,x3,x4,false,()))else
(gk a5).bind λx6=>
(fW x4 x6).bind λ_=>
(fW x4 x6).bind λx8=>
(fW x4 x6).bind λx9=>
(fW x4 x6).bind λ_=>let ae:=x4.modify x6 λe=>(e.1,(e.2.1,(e.2.2.1,(e.2.2.2.1,(e.2.2.2.2.1,(x8.2.2.1,e.2.2.2.2.2.2))))));
(fW ae x6).bind λ_=>let ag:=ae.modify x6 λe=>(e.1,(e.2.1,(x9.2.2.2.2.1,e.2.2.2)));some (x0,x1,x2,x3,ag,true,())
def Cz:X.Cfg:=⟨E0,[o4,xz],[],[]⟩
def ve:Ctr:=⟨133,46,[.agg zac,shU I64],[],[⟨zal,[.agg 5,.one],[]⟩],ap6 mZ⟩
theorem Cd:Lk 3 ve:=ls Cz (aC rF (aC Ce aN))
def nz(a0 a1:Int):f_:=some ((decide (a0<=2)),())
def GI:X.Cfg:=⟨E0,[],[],[]⟩
def tL:Ctr:=⟨79,47,[.agg Xab],[],[⟨zab,[.one],[]⟩],ap2 nz⟩
theorem yd:Lk 1 tL:=ls GI aN
def oy:T0l->Option (T0l⊕((Bool×Unit)⊕T0E)):=λ(v0,v1,v2,_)=>bif(decide (v2<v1))then((gk v2).bind λx0=>
(fW v0 x0).bind λx1=>
(nz x1.1 x1.2).bind λ(x2,_)=>bif(!x2)then(some (.inr (.inl (false,()))))else let x3:=w64 (v2+1);some (.inl (v0,v1,x3,())))else some (.inr (.inr (v0,v1,v2,false,())))
def qr(a0:LDCe):f_:=let x0:=f7 a0.length;
(match gd oy NN (a0,x0,0,())with
|none=>none
|some (.inl (x1,_))=>some (x1,())
|some (.inr (_,_))=>some (true,()))
def KQ:X.Cfg:=⟨E0,[tL],[],[⟨3,0,qS (sP 5 gU::il [6,7]) [],[(.ret,qS yau []),(.exit 0,qS [sP 5 gU,Uaa 6,Uaa 7,Xaa 8] [])]⟩]⟩
def Dh:Ctr:=⟨78,48,uL [gU],[],[⟨zab,[.one],[]⟩],ap1 qr⟩
theorem KD:Lk 2 Dh:=ls KQ (aC yd aN)
def mq:T12->Option (T12⊕((Bool×Unit)⊕T1o)):=λ(v0,v1,v2,v3)=>bif(decide (v2<v1))then((gk v2).bind λx0=>
(fW v0 x0).bind λx1=>bif(x1.1==(-1))then(bif x1.2.1 then(some (.inr (.inl (false,()))))else let x2:=f7 x1.2.2.length;bif(decide (x2>0))then(some (.inr (.inl (false,()))))else let x3:=w64 (v2+1);some (.inl (v0,v1,x3,v3)))else
(bif(decide (x1.1<0))then(some (v0,v1,v2,true,v3))else bif(decide (x1.1>=128))then(some (v0,v1,v2,true,v3))else let x2:=Int.tmod x1.1 4;bif(x2 != v2)then(some (v0,v1,v2,true,v3))else let x3:=f7 x1.2.2.length;bif(x3 != 4)then(some (v0,v1,v2,true,v3))else
(qr x1.2.2).bind λ(x4,_)=>some (v0,v1,v2,(!x4),v3):Option (T1o)).bind λ(x2,x3,x4,x5,x6)=>bif x5 then(some (.inr (.inl (false,()))))else let x8:=w64 (x4+1);some (.inl (x2,x3,x8,x6)))else some (.inr (.inr (v0,v1,v2,false,v3)))
def pD(a0:LDCe)(a1:LDLn):f_:=
(let x0:=f7 a0.length;bif(x0 != 512)then(some (true,a0,a1,()))else let x1:=f7 a1.length;bif(x1 != 4)then(some (true,a0,a1,()))else
(qr a0).bind λ(x2,_)=>some ((!x2),a0,a1,()):Option (T0e)).bind λ(x0,x1,x2,_)=>bif x0 then(some (false,()))else let x3:=f7 x2.length;
(match gd mq NN (x2,x3,0,x1,x2,())with
|none=>none
|some (.inl (x4,_))=>some (x4,())
|some (.inr (_,_))=>some (true,()))
def GC:X.Cfg:=⟨E0,[Dh],[],[⟨2,0,qE,[(.normal,qS [zaa 1,Xaa 20] yan)]⟩,⟨16,1,qE,[(.normal,qS [sP 22 iI,Uaa 23,Uaa 24,Xaa 66] yan)]⟩,⟨6,2,qS (sP 22 iI::il [23,24]) yan,[(.ret,qS yau []),(.exit 0,qS [sP 22 iI,Uaa 23,Uaa 24,Xaa 25] yan)]⟩]⟩
def yK:Ctr:=⟨46,49,[.agg zad],[],[⟨zab,[.one],[]⟩],ap2 pD⟩
theorem FN:Lk 3 yK:=ls GC (aC KD aN)
def mj:T2H->Option (T2H⊕((Bool×Unit)⊕(LDCe×Int×Int×Bool×T21))):=λ(v0,v1,v2,v3)=>bif(decide (v2<v1))then((gk v2).bind λx0=>
(fW v0 x0).bind λx1=>
(nz x1.1 x1.2).bind λ(x2,_)=>bif(!x2)then(some (.inr (.inl (false,()))))else let x3:=w64 (v2+1);some (.inl (v0,v1,x3,v3)))else some (.inr (.inr (v0,v1,v2,false,v3)))
def pA(a0:Int)(a1:LDCe)(a2 a3 a4 a5 a6 a7:Int):f_:=let x0:=f7 a1.length;
(match gd mj NN (a1,x0,0,a0,a1,a2,a3,a4,a5,a6,a7,())with
|none=>none
|some (.inl (x1,_))=>some (x1,())
|some (.inr (_,_,_,_,x5,x6,x7,x8,x9,ac,ae,_,_))=>bif(decide (x5>=0))then(bif(decide (x5<=4))then(let ag:Int:=(f7 x6.length);bif(ag==8)then(bif(decide (x7>=0))then(bif(decide (x7<=255))then(bif(decide (x8>=0))then(bif(decide (x8<=1099511627776))then(bif(decide (x9>=(-1)))then(bif(decide (x9<=255))then(bif(decide (ac>=(-1)))then(bif(decide (ac<=255))then(bif(decide (ae>=0))then(some ((decide (ae<=6)),()))else some (false,()))else some (false,()))else some (false,()))else some (false,()))else some (false,()))else some (false,()))else some (false,()))else some (false,()))else some (false,()))else some (false,()))else some (false,()))else some (false,()))
def Gt:X.Cfg:=⟨E0,[tL],[],[⟨3,0,qS (zaa 1::sP 6 gU::il [7,8]) [(4,yae)],[(.ret,qS yau []),(.exit 0,qS [zaa 1,sP 6 gU,Uaa 7,Uaa 8,Xaa 9] [(4,yae)])]⟩]⟩
def yF:Ctr:=⟨47,50,[.agg yae],[],[⟨zab,[.one],[]⟩],as1 (as2 (as4 ap1)) pA⟩
theorem FH:Lk 2 yF:=ls Gt (aC yd aN)
def pb:T23->Option (T23⊕((Bool×Unit)⊕(LDTh×Int×Int×T1a))):=λ(v0,v1,v2,v3)=>bif(decide (v2<v1))then((gk v2).bind λx0=>
(fW v0 x0).bind λx1=>
(pA x1.1 x1.2.1 x1.2.2.1 x1.2.2.2.1 x1.2.2.2.2.1 x1.2.2.2.2.2.1 x1.2.2.2.2.2.2.1 x1.2.2.2.2.2.2.2).bind λ(x2,_)=>bif(!x2)then(some (.inr (.inl (false,()))))else let x3:=w64 (v2+1);some (.inl (v0,v1,x3,v3)))else some (.inr (.inr (v0,v1,v2,false,v3)))
def iL(a0:LDIn)(a1:LI)(a2:LLI)(a3:LI)(a4:Int)(a5:LDCe)(a6:LDLn)(a7:LDTh):f_:=
((lD a0 a1 a2).bind λ(x0,_)=>bif(x0 != 0)then(some (true,a3,a4,a5,a6,a7,()))else
(j3 a3 a4 a1).bind λ(x1,_)=>bif(!x1)then(some (true,a3,a4,a5,a6,a7,()))else
(pD a5 a6).bind λ(x2,_)=>bif(!x2)then(some (true,a3,a4,a5,a6,a7,()))else let x3:=f7 a7.length;some ((x3 != 4),a3,a4,a5,a6,a7,()):Option (T1a)).bind λ(x0,x1,x2,x3,x4,x5,_)=>bif x0 then(some (false,()))else let x6:=f7 x5.length;
(match gd pb NN (x5,x6,0,x1,x2,x3,x4,x5,())with
|none=>none
|some (.inl (x7,_))=>some (x7,())
|some (.inr (_,_))=>some (true,()))
def Gr:X.Cfg:=⟨E0,[qa,nT,yK,yF],[],[⟨2,0,qE,[(.normal,qS [zaa 3,Xaa 29] [(8,zac)])]⟩,⟨6,1,qS (sP 31 mO::il [32,33]) [(8,zac)],[(.ret,qS uau []),(.exit 0,qS [sP 31 mO,Uaa 32,Uaa 33,Xaa 34] [(8,zac)])]⟩]⟩
def nS:Ctr:=⟨17,51,[.agg uab,.agg zac],[],[⟨zab,[.one],[]⟩],as1 (as2 (as4 ap1)) iL⟩
theorem pW:Lk 4 nS:=ls Gr (aC te (aC pX (aC FN (aC FH aN))))
def iD(a0:Nat)(a1:Int)(a2:LDTh):Option (Int×LDTh×Unit):=
(fW a2 a0).bind λ_=>let x1:=a2.modify a0 λe=>(4,e.2);
(fW x1 a0).bind λ_=>let x3:=x1.modify a0 λe=>(e.1,(e.2.1,(e.2.2.1,(e.2.2.2.1,(e.2.2.2.2.1,(e.2.2.2.2.2.1,(a1,e.2.2.2.2.2.2.2)))))));
(fW x3 a0).bind λ_=>let x5:=x3.modify a0 λe=>(e.1,(e.2.1,(e.2.2.1,(e.2.2.2.1,(e.2.2.2.2.1,(e.2.2.2.2.2.1,(e.2.2.2.2.2.2.1,0)))))));some (2,x5,())
def I8:X.Cfg:=⟨E0,[],[],[]⟩
def AK:Ctr:=⟨175,52,[.ptr ⟨2,0,[((),(8,0))]⟩ [0,0],shU I64],[(2,uL [qR])],[⟨Uac,[.one],[(2,uL [qR])]⟩],ap3 iD⟩
theorem It:Lk 1 AK:=ls I8 aN
def gM:T2l->Option (T2l⊕(T0d⊕(LI×T2f))):=λ(v0,v1,v2,v3,v4,v5)=>bif(decide (v4<v3))then((match((gk v4).bind λx0=>
(fW v2 x0).bind λx1=>bif(decide (v1>=x1))then((gk v4).bind λx2=>
(fW v0 x2).bind λx3=>let x4:=w64 (x1+x3);bif(decide (v1<x4))then(let x5:Int:=(w64 (v1-x1));some (.inl (true,v4,x5,())))else some (.inr (v0,v1,v4,x1,v2,v3,v4,false,v5)))else some (.inr (v0,v1,v4,x1,v2,v3,v4,false,v5)):Option (T0d⊕(LI×Int×Int×T2f)))with
|none=>none
|some (.inl (x0,x1,x2,_))=>some (.inr (.inl (x0,x1,x2,())))
|some (.inr (x0,x1,_,_,x4,x5,x6,_,x8))=>let af:=w64 (x6+1);some (.inl (x0,x1,x4,x5,af,x8))))else some (.inr (.inr (v0,v1,v2,v3,v4,false,v5)))
def gY(a0:LI)(a1:Int)(a2:LI)(a3:Int):Option (T0f):=let x0:=f7 a0.length;
(match gd gM NN (a2,a3,a0,x0,0,a0,a1,0,0,())with
|none=>none
|some (.inl (x1,x2,x3,_))=>some (x2,x3,x1,())
|some (.inr (_,_,_,_))=>some (0,0,false,()))
def CE:X.Cfg:=⟨E0,[],[],[⟨6,0,qE,[(.ret,qS yav [(14,yad)]),(.normal,qS [sP 1 RI,Uaa 2,zaa 6,Uaa 8,Uaa 9,sP 11 RI,Uaa 12,Uaa 13,Xaa 30] Xap)]⟩,⟨3,1,qS [sP 1 RI,Uaa 2,zaa 6,sP 11 RI,Uaa 12,Uaa 13] Xap,[(.ret,qS yav [(14,yad)]),(.exit 0,qS [sP 1 RI,Uaa 2,zaa 6,sP 11 RI,Uaa 12,Uaa 13,Xaa 14] Xap)]⟩]⟩
def jR:Ctr:=⟨27,53,[.agg Uab,shU RI,shU I64],[],[⟨zaj,[.agg 2,.one],[]⟩],ap4 gY⟩
theorem lq:Lk 1 jR:=ls CE aN
def iN(a0:LI)(a1:Int)(a2:LI)(a3 a4 a5:Int)(a6:Bool):Option (T0g):=bif(a3 != 1)then(some (0,0,3,()))else let x0:=wk .i64 a4;
(gY a0 a1 a2 x0).bind λ(x1,x2,x3,_)=>bif(!x3)then(some (0,0,4,()))else
(bif a6 then(let x4:Int:=(wk .i64 a5);let x5:=w64 (x2-x4);some (a2,a0,a1,0,0,x1,x5,()))else let x4:=wk .i64 a5;let x5:=w64 (x2+x4);some (a2,a0,a1,0,0,x1,x5,()):Option (LI×LI×T0X)).bind λ(x4,x5,_,_,_,x9,ac,_)=>
(ib x4 x9 ac).bind λ(ae,_)=>bif(!ae)then(some (0,0,4,()))else
(gk x9).bind λaf=>
(fW x5 af).bind λag=>let ah:=w64 (ag+ac);let ai:=wk .u16 ah;some (1,ai,0,())
def Jc:X.Cfg:=⟨E0,[jR,ma],[],[⟨8,0,qE,[(.normal,qS (sP 1 RI::zl [5,10,12]) [(12,Uab),(22,Xab),(26,yad)])]⟩]⟩
def vl:Ctr:=⟨176,54,[.agg Uab,shU RI,.agg Xab,shU CW,shU .bool],[],[⟨Uai,[.agg 2,.one],[]⟩],as2 (as4 ap1) iN⟩
theorem Aj:Lk 2 vl:=ls Jc (aC lq (aC oI aN))
def nu(a0:Int)(a1:LDCe)(a2:LDLn):Option (Nat×T06):=let x0:=w64 (Int.tdiv a0 4);let x1:=Int.tmod x0 4;
(gk x1).bind λx2=>
(fW a2 x2).bind λ_=>
(fW a2 x2).bind λx4=>bif(x4.1==x0)then(some (x2,a1,a2,()))else
((fW a2 x2).bind λx5=>bif x5.2.1 then((fW a2 x2).bind λx6=>let x7:=w64 (x6.1*4);
(gk x7).bind λx8=>bif(iX x8 a1.length a1.length)then(fW a2 x2).bind λ_=>
(fW a2 x2).bind λac=>bif(iX x8 (Nat.add x8 (Nat.min ac.2.2.length (Nat.sub a1.length x8))) a1.length)then bif(Nat.blt 0 (Nat.min ac.2.2.length (Nat.sub a1.length x8)))then(let ae:LDCe:=(qv a1 x8 (Nat.min ac.2.2.length (Nat.sub a1.length x8)) ac.2.2);let af:=(f7 (Nat.min ac.2.2.length (Nat.sub a1.length x8)));some (x0,x2,ae,a2,()))else let ae:=(f7 (Nat.min ac.2.2.length (Nat.sub a1.length x8)));some (x0,x2,a1,a2,())else none else none)else some (x0,x2,a1,a2,()):Option (Int×Nat×T06)).bind λ(x5,x6,x7,x8,_)=>
(fW x8 x6).bind λ_=>let ac:=x8.modify x6 λe=>(x5,e.2);
(fW ac x6).bind λ_=>let af:=ac.modify x6 λe=>(e.1,(false,e.2.2));let ag:=w64 (x5*4);let ah:=w64 (x5+1);let ai:=w64 (ah*4);
(gk ag).bind λaj=>
(gk ai).bind λak=>bif(iX aj ak x7.length)then bif(gr 4 0 (List.length (nV x7 aj (Nat.sub ak aj))))then let am:LDCe:=(List.append [] (nV x7 aj (Nat.sub ak aj)));
(fW af x6).bind λ_=>let ap:=af.modify x6 λe=>(e.1,(e.2.1,am));some (x6,x7,ap,())else none else none
def GB:X.Cfg:=⟨E0,[],[],[⟨6,0,qE,[(.normal,(qS [zaa 0,Uaa 5,(6,.ptr ⟨2,1,[((),(3,0))]⟩ [0,0])] [(2,Xad)]))]⟩]⟩
def tI:Ctr:=⟨192,55,[.ptr ⟨2,0,[]⟩ [0],shU I64],[(2,Xad)],[⟨[.ptr ⟨2,1,[((),(3,0))]⟩ [0,0]],[.ptr],[(2,Xad)]⟩],ap3 nu⟩
theorem yb:Lk 1 tI:=ls GB aN
def ro(a0:Int)(a1:LDCe)(a2:LDLn):Option (T0A):=
(nu a0 a1 a2).bind λ(x0,x1,x2,_)=>
(fW x2 x0).bind λ_=>let x4:=Int.tmod a0 4;
(gk x4).bind λx5=>
(fW x2 x0).bind λx6=>
(fW x6.2.2 x5).bind λ_=>
(fW x2 x0).bind λx8=>
(fW x8.2.2 x5).bind λx9=>some (x9.1,x9.2,x1,x2,())
def Jh:X.Cfg:=⟨E0,[tI],[],[]⟩
def AN:Ctr:=⟨177,56,[.ptr ⟨2,0,[]⟩ [0],shU I64],[(2,Xad)],[⟨Xab,[.agg 2],[(2,Xad)]⟩],ap3 ro⟩
theorem Iw:Lk 2 AN:=ls Jh (aC yb aN)
def nn(a0 a1 a2:Int)(a3:LDCe)(a4:LDLn):Option (T06):=
(nu a0 a3 a4).bind λ(x0,x1,x2,_)=>
(fW x2 x0).bind λ_=>let x4:=Int.tmod a0 4;
(gk x4).bind λx5=>
(fW x2 x0).bind λx6=>
(fW x6.2.2 x5).bind λ_=>
(fW x2 x0).bind λx8=>
(fW x8.2.2 x5).bind λ_=>let ac:=x2.modify x0 λe=>(e.1,(e.2.1,(e.2.2.modify x5 λe=>(a1,a2))));
(fW ac x0).bind λ_=>let af:=ac.modify x0 λe=>(e.1,(true,e.2.2));some (x1,af,())
def GA:X.Cfg:=⟨E0,[tI],[],[]⟩
def tH:Ctr:=⟨178,57,[.ptr ⟨2,0,[]⟩ [0],shU I64,.agg Xab],[(2,Xad)],[⟨[],[],[(2,Xad)]⟩],ap5 nn⟩
theorem ya:Lk 2 tH:=ls GA (aC yb aN)
def mG(a0:Bool):Option (T02):=bif a0 then(some (0,1,()))else some (0,0,())
def Jb:X.Cfg:=⟨E0,[],[],[]⟩
def vk:Ctr:=⟨193,58,zab,[],[⟨Xab,[.agg 2],[]⟩],ap1 mG⟩
theorem Ai:Lk 1 vk:=ls Jb aN
def nh(a0 a1 a2:Int):Option (T0g):=bif(a0==3)then(let x0:Int:=(wk .u16 (a1+a2));some (0,x0,0,()))else bif(a0==4)then(let x0:Int:=(wk .u16 (a1-a2));some (0,x0,0,()))else bif(a0==5)then(let x0:Int:=(wk .u16 (a1*a2));some (0,x0,0,()))else bif(a0==6)then(bif(a2==0)then(some (0,0,5,()))else bif(a0==6)then(bif(a2 != 0)then let x0:Int:=(wk .u16 (Int.tdiv a1 a2));some (0,x0,0,())else none)else bif(a2 != 0)then let x0:Int:=(Int.tmod a1 a2);some (0,x0,0,())else none)else bif(a0==7)then(bif(a2==0)then(some (0,0,5,()))else bif(a0==6)then(bif(a2 != 0)then let x0:Int:=(wk .u16 (Int.tdiv a1 a2));some (0,x0,0,())else none)else bif(a2 != 0)then let x0:Int:=(Int.tmod a1 a2);some (0,x0,0,())else none)else bif(a0==8)then(let x0:Int:=(arR .and .u16 a1 a2);some (0,x0,0,()))else bif(a0==9)then(let x0:Int:=(arR .or .u16 a1 a2);some (0,x0,0,()))else bif(a0==10)then(let x0:Int:=(arR .xor .u16 a1 a2);some (0,x0,0,()))else bif(a0==11)then(let x0:Int:=(Int.tmod a2 16);
(gk x0).bind λx1=>let x2:Int:=(shR .shl .u16 a1 x1);some (0,x2,0,()))else bif(a0==12)then(let x0:Int:=(Int.tmod a2 16);
(gk x0).bind λx1=>let x2:Int:=(shR .shr .u16 a1 x1);some (0,x2,0,()))else
(mG (decide (a1<a2))).bind λ(x0,x1,_)=>some (x0,x1,0,())
def CC:X.Cfg:=⟨E0,[vk],[],[]⟩
def vj:Ctr:=⟨194,59,uL [I64,CW,CW],[],[⟨Uai,[.agg 2,.one],[]⟩],ap3 nh⟩
theorem Ch:Lk 2 vj:=ls CC (aC Ai aN)
def ni(a0:LI)(a1:Int)(a2:LI)(a3 a4 a5 a6:Int):Option (Int×Int×T0f):=let x0:=wk .i64 a4;
(gY a0 a1 a2 x0).bind λ(x1,x2,x3,_)=>let x4:=wk .i64 a6;
(gY a0 a1 a2 x4).bind λ(x5,x6,x7,_)=>bif x3 then(bif x7 then(some (x1,x2,x5,x6,(x1==x5),()))else some (x1,x2,x5,x6,false,()))else some (x1,x2,x5,x6,false,())
def Gw:X.Cfg:=⟨E0,[jR],[],[]⟩
def yI:Ctr:=⟨195,60,[.agg Uab,shU RI,.agg Xab,.agg Xab],[],[⟨uL [I64,I64,I64,I64,.bool],[.agg 2,.agg 2,.one],[]⟩],as2 (as4 ap1) ni⟩
theorem FL:Lk 2 yI:=ls Gw (aC lq aN)
def vL(a0:LI)(a1:Int)(a2:LI)(a3 a4 a5 a6 a7:Int):Option (T0g):=bif(decide (a3<3))then(some (0,0,1,()))else bif(decide (a3>14))then(some (0,0,1,()))else
(match(bif(a3==14)then((mG ((a4==a6)&&((a5==a7)&&true))).bind λ(x0,x1,_)=>some (.inl (0,x0,x1,())))else bif(a4==0)then(bif(a6==0)then((nh a3 a5 a7).bind λ(x0,x1,x2,_)=>some (.inl (x2,x0,x1,())))else
(bif(a3==3)then(bif(a4==1)then(some (a2,a3,(a6==0),a0,a1,a4,a5,a6,a7,0,0,()))else some (a2,a3,false,a0,a1,a4,a5,a6,a7,0,0,()))else some (a2,a3,false,a0,a1,a4,a5,a6,a7,0,0,()):Option (T2J)).bind λ(x0,x1,x2,x3,x4,x5,x6,x7,x8,x9,ac,_)=>bif x2 then((iN x3 x4 x0 x5 x6 x8 false).bind λ(ae,af,ag,_)=>some (.inl (ag,ae,af,())))else
(bif(x1==3)then(bif(x5==0)then(some (x0,x1,(x7==1),x3,x4,x5,x6,x7,x8,x9,ac,()))else some (x0,x1,false,x3,x4,x5,x6,x7,x8,x9,ac,()))else some (x0,x1,false,x3,x4,x5,x6,x7,x8,x9,ac,()):Option (T2J)).bind λ(ae,af,ag,ah,ai,aj,ak,am,an,ap,aq,_)=>bif ag then((iN ah ai ae am an ak false).bind λ(av,ax,ay,_)=>some (.inl (ay,av,ax,())))else
(bif(af==4)then(bif(aj==1)then(some (ae,af,(am==0),ah,ai,aj,ak,am,an,ap,aq,()))else some (ae,af,false,ah,ai,aj,ak,am,an,ap,aq,()))else some (ae,af,false,ah,ai,aj,ak,am,an,ap,aq,()):Option (T2J)).bind λ(av,ax,ay,az,aA,aB,aD,aE,aF,aG,aH,_)=>bif ay then((iN az aA av aB aD aF true).bind λ(aI,aJ,aK,_)=>some (.inl (aK,aI,aJ,())))else
(bif(ax==4)then(bif(aB==1)then(some (av,ax,(aE==1),az,aA,aB,aD,aE,aF,aG,aH,()))else some (av,ax,false,az,aA,aB,aD,aE,aF,aG,aH,()))else bif(ax==13)then(bif(aB==1)then(some (av,ax,(aE==1),az,aA,aB,aD,aE,aF,aG,aH,()))else some (av,ax,false,az,aA,aB,aD,aE,aF,aG,aH,()))else some (av,ax,false,az,aA,aB,aD,aE,aF,aG,aH,()):Option (T2J)).bind λ(aI,aJ,aK,aL,aM,aO,aP,aQ,aR,aS,aT,_)=>bif aK then((ni aL aM aI aO aP aQ aR).bind λ(_,aV,_,aY,aZ,_)=>bif(!aZ)then(some (.inl (4,0,0,())))else bif(aJ==13)then((mG (decide (aV<aY))).bind λ(ba,bc,_)=>some (.inl (0,ba,bc,())))else let ba:=w64 (aV-aY);let bc:=wk .u16 ba;some (.inl (0,0,bc,())))else some (.inr (aI,aJ,false,aL,aM,aO,aP,aQ,aR,aS,aT,())))else
(bif(a3==3)then(bif(a4==1)then(some (a2,a3,(a6==0),a0,a1,a4,a5,a6,a7,0,0,()))else some (a2,a3,false,a0,a1,a4,a5,a6,a7,0,0,()))else some (a2,a3,false,a0,a1,a4,a5,a6,a7,0,0,()):Option (T2J)).bind λ(x0,x1,x2,x3,x4,x5,x6,x7,x8,x9,ac,_)=>bif x2 then((iN x3 x4 x0 x5 x6 x8 false).bind λ(ae,af,ag,_)=>some (.inl (ag,ae,af,())))else
(bif(x1==3)then(bif(x5==0)then(some (x0,x1,(x7==1),x3,x4,x5,x6,x7,x8,x9,ac,()))else some (x0,x1,false,x3,x4,x5,x6,x7,x8,x9,ac,()))else some (x0,x1,false,x3,x4,x5,x6,x7,x8,x9,ac,()):Option (T2J)).bind λ(ae,af,ag,ah,ai,aj,ak,am,an,ap,aq,_)=>bif ag then((iN ah ai ae am an ak false).bind λ(av,ax,ay,_)=>some (.inl (ay,av,ax,())))else
(bif(af==4)then(bif(aj==1)then(some (ae,af,(am==0),ah,ai,aj,ak,am,an,ap,aq,()))else some (ae,af,false,ah,ai,aj,ak,am,an,ap,aq,()))else some (ae,af,false,ah,ai,aj,ak,am,an,ap,aq,()):Option (T2J)).bind λ(av,ax,ay,az,aA,aB,aD,aE,aF,aG,aH,_)=>bif ay then((iN az aA av aB aD aF true).bind λ(aI,aJ,aK,_)=>some (.inl (aK,aI,aJ,())))else
(bif(ax==4)then(bif(aB==1)then(some (av,ax,(aE==1),az,aA,aB,aD,aE,aF,aG,aH,()))else some (av,ax,false,az,aA,aB,aD,aE,aF,aG,aH,()))else bif(ax==13)then(bif(aB==1)then(some (av,ax,(aE==1),az,aA,aB,aD,aE,aF,aG,aH,()))else some (av,ax,false,az,aA,aB,aD,aE,aF,aG,aH,()))else some (av,ax,false,az,aA,aB,aD,aE,aF,aG,aH,()):Option (T2J)).bind λ(aI,aJ,aK,aL,aM,aO,aP,aQ,aR,aS,aT,_)=>bif aK then((ni aL aM aI aO aP aQ aR).bind λ(_,aV,_,aY,aZ,_)=>bif(!aZ)then(some (.inl (4,0,0,())))else bif(aJ==13)then((mG (decide (aV<aY))).bind λ(ba,bc,_)=>some (.inl (0,ba,bc,())))else let ba:=w64 (aV-aY);let bc:=wk .u16 ba;some (.inl (0,0,bc,())))else some (.inr (aI,aJ,false,aL,aM,aO,aP,aQ,aR,aS,aT,())):Option (T0g⊕T2J))with
|none=>none
|some (.inl (x0,x1,x2,_))=>some (x1,x2,x0,())
|some (.inr (_,_,_,_,_,_,_,_,_,_,_,_))=>some (0,0,3,()))
def Ns:X.Cfg:=⟨E0,[vk,vj,vl,yI],[],[⟨9,0,qE,[(.normal,qS (sP 1 RI::Uaa 2::zl [5,8,9,10]++[Xaa 46]) Xan)]⟩,⟨11,1,qE,[(.normal,qS (sP 1 RI::Uaa 2::zl [5,8,9,10]++[Xaa 67]) Xan)]⟩,⟨13,2,qE,[(.normal,qS (sP 1 RI::Uaa 2::zl [5,8,9,10]++[Xaa 88]) Xan)]⟩,⟨15,3,qE,[(.normal,qS Zaw Xan)]⟩,⟨4,4,qE,[(.ret,qS [zaa 10,Uaa 11] [(22,Xab)]),(.normal,qS Zaw Xan)]⟩]⟩
def EU:Ctr:=⟨179,61,[.agg Uab,shU RI,shU I64,.agg Xab,.agg Xab],[],[⟨Uai,[.agg 2,.one],[]⟩],as1 (as2 (as4 ap1)) vL⟩
theorem Nk:Lk 3 EU:=ls Ns (aC Ai (aC Ch (aC Aj (aC FL aN))))
def ox(a0:Int):f_:=
(i6 a0).bind λ(x0,_)=>bif x0 then(some (true,()))else bif(a0==22)then(some (true,()))else some ((a0==24),())
def D3:X.Cfg:=⟨E0,[mN],[],[]⟩
def wQ:Ctr:=⟨180,62,Uac,[],[⟨zab,[.one],[]⟩],ap1 ox⟩
theorem DE:Lk 2 wQ:=ls D3 (aC oW aN)
def sQ(a0:LDIn)(a1:LI)(a2:LLI)(a3:Int)(a4:LI)(a5:Int)(a6:LDCe)(a7:LDLn)(a8:LDTh):Option (T1k):=
(gk a3).bind λx0=>
(fW a8 x0).bind λ_=>
(fW a8 x0).bind λx2=>let x3:=f7 a0.length;bif(decide (x2.2.2.1>=x3))then((iD x0 2 a8).bind λ(x4,x5,_)=>some (x4,a4,a5,a6,a7,x5,()))else
(fW a8 x0).bind λx4=>
(gk x4.2.2.1).bind λx5=>
(fW a0 x5).bind λx6=>
(fW a8 x0).bind λx7=>let x8:=w64 (x7.2.2.1+1);
(fW a8 x0).bind λ_=>
(gk x6.2.1).bind λac=>
(fW a8 x0).bind λae=>
(fW ae.2.1 ac).bind λ_=>
(fW a8 x0).bind λag=>
(fW ag.2.1 ac).bind λah=>
(fW a8 x0).bind λ_=>
(gk x6.2.2.1).bind λaj=>
(fW a8 x0).bind λak=>
(fW ak.2.1 aj).bind λ_=>
(fW a8 x0).bind λan=>
(fW an.2.1 aj).bind λap=>
(match(bif(x6.1==0)then(some (.inl (x0,x8,a4,a5,a6,a7,a8,x6.1,x6.2.1,x6.2.2.1,x6.2.2.2.1,x6.2.2.2.2,())))else bif(x6.1==1)then((fW a8 x0).bind λ_=>let av:=wk .u16 x6.2.2.2.2;
(gk x6.2.1).bind λax=>
(fW a8 x0).bind λay=>
(fW ay.2.1 ax).bind λ_=>
(fW a8 x0).bind λaA=>
(fW aA.2.1 ax).bind λ_=>let aD:=a8.modify x0 λe=>(e.1,((e.2.1.modify ax λe=>(0,av)),e.2.2));some (.inl (x0,x8,a4,a5,a6,a7,aD,x6.1,x6.2.1,x6.2.2.1,x6.2.2.2.1,x6.2.2.2.2,())))else bif(x6.1==2)then((fW a8 x0).bind λ_=>
(gk x6.2.1).bind λav=>
(fW a8 x0).bind λax=>
(fW ax.2.1 av).bind λ_=>
(fW a8 x0).bind λaz=>
(fW az.2.1 av).bind λ_=>let aB:=a8.modify x0 λe=>(e.1,((e.2.1.modify av λe=>(ap.1,ap.2)),e.2.2));some (.inl (x0,x8,a4,a5,a6,a7,aB,x6.1,x6.2.1,x6.2.2.1,x6.2.2.2.1,x6.2.2.2.2,())))else bif(x6.1==15)then((fW a8 x0).bind λ_=>
(gk x6.2.2.2.2).bind λav=>
(fW a4 av).bind λax=>let ay:=wk .u16 ax;
(gk x6.2.1).bind λaz=>
(fW a8 x0).bind λaA=>
(fW aA.2.1 az).bind λ_=>
(fW a8 x0).bind λaD=>
(fW aD.2.1 az).bind λ_=>let aF:=a8.modify x0 λe=>(e.1,((e.2.1.modify az λe=>(1,ay)),e.2.2));some (.inl (x0,x8,a4,a5,a6,a7,aF,x6.1,x6.2.1,x6.2.2.1,x6.2.2.2.1,x6.2.2.2.2,())))else bif(x6.1==16)then((bif(x6.1==17)then(some (x0,x8,a4,a5,a6,a7,a8,a0,a1,a2,x6.1,x6.2.1,x6.2.2.1,x6.2.2.2.1,x6.2.2.2.2,ap.1,ap.2,ah.1,ah.2,()))else some (x0,x8,a4,a5,a6,a7,a8,a0,a1,a2,x6.1,x6.2.1,x6.2.2.1,x6.2.2.2.1,x6.2.2.2.2,ap.1,ap.2,ap.1,ap.2,()):Option (T3q)).bind λ(aq,av,ax,ay,az,aA,aB,_,aE,_,aG,aH,aI,aJ,aK,aL,aM,aO,aP,_)=>let aQ:=wk .u16 aK;
(iN ax ay aE aO aP aQ false).bind λ(_,aS,aT,_)=>bif(aT != 0)then((iD aq aT aB).bind λ(aU,aV,_)=>some (.inr (aU,ax,ay,az,aA,aV,())))else bif(aG==16)then((fW aB aq).bind λ_=>let aV:=wk .i64 aS;
(ro aV az aA).bind λ(aW,aY,aZ,ba,_)=>
(gk aH).bind λbc=>
(fW aB aq).bind λbd=>
(fW bd.2.1 bc).bind λ_=>
(fW aB aq).bind λbf=>
(fW bf.2.1 bc).bind λ_=>let bh:=aB.modify aq λe=>(e.1,((e.2.1.modify bc λe=>(aW,aY)),e.2.2));some (.inl (aq,av,ax,ay,aZ,ba,bh,aG,aH,aI,aJ,aK,())))else let aU:=wk .i64 aS;
(nn aU aL aM az aA).bind λ(aV,aW,_)=>some (.inl (aq,av,ax,ay,aV,aW,aB,aG,aH,aI,aJ,aK,())))else bif(x6.1==17)then((bif(x6.1==17)then(some (x0,x8,a4,a5,a6,a7,a8,a0,a1,a2,x6.1,x6.2.1,x6.2.2.1,x6.2.2.2.1,x6.2.2.2.2,ap.1,ap.2,ah.1,ah.2,()))else some (x0,x8,a4,a5,a6,a7,a8,a0,a1,a2,x6.1,x6.2.1,x6.2.2.1,x6.2.2.2.1,x6.2.2.2.2,ap.1,ap.2,ap.1,ap.2,()):Option (T3q)).bind λ(aq,av,ax,ay,az,aA,aB,_,aE,_,aG,aH,aI,aJ,aK,aL,aM,aO,aP,_)=>let aQ:=wk .u16 aK;
(iN ax ay aE aO aP aQ false).bind λ(_,aS,aT,_)=>bif(aT != 0)then((iD aq aT aB).bind λ(aU,aV,_)=>some (.inr (aU,ax,ay,az,aA,aV,())))else bif(aG==16)then((fW aB aq).bind λ_=>let aV:=wk .i64 aS;
(ro aV az aA).bind λ(aW,aY,aZ,ba,_)=>
(gk aH).bind λbc=>
(fW aB aq).bind λbd=>
(fW bd.2.1 bc).bind λ_=>
(fW aB aq).bind λbf=>
(fW bf.2.1 bc).bind λ_=>let bh:=aB.modify aq λe=>(e.1,((e.2.1.modify bc λe=>(aW,aY)),e.2.2));some (.inl (aq,av,ax,ay,aZ,ba,bh,aG,aH,aI,aJ,aK,())))else let aU:=wk .i64 aS;
(nn aU aL aM az aA).bind λ(aV,aW,_)=>some (.inl (aq,av,ax,ay,aV,aW,aB,aG,aH,aI,aJ,aK,())))else bif(x6.1==18)then(some (.inl (x0,x6.2.2.2.2,a4,a5,a6,a7,a8,x6.1,x6.2.1,x6.2.2.1,x6.2.2.2.1,x6.2.2.2.2,())))else bif(x6.1==19)then(bif(ah.1 != 0)then((iD x0 3 a8).bind λ(aq,av,_)=>some (.inr (aq,a4,a5,a6,a7,av,())))else bif((ah.2==0)==(x6.1==19))then(some (.inl (x0,x6.2.2.2.2,a4,a5,a6,a7,a8,x6.1,x6.2.1,x6.2.2.1,x6.2.2.2.1,x6.2.2.2.2,())))else some (.inl (x0,x8,a4,a5,a6,a7,a8,x6.1,x6.2.1,x6.2.2.1,x6.2.2.2.1,x6.2.2.2.2,())))else bif(x6.1==20)then(bif(ah.1 != 0)then((iD x0 3 a8).bind λ(aq,av,_)=>some (.inr (aq,a4,a5,a6,a7,av,())))else bif((ah.2==0)==(x6.1==19))then(some (.inl (x0,x6.2.2.2.2,a4,a5,a6,a7,a8,x6.1,x6.2.1,x6.2.2.1,x6.2.2.2.1,x6.2.2.2.2,())))else some (.inl (x0,x8,a4,a5,a6,a7,a8,x6.1,x6.2.1,x6.2.2.1,x6.2.2.2.1,x6.2.2.2.2,())))else bif(x6.1==21)then((fW a8 x0).bind λ_=>let av:=wk .u16 x8;
(gk x6.2.1).bind λax=>
(fW a8 x0).bind λay=>
(fW ay.2.1 ax).bind λ_=>
(fW a8 x0).bind λaA=>
(fW aA.2.1 ax).bind λ_=>let aD:=a8.modify x0 λe=>(e.1,((e.2.1.modify ax λe=>(0,av)),e.2.2));some (.inl (x0,x6.2.2.2.2,a4,a5,a6,a7,aD,x6.1,x6.2.1,x6.2.2.1,x6.2.2.2.1,x6.2.2.2.2,())))else bif(x6.1==22)then(bif(ah.1 != 0)then((iD x0 3 a8).bind λ(aq,av,_)=>some (.inr (aq,a4,a5,a6,a7,av,())))else bif(decide (ah.2>255))then((iD x0 2 a8).bind λ(aq,av,_)=>some (.inr (aq,a4,a5,a6,a7,av,())))else let aq:=wk .i64 ah.2;some (.inl (x0,aq,a4,a5,a6,a7,a8,x6.1,x6.2.1,x6.2.2.1,x6.2.2.2.1,x6.2.2.2.2,())))else bif(x6.1==24)then((fW a8 x0).bind λaq=>bif(aq.2.2.2.2.2.1==(-1))then((iD x0 1 a8).bind λ(av,ax,_)=>some (.inr (av,a4,a5,a6,a7,ax,())))else
(fW a8 x0).bind λav=>
(fW a8 x0).bind λ_=>let ay:=a8.modify x0 λe=>(e.1,(e.2.1,(e.2.2.1,(e.2.2.2.1,(e.2.2.2.2.1,((-1),e.2.2.2.2.2.2))))));some (.inl (x0,av.2.2.2.2.2.1,a4,a5,a6,a7,ay,x6.1,x6.2.1,x6.2.2.1,x6.2.2.2.1,x6.2.2.2.2,())))else bif(x6.1==23)then((fW a8 x0).bind λ_=>let av:=a8.modify x0 λe=>(2,e.2);
(fW av x0).bind λ_=>let ay:=av.modify x0 λe=>(e.1,(e.2.1,(x8,e.2.2.2)));some (.inr (1,a4,a5,a6,a7,ay,())))else
(fW a8 x0).bind λ_=>
(gk x6.2.2.2.1).bind λav=>
(fW a8 x0).bind λax=>
(fW ax.2.1 av).bind λ_=>
(fW a8 x0).bind λaz=>
(fW az.2.1 av).bind λaA=>
(vL a4 a5 a1 x6.1 ap.1 ap.2 aA.1 aA.2).bind λ(aB,aD,aE,_)=>bif(aE != 0)then((iD x0 aE a8).bind λ(aF,aG,_)=>some (.inr (aF,a4,a5,a6,a7,aG,())))else
(fW a8 x0).bind λ_=>
(gk x6.2.1).bind λaG=>
(fW a8 x0).bind λaH=>
(fW aH.2.1 aG).bind λ_=>
(fW a8 x0).bind λaJ=>
(fW aJ.2.1 aG).bind λ_=>let aL:=a8.modify x0 λe=>(e.1,((e.2.1.modify aG λe=>(aB,aD)),e.2.2));some (.inl (x0,x8,a4,a5,a6,a7,aL,x6.1,x6.2.1,x6.2.2.1,x6.2.2.2.1,x6.2.2.2.2,())):Option ((Nat×Int×LI×Int×LDCe×LDLn×LDTh×T0X)⊕T1k))with
|none=>none
|some (.inl (aq,av,ax,ay,az,aA,aB,aD,_,_,_,_,_))=>
(fW aB aq).bind λ_=>let aJ:=aB.modify aq λe=>(e.1,(e.2.1,(av,e.2.2.2)));
((ox aD).bind λ(aK,_)=>bif aK then((fW aJ aq).bind λaL=>let aM:=w64 (aL.2.2.2.1+1);
(fW aJ aq).bind λ_=>let aP:=aJ.modify aq λe=>(e.1,(e.2.1,(e.2.2.1,(aM,e.2.2.2.2))));some (ax,ay,az,aA,aP,()))else some (ax,ay,az,aA,aJ,()):Option (T14)).bind λ(aK,aL,aM,aO,aP,_)=>some ((-1),aK,aL,aM,aO,aP,())
|some (.inr (aq,av,ax,ay,az,aA,_))=>some (aq,av,ax,ay,az,aA,()))
def KN:X.Cfg:=⟨E0,[AK,vl,AN,tH,EU,wQ],[],[⟨17,0,qE,[(.normal,(qS (zl [1,3]++(7,.ptr ⟨4,4,[((),(8,0))]⟩ [0,0])::zaa 8::Uaa 9::zl [11,12]) [(4,uad),(8,uab),(18,Xae),(24,Xab),(26,Xab)]))]⟩,⟨8,1,qE,[(.normal,(qS [zaa 1,(7,.ptr ⟨4,4,[((),(8,0))]⟩ [0,0]),zaa 8,Uaa 9] [(4,uad),(18,Xae)])),(.ret,qS [zaa 1,Uaa 6] zan)]⟩,⟨52,2,qE,[(.normal,qS [zaa 1] zan)]⟩]⟩
def Df:Ctr:=⟨164,63,[.agg uab,.ptr ⟨4,0,[]⟩ [0],shU I64],[(4,uad)],[⟨Uac,[.one],[(4,uad)]⟩],as8 ap1 sQ⟩
theorem KB:Lk 4 Df:=ls KN (aC It (aC Aj (aC Iw (aC ya (aC Nk (aC DE aN))))))
def tX:T33->Option (T33⊕T1H):=λ(v0,v1,v2,v3,v4,v5,v6,v7,v8,v9,eu,eF,eH,eJ,eM,_)=>
(sQ v2 v3 v4 v0 eu eF eH eJ eM).bind λ(x0,x1,x2,x3,x4,x5,_)=>bif(x0 != (-1))then(some (.inr (x0,0,x1,x2,x3,x4,x5,())))else
(gk v0).bind λx6=>
(fW x5 x6).bind λ_=>
(fW x5 x6).bind λx8=>bif(x8.2.2.2.1==v1)then(some (.inr (0,0,x1,x2,x3,x4,x5,())))else some (.inl (v0,v1,v2,v3,v4,v5,v6,v7,v8,v9,x1,x2,x3,x4,x5,()))
def pz(a0:LDIn)(a1:LI)(a2:LLI)(a3:LI)(a4:Int)(a5:LDCe)(a6:LDLn)(a7:LDTh)(a8 a9:Int):Option (T1O):=
((iL a0 a1 a2 a3 a4 a5 a6 a7).bind λ(x0,_)=>bif(!x0)then(some (a8,a9,true,a0,a1,a2,a3,a4,a5,a6,a7,(),0,(),(),(),()))else bif(decide (a8<0))then(some (a8,a9,true,a0,a1,a2,a3,a4,a5,a6,a7,(),0,(),(),(),()))else bif(decide (a8>=4))then(some (a8,a9,true,a0,a1,a2,a3,a4,a5,a6,a7,(),0,(),(),(),()))else bif(decide (a9<1))then(some (a8,a9,true,a0,a1,a2,a3,a4,a5,a6,a7,(),0,(),(),(),()))else some (a8,a9,(decide (a9>64)),a0,a1,a2,a3,a4,a5,a6,a7,(),0,(),(),(),()):Option (Int×Int×Bool×LDIn×LI×LLI×LI×Int×LDCe×LDLn×LDTh×T16)).bind λ(x0,x1,x2,x3,x4,x5,x6,x7,x8,x9,ac,ae,af,ag,ah,ai,_)=>bif x2 then(some ([],0,[],[],[],0,1,()))else
(lh x6 x7 x8 x9 ac).bind λ(aj,ak,am,an,ap,_)=>
(gk x0).bind λaq=>
(fW ac aq).bind λav=>bif(av.1 != 1)then(some (aj,ak,am,an,ap,3,0,()))else
(gk x0).bind λax=>
(fW ap ax).bind λ_=>
(fW ap ax).bind λaz=>let aA:=w64 (az.2.2.2.1+x1);
(gd tX NN (x0,aA,x3,x4,x5,ae,af,ag,ah,ai,aj,ak,am,an,ap,())).bind λ(aB,aD,aE,aF,aG,aH,aI,_)=>some (aE,aF,aG,aH,aI,aB,aD,())
def Gs:X.Cfg:=⟨E0,[nS,o4,Df],[],[⟨2,0,qE,[(.normal,qS (il [2,3]++zl [4,5,8]++[Xaa 33]) [(10,uab),(12,zac),(18,Zab)])]⟩,⟨9,1,qS (Uaa 2::zl [4,8,11]++[Uaa 12]) [(10,uab),(18,Zab),(24,uad)],[(.ret,qS (zaa 8::il [9,10]) [(18,uad)])]⟩]⟩
def yE:Ctr:=⟨152,64,[.agg uab,.agg zac,shU I64,shU I64],[],[⟨uL [RI,CW,(uaa KCe),iG,qR,I64,I64],[.agg 5,.one,.one],[]⟩],as1 (as8 ap1) pz⟩
theorem FG:Lk 5 yE:=ls Gs (aC pW (aC rF (aC KB aN)))
def nc(a0:Int):Option (ByteArray×Unit):=let x0:ByteArray:=(bytes []);
(bif(a0==0)then(some (a0,true,()))else bif(a0==8)then(some (a0,true,()))else bif(a0==9)then(some (a0,true,()))else bif(a0==11)then(some (a0,true,()))else some (a0,(a0==12),()):Option (T01)).bind λ(x1,x2,_)=>bif x2 then(let x3:ByteArray:=(bytes [78]);some (x3,()))else bif(x1==1)then(let x3:ByteArray:=(bytes [72,80,78]);some (x3,()))else bif(x1==2)then(let x3:ByteArray:=(bytes [72,80,78]);some (x3,()))else bif(x1==3)then(let x3:ByteArray:=(bytes [78,78]);some (x3,()))else bif(x1==4)then(let x3:ByteArray:=(bytes [72]);some (x3,()))else bif(x1==5)then(let x3:ByteArray:=(bytes [72,78]);some (x3,()))else bif(x1==10)then(let x3:ByteArray:=(bytes [78,88]);some (x3,()))else bif(x1==13)then(let x3:ByteArray:=(bytes [78,80,78]);some (x3,()))else bif(x1==14)then(let x3:ByteArray:=(bytes [78,80,78]);some (x3,()))else let x3:ByteArray:=(bytes []);some (x3,())
def Gk:X.Cfg:=⟨E0,[],[],[⟨3,0,qE,[(.normal,qS [Uaa 3,Xaa 4] [])]⟩]⟩
def p9:Ctr:=⟨165,65,Uac,[],[⟨uL [.str],[.one],[]⟩],ap1 nc⟩
theorem td:Lk 1 p9:=ls Gk aN
def oQ(a0 a1:Int):f_:=bif(a0==78)then(some ((a1==0),()))else bif(a0==72)then(some ((a1==2),()))else bif(a0==80)then(some ((a1==1),()))else some (true,())
def I5:X.Cfg:=⟨E0,[],[],[]⟩
def vh:Ctr:=⟨166,66,uL [CB,CB],[],[⟨zab,[.one],[]⟩],ap2 oQ⟩
theorem Ag:Lk 1 vh:=ls I5 aN
def jx(a0:Int):h_:=bif(decide (a0<0))then(some ((-1),()))else bif(decide (a0>15))then(some ((-1),()))else bif(a0==1)then(some (1,()))else bif(a0==13)then(some (1,()))else bif(a0==2)then(some (2,()))else bif(a0==14)then(some (2,()))else some (0,())
def D0:X.Cfg:=⟨E0,[],[],[]⟩
def kI:Ctr:=⟨20,67,Uac,[],[⟨Uac,[.one],[]⟩],ap1 jx⟩
theorem lX:Lk 1 kI:=ls D0 aN
def ov(a0:LI)(a1:Int)(a2:LI)(a3 a4 a5:Int):Option (T02):=bif(a3 != 1)then(some (0,3,()))else let x0:=wk .i64 a4;
(gY a0 a1 a2 x0).bind λ(x1,x2,x3,_)=>
(bif(!x3)then(some (true,a3,a4,()))else bif(decide (a5<0))then(some (true,a3,a4,()))else
(gk x1).bind λx4=>
(fW a2 x4).bind λx5=>let x6:=w64 (x5-x2);some ((decide (a5>x6)),a3,a4,()):Option (T0d)).bind λ(x4,_,x6,_)=>bif x4 then(some (0,4,()))else let x7:=wk .i64 x6;some (x7,0,())
def D2:X.Cfg:=⟨E0,[jR],[],[⟨6,0,qE,[(.normal,qS [zaa 6,Xaa 41] [(14,Xab)])]⟩]⟩
def wP:Ctr:=⟨167,68,[.agg Uab,shU RI,.agg Xab,shU I64],[],[⟨yad,[.one,.one],[]⟩],ap6 ov⟩
theorem DD:Lk 2 wP:=ls D2 (aC lq aN)
def pa:T3s->Option (T3s⊕((Int×Unit)⊕(Int×ByteArray×Int×Int×Bool×T38))):=λ(v0,v1,v2,v3,v4,v5,v6,v7,v8,v9,eu,eF,eH,eJ,eM)=>bif(decide (v3<v2))then((gk v3).bind λx0=>
(Eu v1 x0).bind λx1=>
(gk v3).bind λx2=>
(fW eJ x2).bind λx3=>
(oQ x1 x3.1).bind λ(x4,_)=>bif(!x4)then(some (.inr (.inl (6,()))))else let x5:=w64 (v3+1);some (.inl (v0,v1,v2,x5,v4,v5,v6,v7,v8,v9,eu,eF,eH,eJ,eM)))else some (.inr (.inr (v0,v1,v2,v3,false,v4,v5,v6,v7,v8,v9,eu,eF,eH,eJ,eM)))
def py(a0:LDIn)(a1:LI)(a2:LLI)(a3:LI)(a4:Int)(a5:LDCe)(a6:LDLn)(a7:LDTh)(a8:Int):h_:=
(gk a8).bind λx0=>
(fW a7 x0).bind λx1=>let x2:=w64 (x1.2.2.1-1);
(gk x2).bind λx3=>
(fW a0 x3).bind λx4=>
(nc x4.2.2.2.2).bind λ(x5,_)=>let x6:=BO x5;
(match gd pa NN (x4.2.2.2.2,x5,x6,0,a0,a1,a2,a3,a4,a5,a6,a7,x1.1,x1.2.1,x1.2.2.1,x1.2.2.2.1,x1.2.2.2.2.1,x1.2.2.2.2.2.1,x1.2.2.2.2.2.2.1,x1.2.2.2.2.2.2.2,())with
|none=>none
|some (.inl (x7,_))=>some (x7,())
|some (.inr (x7,_,_,_,_,af,ag,_,ai,aj,_,_,_,_,aq,_))=>
(jx x7).bind λ(aD,_)=>bif(decide (aD>0))then((fW aq 1).bind λaE=>
(fW aq 2).bind λaF=>let aG:=wk .i64 aF.2;
(ov ai aj ag aE.1 aE.2 aG).bind λ(_,aI,_)=>bif(aI != 0)then(some (6,()))else
(fW aq 2).bind λaJ=>bif(decide (aJ.2>16))then(some (6,()))else
(bif(x7==10)then((fW aq 0).bind λaK=>let aL:=wk .i64 aK.2;let aM:=f7 af.length;some ((decide (aL>=aM)),()))else bif(x7==12)then((fW aq 0).bind λaK=>let aL:=wk .i64 aK.2;let aM:=f7 af.length;some ((decide (aL>=aM)),()))else some (false,()):f_).bind λ(aK,_)=>bif aK then(some (6,()))else some (0,()))else
(bif(x7==10)then((fW aq 0).bind λaE=>let aF:=wk .i64 aE.2;let aG:=f7 af.length;some ((decide (aF>=aG)),()))else bif(x7==12)then((fW aq 0).bind λaE=>let aF:=wk .i64 aE.2;let aG:=f7 af.length;some ((decide (aF>=aG)),()))else some (false,()):f_).bind λ(aE,_)=>bif aE then(some (6,()))else some (0,()))
def Gp:X.Cfg:=⟨E0,[p9,vh,kI,wP],[],[⟨6,0,qS (zl [3,4,7]++Uaa 8::sP 9 .str::il [29,30]) zar,[(.ret,qS [Uaa 6] []),(.exit 0,qS (zl [3,4,7]++Uaa 8::sP 9 .str::il [29,30]++[Xaa 31]) zar)]⟩,⟨19,1,qE,[(.normal,qS [Xaa 93] [])]⟩]⟩
def yD:Ctr:=⟨153,69,[.agg uab,.agg zac,shU I64],[],[⟨Uac,[.one],[]⟩],as8 ap1 py⟩
theorem FF:Lk 3 yD:=ls Gp (aC td (aC Ag (aC lX (aC DD aN))))
def ou(a0:Int)(a1:LDCe)(a2 a3 a4 a5 a6 a7:Int):Option (T21):=bif(gr 4 0 a1.length)then let x0:LDCe:=(List.append [] a1);some (a0,x0,a2,a3,a4,a5,a6,a7,())else none
def D1:X.Cfg:=⟨E0,[],[],[]⟩
def wO:Ctr:=⟨168,70,[.agg yae],[],[⟨uag,[.agg 8],[]⟩],as1 (as2 (as4 ap1)) ou⟩
theorem DC:Lk 1 wO:=ls D1 aN
def qq(a0:Int)(a1:LDCe)(a2 a3 a4 a5 a6 a7 a8 a9:Int):Option (T21):=
(ou a0 a1 a2 a3 a4 a5 a6 a7).bind λ(_,x1,x2,x3,x4,x5,_)=>some (4,x1,x2,x3,x4,x5,a8,a9,())
def KP:X.Cfg:=⟨E0,[wO],[],[]⟩
def xA:Ctr:=⟨154,71,[.agg yae,shU I64,shU CW],[],[⟨uag,[.agg 8],[]⟩],as1 (as8 ap1) qq⟩
theorem Cg:Lk 2 xA:=ls KP (aC DC aN)
def jK(a0:Int):h_:=bif(decide (a0<0))then(some ((-1),()))else bif(decide (a0>15))then(some ((-1),()))else
(nc a0).bind λ(x0,_)=>let x1:=BO x0;some (x1,())
def zJ:X.Cfg:=⟨E0,[p9],[],[]⟩
def oj:Ctr:=⟨155,72,Uac,[],[⟨Uac,[.one],[]⟩],ap1 jK⟩
theorem sn:Lk 2 oj:=ls zJ (aC td aN)
def jn(a0:LI)(a1:Int)(a2:LI)(a3 a4:Int):Option (T0z):=bif(a3==0)then(some (0,a4,0,0,()))else bif(a3==2)then(let x0:Int:=(wk .u16 (a4-a1));some (2,x0,0,0,()))else let x0:=wk .i64 a4;
(gY a0 a1 a2 x0).bind λ(x1,x2,x3,_)=>bif x3 then(some (1,0,x1,x2,()))else let x4:=wk .i64 a4;some (1,0,(-1),x4,())
def GF:X.Cfg:=⟨E0,[jR],[],[]⟩
def qb:Ctr:=⟨21,73,[.agg Uab,shU RI,.agg Xab],[],[⟨zag,[.agg 4],[]⟩],ap5 jn⟩
theorem tg:Lk 2 qb:=ls GF (aC lq aN)
def oS(a0:LDCe)(a1:LDLn)(a2:Int):Option (T02):=let x0:=w64 (Int.tdiv a2 4);let x1:=Int.tmod x0 4;
(gk x1).bind λx2=>
(fW a1 x2).bind λx3=>bif(x3.1==x0)then(let x4:Int:=(Int.tmod a2 4);
(gk x4).bind λx5=>
(fW x3.2.2 x5).bind λx6=>some (x6.1,x6.2,()))else
(gk a2).bind λx4=>
(fW a0 x4).bind λx5=>some (x5.1,x5.2,())
def Jg:X.Cfg:=⟨E0,[],[],[]⟩
def vo:Ctr:=⟨60,74,[.agg zad,shU I64],[],[⟨Xab,[.agg 2],[]⟩],ap3 oS⟩
theorem Al:Lk 1 vo:=ls Jg aN
def lc:T4f->Option (T4f⊕(Int×Int×T4a)):=λ(v0,v1,v2,v3,v4,v5,v6,v7,v8,v9,eu,eF,eH,eJ,eM,eQ,eW,eY,fa,fe,fh,fj,fm,fr,fv,fA,fB,fC,fD,fE,fF,fG,fH,fI,fJ,fK,fL,fM,fN,_)=>bif(decide (v1<v0))then((gk v1).bind λx0=>
(fW fv x0).bind λx1=>
(jn fa fe v3 x1.1 x1.2).bind λ(x2,x3,x4,x5,_)=>let x6:LDCn:=[(x2,(x3,(x4,x5)))];bif(gr 24 fM.length x6.length)then let x7:LDCn:=(List.append fM x6);let x8:=w64 (v1+1);some (.inl (v0,x8,v2,v3,v4,v5,v6,v7,v8,v9,eu,eF,eH,eJ,eM,eQ,eW,eY,fa,fe,fh,fj,fm,fr,fv,fA,fB,fC,fD,fE,fF,fG,fH,fI,fJ,fK,fL,x7,fN,()))else none)else some (.inr (v0,v1,false,v2,v3,v4,v5,v6,v7,v8,v9,eu,eF,eH,eJ,eM,eQ,eW,eY,fa,fe,fh,fj,fm,fr,fv,fA,fB,fC,fD,fE,fF,fG,fH,fI,fJ,fK,fL,fM,fN,()))
def lb:T4e->Option (T4e⊕T4j):=λ(v0,v1,v2,v3,v4,v5,v6,v7,v8,v9,eu,eF,eH,eJ,eM,eQ,eW,eY,fa,fe,fh,fj,fm,fr,fv,fA,fB,fC,fD,fE,fF,fG,fH,fI,fJ,fK,fL,fM,fN,_)=>bif(decide (v1<v0))then((fW fv 1).bind λx0=>let x1:=wk .i64 x0.2;let x2:=w64 (x1+v1);
(oS fh fj x2).bind λ(x3,x4,_)=>
(jn fa fe v3 x3 x4).bind λ(x5,x6,x7,x8,_)=>let x9:LDCn:=[(x5,(x6,(x7,x8)))];bif(gr 24 fN.length x9.length)then let ac:LDCn:=(List.append fN x9);let ae:=w64 (v1+1);some (.inl (v0,ae,v2,v3,v4,v5,v6,v7,v8,v9,eu,eF,eH,eJ,eM,eQ,eW,eY,fa,fe,fh,fj,fm,fr,fv,fA,fB,fC,fD,fE,fF,fG,fH,fI,fJ,fK,fL,fM,ac,()))else none)else some (.inr (v0,v1,false,v2,v3,v4,v5,v6,v7,v8,v9,eu,eF,eH,eJ,eM,eQ,eW,eY,fa,fe,fh,fj,fm,fr,fv,fA,fB,fC,fD,fE,fF,fG,fH,fI,fJ,fK,fL,fM,fN,()))
def oR(a0:LDIn)(a1:LI)(a2:LLI)(a3:LI)(a4:Int)(a5:LDCe)(a6:LDLn)(a7:LDTh)(a8 a9:Int):Option (LI×Int×LDCe×LDLn×LDTh×Int×Int×Int×Int×Int×Int×LDCn×LDCn×Int×Unit):=
(pz a0 a1 a2 a3 a4 a5 a6 a7 a8 a9).bind λ(x0,x1,x2,x3,x4,x5,x6,_)=>bif(x6 != 0)then(some ([],0,[],[],[],0,0,0,0,0,0,[],[],x6,()))else
(gk a8).bind λx7=>
(fW x4 x7).bind λ_=>
(fW x4 x7).bind λx9=>
(fW x4 x7).bind λac=>
(match(bif(x5==2)then(some (.inl ((),0,(),(),(),0,0,0,0,0,0,(),(),x0,x1,x2,x3,x4,a8,x5,x9.2.2.2.2.2.2.1,x9.2.2.2.1,x9.2.2.1,0,(),(),())))else bif(x5==1)then((py a0 a1 a2 x0 x1 x2 x3 x4 a8).bind λ(ae,_)=>bif(ae != 0)then((qq x9.1 ac.2.1 x9.2.2.1 x9.2.2.2.1 x9.2.2.2.2.1 x9.2.2.2.2.2.1 x9.2.2.2.2.2.2.1 x9.2.2.2.2.2.2.2 ae 0).bind λ(af,ag,ah,ai,aj,ak,am,an,_)=>
(gk a8).bind λap=>
(fW x4 ap).bind λ_=>
(fW x4 ap).bind λ_=>let ax:=x4.modify ap λe=>(af,(ag,(ah,(ai,(aj,(ak,(am,an)))))));some (.inl ((),0,(),(),(),0,0,0,0,0,0,(),(),x0,x1,x2,x3,ax,a8,2,ae,x9.2.2.2.1,x9.2.2.1,0,(),(),())))else let af:=w64 (x9.2.2.1-1);
(gk af).bind λag=>
(fW a0 ag).bind λah=>
(jK ah.2.2.2.2).bind λ(ai,_)=>
(gd lc NN (ai,0,a0,a1,a2,(),0,(),(),(),0,0,0,0,0,0,(),(),x0,x1,x2,x3,x4,x9.1,ac.2.1,x9.2.2.1,x9.2.2.2.1,x9.2.2.2.2.1,x9.2.2.2.2.2.1,x9.2.2.2.2.2.2.1,x9.2.2.2.2.2.2.2,a8,x5,0,x9.2.2.2.1,x9.2.2.1,ah.2.2.2.2,[],(),())).bind λ(_,_,_,an,ap,aq,av,ax,ay,az,aA,aB,aD,aE,aF,aG,aH,aI,aJ,aK,aL,aM,aO,aP,aQ,aR,aS,aT,aU,aV,aW,aY,aZ,ba,bc,bd,be,bf,bg,bh,_)=>
(jx bf).bind λ(bi,_)=>bif(bi==1)then((fW aR 2).bind λbj=>let bk:=wk .i64 bj.2;
(gd lb NN (bk,0,an,ap,aq,av,ax,ay,az,aA,aB,aD,aE,aF,aG,aH,aI,aJ,aK,aL,aM,aO,aP,aQ,aR,aS,aT,aU,aV,aW,aY,aZ,ba,bc,bd,be,bf,bg,[],())).bind λ(bm)=>some (.inr (.inl (bm))))else some (.inr (.inr (.inl (false,an,ap,aq,av,ax,ay,az,aA,aB,aD,aE,aF,aG,aH,aI,aJ,aK,aL,aM,aO,aP,aQ,aR,aS,aT,aU,aV,aW,aY,aZ,ba,bc,bd,be,bf,bg,bh,())))))else some (.inr (.inr (.inr (a8,false,a0,a1,a2,(),0,(),(),(),0,0,0,0,0,0,(),(),x0,x1,x2,x3,x4,x9.1,ac.2.1,x9.2.2.1,x9.2.2.2.1,x9.2.2.2.2.1,x9.2.2.2.2.2.1,x9.2.2.2.2.2.2.1,x9.2.2.2.2.2.2.2,a8,x5,0,x9.2.2.2.1,x9.2.2.1,0,(),(),())))):Option ((Unit×Int×Unit×Unit×Unit×Int×Int×Int×Int×Int×Int×Unit×Unit×LI×Int×LDCe×LDLn×LDTh×T1W)⊕(T4j⊕(T4a⊕(Int×Bool×LDIn×LI×LLI×Unit×Int×Unit×Unit×Unit×Int×Int×Int×Int×Int×Int×Unit×Unit×LI×Int×LDCe×LDLn×LDTh×Int×LDCe×Int×Int×Int×Int×Int×Int×T1W)))))with
|none=>none
|some (.inl (_,_,_,_,_,_,_,_,_,_,_,_,_,ay,az,aA,aB,aD,aE,aF,aG,aH,aI,aJ,_,_,_))=>some (ay,az,aA,aB,aD,aE,aF,aG,aH,aI,aJ,[],[],0,())
|some (.inr (.inl (_,_,_,_,_,_,_,_,_,_,_,_,_,_,_,_,_,_,_,aF,aG,aH,aI,aJ,_,_,_,_,_,_,_,_,aT,aU,aV,aW,aY,aZ,ba,bc,_)))=>some (aF,aG,aH,aI,aJ,aT,aU,aV,aW,aY,aZ,ba,bc,0,())
|some (.inr (.inr (.inl (_,_,_,_,_,_,_,_,_,_,_,_,_,_,_,_,_,aD,aE,aF,aG,aH,_,_,_,_,_,_,_,_,aR,aS,aT,aU,aV,aW,aY,_,_))))=>some (aD,aE,aF,aG,aH,aR,aS,aT,aU,aV,aW,aY,[],0,())
|some (.inr (.inr (.inr (_,_,_,_,_,_,_,_,_,_,_,_,_,_,_,_,_,_,aE,aF,aG,aH,aI,_,_,_,_,_,_,_,_,aS,aT,aU,aV,aW,aY,_,_,_))))=>some (aE,aF,aG,aH,aI,aS,aT,aU,aV,aW,aY,[],[],0,()))
def I6:X.Cfg:=⟨E0,[yE,yD,xA,oj,qb,kI,vo],[],[⟨19,0,qS (zl [4,8,9,11,14,15]++il [80,81]) Zap,[(.exit 1,qS (zl [4,8,9,11,14,15]++il [80,81]++[Xaa 82]) Zap)]⟩,⟨26,1,qS (zl [4,8,9,11,14,15]++il [109,110]) uaq,[(.exit 3,qS uax uaq)]⟩,⟨7,2,qE,[(.normal,qS (zl [8,9,11,15]) [(18,Zab),(20,Uae),(24,yah),(32,Uae)]),(.normal,qS uax uaq),(.normal,qS (zl [4,8,9,11,14,15]++[Xaa 103]) Zap),(.normal,qS (Uaa 2::zl [4,8,9,11,14,15]++[Xaa 51]) [(10,uab),(18,Zab),(20,Uae),(24,yah),(30,yae),(32,Uae)])]⟩]⟩
def AJ:Ctr:=⟨134,75,[.agg uab,.agg zac,shU I64,shU I64],[],[⟨uL [RI,CW,(uaa KCe),iG,(uaa nX),I64,I64,I64,I64,I64,I64,(uaa KCn),(uaa KCn),I64],[.agg 5,.agg 8,.one],[]⟩],as1 (as8 ap1) oR⟩
theorem Is:Lk 6 AJ:=ls I6 (aC FG (aC FF (aC Cg (aC sn (aC tg (aC lX (aC Al aN)))))))
def kZ:T2q->Option (T2q⊕T2B):=λ(v0,v1,v2,v3,v4,v5,v6,v7,v8,_)=>bif(decide (v2<v1))then((gk v2).bind λx0=>
(fW v0 x0).bind λx1=>bif(gr 8 0 x1.length)then let x2:v_:=(List.append [] x1);bif(gr 24 v8.length (List.length [x2]))then let x3:List LI:=(List.append v8 [x2]);let x4:=w64 (v2+1);some (.inl (v0,v1,x4,v3,v4,v5,v6,v7,x3,()))else none else none)else some (.inr (v0,v1,v2,false,v3,v4,v5,v6,v7,v8,()))
def oN(a0:LI)(a1:LLI):Option (T09):=bif(gr 8 0 a0.length)then let x0:v_:=(List.append [] a0);let x1:=f7 a1.length;
(gd kZ NN (a1,x1,0,a0,a1,(),(),x0,[],())).bind λ(_,_,_,_,_,_,_,_,ac)=>some (ac)else none
def I2:X.Cfg:=⟨E0,[],[(21,(uaa I64)),(22,(uaa I64))],[(lx 4 0 (zl [2,3]++sP 11 (yaa RI)::il [12,13]) [(4,Xaf),(6,uac),(8,yaf)] 14)]⟩
def rL:Ctr:=⟨169,76,[.agg Xaf],[],[⟨yaf,[.agg 2],[]⟩],ap2 oN⟩
theorem uP:Lk 1 rL:=ls I2 aN
def jU(a0:LI)(a1:LLI)(a2 a3:Int):Option (LI×LLI×T01):=
(oN a0 a1).bind λ(x0,x1,_)=>
(bif(decide (a2<0))then(some (a2,true,(),(),x0,x1,()))else bif(decide (a2>=4))then(some (a2,true,(),(),x0,x1,()))else
(gk a2).bind λx2=>
(fW a0 x2).bind λx3=>some (a2,(x3 != a3),(),(),x0,x1,()):Option (T1d)).bind λ(x2,x3,_,_,x6,x7,_)=>bif x3 then(some (x6,x7,(-1),false,()))else
(gk x2).bind λx8=>
(fW x6 x8).bind λ_=>
(fW x6 x8).bind λ_=>let ae:=x6.modify x8 λe=>(-1);
(gk x2).bind λaf=>
(fW x7 af).bind λ_=>
(fW x7 af).bind λ_=>
(fW x7 af).bind λai=>let aj:=f7 ai.length;bif(decide (aj>0))then((gk x2).bind λak=>
(fW x7 ak).bind λ_=>
(fW x7 ak).bind λ_=>
(fW x7 ak).bind λap=>
(fW ap 0).bind λ_=>
(fW x7 ak).bind λav=>
(fW av 0).bind λax=>
(gk x2).bind λay=>
(fW ae ay).bind λ_=>
(fW ae ay).bind λ_=>let aB:=ae.modify ay λe=>ax;
(gk x2).bind λaD=>
(fW x7 aD).bind λ_=>
(fW x7 aD).bind λ_=>
(fW x7 aD).bind λaG=>bif(iX 1 aG.length aG.length)then(fW x7 aD).bind λ_=>
(gk x2).bind λaI=>
(fW x7 aI).bind λ_=>
(fW x7 aD).bind λaK=>
(fW x7 aI).bind λ_=>let aM:=x7.modify aI λe=>(nV aK 1 (Nat.sub aG.length 1));
(gk x2).bind λaO=>
(fW aB aO).bind λaP=>some (aB,aM,aP,true,())else none)else
(gk x2).bind λak=>
(fW ae ak).bind λam=>some (ae,x7,am,true,())
def IY:X.Cfg:=⟨E0,[rL],[],[⟨3,0,qE,[(.normal,qS [Uaa 1,zaa 6,zaa 9,Xaa 26] [(14,uac),(20,yaf)])]⟩]⟩
def rK:Ctr:=⟨156,77,[.agg Xaf,shU I64,shU I64],[],[⟨uL [RI,(yaa RI),I64,.bool],[.agg 2,.one,.one],[]⟩],ap4 jU⟩
theorem uO:Lk 2 rK:=ls IY (aC uP aN)
def gv(a0:Int)(a1:Bool):Option (T1D):=
(bif(!a1)then(some (65535,0,0,0,0,(),0,false,()))else some (a0,0,0,0,0,(),0,false,()):Option (Int×T1D)).bind λ(x0,_)=>let x8:=wk .u16 x0;some (0,x8,0,0,(),(-1),false,())
def F8:X.Cfg:=⟨E0,[],[],[⟨1,0,qE,[(.normal,qS [Uaa 0,zaa 4] [(10,Zad)])]⟩]⟩
def nR:Ctr:=⟨170,78,uL [I64,.bool],[],[⟨Zad,[.agg 7],[]⟩],ap2 gv⟩
theorem pV:Lk 1 nR:=ls F8 aN
def qp:T30->Option (T30⊕((Int×T09)⊕(Int×Int×LLI×Int×Int×LI×T29))):=λ(v0,v1,v2,v3,v4,v5,v6,v7,v8,v9,eu,eF,eH)=>bif(decide (v7<v6))then((gk v7).bind λx0=>
(fW v5 x0).bind λx1=>bif(x1==v1)then(some (.inr (.inl (2,eH))))else let x2:=w64 (v7+1);some (.inl (v0,v1,v2,v3,v4,v5,v6,x2,v8,v9,eu,eF,eH)))else some (.inr (.inr (v0,v1,v2,v3,v4,v5,v6,v7,false,v8,v9,eu,eF,eH)))
def qo:T2F->Option (T2F⊕((Int×T09)⊕(Int×Int×T2B))):=λ(v0,v1,v2,v3,v4,v5)=>bif(decide (v4<v3))then((gk v4).bind λx0=>
(fW v2 x0).bind λx1=>let x2:=f7 x1.length;
(match gd qp NN (v0,v1,v2,v3,v4,x1,x2,0,v5)with
|none=>none
|some (.inl (x3,x4,x5,_))=>some (.inr (.inl (x3,x4,x5,())))
|some (.inr (x3,x4,x5,x6,x7,_,_,_,_,af))=>let am:=w64 (x7+1);some (.inl (x3,x4,x5,x6,am,af))))else some (.inr (.inr (v0,v1,v2,v3,v4,false,v5)))
def ri(a0:LI)(a1:LLI)(a2 a3:Int):Option (LI×LLI×Int×Unit):=
(oN a0 a1).bind λ(x0,x1,_)=>
(bif(decide (a2<0))then(some (a2,a3,true,a0,a1,(),(),x0,x1,()))else bif(decide (a2>=4))then(some (a2,a3,true,a0,a1,(),(),x0,x1,()))else
(gk a2).bind λx2=>
(fW a0 x2).bind λx3=>some (a2,a3,(x3==a3),a0,a1,(),(),x0,x1,()):Option (T29)).bind λ(x2,x3,x4,x5,x6,x7,x8,x9,ac,_)=>bif x4 then(some (x9,ac,2,()))else let ae:=f7 x6.length;
(match gd qo NN (x2,x3,x6,ae,0,x5,x6,x7,x8,x9,ac,())with
|none=>none
|some (.inl (af,ag,ah,_))=>some (ag,ah,af,())
|some (.inr (af,ag,_,_,_,_,am,_,_,_,av,ax,_))=>
(gk af).bind λay=>
(fW am ay).bind λaz=>bif(az==(-1))then((gk af).bind λaA=>
(fW av aA).bind λ_=>
(fW av aA).bind λ_=>let aE:=av.modify aA λe=>ag;some (aE,ax,0,()))else
(gk af).bind λaA=>
(fW ax aA).bind λ_=>
(fW ax aA).bind λ_=>
(fW ax aA).bind λaE=>bif(gr 8 aE.length (List.length [ag]))then let aF:v_:=(List.append aE [ag]);
(gk af).bind λaG=>
(fW ax aG).bind λ_=>
(fW ax aG).bind λ_=>bif(Nat.beq aG aA)then let aJ:List LI:=(ax.modify aG λe=>aF);some (av,aJ,1,())else none else none)
def IX:X.Cfg:=⟨E0,[rL],[],[⟨3,0,qE,[(.normal,qS (il [1,2]++zl [3,6,8]++[Xaa 29]) Zan)]⟩,⟨13,1,qS (il [1,2]++zl [3,6,8]++sP 32 (yaa RI)::il [33,34]++sP 38 RI::il [39,40]) Zan,[(.ret,qS Xav [(14,yaf)]),(.exit 2,qS (il [1,2]++zl [3,6,8]++sP 32 (yaa RI)::il [33,34]++sP 38 RI::il [39,40]++[Xaa 41]) Zan)]⟩,⟨7,2,qS (il [1,2]++zl [3,6,8]++sP 32 (yaa RI)::il [33,34]) Zan,[(.ret,qS Xav [(14,yaf)]),(.exit 0,qS (il [1,2]++zl [3,6,8]++sP 32 (yaa RI)::il [33,34]++[Xaa 35]) Zan)]⟩]⟩
def AG:Ctr:=⟨171,79,[.agg Xaf,shU I64,shU I64],[],[⟨uL [(uaa I64),(uaa (uaa I64)),I64],[.agg 2,.one],[]⟩],ap4 ri⟩
theorem Ip:Lk 2 AG:=ls IX (aC uP aN)
def ne(a0 a1 a2 a3 a4 a5:Int)(a6 a7:LDCn):f_:=bif(decide (a0>=0))then(bif(decide (a0<4))then(bif(decide (a1>=0))then(bif(decide (a1<=3))then(bif(decide (a2>=0))then(bif(decide (a2<=6))then(bif(decide (a3>=0))then(bif(decide (a3<=1099511627776))then(bif(decide (a4>=0))then(bif(decide (a4<=255))then(bif(decide (a5>=0))then(bif(decide (a5<=15))then((iy a6 3).bind λ(x0,_)=>bif x0 then((iy a7 16).bind λ(x1,_)=>some (x1,()))else some (false,()))else some (false,()))else some (false,()))else some (false,()))else some (false,()))else some (false,()))else some (false,()))else some (false,()))else some (false,()))else some (false,()))else some (false,()))else some (false,()))else some (false,())
def Gl:X.Cfg:=⟨E0,[jq],[],[]⟩
def tF:Ctr:=⟨173,80,[.agg yac],[],[⟨zab,[.one],[]⟩],as1 (as2 (as4 ap1)) ne⟩
theorem xY:Lk 3 tF:=ls Gl (aC j9 aN)
def up(a0:Int):f_:=bif(decide (a0>=1))then(bif(decide (a0<=7))then(some (true,()))else bif(a0==13)then(some (true,()))else some ((a0==14),()))else bif(a0==13)then(some (true,()))else some ((a0==14),())
def IP:X.Cfg:=⟨E0,[],[],[]⟩
def AB:Ctr:=⟨181,81,Uac,[],[⟨zab,[.one],[]⟩],ap1 up⟩
theorem Ik:Lk 1 AB:=ls IP aN
def ko:T2N->Option (T2N⊕((Bool×Unit)⊕(ByteArray×LDCn×Int×Int×Bool×T1U))):=λ(v0,v1,v2,v3,v4)=>bif(decide (v3<v2))then((gk v3).bind λx0=>
(fW v1 x0).bind λx1=>
(gk v3).bind λx2=>
(Eu v0 x2).bind λx3=>
(oQ x3 x1.1).bind λ(x4,_)=>bif(!x4)then(some (.inr (.inl (false,()))))else let x5:=w64 (v3+1);some (.inl (v0,v1,v2,x5,v4)))else some (.inr (.inr (v0,v1,v2,v3,false,v4)))
def px(a0 a1 a2 a3 a4 a5:Int)(a6 a7:LDCn):f_:=
(nc a5).bind λ(x0,_)=>let x1:=BO x0;let x2:=f7 a6.length;bif(x1 != x2)then(some (false,()))else let x3:=f7 a6.length;
(match gd ko NN (x0,a6,x3,0,a0,a1,a2,a3,a4,a5,a6,a7,())with
|none=>none
|some (.inl (x4,_))=>some (x4,())
|some (.inr (_,_))=>some (true,()))
def Gm:X.Cfg:=⟨E0,[p9,vh],[],[⟨7,0,qS (sP 3 .str::sP 16 gp::il [17,18]) [(4,yac)],[(.ret,qS yau []),(.exit 0,qS [sP 3 .str,sP 16 gp,Uaa 17,Uaa 18,Xaa 19] [(4,yac)])]⟩]⟩
def yC:Ctr:=⟨182,82,[.agg yac],[],[⟨zab,[.one],[]⟩],as1 (as2 (as4 ap1)) px⟩
theorem FE:Lk 2 yC:=ls Gm (aC td (aC Ag aN))
def jT(a0:z_)(a1:LDOp)(a2:Int):f_:=bif(decide (a2>=0))then(let x0:Int:=(f7 a1.length);bif(decide (a2<x0))then((gk a2).bind λx1=>
(fW a1 x1).bind λx2=>some ((x2.1 != (-1)),()))else some (false,()))else some (false,())
def IS:X.Cfg:=⟨E0,[],[],[]⟩
def oZ:Ctr:=⟨196,83,[.agg zae,shU I64],[],[⟨zab,[.one],[]⟩],ap3 jT⟩
theorem rE:Lk 1 oZ:=ls IS aN
def tW:T2I->Option (T2I⊕(LDCn×Nat×Int×Int×Int×Bool×T1w)):=λ(v0,v1,v2,v3,v4,v5,v6,v7,v8,v9,eu,_)=>bif(decide (v4<v3))then(((fW v9 v1).bind λx0=>let x1:=w64 (x0.2.1+v4);let x2:=f7 eu.length;bif(decide (x1<x2))then((fW v9 v1).bind λx3=>let x4:=w64 (x3.2.1+v4);
(gk v4).bind λx5=>
(fW v0 x5).bind λx6=>
(gk x4).bind λx7=>
(fW eu x7).bind λ_=>
(fW eu x7).bind λ_=>let ac:=eu.modify x7 λe=>(x6.1,(x6.2.1,(x6.2.2.1,x6.2.2.2)));some (v0,v1,v2,v3,v4,v5,v6,v7,v8,v9,ac,()))else
(gk v4).bind λx3=>
(fW v0 x3).bind λx4=>let x5:LDCn:=[(x4.1,(x4.2.1,(x4.2.2.1,x4.2.2.2)))];bif(gr 24 eu.length x5.length)then let x6:LDCn:=(List.append eu x5);some (v0,v1,v2,v3,v4,v5,v6,v7,v8,v9,x6,())else none:Option (T2I)).bind λ(x0,x1,x2,x3,x4,x5,x6,x7,x8,x9,ac,_)=>let ae:=w64 (x4+1);some (.inl (x0,x1,x2,x3,ae,x5,x6,x7,x8,x9,ac,())))else some (.inr (v0,v1,v2,v3,v4,false,v5,v6,v7,v8,v9,eu,()))
def pt(a0:z_)(a1:LDOp)(a2:Int)(a3:LDCn):Option (LLCn×LDOp×T01):=
(jj a0 a1).bind λ(x0,x1,_)=>
((jT a0 a1 a2).bind λ(x2,_)=>bif(!x2)then(some (a2,a3,true,(),(),x0,x1,()))else
(gk a2).bind λx3=>
(fW a1 x3).bind λx4=>bif(!x4.2.2)then(some (a2,a3,true,(),(),x0,x1,()))else let x5:=f7 a3.length;
(iy a3 x5).bind λ(x6,_)=>some (a2,a3,(!x6),(),(),x0,x1,()):Option (Int×LDCn×T0U)).bind λ(x2,x3,x4,x5,x6,x7,x8,_)=>bif x4 then(some (x7,x8,0,false,()))else
(gk x2).bind λx9=>
(fW x8 x9).bind λ_=>let ae:=f7 x3.length;
(fW x8 x9).bind λaf=>let ag:=w64 (64-af.2.1);let ah:=mmR false ae ag;
(fW x8 x9).bind λai=>
(gk ai.1).bind λaj=>
(fW x7 aj).bind λ_=>
(fW x7 aj).bind λ_=>
(fW x7 aj).bind λan=>
(gd tW NN (x3,x9,ah,ah,0,x5,x6,x7,aj,x8,an,())).bind λ(_,aq,av,_,_,_,_,_,aD,aE,aF,aG,_)=>
(fW aF aq).bind λaH=>
(gk aH.1).bind λaI=>
(fW aD aI).bind λ_=>
(fW aD aI).bind λ_=>bif(Nat.beq aI aE)then let aL:z_:=(aD.modify aI λe=>aG);
(fW aF aq).bind λaM=>let aO:=w64 (aM.2.1+av);
(fW aF aq).bind λ_=>let aQ:=aF.modify aq λe=>(e.1,(aO,e.2.2));some (aL,aQ,av,true,())else none
def Gb:X.Cfg:=⟨E0,[lw,oZ,jq],[],[⟨3,0,qE,[(.normal,qS [Uaa 1,sP 2 gp,zaa 6,zaa 9,Xaa 35] [(14,uac),(20,Uaf)])]⟩,⟨13,1,qE,[(.normal,(qS yax Uar))]⟩,(lx 10 2 yax Uar 59)]⟩
def yy:Ctr:=⟨183,84,[.agg zae,shU I64,shU gp],[],[⟨uL [(uaa (uaa KCn)),(uaa KOp),I64,.bool],[.agg 2,.one,.one],[]⟩],ap4 pt⟩
theorem FA:Lk 3 yy:=ls Gb (aC mK (aC rE (aC j9 aN)))
def rf(a0:z_)(a1:LDOp)(a2 a3:Int):Option ((LLCn×LDOp×Unit×Bool×Unit)⊕(LLCn×LDOp×LDCn×Bool×Unit)):=
(jj a0 a1).bind λ(x0,x1,_)=>
((jT a0 a1 a2).bind λ(x2,_)=>bif(!x2)then(some (a2,a3,true,a0,a1,(),(),x0,x1,()))else bif(decide (a3<0))then(some (a2,a3,true,a0,a1,(),(),x0,x1,()))else
(gk a2).bind λx3=>
(fW a1 x3).bind λx4=>some (a2,a3,x4.2.2,a0,a1,(),(),x0,x1,()):Option (T2a)).bind λ(x2,x3,x4,_,_,_,_,x9,ac,_)=>bif x4 then(some (.inl (x9,ac,(),false,())))else
(gk x2).bind λae=>
(fW ac ae).bind λ_=>
(fW ac ae).bind λag=>
(gk ag.1).bind λah=>
(fW x9 ah).bind λ_=>
(fW x9 ah).bind λ_=>
(fW x9 ah).bind λak=>let am:=f7 ak.length;
(fW ac ae).bind λan=>let ap:=w64 (am-an.2.1);let aq:=mmR false x3 ap;
(fW ac ae).bind λav=>
(fW ac ae).bind λax=>let ay:=w64 (ax.2.1+aq);
(gk av.2.1).bind λaz=>
(gk ay).bind λaA=>bif(iX az aA ak.length)then let aB:LDCn:=(nV ak az (Nat.sub aA az));bif(gr 24 0 aB.length)then let aD:LDCn:=(List.append [] aB);
(fW ac ae).bind λaE=>let aF:=w64 (aE.2.1+aq);
(fW ac ae).bind λ_=>let aH:=ac.modify ae λe=>(e.1,(aF,e.2.2));some (.inr (x9,aH,aD,true,()))else none else none
def IU:X.Cfg:=⟨E0,[lw,oZ],[],[⟨3,0,qE,[(.normal,qS (il [1,2]++zl [6,9]++[Xaa 31]) [(8,zae),(14,uac),(20,Uaf)])]⟩]⟩
def AE:Ctr:=⟨184,85,[.agg zae,shU I64,shU I64],[],[⟨uL [(uaa (uaa KCn)),(uaa KOp),N1,.bool],[.agg 2,.one,.one],[]⟩,⟨uL [(uaa gp),(uaa KOp),(uaa KCn),.bool],[.agg 2,.one,.one],[]⟩],ap4 rf⟩
theorem In:Lk 2 AE:=ls IU (aC mK (aC rE aN))
def ur:T2e->Option (T2e⊕(Int×T2a)):=λ(v0,v1,v2,v3,v4,v5)=>let x0:=f7 v4.length;bif(decide (v2<x0))then((gk v2).bind λx1=>
(fW v4 x1).bind λx2=>bif(x2.1 != (-1))then(let x3:Int:=(w64 (v2+1));some (.inl (v0,v1,x3,v3,v4,v5)))else some (.inr (v0,v1,v2,false,v3,v4,v5)))else some (.inr (v0,v1,v2,false,v3,v4,v5))
def uq:T2c->Option (T2c⊕(Int×Int×T1T)):=λ(v0,v1,v2,v3,v4,v5,v6,v7,v8,_)=>bif(decide (v4<v3))then(((gk v4).bind λx0=>
(fW v8 x0).bind λ_=>
(fW v8 x0).bind λx2=>bif(x2.1==v0)then((gk v4).bind λx3=>
(fW v8 x3).bind λ_=>
(fW v8 x3).bind λ_=>let x6:=v8.modify x3 λe=>(e.1,(0,e.2.2));some (v0,v1,v2,v3,v4,v5,v6,v7,x6,()))else some (v0,v1,v2,v3,v4,v5,v6,v7,v8,()):Option (T2c)).bind λ(x0,x1,x2,x3,x4,x5,x6,x7)=>let x9:=w64 (x4+1);some (.inl (x0,x1,x2,x3,x9,x5,x6,x7)))else some (.inr (v0,v1,v2,v3,v4,false,v5,v6,v7,v8,()))
def rh(a0:z_)(a1:LDOp)(a2 a3:Int):Option (LLCn×LDOp×Int×Unit):=
(jj a0 a1).bind λ(x0,x1,_)=>
(gd ur NN (a2,a3,0,a0,a1,(),(),x0,x1,())).bind λ(x2,x3,x4,_,x6,x7,x8)=>
(bif(decide (x2<0))then(some (x2,x3,x4,true,x8))else let af:=f7 x6.length;bif(decide (x2>=af))then(some (x2,x3,x4,true,x8))else bif(decide (x3<0))then(some (x2,x3,x4,true,x8))else bif(decide (x3>2))then(some (x2,x3,x4,true,x8))else let ag:=f7 x7.length;some (x2,x3,x4,(x4==ag),x8):Option (T1T)).bind λ(af,ag,ah,ai,aj,ak,am,an,_)=>bif ai then(some (am,an,(-1),()))else bif(ag==1)then((gk af).bind λap=>
(fW am ap).bind λ_=>
(fW am ap).bind λ_=>let ax:=am.modify ap λe=>[];let ay:=f7 an.length;
(gd uq NN (af,ag,ah,ay,0,aj,ak,ax,an,())).bind λ(az,aA,aB,_,_,_,aG,aH,aI,aJ,_)=>
(gk aB).bind λaK=>
(fW aJ aK).bind λ_=>
(fW aJ aK).bind λ_=>let aO:=aJ.modify aK λe=>(az,(0,(decide (aA>0))));
(bif(aA==2)then((gk az).bind λaP=>
(fW aI aP).bind λ_=>
(fW aI aP).bind λ_=>
(fW aI aP).bind λaS=>let aT:=f7 aS.length;
(gk aB).bind λaU=>
(fW aO aU).bind λ_=>
(fW aO aU).bind λ_=>let aY:=aO.modify aU λe=>(e.1,(aT,e.2.2));some (aB,aG,aH,aI,aY,()))else some (aB,aG,aH,aI,aO,()):Option (T0Z)).bind λ(aP,_,_,aS,aT,_)=>some (aS,aT,aP,()))else
(gk ah).bind λap=>
(fW an ap).bind λ_=>
(fW an ap).bind λ_=>let ax:=an.modify ap λe=>(af,(0,(decide (ag>0))));
(bif(ag==2)then((gk af).bind λay=>
(fW am ay).bind λ_=>
(fW am ay).bind λ_=>
(fW am ay).bind λaB=>let aD:=f7 aB.length;
(gk ah).bind λaE=>
(fW ax aE).bind λ_=>
(fW ax aE).bind λ_=>let aH:=ax.modify aE λe=>(e.1,(aD,e.2.2));some (ah,aj,ak,am,aH,()))else some (ah,aj,ak,am,ax,()):Option (T0Z)).bind λ(ay,_,_,aB,aD,_)=>some (aB,aD,ay,())
def IV:X.Cfg:=⟨E0,[lw],[],[(lx 4 0 (il [1,2]++zl [3,6,8]++[Uaa 9]) [(8,zae),(14,uac),(18,Uaf)] 26),⟨8,1,qE,[(.normal,qS (il [1,2]++zl [6,8]++[Uaa 9,Xaa 52]) Uan)]⟩,⟨17,2,qE,[(.normal,qS zax Uan)]⟩,⟨14,3,qS zax Uan,[(.exit 2,qS (il [1,2]++zl [6,8]++il [9,62,63]++[Xaa 64]) Uan)]⟩,⟨21,4,qE,[(.normal,qS [zaa 6,zaa 8,Uaa 9] Uan)]⟩]⟩
def AF:Ctr:=⟨185,86,[.agg zae,shU I64,shU I64],[],[⟨Zak,[.agg 2,.one],[]⟩],ap4 rh⟩
theorem Io:Lk 2 AF:=ls IV (aC mK aN)
def pu(a0:z_)(a1:LDOp)(a2:Int):Option (LLCn×LDOp×Bool×Unit):=
(jj a0 a1).bind λ(x0,x1,_)=>
(jT a0 a1 a2).bind λ(x2,_)=>bif(!x2)then(some (x0,x1,false,()))else
(gk a2).bind λx3=>
(fW x1 x3).bind λ_=>
(fW x1 x3).bind λ_=>let x6:=x1.modify x3 λe=>((-1),(0,false));some (x0,x6,true,())
def Ge:X.Cfg:=⟨E0,[lw,oZ],[],[]⟩
def yz:Ctr:=⟨186,87,[.agg zae,shU I64],[],[⟨Ual,[.agg 2,.one],[]⟩],ap3 pu⟩
theorem FB:Lk 2 yz:=ls Ge (aC mK (aC rE aN))
def re(a0:z_)(a1:LDOp)(a2 a3:Int):Option (LLCn×LDOp×Bool×Unit):=
(jj a0 a1).bind λ(x0,x1,_)=>
((jT a0 a1 a2).bind λ(x2,_)=>bif(!x2)then(some (a2,a3,true,(),(),x0,x1,()))else bif(decide (a3<0))then(some (a2,a3,true,(),(),x0,x1,()))else
(gk a2).bind λx3=>
(fW a1 x3).bind λx4=>
(gk x4.1).bind λx5=>
(fW a0 x5).bind λx6=>let x7:=f7 x6.length;some (a2,a3,(decide (a3>x7)),(),(),x0,x1,()):Option (T1A)).bind λ(x2,x3,x4,_,_,x7,x8,_)=>bif x4 then(some (x7,x8,false,()))else
(gk x2).bind λx9=>
(fW x8 x9).bind λ_=>
(fW x8 x9).bind λ_=>let af:=x8.modify x9 λe=>(e.1,(x3,e.2.2));some (x7,af,true,())
def IT:X.Cfg:=⟨E0,[lw,oZ],[],[⟨3,0,qE,[(.normal,qS (il [1,2]++zl [6,8]++[Xaa 33]) Uan)]⟩]⟩
def AD:Ctr:=⟨187,88,[.agg zae,shU I64,shU I64],[],[⟨Ual,[.agg 2,.one],[]⟩],ap4 re⟩
theorem Im:Lk 2 AD:=ls IT (aC mK (aC rE aN))
def mE(a0:LDOu)(a1:Int)(a2:LDCn):Option (LDOu×T01):=
(kX a0).bind λ(x0,_)=>
(bif(decide (a1<0))then(some (a0,a1,a2,true,x0,()))else bif(decide (a1>=2))then(some (a0,a1,a2,true,x0,()))else let x1:=f7 a0.length;bif(decide (x1>=200))then(some (a0,a1,a2,true,x0,()))else let x2:=f7 a2.length;some (a0,a1,a2,(decide (x2>16)),x0,()):Option (LDOu×Int×LDCn×Bool×LDOu×Unit)).bind λ(x1,x2,x3,x4,x5,_)=>bif x4 then(some (x5,0,false,()))else let x6:=f7 x1.length;bif(gr 24 0 x3.length)then let x7:LDCn:=(List.append [] x3);let x8:LDOu:=[(x6,(x2,x7))];bif(gr 40 x5.length x8.length)then let x9:LDOu:=(List.append x5 x8);let ac:=f7 x3.length;some (x9,ac,true,())else none else none
def IQ:X.Cfg:=⟨E0,[u9],[(36,JX),(37,JX)],[⟨3,0,qE,[(.normal,qS [sP 0 ly,Uaa 1,sP 2 gp,Zaa 9 21,Xaa 27] [(21,yak)])]⟩]⟩
def AC:Ctr:=⟨188,89,uL [ly,I64,gp],[],[⟨uL [(uaa JX),I64,.bool],[.one,.one,.one],[]⟩],ap3 mE⟩
theorem Il:Lk 2 AC:=ls IQ (aC Ae aN)
def ji:T1G->Option (T1G⊕(Int×Int×LI×Int×Int×Bool×LLI×LDCn×Unit)):=λ(v0,v1,v2,v3,v4,v5,v6,_)=>bif(decide (v4<v3))then((gk v4).bind λx0=>
(fW v2 x0).bind λx1=>let x2:LDCn:=[(0,(x1,(0,0)))];bif(gr 24 v6.length x2.length)then let x3:LDCn:=(List.append v6 x2);let x4:=w64 (v4+1);some (.inl (v0,v1,v2,v3,x4,v5,x3,()))else none)else some (.inr (v0,v1,v2,v3,v4,false,v5,v6,()))
def mW(a0:LLI)(a1 a2:Int):Option ((LLI×Unit×Bool×Unit)⊕(LLI×LDCn×Bool×Unit)):=
(iT a0).bind λ(x0,_)=>
(bif(decide (a1<0))then(some (a0,a1,a2,true,x0,()))else let x1:=f7 a0.length;bif(decide (a1>=x1))then(some (a0,a1,a2,true,x0,()))else some (a0,a1,a2,(decide (a2<0)),x0,()):Option (LLI×Int×Int×Bool×LLI×Unit)).bind λ(x1,x2,x3,x4,x5,_)=>bif x4 then(some (.inl (x5,(),false,())))else
(gk x2).bind λx6=>
(fW x1 x6).bind λx7=>let x8:=f7 x7.length;let x9:=mmR false x3 x8;
(gk x2).bind λac=>
(fW x1 ac).bind λae=>
(gk x9).bind λaf=>bif(iX 0 af ae.length)then let ag:v_:=(nV ae 0 (Nat.sub af 0));let ah:=f7 ag.length;
(gd ji NN (x2,x9,ag,ah,0,x5,[],())).bind λ(ai,aj,_,_,_,_,aq,av,_)=>
(gk ai).bind λax=>
(fW aq ax).bind λ_=>
(fW aq ax).bind λ_=>
(fW aq ax).bind λaA=>
(gk aj).bind λaB=>bif(iX aB aA.length aA.length)then(fW aq ax).bind λ_=>
(gk ai).bind λaE=>
(fW aq aE).bind λ_=>
(fW aq ax).bind λaG=>
(fW aq aE).bind λ_=>let aI:=aq.modify aE λe=>(nV aG aB (Nat.sub aA.length aB));some (.inr (aI,av,true,()))else none else none
def Cx:X.Cfg:=⟨E0,[kS],[],[⟨3,0,qE,[(.normal,qS [sP 0 (yaa RW),Uaa 1,Uaa 2,Zaa 9 21,Xaa 27] [(21,Uaj)])]⟩,(lx 9 1 [Uaa 1,Zaa 9 21,Uaa 10,Zaa 11 25,sP 41 RW,Uaa 42,Uaa 43] [(21,Uaj),(25,Zag)] 44)]⟩
def u6:Ctr:=⟨189,90,uL [(yaa RW),I64,I64],[],[⟨uL [(uaa (uaa CW)),N1,.bool],[.one,.one,.one],[]⟩,⟨uL [(uaa RW),(uaa KCn),.bool],[.one,.one,.one],[]⟩],ap3 mW⟩
theorem Cb:Lk 2 u6:=ls Cx (aC nJ aN)
def sL:T47->Option (T47⊕(LDCn×Int×Int×Bool×T3Z)):=λ(v0,v1,v2,v3,v4,v5,v6,v7,v8,v9,eu,eF,eH,eJ,eM,eQ,eW,eY,fa,fe,fh,fj,fm,fr,fv,fA,fB,fC,fD,fE,fF,fG,fH,fI,fJ,fK,fL,_)=>bif(decide (v2<v1))then((gk v2).bind λx0=>
(fW v0 x0).bind λx1=>let x2:=wk .i64 x1.2.1;
(gk v2).bind λx3=>
(fW fL x3).bind λ_=>
(fW fL x3).bind λ_=>let x6:=fL.modify x3 λe=>x2;let x7:=w64 (v2+1);some (.inl (v0,v1,x7,v3,v4,v5,v6,v7,v8,v9,eu,eF,eH,eJ,eM,eQ,eW,eY,fa,fe,fh,fj,fm,fr,fv,fA,fB,fC,fD,fE,fF,fG,fH,fI,fJ,fK,x6,())))else some (.inr (v0,v1,v2,false,v3,v4,v5,v6,v7,v8,v9,eu,eF,eH,eJ,eM,eQ,eW,eY,fa,fe,fh,fj,fm,fr,fv,fA,fB,fC,fD,fE,fF,fG,fH,fI,fJ,fK,fL,()))
def n8(a0 a1:LI)(a2:LLI)(a3:z_)(a4:LDOp)(a5:LDOu)(a6 a7 a8 a9 eq eE:Int)(eG eI:LDCn):Option (LI×LI×LLI×LLCn×LDOp×LDOu×Int×Int×Int×Int×LDCn×Int×Bool×Int×Unit):=
((lC a0 a1 a2 a3 a4 a5).bind λ(x0,_)=>bif(!x0)then(some (true,a0,a1,a2,a3,a4,a5,a6,a7,a8,a9,eq,eE,eG,eI,(),(),(),(),(),(),0,0,0,0,(),0,false,()))else
(ne a6 a7 a8 a9 eq eE eG eI).bind λ(x1,_)=>bif(!x1)then(some (true,a0,a1,a2,a3,a4,a5,a6,a7,a8,a9,eq,eE,eG,eI,(),(),(),(),(),(),0,0,0,0,(),0,false,()))else bif(a7 != 1)then(some (true,a0,a1,a2,a3,a4,a5,a6,a7,a8,a9,eq,eE,eG,eI,(),(),(),(),(),(),0,0,0,0,(),0,false,()))else
(up eE).bind λ(x2,_)=>bif(!x2)then(some (true,a0,a1,a2,a3,a4,a5,a6,a7,a8,a9,eq,eE,eG,eI,(),(),(),(),(),(),0,0,0,0,(),0,false,()))else
(px a6 a7 a8 a9 eq eE eG eI).bind λ(x3,_)=>bif(!x3)then(some (true,a0,a1,a2,a3,a4,a5,a6,a7,a8,a9,eq,eE,eG,eI,(),(),(),(),(),(),0,0,0,0,(),0,false,()))else
(jx eE).bind λ(x4,_)=>bif(x4==2)then((fW eG 2).bind λx5=>some ((decide (x5.2.1>16)),a0,a1,a2,a3,a4,a5,a6,a7,a8,a9,eq,eE,eG,eI,(),(),(),(),(),(),0,0,0,0,(),0,false,()))else some (false,a0,a1,a2,a3,a4,a5,a6,a7,a8,a9,eq,eE,eG,eI,(),(),(),(),(),(),0,0,0,0,(),0,false,()):Option (Bool×LI×LI×LLI×LLCn×LDOp×LDOu×Int×Int×Int×Int×Int×Int×LDCn×LDCn×Unit×Unit×Unit×Unit×Unit×Unit×T1D)).bind λ(x0,x1,x2,x3,x4,x5,x6,x7,x8,x9,ac,ae,af,ag,ah,ai,aj,ak,am,an,ap,aq,av,ax,ay,az,aA,aB,_)=>bif x0 then(some ([],[],[],[],[],[],0,0,0,0,[],0,false,1,()))else
(rd x1 x2 x3 x4 x5 x6).bind λ(aD,aE,aF,aG,aH,aI,_)=>let aJ:v_:=[0,0,0];let aK:=f7 ag.length;
(gd sL NN (ag,aK,0,x1,x2,x3,x4,x5,x6,x7,x8,x9,ac,ae,af,ag,ah,ai,aj,ak,am,an,ap,aq,av,ax,ay,az,aA,aB,aD,aE,aF,aG,aH,aI,aJ,())).bind λ(_,_,_,_,aQ,aR,aS,aT,aU,aV,_,_,_,_,_,bd,_,bf,bg,bh,bi,bj,bk,bm,bn,bo,bp,bq,bt,bv,bx,bA,bB,bC,bD,bE,bF,bG,_)=>
(gv 0 false).bind λ(bH,bI,bJ,bK,bL)=>
(match(bif(bd==1)then((fW bG 0).bind λ_=>
(fW bG 0).bind λbP=>
(pt aT aU bP bf).bind λ(bQ,bR,bS,bT,_)=>
(gv bS bT).bind λ(bU,bV,bW,bY,_,b8,b9,_)=>some (.inl (bg,bh,bi,bj,bk,bm,bn,bo,bp,bq,bt,bv,bx,bA,bB,bC,bQ,bR,bF,bU,bV,bW,bY,[],b8,b9,())))else bif(bd==2)then((fW bG 0).bind λ_=>
(fW bG 0).bind λbP=>
(fW bG 2).bind λ_=>
(fW bG 2).bind λbR=>
(match rf aT aU bP bR with
|none=>none
|some (.inl (bS,bT,_,bV,_))=>
(gv 0 bV).bind λ(bW,bY,bZ,b8,_,cd,cf,_)=>some (.inl (bg,bh,bi,bj,bk,bm,bn,bo,bp,bq,bt,bv,bx,bA,bB,bC,bS,bT,bF,bW,bY,bZ,b8,[],cd,cf,()))
|some (.inr (bS,bT,bU,bV,_))=>let bW:=f7 bU.length;
(gv bW bV).bind λ(bY,bZ,b8,b9,_,cf,cg,_)=>some (.inl (bg,bh,bi,bj,bk,bm,bn,bo,bp,bq,bt,bv,bx,bA,bB,bC,bS,bT,bF,bY,bZ,b8,b9,bU,cf,cg,()))))else bif(bd==3)then((fW bG 0).bind λ_=>
(fW bG 0).bind λbP=>
(fW bG 1).bind λ_=>
(fW bG 1).bind λbR=>
(rh aT aU bP bR).bind λ(bS,bT,bU,_)=>bif(decide (bU>=0))then(let bV:Int:=(wk .u16 bU);some (.inr (.inl (bg,bh,bi,bj,bk,bm,bn,bo,bp,bq,bt,bv,bx,bA,bB,bC,bS,bT,bF,2,bV,0,0,bL))))else some (.inr (.inl (bg,bh,bi,bj,bk,bm,bn,bo,bp,bq,bt,bv,bx,bA,bB,bC,bS,bT,bF,bH,bI,bJ,bK,bL))))else bif(bd==4)then((fW bG 0).bind λ_=>
(fW bG 0).bind λbP=>
(pu aT aU bP).bind λ(bQ,bR,bS,_)=>
(gv 0 bS).bind λ(bT,bU,bV,bW,_,bZ,b8,_)=>some (.inl (bg,bh,bi,bj,bk,bm,bn,bo,bp,bq,bt,bv,bx,bA,bB,bC,bQ,bR,bF,bT,bU,bV,bW,[],bZ,b8,())))else bif(bd==5)then((fW bG 0).bind λ_=>
(fW bG 0).bind λbP=>
(fW bG 1).bind λ_=>
(fW bG 1).bind λbR=>
(re aT aU bP bR).bind λ(bS,bT,bU,_)=>
(gv 0 bU).bind λ(bV,bW,bY,bZ,_,b9,cd,_)=>some (.inl (bg,bh,bi,bj,bk,bm,bn,bo,bp,bq,bt,bv,bx,bA,bB,bC,bS,bT,bF,bV,bW,bY,bZ,[],b9,cd,())))else bif(bd==6)then(let bO:Int:=(f7 aQ.length);bif(decide (bO>0))then((fW aQ 0).bind λbP=>let bQ:=wk .i64 bP;
(gv bQ true).bind λ(bR,bS,bT,bU,bV,bW,bY,_)=>bif(iX 1 bA.length bA.length)then let bZ:v_:=(nV bA 1 (Nat.sub bA.length 1));some (.inr (.inr (.inl (bg,bh,bi,bj,bk,bm,bn,bo,bp,bq,bt,bv,bx,bZ,bB,bC,bD,bE,bF,bR,bS,bT,bU,bV,bW,bY,()))))else none)else some (.inr (.inl (bg,bh,bi,bj,bk,bm,bn,bo,bp,bq,bt,bv,bx,bA,bB,bC,bD,bE,bF,bH,bI,bJ,bK,bL))))else bif(bd==7)then(let bO:Int:=(f7 aR.length);bif(decide (bO>0))then((fW aR 0).bind λbP=>let bQ:=wk .i64 bP;
(gv bQ true).bind λ(bR,bS,bT,bU,bV,bW,bY,_)=>bif(iX 1 bB.length bB.length)then let bZ:v_:=(nV bB 1 (Nat.sub bB.length 1));some (.inr (.inr (.inr (.inl (bg,bh,bi,bj,bk,bm,bn,bo,bp,bq,bt,bv,bx,bA,bZ,bC,bD,bE,bF,bR,bS,bT,bU,bV,bW,bY,())))))else none)else some (.inr (.inl (bg,bh,bi,bj,bk,bm,bn,bo,bp,bq,bt,bv,bx,bA,bB,bC,bD,bE,bF,bH,bI,bJ,bK,bL))))else bif(bd==13)then((fW bG 0).bind λ_=>
(fW bG 0).bind λbP=>
(mE aV bP bf).bind λ(bQ,bR,bS,_)=>
(gv bR bS).bind λ(bT,bU,bV,bW,bY,bZ,b8,_)=>some (.inr (.inl (bg,bh,bi,bj,bk,bm,bn,bo,bp,bq,bt,bv,bx,bA,bB,bC,bD,bE,bQ,bT,bU,bV,bW,bY,bZ,b8,()))))else bif(bd==14)then((fW bG 0).bind λ_=>
(fW bG 0).bind λbP=>
(fW bG 2).bind λ_=>
(fW bG 2).bind λbR=>
(match mW aS bP bR with
|none=>none
|some (.inl (bS,bT,bU,_))=>
(gv 0 bU).bind λ(bV,bW,bY,bZ,_,b9,cd,_)=>some (.inr (.inl (bg,bh,bi,bj,bk,bm,bn,bo,bp,bq,bt,bv,bx,bA,bB,bS,bD,bE,bF,bV,bW,bY,bZ,bT,b9,cd,())))
|some (.inr (bS,bT,bU,_))=>let bV:=f7 bT.length;
(gv bV bU).bind λ(bW,bY,bZ,b8,_,cd,cf,_)=>some (.inr (.inr (.inr (.inr (bg,bh,bi,bj,bk,bm,bn,bo,bp,bq,bt,bv,bx,bA,bB,bS,bD,bE,bF,bW,bY,bZ,b8,bT,cd,cf,())))))))else some (.inr (.inl (bg,bh,bi,bj,bk,bm,bn,bo,bp,bq,bt,bv,bx,bA,bB,bC,bD,bE,bF,bH,bI,bJ,bK,bL))):Option (T3O⊕(T3P⊕(T3P⊕(T3P⊕T3O)))))with
|none=>none
|some (.inl (_,_,_,_,_,_,_,_,_,_,_,_,_,cd,cf,cg,ch,ci,cj,cn,cq,cr,cu,cw,cx,cy,_))=>some (cd,cf,cg,ch,ci,cj,cn,cq,cr,cu,cw,cx,cy,0,())
|some (.inr (.inl (_,_,_,_,_,_,_,_,_,_,_,_,_,cd,cf,cg,ch,ci,cj,cn,cq,cr,cu,_,cx,cy,_)))=>some (cd,cf,cg,ch,ci,cj,cn,cq,cr,cu,[],cx,cy,0,())
|some (.inr (.inr (.inl (_,_,_,_,_,_,_,_,_,_,_,_,_,cd,cf,cg,ch,ci,cj,cn,cq,cr,cu,_,cx,cy,_))))=>some (cd,cf,cg,ch,ci,cj,cn,cq,cr,cu,[],cx,cy,0,())
|some (.inr (.inr (.inr (.inl (_,_,_,_,_,_,_,_,_,_,_,_,_,cd,cf,cg,ch,ci,cj,cn,cq,cr,cu,_,cx,cy,_)))))=>some (cd,cf,cg,ch,ci,cj,cn,cq,cr,cu,[],cx,cy,0,())
|some (.inr (.inr (.inr (.inr (_,_,_,_,_,_,_,_,_,_,_,_,_,cd,cf,cg,ch,ci,cj,cn,cq,cr,cu,cw,cx,cy,_)))))=>some (cd,cf,cg,ch,ci,cj,cn,cq,cr,cu,cw,cx,cy,0,()))
def Nr:X.Cfg:=⟨E0,[p7,tF,AB,yC,kI,u5,nR,yy,AE,AF,yz,AD,AC,u6],[],[⟨2,0,qE,[(.normal,qS (zl [2,3,4,5]++[Xaa 67]) [(6,uah),(8,yac),(10,Uah),(12,Zad)])]⟩,(lx 8 1 (zl [2,3,4,5,7]++Zaa 8 19::sP 74 gp::il [75,76]) [(6,uah),(8,yac),(10,Uah),(12,Zad),(16,zak),(19,uaf)] 77),⟨14,2,qE,[(.normal,(qS Zau [(10,Uah),(12,Zad),(16,uL [(uaa CW),(uaa CW),(uaa (uaa CW)),(yaa gp),jt,(uaa JX)]),(24,zah)])),(.normal,qS Zau [(10,Uah),(12,Zad),(16,zak),(24,Zad)]),(.normal,(qS Zau [(10,Uah),(12,Zad),(16,uL [RW,(uaa CW),(uaa (uaa CW)),(uaa (uaa KCn)),(uaa KOp),(uaa JX)]),(24,Zad)])),(.normal,(qS Zau [(10,Uah),(12,Zad),(16,uL [(uaa CW),RW,(uaa (uaa CW)),(uaa (uaa KCn)),(uaa KOp),(uaa JX)]),(24,Zad)])),(.normal,(qS Zau [(10,Uah),(12,Zad),(16,uL [(uaa CW),(uaa CW),(uaa RW),(uaa (uaa KCn)),(uaa KOp),(uaa JX)]),(24,zah)]))]⟩]⟩
def ET:Ctr:=⟨172,91,[.agg uah,.agg yac],[],[⟨uL [RW,RW,(yaa RW),(yaa gp),jt,ly,CB,CW,I64,I64,gp,I64,.bool,I64],[.agg 6,.agg 7,.one],[]⟩],as1 (as4 (as8 ap1)) n8⟩
theorem Nj:Lk 5 ET:=ls Nr (aC s8 (aC xY (aC Ik (aC FE (aC lX (aC Ad (aC pV (aC FA (aC In (aC Io (aC FB (aC Im (aC Il (aC Cb aN))))))))))))))
def mT:T3Q->Option (T3Q⊕(T3K⊕(Int×Int×Bool×T3K))):=λ(v0,v1,v2,v3,v4,v5,v6,v7,v8,v9,eu,eF,eH,eJ,eM,eQ,eW,eY,fa,fe,fh)=>bif(decide (v1<v0))then((gk v1).bind λx0=>
(fW v9 x0).bind λ_=>
(fW v9 x0).bind λx2=>bif(x2.1==0)then((gv v1 true).bind λ(x3,x4,x5,x6,x7,_,x9,_)=>some (.inr (.inl (v2,v3,v4,v5,v6,v7,v8,v9,eu,eF,eH,eJ,eM,eQ,eW,eY,fa,fe,x3,x4,x5,x6,x7,v1,x9,()))))else let x3:=w64 (v1+1);some (.inl (v0,x3,v2,v3,v4,v5,v6,v7,v8,v9,eu,eF,eH,eJ,eM,eQ,eW,eY,fa,fe,fh)))else some (.inr (.inr (v0,v1,false,v2,v3,v4,v5,v6,v7,v8,v9,eu,eF,eH,eJ,eM,eQ,eW,eY,fa,fe,fh)))
def mU(a0 a1 a2 a3 a4 a5:Int)(a6 a7:LDCn)(a8:LDIn)(a9:LI)(eq:LLI)(eE:LI)(eG:Int)(eI:LDCe)(eK:LDLn)(eO:LDTh)(eS eX:LI)(eZ:LLI)(fc:z_)(ff:LDOp)(fi:LDOu)(fk:LI)(fq:LLI)(fu:LDEn)(fw:LI):Option (Int×Int×Int×Int×LDCn×T3r):=
(bif(a5==0)then(some (a5,true,a8,a9,eq,eE,eG,eI,eK,eO,eS,eX,eZ,fc,ff,fi,fk,fq,fu,fw,a0,a1,a2,a3,a4,a5,a6,a7,0,0,0,0,(),0,false,()))else bif(a5==12)then(some (a5,true,a8,a9,eq,eE,eG,eI,eK,eO,eS,eX,eZ,fc,ff,fi,fk,fq,fu,fw,a0,a1,a2,a3,a4,a5,a6,a7,0,0,0,0,(),0,false,()))else some (a5,(a5==15),a8,a9,eq,eE,eG,eI,eK,eO,eS,eX,eZ,fc,ff,fi,fk,fq,fu,fw,a0,a1,a2,a3,a4,a5,a6,a7,0,0,0,0,(),0,false,()):Option (T40)).bind λ(x0,x1,x2,x3,x4,x5,x6,x7,x8,x9,ac,ae,af,ag,ah,ai,aj,ak,am,an,ap,aq,av,ax,ay,az,aA,aB,aD)=>bif x1 then((gv 0 true).bind λ(aK,aL,aM,aO,_,aQ,aR,_)=>some (aK,aL,aM,aO,[],aQ,aR,x2,x3,x4,x5,x6,x7,x8,x9,ac,ae,af,ag,ah,ai,aj,ak,am,an,()))else bif(x0==8)then((fW aA 0).bind λaK=>let aL:=wk .i64 aK.2.1;
(ri aj ak aL ap).bind λ(aM,aO,aP,_)=>
(gv 0 (aP != 2)).bind λ(aQ,aR,aS,aT,_,aV,_,_)=>some (aQ,aR,aS,aT,[],aV,(aP==1),x2,x3,x4,x5,x6,x7,x8,x9,ac,ae,af,ag,ah,ai,aM,aO,am,an,()))else bif(x0==9)then((fW aA 0).bind λaK=>let aL:=wk .i64 aK.2.1;
(jU aj ak aL ap).bind λ(aM,aO,_,aQ,_)=>
(gv 0 aQ).bind λ(aR,aS,aT,aU,_,aW,aY,_)=>some (aR,aS,aT,aU,[],aW,aY,x2,x3,x4,x5,x6,x7,x8,x9,ac,ae,af,ag,ah,ai,aM,aO,am,an,()))else bif(x0==10)then(let aK:Int:=(f7 x9.length);
(match gd mT NN (aK,0,x2,x3,x4,x5,x6,x7,x8,x9,ac,ae,af,ag,ah,ai,aj,ak,am,an,aD)with
|none=>none
|some (.inl (aL,aM,aO,aP,aQ,aR,aS,aT,aU,aV,aW,aY,aZ,ba,bc,bd,be,bf,bg,bh,bi,bj,_,bm,bn,_))=>some (bg,bh,bi,bj,[],bm,bn,aL,aM,aO,aP,aQ,aR,aS,aT,aU,aV,aW,aY,aZ,ba,bc,bd,be,bf,())
|some (.inr (_,_,_,aP,aQ,aR,aS,aT,aU,aV,aW,aY,aZ,ba,bc,bd,be,bf,bg,bh,bi,_,_,_,_,_,_,_,_))=>
(gv 0 false).bind λ(bt,bv,bx,bA,_,bC,bD,_)=>some (bt,bv,bx,bA,[],bC,bD,aP,aQ,aR,aS,aT,aU,aV,aW,aY,aZ,ba,bc,bd,be,bf,bg,bh,bi,())))else bif(x0==11)then((fW aA 0).bind λaK=>let aL:=wk .i64 aK.2.1;
(bif(aL==ap)then(some (aL,true,x2,x3,x4,x5,x6,x7,x8,x9,ac,ae,af,ag,ah,ai,aj,ak,am,an,ap,aq,av,ax,ay,az,aA,aB,aD))else bif(decide (aL>=4))then(some (aL,true,x2,x3,x4,x5,x6,x7,x8,x9,ac,ae,af,ag,ah,ai,aj,ak,am,an,ap,aq,av,ax,ay,az,aA,aB,aD))else
(gk aL).bind λaM=>
(fW x9 aM).bind λ_=>
(fW x9 aM).bind λaP=>some (aL,(aP.1==0),x2,x3,x4,x5,x6,x7,x8,x9,ac,ae,af,ag,ah,ai,aj,ak,am,an,ap,aq,av,ax,ay,az,aA,aB,aD):Option (T40)).bind λ(aM,aO,aP,aQ,aR,aS,aT,aU,aV,aW,aY,aZ,ba,bc,bd,be,bf,bg,bh,bi,bj,_,_,_,_,_,_,_,_,_,_,_,_,_,_,_)=>bif aO then((gv 0 false).bind λ(bF,bG,bH,bI,_,bK,bL,_)=>some (bF,bG,bH,bI,[],bK,bL,aP,aQ,aR,aS,aT,aU,aV,aW,aY,aZ,ba,bc,bd,be,bf,bg,bh,bi,()))else
(gk aM).bind λbF=>
(fW aW bF).bind λ_=>
(fW aW bF).bind λbH=>bif(bH.1==4)then(let bI:Int:=(wk .i64 bH.2.2.2.2.2.2.2);
(gv bI true).bind λ(bJ,bK,bL,bM,_,bO,bP,_)=>some (bJ,bK,bL,bM,[],bO,bP,aP,aQ,aR,aS,aT,aU,aV,aW,aY,aZ,ba,bc,bd,be,bf,bg,bh,bi,()))else
(gk bj).bind λbI=>
(fW bi bI).bind λ_=>
(fW bi bI).bind λ_=>let bL:=bi.modify bI λe=>aM;
(gv 0 true).bind λ(bM,bN,bO,bP,_,bR,_,_)=>some (bM,bN,bO,bP,[],bR,true,aP,aQ,aR,aS,aT,aU,aV,aW,aY,aZ,ba,bc,bd,be,bf,bg,bh,bL,()))else
(n8 ac ae af ag ah ai ap aq av ax ay az aA aB).bind λ(aK,aL,aM,aO,aP,aQ,aR,aS,aT,aU,aV,aW,aY,_,_)=>some (aR,aS,aT,aU,aV,aW,aY,x2,x3,x4,x5,x6,x7,x8,x9,aK,aL,aM,aO,aP,aQ,aj,ak,am,an,())
def Cw:X.Cfg:=⟨E0,[nR,AG,rK,ET],[],[⟨3,0,qE,[(.normal,qS (zl [0,3,4]++[Uaa 21,Xaa 22]) Xar)]⟩,⟨20,1,(qS (zl [0,4]++(87,.pk ⟨2,7,[]⟩ [0,0])::il [88,89]) yaq),[(.ret,qS (zl [0,4]) yaq),(.exit 1,(qS (zl [0,4]++(87,.pk ⟨2,7,[]⟩ [0,0])::il [88,89]++[Xaa 90]) yaq))]⟩,⟨33,2,qE,[(.normal,qS (zl [0,3,4]++[Uaa 14,Xaa 131]) Xar)]⟩]⟩
def u4:Ctr:=⟨157,92,[.ptr ⟨2,0,[]⟩ [0],.agg yac],[(2,uae)],[⟨Zac,[.agg 7],[(2,uae)]⟩],as1 (as8 (as8 (as8 ap1))) mU⟩
theorem Ca:Lk 6 u4:=ls Cw (aC pV (aC Ip (aC uO (aC Nj aN))))
def m6(a0 a1 a2 a3:Int)(a4:LDCn)(a5:Int)(a6:Bool):f_:=
(mF a0 a1 a2 a3).bind λ(x0,_)=>bif x0 then((iy a4 16).bind λ(x1,_)=>bif x1 then(bif(decide (a5>=(-1)))then(some ((decide (a5<4)),()))else some (false,()))else some (false,()))else some (false,())
def Gf:X.Cfg:=⟨E0,[vi,jq],[],[]⟩
def tE:Ctr:=⟨55,93,[.agg Zac],[],[⟨zab,[.one],[]⟩],as2 (as4 ap1) m6⟩
theorem xX:Lk 3 tE:=ls Gf (aC Ah (aC j9 aN))
def jy(a0:LI)(a1:Int)(a2:LI)(a3 a4 a5 a6:Int):Option (T0g):=
(iw a2 a3 a4 a5 a6).bind λ(x0,_)=>bif(!x0)then(some (0,0,1,()))else bif(a3==0)then(some (0,a4,0,()))else bif(a3==2)then(let x1:Int:=(wk .u16 (a4+a1));some (2,x1,0,()))else
(gk a5).bind λx1=>
(fW a0 x1).bind λx2=>let x3:=w64 (x2+a6);let x4:=wk .u16 x3;some (1,x4,0,())
def KR:X.Cfg:=⟨E0,[l9],[],[]⟩
def tK:Ctr:=⟨37,94,[.agg Uab,shU RI,.agg zag],[],[⟨Uai,[.agg 2,.one],[]⟩],as2 (as4 ap1) jy⟩
theorem xo:Lk 3 tK:=ls KR (aC oH aN)
def ny(a0:LI)(a1:Int)(a2:LI)(a3 a4:Int):Option (T02):=
(ib a2 a3 a4).bind λ(x0,_)=>bif(!x0)then(some (0,6,()))else
(gk a3).bind λx1=>
(fW a0 x1).bind λx2=>let x3:=w64 (x2+a4);some (x3,0,())
def CF:X.Cfg:=⟨E0,[ma],[],[]⟩
def vp:Ctr:=⟨190,95,[.agg Uab,shU RI,.agg yad],[],[⟨yad,[.one,.one],[]⟩],ap5 ny⟩
theorem Cj:Lk 2 vp:=ls CF (aC oI aN)
def xI:Option (T21):=bif(xT 8 8 2)then let x0:LDCe:=(List.replicate 8 (0,0));some (0,x0,0,0,(-1),(-1),0,0,())else none
def Gv:X.Cfg:=⟨E0,[],[],[]⟩
def yH:Ctr:=⟨197,96,[],[],[⟨uag,[.agg 8],[]⟩],λh=>xI⟩
theorem FJ:Lk 1 yH:=ls Gv aN
def sR(a0 a1 a2:Int):Option (T21):=
(xI).bind λ(_,x1,_,x3)=>
(fW x1 0).bind λ_=>
(fW x1 0).bind λ_=>let ac:=x1.modify 0 λe=>(a1,a2);some (1,ac,a0,x3)
def KO:X.Cfg:=⟨E0,[yH],[],[]⟩
def Dg:Ctr:=⟨191,97,[shU I64,.agg Xab],[],[⟨uag,[.agg 8],[]⟩],ap3 sR⟩
theorem KC:Lk 2 Dg:=ls KO (aC FJ aN)
def jv:T3T->Option (T3T⊕(T1a⊕T3V)):=λ(v0,v1,v2,v3,v4,v5,v6,v7,v8,v9,eu,eF,eH,eJ,eM,eQ,eW,eY,fa,fe,fh,fj,fm,fr,fv,fA,fB,fC,fD,fE,fF,_)=>bif(decide (v3<v2))then((gk v3).bind λx0=>
(fW v1 x0).bind λx1=>
(jy v4 v5 eu x1.1 x1.2.1 x1.2.2.1 x1.2.2.2).bind λ(x2,x3,x4,_)=>bif(x4 != 0)then(some (.inr (.inl (false,v4,v5,v6,v7,v8,()))))else
(ib eu fE fF).bind λ(x5,_)=>bif(!x5)then(some (.inr (.inl (false,v4,v5,v6,v7,v8,()))))else
(ny v4 v5 eu fE fF).bind λ(x6,_,_)=>
(nn x6 x2 x3 v6 v7).bind λ(x8,x9,_)=>let ac:=w64 (fF+1);let ae:=w64 (v3+1);some (.inl (v0,v1,v2,ae,v4,v5,x8,x9,v8,v9,eu,eF,eH,eJ,eM,eQ,eW,eY,fa,fe,fh,fj,fm,fr,fv,fA,fB,fC,fD,fE,ac,())))else some (.inr (.inr (v0,v1,v2,v3,false,v4,v5,v6,v7,v8,v9,eu,eF,eH,eJ,eM,eQ,eW,eY,fa,fe,fh,fj,fm,fr,fv,fA,fB,fC,fD,fE,fF,())))
def n9(a0:LDIn)(a1:LI)(a2:LLI)(a3 a4 a5 a6 a7 a8:Int)(a9 eq:LDCn)(eE eG eI eK:Int)(eO:LDCn)(eS:Int)(eX:Bool)(eZ:LI)(fc:Int)(ff:LDCe)(fi:LDLn)(fk:LDTh):Option (T1a):=
(gk a3).bind λx0=>
(fW fk x0).bind λ_=>
(jy eZ fc a1 eE eG eI eK).bind λ(x2,x3,x4,_)=>bif(x4 != 0)then(some (false,eZ,fc,ff,fi,fk,()))else
(match((jx a8).bind λ(x5,_)=>bif(x5==2)then(let x6:Int:=(f7 eO.length);bif(decide (x6>0))then((fW a9 1).bind λx7=>
(fW a9 1).bind λx8=>
(fW a9 1).bind λx9=>
(iw a1 x9.1 x9.2.1 x9.2.2.1 x9.2.2.2).bind λ(ac,_)=>bif(!ac)then(some (.inl (false,eZ,fc,ff,fi,fk,())))else
(fW a9 1).bind λae=>bif(ae.1 != 1)then(some (.inl (false,eZ,fc,ff,fi,fk,())))else let af:=f7 eO.length;
(match gd jv NN (x0,eO,af,0,eZ,fc,ff,fi,fk,a0,a1,a2,a3,a4,a5,a6,a7,a8,a9,eq,eE,eG,eI,eK,eO,eS,eX,x2,x3,x7.2.2.1,x8.2.2.2,())with
|none=>none
|some (.inl (ag,ah,ai,aj,ak,am,_))=>some (.inl (ag,ah,ai,aj,ak,am,()))
|some (.inr (ag,ah,ai,aj,ak,am,an,ap,aq,av,ax,ay,az,aA,aB,aD,aE,aF,aG,aH,aI,aJ,aK,aL,aM,aO,aP,aQ,aR,aS,aT,aU,_))=>some (.inr (.inl (ag,ah,ai,aj,ak,am,an,ap,aq,av,ax,ay,az,aA,aB,aD,aE,aF,aG,aH,aI,aJ,aK,aL,aM,aO,aP,aQ,aR,aS,aT,aU,())))))else some (.inr (.inr (x0,false,eZ,fc,ff,fi,fk,a0,a1,a2,a3,a4,a5,a6,a7,a8,a9,eq,eE,eG,eI,eK,eO,eS,eX,x2,x3,()))))else some (.inr (.inr (x0,false,eZ,fc,ff,fi,fk,a0,a1,a2,a3,a4,a5,a6,a7,a8,a9,eq,eE,eG,eI,eK,eO,eS,eX,x2,x3,()))):Option (T1a⊕(T3V⊕(Nat×Bool×T3L))))with
|none=>none
|some (.inl (x5,x6,x7,x8,x9,ac,_))=>some (x5,x6,x7,x8,x9,ac,())
|some (.inr (.inl (x5,_,_,_,_,ac,ae,af,ag,ah,ai,aj,ak,am,an,ap,aq,av,ax,ay,az,aA,aB,aD,aE,aF,aG,aH,aI,aJ,_,_,_)))=>
(match(bif(ax==12)then((fW ay 0).bind λaM=>let aO:=wk .i64 aM.2.1;bif(decide (aO>255))then(some (.inl (false,ac,ae,af,ag,ah,())))else
(fW ay 0).bind λaP=>bif(aP.1 != 0)then(some (.inl (false,ac,ae,af,ag,ah,())))else
(fW ay 0).bind λaQ=>let aR:=wk .i64 aQ.2.1;
(fW ah x5).bind λ_=>let aT:=ah.modify x5 λe=>(e.1,(e.2.1,(e.2.2.1,(e.2.2.2.1,(aR,e.2.2.2.2.2)))));some (.inr (x5,ac,ae,af,ag,aT,ai,aj,ak,am,an,ap,aq,av,ax,ay,az,aA,aB,aD,aE,aF,aG,aH,aI,aJ,())))else some (.inr (x5,ac,ae,af,ag,ah,ai,aj,ak,am,an,ap,aq,av,ax,ay,az,aA,aB,aD,aE,aF,aG,aH,aI,aJ,())):Option (T1a⊕T3N))with
|none=>none
|some (.inl (aM,aO,aP,aQ,aR,aS,_))=>some (aM,aO,aP,aQ,aR,aS,())
|some (.inr (aM,aO,aP,aQ,aR,aS,_,aU,_,aW,aY,aZ,ba,bc,bd,be,bf,bg,bh,bi,bj,bk,bm,bn,bo,bp,_))=>
(match(bif(bd==10)then(bif(decide (bm>=0))then((fW be 1).bind λbq=>
(jy aO aP aU bq.1 bq.2.1 bq.2.2.1 bq.2.2.2).bind λ(bt,bv,bx,_)=>
(bif(bx != 0)then(some (aM,true,aO,aP,aQ,aR,aS,aW,aY,aZ,ba,bc,bd,be,bf,bg,bh,bi,bj,bk,bm,bn,bo,bp,bt,bv,()))else
(gk bm).bind λbA=>
(fW aS bA).bind λ_=>
(fW aS bA).bind λbC=>bif(bC.1 != 0)then(some (aM,true,aO,aP,aQ,aR,aS,aW,aY,aZ,ba,bc,bd,be,bf,bg,bh,bi,bj,bk,bm,bn,bo,bp,bt,bv,()))else
(fW be 0).bind λbD=>let bE:=wk .i64 bD.2.1;bif(decide (bE>255))then(some (aM,true,aO,aP,aQ,aR,aS,aW,aY,aZ,ba,bc,bd,be,bf,bg,bh,bi,bj,bk,bm,bn,bo,bp,bt,bv,()))else
(fW be 0).bind λbF=>some (aM,(bF.1 != 0),aO,aP,aQ,aR,aS,aW,aY,aZ,ba,bc,bd,be,bf,bg,bh,bi,bj,bk,bm,bn,bo,bp,bt,bv,()):Option (T3M)).bind λ(bA,bB,bC,bD,bE,bF,bG,bH,bI,bJ,bK,bL,bM,bN,bO,_,_,_,_,_,bU,_,bW,bY,bZ,b8,_)=>bif bB then(some (.inl (false,bC,bD,bE,bF,bG,())))else
(fW bN 0).bind λb9=>let cd:=wk .i64 b9.2.1;
(sR cd bZ b8).bind λ(cf,cg,ch,ci,cj,cn,cq,cr,_)=>
(gk bU).bind λcu=>
(fW bG cu).bind λ_=>
(fW bG cu).bind λ_=>let cy:=bG.modify cu λe=>(cf,(cg,(ch,(ci,(cj,(cn,(cq,cr)))))));some (.inr (bA,bC,bD,bE,bF,cy,bH,bI,bJ,bK,bL,bM,bN,bO,bW,bY,())))else some (.inr (aM,aO,aP,aQ,aR,aS,aW,aY,aZ,ba,bc,bd,be,bf,bo,bp,())))else some (.inr (aM,aO,aP,aQ,aR,aS,aW,aY,aZ,ba,bc,bd,be,bf,bo,bp,())):Option (T1a⊕T3a))with
|none=>none
|some (.inl (bq,bt,bv,bx,bA,bB,_))=>some (bq,bt,bv,bx,bA,bB,())
|some (.inr (bq,bt,bv,bx,bA,bB,_,_,_,_,_,_,_,_,bK,bL,_))=>
(fW bB bq).bind λ_=>
(fW bB bq).bind λbN=>
(fW bN.2.1 0).bind λ_=>
(fW bB bq).bind λbP=>
(fW bP.2.1 0).bind λ_=>let bR:=bB.modify bq λe=>(e.1,((e.2.1.modify 0 λe=>(bK,bL)),e.2.2));
(fW bR bq).bind λ_=>let bT:=bR.modify bq λe=>(1,e.2);some (true,bt,bv,bx,bA,bT,())))
|some (.inr (.inr (x5,_,x7,x8,x9,ac,ae,af,ag,ah,ai,aj,ak,am,an,ap,aq,av,ax,ay,az,aA,aB,aD,aE,aF,aG,_)))=>
(match(bif(ap==12)then((fW aq 0).bind λaH=>let aI:=wk .i64 aH.2.1;bif(decide (aI>255))then(some (.inl (false,x7,x8,x9,ac,ae,())))else
(fW aq 0).bind λaJ=>bif(aJ.1 != 0)then(some (.inl (false,x7,x8,x9,ac,ae,())))else
(fW aq 0).bind λaK=>let aL:=wk .i64 aK.2.1;
(fW ae x5).bind λ_=>let aO:=ae.modify x5 λe=>(e.1,(e.2.1,(e.2.2.1,(e.2.2.2.1,(aL,e.2.2.2.2.2)))));some (.inr (x5,x7,x8,x9,ac,aO,af,ag,ah,ai,aj,ak,am,an,ap,aq,av,ax,ay,az,aA,aB,aD,aE,aF,aG,())))else some (.inr (x5,x7,x8,x9,ac,ae,af,ag,ah,ai,aj,ak,am,an,ap,aq,av,ax,ay,az,aA,aB,aD,aE,aF,aG,())):Option (T1a⊕T3N))with
|none=>none
|some (.inl (aH,aI,aJ,aK,aL,aM,_))=>some (aH,aI,aJ,aK,aL,aM,())
|some (.inr (aH,aI,aJ,aK,aL,aM,_,aP,_,aR,aS,aT,aU,aV,aW,aY,aZ,ba,bc,bd,be,bf,bg,bh,bi,bj,_))=>
(match(bif(aW==10)then(bif(decide (bg>=0))then((fW aY 1).bind λbk=>
(jy aI aJ aP bk.1 bk.2.1 bk.2.2.1 bk.2.2.2).bind λ(bm,bn,bo,_)=>
(bif(bo != 0)then(some (aH,true,aI,aJ,aK,aL,aM,aR,aS,aT,aU,aV,aW,aY,aZ,ba,bc,bd,be,bf,bg,bh,bi,bj,bm,bn,()))else
(gk bg).bind λbp=>
(fW aM bp).bind λ_=>
(fW aM bp).bind λbt=>bif(bt.1 != 0)then(some (aH,true,aI,aJ,aK,aL,aM,aR,aS,aT,aU,aV,aW,aY,aZ,ba,bc,bd,be,bf,bg,bh,bi,bj,bm,bn,()))else
(fW aY 0).bind λbv=>let bx:=wk .i64 bv.2.1;bif(decide (bx>255))then(some (aH,true,aI,aJ,aK,aL,aM,aR,aS,aT,aU,aV,aW,aY,aZ,ba,bc,bd,be,bf,bg,bh,bi,bj,bm,bn,()))else
(fW aY 0).bind λbA=>some (aH,(bA.1 != 0),aI,aJ,aK,aL,aM,aR,aS,aT,aU,aV,aW,aY,aZ,ba,bc,bd,be,bf,bg,bh,bi,bj,bm,bn,()):Option (T3M)).bind λ(bp,bq,bt,bv,bx,bA,bB,bC,bD,bE,bF,bG,bH,bI,bJ,_,_,_,_,_,bP,_,bR,bS,bT,bU,_)=>bif bq then(some (.inl (false,bt,bv,bx,bA,bB,())))else
(fW bI 0).bind λbV=>let bW:=wk .i64 bV.2.1;
(sR bW bT bU).bind λ(bY,bZ,b8,b9,cd,cf,cg,ch,_)=>
(gk bP).bind λci=>
(fW bB ci).bind λ_=>
(fW bB ci).bind λ_=>let cq:=bB.modify ci λe=>(bY,(bZ,(b8,(b9,(cd,(cf,(cg,ch)))))));some (.inr (bp,bt,bv,bx,bA,cq,bC,bD,bE,bF,bG,bH,bI,bJ,bR,bS,())))else some (.inr (aH,aI,aJ,aK,aL,aM,aR,aS,aT,aU,aV,aW,aY,aZ,bi,bj,())))else some (.inr (aH,aI,aJ,aK,aL,aM,aR,aS,aT,aU,aV,aW,aY,aZ,bi,bj,())):Option (T1a⊕T3a))with
|none=>none
|some (.inl (bk,bm,bn,bo,bp,bq,_))=>some (bk,bm,bn,bo,bp,bq,())
|some (.inr (bk,bm,bn,bo,bp,bq,_,_,_,_,_,_,_,_,bF,bG,_))=>
(fW bq bk).bind λ_=>
(fW bq bk).bind λbI=>
(fW bI.2.1 0).bind λ_=>
(fW bq bk).bind λbK=>
(fW bK.2.1 0).bind λ_=>let bM:=bq.modify bk λe=>(e.1,((e.2.1.modify 0 λe=>(bF,bG)),e.2.2));
(fW bM bk).bind λ_=>let bO:=bM.modify bk λe=>(1,e.2);some (true,bm,bn,bo,bp,bO,()))))
def KL:X.Cfg:=⟨E0,[tK,kI,l9,ma,vp,tH,Dg],[],[⟨13,0,(qS (zl [1,4,6,7]++(9,.ptr ⟨4,4,[((),(8,0))]⟩ [0,0])::zl [10,12]++sP 80 gp::il [81,82]) zaq),[(.ret,qS uav zan),(.exit 0,(qS Uax zaq))]⟩,⟨6,1,qE,[(.ret,qS uav zan),(.normal,(qS Uax zaq)),(.normal,(qS (zl [1,4,6,7]++[(9,.ptr ⟨4,4,[((),(8,0))]⟩ [0,0]),zaa 10,Xaa 51]) Zar))]⟩,⟨24,2,qE,[(.ret,qS uav zan),(.normal,(qS (zl [1,4,6,7]++[(9,.ptr ⟨4,4,[((),(8,0))]⟩ [0,0]),zaa 10]) Zar))]⟩,⟨33,3,qE,[(.normal,(qS (zl [1,6,7]++(9,.ptr ⟨4,4,[((),(8,0))]⟩ [0,0])::zl [10,19]++[Xaa 207]) [(4,uad),(14,yac),(16,Zac),(22,Xab),(40,Xab)]))]⟩,⟨29,4,qE,[(.ret,qS uav zan),(.normal,(qS [zaa 1,(9,.ptr ⟨4,4,[((),(8,0))]⟩ [0,0]),zaa 10] [(4,uad),(14,yac),(22,Xab)]))]⟩]⟩
def Dd:Ctr:=⟨174,98,[.agg uab,.ptr ⟨4,0,[]⟩ [0],.agg yac,.agg Zac],[(4,uad)],[⟨zab,[.one],[(4,uad)]⟩],as2 (as4 (as8 (as8 ap1))) n9⟩
theorem Kz:Lk 4 Dd:=ls KL (aC xo (aC lX (aC oH (aC oI (aC Cj (aC ya (aC KC aN)))))))
def sO(a0:LDIn)(a1:LI)(a2:LLI)(a3:LI)(a4:Int)(a5:LDCe)(a6:LDLn)(a7:LDTh)(a8 a9 eq eE eG eI:Int)(eK eO:LDCn)(eS eX eZ fc:Int)(ff:LDCn)(fi:Int)(fk:Bool):Option (T1q):=
((iL a0 a1 a2 a3 a4 a5 a6 a7).bind λ(x0,_)=>bif(!x0)then(some (true,a0,a1,a2,a3,a4,a5,a6,a7,a8,a9,eq,eE,eG,eI,eK,eO,eS,eX,eZ,fc,ff,fi,fk,(),0,(),(),(),()))else
(ne a8 a9 eq eE eG eI eK eO).bind λ(x1,_)=>bif(!x1)then(some (true,a0,a1,a2,a3,a4,a5,a6,a7,a8,a9,eq,eE,eG,eI,eK,eO,eS,eX,eZ,fc,ff,fi,fk,(),0,(),(),(),()))else bif(a9 != 1)then(some (true,a0,a1,a2,a3,a4,a5,a6,a7,a8,a9,eq,eE,eG,eI,eK,eO,eS,eX,eZ,fc,ff,fi,fk,(),0,(),(),(),()))else let x2:=f7 eK.length;
(jK eI).bind λ(x3,_)=>bif(x2 != x3)then(some (true,a0,a1,a2,a3,a4,a5,a6,a7,a8,a9,eq,eE,eG,eI,eK,eO,eS,eX,eZ,fc,ff,fi,fk,(),0,(),(),(),()))else
(m6 eS eX eZ fc ff fi fk).bind λ(x4,_)=>bif(!x4)then(some (true,a0,a1,a2,a3,a4,a5,a6,a7,a8,a9,eq,eE,eG,eI,eK,eO,eS,eX,eZ,fc,ff,fi,fk,(),0,(),(),(),()))else
(gk a8).bind λx5=>
(fW a7 x5).bind λx6=>some ((x6.1 != 2),a0,a1,a2,a3,a4,a5,a6,a7,a8,a9,eq,eE,eG,eI,eK,eO,eS,eX,eZ,fc,ff,fi,fk,(),0,(),(),(),()):Option (Bool×LDIn×LI×LLI×LI×Int×LDCe×LDLn×LDTh×Int×Int×Int×Int×Int×Int×LDCn×LDCn×T2Q)).bind λ(x0,x1,x2,x3,x4,x5,x6,x7,x8,x9,ac,ae,af,ag,ah,ai,aj,ak,am,an,ap,aq,av,ax,_)=>bif x0 then(none)else
(lh x4 x5 x6 x7 x8).bind λ(aE,aF,aG,aH,aI,_)=>bif(ah==0)then((gk x9).bind λaJ=>
(fW aI aJ).bind λ_=>
(fW aI aJ).bind λaL=>
(fW ai 0).bind λaM=>
(fW aI aJ).bind λaO=>
(qq aL.1 aO.2.1 aL.2.2.1 aL.2.2.2.1 aL.2.2.2.2.1 aL.2.2.2.2.2.1 aL.2.2.2.2.2.2.1 aL.2.2.2.2.2.2.2 0 aM.2.1).bind λ(aP,aQ,aR,aS,aT,aU,aV,aW,_)=>
(gk x9).bind λaY=>
(fW aI aY).bind λ_=>
(fW aI aY).bind λ_=>let bc:=aI.modify aY λe=>(aP,(aQ,(aR,(aS,(aT,(aU,(aV,aW)))))));
(fW bc 0).bind λ_=>some (aE,aF,aG,aH,bc,true,()))else bif ax then((gk x9).bind λaJ=>
(fW aI aJ).bind λ_=>
(fW aI aJ).bind λ_=>let aM:=aI.modify aJ λe=>(3,e.2);
(fW aM 0).bind λ_=>
(fW aM 0).bind λ_=>some (aE,aF,aG,aH,aM,true,()))else
(n9 x1 x2 x3 x9 ac ae af ag ah ai aj ak am an ap aq av ax aE aF aG aH aI).bind λ(aJ,aK,aL,aM,aO,aP,_)=>bif(!aJ)then(none)else
(fW aP 0).bind λ_=>
(fW aP 0).bind λ_=>some (aK,aL,aM,aO,aP,true,())
def KM:X.Cfg:=⟨E0,[nS,tF,oj,tE,o4,xA,Dd],[],[⟨2,0,qE,[(.normal,qS (zl [4,5,6,7,8]++[Xaa 48]) [(10,uab),(12,zac),(14,yac),(16,Zac),(18,Zab)])]⟩]⟩
def De:Ctr:=⟨158,99,[.agg uab,.agg zac,.agg yac,.agg Zac],[],[⟨Xal,[.agg 5,.one],[]⟩],as2 (as4 (as8 (as8 ap1))) sO⟩
theorem KA:Lk 5 De:=ls KM (aC pW (aC xY (aC sn (aC xX (aC rF (aC Cg (aC Kz aN)))))))
def oO(a0:LDIn)(a1:LI)(a2:LLI)(a3:LI)(a4:Int)(a5:LDCe)(a6:LDLn)(a7:LDTh)(a8 a9 eq eE eG:Int)(eI:LDCn)(eK:Int)(eO:Bool):Option (T1q):=
((iL a0 a1 a2 a3 a4 a5 a6 a7).bind λ(x0,_)=>bif(!x0)then(some (a8,true,a0,a1,a2,a3,a4,a5,a6,a7,a9,eq,eE,eG,eI,eK,eO,(),0,(),(),(),()))else
(m6 a9 eq eE eG eI eK eO).bind λ(x1,_)=>bif(!x1)then(some (a8,true,a0,a1,a2,a3,a4,a5,a6,a7,a9,eq,eE,eG,eI,eK,eO,(),0,(),(),(),()))else bif(decide (a8<0))then(some (a8,true,a0,a1,a2,a3,a4,a5,a6,a7,a9,eq,eE,eG,eI,eK,eO,(),0,(),(),(),()))else bif(decide (a8>=4))then(some (a8,true,a0,a1,a2,a3,a4,a5,a6,a7,a9,eq,eE,eG,eI,eK,eO,(),0,(),(),(),()))else
(gk a8).bind λx2=>
(fW a7 x2).bind λx3=>some (a8,(x3.1 != 3),a0,a1,a2,a3,a4,a5,a6,a7,a9,eq,eE,eG,eI,eK,eO,(),0,(),(),(),()):Option (Int×Bool×LDIn×LI×LLI×LI×Int×LDCe×LDLn×LDTh×T2Q)).bind λ(x0,x1,_,x3,_,x5,x6,x7,x8,x9,ac,ae,af,ag,_)=>bif x1 then(none)else
(jy x5 x6 x3 ac ae af ag).bind λ(av,ax,ay,_)=>bif(ay != 0)then(none)else
(lh x5 x6 x7 x8 x9).bind λ(az,aA,aB,aD,aE,_)=>
(gk x0).bind λaF=>
(fW aE aF).bind λ_=>
(fW aE aF).bind λ_=>
(fW aE aF).bind λaI=>
(fW aI.2.1 0).bind λ_=>
(fW aE aF).bind λaK=>
(fW aK.2.1 0).bind λ_=>let aM:=aE.modify aF λe=>(e.1,((e.2.1.modify 0 λe=>(av,ax)),e.2.2));
(gk x0).bind λaO=>
(fW aM aO).bind λ_=>
(fW aM aO).bind λ_=>let aR:=aM.modify aO λe=>(1,e.2);
(fW aR 0).bind λ_=>
(fW aR 0).bind λ_=>some (az,aA,aB,aD,aR,true,())
def I3:X.Cfg:=⟨E0,[nS,tE,tK,o4],[],[⟨2,0,qE,[(.normal,qS (Uaa 2::zl [4,5,7,8]++[Xaa 38]) [(10,uab),(12,zac),(16,Zac),(18,Zab)])]⟩]⟩
def vf:Ctr:=⟨23,100,[.agg uab,.agg zac,shU I64,.agg Zac],[],[⟨Xal,[.agg 5,.one],[]⟩],as1 (as2 (as4 (as8 ap1))) oO⟩
theorem Af:Lk 5 vf:=ls I3 (aC pW (aC xX (aC xo (aC rF aN))))
def q9(a0 a1:Int)(a2:LDIn)(a3:LI)(a4:LLI)(a5:LI)(a6:Int)(a7:LDCe)(a8:LDLn)(a9:LDTh)(eq eE:LI)(eG:LLI)(eI:z_)(eK:LDOp)(eO:LDOu)(eS:LI)(eX:LLI)(eZ:LDEn)(fc:LI):Option (T3g):=let x0:=wk .i64 a1;
(gv x0 true).bind λ(x1,x2,x3,x4,_,x6,x7,_)=>
(oO a2 a3 a4 a5 a6 a7 a8 a9 a0 x1 x2 x3 x4 [] x6 x7).bind λ(x8,x9,ac,ae,af,_,_)=>let ah:LDEn:=[(4,(a0,(0,(0,(0,(0,(0,(0,(0,([],([],(x1,(x2,(x3,(x4,([],(x6,x7)))))))))))))))))];bif(gr 184 eZ.length ah.length)then let ai:LDEn:=(List.append eZ ah);some (a2,a3,a4,x8,x9,ac,ae,af,eq,eE,eG,eI,eK,eO,eS,eX,ai,fc,())else none
def IL:X.Cfg:=⟨E0,[nR,vf],[(35,Qz),(36,Qz)],[]⟩
def Az:Ctr:=⟨159,101,[.ptr ⟨2,0,[]⟩ [0],shU I64,shU CW],[(2,uae)],[⟨[],[],[(2,uae)]⟩],as1 (as2 (as8 (as8 ap1))) q9⟩
theorem Ii:Lk 6 Az:=ls IL (aC pV (aC Af aN))
def lT(a0 a1 a2 a3 a4 a5:Int)(a6 a7:LDCn)(a8:LDIn)(a9:LI)(eq:LLI)(eE:LI)(eG:Int)(eI:LDCe)(eK:LDLn)(eO:LDTh)(eS eX:LI)(eZ:LLI)(fc:z_)(ff:LDOp)(fi:LDOu)(fk:LI)(fq:LLI)(fu:LDEn)(fw:LI):Option (T3g):=
(bif(a5==9)then((fW a6 0).bind λx0=>let x1:=wk .i64 x0.2.1;
(jU fk fq x1 a0).bind λ(_,_,x4,_,_)=>some (x4,a8,a9,eq,eE,eG,eI,eK,eO,eS,eX,eZ,fc,ff,fi,fk,fq,fu,fw,a0,a1,a2,a3,a4,a5,a6,a7,()))else some ((-1),a8,a9,eq,eE,eG,eI,eK,eO,eS,eX,eZ,fc,ff,fi,fk,fq,fu,fw,a0,a1,a2,a3,a4,a5,a6,a7,()):Option (Int×LDIn×LI×LLI×LI×Int×LDCe×LDLn×LDTh×LI×LI×LLI×LLCn×LDOp×LDOu×LI×LLI×LDEn×LI×T1U)).bind λ(x0,x1,x2,x3,x4,x5,x6,x7,x8,x9,ac,ae,af,ag,ah,ai,aj,ak,am,an,ap,aq,av,ax,ay,az,aA,_)=>
(mU an ap aq av ax ay az aA x1 x2 x3 x4 x5 x6 x7 x8 x9 ac ae af ag ah ai aj ak am).bind λ(aB,aD,aE,aF,aG,aH,aI,aJ,aK,aL,aM,aO,aP,aQ,aR,aS,aT,aU,aV,aW,aY,aZ,ba,bc,bd,_)=>
(sO aJ aK aL aM aO aP aQ aR an ap aq av ax ay az aA aB aD aE aF aG aH aI).bind λ(be,bf,bg,bh,bi,_,_)=>let bk:LDEn:=[(2,(an,(0,(an,(ap,(aq,(av,(ax,(ay,(az,(aA,(aB,(aD,(aE,(aF,(aG,(aH,aI)))))))))))))))))];bif(gr 184 bc.length bk.length)then let bm:LDEn:=(List.append bc bk);bif(decide (x0>=0))then((q9 x0 0 aJ aK aL be bf bg bh bi aS aT aU aV aW aY aZ ba bm bd).bind λ(bn)=>some (bn))else some (aJ,aK,aL,be,bf,bg,bh,bi,aS,aT,aU,aV,aW,aY,aZ,ba,bm,bd,())else none
def DY:X.Cfg:=⟨E0,[rK,u4,De,Az],[(56,Qz),(57,Qz)],[⟨2,0,qE,[(.normal,qS [zaa 0,zaa 3,Uaa 4] [(2,uae),(8,yac)])]⟩]⟩
def wM:Ctr:=⟨135,102,[.ptr ⟨2,0,[]⟩ [0],.agg yac],[(2,uae)],[⟨[],[],[(2,uae)]⟩],as1 (as8 (as8 (as8 ap1))) lT⟩
theorem DA:Lk 7 wM:=ls DY (aC uO (aC Ca (aC KA (aC Ii aN))))
def uv:T2R->Option (T2R⊕(Int×Int×Int×Int×Nat×T1S)):=λ(v0,v1,v2,v3,v4,v5,v6,v7,v8,v9,eu,eF,_)=>bif(decide (v6<v5))then(((gk v6).bind λx0=>
(fW eu v4).bind λx1=>
(fW x1 x0).bind λ_=>
(fW eu v4).bind λx3=>
(fW x3 x0).bind λx4=>bif(x4 != v0)then(bif(gr 8 eF.length (List.length [x4]))then let x5:v_:=(List.append eF [x4]);some (v0,v1,v2,v3,v4,v5,v6,v7,v8,v9,eu,x5,())else none)else some (v0,v1,v2,v3,v4,v5,v6,v7,v8,v9,eu,eF,()):Option (T2R)).bind λ(x0,x1,x2,x3,x4,x5,x6,x7)=>let af:=w64 (x6+1);some (.inl (x0,x1,x2,x3,x4,x5,af,x7)))else some (.inr (v0,v1,v2,v3,v4,v5,v6,false,v7,v8,v9,eu,eF,()))
def uu:T1E->Option (T1E⊕(Int×T1z)):=λ(v0,v1,v2,v3,v4,v5,v6,_)=>bif(decide (v2<v1))then((gk v2).bind λx0=>
(fW v6 x0).bind λ_=>
(fW v6 x0).bind λ_=>
(fW v6 x0).bind λx3=>let x4:=f7 x3.length;
(gd uv NN (v0,v2,v1,v2,x0,x4,0,v3,v4,v5,v6,[],())).bind λ(x5,x6,x7,x8,_,_,_,_,ag,ah,ai,aj,ak,_)=>
(gk x6).bind λam=>
(fW aj am).bind λ_=>
(fW aj am).bind λ_=>let aq:=aj.modify am λe=>ak;let av:=w64 (x8+1);some (.inl (x5,x7,av,ag,ah,ai,aq,())))else some (.inr (v0,v1,v2,false,v3,v4,v5,v6,()))
def ut:T1X->Option (T1X⊕(Int×T1S)):=λ(v0,v1,v2,v3,v4,v5,v6,v7,_)=>bif(decide (v2<v1))then((jU v5 v6 v2 v0).bind λ(x0,x1,x2,x3,_)=>
(bif x3 then(bif(decide (x2>=0))then(bif(gr 8 v7.length (List.length [x2]))then let x4:v_:=(List.append v7 [x2]);some (v0,v1,v2,v3,v4,v5,v6,x4,x0,x1,())else none)else some (v0,v1,v2,v3,v4,v5,v6,v7,x0,x1,()))else some (v0,v1,v2,v3,v4,v5,v6,v7,x0,x1,()):Option (Int×Int×Int×Unit×Unit×LI×LLI×LI×T09)).bind λ(x4,x5,x6,x7,x8,_,_,ae,af,ag,_)=>let ah:=w64 (x6+1);some (.inl (x4,x5,ah,x7,x8,af,ag,ae,())))else some (.inr (v0,v1,v2,false,v3,v4,v5,v6,v7,()))
def rj(a0:LI)(a1:LLI)(a2:Int):Option (T0s):=
(oN a0 a1).bind λ(x0,x1,_)=>let x2:=f7 x1.length;
(gd uu NN (a2,x2,0,(),(),x0,x1,())).bind λ(x3,_,_,_,x7,x8,x9,ac,_)=>let ae:=f7 x9.length;
(gd ut NN (x3,ae,0,x7,x8,x9,ac,[],())).bind λ(_,_,_,_,_,_,am)=>some (am)
def IZ:X.Cfg:=⟨E0,[rL,rK],[],[⟨15,0,qE,[(.normal,(qS Xax Uaq))]⟩,⟨12,1,(qS Xax Uaq),[(.exit 2,(qS [Uaa 1,zaa 4,zaa 6,Uaa 7,Zaa 9 21,(20,.pk ⟨14,1,[]⟩ [0,0]),Uaa 21,Uaa 22,(27,.pk ⟨14,1,[((),(1,0))]⟩ [0,0,0]),Uaa 28,Uaa 29,Xaa 30] Uaq))]⟩,(lx 4 2 (Uaa 1::zl [4,6]++(20,.pk ⟨14,1,[]⟩ [0,0])::il [21,22]) [(10,uac),(14,yaf)] 23),⟨27,3,qE,[(.normal,qS (Uaa 1::zl [4,6]++Zaa 12 27::zaa 14::il [49,50]) [(10,uac),(14,Xaf),(27,uaf),(30,Xaf)])]⟩,⟨21,4,qS (Uaa 1::zl [4,6]++Zaa 12 27::il [49,50]) uas,[(.exit 4,qS [Uaa 1,zaa 4,zaa 6,Zaa 12 27,Uaa 49,Uaa 50,Xaa 51] uas)]⟩]⟩
def AH:Ctr:=⟨160,103,[.agg Xaf,shU I64],[],[⟨uL [RI,(yaa RI),(uaa I64)],[.agg 2,.one],[]⟩],ap3 rj⟩
theorem Iq:Lk 3 AH:=ls IZ (aC uP (aC uO aN))
def lS(a0 a1:Int)(a2:LDIn)(a3:LI)(a4:LLI)(a5:LI)(a6:Int)(a7:LDCe)(a8:LDLn)(a9:LDTh)(eq eE:LI)(eG:LLI)(eI:z_)(eK:LDOp)(eO:LDOu)(eS:LI)(eX:LLI)(eZ:LDEn):Option (LDIn×LI×LLI×LI×Int×LDCe×LDLn×LDTh×LI×LI×LLI×LLCn×LDOp×LDOu×LI×LLI×LDEn×Unit):=let x0:=wk .i64 a1;
(gv x0 true).bind λ(x1,x2,x3,x4,_,x6,x7,_)=>
(oO a2 a3 a4 a5 a6 a7 a8 a9 a0 x1 x2 x3 x4 [] x6 x7).bind λ(x8,x9,ac,ae,af,_,_)=>let ah:LDEn:=[(4,(a0,(0,(0,(0,(0,(0,(0,(0,([],([],(x1,(x2,(x3,(x4,([],(x6,x7)))))))))))))))))];bif(gr 184 eZ.length ah.length)then let ai:LDEn:=(List.append eZ ah);some (a2,a3,a4,x8,x9,ac,ae,af,eq,eE,eG,eI,eK,eO,eS,eX,ai,())else none
def DV:X.Cfg:=⟨E0,[nR,vf],[(35,Qz),(36,Qz)],[]⟩
def wJ:Ctr:=⟨159,104,[.ptr ⟨2,0,[]⟩ [0],shU I64,shU CW],[(2,Zal)],[⟨[],[],[(2,Zal)]⟩],as2 (as8 (as8 ap1)) lS⟩
theorem Dx:Lk 6 wJ:=ls DV (aC pV (aC Af aN))
def tV:T3A->Option (T3A⊕(Int×Int×Int×Bool×T3o)):=λ(v0,v1,v2,v3,v4,v5,v6,v7,v8,v9,eu,eF,eH,eJ,eM,eQ,eW,eY,fa,fe,fh,fj,_)=>bif(decide (v2<v1))then((gk v2).bind λx0=>
(fW fj x0).bind λ_=>
(fW fj x0).bind λx2=>
(lS x2 0 v3 v4 v5 v6 v7 v8 v9 eu eF eH eJ eM eQ eW eY fa fe).bind λ(x3,x4,x5,x6,x7,x8,x9,ac,ae,af,ag,ah,ai,aj,ak,am,an,_)=>let ap:=w64 (v2+1);some (.inl (v0,v1,ap,x3,x4,x5,x6,x7,x8,x9,ac,ae,af,ag,ah,ai,aj,ak,am,an,fh,fj,())))else some (.inr (v0,v1,v2,false,v3,v4,v5,v6,v7,v8,v9,eu,eF,eH,eJ,eM,eQ,eW,eY,fa,fe,fh,fj,()))
def tU:T3x->Option (T3x⊕(Int×Int×T3r)):=λ(v0,v1,v2,v3,v4,v5,v6,v7,v8,v9,eu,eF,eH,eJ,eM,eQ,eW,eY,fa,fe,fh,_)=>bif(decide (v2<v1))then(((gk v2).bind λx0=>
(fW fh x0).bind λ_=>
(fW fh x0).bind λx2=>bif(x2==v0)then((gk v0).bind λx3=>
(fW eu x3).bind λ_=>
(fW eu x3).bind λx5=>
(lS v2 x5.2.2.2.2.2.2.2 v3 v4 v5 v6 v7 v8 v9 eu eF eH eJ eM eQ eW eY fa fe).bind λ(x6,x7,x8,x9,ac,ae,af,ag,ah,ai,aj,ak,am,an,ap,aq,av,_)=>
(gk v2).bind λax=>
(fW fh ax).bind λ_=>
(fW fh ax).bind λ_=>let aA:=fh.modify ax λe=>(-1);some (v0,v1,v2,x6,x7,x8,x9,ac,ae,af,ag,ah,ai,aj,ak,am,an,ap,aq,av,aA,()))else some (v0,v1,v2,v3,v4,v5,v6,v7,v8,v9,eu,eF,eH,eJ,eM,eQ,eW,eY,fa,fe,fh,()):Option (T3x)).bind λ(x0,x1,x2,x3,x4,x5,x6,x7,x8,x9,ac,ae,af,ag,ah,ai,aj,ak,am,an,ap,_)=>let aq:=w64 (x2+1);some (.inl (x0,x1,aq,x3,x4,x5,x6,x7,x8,x9,ac,ae,af,ag,ah,ai,aj,ak,am,an,ap,())))else some (.inr (v0,v1,v2,false,v3,v4,v5,v6,v7,v8,v9,eu,eF,eH,eJ,eM,eQ,eW,eY,fa,fe,fh,()))
def mV(a0:Int)(a1:LDIn)(a2:LI)(a3:LLI)(a4:LI)(a5:Int)(a6:LDCe)(a7:LDLn)(a8:LDTh)(a9 eq:LI)(eE:LLI)(eG:z_)(eI:LDOp)(eK:LDOu)(eO:LI)(eS:LLI)(eX:LDEn)(eZ:LI):Option (T3g):=
(rj eO eS a0).bind λ(x0,x1,x2,_)=>let x3:=f7 x2.length;
(gd tV NN (a0,x3,0,a1,a2,a3,a4,a5,a6,a7,a8,a9,eq,eE,eG,eI,eK,x0,x1,eX,eZ,x2,())).bind λ(x4,_,_,_,x8,x9,ac,ae,af,ag,ah,ai,aj,ak,am,an,ap,aq,av,ax,ay,az,_,_)=>let aB:=f7 az.length;
(gd tU NN (x4,aB,0,x8,x9,ac,ae,af,ag,ah,ai,aj,ak,am,an,ap,aq,av,ax,ay,az,())).bind λ(_,_,_,_,aH)=>some (aH)
def F6:X.Cfg:=⟨E0,[AH,wJ],[],[(lx 4 0 [zaa 0,Uaa 1,Zaa 23 13,Uaa 24,Uaa 25] [(2,uae),(13,uaf)] 26),⟨13,1,qE,[(.normal,(qS Zax [(2,uae)]))]⟩,⟨10,2,(qS Zax [(2,uae)]),[(.exit 2,(qS [zaa 0,Uaa 1,(36,.pk ⟨2,17,[]⟩ [0,0]),Uaa 37,Uaa 38,Xaa 39] [(2,uae)]))]⟩]⟩
def yv:Ctr:=⟨136,105,[.ptr ⟨2,0,[]⟩ [0],shU I64],[(2,uae)],[⟨[],[],[(2,uae)]⟩],as2 (as8 (as8 ap1)) mV⟩
theorem Fw:Lk 7 yv:=ls F6 (aC Iq (aC Dx aN))
def oM(a0:LDIn)(a1:LI)(a2:LLI)(a3:LI)(a4:Int)(a5:LDCe)(a6:LDLn)(a7:LDTh)(a8 a9:LI)(eq:LLI)(eE:z_)(eG:LDOp)(eI:LDOu)(eK:LI)(eO:LLI)(eS:LDEn)(eX:LI)(eZ fc:Int)(ff:Bool):Option ((Unit×Unit×Unit×Unit×Int×Unit×Unit×Unit×Unit×Unit×Unit×Unit×Unit×Unit×Unit×Unit×Unit×Unit×Int×Unit)⊕(LDIn×LI×LLI×LI×Int×LDCe×LDLn×LDTh×LI×LI×LLI×LLCn×LDOp×LDOu×LI×LLI×LDEn×T08)):=
(pB a7).bind λ(x0,_)=>let x1:=f7 x0.length;bif(x1==0)then(some (.inl ((),(),(),(),0,(),(),(),(),(),(),(),(),(),(),(),(),(),15,())))else let x2:=f7 eS.length;bif(decide (x2>192))then(some (.inl ((),(),(),(),0,(),(),(),(),(),(),(),(),(),(),(),(),(),3,())))else let x3:=f7 x0.length;
(mA eZ x3).bind λ(x4,_)=>
(gk x4).bind λx5=>
(fW x0 x5).bind λ_=>
(fW x0 x5).bind λx7=>
(mA fc 64).bind λ(x8,_)=>let x9:=w64 (1+x8);
(ot a0 a1 a2 a3 a4 a5 a6 a7 a8 a9 eq eE eG eI eK eO eS eX).bind λ(ac,ae,af,ag,ah,ai,aj,ak,am,an,ap,aq,av,ax,ay,az,aA,aB,_)=>
(match(bif ff then((qn ag ah ai aj ak x7).bind λ(aD,_)=>bif aD then((mZ ag ah ai aj ak x7).bind λ(aE,aF,aG,aH,aI,_,_)=>let aK:LDEn:=[(3,(x7,(0,(0,(0,(0,(0,(0,(0,([],([],(0,(0,(0,(0,([],(0,false)))))))))))))))))];bif(gr 184 aA.length aK.length)then let aL:LDEn:=(List.append aA aK);some (.inl (x7,x9,(),(),(),(),0,(),(),(),(),(),(),(),(),(),(),(),(),(),ac,ae,af,aE,aF,aG,aH,aI,am,an,ap,aq,av,ax,ay,az,aL,aB,()))else none)else some (.inr (x7,x9,(),(),(),(),0,(),(),(),(),(),(),(),(),(),(),(),(),(),ac,ae,af,ag,ah,ai,aj,ak,am,an,ap,aq,av,ax,ay,az,aA,aB,())))else some (.inr (x7,x9,(),(),(),(),0,(),(),(),(),(),(),(),(),(),(),(),(),(),ac,ae,af,ag,ah,ai,aj,ak,am,an,ap,aq,av,ax,ay,az,aA,aB,())):Option (T4b⊕T4b))with
|none=>none
|some (.inl (aD,aE,aF,aG,aH,aI,aJ,aK,aL,aM,aO,aP,aQ,aR,aS,aT,aU,aV,aW,aY,aZ,ba,bc,bd,be,bf,bg,bh,bi,bj,bk,bm,bn,bo,bp,bq,bt,bv,_))=>
(oR aZ ba bc bd be bf bg bh aD aE).bind λ(bx,bA,bB,bC,bD,bE,bF,bG,bH,bI,bJ,bK,bL,_,_)=>let bN:LDEn:=[(1,(aD,(aE,(bE,(bF,(bG,(bH,(bI,(bJ,(bK,(bL,(0,(0,(0,(0,([],(0,false)))))))))))))))))];bif(gr 184 bt.length bN.length)then let bO:LDEn:=(List.append bt bN);
(bif(bF==1)then((lT bE bF bG bH bI bJ bK bL aZ ba bc bx bA bB bC bD bi bj bk bm bn bo bp bq bO bv).bind λ(bP,bQ,bR,bS,bT,bU,bV,bW,bY,bZ,b8,b9,cd,cf,cg,ch,ci,cj,_)=>some (aD,aF,aG,aH,aI,aJ,aK,aL,aM,aO,aP,aQ,aR,aS,aT,aU,aV,aW,aY,bP,bQ,bR,bS,bT,bU,bV,bW,bY,bZ,b8,b9,cd,cf,cg,ch,ci,cj,()))else some (aD,aF,aG,aH,aI,aJ,aK,aL,aM,aO,aP,aQ,aR,aS,aT,aU,aV,aW,aY,aZ,ba,bc,bx,bA,bB,bC,bD,bi,bj,bk,bm,bn,bo,bp,bq,bO,bv,()):Option (T45)).bind λ(bP,bQ,bR,bS,bT,bU,bV,bW,bY,bZ,b8,b9,cd,cf,cg,ch,ci,cj,cn,cq,cr,cu,cw,cx,cy,cz,cD,cE,cF,cG,cH,cI,cJ,cK,cL,cM,cN,_)=>
((gk bP).bind λcO=>
(fW cD cO).bind λ_=>
(fW cD cO).bind λcQ=>bif(cQ.1==4)then((mV bP cq cr cu cw cx cy cz cD cE cF cG cH cI cJ cK cL cM cN).bind λ(cR,cS,cT,cU,cV,cW,cX,cY,cZ,c8,c9,dc,de,df,dg,dh,dk,dm,_)=>some (bQ,bR,bS,bT,bU,bV,bW,bY,bZ,b8,b9,cd,cf,cg,ch,ci,cj,cn,cR,cS,cT,cU,cV,cW,cX,cY,cZ,c8,c9,dc,de,df,dg,dh,dk,dm,()))else some (bQ,bR,bS,bT,bU,bV,bW,bY,bZ,b8,b9,cd,cf,cg,ch,ci,cj,cn,cq,cr,cu,cw,cx,cy,cz,cD,cE,cF,cG,cH,cI,cJ,cK,cL,cM,cN,()):Option (T42)).bind λ(_,_,_,_,_,_,_,_,_,_,_,_,_,_,_,_,_,_,dh,dk,dm,dn,dp,dq,dx,dy,dz,dA,dB,dC,dD,dE,dF,dG,dH,dI,_)=>some (.inr (dh,dk,dm,dn,dp,dq,dx,dy,dz,dA,dB,dC,dD,dE,dF,dG,dH,dI,0,()))else none
|some (.inr (aD,aE,aF,aG,aH,aI,aJ,aK,aL,aM,aO,aP,aQ,aR,aS,aT,aU,aV,aW,aY,aZ,ba,bc,bd,be,bf,bg,bh,bi,bj,bk,bm,bn,bo,bp,bq,bt,bv,_))=>
(oR aZ ba bc bd be bf bg bh aD aE).bind λ(bx,bA,bB,bC,bD,bE,bF,bG,bH,bI,bJ,bK,bL,_,_)=>let bN:LDEn:=[(1,(aD,(aE,(bE,(bF,(bG,(bH,(bI,(bJ,(bK,(bL,(0,(0,(0,(0,([],(0,false)))))))))))))))))];bif(gr 184 bt.length bN.length)then let bO:LDEn:=(List.append bt bN);
(bif(bF==1)then((lT bE bF bG bH bI bJ bK bL aZ ba bc bx bA bB bC bD bi bj bk bm bn bo bp bq bO bv).bind λ(bP,bQ,bR,bS,bT,bU,bV,bW,bY,bZ,b8,b9,cd,cf,cg,ch,ci,cj,_)=>some (aD,aF,aG,aH,aI,aJ,aK,aL,aM,aO,aP,aQ,aR,aS,aT,aU,aV,aW,aY,bP,bQ,bR,bS,bT,bU,bV,bW,bY,bZ,b8,b9,cd,cf,cg,ch,ci,cj,()))else some (aD,aF,aG,aH,aI,aJ,aK,aL,aM,aO,aP,aQ,aR,aS,aT,aU,aV,aW,aY,aZ,ba,bc,bx,bA,bB,bC,bD,bi,bj,bk,bm,bn,bo,bp,bq,bO,bv,()):Option (T45)).bind λ(bP,bQ,bR,bS,bT,bU,bV,bW,bY,bZ,b8,b9,cd,cf,cg,ch,ci,cj,cn,cq,cr,cu,cw,cx,cy,cz,cD,cE,cF,cG,cH,cI,cJ,cK,cL,cM,cN,_)=>
((gk bP).bind λcO=>
(fW cD cO).bind λ_=>
(fW cD cO).bind λcQ=>bif(cQ.1==4)then((mV bP cq cr cu cw cx cy cz cD cE cF cG cH cI cJ cK cL cM cN).bind λ(cR,cS,cT,cU,cV,cW,cX,cY,cZ,c8,c9,dc,de,df,dg,dh,dk,dm,_)=>some (bQ,bR,bS,bT,bU,bV,bW,bY,bZ,b8,b9,cd,cf,cg,ch,ci,cj,cn,cR,cS,cT,cU,cV,cW,cX,cY,cZ,c8,c9,dc,de,df,dg,dh,dk,dm,()))else some (bQ,bR,bS,bT,bU,bV,bW,bY,bZ,b8,b9,cd,cf,cg,ch,ci,cj,cn,cq,cr,cu,cw,cx,cy,cz,cD,cE,cF,cG,cH,cI,cJ,cK,cL,cM,cN,()):Option (T42)).bind λ(_,_,_,_,_,_,_,_,_,_,_,_,_,_,_,_,_,_,dh,dk,dm,dn,dp,dq,dx,dy,dz,dA,dB,dC,dD,dE,dF,dG,dH,dI,_)=>some (.inr (dh,dk,dm,dn,dp,dq,dx,dy,dz,dA,dB,dC,dD,dE,dF,dG,dH,dI,0,()))else none)
def IM:X.Cfg:=⟨E0,[yG,xB,wL,xz,ve,AJ,wM,yv],[(60,Qz),(61,Qz),(82,Qz),(83,Qz)],[⟨11,0,qE,[(.normal,(qS uay [(10,Zae),(20,uL [gT,RI,(yaa RW),RI,CW,(uaa KCe),iG,qR,RW,RW,(yaa RW),(yaa gp),jt,ly,RI,(yaa RI),(uaa qX),(uaa I64)])])),(.normal,qS uay [(10,Zae),(20,yal)])]⟩,⟨17,1,qE,[(.normal,qS [zaa 4,Uaa 7,zaa 9] [(10,Zae),(20,uae)])]⟩,⟨19,2,qE,[(.normal,qS (zl [4,9]) [(10,Zae),(20,uae)])]⟩]⟩
def AA:Ctr:=⟨96,106,[.agg Zah,.agg zaj],[],[⟨uL [N1,N1,N1,N1,CW,N1,N1,N1,N1,N1,N1,N1,N1,N1,N1,N1,N1,N1,I64],[.agg 18,.one],[]⟩,⟨uL [gT,RI,(yaa RW),RI,CW,(uaa KCe),iG,(uaa nX),RW,RW,(yaa RW),(yaa gp),jt,ly,RI,(yaa RI),(uaa qX),(uaa I64),I64],[.agg 18,.one],[]⟩],as4 (as8 (as8 ap1)) oM⟩
theorem Ij:Lk 8 AA:=ls IM (aC FI (aC Ck (aC Dz (aC Ce (aC Cd (aC Is (aC DA (aC Fw aN))))))))
def sX:T4g->Option (T4g⊕(T4q⊕(T4q⊕(T4p⊕(Int×Bool×T4c))))):=λ(v0,v1,v2,v3,v4,v5,v6,v7,v8,v9,eu,eF,eH,eJ,eM,eQ,eW,eY,fa,fe,fh,fj,fm,fr,fv,fA,fB,fC,fD,fE,fF,fG,fH,fI,fJ,fK,fL,fM,fN,_)=>bif(decide (v0>0))then((match((pQ v1 v2).bind λ(x0,x1,x2,x3,x4,_)=>
(match oM fj fm fr fv fA fB fC fD fE fF fG fH fI fJ fK fL fM fN x0 x1 x2 with
|none=>none
|some (.inl (x5,x6,x7,x8,x9,ac,ae,af,ag,ah,ai,aj,ak,am,an,ap,aq,av,ax,_))=>bif(ax != 0)then(some (.inl (v0,true,x3,x4,v3,v4,v5,v6,v7,v8,v9,eu,eF,eH,eJ,eM,eQ,eW,eY,fa,fe,fh,fj,fm,fr,fv,fA,fB,fC,fD,fE,fF,fG,fH,fI,fJ,fK,fL,fM,fN,x5,x6,x7,x8,x9,ac,ae,af,ag,ah,ai,aj,ak,am,an,ap,aq,av,())))else some (.inr (.inl (v0,x3,x4,v3,v4,v5,v6,v7,v8,v9,eu,eF,eH,eJ,eM,eQ,eW,eY,fa,fe,fh,x5,x6,x7,x8,x9,ac,ae,af,ag,ah,ai,aj,ak,am,an,ap,aq,av,())))
|some (.inr (_,_,_,_,_,_,_,_,_,_,_,_,_,_,_,_,_,_,_,_))=>
(match oM fj fm fr fv fA fB fC fD fE fF fG fH fI fJ fK fL fM fN x0 x1 x2 with
|none=>none
|some (.inl (ay,az,aA,aB,aD,aE,aF,aG,aH,aI,aJ,aK,aL,aM,aO,aP,aQ,aR,aS,_))=>bif(aS != 0)then(some (.inr (.inr (.inl (v0,true,x3,x4,v3,v4,v5,v6,v7,v8,v9,eu,eF,eH,eJ,eM,eQ,eW,eY,fa,fe,fh,fj,fm,fr,fv,fA,fB,fC,fD,fE,fF,fG,fH,fI,fJ,fK,fL,fM,fN,ay,az,aA,aB,aD,aE,aF,aG,aH,aI,aJ,aK,aL,aM,aO,aP,aQ,aR,())))))else some (.inr (.inl (v0,x3,x4,v3,v4,v5,v6,v7,v8,v9,eu,eF,eH,eJ,eM,eQ,eW,eY,fa,fe,fh,ay,az,aA,aB,aD,aE,aF,aG,aH,aI,aJ,aK,aL,aM,aO,aP,aQ,aR,())))
|some (.inr (ay,az,aA,aB,aD,aE,aF,aG,aH,aI,aJ,aK,aL,aM,aO,aP,aQ,aR,aS,_))=>bif(aS != 0)then(some (.inr (.inr (.inr (.inl (v0,true,x3,x4,v3,v4,v5,v6,v7,v8,v9,eu,eF,eH,eJ,eM,eQ,eW,eY,fa,fe,fh,fj,fm,fr,fv,fA,fB,fC,fD,fE,fF,fG,fH,fI,fJ,fK,fL,fM,fN,ay,az,aA,aB,aD,aE,aF,aG,aH,aI,aJ,aK,aL,aM,aO,aP,aQ,aR,()))))))else some (.inr (.inr (.inr (.inr (v0,x3,x4,v3,v4,v5,v6,v7,v8,v9,eu,eF,eH,eJ,eM,eQ,eW,eY,fa,fe,fh,ay,az,aA,aB,aD,aE,aF,aG,aH,aI,aJ,aK,aL,aM,aO,aP,aQ,aR,()))))))):Option (T4q⊕((Int×LI×Int×Unit×Unit×Unit×Unit×Int×Unit×Unit×Unit×Unit×Unit×Unit×Unit×Unit×Unit×Unit×Unit×Unit×Unit×T3k)⊕(T4q⊕(T4p⊕T4g)))))with
|none=>none
|some (.inl (x0,x1,x2,x3,x4,x5,x6,x7,x8,x9,ac,ae,af,ag,ah,ai,aj,ak,am,an,ap,aq,av,ax,ay,az,aA,aB,aD,aE,aF,aG,aH,aI,aJ,aK,aL,aM,aO,aP,aQ,aR,aS,aT,aU,aV,aW,aY,aZ,ba,bc,bd,be,bf,bg,bh,bi,bj,_))=>some (.inr (.inl (x0,x1,x2,x3,x4,x5,x6,x7,x8,x9,ac,ae,af,ag,ah,ai,aj,ak,am,an,ap,aq,av,ax,ay,az,aA,aB,aD,aE,aF,aG,aH,aI,aJ,aK,aL,aM,aO,aP,aQ,aR,aS,aT,aU,aV,aW,aY,aZ,ba,bc,bd,be,bf,bg,bh,bi,bj,())))
|some (.inr (.inl (x0,x1,x2,x3,x4,x5,x6,x7,x8,x9,ac,ae,af,ag,ah,ai,aj,ak,am,an,ap,_,_,_,_,az,_,_,_,_,_,_,_,_,_,_,_,_,_,_)))=>let aP:=w64 (x0-1);some (.inl (aP,x1,x2,x3,x4,x5,x6,x7,x8,x9,ac,ae,af,ag,ah,ai,aj,ak,am,an,ap,[],[],[],[],az,[],[],[],[],[],[],[],[],[],[],[],[],[],()))
|some (.inr (.inr (.inl (x0,x1,x2,x3,x4,x5,x6,x7,x8,x9,ac,ae,af,ag,ah,ai,aj,ak,am,an,ap,aq,av,ax,ay,az,aA,aB,aD,aE,aF,aG,aH,aI,aJ,aK,aL,aM,aO,aP,aQ,aR,aS,aT,aU,aV,aW,aY,aZ,ba,bc,bd,be,bf,bg,bh,bi,bj,_))))=>some (.inr (.inr (.inl (x0,x1,x2,x3,x4,x5,x6,x7,x8,x9,ac,ae,af,ag,ah,ai,aj,ak,am,an,ap,aq,av,ax,ay,az,aA,aB,aD,aE,aF,aG,aH,aI,aJ,aK,aL,aM,aO,aP,aQ,aR,aS,aT,aU,aV,aW,aY,aZ,ba,bc,bd,be,bf,bg,bh,bi,bj,()))))
|some (.inr (.inr (.inr (.inl (x0,x1,x2,x3,x4,x5,x6,x7,x8,x9,ac,ae,af,ag,ah,ai,aj,ak,am,an,ap,aq,av,ax,ay,az,aA,aB,aD,aE,aF,aG,aH,aI,aJ,aK,aL,aM,aO,aP,aQ,aR,aS,aT,aU,aV,aW,aY,aZ,ba,bc,bd,be,bf,bg,bh,bi,bj,_)))))=>some (.inr (.inr (.inr (.inl (x0,x1,x2,x3,x4,x5,x6,x7,x8,x9,ac,ae,af,ag,ah,ai,aj,ak,am,an,ap,aq,av,ax,ay,az,aA,aB,aD,aE,aF,aG,aH,aI,aJ,aK,aL,aM,aO,aP,aQ,aR,aS,aT,aU,aV,aW,aY,aZ,ba,bc,bd,be,bf,bg,bh,bi,bj,())))))
|some (.inr (.inr (.inr (.inr (x0,x1,x2,x3,x4,x5,x6,x7,x8,x9,ac,ae,af,ag,ah,ai,aj,ak,am,an,ap,aq,av,ax,ay,az,aA,aB,aD,aE,aF,aG,aH,aI,aJ,aK,aL,aM,aO,_)))))=>let aP:=w64 (x0-1);some (.inl (aP,x1,x2,x3,x4,x5,x6,x7,x8,x9,ac,ae,af,ag,ah,ai,aj,ak,am,an,ap,aq,av,ax,ay,az,aA,aB,aD,aE,aF,aG,aH,aI,aJ,aK,aL,aM,aO,()))))else some (.inr (.inr (.inr (.inr (v0,false,v1,v2,v3,v4,v5,v6,v7,v8,v9,eu,eF,eH,eJ,eM,eQ,eW,eY,fa,fe,fh,fj,fm,fr,fv,fA,fB,fC,fD,fE,fF,fG,fH,fI,fJ,fK,fL,fM,fN,())))))
def vN(a0:LI)(a1:Int):Option (LDIn×LI×LLI×LI×Int×LDCe×LDLn×LDTh×LI×LI×LLI×LLCn×LDOp×LDOu×LI×LLI×LDEn×LI×T08):=
(oD a0 a1).bind λ(x0,x1,x2,x3,x4,_)=>
(pO x1 x3 x4).bind λ(x5,x6,x7,x8,_)=>
(oE x7 x8).bind λ(x9,ac,ae,af,ag,_,ai,aj,_)=>
(sK x0 x1 x2 x5 x6 x9 ac ae af ag []).bind λ(ak,am,an,ap,aq,av,ax,ay,az,aA,aB,aD,aE,aF,aG,aH,_,aJ,_,_)=>
(fW ay 0).bind λ_=>
(fW ay 0).bind λ_=>
(fX 16 ai aj).bind λ(aO,aP,aQ,_)=>let aR:=w64 (3+aO);
(match gd sX NN (aR,aP,aQ,(),(),(),(),0,(),(),(),(),(),(),(),(),(),(),(),(),(),ak,am,an,ap,aq,av,ax,ay,az,aA,aB,aD,aE,aF,aG,aH,[],aJ,())with
|none=>none
|some (.inl (_,_,aU,aV,_,_,_,_,_,_,_,_,_,_,_,_,_,_,_,_,_,_,bt,bv,bx,bA,bB,bC,bD,bE,bF,bG,bH,bI,bJ,bK,bL,bM,bN,bO,_,_,_,_,_,_,_,_,_,_,_,_,_,_,_,_,_,_,_))=>some (bt,bv,bx,bA,bB,bC,bD,bE,bF,bG,bH,bI,bJ,bK,bL,bM,bN,bO,aU,aV,())
|some (.inr (.inl (_,_,_,_,_,_,_,_,_,_,_,_,_,_,_,_,_,_,_,_,_,_,_,_,_,_,_,_,_,_,_,_,_,_,_,_,_,_,_,_,_,_,_,_,_,_,_,_,_,_,_,_,_,_,_,_,_,_,_)))=>none
|some (.inr (.inr (.inl (_,_,_,_,_,_,_,_,_,_,_,_,_,_,_,_,_,_,_,_,_,_,_,_,_,_,_,_,_,_,_,_,_,_,_,_,_,_,_,_,_,_,_,_,_,_,_,_,_,_,_,_,_,_,_,_,_,_,_))))=>none
|some (.inr (.inr (.inr (_,_,aU,aV,_,_,_,_,_,_,_,_,_,_,_,_,_,_,_,_,_,_,bt,bv,bx,bA,bB,bC,bD,bE,bF,bG,bH,bI,bJ,bK,bL,bM,bN,bO,_))))=>some (bt,bv,bx,bA,bB,bC,bD,bE,bF,bG,bH,bI,bJ,bK,bL,bM,bN,bO,aU,aV,()))
def Nu:X.Cfg:=⟨E0,[wZ,yX,w7,yw,ia,yY,AA],[],[⟨8,0,qE,[(.exit 0,qS Uau yas),(.normal,qS Zav [(2,yab),(6,Zae),(10,Zae)]),(.exit 0,qS Uau zas),(.exit 0,qS Uau Uas),(.normal,qS Zav [(2,yab),(6,Zae),(10,uae)])]⟩,⟨5,1,qS Zav Xas,[(.exit 0,qS Uau yas),(.exit 0,qS Uau zas),(.exit 0,qS Uau Uas),(.exit 0,qS (zl [0,2,4]++[Uaa 6,Xaa 26]) Xas)]⟩]⟩
def EW:Ctr:=⟨57,107,[.ptr ⟨2,0,[]⟩ [0]],[(2,yab)],[⟨Zai,[.agg 18],[(2,yab)]⟩],ap2 vN⟩
theorem Nm:Lk 9 EW:=ls Nu (aC DN (aC F1 (aC DO (aC Fy (aC ij (aC F2 (aC Ij aN)))))))
def jm:T2Z->Option (T2Z⊕(LI×Int×LI×Int×Int×Int×Int×Bool×T1l)):=λ(v0,v1,v2,v3,v4,v5,v6,v7,v8,v9,eu,eF,eH,_)=>bif(decide (v6<v5))then((gk v1).bind λx0=>
(fW v9 x0).bind λx1=>let x2:=w64 (x1+v6);
(oS v7 v8 x2).bind λ(x3,x4,_)=>
(jn v9 eu v0 x3 x4).bind λ(x5,x6,x7,x8,_)=>let x9:LDCn:=[(x5,(x6,(x7,x8)))];bif(gr 24 eH.length x9.length)then let ac:LDCn:=(List.append eH x9);let ae:=w64 (v6+1);some (.inl (v0,v1,v2,v3,v4,v5,ae,v7,v8,v9,eu,eF,ac,()))else none)else some (.inr (v0,v1,v2,v3,v4,v5,v6,false,v7,v8,v9,eu,eF,eH,()))
def jl:T2m->Option (T2m⊕(LI×LI×Int×Int×Bool×T10)):=λ(v0,v1,v2,v3,v4,v5,v6,v7,v8,_)=>bif(decide (v3<v2))then((gk v3).bind λx0=>
(fW v1 x0).bind λx1=>
(gd jm NN (v0,v3,v1,v2,v3,x1,0,v4,v5,v6,v7,v8,[],())).bind λ(x2,_,x4,x5,x6,_,_,_,ac,ae,af,ag,ah,ai,_)=>bif(gr 24 ah.length (List.length [ai]))then let aj:z_:=(List.append ah [ai]);let ak:=w64 (x6+1);some (.inl (x2,x4,x5,ak,ac,ae,af,ag,aj,()))else none)else some (.inr (v0,v1,v2,v3,false,v4,v5,v6,v7,v8,()))
def nq(a0:LDCe)(a1:LDLn)(a2:LI)(a3:Int)(a4:LI):Option (LLCn×Unit):=let x0:=f7 a4.length;
(gd jl NN (a4,a4,x0,0,a0,a1,a2,a3,[],())).bind λ(_,_,_,_,_,_,_,_,_,ac,_)=>some (ac,())
def CD:X.Cfg:=⟨E0,[vo,qb],[(41,(uaa KCn)),(42,(uaa KCn))],[⟨12,0,qS (sP 2 RI::zl [3,4]++Zaa 7 17::Uaa 8::Zaa 10 23::sP 12 RI::il [13,14,19,20]) Zas,[(.exit 2,qS (sP 2 RI::zl [3,4]++Zaa 7 17::Uaa 8::Zaa 10 23::sP 12 RI::il [13,14,19,20]++[Xaa 21]) Zas)]⟩,(lx 4 1 (sP 2 RI::zl [3,4]++Zaa 7 17::sP 12 RI::il [13,14]) [(8,zad),(10,Uab),(17,Xaj)] 15)]⟩
def vn:Ctr:=⟨29,108,[.agg zad,.agg Uab,shU RI],[],[⟨Xaj,[.one],[]⟩],ap5 nq⟩
theorem Ci:Lk 3 vn:=ls CD (aC Al (aC tg aN))
def kn:T3X->Option (T3X⊕(LDTh×Int×Int×LDCe×Int×Int×Bool×T3S)):=λ(v0,v1,v2,v3,v4,v5,v6,v7,v8,v9,eu,eF,eH,eJ,eM,eQ,eW,eY,fa,fe,fh,fj,fm,fr,fv,fA,fB,fC,fD,fE,fF,fG,fH,fI,_)=>bif(decide (v5<v4))then((gk v5).bind λx0=>
(fW v3 x0).bind λx1=>
(jn v9 eu v7 x1.1 x1.2).bind λ(x2,x3,x4,x5,_)=>let x6:LDCn:=[(x2,(x3,(x4,x5)))];bif(gr 24 fI.length x6.length)then let x7:LDCn:=(List.append fI x6);let x8:=w64 (v5+1);some (.inl (v0,v1,v2,v3,v4,x8,v6,v7,v8,v9,eu,eF,eH,eJ,eM,eQ,eW,eY,fa,fe,fh,fj,fm,fr,fv,fA,fB,fC,fD,fE,fF,fG,fH,x7,()))else none)else some (.inr (v0,v1,v2,v3,v4,v5,false,v6,v7,v8,v9,eu,eF,eH,eJ,eM,eQ,eW,eY,fa,fe,fh,fj,fm,fr,fv,fA,fB,fC,fD,fE,fF,fG,fH,fI,()))
def km:T34->Option (T34⊕(LDTh×Int×Int×Bool×T2T)):=λ(v0,v1,v2,v3,v4,v5,v6,v7,v8,v9,eu,eF,eH,eJ,eM,_)=>bif(decide (v2<v1))then((gk v2).bind λx0=>
(fW v0 x0).bind λx1=>let x2:=f7 x1.2.1.length;
(gd kn NN (v0,v1,v2,x1.2.1,x2,0,v3,v4,v5,v6,v7,v8,v9,eu,eF,eH,eJ,eM,x1.1,x1.2.1,x1.2.2.1,x1.2.2.2.1,x1.2.2.2.2.1,x1.2.2.2.2.2.1,x1.2.2.2.2.2.2.1,x1.2.2.2.2.2.2.2,x1.1,x1.2.2.1,x1.2.2.2.1,x1.2.2.2.2.1,x1.2.2.2.2.2.1,x1.2.2.2.2.2.2.1,x1.2.2.2.2.2.2.2,[],())).bind λ(x3,x4,x5,_,_,_,_,ac,ae,af,ag,ah,ai,aj,ak,am,an,ap,aq,_,_,_,_,_,_,_,_,aF,aG,aH,aI,aJ,aK,aL,aM,_)=>let aO:LDTs:=[(aF,(aG,(aH,(aI,(aJ,(aK,(aL,aM)))))))];bif(gr 80 aq.length aO.length)then let aP:LDTs:=(List.append aq aO);let aQ:=w64 (x5+1);some (.inl (x3,x4,aQ,ac,ae,af,ag,ah,ai,aj,ak,am,an,ap,aP,()))else none)else some (.inr (v0,v1,v2,false,v3,v4,v5,v6,v7,v8,v9,eu,eF,eH,eJ,eM,()))
def iK(a0:LDIn)(a1:LI)(a2:LLI)(a3:LI)(a4:Int)(a5:LDCe)(a6:LDLn)(a7:LDTh):Option (T0b):=
(nq a5 a6 a3 a4 a1).bind λ(x0,_)=>let x1:=f7 a7.length;
(gd km NN (a7,x1,0,a0,a1,a2,a3,a4,a5,a6,a7,(),(),x0,[],())).bind λ(_,_,_,_,_,_,_,_,_,_,_,_,_,_,aj)=>some (aj)
def Gj:X.Cfg:=⟨E0,[vn,qb],[(63,J1),(64,J1)],[⟨12,0,qS (zl [2,3,4,5,8]++sP 20 mO::il [21,22]++sP 42 gU::il [43,44]) uat,[(.exit 2,qS (zl [2,3,4,5,8]++sP 20 mO::il [21,22]++sP 42 gU::il [43,44]++[Xaa 45]) uat)]⟩,(lx 4 1 (zl [2,3,4,5]++sP 20 mO::il [21,22]) [(6,uab),(8,zac),(10,uac),(12,yag)] 23)]⟩
def p8:Ctr:=⟨10,109,[.agg uab,.agg zac],[],[⟨yag,[.agg 2],[]⟩],as1 (as2 (as4 ap1)) iK⟩
theorem s9:Lk 4 p8:=ls Gj (aC Ci (aC tg aN))
def kv:Int×T0q->Option ((Int×T0q)⊕(Int×T0J)):=λ(v0,v1,v2,v3,_)=>bif(decide (v3<v2))then((gk v3).bind λx0=>
(fW v1 x0).bind λx1=>let x2:=w64 (v0+x1);let x3:=w64 (v3+1);some (.inl (x2,v1,v2,x3,())))else some (.inr (v0,v1,v2,v3,false,()))
def pF(a0:LI):h_:=let x0:=f7 a0.length;
(gd kv NN (0,a0,x0,0,())).bind λ(x1,_)=>some (x1,())
def GH:X.Cfg:=⟨E0,[],[],[(lx 4 0 (Uaa 3::sP 6 RI::il [7,8]) [] 9)]⟩
def yL:Ctr:=⟨99,110,zai,[],[⟨Uac,[.one],[]⟩],ap1 pF⟩
theorem FO:Lk 1 yL:=ls GH aN
def sS:Int×LI×T0z->Option ((Int×LI×T0z)⊕(T0g⊕T1L)):=λ(v0,v1,v2,v3,v4)=>bif(decide (v3<v2))then((gk v3).bind λx0=>
(fW v1 x0).bind λx1=>
(match(bif(decide (v0>=0))then(bif(decide (v0<x1))then(some (.inl (0,v3,v0,())))else some (.inr (v0,v3,x1,v1,v2,v3,false,v4)))else some (.inr (v0,v3,x1,v1,v2,v3,false,v4)):Option (T0g⊕(Int×Int×T1L)))with
|none=>none
|some (.inl (x2,x3,x4,_))=>some (.inr (.inl (x2,x3,x4,())))
|some (.inr (x2,_,x4,x5,x6,x7,_,x9))=>let ae:=w64 (x2-x4);let af:=w64 (x7+1);some (.inl (ae,x5,x6,af,x9))))else some (.inr (.inr (v0,v1,v2,v3,false,v4)))
def vM(a0:LI)(a1:Int):Option (T0g):=let x0:=f7 a0.length;
(match gd sS NN (a1,a0,x0,0,0,0,())with
|none=>none
|some (.inl (x1,x2,x3,_))=>some (x2,x3,x1,())
|some (.inr (_,_,_,_))=>some (0,0,6,()))
def Nt:X.Cfg:=⟨E0,[],[],[⟨8,0,qE,[(.ret,qS Uav uao),(.normal,qS [Uaa 1,zaa 4,Uaa 6,Uaa 7,sP 8 RI,Uaa 9,Uaa 10,Xaa 21] uao)]⟩,⟨3,1,qS [Uaa 1,zaa 4,sP 8 RI,Uaa 9,Uaa 10] uao,[(.ret,qS Uav uao),(.exit 0,qS [Uaa 1,zaa 4,sP 8 RI,Uaa 9,Uaa 10,Xaa 11] uao)]⟩]⟩
def EV:Ctr:=⟨98,111,yab,[],[⟨Uak,[.agg 2,.one],[]⟩],ap2 vM⟩
theorem Nl:Lk 1 EV:=ls Nt aN
def jW(a0 a1:LI)(a2:Int):Option (T1g):=
(fX 6 a1 a2).bind λ(x0,x1,x2,_)=>bif(x0==4)then((pF a0).bind λ(x3,_)=>
(fX x3 x1 x2).bind λ(x4,x5,x6,_)=>
(vM a0 x4).bind λ(x7,x8,_,_)=>some (1,0,x7,x8,x5,x6,()))else bif(x0==5)then((fX 10 x1 x2).bind λ(x3,x4,x5,_)=>let x6:=wk .u16 x3;some (2,x6,0,0,x4,x5,()))else
(ln x1 x2).bind λ(x3,x4,x5,_)=>some (0,x3,0,0,x4,x5,())
def Jv:X.Cfg:=⟨E0,[ia,yL,EV,qM],[],[]⟩
def o5:Ctr:=⟨58,112,[.ptr ⟨2,0,[]⟩ [0],shU RI],[(2,yab)],[⟨zag,[.agg 4],[(2,yab)]⟩],ap3 jW⟩
theorem rG:Lk 5 o5:=ls Jv (aC ij (aC FO (aC Nl (aC tp aN))))
def jk:LDTs×LDTs×T02->Option ((LDTs×LDTs×T02)⊕((Bool×Unit)⊕(LDTs×LDTs×T0f))):=λ(v0,v1,v2,v3,_)=>bif(decide (v3<v2))then((gk v3).bind λx0=>
(fW v1 x0).bind λx1=>
(bif(decide (x1.1>=0))then(bif(decide (x1.1<=4))then(bif(decide (x1.2.1>=0))then(bif(decide (x1.2.1<=255))then(bif(decide (x1.2.2.1>=0))then(bif(decide (x1.2.2.1<=1099511627776))then(bif(decide (x1.2.2.2.1>=(-1)))then(bif(decide (x1.2.2.2.1<=255))then(bif(decide (x1.2.2.2.2.1>=(-1)))then(bif(decide (x1.2.2.2.2.1<=255))then(bif(decide (x1.2.2.2.2.2.1>=0))then(some (v0,(decide (x1.2.2.2.2.2.1<=6)),v1,v2,v3,x1.1,x1.2.1,x1.2.2.1,x1.2.2.2.1,x1.2.2.2.2.1,x1.2.2.2.2.2.1,x1.2.2.2.2.2.2.1,x1.2.2.2.2.2.2.2,()))else some (v0,false,v1,v2,v3,x1.1,x1.2.1,x1.2.2.1,x1.2.2.2.1,x1.2.2.2.2.1,x1.2.2.2.2.2.1,x1.2.2.2.2.2.2.1,x1.2.2.2.2.2.2.2,()))else some (v0,false,v1,v2,v3,x1.1,x1.2.1,x1.2.2.1,x1.2.2.2.1,x1.2.2.2.2.1,x1.2.2.2.2.2.1,x1.2.2.2.2.2.2.1,x1.2.2.2.2.2.2.2,()))else some (v0,false,v1,v2,v3,x1.1,x1.2.1,x1.2.2.1,x1.2.2.2.1,x1.2.2.2.2.1,x1.2.2.2.2.2.1,x1.2.2.2.2.2.2.1,x1.2.2.2.2.2.2.2,()))else some (v0,false,v1,v2,v3,x1.1,x1.2.1,x1.2.2.1,x1.2.2.2.1,x1.2.2.2.2.1,x1.2.2.2.2.2.1,x1.2.2.2.2.2.2.1,x1.2.2.2.2.2.2.2,()))else some (v0,false,v1,v2,v3,x1.1,x1.2.1,x1.2.2.1,x1.2.2.2.1,x1.2.2.2.2.1,x1.2.2.2.2.2.1,x1.2.2.2.2.2.2.1,x1.2.2.2.2.2.2.2,()))else some (v0,false,v1,v2,v3,x1.1,x1.2.1,x1.2.2.1,x1.2.2.2.1,x1.2.2.2.2.1,x1.2.2.2.2.2.1,x1.2.2.2.2.2.2.1,x1.2.2.2.2.2.2.2,()))else some (v0,false,v1,v2,v3,x1.1,x1.2.1,x1.2.2.1,x1.2.2.2.1,x1.2.2.2.2.1,x1.2.2.2.2.2.1,x1.2.2.2.2.2.2.1,x1.2.2.2.2.2.2.2,()))else some (v0,false,v1,v2,v3,x1.1,x1.2.1,x1.2.2.1,x1.2.2.2.1,x1.2.2.2.2.1,x1.2.2.2.2.2.1,x1.2.2.2.2.2.2.1,x1.2.2.2.2.2.2.2,()))else some (v0,false,v1,v2,v3,x1.1,x1.2.1,x1.2.2.1,x1.2.2.2.1,x1.2.2.2.2.1,x1.2.2.2.2.2.1,x1.2.2.2.2.2.2.1,x1.2.2.2.2.2.2.2,()))else some (v0,false,v1,v2,v3,x1.1,x1.2.1,x1.2.2.1,x1.2.2.2.1,x1.2.2.2.2.1,x1.2.2.2.2.2.1,x1.2.2.2.2.2.2.1,x1.2.2.2.2.2.2.2,()))else some (v0,false,v1,v2,v3,x1.1,x1.2.1,x1.2.2.1,x1.2.2.2.1,x1.2.2.2.2.1,x1.2.2.2.2.2.1,x1.2.2.2.2.2.2.1,x1.2.2.2.2.2.2.2,()):Option (LDTs×Bool×LDTs×T2t)).bind λ(x2,x3,x4,x5,x6,_,_,_,_,_,_,_,ah,_)=>
(bif(!x3)then(some (x2,x4,x5,x6,true,()))else let ai:=f7 ah.length;bif(ai != 8)then(some (x2,x4,x5,x6,true,()))else
(iy ah 8).bind λ(aj,_)=>some (x2,x4,x5,x6,(!aj),()):Option (LDTs×LDTs×T0f)).bind λ(ai,aj,ak,am,an,_)=>bif an then(some (.inr (.inl (false,()))))else let ap:=w64 (am+1);some (.inl (ai,aj,ak,ap,())))else some (.inr (.inr (v0,v1,v2,v3,false,())))
def m7(a0:LDTs):f_:=let x0:=f7 a0.length;
(match gd jk NN (a0,a0,x0,0,())with
|none=>none
|some (.inl (x1,_))=>some (x1,())
|some (.inr (x1,_))=>let x6:=f7 x1.length;some ((x6==4),()))
def CA:X.Cfg:=⟨E0,[jq],[],[⟨8,0,qE,[(.normal,qS [sP 0 (yaa my),zaa 4,Xaa 5,sP 6 (yaa my),Uaa 7,Uaa 8] [(10,Xak)])]⟩,⟨9,1,qE,[(.normal,qS [sP 0 (yaa my),sP 6 (yaa my),Uaa 7,Uaa 8,Xaa 83] [])]⟩,⟨3,2,qS (sP 0 (yaa my)::sP 6 (yaa my)::il [7,8]) [],[(.ret,qS yau []),(.exit 0,qS [sP 0 (yaa my),sP 6 (yaa my),Uaa 7,Uaa 8,Xaa 9] [])]⟩]⟩
def vg:Ctr:=⟨61,113,uL [(yaa my)],[],[⟨zab,[.one],[]⟩],ap1 m7⟩
theorem Cf:Lk 3 vg:=ls CA (aC j9 aN)
def mh:T27->Option (T27⊕((Bool×Unit)⊕(LLCn×Int×Int×Bool×T11))):=λ(v0,v1,v2,v3,v4,v5)=>bif(decide (v2<v1))then((gk v2).bind λx0=>
(fW v0 x0).bind λx1=>let x2:=f7 x1.length;
(gk v2).bind λx3=>
(fW v4 x3).bind λx4=>bif(x2 != x4)then(some (.inr (.inl (false,()))))else
(iy x1 32).bind λ(x5,_)=>bif(!x5)then(some (.inr (.inl (false,()))))else let x6:=w64 (v2+1);some (.inl (v0,v1,x6,v3,v4,v5)))else some (.inr (.inr (v0,v1,v2,false,v3,v4,v5)))
def m9(a0:LDIn)(a1:LI)(a2:LLI)(a3:z_)(a4:LDTs):f_:=
((lD a0 a1 a2).bind λ(x0,_)=>bif(x0 != 0)then(some (true,a0,a1,a2,a3,a4,()))else let x1:=f7 a3.length;let x2:=f7 a1.length;bif(x1 != x2)then(some (true,a0,a1,a2,a3,a4,()))else
(m7 a4).bind λ(x3,_)=>some ((!x3),a0,a1,a2,a3,a4,()):Option (Bool×T11)).bind λ(x0,x1,x2,x3,x4,x5,_)=>bif x0 then(some (false,()))else let x6:=f7 x4.length;
(match gd mh NN (x4,x6,0,x1,x2,x3,x4,x5,())with
|none=>none
|some (.inl (x7,_))=>some (x7,())
|some (.inr (_,_))=>some (true,()))
def Gi:X.Cfg:=⟨E0,[qa,vg,jq],[],[⟨2,0,qE,[(.normal,qS [zaa 2,zaa 3,Xaa 24] Xaq)]⟩,⟨6,1,qS (zaa 2::sP 26 (yaa gp)::il [27,28]) Xaq,[(.ret,qS uau []),(.exit 0,qS [zaa 2,sP 26 (yaa gp),Uaa 27,Uaa 28,Xaa 29] Xaq)]⟩]⟩
def yB:Ctr:=⟨32,114,[.agg uab,.agg Xac],[],[⟨zab,[.one],[]⟩],ap5 m9⟩
theorem FD:Lk 4 yB:=ls Gi (aC te (aC Cf (aC j9 aN)))
def kj:LDTs×Int×Int×LLCn×LDTs×LLCn×Unit->Option ((LDTs×Int×Int×LLCn×LDTs×LLCn×Unit)⊕(LDTs×Int×Int×Bool×LLCn×LDTs×LLCn×Unit)):=λ(v0,v1,v2,v3,v4,v5,_)=>bif(decide (v2<v1))then((gk v2).bind λx0=>
(fW v0 x0).bind λx1=>let x2:z_:=[x1.2.2.2.2.2.2.2];bif(gr 24 v5.length x2.length)then let x3:z_:=(List.append v5 x2);let x4:=w64 (v2+1);some (.inl (v0,v1,x4,v3,v4,x3,()))else none)else some (.inr (v0,v1,v2,false,v3,v4,v5,()))
def m8(a0:z_)(a1:LDTs):Option (LLCn×Unit):=bif(gr 24 0 a0.length)then let x0:z_:=(List.append [] a0);let x1:=f7 a1.length;
(gd kj NN (a1,x1,0,a0,a1,x0,())).bind λ(_,_,_,_,_,_,x8,_)=>some (x8,())else none
def Gg:X.Cfg:=⟨E0,[],[(8,(uaa KCn)),(19,(uaa KCn)),(20,(uaa KCn))],[(lx 4 0 (Zaa 3 9::sP 10 (yaa my)::il [11,12]) [(4,Xac),(9,uai)] 13)]⟩
def yA:Ctr:=⟨34,115,[.agg Xac],[],[⟨uai,[.one],[]⟩],ap2 m8⟩
theorem FC:Lk 1 yA:=ls Gg aN
def jJ:T3d->Option (T3d⊕(T1b⊕(Int×Int×LDCn×T36))):=λ(v0,v1,v2,v3,v4,v5,v6,v7)=>bif(decide (v4<v3))then((gk v4).bind λx0=>
(fW v2 x0).bind λx1=>
(iw v6 x1.1 x1.2.1 x1.2.2.1 x1.2.2.2).bind λ(x2,_)=>bif(!x2)then(some (.inr (.inl (false,(),0,(),(),(),()))))else let x3:=w64 (v4+1);some (.inl (v0,v1,v2,v3,x3,v5,v6,v7)))else some (.inr (.inr (v0,v1,v2,v3,v4,false,v5,v6,v7)))
def jI:T32->Option (T32⊕(T1b⊕T36)):=λ(v0,v1,v2,v3,v4,v5,v6,v7,v8,v9,eu,eF,eH,eJ,eM,_)=>bif(decide (v1<v0))then((gk v1).bind λx0=>
(fW eM x0).bind λ_=>
(fW eM x0).bind λx2=>let x3:=f7 x2.length;
(match gd jJ NN (v0,v1,x2,x3,0,v2,v3,v4,v5,v6,v7,v8,v9,eu,eF,eH,eJ,eM,())with
|none=>none
|some (.inl (x4,x5,x6,x7,x8,x9,_))=>some (.inr (.inl (x4,x5,x6,x7,x8,x9,())))
|some (.inr (x4,x5,_,_,_,_,ac))=>let ax:=w64 (x5+1);some (.inl (x4,ax,ac))))else some (.inr (.inr (v0,v1,false,v2,v3,v4,v5,v6,v7,v8,v9,eu,eF,eH,eJ,eM,())))
def jH:T3G->Option (T3G⊕(Int×LLCn×Int×Int×LDCn×T3t)):=λ(v0,v1,v2,v3,v4,v5,v6,v7,v8,v9,eu,eF,eH,eJ,eM,eQ,eW,eY,fa,fe,fh,fj,fm)=>bif(decide (v6<v5))then((gk v6).bind λx0=>
(fW v4 x0).bind λx1=>
(gk v0).bind λx2=>
(fW eu x2).bind λx3=>let x4:=w64 (x3+v6);
(jy eu eF v8 x1.1 x1.2.1 x1.2.2.1 x1.2.2.2).bind λ(x5,x6,_,_)=>
(gk x4).bind λx8=>
(fW fj x8).bind λ_=>
(fW fj x8).bind λ_=>let ae:=fj.modify x8 λe=>(x5,x6);let af:=w64 (v6+1);some (.inl (v0,v1,v2,v3,v4,v5,af,v7,v8,v9,eu,eF,eH,eJ,eM,eQ,eW,eY,fa,fe,fh,ae,fm)))else some (.inr (v0,v1,v2,v3,v4,v5,v6,false,v7,v8,v9,eu,eF,eH,eJ,eM,eQ,eW,eY,fa,fe,fh,fj,fm))
def jG:T3v->Option (T3v⊕(LLCn×T3t)):=λ(v0,v1,v2,v3)=>bif(decide (v2<v1))then((gk v2).bind λx0=>
(fW v0 x0).bind λx1=>let x2:=f7 x1.length;
(gd jH NN (v2,v0,v1,v2,x1,x2,0,v3)).bind λ(_,x4,x5,x6,_,_,_,_,ae)=>let aD:=w64 (x6+1);some (.inl (x4,x5,aD,ae)))else some (.inr (v0,v1,v2,false,v3))
def jF:T4i->Option (T4i⊕(LDTs×Int×Int×LDCn×Int×Int×Bool×T3W)):=λ(v0,v1,v2,v3,v4,v5,v6,v7,v8,v9,eu,eF,eH,eJ,eM,eQ,eW,eY,fa,fe,fh,fj,fm,fr,fv,fA,fB,fC,fD,fE,fF,fG,fH,fI)=>bif(decide (v5<v4))then((gk v5).bind λx0=>
(fW v3 x0).bind λx1=>
(jy v9 eu v7 x1.1 x1.2.1 x1.2.2.1 x1.2.2.2).bind λ(x2,x3,_,_)=>let x5:LDCe:=[(x2,x3)];bif(gr 4 fH.length x5.length)then let x6:LDCe:=(List.append fH x5);let x7:=w64 (v5+1);some (.inl (v0,v1,v2,v3,v4,x7,v6,v7,v8,v9,eu,eF,eH,eJ,eM,eQ,eW,eY,fa,fe,fh,fj,fm,fr,fv,fA,fB,fC,fD,fE,fF,fG,x6,fI))else none)else some (.inr (v0,v1,v2,v3,v4,v5,false,v6,v7,v8,v9,eu,eF,eH,eJ,eM,eQ,eW,eY,fa,fe,fh,fj,fm,fr,fv,fA,fB,fC,fD,fE,fF,fG,fH,fI))
def jE:T3u->Option (T3u⊕(LDTs×Int×Int×Bool×T3b)):=λ(v0,v1,v2,v3,v4,v5,v6,v7,v8,v9,eu,eF,eH,eJ,eM,eQ,eW,eY,fa,fe,_)=>bif(decide (v2<v1))then((gk v2).bind λx0=>
(fW v0 x0).bind λx1=>let x2:=f7 x1.2.2.2.2.2.2.2.length;
(gd jF NN (v0,v1,v2,x1.2.2.2.2.2.2.2,x2,0,v3,v4,v5,v6,v7,v8,v9,eu,eF,eH,eJ,eM,eQ,eW,eY,fa,fe,x1.1,x1.2.1,x1.2.2.1,x1.2.2.2.1,x1.2.2.2.2.1,x1.2.2.2.2.2.1,x1.2.2.2.2.2.2.1,x1.2.2.2.2.2.2.2,x1.1,[],x1.2.1,x1.2.2.1,x1.2.2.2.1,x1.2.2.2.2.1,x1.2.2.2.2.2.1,x1.2.2.2.2.2.2.1,())).bind λ(x3,x4,x5,_,_,_,_,ac,ae,af,ag,ah,ai,aj,ak,am,an,ap,aq,av,ax,ay,az,aA,_,_,_,_,_,_,_,_,aK,aL,aM,aO,aP,aQ,aR,aS,_)=>let aT:LDTh:=[(aK,(aL,(aM,(aO,(aP,(aQ,(aR,aS)))))))];bif(gr 80 aA.length aT.length)then let aU:LDTh:=(List.append aA aT);let aV:=w64 (x5+1);some (.inl (x3,x4,aV,ac,ae,af,ag,ah,ai,aj,ak,am,an,ap,aq,av,ax,ay,az,aU,()))else none)else some (.inr (v0,v1,v2,false,v3,v4,v5,v6,v7,v8,v9,eu,eF,eH,eJ,eM,eQ,eW,eY,fa,fe,()))
def jw(a0:LDIn)(a1:LI)(a2:LLI)(a3:LI)(a4:Int)(a5:z_)(a6:LDTs):Option (T1q):=
(m9 a0 a1 a2 a5 a6).bind λ(x0,_)=>bif(!x0)then(some ([],0,[],[],[],false,()))else
(j3 a3 a4 a1).bind λ(x1,_)=>bif(!x1)then(some ([],0,[],[],[],false,()))else
(m8 a5 a6).bind λ(x2,_)=>let x3:=f7 x2.length;
(match gd jI NN (x3,0,a0,a1,a2,a3,a4,a5,a6,(),0,(),(),(),x2,())with
|none=>none
|some (.inl (x4,_,x6,_,_,_,_))=>some ([],x6,[],[],[],x4,())
|some (.inr (_,_,_,x7,x8,x9,ac,ae,af,ag,ah,ai,aj,ak,am,_,_))=>bif(gr 8 0 ac.length)then let ap:v_:=(List.append [] ac);bif(xT 512 512 2)then let aq:LDCe:=(List.replicate 512 (0,0));
(pE).bind λ(av,_)=>let ax:=f7 af.length;
(gd jG NN (af,ax,0,x7,x8,x9,ac,ae,af,ag,ah,ai,aj,ak,am,ap,ae,aq,av,(),())).bind λ(_,_,_,_,aD,aE,aF,aG,aH,aI,aJ,aK,aL,aM,aO,aP,aQ,aR,aS,aT,_,_)=>let aV:=f7 aJ.length;
(gd jE NN (aJ,aV,0,aD,aE,aF,aG,aH,aI,aJ,aK,aL,aM,aO,aP,aQ,aR,aS,aT,[],())).bind λ(_,_,_,_,_,_,_,_,_,_,_,_,_,_,_,_,bp,bq,bt,bv,bx,_)=>some (bp,bq,bt,bv,bx,true,())else none else none)
def DZ:X.Cfg:=⟨E0,[yB,nT,yA,l9,tJ,tK],[(150,SQ),(151,SQ)],[⟨12,0,qS (zl [3,4,5,6]++Zaa 37 77::il [38,39]++sP 43 gp::il [44,45]) Xao,[(.ret,qS yav [(14,Zab)]),(.exit 2,qS (zl [3,4,5,6]++Zaa 37 77::il [38,39]++sP 43 gp::il [44,45]++[Xaa 46]) Xao)]⟩,⟨6,1,qS (zl [3,4,5,6]++Zaa 37 77::il [38,39]) Xao,[(.ret,qS yav [(14,Zab)]),(.exit 0,qS (zl [3,4,5,6]++Zaa 37 77::il [38,39]++[Xaa 40]) Xao)]⟩,⟨28,2,qS (zl [3,4,5,6,12]++Uaa 13::sP 68 (yaa gp)::il [69,70]++sP 75 gp::il [76,77]) Zao,[(.exit 6,qS (zl [3,4,5,6,12]++Uaa 13::sP 68 (yaa gp)::il [69,70]++sP 75 gp::il [76,77]++[Xaa 78]) Zao)]⟩,⟨22,3,qS (zl [3,4,5,6,12]++sP 68 (yaa gp)::il [69,70]) Zao,[(.exit 4,qS (zl [3,4,5,6,12]++sP 68 (yaa gp)::il [69,70]++[Xaa 71]) Zao)]⟩,⟨43,4,qS (zl [3,4,6,12,19]++sP 104 (yaa my)::il [105,106]++sP 126 gp::il [127,128]) yat,[(.exit 10,qS (zl [3,4,6,12,19]++sP 104 (yaa my)::il [105,106]++sP 126 gp::il [127,128]++[Xaa 129]) yat)]⟩,⟨35,5,qS (zl [3,4,6,12]++sP 104 (yaa my)::il [105,106]) zat,[(.exit 8,qS (zl [3,4,6,12]++sP 104 (yaa my)::il [105,106]++[Xaa 107]) zat)]⟩]⟩
def wN:Ctr:=⟨13,116,[.agg uab,.agg Uab,.agg Xac],[],[⟨zal,[.agg 5,.one],[]⟩],as2 (as4 ap1) jw⟩
theorem DB:Lk 5 wN:=ls DZ (aC FD (aC pX (aC FC (aC oH (aC yc (aC xo aN))))))
def oc:T41->Option (T41⊕T44):=λ(v0,v1,v2,v3,v4,v5,v6,v7,v8,v9,eu,eF,eH,eJ,eM,eQ,eW,eY,fa,fe,fh,fj,fm,fr,fv,fA,fB,fC,fD,fE,fF,fG,fH,fI,fJ,fK,_)=>bif(decide (v1<v0))then(((fX 3 v2 v3).bind λ(x0,x1,x2,_)=>bif(x0==0)then((fW fJ 0).bind λ_=>
(fW fJ 0).bind λ_=>
(jW eJ x1 x2).bind λ(x5,x6,x7,x8,x9,ac,_)=>
(gk v1).bind λae=>
(fW fJ 0).bind λaf=>
(fW af ae).bind λ_=>
(fW fJ 0).bind λah=>
(fW ah ae).bind λ_=>let aj:=fJ.modify 0 λe=>(e.modify ae λe=>(x5,(x6,(x7,x8))));some (v0,v1,x9,ac,v4,v5,v6,v7,v8,v9,eu,eF,eH,eJ,eM,eQ,eW,eY,fa,fe,fh,fj,fm,fr,fv,fA,fB,fC,fD,fE,fF,fG,fH,fI,aj,fK,()))else some (v0,v1,x1,x2,v4,v5,v6,v7,v8,v9,eu,eF,eH,eJ,eM,eQ,eW,eY,fa,fe,fh,fj,fm,fr,fv,fA,fB,fC,fD,fE,fF,fG,fH,fI,fJ,fK,()):Option (T41)).bind λ(x0,x1,x2,x3,x4,x5,x6,x7,x8,x9,ac,ae,af,ag,ah,ai,aj,ak)=>let aL:=w64 (x1+1);some (.inl (x0,aL,x2,x3,x4,x5,x6,x7,x8,x9,ac,ae,af,ag,ah,ai,aj,ak)))else some (.inr (v0,v1,false,v2,v3,v4,v5,v6,v7,v8,v9,eu,eF,eH,eJ,eM,eQ,eW,eY,fa,fe,fh,fj,fm,fr,fv,fA,fB,fC,fD,fE,fF,fG,fH,fI,fJ,fK,()))
def sd:T4d->Option (T4d⊕(Int×Int×Int×T44)):=λ(v0,v1,v2,v3,v4,v5,v6,v7,v8,v9,eu,eF,eH,eJ,eM,eQ,eW,eY,fa,fe,fh,fj,fm,fr,fv,fA,fB,fC,fD,fE,fF,fG,fH,fI,fJ,fK,fL,fM,fN,_)=>bif(decide (v4<v3))then(((fX 3 v5 v6).bind λ(x0,x1,x2,_)=>bif(x0==0)then((gk v0).bind λx3=>
(fW fN x3).bind λ_=>
(fW fN x3).bind λ_=>
(jW eW x1 x2).bind λ(x6,x7,x8,x9,ac,ae,_)=>
(gk v4).bind λaf=>
(fW fN x3).bind λag=>
(fW ag.2.2.2.2.2.2.2 af).bind λ_=>
(fW fN x3).bind λai=>
(fW ai.2.2.2.2.2.2.2 af).bind λ_=>let ak:=fN.modify x3 λe=>(e.1,(e.2.1,(e.2.2.1,(e.2.2.2.1,(e.2.2.2.2.1,(e.2.2.2.2.2.1,(e.2.2.2.2.2.2.1,(e.2.2.2.2.2.2.2.modify af λe=>(x6,(x7,(x8,x9)))))))))));some (v0,v1,v2,v3,v4,ac,ae,v7,v8,v9,eu,eF,eH,eJ,eM,eQ,eW,eY,fa,fe,fh,fj,fm,fr,fv,fA,fB,fC,fD,fE,fF,fG,fH,fI,fJ,fK,fL,fM,ak,()))else some (v0,v1,v2,v3,v4,x1,x2,v7,v8,v9,eu,eF,eH,eJ,eM,eQ,eW,eY,fa,fe,fh,fj,fm,fr,fv,fA,fB,fC,fD,fE,fF,fG,fH,fI,fJ,fK,fL,fM,fN,()):Option (T4d)).bind λ(x0,x1,x2,x3,x4,x5,x6,x7,x8,x9,ac,ae,af,ag,ah,ai,aj,ak,am)=>let aP:=w64 (x4+1);some (.inl (x0,x1,x2,x3,aP,x5,x6,x7,x8,x9,ac,ae,af,ag,ah,ai,aj,ak,am)))else some (.inr (v0,v1,v2,v3,v4,false,v5,v6,v7,v8,v9,eu,eF,eH,eJ,eM,eQ,eW,eY,fa,fe,fh,fj,fm,fr,fv,fA,fB,fC,fD,fE,fF,fG,fH,fI,fJ,fK,fL,fM,fN,()))
def oa:T41->Option (T41⊕T44):=λ(v0,v1,v2,v3,v4,v5,v6,v7,v8,v9,eu,eF,eH,eJ,eM,eQ,eW,eY,fa,fe,fh,fj,fm,fr,fv,fA,fB,fC,fD,fE,fF,fG,fH,fI,fJ,fK,_)=>bif(decide (v1<v0))then(((gk v1).bind λx0=>
(fW fK x0).bind λ_=>
(fW fK x0).bind λ_=>
(fW fK x0).bind λx3=>let x4:=f7 x3.2.2.2.2.2.2.2.length;
(gd sd NN (v1,v0,v1,x4,0,v2,v3,v4,v5,v6,v7,v8,v9,eu,eF,eH,eJ,eM,eQ,eW,eY,fa,fe,fh,fj,fm,fr,fv,fA,fB,fC,fD,fE,fF,fG,fH,fI,fJ,fK,())).bind λ(x5,x6,x7,_,_,_,ae,af,ag,ah,ai,aj,ak,am,an,ap,aq,av,ax,ay,az,aA,aB,aD,aE,aF,aG,aH,aI,aJ,aK,aL,aM,aO,aP,aQ,aR,aS,aT,aU,_)=>
(fX 4 ae af).bind λ(aV,aW,aY,_)=>bif(aV==0)then((fX 5 aW aY).bind λ(aZ,ba,bc,_)=>
(gk x5).bind λbd=>
(fW aU bd).bind λ_=>
(fW aU bd).bind λ_=>let bg:=aU.modify bd λe=>(aZ,e.2);some (x6,x7,ba,bc,ag,ah,ai,aj,ak,am,an,ap,aq,av,ax,ay,az,aA,aB,aD,aE,aF,aG,aH,aI,aJ,aK,aL,aM,aO,aP,aQ,aR,aS,aT,bg,()))else some (x6,x7,aW,aY,ag,ah,ai,aj,ak,am,an,ap,aq,av,ax,ay,az,aA,aB,aD,aE,aF,aG,aH,aI,aJ,aK,aL,aM,aO,aP,aQ,aR,aS,aT,aU,()):Option (T41)).bind λ(x0,x1,x2,x3,x4,x5,x6,x7,x8,x9,ac,ae,af,ag,ah,ai,aj,ak,am,an,ap,aq,av,ax,ay,az,aA,aB,aD,aE,aF,aG,aH,aI,aJ,aK,_)=>let aL:=w64 (x1+1);some (.inl (x0,aL,x2,x3,x4,x5,x6,x7,x8,x9,ac,ae,af,ag,ah,ai,aj,ak,am,an,ap,aq,av,ax,ay,az,aA,aB,aD,aE,aF,aG,aH,aI,aJ,aK,())))else some (.inr (v0,v1,false,v2,v3,v4,v5,v6,v7,v8,v9,eu,eF,eH,eJ,eM,eQ,eW,eY,fa,fe,fh,fj,fm,fr,fv,fA,fB,fC,fD,fE,fF,fG,fH,fI,fJ,fK,()))
def oF(a0:LI)(a1:Int):Option (LDIn×LI×LLI×LI×Int×LDCe×LDLn×LDTh×T08):=
(vN a0 a1).bind λ(x0,x1,x2,x3,x4,x5,x6,x7,x8,x9,ac,ae,af,ag,ah,ai,aj,ak,am,an,_)=>
(match((fX 3 am an).bind λ(ap,aq,av,_)=>bif(ap==0)then((iK x0 x1 x2 x3 x4 x5 x6 x7).bind λ(ax,ay,_)=>
(fW ax 0).bind λ_=>
(fW ax 0).bind λ_=>
(fW ax 0).bind λaB=>let aD:=f7 aB.length;
(gd oc NN (aD,0,aq,av,(),(),(),(),0,(),(),(),x0,x1,x2,x3,x4,x5,x6,x8,x9,ac,ae,af,ag,ah,ai,aj,ak,x3,x4,x5,x6,x7,ax,ay,())).bind λ(_,_,_,aH,aI,aJ,aK,aL,aM,aO,aP,aQ,aR,aS,aT,aU,aV,aW,aY,aZ,ba,bc,bd,be,bf,bg,bh,bi,bj,bk,bm,bn,bo,bp,bq,bt,bv,_)=>let bx:=f7 bv.length;
(gd oa NN (bx,0,aH,aI,aJ,aK,aL,aM,aO,aP,aQ,aR,aS,aT,aU,aV,aW,aY,aZ,ba,bc,bd,be,bf,bg,bh,bi,bj,bk,bm,bn,bo,bp,bq,bt,bv,())).bind λ(_,_,_,bD,bE,bF,bG,bH,bI,bJ,bK,bL,bM,bN,bO,bP,bQ,bR,bS,bT,bU,bV,bW,bY,bZ,b8,b9,cd,cf,cg,ch,ci,cj,cn,cq,cr,cu,_)=>
(jw bN bO bP ch ci cr cu).bind λ(cw,cx,cy,cz,cD,cE,_)=>bif cE then(some (.inl (bD,bE,bF,bG,bH,bI,bJ,bK,bL,bM,bN,bO,bP,bQ,bR,bS,bT,bU,bV,bW,bY,bZ,b8,b9,cd,cf,cg,cw,cx,cy,cz,cD,())))else some (.inr (bD,bE,bF,bG,bH,bI,bJ,bK,bL,bM,bN,bO,bP,bQ,bR,bS,bT,bU,bV,bW,bY,bZ,b8,b9,cd,cf,cg,ch,ci,cj,cn,cq,())))else some (.inr (aq,av,(),(),(),(),0,(),(),(),x0,x1,x2,x3,x4,x5,x6,x8,x9,ac,ae,af,ag,ah,ai,aj,ak,x3,x4,x5,x6,x7,())):Option (T3U⊕T3U))with
|none=>none
|some (.inl (ap,aq,_,_,_,_,_,_,_,_,aF,aG,aH,_,_,_,_,_,_,_,_,_,_,_,_,_,_,aY,aZ,ba,bc,bd,_))=>
(fW bd 0).bind λ_=>
(fW bd 0).bind λ_=>some (aF,aG,aH,aY,aZ,ba,bc,bd,ap,aq,())
|some (.inr (ap,aq,_,_,_,_,_,_,_,_,aF,aG,aH,_,_,_,_,_,_,_,_,_,_,_,_,_,_,aY,aZ,ba,bc,bd,_))=>
(fW bd 0).bind λ_=>some (aF,aG,aH,aY,aZ,ba,bc,bd,ap,aq,()))
def Eh:X.Cfg:=⟨E0,[EW,ia,p8,o5,wN],[],[⟨11,0,qE,[(.normal,(qS yay Zam))]⟩,(lx 8 1 yay Zam 29),⟨26,2,qE,[(.normal,(qS zay Zam))]⟩,⟨23,3,(qS zay Zam),[(.exit 4,(qS (zl [0,2,3,4,5,6]++il [8,48,49,58,59]++[Xaa 60]) Zam))]⟩,⟨19,4,qE,[(.normal,(qS Uay Zam))]⟩,⟨16,5,(qS Uay Zam),[(.exit 2,(qS (zl [0,2,3,4,5,6]++il [48,49]++[Xaa 50]) Zam))]⟩,⟨3,6,qE,[(.normal,(qS Xay [(2,yab),(6,Uad),(8,Zab),(10,yam),(12,uad)])),(.normal,(qS Xay [(2,yab),(6,Uad),(8,Zab),(10,yam),(12,Zaf)]))]⟩]⟩
def w8:Ctr:=⟨24,117,[.ptr ⟨2,0,[]⟩ [0]],[(2,yab)],[⟨uL [gT,RI,(yaa RW),RI,CW,gU,iI,(uaa nX)],[.agg 3,.agg 5],[(2,yab)]⟩],ap2 oF⟩
theorem DP:Lk 10 w8:=ls Eh (aC Nm (aC ij (aC s9 (aC rG (aC DB aN)))))
def pi:Int×LI×T03->Option ((Int×LI×T03)⊕(Int×Bool×LI×T03)):=λ(v0,v1,v2,v3,_)=>bif(decide (v0>0))then(let x0:v_:=[8,4];
(jW x0 v1 v2).bind λ(x1,x2,x3,x4,x5,x6,_)=>
((fX 12 x5 x6).bind λ(x7,x8,x9,_)=>bif(x7==0)then((fX 65536 x8 x9).bind λ(ac,ae,af,_)=>some (v0,ae,af,v3,1,0,(-1),ac,()))else some (v0,x8,x9,v3,x1,x2,x3,x4,()):Option (Int×LI×Int×LDCn×T0z)).bind λ(x7,x8,x9,ac,ae,af,ag,ah,_)=>let ai:LDCn:=[(ae,(af,(ag,ah)))];bif(gr 24 ac.length ai.length)then let aj:LDCn:=(List.append ac ai);let ak:=w64 (x7-1);some (.inl (ak,x8,x9,aj,()))else none)else some (.inr (v0,false,v1,v2,v3,()))
def j5(a0:Int)(a1:LI)(a2:Int):Option (LDCn×T08):=let x0:=w64 (a0+1);
(fX x0 a1 a2).bind λ(x1,x2,x3,_)=>
(gd pi NN (x1,x2,x3,[],())).bind λ(_,_,x6,x7,x8,_)=>some (x8,x6,x7,())
def GY:X.Cfg:=⟨E0,[ia,o5],[],[⟨9,0,qE,[(.normal,qS [zaa 0,Zaa 5 13,Uaa 6,zaa 7] [(2,yab),(13,Zag),(16,zag)])]⟩,(lx 4 1 [zaa 0,Zaa 5 13,Uaa 6] [(2,yab),(13,Zag)] 13)]⟩
def tN:Ctr:=⟨59,118,[.ptr ⟨2,0,[]⟩ [0],shU I64],[(2,yab)],[⟨Zag,[.one],[(2,yab)]⟩],ap3 j5⟩
theorem yf:Lk 6 tN:=ls GY (aC ij (aC rG aN))
def lH:T3y->Option (T3y⊕(LI×Int×Int×Bool×T3j)):=λ(v0,v1,v2,v3,v4,v5,v6,v7,v8,v9,eu,eF,eH,eJ,eM,eQ,eW,eY,fa,fe,fh,_)=>bif(decide (v2<v1))then(((gk v2).bind λx0=>
(fW v0 x0).bind λx1=>bif(x1==78)then((fX 5 v3 v4).bind λ(x2,x3,x4,_)=>let x5:=wk .u16 x2;let x6:LDCn:=[(0,(x5,(0,0)))];bif(gr 24 fe.length x6.length)then let x7:LDCn:=(List.append fe x6);some (v0,v1,v2,x3,x4,v5,v6,v7,v8,v9,eu,eF,eH,eJ,eM,eQ,eW,eY,fa,x7,fh,())else none)else bif(x1==72)then((fX 4 v3 v4).bind λ(x2,x3,x4,_)=>let x5:=wk .u16 x2;let x6:LDCn:=[(2,(x5,(0,0)))];bif(gr 24 fe.length x6.length)then let x7:LDCn:=(List.append fe x6);some (v0,v1,v2,x3,x4,v5,v6,v7,v8,v9,eu,eF,eH,eJ,eM,eQ,eW,eY,fa,x7,fh,())else none)else bif(x1==80)then((fX 2 v3 v4).bind λ(x2,x3,x4,_)=>
(fX 4 x3 x4).bind λ(x5,x6,x7,_)=>let x8:LDCn:=[(1,(0,(x2,x5)))];bif(gr 24 fe.length x8.length)then let x9:LDCn:=(List.append fe x8);some (v0,v1,v2,x6,x7,v5,v6,v7,v8,v9,eu,eF,eH,eJ,eM,eQ,eW,eY,fa,x9,fh,())else none)else let x2:v_:=[8,4];
(jW x2 v3 v4).bind λ(x3,x4,x5,x6,x7,x8,_)=>let x9:LDCn:=[(x3,(x4,(x5,x6)))];bif(gr 24 fe.length x9.length)then let ac:LDCn:=(List.append fe x9);some (v0,v1,v2,x7,x8,v5,v6,v7,v8,v9,eu,eF,eH,eJ,eM,eQ,eW,eY,fa,ac,fh,())else none:Option (T3y)).bind λ(x0,x1,x2,x3,x4,x5,x6,x7,x8,x9,ac,ae)=>let aq:=w64 (x2+1);some (.inl (x0,x1,aq,x3,x4,x5,x6,x7,x8,x9,ac,ae)))else some (.inr (v0,v1,v2,false,v3,v4,v5,v6,v7,v8,v9,eu,eF,eH,eJ,eM,eQ,eW,eY,fa,fe,fh,()))
def lV(a0:LI)(a1:Int):Option (Int×Int×Int×Int×Int×Int×LDCn×LDCn×T08):=
(fX 4 a0 a1).bind λ(x0,x1,x2,_)=>let x3:v_:=[1,1,1,0,2,3];
(fX 6 x1 x2).bind λ(x4,x5,x6,_)=>
(gk x4).bind λx7=>
(fW x3 x7).bind λ_=>
(fW x3 x7).bind λx9=>
(fX 50 x5 x6).bind λ(ac,ae,af,_)=>
(fX 64 ae af).bind λ(ag,ah,ai,_)=>
(bif(x9==2)then((fX 6 ah ai).bind λ(aj,ak,am,_)=>let an:=w64 (1+aj);some (ak,am,0,0,0,0,0,0,(),(),x0,x9,an,ac,ag,0,(),(),()))else some (ah,ai,0,0,0,0,0,0,(),(),x0,x9,0,ac,ag,0,(),(),()):Option (LI×Int×Int×Int×Int×Int×Int×Int×Unit×Unit×T1W)).bind λ(aj,ak,am,an,ap,aq,av,ax,ay,az,aA,aB,aD,aE,aF,aG,_,aI,_)=>bif(aB != 1)then(some (aA,aB,aD,aE,aF,aG,[],[],aj,ak,()))else
(fX 16 aj ak).bind λ(aJ,aK,aL,_)=>let aM:List (ByteArray):=[(bytes [78]),(bytes [72,80,78]),(bytes [72,80,78]),(bytes [78,78]),(bytes [72]),(bytes [72,78]),(bytes []),(bytes []),(bytes [78]),(bytes [78]),(bytes [78,88]),(bytes [78]),(bytes [78]),(bytes [78,80,78]),(bytes [78,80,78]),(bytes [])];
(gk aJ).bind λaO=>
(fW aM aO).bind λ_=>
(fW aM aO).bind λaQ=>bif(SY aQ)then let aR:v_:=(N6 aQ);let aS:=f7 aR.length;
(gd lH NN (aR,aS,0,aK,aL,am,an,ap,aq,av,ax,ay,az,aA,aB,aD,aE,aF,aJ,[],aI,())).bind λ(_,_,_,_,aY,aZ,ba,bc,bd,be,bf,bg,bh,bi,bj,bk,bm,bn,bo,bp,bq,_,_)=>
(bif(bp==1)then((j5 6 aY aZ).bind λ(bv,bx,bA,_)=>some (bx,bA,ba,bc,bd,be,bf,bg,bh,bi,bj,bk,bm,bn,bo,bp,bq,bv,()))else bif(bp==13)then((j5 6 aY aZ).bind λ(bv,bx,bA,_)=>some (bx,bA,ba,bc,bd,be,bf,bg,bh,bi,bj,bk,bm,bn,bo,bp,bq,bv,()))else some (aY,aZ,ba,bc,bd,be,bf,bg,bh,bi,bj,bk,bm,bn,bo,bp,bq,[],()):Option (T3i)).bind λ(bv,bx,bA,bB,bC,bD,bE,bF,bG,bH,bI,bJ,bK,bL,bM,bN,bO,bP,_)=>
((fX 10 bv bx).bind λ(bQ,bR,bS,_)=>bif(bQ==0)then((j5 3 bR bS).bind λ(bT,bU,bV,_)=>some (bU,bV,bA,bB,bC,bD,bE,bF,bG,bH,bI,bJ,bK,bL,bM,bN,bT,bP,()))else some (bR,bS,bA,bB,bC,bD,bE,bF,bG,bH,bI,bJ,bK,bL,bM,bN,bO,bP,()):Option (T3i)).bind λ(bQ,bR,_,_,_,_,_,_,_,_,b9,cd,cf,cg,ch,ci,cj,cn,_)=>some (b9,cd,cf,cg,ch,ci,cj,cn,bQ,bR,())else none
def Ee:X.Cfg:=⟨E0,[ia,o5,tN],[],[⟨2,0,qE,[(.normal,qS Xau [(2,yab),(6,Uae),(8,Uae)])]⟩,⟨14,1,qE,[(.normal,qS Zay Uat)]⟩,(lx 11 2 Zay Uat 42),⟨20,3,qE,[(.normal,qS Xau Xat)]⟩,⟨22,4,qE,[(.normal,qS Xau Xat)]⟩]⟩
def wY:Ctr:=⟨25,119,[.ptr ⟨2,0,[]⟩ [0]],[(2,yab)],[⟨Uag,[.agg 8],[(2,yab)]⟩],ap2 lV⟩
theorem DM:Lk 7 wY:=ls Ee (aC ij (aC rG (aC yf aN)))
def pN(a0:LI)(a1:Int):Option (T2d):=let x0:v_:=[8,4];
(jW x0 a0 a1).bind λ(x1,x2,x3,x4,x5,x6,_)=>
(fX 6 x5 x6).bind λ(x7,x8,x9,_)=>
(fX 3 x8 x9).bind λ(ac,ae,af,_)=>bif(ac==0)then((j5 5 ae af).bind λ(ag,ah,ai,_)=>
((fX 5 ah ai).bind λ(aj,ak,am,_)=>bif(aj==0)then((fX 4 ak am).bind λ(an,ap,aq,_)=>some (ap,aq,0,0,0,0,(),0,false,x1,x2,x3,x4,ag,an,(x7==0),()))else some (ak,am,0,0,0,0,(),0,false,x1,x2,x3,x4,ag,(-1),(x7==0),()):Option (T39)).bind λ(aj,ak,_,_,_,_,_,_,_,az,aA,aB,aD,aE,aF,aG,_)=>some (az,aA,aB,aD,aE,aF,aG,aj,ak,()))else
((fX 5 ae af).bind λ(ag,ah,ai,_)=>bif(ag==0)then((fX 4 ah ai).bind λ(aj,ak,am,_)=>some (ak,am,0,0,0,0,(),0,false,x1,x2,x3,x4,[],aj,(x7==0),()))else some (ah,ai,0,0,0,0,(),0,false,x1,x2,x3,x4,[],(-1),(x7==0),()):Option (T39)).bind λ(ag,ah,_,_,_,_,_,_,_,av,ax,ay,az,aA,aB,aD,_)=>some (av,ax,ay,az,aA,aB,aD,ag,ah,())
def GV:X.Cfg:=⟨E0,[o5,ia,tN],[],[⟨4,0,qE,[(.normal,qS Xau [(2,yab),(6,Zad),(8,zah)])]⟩]⟩
def yW:Ctr:=⟨26,120,[.ptr ⟨2,0,[]⟩ [0]],[(2,yab)],[⟨zah,[.agg 7],[(2,yab)]⟩],ap2 pN⟩
theorem F0:Lk 7 yW:=ls GV (aC rG (aC ij (aC yf aN)))
def nD:T4m->Option (T4m⊕(Int×Bool×T4l)):=λ(v0,v1,v2,v3,v4,v5,v6,v7,v8,v9,eu,eF,eH,eJ,eM,eQ,eW,eY,fa,fe,fh,fj,fm,fr,fv,fA,fB,fC,fD,fE,fF,fG,fH,fI,fJ,fK,fL)=>bif(decide (v0<5))then(bif(fK != 1)then((lV v1 v2).bind λ(x0,x1,x2,x3,x4,x5,x6,x7,x8,x9,_)=>let ac:=w64 (v0+1);some (.inl (ac,x8,x9,v3,v4,v5,v6,v7,v8,v9,eu,eF,eH,eJ,eM,eQ,eW,eY,fa,fe,fh,fj,fm,fr,fv,fA,fB,fC,fD,fE,fF,fG,fH,fI,x0,x1,x2,x3,x4,x5,x6,x7,())))else some (.inr (v0,false,v1,v2,v3,v4,v5,v6,v7,v8,v9,eu,eF,eH,eJ,eM,eQ,eW,eY,fa,fe,fh,fj,fm,fr,fv,fA,fB,fC,fD,fE,fF,fG,fH,fI,fJ,fK,fL)))else some (.inr (v0,false,v1,v2,v3,v4,v5,v6,v7,v8,v9,eu,eF,eH,eJ,eM,eQ,eW,eY,fa,fe,fh,fj,fm,fr,fv,fA,fB,fC,fD,fE,fF,fG,fH,fI,fJ,fK,fL))
def nC:T4o->Option (T4o⊕(Int×Int×Bool×T4n)):=λ(v0,v1,v2,v3,v4,v5,v6,v7,v8,v9,eu,eF,eH,eJ,eM,eQ,eW,eY,fa,fe,fh,fj,fm,fr,fv,fA,fB,fC,fD,fE,fF,fG,fH,fI,fJ,fK,fL,fM,fN,fO,fP,fQ,fR)=>bif(decide (v1<v0))then(((gk v1).bind λx0=>
(fW fQ x0).bind λ_=>
(fW fQ x0).bind λx2=>bif(x2.1==1)then(let x3:Int:=(f7 fD.length);
(fX x3 v2 v3).bind λ(x4,x5,x6,_)=>
(gk x4).bind λx7=>
(fW fF x7).bind λx8=>
(gY fF fG fD x8).bind λ(x9,_,_,_)=>
(gk x9).bind λaf=>
(fW fD af).bind λag=>
(fX ag x5 x6).bind λ(ah,ai,aj,_)=>
(gk v1).bind λak=>
(fW fQ ak).bind λ_=>
(fW fQ ak).bind λ_=>let ap:=fQ.modify ak λe=>(e.1,(e.2.1,(x9,e.2.2.2)));
(gk v1).bind λaq=>
(fW ap aq).bind λ_=>
(fW ap aq).bind λ_=>let ay:=ap.modify aq λe=>(e.1,(e.2.1,(e.2.2.1,ah)));some (v0,v1,ai,aj,v4,v5,v6,v7,v8,v9,eu,eF,eH,eJ,eM,eQ,eW,eY,fa,fe,fh,fj,fm,fr,fv,fA,fB,fC,fD,fE,fF,fG,fH,fI,fJ,fK,fL,fM,fN,fO,fP,ay,fR))else some (v0,v1,v2,v3,v4,v5,v6,v7,v8,v9,eu,eF,eH,eJ,eM,eQ,eW,eY,fa,fe,fh,fj,fm,fr,fv,fA,fB,fC,fD,fE,fF,fG,fH,fI,fJ,fK,fL,fM,fN,fO,fP,fQ,fR):Option (T4o)).bind λ(x0,x1,x2,x3,x4,x5,x6,x7,x8,x9,ac,ae,af,ag,ah,ai,aj,ak,am,an,ap,aq,av,ax,ay,az)=>let bc:=w64 (x1+1);some (.inl (x0,bc,x2,x3,x4,x5,x6,x7,x8,x9,ac,ae,af,ag,ah,ai,aj,ak,am,an,ap,aq,av,ax,ay,az)))else some (.inr (v0,v1,false,v2,v3,v4,v5,v6,v7,v8,v9,eu,eF,eH,eJ,eM,eQ,eW,eY,fa,fe,fh,fj,fm,fr,fv,fA,fB,fC,fD,fE,fF,fG,fH,fI,fJ,fK,fL,fM,fN,fO,fP,fQ,fR))
def jN(a0:LI)(a1:Int):Option (LDIn×LI×LLI×LI×Int×LDCe×LDLn×LDTh×Int×Int×Int×Int×Int×Int×LDCn×LDCn×T2d):=
(oF a0 a1).bind λ(x0,x1,x2,x3,x4,x5,x6,x7,x8,x9,_)=>
(lV x8 x9).bind λ(ac,ae,af,ag,ah,ai,aj,ak,am,an,_)=>
(gd nD NN (0,am,an,(),(),(),(),0,(),(),(),0,0,0,0,0,0,(),(),0,0,0,0,(),0,false,x0,x1,x2,x3,x4,x5,x6,x7,ac,ae,af,ag,ah,ai,aj,ak,())).bind λ(_,_,av,ax,ay,az,aA,aB,aD,aE,aF,aG,aH,aI,aJ,aK,aL,aM,aO,aP,aQ,aR,aS,aT,aU,aV,aW,aY,aZ,ba,bc,bd,be,bf,bg,bh,bi,bj,bk,bm,bn,bo,bp,_)=>
(gk bh).bind λbq=>
(fW bg bq).bind λ_=>
(fW bg bq).bind λ_=>let bx:=bg.modify bq λe=>(2,e.2);
(pN av ax).bind λ(bA,bB,bC,bD,bE,bF,bG,bH,bI,_)=>let bJ:=f7 bo.length;
(gd nC NN (bJ,0,bH,bI,ay,az,aA,aB,aD,aE,aF,aG,aH,aI,aJ,aK,aL,aM,aO,aP,aQ,aR,aS,aT,aU,aV,aW,aY,aZ,ba,bc,bd,be,bf,bx,bh,bi,bj,bk,bm,bn,bo,bp,bA,bB,bC,bD,bE,bF,bG,())).bind λ(_,_,_,bN,bO,bP,bQ,bR,bS,bT,bU,bV,bW,bY,bZ,b8,b9,cd,cf,cg,ch,ci,cj,cn,cq,cr,cu,cw,cx,cy,cz,cD,cE,cF,cG,cH,cI,cJ,cK,cL,cM,cN,cO,cP,cQ,cR,cS,cT,cU,cV,cW,_)=>
(bif(cN==10)then((fX 3 bN bO).bind λ(cX,cY,cZ,_)=>bif(decide (cX>0))then((fW cH 3).bind λ_=>
(fW cH 3).bind λ_=>let dc:=cH.modify 3 λe=>(0,e.2);bif(cI != 3)then(some (cY,cZ,bP,bQ,bR,bS,bT,bU,bV,bW,bY,bZ,b8,b9,cd,cf,cg,ch,ci,cj,cn,cq,cr,cu,cw,cx,cy,cz,cD,cE,cF,cG,dc,cI,cJ,cK,cL,cM,cN,cO,cP,cQ,cR,cS,cT,cU,3,cW,()))else some (cY,cZ,bP,bQ,bR,bS,bT,bU,bV,bW,bY,bZ,b8,b9,cd,cf,cg,ch,ci,cj,cn,cq,cr,cu,cw,cx,cy,cz,cD,cE,cF,cG,dc,cI,cJ,cK,cL,cM,cN,cO,cP,cQ,cR,cS,cT,cU,cV,cW,()))else some (cY,cZ,bP,bQ,bR,bS,bT,bU,bV,bW,bY,bZ,b8,b9,cd,cf,cg,ch,ci,cj,cn,cq,cr,cu,cw,cx,cy,cz,cD,cE,cF,cG,cH,cI,cJ,cK,cL,cM,cN,cO,cP,cQ,cR,cS,cT,cU,cV,cW,()))else some (bN,bO,bP,bQ,bR,bS,bT,bU,bV,bW,bY,bZ,b8,b9,cd,cf,cg,ch,ci,cj,cn,cq,cr,cu,cw,cx,cy,cz,cD,cE,cF,cG,cH,cI,cJ,cK,cL,cM,cN,cO,cP,cQ,cR,cS,cT,cU,cV,cW,()):Option (T4n)).bind λ(cX,cY,_,_,_,_,_,_,_,_,_,_,_,_,_,_,_,_,_,_,_,_,_,_,_,dH,dI,dJ,dK,dL,dM,dN,dO,dP,dQ,dR,dS,dT,dU,dV,dW,dX,dY,dZ,ee,ef,ej,ek,_)=>some (dH,dI,dJ,dK,dL,dM,dN,dO,dP,dQ,dR,dS,dT,dU,dV,dW,dX,dY,dZ,ee,ef,ej,ek,cX,cY,())
def CI:X.Cfg:=⟨E0,[w8,wY,yW,ia,jR],[],[(lx 5 0 (zl [0,2,3,4,5,6,7,8]++[Uaa 9]) [(2,yab),(6,Uad),(8,Zab),(10,Uae),(12,Zad),(14,uab),(16,Zaf),(18,Uag)] 28),⟨16,1,qE,[(.normal,(qS uaz uap))]⟩,⟨13,2,(qS uaz uap),[(.exit 2,(qS (zl [0,2,3,4,5,6,7,8,10]++(42,.pk ⟨18,6,[]⟩ [0,0])::il [43,44]++[Xaa 45]) uap))]⟩,⟨20,3,qE,[(.normal,qS (zl [0,2,3,4,5,6,7,8,10]) uap)]⟩]⟩
def vx:Ctr:=⟨9,121,[.ptr ⟨2,0,[]⟩ [0]],[(2,yab)],[⟨uL [gT,RI,(yaa RW),RI,CW,gU,iI,mO,I64,I64,I64,I64,I64,I64,gp,gp,CB,CW,I64,I64,gp,I64,.bool],[.agg 3,.agg 5,.agg 8,.agg 7],[(2,yab)]⟩],ap2 jN⟩
theorem Cn:Lk 11 vx:=ls CI (aC DP (aC DM (aC F0 (aC ij (aC lq aN)))))
def zf:T0M->Option (T0M⊕((Bool×Unit)⊕(LI×T0J))):=λ(v0,v1,v2,v3,_)=>bif(decide (v3<v2))then((gk v3).bind λx0=>
(fW v1 x0).bind λx1=>bif(decide (x1<1))then(some (.inr (.inl (false,()))))else bif(decide (x1>32))then(some (.inr (.inl (false,()))))else let x2:=w64 (v3+1);some (.inl (v0,v1,v2,x2,())))else some (.inr (.inr (v0,v1,v2,v3,false,())))
def lR(a0:LI):f_:=let x0:=f7 a0.length;
(match gd zf NN (a0,a0,x0,0,())with
|none=>none
|some (.inl (x1,_))=>some (x1,())
|some (.inr (x1,_))=>let x6:=f7 x1.length;bif(decide (x6>=1))then(let x7:Int:=(f7 x1.length);some ((decide (x7<=4)),()))else some (false,()))
def DU:X.Cfg:=⟨E0,[],[],[⟨3,0,qS zaw [],[(.ret,qS yau []),(.exit 0,qS Uaw [])]⟩]⟩
def r6:Ctr:=⟨110,122,zai,[],[⟨zab,[.one],[]⟩],ap1 lR⟩
theorem wB:Lk 1 r6:=ls DU aN
def rQ(a0:Int):Option (T0u):=
(bif(a0==1)then(some (a0,true,false,false,false,false,()))else bif(a0==15)then(some (a0,true,false,false,false,false,()))else bif(a0==19)then(some (a0,true,false,false,false,false,()))else bif(a0==20)then(some (a0,true,false,false,false,false,()))else some (a0,(a0==21),false,false,false,false,()):Option (Int×Bool×T0u)).bind λ(x0,x1,_)=>bif x1 then(some (true,false,false,true,()))else bif(x0==2)then(some (true,true,false,false,()))else bif(x0==16)then(some (true,true,false,true,()))else bif(x0==17)then(some (true,true,false,true,()))else bif(x0==18)then(some (false,false,false,true,()))else bif(x0==23)then(some (false,false,false,true,()))else bif(x0==22)then(some (true,false,false,false,()))else bif(x0==0)then(some (false,false,false,false,()))else bif(x0==24)then(some (false,false,false,false,()))else some (true,true,true,false,())
def Ea:X.Cfg:=⟨E0,[],[],[⟨3,0,qE,[(.normal,qS [zaa 2,Uaa 3,Xaa 4] [(6,Xag)])]⟩]⟩
def wU:Ctr:=⟨161,123,Uac,[],[⟨Xag,[.agg 4],[]⟩],ap1 rQ⟩
theorem DI:Lk 1 wU:=ls Ea aN
def jb(a0:Bool)(a1 a2:Int):f_:=bif(a1==0)then(some (true,()))else bif a0 then(bif(decide (a1>0))then(some ((decide (a1<=a2)),()))else some (false,()))else some (false,())
def CJ:X.Cfg:=⟨E0,[],[],[]⟩
def vy:Ctr:=⟨162,124,uL [.bool,I64,I64],[],[⟨zab,[.one],[]⟩],ap3 jb⟩
theorem Co:Lk 1 vy:=ls CJ aN
def nF(a0:Int):f_:=bif(a0==18)then(some (true,()))else bif(a0==19)then(some (true,()))else bif(a0==20)then(some (true,()))else some ((a0==21),())
def GR:X.Cfg:=⟨E0,[],[],[]⟩
def tM:Ctr:=⟨140,125,Uac,[],[⟨zab,[.one],[]⟩],ap1 nF⟩
theorem ye:Lk 1 tM:=ls GR aN
def ry(a0:Int):h_:=
(nF a0).bind λ(x0,_)=>bif x0 then(some (63,()))else bif(a0==15)then(some (3,()))else bif(a0==23)then(some (15,()))else some (65535,())
def Jq:X.Cfg:=⟨E0,[tM],[],[]⟩
def AU:Ctr:=⟨163,126,Uac,[],[⟨Uac,[.one],[]⟩],ap1 ry⟩
theorem ID:Lk 2 AU:=ls Jq (aC ye aN)
def pK(a0 a1 a2 a3 a4:Int):f_:=bif(decide (a0<0))then(some (false,()))else bif(decide (a0>24))then(some (false,()))else
(rQ a0).bind λ(x0,x1,x2,x3,_)=>
(jb x0 a1 7).bind λ(x4,_)=>bif x4 then((jb x1 a2 7).bind λ(x5,_)=>bif x5 then((jb x2 a3 7).bind λ(x6,_)=>bif x6 then((ry a0).bind λ(x7,_)=>
(jb x3 a4 x7).bind λ(x8,_)=>some (x8,()))else some (false,()))else some (false,()))else some (false,())
def GQ:X.Cfg:=⟨E0,[wU,vy,AU],[],[]⟩
def yS:Ctr:=⟨139,127,[.agg Xae],[],[⟨zab,[.one],[]⟩],ap5 pK⟩
theorem FW:Lk 3 yS:=ls GQ (aC DI (aC Co (aC ID aN)))
end
end Go.Proofs.YtabfnmgabblofaaGreat
