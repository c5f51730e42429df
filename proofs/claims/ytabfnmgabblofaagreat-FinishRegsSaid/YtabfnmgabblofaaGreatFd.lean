/- Part of the proof; no condition. -/
import Derived.Test.YtabfnmgabblofaaGreatFc
import Derived.Test.YtabfnmgabblofaaGreatProg
import Derived.KernelRfl
set_option linter.unusedVariables false
set_option linter.unusedSimpArgs false
namespace Go.Proofs.YtabfnmgabblofaaGreat
open Go.RowKit
section
variable {α β γ δ Y:Type}
theorem PP{F:iz}{C:X.Cfg}(YW:∀c∈C.TB,yv F c)(u:HL den []):∀(ops:List lw){σ:XS den}{k:Unit->XS den->Option Y}{y:Y},X.spOps fU C u ops σ k=some y->∃ σ',wX (evCall C.E F) ops (erS σ)=some (erS σ')/\k () σ'=some y:=by intro ops;induction ops with|nil=>intro σ k y h;exact⟨σ,rfl,h⟩|cons o ops ih=>intro σ k y h;have ⟨a,σ1,r1,_,h1⟩:=Kz YW u o σ _ y h;have ⟨σ',r2,h2⟩:=ih h1;refine⟨σ',?_,h2⟩;simp[wX];rw[Kw r1];exact r2
def K5(f g:vm):Prop:=(∀x∈f.1,x∈g.1)/\∀x∈f.2,x∈g.2
inductive TZ:List (Nat×vm)->List (Nat×vm)->Prop
 |nil:TZ [] []
 |cons {i:Nat} {f g:vm} {l r:List (Nat×vm)} (h:K5 f g) (t:TZ l r):TZ ((i,f)::l) ((i,g)::r)
theorem xf{a a' b b':List Loc}(ha:∀x∈a,x∈a')(hb:∀x∈b,x∈b')(h:Mb a' b'=false):Mb a b=false:=by unfold Mb at h⊢;simp_all
theorem MJ{f f' g g':vm}(h1:K5 f f')(h2:K5 g g')(h:sF f' g'=false):sF f g=false:=by unfold sF at h⊢;simp at h⊢;have ⟨⟨⟨a,b⟩,c⟩,d⟩:=h;exact⟨⟨⟨xf h1.2 h2.1 a,xf h1.2 h2.2 b⟩,xf h2.2 h1.1 c⟩,xf h2.2 h1.2 d⟩
theorem Oi{deps:k_}{j:Nat}{f f':vm}(hf:K5 f f'){l r:List (Nat×vm)}(h:TZ l r):(r.all λy=>!sF f' y.2||(deps.getD y.1 []).contains j)=true->(l.all λy=>!sF f y.2||(deps.getD y.1 []).contains j)=true:=by induction h with|nil=>exact id|cons h t ih=>intro hr;simp only[List.all_cons,oBA]at hr⊢;refine⟨?_,ih hr.2⟩;simp at hr⊢;rcases hr.1 with h3|h3;exact .inl (MJ hf h h3);simp_all
theorem Hg{deps:k_}{l r:List (Nat×vm)}(h:TZ l r):lr deps r=true->lr deps l=true:=by induction h with|nil=>exact id|cons h t ih=>intro hr;simp only[lr,oBA]at hr⊢;exact⟨Oi h t hr.1,ih hr.2⟩
theorem Sq{F:iz}{C:X.Cfg}(YW:∀c∈C.TB,yv F c)(u:HL den [])(ops:List lw):∀(L:N_){σ:XS den}{k:List (Nat×vm)->XS den->Option Y}{y:Y},X.spFL fU C u ops L σ k=some y ->∃fs gs σ',vn (λi=>spOp (evCall C.E F) (ops.getD i I5)) L (erS σ)=some (fs,erS σ')/\TZ fs gs/\k gs σ'=some y:=by intro L;induction L with|nil=>intro σ k y h;exact⟨[],[],σ,rfl,.nil,h⟩|cons i L ih=>intro σ k y h;have ⟨a,σ1,r1,n1,h1⟩:=Kz YW u _ _ _ y h;have r1:(spOp (evCall C.E F) (ops.getD i I5)).run (erS σ)=some (a,erS σ1):=r1;have ⟨fs,gs,σ',r2,le,h2⟩:=ih h1;refine⟨(i,(spOp (evCall C.E F) (ops.getD i I5)).foot (erS σ))::fs,(i,σ1.lg)::gs,σ',?_,.cons ⟨n1.r,n1.w⟩ le,h2⟩;simp[vn];simp_all
theorem yL(L:N_)(σ:XS den){t:XV den}(h:X.okN0 t=true):er (X.renorm0 L σ t)=renorm0 L (erS σ) (er t):=by
 cases t with
 |d t x=>cases t with
  |row o t=>cases o<;>first|rfl|simp[X.okN0]at h
  |nilr o=>cases o<;>rfl|nat=>simp[X.okN0]at h|pair a b=>simp[X.okN0]at h|_=>rfl
 |ptr p vs=>show er (if _ then _ else _)=(if _ then _ else _);by_cases hc:(L.contains p.root&&vs==lz (nw σ.vr) p.root p.off p.hops.length)=true;rw[oIP hc,oIP (by exact hc)];rfl;rw[oIN hc,oIN (by exact hc)];rfl|pk p vs=>show er (if _ then _ else _)=(if _ then _ else _);by_cases hc:(L.contains p.root&&vs==lz (nw σ.vr) p.root p.off (p.hops.length+1))=true;rw[oIP hc,oIP (by exact hc)];rfl;rw[oIN hc,oIN (by exact hc)];rfl|pw p vs sz lo n=>show er (if _ then _ else _)=(if _ then _ else _);by_cases hc:(L.contains p.root&&vs==lz (nw σ.vr) p.root p.off (p.hops.length+1))=true;rw[oIP hc,oIP (by exact hc)];rfl;rw[oIN hc,oIN (by exact hc)];rfl|tup l=>cases l<;>rfl|gap=>simp[X.okN0]at h|half=>simp[X.okN0]at h|_=>rfl
theorem NU(L:N_)(σ:XS den){t:XV den}(h:X.okN t=true):er (X.renorm L σ t)=renorm L (erS σ) (er t):=by
 have key:X.okN0 t=true->er (X.renorm0 L σ t)=renorm0 L (erS σ) (er t):=λh=>yL L σ h;cases t with
 |agg l=>simp only[X.renorm,er,renorm,kV,oPM];congr 1;refine List.map_congr_left λx hx=>yL L σ (oAE.1 h x hx)|fn f l=>simp only[X.renorm,er,renorm,kV,oPM];congr 1;refine List.map_congr_left λx hx=>yL L σ (oAE.1 h x hx)|d t x=>have:=key h;cases t with|row o t=>cases o<;>exact this|nilr o=>cases o<;>exact this|_=>exact this
 |_=>exact key h
theorem Rv{α:Type}{P:α->Bool}:∀{l:List (Nat×α)}{i:Nat}{t:α},(l.all λx=>P x.2)=true->gD l i=some t->P t=true:=by intro l;induction l with|nil=>intro i t _ h;simp[gD]at h|cons x l ih=>intro i t ha h;simp only[List.all_cons,oBA]at ha;simp[gD]at h;split at h;simp_all;exact ih ha.2 h
theorem Qz(L:N_)(σ:XS den)(hok:X.okS σ=true):∀l:N_,(X.normT L σ l).map (λx=>(x.1,er x.2))=normT L (erS σ) l:=by intro l;induction l with|nil=>rfl|cons i l ih=>simp[X.normT,normT];have e:gD (erS σ).tm i=(gD σ.tm i).map er:=AX _ _ _;rw[e];cases h:gD σ.tm i with|none=>exact ih|some t=>have ht:=Rv hok h;simp only[oMS,oPC];rw[NU L σ ht,ih]
theorem QD(σ:XS den):∀l:N_,erC (X.normC σ l)=normC (erS σ) l:=by intro l;induction l with|nil=>rfl|cons r l ih=>simp[X.normC,normC];rw[zH];cases h:gD σ.ce r with|none=>exact ih|some c=>simp;show(r,erL c)::erC _=_;rw[ih]
theorem EE{σ:XS den}(hok:X.okS σ=true)(pers:Prs):erS (X.norm σ pers)=(erS σ).norm pers:=by show(⟨(X.normT pers.2 σ pers.1).map _,erC (X.normC σ pers.2),sat pers.2 σ.vr σ.vr⟩:St)=_;rw[Qz _ σ hok,QD];rfl
theorem Kn{σ:XS den}(hok:X.okS σ=true):erS (X.anew σ)=(erS σ).anew:=by unfold X.anew St.anew;rw[EE hok];congr 1;congr 1;show _=(σ.tm.map λx=>(x.1,er x.2)).map (·.1);simp_all;show _=(erC σ.ce).map (·.1);unfold erC;simp_all
theorem Uc(p:XP den)(off:Nat):erP (X.shq fU p off)=shq (erP p) off:=by unfold X.shq shq;split;exact J6 p off;rfl
theorem PT(x:Nat×x_):Sim (Y:=Y) (X.shr1 fU x) (shr1 x) id:=by
 obtain⟨i,off⟩:=x;refine Sim.rdT λt=>?_;cases off with
 |none=>cases t with
  |pk p vs=>refine(j5 false (.pk p vs)).bind λt'=>Sim.opt λt2 h2=>?_;rw[<- BE h2];exact A8 i t2|d t y=>cases t with|row o t=>cases o<;>exact .ret rfl|nilr o=>cases o<;>exact .ret rfl|_=>exact .ret rfl
  |agg l=>exact Sim.ite (λ_=>.fail) λ_=>.ret rfl|_=>exact .fail
 |some off=>cases t with
  |ptr p vs=>
  refine(iP p _ vs).bind λ_=>Sim.ite (λh=>?_) λ_=>.fail;rw[oIP (by rw[<- Gd];exact h),<- Uc];refine(lH _).bind λt=>Sim.ite (λho=>?_) λho=>?_;obtain⟨c,hc⟩:=pB ho;have hpk:=m7 (Y:=Y) (X.shq fU p off) t;rw[hc]at hpk;rw[hc];exact hpk.bind λt'=>(j5 false t').bind λ_=>.ret rfl;cases t with
   |d t y=>
   cases t with
    |row o t=>cases o<;>first|exact .ret rfl|simp[X.isOwX,X.isOwT]at ho
    |nilr o=>cases o<;>first|exact .ret rfl|simp[X.isOwX,X.isOwT]at ho
    |_=>exact .ret rfl
   |_=>exact .fail
  |d t y=>cases t with|row o t=>cases o<;>exact .fail|nilr o=>cases o<;>exact .fail|_=>exact .fail
  |_=>exact .fail
theorem KA:∀l:a_,Sim (Y:=Y) (X.shrs fU l) (shrs l) id:=by intro l;induction l with|nil=>exact .ret rfl|cons x l ih=>exact(PT x).bind λ_=>ih
theorem QY{n:Nat}{t:XV den}{k:XV den->Option Y}{y:Y}(h:X.halfX fU n t k=some y):∃t',er t'=er t/\k t'=some y:=by
 unfold X.halfX at h;split at h;rename_i t xs;split at h;rename_i hs;split at h;rename_i hc;refine⟨_,?_,h⟩;have h':=iw (M7 t);show TV.ow (lu (X.upT t) 0 (cast (iw hs) xs))=.ow (List.map (enc t) xs);have e:(cast (iw hs) xs:List (den (X.upT t)))=List.map (cast h') (xs:List (den t)):=Gr h' _ xs;rw[e,Mq,oPM];congr 1;exact List.map_congr_left λx _=>Tq hc.2 h' x;cases h;cases h;rename_i t xs m;split at h;have h2:fU.br (Nat.beq m (List.length xs)) _ none=some y:=h;cases hc:Nat.beq m (List.length xs)with|false=>rw[hc]at h2;cases h2|true=>rw[hc]at h2;have e:=Nat.eq_of_beq_eq_true hc;subst e;refine⟨_,?_,h2⟩;show TV.ow (List.map (enc t) xs)=.ow (lu t (List.length xs) xs);rw[OX]
 cases h;split at h;grind;cases h;cases h
theorem P7(r o n:Nat):Sim (Y:=Y) (X.halfM fU r o n) (.ret ()) id:=by
 intro σ k y hk;unfold X.halfM at hk;split at hk;case h_2=>cases hk
 rename_i l hl;split at hk;case isFalse=>cases hk
 have ⟨t',e,hk⟩:=QY hk;refine⟨(),⟨σ.tm,iJ σ.ce r (l.set o t'),σ.vr,σ.lg⟩,?_,⟨λx h=>by simp[SP.foot]at h,λx h=>by simp[SP.foot]at h,λ_ h=>h,λ_ h=>h⟩,hk⟩;show some ((),erS σ)=some ((),_);congr 2;unfold erS erC;congr 1;rw[<- ra,wG,e,xG];have hs:(erL l).set o ((erL l).getD o .dead)=erL l:=by
  apply oEG;intro j;rw[List.getElem?_set];split
  ·rename_i h;split
   all_goals simp_all
  rfl
 rw[hs];exact(Cu (by show gD (erC σ.ce) r=some (erL l);have:=zH;rw[show erC σ.ce=(erS σ).ce from rfl,this,hl];rfl)).symm
theorem SB(i n:Nat):Sim (Y:=Y) (X.frzM fU i n) (UD i n) id:=by refine Sim.ite (λh=>?_) λh=>?_;unfold UD;rw[oIP h];refine Sim.ite (λ_=>?_) λ_=>P7 _ _ n;intro σ k y hk;unfold X.ownM at hk;split at hk;split at hk;exact⟨(),σ,rfl,rR.refl σ,hk⟩;cases hk;cases hk;exact .fail
theorem SN{i:Nat}{σ:XS den}{u:HL den []}:∀{L:List IY}{H:IY}{h:HL den (lvS H.s)},X.selH fU i σ u L=some ⟨H,h⟩->X.convS fU H.s σ u=some h:=by intro L;induction L with|nil=>intro H h hs;cases hs|cons H0 L ih=>intro H h hs;unfold X.selH at hs;grind
theorem D2{Z:Type}{outs:List (nz×Shs)}{i:Nat}{h:HL den (ED (outs.map λx=>lvS x.2) i)}{o:Eh (outs.map λx=>lvS x.2)}{x:nz×XS den}(K:nz×XS den->Option Z)(hm:yR (outs.map λx=>lvS x.2) i h=some o)(hf:zG outs i h=some x):(oP (outs.map λx=>lvS x.2) o λj ho=>X.onOut fU (zG outs j ho) K)=K x:=by rw[D3 _ hm,hf];rfl
theorem PW{F:iz}{C:X.Cfg}(YW:∀c∈C.TB,yv F c)(u:HL den []){N:Nat}(hN:NN<=N):∀(tc:lO)(i:Nat){Y:Type}(σ:XS den)(k:nz->XS den->Option Y)(y:Y),X.runC fU C u tc i σ k=some y->∃e σ',runC (evCall C.E F) N tc (erS σ)=some (e,erS σ')/\k e σ'=some y:=by
 intro tc;induction tc with
 |skip=>intro i Y σ k y h;exact⟨.normal,σ,rfl,h⟩|frz j n a ih=>intro i Y σ k y h;obtain⟨_,σ1,r1,_,h1⟩:=SB j n σ _ y h;split at h1;rename_i hok;obtain⟨e,σ2,r2,h2⟩:=ih _ _ k y h1;refine⟨e,σ2,?_,h2⟩;simp only[runC];rw[r1];simp only[oBS];rw[<- Kn hok];exact r2;cases h1|nrm pers=>intro i Y σ k y h;have h:(if X.okS σ then k .normal (X.norm σ pers)else none)=some y:=h;split at h;rename_i hok;exact⟨.normal,X.norm σ pers,by rw[EE hok];rfl,h⟩;cases h|reg id draw ops pers=>intro i Y σ k y h;cases draw with|none=>have h:X.spOps fU C u ops σ (λ_ σ'=>if X.okS σ' then k .normal (X.norm σ' pers)else none)=some y:=h;obtain⟨σ1,r1,h1⟩:=PP YW u ops h;split at h1;rename_i hok;refine⟨.normal,X.norm σ1 pers,?_,h1⟩;simp only[runC];rw[r1,EE hok];rfl;cases h1|some deps=>obtain⟨fs,gs,σ1,r1,le,h1⟩:=Sq YW u ops _ h;split at h1;rename_i hok;simp only[oBA]at hok;rw[Jr]at hok;refine⟨.normal,X.norm σ1 pers,?_,h1⟩;simp only[runC];rw[r1,EE hok.2];simp only[oBS];rw[oIP (Hg le hok.1)];cases h1
 |seq a b ZF ZC=>
 intro i Y σ k y h;have ZT:∀(e:nz)(σ1:XS den),runC (evCall C.E F) N a (erS σ)=some (e,erS σ1)->(match e with|.normal=>X.runC fU C u b (i+1+X.marks a) σ1 k|e=>k e σ1)=some y->∃e σ',runC (evCall C.E F) N (.seq a b) (erS σ)=some (e,erS σ')/\k e σ'=some y:=by intro e σ1 r1 h1;simp only[runC];rw[r1];simp only[oBS];cases e with|normal=>exact ZC _ σ1 k y h1|exit j=>exact⟨_,σ1,rfl,h1⟩|ret=>exact⟨_,σ1,rfl,h1⟩
 unfold X.runC at h;cases hs:X.selJ i C.HL with|none=>rw[hs]at h;obtain⟨e,σ1,r1,h1⟩:=ZF _ σ _ y h;exact ZT e σ1 r1 h1|some H=>rw[hs]at h;obtain⟨o,h1,h2⟩:=gd (show(X.runC fU C u a (i+1) σ _:Option _).bind _=some y from h);obtain⟨e,σ1,r1,h3⟩:=ZF _ σ _ o h1;cases hi:X.injE fU e σ1 u H.outs with|none=>rw[hi]at h3;cases h3|some x=>rw[hi]at h3;obtain⟨j,ho⟩:=x;have h3:yR (H.outs.map λx=>lvS x.2) j ho=some o:=h3;obtain⟨x,hf,he,hσ⟩:=OR hi;rw[D2 _ h3 hf]at h2;rw[<- hσ]at r1;rw[<- he]at r1;exact ZT x.1 x.2 r1 h2
 |cond c a b ZF ZC=>
 intro i Y σ k y h;obtain⟨t,σ1,r1,e1,_,h1⟩:=AI h;cases t with
  |d t x=>cases t with
   |bool=>
   have hkn:erS (X.knownO fU c x σ)=erS σ:=by
    cases c with
    |t j=>
    have hj:X.tOf σ j=.d .bool x:=by
     have h9:X.condX fU (X.runC fU C u a i (X.knownO fU (.t j) true σ) k) (X.runC fU C u b (i+X.marks a) (X.knownO fU (.t j) false σ) k) (X.tOf σ j)=some y:=h;have r1:(some ((erS σ).t j,erS σ):Option (TV×St))=some (er (.d .bool x),erS σ):=r1;injection r1 with r1
     injection r1 with r1 _
     rw[Rb]at r1;cases ht:X.tOf σ j with
     |d t2 z=>cases t2 with
      |bool=>rw[ht]at r1;injection r1 with r1;injection r1 with r1;rw[show z=x from r1]
      |_=>rw[ht]at h9;cases h9
     |_=>rw[ht]at h9;cases h9
    exact KW hj
    |_=>rfl
   have r1:(opd c).run (erS σ)=some (.v (.bool x),erS σ):=r1;simp only[runC];rw[r1];simp only[oBS];cases x with|true=>rw[<- hkn];exact ZF _ _ k y h1|false=>rw[<- hkn];exact ZC _ _ k y h1
   |_=>cases h1
  |_=>cases h1
 |block id b ih=>intro i Y σ k y h;unfold X.runC at h;obtain⟨e,σ1,r1,h1⟩:=ih _ σ _ y h;simp only[runC];rw[r1];simp only[oBS];grind|loop b ih=>
 intro i Y σ k y h;unfold X.runC at h;cases hs:X.selH fU i σ u C.HL with
  |none=>rw[hs]at h;cases h|some x=>
  obtain⟨H,h0⟩:=x;rw[hs]at h;have hconv:=Gi (SN hs);obtain⟨o,h1,h2⟩:=gd (show(f9 _ NN h0).bind _=some y from h);have key:∀(n:Nat)(hd:HL den (lvS H.s))(o:Eh (H.outs.map λx=>lvS x.2)),f9 (λh=>X.runC fU C u b (i+1) (J4 H.s h) (X.roundK fU H u)) n hd=some o->∀N',n<=N'->∃x j ho,Tg (runC (evCall C.E F) N b) N' (erS (J4 H.s hd))=some (x.1,erS x.2)/\yR (H.outs.map λx=>lvS x.2) j ho=some o/\zG H.outs j ho=some x:=by
   intro n;induction n with
   |zero=>intro hd o h;cases h|succ n ihn=>
   intro hd o h N' Yh;obtain⟨N',rfl⟩:∃N'',N'=N''+1:=⟨N'-1,by omega⟩;obtain⟨z,hz,Xm⟩:=gd (show(X.runC fU C u b (i+1) (J4 H.s hd) _:Option _).bind _=some o from h);obtain⟨e,σ1,r1,h3⟩:=ih _ _ _ z hz;simp only[Tg];rw[r1];simp only[oBS];have Y5:∀e':nz,(∀s:Option (HL den (lvS H.s)⊕Eh (H.outs.map λx=>lvS x.2)),s=some z->s=X.onOut fU (X.injE fU e' σ1 u H.outs) (λx=>fU.exitL (lvS H.s) (H.outs.map λx=>lvS x.2) x.1 x.2)->∃x j ho,(some (e',erS σ1):Option (nz×St))=some (x.1,erS x.2)/\yR (H.outs.map λx=>lvS x.2) j ho=some o/\zG H.outs j ho=some x):=by intro e' s hs1 YV;rw[hs1]at YV;cases hi:X.injE fU e' σ1 u H.outs with|none=>rw[hi]at YV;cases YV|some x=>rw[hi]at YV;obtain⟨j,ho⟩:=x;obtain⟨t,Yj,YP⟩:=kF (show(yR (H.outs.map λx=>lvS x.2) j ho).map Sum.inr=some z from YV.symm);subst YP;obtain⟨x,hf,he,hσ⟩:=OR hi;refine⟨x,j,ho,by rw[he,hσ],?_,hf⟩;have:some t=some o:=Xm;rw[<- this];exact Yj
   cases e with
   |normal=>
   have h3:X.onOut fU (X.convS fU H.s σ1 u) (fU.next (lvS H.s) (H.outs.map λx=>lvS x.2))=some z:=h3;cases hc:X.convS fU H.s σ1 u with
    |none=>rw[hc]at h3;cases h3|some h'=>
    rw[hc]at h3;have h3:some (Sum.inl h')=some z:=h3;injection h3 with h3
    subst h3;rw[<- Gi hc];exact ihn h' o Xm N' (by omega)
   |exit j=>exact Y5 (.exit j) _ h3 rfl|ret=>exact Y5 .ret _ h3 rfl
  obtain⟨x,j,ho,r1,hm,hf⟩:=key NN h0 o h1 N hN;rw[D2 _ hm hf]at h2;refine⟨x.1,x.2,?_,h2⟩;simp only[runC];rw[<- hconv];exact r1
 |exit id=>intro i Y σ k y h;exact⟨.exit id,σ,rfl,h⟩|ret=>intro i Y σ k y h;exact⟨.ret,σ,rfl,h⟩|pre l a ih=>intro i Y σ k y h;obtain⟨_,σ1,r1,_,h1⟩:=KA l σ _ y h;split at h1;rename_i hok;obtain⟨e,σ2,r2,h2⟩:=ih _ _ k y h1;refine⟨e,σ2,?_,h2⟩;simp only[runC];rw[r1];simp only[oBS];rw[<- Kn hok];exact r2;cases h1|post a l ih=>intro i Y σ k y h;obtain⟨e,σ1,r1,h1⟩:=ih _ _ _ y h;obtain⟨_,σ2,r2,_,h2⟩:=KA l σ1 _ y h1;split at h2;rename_i hok;refine⟨e,X.anew σ2,?_,h2⟩;simp only[runC];rw[r1];simp only[oBS];rw[r2];simp only[oBS];rw[Kn hok];cases h2
end
section
variable {α β γ δ Y:Type}
theorem DN(np:Nat)(t:XV den):Sim (Y:=Y) (X.takeR1 fU np t) (takeR1 np (er t)) er:=by
 have key:Sim (Y:=Y) (X.take1 fU true t) (take1 true (er t)) er:=j5 true t;cases t with
 |pk p vs=>exact j5 _ (.pk p vs)|d t y=>cases t with|row o t=>cases o<;>exact key|nilr o=>cases o<;>exact key|_=>exact key
 |_=>exact key
theorem LA(np:Nat):∀l:List (XV den),Sim (Y:=Y) (X.takeRL fU np l) (takeRL np (erL l)) erL:=by intro l;induction l with|nil=>exact .ret rfl|cons t l ih=>exact(DN np t).bind λt'=>ih.bind λr'=>.ret rfl
theorem yC(np:Nat)(t:XV den):Sim (Y:=Y) (X.takeRV fU np t) (takeRV np (er t)) λx=>(erL x.1,x.2):=by
 have one:∀t:XV den,Sim (Y:=Y) (X.bind (X.takeR1 fU np t) λt'=>X.ret ([t'],RSh.one)) ((takeR1 np (er t)).bind λt'=>.ret ([t'],.one)) λx=>(erL x.1,x.2):=λt=>(DN np t).bind λt'=>.ret rfl;have key:=one t;cases t with
 |agg l=>exact(LA np l).bind λl'=>.ret (by simp[iI])|d t y=>cases t with|row o t=>cases o<;>exact key|nilr o=>cases o<;>exact key|_=>exact key
 |_=>exact key
theorem PZ(np:Nat)(q:TRs):Sim (Y:=Y) (X.res1 fU np q) (res1 np q) λx=>(erL x.1,x.2):=by
 cases q with
 |tmp t=>exact Sim.rdT λtv=>yC np tv|cell t n=>
 refine Sim.rdT λtv=>?_;cases tv with
 |ptr p vs=>refine(iP p _ vs).bind λ_=>?_;cases n with|none=>exact(lH p).bind λt=>(m7 p t).bind λt'=>yC np t'|some n=>exact(GQ p n).bind λl=>yC np (.agg l)
 |d t y=>cases t with|row o t=>cases o<;>exact .fail|nilr o=>cases o<;>exact .fail|_=>exact .fail
 |_=>exact .fail
theorem PX(np:Nat):∀l:Q_,Sim (Y:=Y) (X.resL fU np l) (resL np l) λx=>(erL x.1,x.2):=by intro l;induction l with|nil=>exact .ret rfl|cons q l ih=>exact(PZ np q).bind λx=>ih.bind λy=>.ret (by simp[rI])
theorem Oj(l:List (XV den)):onesOf (erL l)=X.onesOf l:=by induction l with|nil=>rfl|cons t l ih=>simp[erL,onesOf,X.onesOf,ih]
theorem LF:∀l:Q_,Sim (Y:=Y) (X.flatsR fU l) (flatsR l) erL:=by
 intro l;induction l with
 |nil=>exact .ret rfl|cons q l ih=>cases q with
  |cell t n=>exact .fail|tmp t=>
  refine Sim.rdT λtv=>Sim.ite (λhc=>?_) λ_=>.fail;have h1:Fg (er tv)=true:=by have:=K8 (l:=[tv]) (by simp_all);simpa[erL]using this
  rw[oIP h1];exact ih.bind λl=>.ret rfl
theorem PY(np:Nat)(l:Q_):Sim (Y:=Y) (X.resF fU np l) (resF np l) λx=>(erL x.1,x.2):=by
 have base:=PX (Y:=Y) np l;cases l with
 |nil=>exact base|cons q r=>cases q with
  |cell t n=>exact base|tmp t=>
  refine Sim.rdT λtv=>?_;cases tv with
  |ptr p vs=>exact(iP p _ vs).bind λ_=>(LF r).bind λl=>.ret (by simp[Oj];rfl)|d ty y=>cases ty with|row o ty=>cases o<;>exact base|nilr o=>cases o<;>exact base|_=>exact base
  |_=>exact base
theorem OK(t:XV den):(∃p vs,t=.ptr p vs)\/(X.isPtrX t=false/\∀p vs,er t≠.ptr p vs):=by
 cases t with
 |ptr p vs=>exact .inl ⟨p,vs,rfl⟩|d t y=>cases t with|row o t=>cases o<;>exact .inr ⟨rfl,by simp[er,er1]⟩|nilr o=>cases o<;>exact .inr ⟨rfl,by simp[er,er1]⟩|_=>exact .inr ⟨rfl,by simp[er,er1]⟩
 |gap t x i o=>exact .inr ⟨rfl,λp vs h=>by cases h⟩|half t x m=>exact .inr ⟨rfl,λp vs h=>by cases h⟩|_=>exact .inr ⟨rfl,by simp[er]⟩
theorem QS{t:XV den}(h:X.isShX t=true):∃c,er t=.sl c:=by
 cases t with
 |d t y=>cases t with
  |row o t=>cases o with|false=>exact⟨_,rfl⟩|true=>cases h
  |nilr o=>cases o with|false=>exact⟨_,rfl⟩|true=>cases h
  |_=>cases h
 |_=>cases h
theorem LX{pp:N_}:∀{l:List (XV den)}{i:Nat},X.ptrsInX pp i l=true->qQ pp i (erL l)=true:=by intro l;induction l with|nil=>intro i _;rfl|cons t l ih=>intro i h;simp only[X.ptrsInX,oBA]at h;have ⟨⟨h0,hs⟩,hr⟩:=h;rcases OK t with⟨p,vs,rfl⟩|⟨h1,h2⟩;show(pp.contains i&&qQ pp (i+1) (erL l))=true;rw[ih hr,Bool.and_true];simpa[X.isPtrX]using h0;show qQ pp i (er t::erL l)=true;rw[h1,Bool.false_or]at hs;cases hsh:X.isShX t with|true=>have ⟨c,hc⟩:=QS hsh;rw[hc];exact ih hr|false=>rw[hsh,Bool.false_or]at hs;cases he:er t with|ptr p vs=>simp_all|sl c=>exact ih hr|_=>show(!pp.contains (1000+i)&&qQ pp (i+1) (erL l))=true;rw[hs,ih hr];rfl
theorem Js(l:List (XV den)):∀i,(jf i l).map (λx=>(x.1,er x.2))=jf i (erL l):=by induction l with|nil=>intro i;rfl|cons t l ih=>intro i;simp[jf,erL,ih]
theorem S9(kq:p_)(vals:List (XV den))(pts:List (Nat×List (XV den))):erS (X.mkSt kq vals pts)=CE kq (erL vals) (erC pts):=by unfold X.mkSt CE erS;simp only[Js]
theorem Qo(σ:XS den)(pts:List (Nat×List (XV den))):erC (X.ptsOf σ pts)=(erC pts).map λx=>(x.1,(gD (erS σ).ce x.1).getD []):=by induction pts with|nil=>rfl|cons x pts ih=>show(x.1,erL ((gD σ.ce x.1).getD []))::erC (X.ptsOf σ pts)=(x.1,(gD (erS σ).ce x.1).getD [])::_;rw[ih,zH];cases gD σ.ce x.1<;>rfl
theorem O7(a b:List (Nat×List (XV den))):erC (a++b)=erC a++erC b:=by unfold erC;rw[List.map_append]
theorem Uv(pp:N_):erC (X.kpX (D:=den) pp)=kpE pp:=by unfold erC X.kpX kpE;rw[oPM];rfl
theorem Uw(kq:p_)(σ:XS den):erC (X.kcX kq σ)=kcE kq (erS σ):=by unfold erC X.kcX kcE;rw[oPM];refine List.map_congr_left λq _=>?_;show(q.1,erL (List.replicate (q.2+1) XV.dead))=_;rw[kV,List.map_replicate];rfl
theorem SS{F:iz}{C:X.Cfg}(YW:∀c∈C.TB,yv F c)(u:HL den []){N:Nat}(hN:NN<=N){tf:TFn}{outs:List XO}{vals:List (XV den)}{pts:List (Nat×List (XV den))}{o:Eh (outs.map lvO)}(h:X.runT fU C u tf outs vals pts=some o):∃x,oP (outs.map lvO) o (λi ho=>pE outs i ho)=some x/\runT C.E F N tf (erL vals) (erC pts)=some (⟨erL x.1,x.2.1⟩,erC x.2.2):=by
 unfold X.runT at h;split at h;case isFalse=>cases h
 rename_i hc;obtain⟨e,σ1,r1,h1⟩:=PW YW u hN tf.body 0 _ _ o h;have key:X.resF fU tf.np tf.res σ1 (λy σ'=>X.onOut fU (X.injO fU y.1 y.2 (X.ptsOf σ' pts++(X.kpX tf.pp++X.kcX (JA tf.pp) σ')) u outs) λx=>fU.out (outs.map lvO) x.1 x.2)=some o ->∃x,oP (outs.map lvO) o (λi ho=>pE outs i ho)=some x/\(((resF tf.np tf.res).run (erS σ1)).bind λy=>some ((⟨y.1.1,y.1.2⟩:Lp),((erC pts).map λx=>(x.1,(gD y.2.ce x.1).getD []))++(kpE tf.pp++kcE (JA tf.pp) y.2)))=some (⟨erL x.1,x.2.1⟩,erC x.2.2):=by intro h2;obtain⟨y,σ2,r2,_,h3⟩:=PY tf.np tf.res σ1 _ o h2;cases hi:X.injO fU y.1 y.2 (X.ptsOf σ2 pts++(X.kpX tf.pp++X.kcX (JA tf.pp) σ2)) u outs with|none=>rw[hi]at h3;cases h3|some z=>rw[hi]at h3;obtain⟨i,ho⟩:=z;obtain⟨x,hf,e1,e2,e3⟩:=Ti hi;refine⟨x,?_,?_⟩;rw[D3 _ (show yR (outs.map lvO) i ho=some o from h3)];exact hf;rw[r2];simp only[oBS];rw[e1,e2,e3,O7,O7,Qo,Uv,Uw]
 have ZZ:(erL vals).length=tf.np/\(qQ tf.pp 0 (erL vals)&&(!tf.pp.contains 1000||(erC pts).isEmpty))=true:=by have h2:=hc.2;rw[oBA]at h2;refine⟨by rw[iI];exact hc.1,?_⟩;rw[LX h2.1,Bool.true_and];have h3:=h2.2;cases pts with|nil=>simp[erC]|cons x pts=>simpa[erC]using h3
 unfold runT;rw[oIP ZZ,<- S9,r1];simp only[oBS];cases e with|exit j=>cases h1|normal=>exact key h1|ret=>exact key h1
end
theorem Re{E:Env}{T:FuncId->y_}{B F:iz}{N:Nat}(hN:NN<=N){C:X.Cfg}(hE:C.E=E)(YW:∀c∈C.TB,yv F c){c:Ctr}{tf:TFn}(hT:T c.f=some tf) (hg:∀h,X.runT fU C () tf c.outs (lI c.ins _ h).1 (xD c.pts [] (lI c.ins _ h).2).1=c.g h):yv (Lz E T B F N) c:=by intro h o x ho hx;rw[Ly hT];rw[<- hg h]at ho;have ⟨x',h1,h2⟩:=SS YW () hN ho;simp_all
def Lvl(E:Env)(T:FuncId->y_)(B:iz)(n:Nat)(c:Ctr):Prop:=∀k,n<=k->yv (runF E T B (NN+k)) c
def Ls(E:Env)(T:FuncId->y_)(B:iz)(n:Nat):B_->Prop| []=>True|c::r=>Lvl E T B n c/\Ls E T B n r
theorem Lvl.mono{E:Env}{T:FuncId->y_}{B:iz}{n m:Nat}{c:Ctr}(h:Lvl E T B n c)(hm:n<=m):Lvl E T B m c:=λk hk=>h k (Nat.le_trans hm hk)
theorem Ls.get{E:Env}{T:FuncId->y_}{B:iz}{n:Nat}:∀{l:B_},Ls E T B n l->∀c∈l,Lvl E T B n c:=by intro l;induction l with|nil=>simp_all|cons x l ih=>intro h c hc;rcases oMC.1 hc with rfl|hc;exact h.1;exact ih h.2 c hc
theorem Ve{E:Env}{T:FuncId->y_}{B:iz}{n:Nat}{C:X.Cfg}(hE:C.E=E)(YW:Ls E T B n C.TB){c:Ctr}{tf:TFn}(hT:T c.f=some tf) (hg:∀h,X.runT fU C () tf c.outs (lI c.ins _ h).1 (xD c.pts [] (lI c.ins _ h).2).1=c.g h):Lvl E T B (n+1) c:=by intro k hk;obtain⟨k,rfl⟩:∃k',k=k'+1:=⟨k-1,by omega⟩;exact Re (F:=runF E T B (NN+k)) (Nat.le_add_right _ _) hE (λc hc=>YW.get c hc k (by omega)) hT hg
theorem MH{P:Program}{H:Nat->a_}{f:FuncId}{tf:TFn}(h:y9 P H f=some tf):∃fn,P.funcs[f]?=some fn/\tf.np<=fn.params.size+fn.nfree/\tf.nt=fn.ntmps:=by
 unfold y9 at h;split at h;case h_2=>simp at h
 split at h;case h_2=>simp at h
 split at h;rename_i tf' Y6;have ⟨_,g2,g3,_⟩:=zK Y6;simp_all;simp only at h;split at h;injection h with h
 subst h;simp_all;simp at h
theorem So{P:Program}(H:FuncId->Nat->a_)(ZK:(P.funcs.all λfn=>decide (fn.params.size+fn.nfree<=fn.ntmps) && !(fn.name== "runtime.NumGoroutine"))=true):Pt P λf=>y9 P (H f) f:=by refine PJ λf tf h=>?_;have ⟨fn,hf,e1,e2⟩:=MH h;have ⟨hlt,he⟩:=Array.getElem?_eq_some_iff.1 hf;have:=Array.all_eq_true.1 ZK f hlt;rw[he]at this;simp at this;refine⟨⟨H f,h⟩,by omega,λfn' hf'=>?_⟩;simp_all
def VU:TFn:=⟨0,[],0,.skip,[]⟩
theorem Vk{o:y_}(h:o.isSome=true):o=some (o.getD VU):=by cases o with|none=>simp at h|some x=>rfl
def VT(P:Program)(f:FuncId):List x_:=match P.funcs[f]? with
 |some fn=>fn.params.toList.map λt=>match P.underlying t with|some (.pointer e)=>Em P e|_=>none
 |none=>[]
def noB:iz:=λ_ _ _=>none
theorem noB_ok{P:Program}:nu P noB:=λf vals pts res Zs h=>by simp[noB]at h
abbrev I64:CT:=.int .i64
def w64(x:Int):Int:=IntKind.wrap .i64 x
def wk(k:IntKind)(x:Int):Int:=IntKind.wrap k x
def A6(s:ByteArray):Int:=(s.size:Int)
def RO(s:ByteArray):Bool:=decide (s.size<4294967296)
def bytes(l:N_):ByteArray:=⟨(l.map UInt8.ofNat).toArray⟩
end Go.Proofs.YtabfnmgabblofaaGreat
namespace Go.Proofs.YtabfnmgabblofaaGreat
open Go.RowKit
set_option maxRecDepth 100000
noncomputable section
abbrev KCe:CT:=(.pair (.int .u8) (.int .u16))
abbrev KCn:CT:=(.pair (.int .u8) (.pair (.int .u16) (.pair I64 I64)))
abbrev KIn:CT:=(.pair I64 (.pair I64 (.pair I64 (.pair I64 I64))))
abbrev KOp:CT:=(.pair I64 (.pair I64 .bool))
abbrev VQ:CT:=(.pair I64 (.pair .bool (.row false KCe)))
abbrev ny:CT:=(.pair I64 (.pair (.row false KCe) (.pair I64 (.pair I64 (.pair I64 (.pair I64 (.pair I64 (.int .u16))))))))
abbrev Wc:CT:=(.pair I64 (.pair I64 (.row false KCn)))
abbrev vp:CT:=(.pair I64 (.pair I64 (.pair I64 (.pair I64 (.pair I64 (.pair I64 (.pair (.int .u16) (.row false KCn))))))))
abbrev qt:CT:=(.pair I64 (.pair I64 (.pair I64 (.pair I64 (.pair I64 (.pair I64 (.pair I64 (.pair I64 (.pair I64 (.pair (.row false KCn) (.pair (.row false KCn) (.pair (.int .u8) (.pair (.int .u16) (.pair I64 (.pair I64 (.pair (.row false KCn) (.pair I64 .bool)))))))))))))))))
abbrev RF:CT:=(.pair I64 (.pair .bool (.row true KCe)))
abbrev RE:CT:=(.pair I64 (.pair (.row true KCe) (.pair I64 (.pair I64 (.pair I64 (.pair I64 (.pair I64 (.int .u16))))))))
abbrev IZ:CT:=(.pair I64 (.pair I64 (.row true KCn)))
abbrev Lr:CT:=(.pair I64 (.pair I64 (.pair I64 (.pair I64 (.pair I64 (.pair I64 (.pair (.int .u16) (.row true KCn))))))))
abbrev Pw:CT:=(.pair I64 (.pair I64 (.pair I64 (.pair I64 (.pair I64 (.pair I64 (.pair I64 (.pair I64 (.pair I64 (.pair (.row true KCn) (.pair (.row true KCn) (.pair (.int .u8) (.pair (.int .u16) (.pair I64 (.pair I64 (.pair (.row true KCn) (.pair I64 .bool)))))))))))))))))
abbrev gO:CT:=(.row false KIn)
abbrev gj:CT:=(.row false KCn)
abbrev RW:CT:=(.row false (.int .u16))
abbrev RI:CT:=(.row false I64)
abbrev g9:CT:=(.row false KCe)
abbrev i3:CT:=(.row false VQ)
abbrev iu:CT:=(.row true RF)
abbrev og:CT:=(.row false ny)
abbrev qo:CT:=(.row true RE)
abbrev jh:CT:=(.row false KOp)
abbrev kY:CT:=(.row false Wc)
abbrev TW:CT:=(.row false qt)
abbrev DCe:Type:=(Int×Int)
abbrev DCn:Type:=(Int×Int×Int×Int)
abbrev DIn:Type:=(Int×Int×Int×Int×Int)
abbrev DOp:Type:=(Int×Int×Bool)
abbrev C_:=List DCe
abbrev DLn:Type:=(Int×Bool×C_)
abbrev DTh:Type:=(Int×C_×Int×Int×Int×Int×Int×Int)
abbrev D_:=List DCn
abbrev DOu:Type:=(Int×Int×D_)
abbrev DTs:Type:=(Int×Int×Int×Int×Int×Int×Int×D_)
abbrev DEn:Type:=(Int×Int×Int×Int×Int×Int×Int×Int×Int×D_×D_×Int×Int×Int×Int×D_×Int×Bool)
def HH(f i:Nat):a_:=if f=136 then(if i=1000011 then[(11,some 27)]else if i=1000005 then[(2,some 27)]else[])else if f=183 then(if i=1000006 then[(8,some 1)]else if i=1000014 then[(8,some 1)]else[])else if f=44 then(if i=5000001 then[(4004,none)]else[])else if f=68 then(if i=4000002 then[(3,some 1002)]else if i=4000007 then[(3,some 1003)]else[])else if f=137 then(if i=1000000 then[(8,some 1)]else[])else if f=106 then(if i=1000007 then[(17,some 1)]else[])else if f=4 then(if i=1 then[(10,some 1),(11,some 1)]else[])else if f=23 then(if i=4000002 then[(5,some 2004)]else if i=4000005 then[(5,some 2004)]else if i=0 then[(8,some 801004)]else[])else if f=122 then(if i=0 then[(8,none)]else[])else if f=92 then(if i=2 then[(3,some 1)]else if i=3 then[(3,some 0)]else[])else if f=129 then(if i=0 then[(8,some 0),(8,some 1),(8,some 2),(8,some 3),(8,some 4)]else[])else if f=38 then(if i=0 then[(4,some 0),(4,some 2),(4,some 3)]else[])else if f=93 then(if i=1000006 then[(5,some 1)]else if i=0 then[(6,some 0),(6,some 1),(6,some 2),(6,some 3),(6,some 5),(6,some 6)]else[])else if f=152 then(if i=2000067 then[(2,none),(4,none),(8,none),(11,none),(12,none),(0,some 10),(0,some 18),(0,some 24)]else if i=0 then[(8,some 0)]else[])else if f=134 then(if i=1000026 then[(2,some 1),(3,some 1)]else if i=1000012 then[(7,none)]else if i=0 then[(8,some 0)]else[])else if f=96 then(if i=6000000 then[(0,none)]else if i=1000011 then[(5,none)]else if i=1000014 then[(7,none)]else[])else if f=156 then(if i=3000008 then[(9,some 0),(9,some 1)]else if i=0 then[(6,some 0),(6,some 1)]else[])else if f=172 then(if i=0 then[(4,some 0),(4,some 1),(4,some 2),(4,some 3),(4,some 4),(4,some 5),(5,some 4)]else[])else if f=157 then(if i=0 then[(0,some 14),(0,some 15),(4,some 4)]else[])else if f=158 then(if i=4000002 then[(5,some 2004)]else if i=4000005 then[(5,some 2004)]else if i=0 then[(8,some 801004)]else if i=1000007 then[(17,none)]else[])else if f=159 then(if i=1000002 then[(9,none)]else[])else if f=160 then(if i=1000004 then[(4,some 2)]else if i=3 then[(6,some 0),(6,some 1)]else[])else if f=57 then(if i=1000006 then[(3,some 7)]else if i=4000009 then[(4,some 2007)]else if i=3000003 then[(4,some 801007)]else if i=1 then[(4,some 0),(4,some 1),(4,some 2),(4,some 3),(4,some 5),(4,some 6),(4,some 8),(4,some 9),(4,some 10),(4,some 11),(4,some 12),(4,some 13),(4,some 14),(4,some 15)]else[])else if f=13 then(if i=0 then[(6,some 0)]else[])else if f=24 then(if i=1000004 then[(3,some 7)]else if i=1000002 then[(3,some 1)]else if i=1000026 then[(4,some 1)]else if i=0 then[(3,some 801004),(3,some 2),(3,some 3)]else[])else if f=16 then(if i=1000012 then[(6,some 14),(13,some 1001011)]else if i=0 then[(8,some 4)]else if i=1000006 then[(11,none)]else[])else if f=22 then(if i=0 then[(8,some 4)]else if i=1000007 then[(11,none)]else[])else[]
noncomputable def TT (f:FuncId):y_:=y9 Tryz.prog (HH f) f
noncomputable def E0:Env:={ box:=λf=>if f=8 then some (1,[.arg 0,.val (.int .i64 0)])else none,ps:=λf=>VT Tryz.prog f }
theorem tt_ok:Pt Tryz.prog TT:=So HH (by kernel_rfl)
abbrev qE:Shs:=⟨[],[],[],([],[])⟩
abbrev qS(s:List (Nat×Sh))(c:List (Nat×T_)):Shs:=⟨s,c,[],([],[])⟩
abbrev N1:CT:=.nilr true
abbrev N0:CT:=.nilr false
abbrev CW:CT:=.int .u16
abbrev CB:CT:=.int .u8
abbrev uL(l:R_):T_:=l.map fun c=>.d c ()
abbrev pP(t r:Nat):Nat×Sh:=(t,.ptr ⟨r,0,[]⟩ [0])
abbrev sP(t:Nat)(c:CT):Nat×Sh:=(t,.d c ())
abbrev Lk(n:Nat)(c:Ctr):Prop:=Lvl E0 TT noB n c
theorem aN{m:Nat}:Ls E0 TT noB m []:=trivial
theorem aC{n m:Nat}{c:Ctr}{l:B_}(h:Lk n c)(r:Ls E0 TT noB m l)(hm:n≤m:=by decide):Ls E0 TT noB m (c::l):=⟨h.mono hm,r⟩
abbrev lx(i n:Nat)(s:List (Nat×Sh))(c:List (Nat×T_))(b:Nat):IY:=⟨i,n,⟨s,c,[],([],[])⟩,[(.exit 0,⟨s++[(b,.d .bool ())],c,[],([],[])⟩)]⟩
abbrev LI:Type:=M_
abbrev j_:=List M_
abbrev LLI:Type:=j_
abbrev LDCe:Type:=C_
abbrev LDCn:Type:=D_
abbrev F_:=List DIn
abbrev LDIn:Type:=F_
abbrev H_:=List DOp
abbrev LDOp:Type:=H_
abbrev G_:=List DLn
abbrev LDLn:Type:=G_
abbrev J_:=List DTh
abbrev LDTh:Type:=J_
abbrev I_:=List DOu
abbrev LDOu:Type:=I_
abbrev K_:=List DTs
abbrev LDTs:Type:=K_
abbrev E_:=List DEn
abbrev LDEn:Type:=E_
abbrev i_:=List D_
abbrev LLCn:Type:=i_
abbrev T00:=Bool×LI×Unit
abbrev T01:=Int×Bool×Unit
abbrev T02:=Int×Int×Unit
abbrev T03:=Int×LDCn×Unit
abbrev T04:=Int×LI×Unit
abbrev T05:=LDCe×LDLn×Unit
abbrev T06:=LDOp×LDCn×Unit
abbrev T07:=LI×Int×Unit
abbrev T08:=LI×LLI×Unit
abbrev T09:=LLCn×LDOp×Unit
abbrev T0a:=LLCn×LDTs×Unit
abbrev T0b:=Unit×Unit×Unit
abbrev T0c:=Bool×T02
abbrev T0d:=Bool×T05
abbrev T0e:=Int×T01
abbrev T0f:=Int×T02
abbrev T0g:=Int×T05
abbrev T0h:=Int×T07
abbrev T0i:=Int×T0b
abbrev T0j:=LDCe×T02
abbrev T0k:=LDCe×LDLn×Nat×Unit
abbrev T0l:=LDCn×T02
abbrev T0m:=LDIn×T08
abbrev T0n:=LDTh×T02
abbrev T0o:=LI×T02
abbrev T0p:=LI×T04
abbrev T0q:=LI×LLI×LI×Unit
abbrev T0r:=Unit×T0b
abbrev T0s:=Bool×Bool×Bool×Bool×Unit
abbrev T0t:=Int×T0c
abbrev T0u:=Int×T0d
abbrev T0v:=Int×Bool×T07
abbrev T0w:=Int×T0f
abbrev T0x:=Int×T0g
abbrev T0y:=Int×T0h
abbrev T0z:=Int×Int×T09
abbrev T0A:=Int×T0p
abbrev T0B:=LDCe×T0e
abbrev T0C:=LDTh×Int×T04
abbrev T0D:=LI×T0e
abbrev T0E:=LI×T0f
abbrev T0F:=LI×T0o
abbrev T0G:=Unit×T0h
abbrev T0H:=Unit×Unit×T05
abbrev T0I:=Unit×Unit×T08
abbrev T0J:=Unit×Unit×T09
abbrev T0K:=Unit×Unit×Unit×LDOp×Unit
abbrev T0L:=Bool×T0w
abbrev T0M:=Bool×T0J
abbrev T0N:=Int×T0v
abbrev T0O:=Int×Int×Bool×T09
abbrev T0P:=Int×T0w
abbrev T0Q:=Int×Int×T0m
abbrev T0R:=Int×T0J
abbrev T0S:=LDCe×LDLn×LI×Int×LLCn×Unit
abbrev T0T:=LDIn×LI×LLI×T0a
abbrev T0U:=LDLn×T0x
abbrev T0V:=LI×T0y
abbrev T0W:=LI×Int×LDCe×LDLn×LDTh×Unit
abbrev T0X:=LLCn×T0z
abbrev T0Y:=Unit×Int×T0r
abbrev T0Z:=Unit×Unit×T0k
abbrev T10:=Unit×Unit×T0q
abbrev T11:=Unit×Unit×LLCn×T06
abbrev T12:=Bool×T0W
abbrev T13:=Bool×T0Y
abbrev T14:=Int×Bool×T0I
abbrev T15:=Int×Int×Bool×T0m
abbrev T16:=Int×T0P
abbrev T17:=Int×Int×T0y
abbrev T18:=Int×Int×T0I
abbrev T19:=Int×T0R
abbrev T1a:=Int×T0W
abbrev T1b:=LDCe×LDLn×LI×Int×LLCn×LDCn×Unit
abbrev T1c:=LDCe×LDLn×T0H
abbrev T1d:=LDIn×T0Q
abbrev T1e:=LDLn×Int×T0u
abbrev T1f:=LI×T0N
abbrev T1g:=LI×Int×LDCe×LDLn×LDTh×Bool×Unit
abbrev T1h:=LI×T0V
abbrev T1i:=LI×LI×LLI×LLCn×LDOp×LDOu×Unit
abbrev T1j:=LI×LLI×T0I
abbrev T1k:=LLCn×LDOp×T0J
abbrev T1l:=LLI×T0Q
abbrev T1m:=Unit×Unit×LLCn×Nat×T06
abbrev T1n:=Int×T14
abbrev T1o:=Int×Int×T0M
abbrev T1p:=Int×T16
abbrev T1q:=Int×Int×Int×Int×LDCn×T01
abbrev T1r:=Int×Int×Int×Int×Unit×T01
abbrev T1s:=Int×T18
abbrev T1t:=Int×Int×LI×Int×Int×LLI×LDCn×Unit
abbrev T1u:=Int×T1a
abbrev T1v:=Int×Int×T0Z
abbrev T1w:=Int×Int×T10
abbrev T1x:=Int×T1d
abbrev T1y:=Int×LI×Int×T0t
abbrev T1z:=LDIn×T15
abbrev T1A:=LI×Int×LDCe×LDLn×T0n
abbrev T1B:=LLI×T15
abbrev T1C:=LLI×T19
abbrev T1D:=LLI×Int×Int×T0K
abbrev T1E:=Int×Int×Bool×T10
abbrev T1F:=Int×T1o
abbrev T1G:=Int×Int×Int×Int×Int×Int×LDCn×LDCn×Unit
abbrev T1H:=Int×Int×Int×Int×Int×Int×LDCn×Unit×Unit
abbrev T1I:=Int×Int×Int×Int×Int×T0i
abbrev T1J:=Int×T1w
abbrev T1K:=Int×Int×T1i
abbrev T1L:=Int×Int×T1j
abbrev T1M:=Int×Int×T1k
abbrev T1N:=Int×LDCe×T16
abbrev T1O:=Int×T1z
abbrev T1P:=LDTh×T1u
abbrev T1Q:=LI×Int×Unit×Unit×Unit×T0m
abbrev T1R:=LI×Int×Unit×Unit×T0I
abbrev T1S:=LLCn×Int×Int×T0T
abbrev T1T:=Int×Int×Bool×T1i
abbrev T1U:=Int×Int×Bool×T1j
abbrev T1V:=Int×Int×Bool×T1k
abbrev T1W:=Int×Int×T1p
abbrev T1X:=Int×Int×Int×T19
abbrev T1Y:=Int×Int×Int×Int×LDCn×T0v
abbrev T1Z:=Int×T1M
abbrev T20:=Int×LI×Int×Int×Bool×T0E
abbrev T21:=Int×T1Q
abbrev T22:=LDIn×LI×LLI×LI×Int×T0H
abbrev T23:=LDLn×Int×Int×T1c
abbrev T24:=LDOu×T1K
abbrev T25:=LI×Int×Int×T1f
abbrev T26:=LI×Int×LI×Int×Int×T0E
abbrev T27:=LI×LI×Int×Int×T0S
abbrev T28:=LI×LLCn×Int×Int×LDCn×T0z
abbrev T29:=LLCn×T1M
abbrev T2a:=LLI×T1K
abbrev T2b:=LLI×T1L
abbrev T2c:=Int×Bool×T1Q
abbrev T2d:=Int×Int×Int×Int×Int×Bool×Bool×Bool×T00
abbrev T2e:=Int×Int×Int×Int×Int×Int×Int×Int×T03
abbrev T2f:=Int×Int×T1G
abbrev T2g:=Int×Int×T1N
abbrev T2h:=Int×T21
abbrev T2i:=Int×Int×T1R
abbrev T2j:=LI×Int×Int×Int×Int×Int×T0G
abbrev T2k:=LI×Int×Int×LI×T17
abbrev T2l:=LLI×T1U
abbrev T2m:=Unit×Int×Unit×Unit×Unit×T0W
abbrev T2n:=Int×Int×T22
abbrev T2o:=Int×Int×T2b
abbrev T2p:=Int×T2m
abbrev T2q:=LDCe×T2g
abbrev T2r:=LDCn×Nat×Int×Int×Int×T1m
abbrev T2s:=LI×Int×Bool×LI×T1p
abbrev T2t:=LI×Int×Int×LI×Int×Int×T0N
abbrev T2u:=LI×Int×Int×LI×Int×Int×T0V
abbrev T2v:=LLI×Int×Int×LI×Int×Int×T11
abbrev T2w:=ByteArray×LDCn×T2f
abbrev T2x:=Int×Int×Bool×T22
abbrev T2y:=Int×Int×T2d
abbrev T2z:=Int×Int×Int×Int×LDCn×Int×T13
abbrev T2A:=Int×Int×Int×Int×Nat×T1w
abbrev T2B:=LDIn×LI×LLI×LI×Int×LDCe×LDLn×LDTh×Unit×Unit×T0a
abbrev T2C:=LI×Int×Int×T25
abbrev T2D:=LLI×T2n
abbrev T2E:=Int×Int×Bool×T2d
abbrev T2F:=LDIn×LI×LLI×LI×Int×LLCn×LDTs×Unit×Int×Unit×Unit×Unit×LLCn×Unit
abbrev T2G:=LI×Int×LDCe×LDLn×LDTh×T1N
abbrev T2H:=LI×Int×LI×Int×Int×Int×Int×T1b
abbrev T2I:=Int×Int×LLI×Int×Int×LI×T1L
abbrev T2J:=Int×Int×Int×Int×Int×Int×LDCn×LDCn×T1q
abbrev T2K:=Int×Int×T2F
abbrev T2L:=Int×Int×LDIn×LI×LLI×T2m
abbrev T2M:=LDTh×Int×Int×T2B
abbrev T2N:=LI×Int×LDCe×LDLn×LDTh×T2m
abbrev T2O:=Int×Int×Bool×T2F
abbrev T2P:=Int×LLI×Int×Int×LI×T2n
abbrev T2Q:=LDIn×LI×LLI×T2G
abbrev T2R:=LI×Int×Int×Int×Int×Int×Unit×Int×Bool×T1q
abbrev T2S:=Nat×LI×Int×LDCe×LDLn×LDTh×Int×Int×Int×Int×Int×Int×LDCn×T0l
abbrev T2T:=LDIn×LI×LLI×LI×Int×LLCn×LDTs×T2m
abbrev T2U:=LDIn×LI×LLI×LI×Int×LLCn×LDTs×Unit×Int×Unit×Unit×Unit×LI×Int×LDCe×LDLn×Unit×Unit
abbrev T2V:=Int×Int×LDCn×T2K
abbrev T2W:=Int×Int×LI×Int×Int×Int×Int×Int×Int×Int×Int×Int×Int×Int×T0s
abbrev T2X:=LDIn×LI×LLI×T2J
abbrev T2Y:=LDIn×LI×LLI×LI×Int×LDCe×LDLn×LDTh×LI×LI×LLI×LLCn×LDOp×LDOu×LI×LLI×LDEn×LI×Unit
abbrev T2Z:=LDTh×Int×Int×T2N
abbrev T30:=LI×Int×Int×Int×Int×Int×Int×Int×Unit×Unit×T1G
abbrev T31:=LI×Int×Int×Int×Int×Int×Int×Int×Unit×Unit×T1H
abbrev T32:=Unit×Unit×Unit×Unit×Int×Unit×Unit×Unit×Unit×Unit×Unit×Unit×Unit×Unit×Unit×T0r
abbrev T33:=Int×Int×Int×Int×Int×Int×LDCn×LDCn×Int×Int×Int×Int×LDCn×Int×T0L
abbrev T34:=Int×Int×T2U
abbrev T35:=LDIn×LI×LLI×LI×Int×LDCe×LDLn×LDTh×LI×LI×LLI×LLCn×LDOp×LDOu×LI×LLI×LDEn×LI×LI×Unit
abbrev T36:=LDTh×Int×Int×Bool×T2N
abbrev T37:=Nat×Int×LI×Int×LDCe×LDLn×LDTh×LDIn×LI×LLI×T1W
abbrev T38:=Int×Bool×T2Y
abbrev T39:=Int×ByteArray×Int×Int×T2Q
abbrev T3a:=Int×Int×Bool×T2U
abbrev T3b:=LDTs×Int×Int×T2T
abbrev T3c:=LLCn×T34
abbrev T3d:=Int×Int×Int×T2Y
abbrev T3e:=LI×Int×Int×T31
abbrev T3f:=Int×Int×Int×T35
abbrev T3g:=LDIn×LI×LLI×T33
abbrev T3h:=LI×Int×LDCe×LDLn×T2X
abbrev T3i:=Int×LLCn×Int×Int×LDCn×T34
abbrev T3j:=Bool×Bool×LI×Int×LDCe×LDLn×LDTh×T2X
abbrev T3k:=LDCn×Int×Int×T3h
abbrev T3l:=LDIn×LI×LLI×LI×Int×LDCe×LDLn×LDTh×LI×LI×LLI×LLCn×LDOp×LDOu×LI×LLI×LDEn×LI×T1r
abbrev T3m:=LI×Int×LDCe×LDLn×LDTh×LDIn×LI×LLI×Int×Int×Int×Int×Int×Int×LDCn×LDCn×Int×Int×Int×Int×LDCn×T0t
abbrev T3n:=Nat×Bool×LI×Int×LDCe×LDLn×LDTh×T33
abbrev T3o:=Nat×T3m
abbrev T3p:=Unit×Unit×Unit×Unit×Unit×Unit×Int×Int×Int×Int×Unit×Int×Bool×LI×LI×LLI×LLCn×LDOp×LDOu×T1q
abbrev T3q:=Unit×Unit×Unit×Unit×Unit×Unit×Int×Int×Int×Int×Unit×Int×Bool×LI×LI×LLI×LLCn×LDOp×LDOu×T1r
abbrev T3r:=Int×Int×T3l
abbrev T3s:=LI×Int×LDCe×LDLn×LDTh×T3g
abbrev T3t:=LDIn×LI×LLI×LI×Int×LDCe×LDLn×LDTh×Unit×Unit×LLCn×LDTs×Int×LDCe×Int×Int×Int×Int×T2e
abbrev T3u:=Nat×LDCn×Int×Int×T3s
abbrev T3v:=LI×Int×Unit×Unit×Unit×Unit×Int×Unit×Unit×Unit×LDIn×LI×LLI×LI×Int×LDCe×LDLn×LI×LI×LLI×LLCn×LDOp×LDOu×LI×LLI×LDEn×LI×T0W
abbrev T3w:=Nat×LDCn×Int×Int×Bool×T3s
abbrev T3x:=LDIn×LI×LLI×LI×Int×LLCn×LDTs×Unit×Int×Unit×Unit×Unit×LI×Int×LDCe×LDLn×LDTh×Int×Int×Int×Int×Int×Int×Int×LDCn×T1N
abbrev T3y:=LDTh×Int×Int×LDCe×Int×Int×T3t
abbrev T3z:=LI×Int×Unit×Unit×Unit×Unit×Int×Unit×Unit×Unit×LDIn×LI×LLI×LI×Int×LDCe×LDLn×LI×LI×LLI×LLCn×LDOp×LDOu×LI×LLI×LDEn×LI×LI×Int×LDCe×LDLn×LDTh×T0a
abbrev T3A:=LI×LI×LLI×LLCn×LDOp×LDOu×Int×Int×Int×Int×Int×Int×LDCn×LDCn×Unit×Unit×Unit×Unit×Unit×Unit×Int×Int×Int×Int×Unit×Int×Bool×LI×LI×LLI×LLCn×LDOp×LDOu×LI×Unit
abbrev T3B:=Int×Bool×LDIn×LI×LLI×LI×Int×LDCe×LDLn×LDTh×LI×LI×LLI×LLCn×LDOp×LDOu×LI×LLI×LDEn×LI×Int×Int×Int×Int×Int×Int×LDCn×LDCn×T1r
abbrev T3C:=Int×Int×T3z
abbrev T3D:=Unit×Unit×Unit×Unit×Int×Unit×Unit×Unit×Unit×Unit×Unit×Unit×Unit×Unit×Unit×Unit×Unit×Unit×T2Y
abbrev T3E:=Unit×Unit×Unit×Unit×Int×Unit×Unit×Unit×Unit×Unit×Unit×Unit×Unit×Unit×Unit×Unit×Unit×Unit×LDIn×LI×LLI×LI×Int×LDCe×LDLn×LDTh×LI×LI×LLI×LLCn×LDOp×LDOu×LI×LLI×Unit×LI×Unit
abbrev T3F:=Int×Int×Bool×T3z
abbrev T3G:=Int×T3D
abbrev T3H:=Int×T3E
abbrev T3I:=LDCn×Int×Int×T3A
abbrev T3J:=LDIn×LI×LLI×Unit×Int×Unit×Unit×Unit×Int×Int×Int×Int×Int×Int×Unit×Unit×LI×Int×LDCe×LDLn×LDTh×Int×LDCe×Int×Int×Int×Int×T2f
abbrev T3K:=LDIn×LI×LLI×Unit×Int×Unit×Unit×Unit×Int×Int×Int×Int×Int×Int×Unit×Unit×LI×Int×LDCe×LDLn×LDTh×Int×LDCe×Int×Int×Int×Int×Int×Int×T1H
abbrev T3L:=Bool×T3K
abbrev T3M:=Int×T3G
abbrev T3N:=LI×T3G
abbrev T3O:=Int×Int×Int×T3C
abbrev T3P:=Int×Int×T3J
abbrev T3Q:=Int×Int×T3K
abbrev T3R:=Int×T3N
abbrev T3S:=LDIn×LI×LLI×Int×Int×Int×Int×Int×Int×LDCn×LDCn×Int×Int×Int×Int×LDCn×Int×Bool×LI×Int×LDCe×LDLn×LDTh×Int×LDCe×Int×Int×Int×Int×T2g
abbrev T3T:=LDTs×Int×Int×LDCn×Int×Int×T3x
abbrev T3U:=Int×Int×Bool×T3J
abbrev T3V:=Int×T3S
abbrev T3W:=LI×Int×Unit×Unit×Unit×Unit×Int×Unit×Unit×Unit×Int×Int×Int×Int×Int×Int×Unit×Unit×Int×Int×Int×Int×Unit×Int×Bool×LDIn×LI×LLI×LI×Int×LDCe×LDLn×LDTh×T1G
abbrev T3X:=Int×T3W
abbrev T3Y:=LI×Int×Unit×Unit×Unit×Unit×Int×Unit×Unit×Unit×Int×Int×Int×Int×Int×Int×Unit×Unit×Int×Int×Int×Int×Unit×Int×Bool×LDIn×LI×LLI×LI×Int×LDCe×LDLn×LDTh×T2J
abbrev T3Z:=Int×Int×T3Y
abbrev T40:=Int×Bool×LI×Int×Unit×Unit×Unit×Unit×Int×Unit×Unit×Unit×Unit×Unit×Unit×Unit×Unit×Unit×Unit×Unit×Unit×Unit×LDIn×LI×LLI×LI×Int×LDCe×LDLn×LDTh×LI×LI×LLI×LLCn×LDOp×LDOu×LI×LLI×LDEn×LI×T2Y
abbrev T41:=Int×Bool×LI×Int×Unit×Unit×Unit×Unit×Int×Unit×Unit×Unit×Unit×Unit×Unit×Unit×Unit×Unit×Unit×Unit×Unit×Unit×LDIn×LI×LLI×LI×Int×LDCe×LDLn×LDTh×LI×LI×LLI×LLCn×LDOp×LDOu×LI×LLI×LDEn×LI×T32
noncomputable abbrev ap1{A0 D R:Type}(f:A0→R)(h:A0×D):R:=f h.1
noncomputable abbrev ap2{A0 A1 D R:Type}(f:A0→A1→R)(h:A0×A1×D):R:=f h.1 h.2.1
noncomputable abbrev ap3{A0 A1 A2 D R:Type}(f:A0→A1→A2→R)(h:A0×A1×A2×D):R:=f h.1 h.2.1 h.2.2.1
noncomputable abbrev ap4{A0 A1 A2 A3 D R:Type}(f:A0→A1→A2→A3→R)(h:A0×A1×A2×A3×D):R:=f h.1 h.2.1 h.2.2.1 h.2.2.2.1
noncomputable abbrev ap5{A0 A1 A2 A3 A4 D R:Type}(f:A0→A1→A2→A3→A4→R)(h:A0×A1×A2×A3×A4×D):R:=f h.1 h.2.1 h.2.2.1 h.2.2.2.1 h.2.2.2.2.1
noncomputable abbrev ap6{A0 A1 A2 A3 A4 A5 D R:Type}(f:A0→A1→A2→A3→A4→A5→R)(h:A0×A1×A2×A3×A4×A5×D):R:=f h.1 h.2.1 h.2.2.1 h.2.2.2.1 h.2.2.2.2.1 h.2.2.2.2.2.1
noncomputable abbrev as1{A X H R:Type}(g:X->H->R)(f:A->X)(h:A×H):R:=g (f h.1) h.2
noncomputable abbrev as2{A B X H R:Type}(g:X->H->R):(A->B->X)->A×B×H->R:=as1 (as1 g)
noncomputable abbrev as4{A B C D X H R:Type}(g:X->H->R):(A->B->C->D->X)->A×B×C×D×H->R:=as2 (as2 g)
noncomputable abbrev as8{A B C D E F G I X H R:Type}(g:X->H->R):(A->B->C->D->E->F->G->I->X)->A×B×C×D×E×F×G×I×H->R:=as4 (as4 g)
theorem ls{n:Nat}(C:X.Cfg)(hT:Ls E0 TT noB n C.TB){c:Ctr}(hE:C.E=E0:=by rfl)(h1:(TT c.f).isSome=true:=by kernel_rfl)(hg:∀h,X.runT fU C () ((TT c.f).getD VU) c.outs (lI c.ins _ h).1 (xD c.pts [] (lI c.ins _ h).2).1=c.g h:=by intro h;kernel_rfl):Lk (n+1) c:=Ve (n:=n) (C:=C) hE hT (Vk h1) hg
abbrev Uaa(t:Nat):Nat×Sh:=sP t I64
abbrev Xaa(t:Nat):Nat×Sh:=sP t .bool
abbrev Zaa(t r:Nat):Nat×Sh:=(t,.pk ⟨r,0,[]⟩ [0,0])
abbrev uaa(t:CT):CT:=.row true t
abbrev yaa(t:CT):CT:=.row false t
abbrev zaa(t:Nat):Nat×Sh:=pP t (2*t+2)
abbrev uab:T_:=uL [gO,RI,(yaa RW)]
abbrev yab:T_:=uL [RI,I64]
abbrev zab:T_:=uL [.bool]
abbrev Uab:T_:=uL [RI,CW]
abbrev Xab:T_:=uL [CB,CW]
abbrev Zab:T_:=uL [N1,CW,N1,N1,N1]
abbrev uac:T_:=uL [N1,N1]
abbrev yac:T_:=uL [I64,I64,I64,I64,I64,I64,gj,gj]
abbrev zac:T_:=uL [I64]
abbrev Uac:T_:=uL [RI,CW,g9,i3,og]
abbrev Xac:T_:=uL [RI,CW,(uaa KCe),iu,qo]
abbrev Zac:T_:=uL [I64,I64]
abbrev uad:T_:=uL [I64,g9,I64,I64,I64,I64,I64,CW]
abbrev yad:T_:=uL [CB,CW,I64,I64,gj,I64,.bool]
abbrev zad:T_:=uL [N1,N1,N1]
abbrev Uad:T_:=uL [(uaa KCe),iu]
abbrev Xad:T_:=uL [CB,CW,I64,I64,N1,I64,.bool]
abbrev Zad:T_:=uL [gO,RI,(yaa RW),RI,CW,(uaa KCe),iu,(uaa ny),RW,RW,(yaa RW),(yaa gj),jh,kY,RI,(yaa RI),(uaa qt),(uaa I64)]
abbrev uae:T_:=uL [(yaa gj),jh]
abbrev yae:T_:=uL [I64,I64,I64,I64,I64,I64,N1,N1]
abbrev zae:T_:=uL [I64,I64,I64,I64,I64]
abbrev Uae:T_:=uL [N1,N1,N1,N1,CW,N1,N1,N1,N1,N1,N1,N1,N1,N1,N1,N1,N1,N1]
abbrev Xae:T_:=uL [(yaa gj),(yaa vp)]
abbrev Zae:T_:=uL [(uaa I64)]
abbrev uaf:T_:=uL [(uaa I64),(uaa (uaa I64))]
abbrev yaf:T_:=uL [g9,i3]
abbrev zaf:T_:=uL [(uaa (uaa KCn)),(uaa KOp)]
abbrev Uaf:T_:=uL [RI,(yaa RI)]
abbrev Xaf:T_:=uL [RI,CW,g9,i3,(uaa ny)]
abbrev Zaf:T_:=uL [I64,(uaa KCe),I64,I64,I64,I64,I64,CW]
abbrev uag:T_:=uL [(uaa (uaa KCn)),(uaa Lr)]
abbrev yag:T_:=uL [CB,CW,I64,I64]
abbrev zag:T_:=uL [I64,I64,I64,I64,I64,I64,(uaa KCn),(uaa KCn)]
abbrev Uag:T_:=uL [.bool,.bool,.bool,.bool]
abbrev Xag:T_:=uL [(uaa KCn)]
abbrev Zag:T_:=uL [RW,RW,(yaa RW),(yaa gj),jh,kY]
abbrev uah:T_:=uL [RI,CW,(uaa KCe),iu,(uaa ny)]
abbrev yah:T_:=uL [CB,CW,I64,I64,(uaa KCn),I64,.bool]
abbrev zah:T_:=uL [N1,N1,N1,N1,N1,N1]
abbrev Uah:T_:=uL [(uaa I64),CW,(uaa KCe),iu,qo]
abbrev Xah:T_:=uL [gO,RI,(yaa RW),RI,CW,g9,i3,og,RW,RW,(yaa RW),(yaa gj),jh,kY,RI,(yaa RI),TW,RI]
abbrev Zah:T_:=uL [(uaa gj)]
abbrev uai:T_:=uL [(uaa I64),CW,(uaa KCe),iu]
abbrev yai:T_:=uL [RI]
abbrev zai:T_:=uL [CB,CW,I64]
abbrev Uai:T_:=uL [I64,I64,I64,I64,I64,I64,(uaa KCn),N1]
abbrev Xai:T_:=uL [gO,RI,(yaa RW),RI,CW,g9,i3,(uaa ny),RW,RW,(yaa RW),(yaa gj),jh,kY,RI,(yaa RI),(uaa qt),(uaa I64)]
abbrev Zai:T_:=uL [(uaa KIn),RI,(uaa (uaa CW))]
abbrev uaj:T_:=uL [gO,RI,(uaa (uaa CW))]
abbrev yaj:T_:=uL [I64,I64,.bool]
abbrev zaj:T_:=uL [(uaa (uaa CW))]
abbrev Uaj:T_:=uL [(uaa (uaa KCn))]
abbrev Xaj:T_:=uL [RI,CW,(uaa KCe),iu,N1]
abbrev Zaj:T_:=uL [(uaa I64),CW]
abbrev uak:T_:=uL [(uaa IZ)]
abbrev yak:T_:=uL [(uaa CW),(uaa CW),(uaa (uaa CW)),(uaa (uaa KCn)),(uaa KOp),(uaa IZ)]
abbrev zak:T_:=uL [I64,I64,I64]
abbrev Uak:T_:=uL [I64,I64,I64,I64,I64,I64,CW,gj]
abbrev Xak:T_:=uL [(uaa (uaa KCn)),(uaa KOp),I64]
abbrev Zak:T_:=uL [RI,CW,g9,i3,qo]
abbrev ual:T_:=uL [gO,RI,(yaa RW),RI,CW,g9,i3,og,RW,RW,(yaa RW),(yaa gj),jh,kY,RI,(yaa RI),(uaa qt),(uaa I64)]
abbrev yal:T_:=uL [RI,CW,(uaa KCe),iu,qo,.bool]
abbrev zal:T_:=uL [(uaa (uaa KCn)),(uaa KOp),.bool]
abbrev Ual:T_:=uL [RI,CW,(uaa KCe),iu,(uaa ny),.bool]
abbrev Xal:T_:=uL [gO,RI,(yaa RW),RI,CW,(uaa KCe),iu,(uaa ny),RW,RW,(yaa RW),(yaa gj),jh,kY,RI,(yaa RI),(uaa qt)]
abbrev Zal:T_:=uL [I64,I64,I64,I64,I64,I64,CW,(uaa KCn)]
abbrev uam:T_:=uL [(uaa I64),CW,(uaa KCe),iu,og]
abbrev QA:=List (Nat×Sh)
abbrev QB:=List (Nat×T_)
abbrev QC:=T_
abbrev zl(l:N_):QA:=l.map zaa
abbrev il(l:N_):QA:=l.map Uaa
abbrev yam:QC:=[shU gO,shU RI,shU (yaa RW),shU RI,shU CW,shU g9,shU i3,.dead,shU RW,shU RW,shU (yaa RW),shU (yaa gj),shU jh,shU kY,shU RI,shU (yaa RI),shU (uaa qt),shU (uaa I64)]
abbrev zam:QC:=[.gap (uaa KCn) () () 0,shU (uaa KOp)]
abbrev Uam:QB:=[(4,uab)]
abbrev Xam:QB:=[(6,Uab)]
abbrev Zam:QB:=[(2,yab),(6,zad),(8,Zab),(10,yam),(12,Xaf),(14,uag)]
abbrev uan:QB:=[(4,yaf)]
abbrev yan:QB:=[(4,Xac)]
abbrev zan:QB:=[(14,uac),(18,zaf)]
abbrev Uan:QB:=[(12,Uab),(18,Xab),(20,Xab),(22,Xab)]
abbrev Xan:QB:=[(8,Uaf),(14,uac),(18,uaf)]
abbrev Zan:QB:=[(10,Zac)]
abbrev uao:QB:=[(2,yab),(6,zad),(8,Zai)]
abbrev yao:QB:=[(6,uab),(8,Uab),(10,uac),(14,Uad)]
abbrev zao:QB:=[(8,uab),(10,Uab),(12,Xae),(14,Zab),(77,Zah)]
abbrev Uao:QB:=[(8,uab),(10,Uab),(12,Xae),(14,Zab),(26,Xaj)]
abbrev Xao:QB:=[(2,yab),(6,zad),(8,Zab),(10,yae),(12,Xad),(14,uab),(16,Xaf),(18,zag),(22,yah)]
abbrev Zao:QB:=[(2,yab),(14,zae),(16,zae),(18,Uag)]
abbrev uap:QB:=[(2,yab),(6,zad),(8,uaj)]
abbrev yap:QB:=[(4,zae),(8,Uag),(49,Zae)]
abbrev zap:QB:=[(8,Uab),(14,Zac)]
abbrev Uap:QB:=[(10,uab),(18,Zab),(20,yae),(24,uah),(30,uad),(32,Uai)]
abbrev Xap:QB:=[(10,uab),(18,Zab),(20,yae),(24,uah),(30,uad),(32,zag)]
abbrev Zap:QB:=[(2,Zad),(10,Xad)]
abbrev uaq:QB:=[(4,Xac),(10,uab),(14,yac),(16,yad),(22,Xab),(26,Zac)]
abbrev yaq:QB:=[(10,uac),(14,uaf),(21,Zae)]
abbrev zaq:QB:=[(6,uab),(8,Xae)]
abbrev Uaq:QB:=[(6,uac),(10,zaf),(19,Xag)]
abbrev Xaq:QB:=[(8,uab),(10,Uac),(16,uad)]
abbrev Zaq:QB:=[(14,uac),(20,zam),(27,Xag)]
abbrev uar:QB:=[(2,Zad),(8,yac),(10,Xad)]
abbrev yar:QB:=[(4,Xac),(10,uab),(14,yac),(16,yad),(22,Xab)]
abbrev zar:QB:=[(10,uac),(14,Uaf),(27,Zae)]
abbrev Uar:QB:=[(2,yab),(6,Uae),(10,Xai),(16,Uae)]
abbrev Xar:QB:=[(2,yab),(6,Uae),(10,Xah),(16,Uae)]
abbrev Zar:QB:=[(2,yab),(6,Uae),(10,Xah),(16,Zad)]
abbrev uas:QB:=[(2,yab),(6,Uae),(10,Xai)]
abbrev yas:QB:=[(8,yaf),(10,Uab),(17,Uaj),(23,Xag)]
abbrev zas:QB:=[(6,uab),(8,Uac),(10,uac),(12,uag),(16,uad),(18,Zal)]
abbrev Uas:QB:=[(8,uab),(10,Uab),(12,Xae),(14,Zab),(26,Xac),(38,Uak),(40,Zaf)]
abbrev Xas:QB:=[(8,uab),(10,Uab),(12,Xae),(14,Zab),(26,Xac)]
abbrev Zas:QB:=[(2,yab),(6,yae),(8,Uai)]
abbrev uat:QB:=[(2,yab),(6,yae),(8,zag)]
abbrev yat:QB:=[(4,uai),(10,uab),(14,yac),(16,yad)]
abbrev zat:QB:=[(10,uab),(14,yac),(16,yad),(18,uam),(22,uad),(24,uad)]
abbrev Uat:QA:=[Xaa 2]
abbrev Xat:QA:=[Xaa 4]
abbrev Zat:QA:=[Uaa 2]
abbrev uau:QA:=zl [0,2,4]++[Uaa 6,zaa 7,Xaa 37]
abbrev yau:QA:=zl [0,2,3]
abbrev zau:QA:=zl [4,5,7,11]
abbrev Uau:QA:=[zaa 1,Xaa 8]
abbrev Xau:QA:=[zaa 6,Xaa 7]
abbrev Zau:QA:=zaa 0::il [1,2]++zl [6,7,8]
abbrev uav:QA:=[zaa 4,Uaa 5]
abbrev yav:QA:=[zaa 6,Uaa 7]
abbrev zav:QA:=zl [0,2,4]++[Uaa 6]
abbrev Uav:QA:=zl [0,2,3]++[Uaa 6]
abbrev Xav:QA:=zl [0,2,3]++il [101,102]
abbrev Zav:QA:=sP 0 RI::sP 5 RI::il [6,7]
abbrev uaw:QA:=sP 0 RI::sP 5 RI::il [6,7]++[Xaa 8]
abbrev yaw:QA:=Zaa 3 9::sP 6 og::il [7,8]
abbrev zaw:QA:=sP 1 RI::Uaa 2::zl [5,8,9,10]++[Xaa 109]
abbrev Uaw:QA:=zl [4,8,9,11,14,15]++il [109,110]++[Xaa 111]
abbrev Xaw:QA:=sP 2 gj::zl [6,9]++(10,.ptr ⟨20,1,[((),(3,0))]⟩ [0,0])::Uaa 11::Zaa 12 27::il [57,58]
abbrev Zaw:QA:=il [1,2]++zl [6,8]++il [9,62,63]
abbrev uax:QA:=zl [1,4,6,7]++(9,.ptr ⟨4,4,[((),(8,0))]⟩ [0,0])::zl [10,12]++sP 80 gj::il [81,82]++[Xaa 83]
abbrev yax:QA:=Uaa 1::zl [4,6]++Uaa 7::Zaa 9 21::(20,.pk ⟨14,1,[]⟩ [0,0])::il [21,22]++(27,.pk ⟨14,1,[((),(1,0))]⟩ [0,0,0])::il [28,29]
abbrev zax:QA:=zaa 0::Uaa 1::(36,.pk ⟨2,17,[]⟩ [0,0])::il [37,38]
abbrev Uax:QA:=zaa 4::il [7,8]++[zaa 9]
abbrev Xax:QA:=zl [0,2,3,4,5,6]++il [27,28]
abbrev Zax:QA:=zl [0,2,3,4,5,6]++il [8,48,49,58,59]
abbrev uay:QA:=zl [0,2,3,4,5,6]++il [48,49]
abbrev yay:QA:=zl [0,2,3,4,5]
abbrev zay:QA:=zl [0,2,3]++sP 39 (yaa CB)::il [40,41]
abbrev Uay:QA:=zl [0,2,3,4,5,6,7,8,10]++(42,.pk ⟨18,6,[]⟩ [0,0])::il [43,44]
abbrev Xay:QA:=zaa 1::Uaa 5::sP 49 gO::il [50,51]
abbrev h_:=Option (Int×Unit)
def mg(a0 a1:Int):h_:=bif(a1 != 0)then let x0:Int:=(Int.tmod a0 a1);
(bif(decide (x0<0))then(let x1:Int:=(w64 (x0+a1));some (x1,()))else some (x0,()):h_).bind λ(x1,_)=>some (x1,())else none
def JW:X.Cfg:=⟨E0,[],[],[⟨2,0,qE,[(.normal,qS [Uaa 5] [])]⟩]⟩
def wK:Ctr:=⟨31,0,Zac,[],[⟨zac,[.one],[]⟩],ap2 mg⟩
theorem Bz:Lk 1 wK:=ls JW aN
def El(a0 a1:Int):h_:=
(mg a0 a1).bind λ(x0,_)=>some (x0,())
def Q1:X.Cfg:=⟨E0,[wK],[],[]⟩
def Lj:Ctr:=⟨12,1,Zac,[],[⟨zac,[.one],[]⟩],ap2 El⟩
theorem QQ:Lk 2 Lj:=ls Q1 (aC Bz aN)
def fS(a0:Int)(a1:LI)(a2:Int):Option (T0h):=let x0:=fY a1.length;bif(decide (a2>=x0))then(some (0,a1,a2,()))else let x1:=w64 (a2+1);let x2:=w64 (x1-1);
(gg x2).bind λx3=>
(fR a1 x3).bind λx4=>
(El x4 a0).bind λ(x5,_)=>some (x5,a1,x1,())
def JZ:X.Cfg:=⟨E0,[Lj],[],[]⟩
def g7:Ctr:=⟨28,2,[.ptr ⟨2,0,[]⟩ [0],shU I64],[(2,yab)],[⟨zac,[.one],[(2,yab)]⟩],ap3 fS⟩
theorem ib:Lk 3 g7:=ls JZ (aC QQ aN)
abbrev v_:=List (Int)
def tV:T0A->Option (T0A⊕(Int×Bool×T0p)):=λ(v0,v1,v2,v3,_)=>bif(decide (v0>0))then(let x0:v_:=[6,12,32];
(fS 3 v1 v2).bind λ(x1,x2,x3,_)=>
(gg x1).bind λx4=>
(fR x0 x4).bind λ_=>
(fR x0 x4).bind λx6=>
(fS x6 x2 x3).bind λ(x7,x8,x9,_)=>let ac:=w64 (1+x7);bif(gh 8 v3.length (List.length [ac]))then let ae:v_:=(List.append v3 [ac]);let af:=w64 (v0-1);some (.inl (af,x8,x9,ae,()))else none)else some (.inr (v0,false,v1,v2,v3,()))
def qL(a0:LI)(a1:Int):Option (LI×T07):=
(fS 9 a0 a1).bind λ(x0,x1,x2,_)=>let x3:=w64 (4+x0);
(fS 4 x1 x2).bind λ(x4,x5,x6,_)=>
(f9 tV NN (x4,x5,x6,[x3],())).bind λ(_,_,x9,ac,ae,_)=>some (ae,x9,ac,())
def Iv:X.Cfg:=⟨E0,[g7],[],[(lx 4 0 [zaa 0,Zaa 3 9,Uaa 4] [(2,yab),(9,Zae)] 12)]⟩
def Af:Ctr:=⟨120,3,[.ptr ⟨2,0,[]⟩ [0]],[(2,yab)],[⟨Zae,[.one],[(2,yab)]⟩],ap2 qL⟩
theorem HK:Lk 4 Af:=ls Iv (aC ib aN)
def kS(a0:LI)(a1:Int):Option (T0h):=
(fS 5 a0 a1).bind λ(x0,x1)=>
(bif(x0==0)then(some (x0,true,x1))else bif(x0==1)then(some (x0,true,x1))else some (x0,(x0==2),x1):Option (T0v)).bind λ(x3,x4,x5,x6,_)=>bif x4 then((fS 8 x5 x6).bind λ(x7,x8,x9,_)=>let ac:=wk .u16 x7;some (ac,x8,x9,()))else bif(x3==3)then((fS 3 x5 x6).bind λ(x7,x8,x9,_)=>let ac:=w64 (65535-x7);let ae:=wk .u16 ac;some (ae,x8,x9,()))else
(fS 65536 x5 x6).bind λ(x7,x8,x9,_)=>let ac:=wk .u16 x7;some (ac,x8,x9,())
def JY:X.Cfg:=⟨E0,[g7],[],[⟨3,0,qE,[(.normal,qS [zaa 0,Uaa 4,Xaa 5] [(2,yab)])]⟩]⟩
def qm:Ctr:=⟨100,4,[.ptr ⟨2,0,[]⟩ [0]],[(2,yab)],[⟨uL [CW],[.one],[(2,yab)]⟩],ap2 kS⟩
theorem sA:Lk 4 qm:=ls JY (aC ib aN)
def tU:T0A->Option (T0A⊕(Int×Bool×T0p)):=λ(v0,v1,v2,v3,_)=>bif(decide (v0>0))then((kS v1 v2).bind λ(x0,x1,x2,_)=>bif(gh 2 v3.length (List.length [x0]))then let x3:v_:=(List.append v3 [x0]);let x4:=w64 (v0-1);some (.inl (x4,x1,x2,x3,()))else none)else some (.inr (v0,false,v1,v2,v3,()))
def iR(a0:Int)(a1:LI)(a2:Int):Option (LI×T07):=let x0:=w64 (a0+1);
(fS x0 a1 a2).bind λ(x1,x2,x3,_)=>
(f9 tU NN (x1,x2,x3,[],())).bind λ(_,_,x6,x7,x8,_)=>some (x8,x6,x7,())
def Iu:X.Cfg:=⟨E0,[g7,qm],[],[(lx 4 0 [zaa 0,Zaa 5 13,Uaa 6] [(2,yab),(13,uL [(uaa CW)])] 12)]⟩
def uQ:Ctr:=⟨121,5,[.ptr ⟨2,0,[]⟩ [0],shU I64],[(2,yab)],[⟨uL [(uaa CW)],[.one],[(2,yab)]⟩],ap3 iR⟩
theorem zD:Lk 5 uQ:=ls Iu (aC ib (aC sA aN))
def kR(a0 a1:Int):Option (T0P):=some (1,a0,0,0,a1,())
def Tm:X.Cfg:=⟨E0,[],[],[]⟩
def Kk:Ctr:=⟨123,6,Zac,[],[⟨zae,[.agg 5],[]⟩],ap2 kR⟩
theorem OG:Lk 1 Kk:=ls Tm aN
def jN(a0:Int):Option (T0P):=some (23,0,0,0,a0,())
def QZ:X.Cfg:=⟨E0,[],[],[]⟩
def Gw:Ctr:=⟨124,7,zac,[],[⟨zae,[.agg 5],[]⟩],ap1 jN⟩
theorem KX:Lk 1 Gw:=ls QZ aN
def o9(a0 a1:Int):Option (T0P):=some (2,a0,a1,0,0,())
def Q0:X.Cfg:=⟨E0,[],[],[]⟩
def Li:Ctr:=⟨144,8,Zac,[],[⟨zae,[.agg 5],[]⟩],ap2 o9⟩
theorem QP:Lk 1 Li:=ls Q0 aN
def kP(a0:Int):Option (T0s):=
(bif(a0==1)then(some (a0,true,false,false,false,false,()))else bif(a0==15)then(some (a0,true,false,false,false,false,()))else bif(a0==19)then(some (a0,true,false,false,false,false,()))else bif(a0==20)then(some (a0,true,false,false,false,false,()))else some (a0,(a0==21),false,false,false,false,()):Option (Int×Bool×T0s)).bind λ(x0,x1,_)=>bif x1 then(some (true,false,false,true,()))else bif(x0==2)then(some (true,true,false,false,()))else bif(x0==16)then(some (true,true,false,true,()))else bif(x0==17)then(some (true,true,false,true,()))else bif(x0==18)then(some (false,false,false,true,()))else bif(x0==23)then(some (false,false,false,true,()))else bif(x0==22)then(some (true,false,false,false,()))else bif(x0==0)then(some (false,false,false,false,()))else bif(x0==24)then(some (false,false,false,false,()))else some (true,true,true,false,())
def Ij:X.Cfg:=⟨E0,[],[],[⟨3,0,qE,[(.normal,qS [zaa 2,Uaa 3,Xaa 4] [(6,Uag)])]⟩]⟩
def uG:Ctr:=⟨108,9,zac,[],[⟨Uag,[.agg 4],[]⟩],ap1 kP⟩
theorem zA:Lk 1 uG:=ls Ij aN
abbrev f_:=Option (Bool×Unit)
def iQ(a0:Int):f_:=bif(a0==18)then(some (true,()))else bif(a0==19)then(some (true,()))else bif(a0==20)then(some (true,()))else some ((a0==21),())
def Ik:X.Cfg:=⟨E0,[],[],[]⟩
def mt:Ctr:=⟨77,10,zac,[],[⟨zab,[.one],[]⟩],ap1 iQ⟩
theorem oz:Lk 1 mt:=ls Ik aN
def qM(a0 a1:Int)(a2:LI)(a3:Int):Option (Int×T17):=
(fS 25 a2 a3).bind λ(x0,x1,x2,_)=>
(kP x0).bind λ(x3,x4)=>
(bif x3 then((fS 8 x1 x2).bind λ(x7,x8,x9,_)=>some (a0,a1,x8,x9,0,0,0,0,0,x0,x7,0,0,0,x3,x4))else some (a0,a1,x1,x2,0,0,0,0,0,x0,0,0,0,0,x3,x4):Option (T2W)).bind λ(x7,x8,x9,ac,ae,af,ag,ah,ai,aj,ak,am,an,ap,aq,av,ax)=>
(bif av then((fS 8 x9 ac).bind λ(az,aA,aB,_)=>some (x7,x8,aA,aB,ae,af,ag,ah,ai,aj,ak,az,an,ap,aq,av,ax))else some (x7,x8,x9,ac,ae,af,ag,ah,ai,aj,ak,am,an,ap,aq,av,ax):Option (T2W)).bind λ(az,aA,aB,aD,aE,aF,aG,aH,aI,aJ,aK,aL,aM,aO,aP,aQ,aR,aS,_)=>
(bif aR then((fS 8 aB aD).bind λ(aT,aU,aV,_)=>some (az,aA,aU,aV,aE,aF,aG,aH,aI,aJ,aK,aL,aT,aO,aP,aQ,aR,aS,()))else some (az,aA,aB,aD,aE,aF,aG,aH,aI,aJ,aK,aL,aM,aO,aP,aQ,aR,aS,()):Option (T2W)).bind λ(aT,aU,aV,aW,aY,aZ,ba,bc,bd,be,bf,bg,bh,bi,_,_,_,bm,_)=>
((iQ be).bind λ(bn,_)=>bif bn then((fS aU aV aW).bind λ(bo,bp,bq,_)=>some (bp,bq,aY,aZ,ba,bc,bd,be,bf,bg,bh,bo,()))else bif(be==15)then((fS aT aV aW).bind λ(bo,bp,bq,_)=>some (bp,bq,aY,aZ,ba,bc,bd,be,bf,bg,bh,bo,()))else bif(be==23)then((fS 16 aV aW).bind λ(bo,bp,bq,_)=>some (bp,bq,aY,aZ,ba,bc,bd,be,bf,bg,bh,bo,()))else bif bm then((kS aV aW).bind λ(bo,bp,bq,_)=>let bt:=wk .i64 bo;some (bp,bq,aY,aZ,ba,bc,bd,be,bf,bg,bh,bt,()))else some (aV,aW,aY,aZ,ba,bc,bd,be,bf,bg,bh,bi,()):Option (LI×Int×Int×T1W)).bind λ(bn,bo,_,_,_,_,_,bA,bB,bC,bD,bE,_)=>some (bA,bB,bC,bD,bE,bn,bo,())
def Iw:X.Cfg:=⟨E0,[g7,uG,mt,qm],[],[⟨3,0,qE,[(.normal,qS Zau Zao)]⟩,⟨5,1,qE,[(.normal,qS Zau Zao)]⟩,⟨7,2,qE,[(.normal,qS Zau Zao)]⟩,⟨9,3,qE,[(.normal,qS (zl [0,6,7]) [(2,yab),(14,zae),(16,zae)])]⟩]⟩
def Ag:Ctr:=⟨145,11,[.ptr ⟨2,0,[]⟩ [0],shU I64,shU I64],[(2,yab)],[⟨zae,[.agg 5],[(2,yab)]⟩],ap4 qM⟩
theorem HM:Lk 5 Ag:=ls Iw (aC ib (aC zA (aC oz (aC sA aN))))
def sj(a0:LI)(a1 a2:Int)(a3:LI)(a4:Int):Option (LDIn×T07):=let x0:=fY a0.length;
(fS x0 a3 a4).bind λ(x1,x2,x3,_)=>
(gg x1).bind λx4=>
(fR a0 x4).bind λx5=>let x6:=w64 (x5+1);let x7:=mmR false 5 x6;
(fS x7 x2 x3).bind λ(x8,x9,ac,_)=>
(kR 2 x8).bind λ(ae,af,ag,ah,ai,_)=>let aj:LDIn:=[(15,(1,(0,(0,x1)))),(ae,(af,(ag,(ah,ai))))];
(fS 20 x9 ac).bind λ(ak,am,an,_)=>bif(ak==0)then((fS 3 am an).bind λ(ap,aq,av,_)=>let ax:=w64 (3+ap);
(kS aq av).bind λ(ay,az,aA,_)=>let aB:=wk .i64 ay;
(kR ax aB).bind λ(aD,aE,aF,aG,aH,_)=>let aI:LDIn:=[(aD,(aE,(aF,(aG,aH))))];some (aI,az,aA,()))else bif(ak==1)then(let ap:v_:=[3,4,5,10,13,14,11,9];
(fS 8 am an).bind λ(aq,av,ax,_)=>
(gg aq).bind λay=>
(fR ap ay).bind λ_=>
(fR ap ay).bind λaA=>
(fS 3 av ax).bind λ(aB,aD,aE,_)=>let aF:=w64 (3+aB);
(fS 3 aD aE).bind λ(aG,aH,aI,_)=>let aJ:=w64 (3+aG);
(fS 3 aH aI).bind λ(aK,aL,aM,_)=>let aO:=w64 (3+aK);let aP:LDIn:=[(aA,(aF,(aJ,(aO,0))))];some (aP,aL,aM,()))else bif(ak==2)then(let ap:LDIn:=[(15,(6,(0,(0,x1))))];some (ap,am,an,()))else bif(ak==3)then((fS 5 am an).bind λ(ap,aq,av,_)=>let ax:=w64 (3+ap);
(gg x1).bind λay=>
(fR a0 ay).bind λaz=>
(fS az aq av).bind λ(aA,aB,aD,_)=>let aE:LDIn:=[(15,(6,(0,(0,x1)))),(17,(6,(ax,(0,aA))))];some (aE,aB,aD,()))else bif(ak==4)then((fS 5 am an).bind λ(ap,aq,av,_)=>let ax:=w64 (3+ap);
(gg x1).bind λay=>
(fR a0 ay).bind λaz=>
(fS az aq av).bind λ(aA,aB,aD,_)=>let aE:LDIn:=[(15,(6,(0,(0,x1)))),(17,(6,(ax,(0,aA))))];some (aE,aB,aD,()))else bif(ak==5)then((fS 4 am an).bind λ(ap,aq,av,_)=>let ax:=w64 (3+ap);
(gg x1).bind λay=>
(fR a0 ay).bind λaz=>
(fS az aq av).bind λ(aA,aB,aD,_)=>let aE:LDIn:=[(15,(6,(0,(0,x1)))),(16,(ax,(6,(0,aA))))];some (aE,aB,aD,()))else bif(ak==6)then((fS 4 am an).bind λ(ap,aq,av,_)=>let ax:=w64 (3+ap);
(gg x1).bind λay=>
(fR a0 ay).bind λaz=>
(fS az aq av).bind λ(aA,aB,aD,_)=>let aE:LDIn:=[(15,(6,(0,(0,x1)))),(16,(ax,(6,(0,aA))))];some (aE,aB,aD,()))else bif(ak==7)then((fS 3 am an).bind λ(ap,aq,av,_)=>
(kR 0 ap).bind λ(ax,ay,az,aA,aB,_)=>let aD:LDIn:=[(ax,(ay,(az,(aA,aB))))];bif(gh 40 aD.length aj.length)then let aE:LDIn:=(List.append aD aj);
(jN 13).bind λ(aF,aG,aH,aI,aJ,_)=>let aK:LDIn:=[(aF,(aG,(aH,(aI,aJ))))];bif(gh 40 aE.length aK.length)then let aL:LDIn:=(List.append aE aK);some (aL,aq,av,())else none else none)else bif(ak==8)then((fS 3 am an).bind λ(ap,aq,av,_)=>
(kR 0 ap).bind λ(ax,ay,az,aA,aB,_)=>let aD:LDIn:=[(ax,(ay,(az,(aA,aB))))];bif(gh 40 aD.length aj.length)then let aE:LDIn:=(List.append aD aj);
(jN 13).bind λ(aF,aG,aH,aI,aJ,_)=>let aK:LDIn:=[(aF,(aG,(aH,(aI,aJ))))];bif(gh 40 aE.length aK.length)then let aL:LDIn:=(List.append aE aK);some (aL,aq,av,())else none else none)else bif(ak==9)then((fS 3 am an).bind λ(ap,aq,av,_)=>
(kR 0 ap).bind λ(ax,ay,az,aA,aB,_)=>let aD:LDIn:=[(ax,(ay,(az,(aA,aB))))];bif(gh 40 aD.length aj.length)then let aE:LDIn:=(List.append aD aj);
(jN 14).bind λ(aF,aG,aH,aI,aJ,_)=>
(o9 3 0).bind λ(aK,aL,aM,aO,aP,_)=>let aQ:LDIn:=[(aF,(aG,(aH,(aI,aJ)))),(aK,(aL,(aM,(aO,aP))))];bif(gh 40 aE.length aQ.length)then let aR:LDIn:=(List.append aE aQ);some (aR,aq,av,())else none else none)else bif(ak==10)then((fS 3 am an).bind λ(ap,aq,av,_)=>
(kR 0 ap).bind λ(ax,ay,az,aA,aB,_)=>
(fS 4 aq av).bind λ(aD,aE,aF,_)=>
(kR 1 aD).bind λ(aG,aH,aI,aJ,aK,_)=>
(jN 3).bind λ(aL,aM,aO,aP,aQ,_)=>
(o9 7 0).bind λ(aR,aS,aT,aU,aV,_)=>let aW:LDIn:=[(ax,(ay,(az,(aA,aB)))),(aG,(aH,(aI,(aJ,aK)))),(aL,(aM,(aO,(aP,aQ)))),(aR,(aS,(aT,(aU,aV))))];some (aW,aE,aF,()))else bif(ak==11)then((o9 0 7).bind λ(ap,aq,av,ax,ay,_)=>let az:LDIn:=[(ap,(aq,(av,(ax,ay))))];bif(gh 40 az.length aj.length)then let aA:LDIn:=(List.append az aj);let aB:v_:=[1,2];
(fS 2 am an).bind λ(aD,aE,aF,_)=>
(gg aD).bind λaG=>
(fR aB aG).bind λ_=>
(fR aB aG).bind λaI=>
(jN aI).bind λ(aJ,aK,aL,aM,aO,_)=>let aP:LDIn:=[(aJ,(aK,(aL,(aM,aO))))];bif(gh 40 aA.length aP.length)then let aQ:LDIn:=(List.append aA aP);some (aQ,aE,aF,())else none else none)else bif(ak==12)then((o9 0 7).bind λ(ap,aq,av,ax,ay,_)=>
(jN 4).bind λ(az,aA,aB,aD,aE,_)=>let aF:LDIn:=[(ap,(aq,(av,(ax,ay)))),(az,(aA,(aB,(aD,aE))))];
(o9 0 7).bind λ(aG,aH,aI,aJ,aK,_)=>
(fS 4 am an).bind λ(aL,aM,aO,_)=>
(kR 1 aL).bind λ(aP,aQ,aR,aS,aT,_)=>
(jN 5).bind λ(aU,aV,aW,aY,aZ,_)=>let ba:LDIn:=[(aG,(aH,(aI,(aJ,aK)))),(aP,(aQ,(aR,(aS,aT)))),(aU,(aV,(aW,(aY,aZ))))];let bc:List LDIn:=[aF,ba];
(fS 2 aM aO).bind λ(bd,be)=>
(gg bd).bind λbg=>
(fR bc bg).bind λ_=>
(fR bc bg).bind λ_=>
(fR bc bg).bind λbj=>some (bj,be))else bif(ak==13)then(let ap:v_:=[6,7,15];
(fS 3 am an).bind λ(aq,av,ax,_)=>
(gg aq).bind λay=>
(fR ap ay).bind λ_=>
(fR ap ay).bind λaA=>
(jN aA).bind λ(aB,aD,aE,aF,aG,_)=>
(fS 3 av ax).bind λ(aH,aI,aJ,_)=>let aK:=w64 (3+aH);
(o9 aK 0).bind λ(aL,aM,aO,aP,aQ,_)=>let aR:LDIn:=[(aB,(aD,(aE,(aF,aG)))),(aL,(aM,(aO,(aP,aQ))))];some (aR,aI,aJ,()))else bif(ak==14)then((fS 3 am an).bind λ(ap,aq,av,_)=>
(kR 0 ap).bind λ(ax,ay,az,aA,aB,_)=>let aD:v_:=[8,9];
(fS 2 aq av).bind λ(aE,aF,aG,_)=>
(gg aE).bind λaH=>
(fR aD aH).bind λ_=>
(fR aD aH).bind λaJ=>
(jN aJ).bind λ(aK,aL,aM,aO,aP,_)=>let aQ:LDIn:=[(ax,(ay,(az,(aA,aB)))),(aK,(aL,(aM,(aO,aP))))];some (aQ,aF,aG,()))else bif(ak==15)then((fS 3 am an).bind λ(ap,aq,av,_)=>
(kR 0 ap).bind λ(ax,ay,az,aA,aB,_)=>let aD:v_:=[8,9];
(fS 2 aq av).bind λ(aE,aF,aG,_)=>
(gg aE).bind λaH=>
(fR aD aH).bind λ_=>
(fR aD aH).bind λaJ=>
(jN aJ).bind λ(aK,aL,aM,aO,aP,_)=>let aQ:LDIn:=[(ax,(ay,(az,(aA,aB)))),(aK,(aL,(aM,(aO,aP))))];some (aQ,aF,aG,()))else bif(ak==16)then((fS a1 am an).bind λ(ap,aq,av,_)=>
(kR 0 ap).bind λ(ax,ay,az,aA,aB,_)=>
(o9 1 3).bind λ(aD,aE,aF,aG,aH,_)=>
(jN 10).bind λ(aI,aJ,aK,aL,aM,_)=>let aO:LDIn:=[(ax,(ay,(az,(aA,aB)))),(aD,(aE,(aF,(aG,aH)))),(aI,(aJ,(aK,(aL,aM))))];some (aO,aq,av,()))else bif(ak==17)then(let ap:v_:=[a1,5];
(fS 2 am an).bind λ(aq,av,ax,_)=>
(gg aq).bind λay=>
(fR ap ay).bind λ_=>
(fR ap ay).bind λaA=>
(fS aA av ax).bind λ(aB,aD,aE,_)=>
(kR 0 aB).bind λ(aF,aG,aH,aI,aJ,_)=>let aK:v_:=[12,11];
(fS 2 aD aE).bind λ(aL,aM,aO,_)=>
(gg aL).bind λaP=>
(fR aK aP).bind λ_=>
(fR aK aP).bind λaR=>
(jN aR).bind λ(aS,aT,aU,aV,aW,_)=>let aY:LDIn:=[(aF,(aG,(aH,(aI,aJ)))),(aS,(aT,(aU,(aV,aW))))];some (aY,aM,aO,()))else bif(ak==18)then((fS 4 am an).bind λ(ap,aq,av,_)=>let ax:=w64 (1+ap);
(kR 5 ax).bind λ(ay,az,aA,aB,aD,_)=>
(kR 4 1).bind λ(aE,aF,aG,aH,aI,_)=>let aJ:=w64 (a2+2);let aK:LDIn:=[(ay,(az,(aA,(aB,aD)))),(aE,(aF,(aG,(aH,aI)))),(4,(5,(5,(4,0)))),(20,(5,(0,(0,aJ))))];some (aK,aq,av,()))else let ap:=fY a0.length;
(qM ap a1 am an).bind λ(aq,av,ax,ay,az,aA,aB,_)=>let aD:LDIn:=[(aq,(av,(ax,(ay,az))))];some (aD,aA,aB,())
def JX:X.Cfg:=⟨E0,[g7,Kk,qm,Gw,Li,Ag],[(156,(uaa KIn))],[]⟩
def Ct:Ctr:=⟨122,12,[.ptr ⟨2,0,[]⟩ [0],shU RI,shU I64,shU I64],[(2,yab)],[⟨uL [gO],[.one],[(2,yab)]⟩],ap5 sj⟩
theorem JI:Lk 6 Ct:=ls JX (aC ib (aC OG (aC sA (aC KX (aC QP (aC HM aN))))))
def rz:T2i->Option (T2i⊕(Int×Int×Bool×T1R)):=λ(v0,v1,v2,v3,v4,v5,v6,v7,v8,v9,_)=>bif(decide (v1<v0))then((gg v1).bind λx0=>
(fR v8 x0).bind λ_=>
(fR v8 x0).bind λx2=>
(iR x2 v2 v3).bind λ(x3,x4,x5,_)=>bif(gh 24 v9.length (List.length [x3]))then let x6:List LI:=(List.append v9 [x3]);let x7:=w64 (v1+1);some (.inl (v0,x7,x4,x5,v4,v5,v6,v7,v8,x6,()))else none)else some (.inr (v0,v1,false,v2,v3,v4,v5,v6,v7,v8,v9,()))
def ry:T21->Option (T21⊕T2c):=λ(v0,v1,v2,v3,v4,v5,v6,v7,v8,_)=>bif(decide (v0>0))then((let x0:Int:=(fY v6.length);let x1:=w64 (x0+1);let x2:=fY v6.length;
(sj v7 x1 x2 v1 v2).bind λ(x3,x4,x5,_)=>let x6:=fY v6.length;let x7:=fY x3.length;let x8:=w64 (x6+x7);bif(decide (x8<=62))then(bif(gh 40 v6.length x3.length)then let x9:LDIn:=(List.append v6 x3);some (v0,x4,x5,v3,v4,v5,x9,v7,v8,())else none)else some (v0,x4,x5,v3,v4,v5,v6,v7,v8,()):Option (T21)).bind λ(x0,x1,x2,x3,x4,x5,x6,x7,x8,_)=>let x9:=w64 (x0-1);some (.inl (x9,x1,x2,x3,x4,x5,x6,x7,x8,())))else some (.inr (v0,false,v1,v2,v3,v4,v5,v6,v7,v8,()))
def jz:T2h->Option (T2h⊕(Int×T2c)):=λ(v0,v1,v2,v3,v4,v5,v6,v7,v8)=>bif(decide (v1<v0))then(((gg v1).bind λx0=>
(fR v7 x0).bind λx1=>
(iQ x1.1).bind λ(x2,_)=>bif x2 then((gg v1).bind λx3=>
(fR v7 x3).bind λx4=>let x5:=fY v7.length;bif(decide (x4.2.2.2.2>=x5))then((gg v1).bind λx6=>
(fR v7 x6).bind λ_=>none)else some (v0,v1,v2,v3,v4,v5,v6,v7,v8))else some (v0,v1,v2,v3,v4,v5,v6,v7,v8):Option (T2h)).bind λ(x0,x1,x2,x3,x4,x5,x6,x7,x8)=>let ac:=w64 (x1+1);some (.inl (x0,ac,x2,x3,x4,x5,x6,x7,x8)))else some (.inr (v0,v1,false,v2,v3,v4,v5,v6,v7,v8))
def n6(a0:LI)(a1:Int):Option (LDIn×LI×LLI×T07):=
(qL a0 a1).bind λ(x0,x1,x2,_)=>let x3:=fY x0.length;
(f9 rz NN (x3,0,x1,x2,(),(),(),(),x0,[],())).bind λ(_,_,_,x7,x8,x9,ac,ae,_,ag)=>
(fS 12 x7 x8).bind λ(ai,aj,ak,_)=>let am:=w64 (1+ai);
(f9 ry NN (am,aj,ak,x9,ac,ae,[],ag)).bind λ(_,_,aq,av,ax,ay,az,aA,aB)=>
((fS 4 aq av).bind λ(aE,aF,aG,_)=>bif(aE==0)then(let aH:Int:=(fY aA.length);let aI:=w64 (aH+1);
(fS aI aF aG).bind λ(aJ,aK,aL,_)=>let aM:LDIn:=[(18,(0,(0,(0,aJ))))];bif(gh 40 aA.length aM.length)then let aO:LDIn:=(List.append aA aM);some (aK,aL,ax,ay,az,aO,aB)else none)else bif(aE==1)then(let aH:LDIn:=[(24,(0,(0,(0,0))))];bif(gh 40 aA.length aH.length)then let aI:LDIn:=(List.append aA aH);some (aF,aG,ax,ay,az,aI,aB)else none)else some (aF,aG,ax,ay,az,aA,aB):Option (T1Q)).bind λ(aE,aF,aG,aH,aI,aJ,aK,aL,_)=>
(fS 9 aE aF).bind λ(aM,aO,aP,_)=>
(kR 0 aM).bind λ(aQ,aR,aS,aT,aU,_)=>
(jN 0).bind λ(aV,aW,aY,aZ,ba,_)=>let bc:LDIn:=[(aQ,(aR,(aS,(aT,aU)))),(aV,(aW,(aY,(aZ,ba))))];bif(gh 40 aJ.length bc.length)then let bd:LDIn:=(List.append aJ bc);let be:=fY bd.length;bif(decide (be>64))then(bif(iK 0 64 bd.length)then let bf:LDIn:=(nv bd 0 (Nat.sub 64 0));let bg:=fY bf.length;
(f9 jz NN (bg,0,aO,aP,aG,aH,aI,bf,aK,aL,())).bind λ(_,_,_,bk,bl,_,_,_,bp,bq,bt,_)=>some (bp,bq,bt,bk,bl,())else none)else let bf:=fY bd.length;
(f9 jz NN (bf,0,aO,aP,aG,aH,aI,bd,aK,aL,())).bind λ(_,_,_,bj,bk,_,_,_,bo,bp,bq,_)=>some (bo,bp,bq,bj,bk,())else none
def Dv:X.Cfg:=⟨E0,[Af,uQ,g7,Ct,Kk,Gw,mt],[(24,(uaa CW)),(25,(uaa CW))],[(lx 4 0 (zl [0,2,3]++(13,.pk ⟨8,1,[]⟩ [0,0])::il [14,15]) [(2,yab),(6,zad),(8,uL [N1,(uaa I64),(uaa (uaa CW))])] 16),⟨14,1,qE,[(.normal,qS Uav uao)]⟩,⟨11,2,qS Uav uao,[(.exit 2,qS (zl [0,2,3]++[Uaa 6,Xaa 32]) uao)]⟩,⟨17,3,qE,[(.normal,qS yau uao)]⟩,⟨29,4,qE,[(.normal,qS Xav uap)]⟩,⟨26,5,qS Xav uap,[(.exit 5,qS (zl [0,2,3]++il [101,102]++[Xaa 103]) uap)]⟩]⟩
def wl:Ctr:=⟨92,13,[.ptr ⟨2,0,[]⟩ [0]],[(2,yab)],[⟨uaj,[.agg 3],[(2,yab)]⟩],ap2 n6⟩
theorem C3:Lk 7 wl:=ls Dv (aC HK (aC zD (aC ib (aC JI (aC OG (aC KX (aC oz aN)))))))
def oJ:T0F->Option (T0F⊕((Bool×Unit)⊕(LI×T0D))):=λ(v0,v1,v2,v3,_)=>bif(decide (v3<v2))then((gg v3).bind λx0=>
(fR v1 x0).bind λx1=>bif(decide (x1<1))then(some (.inr (.inl (false,()))))else bif(decide (x1>32))then(some (.inr (.inl (false,()))))else let x2:=w64 (v3+1);some (.inl (v0,v1,v2,x2,())))else some (.inr (.inr (v0,v1,v2,v3,false,())))
def iO(a0:LI):f_:=let x0:=fY a0.length;
(match f9 oJ NN (a0,a0,x0,0,())with
|none=>none
|some (.inl (x1,_))=>some (x1,())
|some (.inr (x1,_))=>let x6:=fY x1.length;bif(decide (x6>=1))then(let x7:Int:=(fY x1.length);some ((decide (x7<=4)),()))else some (false,()))
def FT:X.Cfg:=⟨E0,[],[],[⟨3,0,qS Zav [],[(.ret,qS Uat []),(.exit 0,qS uaw [])]⟩]⟩
def pI:Ctr:=⟨30,14,yai,[],[⟨zab,[.one],[]⟩],ap1 iO⟩
theorem sy:Lk 1 pI:=ls FT aN
def tT:T2j->Option (T2j⊕(LI×Int×Int×Int×Int×Int×Bool×T0G)):=λ(v0,v1,v2,v3,v4,v5,v6,v7,v8,v9,_)=>bif(decide (v5<v4))then(let x0:Int:=(w64 (v5+v1));bif(v2 != 0)then let x1:Int:=(Int.tmod x0 v2);
(gg x1).bind λx2=>
(fR v8 x2).bind λ_=>
(fR v8 x2).bind λ_=>let x5:=v8.modify x2 λe=>v3;
(gg x1).bind λx6=>
(fR v0 x6).bind λx7=>let x8:=w64 (x7+1);let x9:=w64 (50*v2);bif(x9 != 0)then let ac:Int:=(w64 (Int.tdiv v1 x9));let ae:=Int.tmod ac 40;let af:=w64 (x8+ae);let ag:=w64 (v3+af);let ah:=w64 (v5+1);some (.inl (v0,v1,v2,ag,v4,ah,v6,v7,x5,v9,()))else none else none)else some (.inr (v0,v1,v2,v3,v4,v5,false,v6,v7,v8,v9,()))
def qJ(a0:LI)(a1:Int):Option (T0o):=
((iO a0).bind λ(x0,_)=>bif(!x0)then(some (a0,a1,true,(),0,()))else bif(decide (a1<0))then(some (a0,a1,true,(),0,()))else some (a0,a1,(decide (a1>1073741824)),(),0,()):Option (LI×Int×Bool×Unit×Int×Unit)).bind λ(x0,x1,x2,x3,x4,_)=>bif x2 then(some ([],0,1,()))else let x5:=fY x0.length;
(gg x5).bind λx6=>
(gg x5).bind λx7=>bif(xe x6 x7 1)then let x8:v_:=(List.replicate x6 0);let x9:=w64 (40503*x1);let ac:=wk .u16 x9;bif(x5 != 0)then let ae:Int:=(w64 (Int.tdiv x1 x5));let af:=Int.tmod ae 50;let ag:=w64 (1+af);
(f9 tT NN (x0,x1,x5,ag,x5,0,x3,x4,x8,ac,())).bind λ(_,_,_,_,_,_,_,_,_,ax,ay,_)=>some (ax,ay,0,())else none else none
def Ip:X.Cfg:=⟨E0,[pI],[],[⟨2,0,qE,[(.normal,(qS [sP 0 RI,Uaa 1,zaa 4,Xaa 21] [(10,uL [N1,CW])]))]⟩,(lx 9 1 (sP 0 RI::Uaa 1::zaa 4::Uaa 6::zaa 7::il [8,36,37]) [(10,uL [N1,CW]),(16,Zaj)] 38)]⟩
def Ac:Ctr:=⟨11,15,yab,[],[⟨uL [(uaa I64),CW,I64],[.agg 2,.one],[]⟩],ap2 qJ⟩
theorem HG:Lk 2 Ac:=ls Ip (aC sy aN)
def pj(a0 a1:LI)(a2:Int):Option (LI×T0h):=
(fS 1048576 a1 a2).bind λ(x0,x1)=>
(qJ a0 x0).bind λ(x3,x4,_,_)=>some (x3,x4,x1)
def F8:X.Cfg:=⟨E0,[g7,Ac],[],[]⟩
def yo:Ctr:=⟨94,16,[.ptr ⟨2,0,[]⟩ [0],shU RI],[(2,yab)],[⟨Zaj,[.agg 2],[(2,yab)]⟩],ap3 pj⟩
theorem Fe:Lk 4 yo:=ls F8 (aC ib (aC HG aN))
def mn(a0 a1 a2 a3:Int):f_:=bif(a0==0)then(bif(a2==0)then(some ((a3==0),()))else some (false,()))else bif(a0==2)then(bif(a2==0)then(some ((a3==0),()))else some (false,()))else bif(a0==1)then(bif(a2==(-1))then(bif(a1==0)then(bif(decide (a3>=0))then(some ((decide (a3<=65535)),()))else some (false,()))else some (false,()))else bif(a1==0)then(bif(decide (a2>=0))then(bif(decide (a2<4))then(bif(decide (a3>=0))then(some ((decide (a3<32)),()))else some (false,()))else some (false,()))else some (false,()))else some (false,()))else some (false,())
def Ie:X.Cfg:=⟨E0,[],[],[]⟩
def uC:Ctr:=⟨90,17,[.agg yag],[],[⟨zab,[.one],[]⟩],ap4 mn⟩
theorem zw:Lk 1 uC:=ls Ie aN
def lV:LDCn×Int×T0l->Option ((LDCn×Int×T0l)⊕((Bool×Unit)⊕(LDCn×Int×LDCn×T0e))):=λ(v0,v1,v2,v3,v4,_)=>bif(decide (v4<v3))then((gg v4).bind λx0=>
(fR v2 x0).bind λx1=>
(mn x1.1 x1.2.1 x1.2.2.1 x1.2.2.2).bind λ(x2,_)=>bif(!x2)then(some (.inr (.inl (false,()))))else let x3:=w64 (v4+1);some (.inl (v0,v1,v2,v3,x3,())))else some (.inr (.inr (v0,v1,v2,v3,v4,false,())))
def iq(a0:LDCn)(a1:Int):f_:=let x0:=fY a0.length;
(match f9 lV NN (a0,a1,a0,x0,0,())with
|none=>none
|some (.inl (x1,_))=>some (x1,())
|some (.inr (x1,x2,_))=>let x7:=fY x1.length;some ((decide (x7<=x2)),()))
def FB:X.Cfg:=⟨E0,[uC],[],[⟨3,0,qS [sP 0 gj,Uaa 1,sP 7 gj,Uaa 8,Uaa 9] [],[(.ret,qS Xat []),(.exit 0,qS [sP 0 gj,Uaa 1,sP 7 gj,Uaa 8,Uaa 9,Xaa 10] [])]⟩]⟩
def jg:Ctr:=⟨62,18,uL [gj,I64],[],[⟨zab,[.one],[]⟩],ap2 iq⟩
theorem jS:Lk 2 jg:=ls FB (aC zw aN)
def lT:T0X->Option (T0X⊕((Bool×Unit)⊕(LLCn×T0O))):=λ(v0,v1,v2,v3)=>bif(decide (v2<v1))then((gg v2).bind λx0=>
(fR v0 x0).bind λx1=>
(iq x1 64).bind λ(x2,_)=>bif(!x2)then(some (.inr (.inl (false,()))))else let x3:=w64 (v2+1);some (.inl (v0,v1,x3,v3)))else some (.inr (.inr (v0,v1,v2,false,v3)))
def oG:LDOp×T0z->Option ((LDOp×T0z)⊕((Bool×Unit)⊕(LDOp×T0O))):=λ(v0,v1,v2,v3,v4,_)=>bif(decide (v2<v1))then((gg v2).bind λx0=>
(fR v0 x0).bind λx1=>
(bif(x1.1==(-1))then(bif(x1.2.1 != 0)then(some (v0,v1,v2,true,v3,v4,x1.1,x1.2.1,x1.2.2,()))else bif x1.2.2 then(some (v0,v1,v2,true,v3,v4,x1.1,x1.2.1,x1.2.2,()))else bif(decide (x1.1<(-1)))then(some (v0,v1,v2,true,v3,v4,x1.1,x1.2.1,x1.2.2,()))else let x2:=fY v3.length;bif(decide (x1.1>=x2))then(some (v0,v1,v2,true,v3,v4,x1.1,x1.2.1,x1.2.2,()))else bif(decide (x1.1>=0))then(bif(decide (x1.2.1<0))then(some (v0,v1,v2,true,v3,v4,x1.1,x1.2.1,x1.2.2,()))else
(gg x1.1).bind λx3=>
(fR v3 x3).bind λx4=>let x5:=fY x4.length;some (v0,v1,v2,(decide (x1.2.1>x5)),v3,v4,x1.1,x1.2.1,x1.2.2,()))else some (v0,v1,v2,false,v3,v4,x1.1,x1.2.1,x1.2.2,()))else bif(decide (x1.1<(-1)))then(some (v0,v1,v2,true,v3,v4,x1.1,x1.2.1,x1.2.2,()))else let x2:=fY v3.length;bif(decide (x1.1>=x2))then(some (v0,v1,v2,true,v3,v4,x1.1,x1.2.1,x1.2.2,()))else bif(decide (x1.1>=0))then(bif(decide (x1.2.1<0))then(some (v0,v1,v2,true,v3,v4,x1.1,x1.2.1,x1.2.2,()))else
(gg x1.1).bind λx3=>
(fR v3 x3).bind λx4=>let x5:=fY x4.length;some (v0,v1,v2,(decide (x1.2.1>x5)),v3,v4,x1.1,x1.2.1,x1.2.2,()))else some (v0,v1,v2,false,v3,v4,x1.1,x1.2.1,x1.2.2,()):Option (LDOp×Int×Int×Bool×LLCn×LDOp×T0e)).bind λ(x2,x3,x4,x5,x6,x7,_)=>bif x5 then(some (.inr (.inl (false,()))))else let ae:=w64 (x4+1);some (.inl (x2,x3,ae,x6,x7,())))else some (.inr (.inr (v0,v1,v2,false,v3,v4,())))
abbrev z_:=List LDCn
def mF(a0:z_)(a1:LDOp):f_:=let x0:=fY a0.length;bif(decide (x0>4))then(some (false,()))else let x1:=fY a1.length;bif(x1 != 8)then(some (false,()))else let x2:=fY a0.length;
(match f9 lT NN (a0,x2,0,a0,a1,())with
|none=>none
|some (.inl (x3,_))=>some (x3,())
|some (.inr (_,_,_,_,x7,x8,_))=>let x9:=fY x8.length;
(match f9 oG NN (x8,x9,0,x7,x8,())with
|none=>none
|some (.inl (ac,_))=>some (ac,())
|some (.inr (_,_))=>some (true,())))
def Fq:X.Cfg:=⟨E0,[jg],[],[⟨6,0,qS (zaa 1::sP 18 (yaa gj)::il [19,20]) [(4,uae)],[(.ret,qS Uat []),(.exit 0,qS [zaa 1,sP 18 (yaa gj),Uaa 19,Uaa 20,Xaa 21] [(4,uae)])]⟩,⟨20,1,qE,[(.normal,qS [zaa 1,sP 29 jh,Uaa 30,Uaa 31,Xaa 81] [(4,uae),(14,yaj)])]⟩,⟨15,2,qS (zaa 1::sP 29 jh::il [30,31]) [(4,uae)],[(.ret,qS Uat []),(.exit 2,qS [zaa 1,sP 29 jh,Uaa 30,Uaa 31,Xaa 32] [(4,uae)])]⟩]⟩
def sG:Ctr:=⟨146,19,[.agg uae],[],[⟨zab,[.one],[]⟩],ap2 mF⟩
theorem xj:Lk 3 sG:=ls Fq (aC jS aN)
def vz:T1D->Option (T1D⊕(LLI×Int×Int×Bool×T0K)):=λ(v0,v1,v2,v3,v4,v5,v6,_)=>bif(decide (v2<v1))then((gg v2).bind λx0=>
(fR v6 x0).bind λ_=>
(fR v6 x0).bind λ_=>let x3:=v6.modify x0 λe=>((-1),e.2);let x4:=w64 (v2+1);some (.inl (v0,v1,x4,v3,v4,v5,x3,())))else some (.inr (v0,v1,v2,false,v3,v4,v5,v6,()))
def vy:T2v->Option (T2v⊕(LLI×Int×Int×LI×Int×Int×Bool×T11)):=λ(v0,v1,v2,v3,v4,v5,v6,v7,v8,v9,ej,_)=>bif(decide (v5<v4))then((gg v5).bind λx0=>
(fR v3 x0).bind λx1=>let x2:LDCn:=[(0,(x1,(0,0)))];bif(gh 24 ej.length x2.length)then let x3:LDCn:=(List.append ej x2);let x4:=w64 (v5+1);some (.inl (v0,v1,v2,v3,v4,x4,v6,v7,v8,v9,x3,()))else none)else some (.inr (v0,v1,v2,v3,v4,v5,false,v6,v7,v8,v9,ej,()))
def vx:T1C->Option (T1C⊕(LLI×T1o)):=λ(v0,v1,v2,v3,v4,v5,v6,_)=>bif(decide (v2<v1))then((gg v2).bind λx0=>
(fR v0 x0).bind λx1=>let x2:=fY x1.length;
(f9 vy NN (v0,v1,v2,x1,x2,0,v3,v4,v5,v6,[],())).bind λ(x3,x4,x5,_,_,_,_,ac,ae,af,ag,ah,_)=>bif(gh 24 af.length (List.length [ah]))then let ai:z_:=(List.append af [ah]);let aj:=w64 (x5+1);some (.inl (x3,x4,aj,ac,ae,ai,ag,()))else none)else some (.inr (v0,v1,v2,false,v3,v4,v5,v6,()))
def r9(a0:LLI):Option (LLCn×LDOp×Int×Unit):=bif(xe 8 8 3)then let x0:LDOp:=(List.replicate 8 (0,(0,false)));let x1:=fY x0.length;
(f9 vz NN (a0,x1,0,(),(),(),x0,())).bind λ(x2,_,_,_,x6,x7,_,x9,_)=>let ac:=fY x2.length;
(f9 vx NN (x2,ac,0,x6,x7,[],x9,())).bind λ(_,_,_,_,_,_,ak,am,_)=>
(mF ak am).bind λ(an,_)=>bif(!an)then(some ([],[],3,()))else some (ak,am,0,())else none
def JM:X.Cfg:=⟨E0,[sG],[(46,(uaa KCn)),(47,(uaa KCn))],[(lx 4 0 (sP 0 (yaa RW)::zl [2,4]++il [15,16]) [(6,uac),(10,uL [N1,(uaa KOp)])] 17),⟨19,1,qS (zl [2,4]++Zaa 8 19::sP 25 (yaa RW)::il [26,27]++sP 31 RW::il [32,33]) Uaq,[(.exit 4,qS (zl [2,4]++Zaa 8 19::sP 25 (yaa RW)::il [26,27]++sP 31 RW::il [32,33]++[Xaa 34]) Uaq)]⟩,⟨11,2,qS (zl [2,4]++sP 25 (yaa RW)::il [26,27]) [(6,uac),(10,zaf)],[(.exit 2,qS (zl [2,4]++sP 25 (yaa RW)::il [26,27]++[Xaa 28]) [(6,uac),(10,zaf)])]⟩]⟩
def Cl:Ctr:=⟨151,20,uL [(yaa RW)],[],[⟨Xak,[.agg 2,.one],[]⟩],ap1 r9⟩
theorem JB:Lk 4 Cl:=ls JM (aC xj aN)
def iB:LLI×Int×Int×LLI×Unit->Option ((LLI×Int×Int×LLI×Unit)⊕(LLI×Int×Int×Bool×LLI×Unit)):=λ(v0,v1,v2,v3,_)=>bif(decide (v2<v1))then((gg v2).bind λx0=>
(fR v0 x0).bind λx1=>bif(gh 2 0 x1.length)then let x2:v_:=(List.append [] x1);bif(gh 24 v3.length (List.length [x2]))then let x3:List LI:=(List.append v3 [x2]);let x4:=w64 (v2+1);some (.inl (v0,v1,x4,x3,()))else none else none)else some (.inr (v0,v1,v2,false,v3,()))
def iG(a0:LLI):Option (LLI×Unit):=let x0:=fY a0.length;
(f9 iB NN (a0,x0,0,[],())).bind λ(_,_,_,_,x5,_)=>some (x5,())
def xB:X.Cfg:=⟨E0,[],[(15,(uaa CW)),(16,(uaa CW))],[(lx 4 0 (Zaa 3 9::sP 6 (yaa RW)::il [7,8]) [(9,zaj)] 9)]⟩
def kD:Ctr:=⟨148,21,uL [(yaa RW)],[],[⟨zaj,[.one],[]⟩],ap1 iG⟩
theorem na:Lk 1 kD:=ls xB aN
def kx:LDOu×T02->Option ((LDOu×T02)⊕((Bool×Unit)⊕(LDOu×T0e))):=λ(v0,v1,v2,_)=>bif(decide (v2<v1))then((gg v2).bind λx0=>
(fR v0 x0).bind λx1=>
(bif(x1.1 != v2)then(some (v0,v1,v2,true,()))else bif(decide (x1.2.1<0))then(some (v0,v1,v2,true,()))else bif(decide (x1.2.1>=2))then(some (v0,v1,v2,true,()))else let x2:=fY x1.2.2.length;some (v0,v1,v2,(decide (x2>16)),()):Option (LDOu×T0e)).bind λ(x2,x3,x4,x5,_)=>bif x5 then(some (.inr (.inl (false,()))))else let x6:=w64 (x4+1);some (.inl (x2,x3,x6,())))else some (.inr (.inr (v0,v1,v2,false,())))
def mE(a0:LDOu):f_:=let x0:=fY a0.length;
(match f9 kx NN (a0,x0,0,())with
|none=>none
|some (.inl (x1,_))=>some (x1,())
|some (.inr (_,_))=>some (true,()))
def BM:X.Cfg:=⟨E0,[],[],[⟨8,0,qE,[(.normal,qS [sP 5 kY,Uaa 6,Uaa 7,Xaa 31] [])]⟩,⟨3,1,qS (sP 5 kY::il [6,7]) [],[(.ret,qS Uat []),(.exit 0,qS [sP 5 kY,Uaa 6,Uaa 7,Xaa 8] [])]⟩]⟩
def uw:Ctr:=⟨147,22,uL [kY],[],[⟨zab,[.one],[]⟩],ap1 mE⟩
theorem Br:Lk 1 uw:=ls BM aN
def lS:T2a->Option (T2a⊕((Bool×Unit)⊕(LLI×T1T))):=λ(v0,v1,v2,v3)=>bif(decide (v2<v1))then((gg v2).bind λx0=>
(fR v0 x0).bind λx1=>let x2:=fY x1.length;bif(decide (x2>64))then(some (.inr (.inl (false,()))))else let x3:=w64 (v2+1);some (.inl (v0,v1,x3,v3)))else some (.inr (.inr (v0,v1,v2,false,v3)))
def lR:T24->Option (T24⊕((Bool×Unit)⊕(LDOu×T1T))):=λ(v0,v1,v2,v3)=>bif(decide (v2<v1))then((gg v2).bind λx0=>
(fR v0 x0).bind λx1=>
(iq x1.2.2 16).bind λ(x2,_)=>bif(!x2)then(some (.inr (.inl (false,()))))else let x3:=w64 (v2+1);some (.inl (v0,v1,x3,v3)))else some (.inr (.inr (v0,v1,v2,false,v3)))
def lf(a0 a1:LI)(a2:LLI)(a3:z_)(a4:LDOp)(a5:LDOu):f_:=let x0:=fY a2.length;
(match f9 lS NN (a2,x0,0,a0,a1,a2,a3,a4,a5,())with
|none=>none
|some (.inl (x1,_))=>some (x1,())
|some (.inr (_,_,_,_,x5,x6,x7,x8,x9,ac,_))=>let ae:=fY ac.length;
(match f9 lR NN (ac,ae,0,x5,x6,x7,x8,x9,ac,())with
|none=>none
|some (.inl (af,_))=>some (af,())
|some (.inr (_,_,_,_,aj,ak,am,an,ap,aq,_))=>let av:=fY aj.length;bif(decide (av<=64))then(let ax:Int:=(fY ak.length);bif(decide (ax<=64))then(let ay:Int:=(fY am.length);bif(decide (ay<=2))then((mF an ap).bind λ(az,_)=>bif az then(let aA:Int:=(fY aq.length);bif(decide (aA<=200))then((mE aq).bind λ(aB,_)=>some (aB,()))else some (false,()))else some (false,()))else some (false,()))else some (false,()))else some (false,())))
def Fn:X.Cfg:=⟨E0,[jg,sG,uw],[],[⟨3,0,qS (zaa 1::sP 8 (yaa RW)::il [9,10]) [(4,Zag)],[(.ret,qS Uat []),(.exit 0,qS [zaa 1,sP 8 (yaa RW),Uaa 9,Uaa 10,Xaa 11] [(4,Zag)])]⟩,⟨12,1,qS (zaa 1::sP 19 kY::il [20,21]) [(4,Zag)],[(.ret,qS Uat []),(.exit 2,qS [zaa 1,sP 19 kY,Uaa 20,Uaa 21,Xaa 22] [(4,Zag)])]⟩]⟩
def pF:Ctr:=⟨125,23,[.agg Zag],[],[⟨zab,[.one],[]⟩],ap6 lf⟩
theorem su:Lk 4 pF:=ls Fn (aC jS (aC xj (aC Br aN)))
def r8(a0 a1:LLI)(a2 a3:LI):Option (LI×LI×LLI×LLCn×LDOp×Unit×Int×Unit):=
(r9 a0).bind λ(x0,x1,x2,_)=>bif(x2 != 0)then(some ([],[],[],[],[],(),x2,()))else bif(gh 2 0 a2.length)then let x3:v_:=(List.append [] a2);bif(gh 2 0 a3.length)then let x4:v_:=(List.append [] a3);
(iG a1).bind λ(x5,_)=>
(lf x3 x4 x5 x0 x1 []).bind λ(x6,_)=>bif(!x6)then(some ([],[],[],[],[],(),3,()))else some (x3,x4,x5,x0,x1,(),0,())else none else none
def Fo:X.Cfg:=⟨E0,[Cl,kD,pF],[],[]⟩
def xO:Ctr:=⟨129,24,uL [(yaa RW),(yaa RW),RW,RW],[],[⟨uL [RW,RW,(yaa RW),(yaa gj),jh,N1,I64],[.agg 6,.one],[]⟩],ap4 r8⟩
theorem EN:Lk 5 xO:=ls Fo (aC JB (aC na (aC su aN)))
def n7(a0:LI)(a1:Int):Option (LI×LI×LLI×LLCn×LDOp×Unit×T07):=
(iR 5 a0 a1).bind λ(x0,x1,x2,_)=>
(iR 3 x1 x2).bind λ(x3,x4,x5,_)=>let x6:List LI:=[x0,x3];
(iR 8 x4 x5).bind λ(x7,x8,x9,_)=>
(iR 4 x8 x9).bind λ(ac,ae,af,_)=>let ag:List LI:=[x7,ac];
(iR 5 ae af).bind λ(ah,ai,aj,_)=>
(iR 5 ai aj).bind λ(ak,am)=>
(r8 x6 ag ah ak).bind λ(ap,aq,av,ax,ay,az,_,_)=>some (ap,aq,av,ax,ay,az,am)
def Dw:X.Cfg:=⟨E0,[uQ,xO],[(10,(uaa CW)),(15,(uaa CW))],[]⟩
def wm:Ctr:=⟨95,25,[.ptr ⟨2,0,[]⟩ [0]],[(2,yab)],[⟨uL [RW,RW,(yaa RW),(yaa gj),jh,N1],[.agg 6],[(2,yab)]⟩],ap2 n7⟩
theorem C4:Lk 6 wm:=ls Dw (aC zD (aC EN aN))
def l8:T2y->Option (T2y⊕((Bool×Unit)⊕T2E)):=λ(v0,v1,v2,v3,v4,v5,v6,v7,v8,v9,ej,eq,_)=>bif(decide (v1<v0))then((gg v1).bind λx0=>
(fR eq x0).bind λ_=>
(fR eq x0).bind λx2=>
(bif(decide (x2<0))then(some (v0,v1,true,v2,v3,v4,v5,v6,v7,v8,v9,ej,eq,()))else bif(decide (x2>=8))then(some (v0,v1,true,v2,v3,v4,v5,v6,v7,v8,v9,ej,eq,()))else
(gg v1).bind λx3=>bif(Nat.beq x3 0)then(bif(!v7)then(some (v0,v1,(x2 != 0),v2,v3,v4,v5,v6,v7,v8,v9,ej,eq,()))else some (v0,v1,false,v2,v3,v4,v5,v6,v7,v8,v9,ej,eq,()))else bif(Nat.beq x3 1)then(bif(!v8)then(some (v0,v1,(x2 != 0),v2,v3,v4,v5,v6,v7,v8,v9,ej,eq,()))else some (v0,v1,false,v2,v3,v4,v5,v6,v7,v8,v9,ej,eq,()))else bif(Nat.beq x3 2)then(bif(!v9)then(some (v0,v1,(x2 != 0),v2,v3,v4,v5,v6,v7,v8,v9,ej,eq,()))else some (v0,v1,false,v2,v3,v4,v5,v6,v7,v8,v9,ej,eq,()))else bif(Nat.beq x3 3)then bif(!ej)then(some (v0,v1,(x2 != 0),v2,v3,v4,v5,v6,v7,v8,v9,ej,eq,()))else some (v0,v1,false,v2,v3,v4,v5,v6,v7,v8,v9,ej,eq,())else none:Option (T2E)).bind λ(x3,x4,x5,x6)=>bif x5 then(some (.inr (.inl (false,()))))else let aj:=w64 (x4+1);some (.inl (x3,aj,x6)))else some (.inr (.inr (v0,v1,false,v2,v3,v4,v5,v6,v7,v8,v9,ej,eq,())))
def o5(a0 a1 a2 a3 a4:Int):f_:=bif(decide (a0<0))then(some (false,()))else bif(decide (a0>24))then(some (false,()))else
(kP a0).bind λ(x0,x1,x2,x3,_)=>let x4:v_:=[a1,a2,a3];let x5:=fY x4.length;
(match f9 l8 NN (x5,0,a0,a1,a2,a3,a4,x0,x1,x2,x3,x4,())with
|none=>none
|some (.inl (x6,_))=>some (x6,())
|some (.inr (_,_,_,x9,ac,ae,af,ag,_,_,_,ak,_,_))=>
(bif(decide (ag<0))then(some (true,x9,ac,ae,af,ag,()))else bif(decide (ag>65535))then(some (true,x9,ac,ae,af,ag,()))else bif(!ak)then(some ((ag != 0),x9,ac,ae,af,ag,()))else some (false,x9,ac,ae,af,ag,()):Option (Bool×T0P)).bind λ(an,ap,_,_,_,ay,_)=>bif an then(some (false,()))else
(iQ ap).bind λ(az,_)=>bif az then(some ((decide (ay<64)),()))else bif(ap==15)then(some ((decide (ay<4)),()))else bif(ap==23)then(some ((decide (ay<=15)),()))else some (true,()))
def FL:X.Cfg:=⟨E0,[uG,mt],[],[⟨12,0,qE,[(.normal,qS (zl [1,3]++Zaa 23 49::il [24,25]++[Xaa 45]) yap)]⟩,⟨7,1,qS (zl [1,3]++Zaa 23 49::il [24,25]) yap,[(.ret,qS Uat []),(.exit 0,qS (zl [1,3]++Zaa 23 49::il [24,25]++[Xaa 26]) yap)]⟩,⟨15,2,qE,[(.normal,qS [zaa 1,Xaa 64] [(4,zae)])]⟩]⟩
def ya:Ctr:=⟨76,26,[.agg zae],[],[⟨zab,[.one],[]⟩],ap5 o5⟩
theorem EZ:Lk 2 ya:=ls FL (aC zA (aC oz aN))
def lZ:T1l->Option (T1l⊕((Int×Unit)⊕T1B)):=λ(v0,v1,v2,v3,v4,v5,_)=>bif(decide (v2<v1))then((gg v2).bind λx0=>
(fR v0 x0).bind λx1=>let x2:=fY x1.length;
(gg v2).bind λx3=>
(fR v4 x3).bind λx4=>bif(decide (x2>x4))then(some (.inr (.inl (1,()))))else let x5:=w64 (v2+1);some (.inl (v0,v1,x5,v3,v4,v5,())))else some (.inr (.inr (v0,v1,v2,false,v3,v4,v5,())))
def lY:T1d->Option (T1d⊕((Int×Unit)⊕T1z)):=λ(v0,v1,v2,v3)=>bif(decide (v2<v1))then((gg v2).bind λx0=>
(fR v0 x0).bind λx1=>
(o5 x1.1 x1.2.1 x1.2.2.1 x1.2.2.2.1 x1.2.2.2.2).bind λ(x2,_)=>bif(!x2)then(some (.inr (.inl (5,()))))else let x3:=w64 (v2+1);some (.inl (v0,v1,x3,v3)))else some (.inr (.inr (v0,v1,v2,false,v3)))
def lX:T1d->Option (T1d⊕((Int×Unit)⊕T1z)):=λ(v0,v1,v2,v3,v4,v5,_)=>bif(decide (v2<v1))then((gg v2).bind λx0=>
(fR v0 x0).bind λx1=>
((iQ x1.1).bind λ(x2,_)=>bif x2 then(let x3:Int:=(fY v3.length);bif(decide (x1.2.2.2.2>=x3))then(some (v0,v1,v2,true,v3,v4,v5,()))else bif(x1.1==15)then(let x4:Int:=(fY v4.length);some (v0,v1,v2,(decide (x1.2.2.2.2>=x4)),v3,v4,v5,()))else some (v0,v1,v2,false,v3,v4,v5,()))else bif(x1.1==15)then(let x3:Int:=(fY v4.length);some (v0,v1,v2,(decide (x1.2.2.2.2>=x3)),v3,v4,v5,()))else some (v0,v1,v2,false,v3,v4,v5,()):Option (T1z)).bind λ(x2,x3,x4,x5,x6)=>bif x5 then(some (.inr (.inl (6,()))))else let x9:=w64 (x4+1);some (.inl (x2,x3,x9,x6)))else some (.inr (.inr (v0,v1,v2,false,v3,v4,v5,())))
def lh(a0:LDIn)(a1:LI)(a2:LLI):h_:=
(iO a1).bind λ(x0,_)=>bif(!x0)then(some (1,()))else let x1:=fY a2.length;let x2:=fY a1.length;bif(x1 != x2)then(some (1,()))else let x3:=fY a2.length;
(match f9 lZ NN (a2,x3,0,a0,a1,a2,())with
|none=>none
|some (.inl (x4,_))=>some (x4,())
|some (.inr (_,_,_,_,x8,x9))=>let ae:=fY x8.length;bif(decide (ae<1))then(some (3,()))else let af:=fY x8.length;bif(decide (af>64))then(some (3,()))else let ag:=fY x8.length;
(match f9 lY NN (x8,ag,0,x8,x9)with
|none=>none
|some (.inl (ah,_))=>some (ah,())
|some (.inr (_,_,_,_,am,an))=>let aq:=fY am.length;
(match f9 lX NN (am,aq,0,am,an)with
|none=>none
|some (.inl (av,_))=>some (av,())
|some (.inr (_,_))=>some (0,()))))
def FJ:X.Cfg:=⟨E0,[pI,ya,mt],[],[⟨6,0,qS (zaa 1::sP 23 (yaa RW)::il [24,25]) Uam,[(.ret,qS Zat []),(.exit 0,qS [zaa 1,sP 23 (yaa RW),Uaa 24,Uaa 25,Xaa 26] Uam)]⟩,⟨18,1,qS (zaa 1::sP 50 gO::il [51,52]) Uam,[(.ret,qS Zat []),(.exit 2,qS [zaa 1,sP 50 gO,Uaa 51,Uaa 52,Xaa 53] Uam)]⟩,⟨32,2,qE,[(.normal,qS [zaa 1,sP 61 gO,Uaa 62,Uaa 63,Xaa 90] Uam)]⟩,⟨27,3,qS (zaa 1::sP 61 gO::il [62,63]) Uam,[(.ret,qS Zat []),(.exit 4,qS [zaa 1,sP 61 gO,Uaa 62,Uaa 63,Xaa 64] Uam)]⟩]⟩
def pH:Ctr:=⟨45,27,[.agg uab],[],[⟨zac,[.one],[]⟩],ap3 lh⟩
theorem sx:Lk 3 pH:=ls FJ (aC sy (aC EZ (aC oz aN)))
def mb:T2u->Option (T2u⊕((Bool×Unit)⊕T2C)):=λ(v0,v1,v2,v3,v4,v5,v6,v7,v8,v9)=>bif(decide (v8<v7))then((match((gg v8).bind λx0=>
(fR v6 x0).bind λx1=>
(gg v1).bind λx2=>
(fR v0 x2).bind λx3=>let x4:=w64 (v2+x3);bif(decide (x4>=x1))then((gg v8).bind λx5=>
(fR v0 x5).bind λx6=>let x7:=w64 (x1+x6);bif(decide (x7>=v2))then(some (.inl (false,())))else some (.inr (v0,v1,v2,v3,v4,v5,v6,v7,v8,false,v9)))else some (.inr (v0,v1,v2,v3,v4,v5,v6,v7,v8,false,v9)):Option ((Bool×Unit)⊕T2C))with
|none=>none
|some (.inl (x0,_))=>some (.inr (.inl (x0,())))
|some (.inr (x0,x1,x2,x3,x4,x5,x6,x7,x8,_,ac))=>let af:=w64 (x8+1);some (.inl (x0,x1,x2,x3,x4,x5,x6,x7,af,ac))))else some (.inr (.inr (v0,v1,v2,v3,v4,v5,v6,v7,v8,false,v9)))
def ma:T1h->Option (T1h⊕((Bool×Unit)⊕(LI×T1f))):=λ(v0,v1,v2,v3,v4,v5,_)=>bif(decide (v3<v2))then((gg v3).bind λx0=>
(fR v1 x0).bind λx1=>bif(decide (x1<0))then(some (.inr (.inl (false,()))))else
(gg v3).bind λx2=>
(fR v0 x2).bind λx3=>let x4:=w64 (512-x3);bif(decide (x1>x4))then(some (.inr (.inl (false,()))))else
(gg v3).bind λx5=>bif(iK 0 x5 v4.length)then let x6:v_:=(nv v4 0 (Nat.sub x5 0));let x7:=fY x6.length;
(match f9 mb NN (v0,v3,x1,v1,v2,v3,x6,x7,0,v4,v5,())with
|none=>none
|some (.inl (x8,_))=>some (.inr (.inl (x8,())))
|some (.inr (x8,_,_,ae,af,ag,_,_,_,_,am))=>let ap:=w64 (ag+1);some (.inl (x8,ae,af,ap,am)))else none)else some (.inr (.inr (v0,v1,v2,v3,false,v4,v5,())))
def jM(a0:LI)(a1:Int)(a2:LI):f_:=
(iO a2).bind λ(x0,_)=>bif(!x0)then(some (false,()))else let x1:=fY a0.length;let x2:=fY a2.length;bif(x1 != x2)then(some (false,()))else let x3:=fY a0.length;
(match f9 ma NN (a2,a0,x3,0,a0,a1,())with
|none=>none
|some (.inl (x4,_))=>some (x4,())
|some (.inr (_,_))=>some (true,()))
def FQ:X.Cfg:=⟨E0,[pI],[],[⟨18,0,qE,[(.ret,qS Xat []),(.normal,qS [sP 1 RI,zaa 2,Uaa 5,Uaa 6,sP 21 RI,Uaa 22,Uaa 23,sP 42 RI,Uaa 43,Uaa 44,Xaa 66] Xam)]⟩,⟨15,1,qS (sP 1 RI::zaa 2::il [5,6]++sP 21 RI::il [22,23]++sP 42 RI::il [43,44]) Xam,[(.ret,qS Xat []),(.exit 2,qS [sP 1 RI,zaa 2,Uaa 5,Uaa 6,sP 21 RI,Uaa 22,Uaa 23,sP 42 RI,Uaa 43,Uaa 44,Xaa 45] Xam)]⟩,⟨6,2,qS [sP 1 RI,zaa 2,sP 21 RI,Uaa 22,Uaa 23] Xam,[(.ret,qS Xat []),(.exit 0,qS [sP 1 RI,zaa 2,sP 21 RI,Uaa 22,Uaa 23,Xaa 24] Xam)]⟩]⟩
def nn:Ctr:=⟨33,28,[.agg Uab,shU RI],[],[⟨zab,[.one],[]⟩],ap3 jM⟩
theorem pz:Lk 2 nn:=ls FQ (aC sy aN)
def Am:Int×Int×LDLn×Unit->Option ((Int×Int×LDLn×Unit)⊕(Int×Int×Bool×LDLn×Unit)):=λ(v0,v1,v2,_)=>bif(decide (v1<v0))then((gg v1).bind λx0=>
(fR v2 x0).bind λ_=>
(fR v2 x0).bind λ_=>let x3:=v2.modify x0 λe=>((-1),e.2);let x4:=w64 (v1+1);some (.inl (v0,x4,x3,())))else some (.inr (v0,v1,false,v2,()))
def o7:Option (LDLn×Unit):=bif(xe 4 4 3)then let x0:LDLn:=(List.replicate 4 (0,(false,[])));let x1:=fY x0.length;
(f9 Am NN (x1,0,x0,())).bind λ(_,_,_,x5,_)=>some (x5,())else none
def FP:X.Cfg:=⟨E0,[],[(3,RF)],[(lx 4 0 (Zaa 1 5::il [5,6]) [(5,uL [iu])] 7)]⟩
def sN:Ctr:=⟨36,29,[],[],[⟨uL [iu],[.one],[]⟩],λh=>o7⟩
theorem xt:Lk 1 sN:=ls FP aN
def tS:T2P->Option (T2P⊕(Int×LLI×Int×Int×LI×T2x)):=λ(v0,v1,v2,v3,v4,v5,v6,v7,v8,v9,ej,eq,eE,eG,eI,eK,_)=>bif(decide (v6<v5))then((gg v6).bind λx0=>
(fR v4 x0).bind λx1=>
(gg v0).bind λx2=>
(fR ej x2).bind λx3=>let x4:=w64 (x3+v6);
(gg x4).bind λx5=>
(fR eI x5).bind λ_=>
(fR eI x5).bind λ_=>let x8:=eI.modify x5 λe=>(e.1,x1);let x9:=w64 (v6+1);some (.inl (v0,v1,v2,v3,v4,v5,x9,v7,v8,v9,ej,eq,eE,eG,x8,eK,())))else some (.inr (v0,v1,v2,v3,v4,v5,v6,false,v7,v8,v9,ej,eq,eE,eG,eI,eK,()))
def pY:T2D->Option (T2D⊕(T0i⊕(LLI×T2x))):=λ(v0,v1,v2,v3,v4,v5)=>bif(decide (v2<v1))then((gg v2).bind λx0=>
(fR v0 x0).bind λx1=>let x2:=fY x1.length;
(gg v2).bind λx3=>
(fR v4 x3).bind λx4=>bif(decide (x2>x4))then(some (.inr (.inl (1,(),(),()))))else let x5:=fY x1.length;
(f9 tS NN (v2,v0,v1,v2,x1,x5,0,v3,v4,v5)).bind λ(_,x7,x8,x9,_,_,_,_,ah)=>let ax:=w64 (x9+1);some (.inl (x7,x8,ax,ah)))else some (.inr (.inr (v0,v1,v2,false,v3,v4,v5)))
def qH(a0:LDIn)(a1:LI)(a2:LLI)(a3:LI)(a4:Int):Option (LDCe×LDLn×Int×Unit):=
(jM a3 a4 a1).bind λ(x0,_)=>bif(!x0)then(some ([],[],1,()))else let x1:=fY a2.length;let x2:=fY a1.length;bif(x1 != x2)then(some ([],[],1,()))else bif(xe 512 512 2)then let x3:LDCe:=(List.replicate 512 (0,0));
(o7).bind λ(x4,_)=>let x5:=fY a2.length;
(match f9 pY NN (a2,x5,0,a0,a1,a2,a3,a4,(),(),x3,x4,())with
|none=>none
|some (.inl (x6,_,_,_))=>some ([],[],x6,())
|some (.inr (_,_,_,_,_,_,_,_,_,_,_,ak,am,_))=>some (ak,am,0,()))else none
def In:X.Cfg:=⟨E0,[nn,sN],[],[⟨16,0,qS (zl [2,3,4,6]++Uaa 7::sP 30 (yaa RW)::il [31,32]++sP 46 RW::il [47,48]) yao,[(.exit 2,qS (zl [2,3,4,6]++Uaa 7::sP 30 (yaa RW)::il [31,32]++sP 46 RW::il [47,48]++[Xaa 49]) yao)]⟩,⟨7,1,qS (zl [2,3,4,6]++sP 30 (yaa RW)::il [31,32]) yao,[(.ret,qS uav [(10,uac)]),(.exit 0,qS (zl [2,3,4,6]++sP 30 (yaa RW)::il [31,32]++[Xaa 33]) yao)]⟩]⟩
def Aa:Ctr:=⟨64,30,[.agg uab,.agg Uab],[],[⟨uL [(uaa KCe),iu,I64],[.agg 2,.one],[]⟩],ap5 qH⟩
theorem HE:Lk 3 Aa:=ls In (aC pz (aC xt aN))
def s9:T2p->Option (T2p⊕(Int×Bool×T2m)):=λ(v0,v1,v2,v3,v4,v5,v6,v7,v8,v9,ej,_)=>bif(decide (v0<4))then(bif(xe 8 8 2)then let x0:LDCe:=(List.replicate 8 (0,0));
(bif(v0==0)then(some (v0,v1,v2,v3,v4,v5,v6,v7,v8,v9,ej,1,x0,0,0,(-1),(-1),0,0,()))else some (v0,v1,v2,v3,v4,v5,v6,v7,v8,v9,ej,0,x0,0,0,(-1),(-1),0,0,()):Option (Int×Unit×Int×Unit×Unit×Unit×T2G)).bind λ(x1,x2,x3,x4,x5,x6,x7,x8,x9,ac,ae,af,ag,ah,ai,aj,ak,am,an,_)=>let ap:LDTh:=[(af,(ag,(ah,(ai,(aj,(ak,(am,an)))))))];bif(gh 80 ae.length ap.length)then let aq:LDTh:=(List.append ae ap);let av:=w64 (x1+1);some (.inl (av,x2,x3,x4,x5,x6,x7,x8,x9,ac,aq,()))else none else none)else some (.inr (v0,false,v1,v2,v3,v4,v5,v6,v7,v8,v9,ej,()))
def mP(a0:LDIn)(a1:LI)(a2:LLI)(a3:LI)(a4:Int):Option (LI×Int×LDCe×LDLn×LDTh×Int×Unit):=
(lh a0 a1 a2).bind λ(x0,_)=>bif(x0 != 0)then(some ([],0,[],[],[],x0,()))else
(jM a3 a4 a1).bind λ(x1,_)=>bif(!x1)then(some ([],0,[],[],[],1,()))else
(qH a0 a1 a2 a3 a4).bind λ(x2,x3,_,_)=>bif(gh 8 0 a3.length)then let x5:v_:=(List.append [] a3);
(f9 s9 NN (0,(),0,(),(),(),x5,a4,x2,x3,[],())).bind λ(_,_,_,_,_,_,_,ag,ah,ai,aj,ak,_)=>some (ag,ah,ai,aj,ak,0,())else none
def FI:X.Cfg:=⟨E0,[pH,nn,Aa],[(49,RE),(50,RE)],[⟨18,0,qE,[(.normal,qS (zl [4,9,11]++[Uaa 38]) [(10,Zab),(20,Zak),(24,Zaf)])]⟩,(lx 12 1 [zaa 4,zaa 9,Uaa 38] [(10,Zab),(20,Zak)] 39)]⟩
def sK:Ctr:=⟨38,31,[.agg uab,.agg Uab],[],[⟨uL [RI,CW,g9,i3,qo,I64],[.agg 5,.one],[]⟩],ap5 mP⟩
theorem xo:Lk 4 sK:=ls FI (aC sx (aC pz (aC HE aN)))
def g8(a0:LI)(a1 a2:Int):f_:=bif(decide (a1>=0))then(let x0:Int:=(fY a0.length);bif(decide (a1<x0))then(bif(decide (a2>=0))then((gg a1).bind λx1=>
(fR a0 x1).bind λx2=>some ((decide (a2<x2)),()))else some (false,()))else some (false,()))else some (false,())
def Dl:X.Cfg:=⟨E0,[],[],[]⟩
def lN:Ctr:=⟨63,32,[shU RI,.agg Zac],[],[⟨zab,[.one],[]⟩],ap3 g8⟩
theorem oe:Lk 1 lN:=ls Dl aN
def io(a0:LI)(a1 a2 a3 a4:Int):f_:=bif(a1==0)then(bif(a3==0)then(some ((a4==0),()))else some (false,()))else bif(a1==2)then(bif(a3==0)then(some ((a4==0),()))else some (false,()))else bif(a1==1)then(bif(a2==0)then((g8 a0 a3 a4).bind λ(x0,_)=>some (x0,()))else some (false,()))else some (false,())
def Dk:X.Cfg:=⟨E0,[lN],[],[]⟩
def lM:Ctr:=⟨35,33,[shU RI,.agg yag],[],[⟨zab,[.one],[]⟩],ap5 io⟩
theorem od:Lk 2 lM:=ls Dk (aC oe aN)
def lc:T28->Option (T28⊕((Bool×Unit)⊕(LI×LLCn×Int×Int×LDCn×T0O))):=λ(v0,v1,v2,v3,v4,v5,v6,v7)=>bif(decide (v6<v5))then((gg v6).bind λx0=>
(fR v4 x0).bind λx1=>
(io v0 x1.1 x1.2.1 x1.2.2.1 x1.2.2.2).bind λ(x2,_)=>bif(!x2)then(some (.inr (.inl (false,()))))else let x3:=w64 (v6+1);some (.inl (v0,v1,v2,v3,v4,v5,x3,v7)))else some (.inr (.inr (v0,v1,v2,v3,v4,v5,v6,false,v7)))
def lb:LI×T0X->Option ((LI×T0X)⊕((Bool×Unit)⊕(LI×LLCn×T0O))):=λ(v0,v1,v2,v3,v4)=>bif(decide (v3<v2))then((gg v3).bind λx0=>
(fR v1 x0).bind λx1=>let x2:=fY x1.length;
(match f9 lc NN (v0,v1,v2,v3,x1,x2,0,v4)with
|none=>none
|some (.inl (x3,_))=>some (.inr (.inl (x3,())))
|some (.inr (x3,x4,x5,x6,_,_,_,_,ae))=>let ag:=w64 (x6+1);some (.inl (x3,x4,x5,ag,ae))))else some (.inr (.inr (v0,v1,v2,v3,false,v4)))
def nR(a0:LI)(a1:z_)(a2:LDOp):f_:=let x0:=fY a1.length;
(match f9 lb NN (a0,a1,x0,0,a1,a2,())with
|none=>none
|some (.inl (x1,_))=>some (x1,())
|some (.inr (_,_))=>some (true,()))
def Dc:X.Cfg:=⟨E0,[lM],[],[⟨9,0,qS (sP 0 RI::sP 10 (yaa gj)::il [11,12]++sP 16 gj::il [17,18]) [(8,uae)],[(.ret,qS Xat []),(.exit 2,qS [sP 0 RI,sP 10 (yaa gj),Uaa 11,Uaa 12,sP 16 gj,Uaa 17,Uaa 18,Xaa 19] [(8,uae)])]⟩,⟨3,1,qS (sP 0 RI::sP 10 (yaa gj)::il [11,12]) [(8,uae)],[(.ret,qS Xat []),(.exit 0,qS [sP 0 RI,sP 10 (yaa gj),Uaa 11,Uaa 12,Xaa 13] [(8,uae)])]⟩]⟩
def vO:Ctr:=⟨126,34,[shU RI,.agg uae],[],[⟨zab,[.one],[]⟩],ap3 nR⟩
theorem CJ:Lk 3 vO:=ls Dc (aC od aN)
def kJ:T29->Option (T29⊕(LLCn×T1V)):=λ(v0,v1,v2,v3,v4,v5,v6,v7,v8,_)=>bif(decide (v2<v1))then((gg v2).bind λx0=>
(fR v0 x0).bind λx1=>bif(gh 24 0 x1.length)then let x2:LDCn:=(List.append [] x1);bif(gh 24 v7.length (List.length [x2]))then let x3:z_:=(List.append v7 [x2]);let x4:=w64 (v2+1);some (.inl (v0,v1,x4,v3,v4,v5,v6,x3,v8,()))else none else none)else some (.inr (v0,v1,v2,false,v3,v4,v5,v6,v7,v8,()))
def i8(a0:z_)(a1:LDOp):Option (T09):=bif(gh 24 0 a1.length)then let x0:LDOp:=(List.append [] a1);let x1:=fY a0.length;
(f9 kJ NN (a0,x1,0,a0,a1,(),(),[],x0,())).bind λ(_,_,_,_,_,_,_,_,ac)=>some (ac)else none
def H6:X.Cfg:=⟨E0,[],[(21,(uaa KCn)),(22,(uaa KCn))],[(lx 4 0 (zl [2,3]++sP 11 (yaa gj)::il [12,13]) [(4,uae),(6,uac),(8,zaf)] 14)]⟩
def kX:Ctr:=⟨149,35,[.agg uae],[],[⟨zaf,[.agg 2],[]⟩],ap2 i8⟩
theorem mq:Lk 1 kX:=ls H6 aN
def kH:LDOu×Int×Int×LDOu×Unit->Option ((LDOu×Int×Int×LDOu×Unit)⊕(LDOu×Int×Int×Bool×LDOu×Unit)):=λ(v0,v1,v2,v3,_)=>bif(decide (v2<v1))then((gg v2).bind λx0=>
(fR v0 x0).bind λx1=>bif(gh 24 0 x1.2.2.length)then let x2:LDCn:=(List.append [] x1.2.2);let x3:LDOu:=[(x1.1,(x1.2.1,x2))];bif(gh 40 v3.length x3.length)then let x4:LDOu:=(List.append v3 x3);let x5:=w64 (v2+1);some (.inl (v0,v1,x5,x4,()))else none else none)else some (.inr (v0,v1,v2,false,v3,()))
def kI(a0:LDOu):Option (LDOu×Unit):=let x0:=fY a0.length;
(f9 kH NN (a0,x0,0,[],())).bind λ(_,_,_,_,x5,_)=>some (x5,())
def HY:X.Cfg:=⟨E0,[],[(18,IZ),(19,IZ)],[(lx 4 0 (Zaa 3 9::sP 6 kY::il [7,8]) [(9,uak)] 9)]⟩
def ux:Ctr:=⟨150,36,uL [kY],[],[⟨uak,[.one],[]⟩],ap1 kI⟩
theorem zr:Lk 1 ux:=ls HY aN
def qz(a0 a1:LI)(a2:LLI)(a3:z_)(a4:LDOp)(a5:LDOu):Option (T1i):=bif(gh 2 0 a0.length)then let x0:v_:=(List.append [] a0);bif(gh 2 0 a1.length)then let x1:v_:=(List.append [] a1);
(iG a2).bind λ(x2,_)=>
(i8 a3 a4).bind λ(x3,x4,_)=>
(kI a5).bind λ(x5,_)=>some (x0,x1,x2,x3,x4,x5,())else none else none
def HV:X.Cfg:=⟨E0,[kD,kX,ux],[],[]⟩
def uu:Ctr:=⟨127,37,[.agg Zag],[],[⟨yak,[.agg 6],[]⟩],ap6 qz⟩
theorem zq:Lk 2 uu:=ls HV (aC na (aC mq (aC zr aN)))
def CA:T18->Option (T18⊕T1n):=λ(v0,v1,v2,v3,v4,v5,_)=>bif(decide (v1<v0))then((gg v1).bind λx0=>
(fR v4 x0).bind λ_=>
(fR v4 x0).bind λ_=>let x3:=v4.modify x0 λe=>(-1);let x4:=w64 (v1+1);some (.inl (v0,x4,v2,v3,x3,v5,())))else some (.inr (v0,v1,false,v2,v3,v4,v5,()))
def wo:Option (T08):=bif(xe 4 4 1)then let x0:v_:=(List.replicate 4 0);bif(xe 4 4 1)then let x1:List LI:=(List.replicate 4 []);let x2:=fY x0.length;
(f9 CA NN (x2,0,(),(),x0,x1,())).bind λ(_,_,_,_,_,x8)=>some (x8)else none else none
def JO:X.Cfg:=⟨E0,[],[(4,(uaa I64))],[(lx 4 0 (zl [0,1]++il [8,9]) [(2,uac),(4,uaf)] 10)]⟩
def Cm:Ctr:=⟨128,38,[],[],[⟨uaf,[.agg 2],[]⟩],λh=>wo⟩
theorem JC:Lk 1 Cm:=ls JO aN
def Al:T3H->Option (T3H⊕(Int×Bool×T3E)):=λ(v0,v1,v2,v3,v4,v5,v6,v7,v8,v9,ej,eq,eE,eG,eI,eK,eO,eS,eV,eX,eZ,fc,ff,fi,fk,fq,fr,fu,fv,fw,fA,fB,fC,fD,fE,fF,fG,_)=>bif(decide (v0<4))then(bif(gh 8 fG.length (List.length [(-1)]))then let x0:v_:=(List.append fG [(-1)]);let x1:=w64 (v0+1);some (.inl (x1,v1,v2,v3,v4,v5,v6,v7,v8,v9,ej,eq,eE,eG,eI,eK,eO,eS,eV,eX,eZ,fc,ff,fi,fk,fq,fr,fu,fv,fw,fA,fB,fC,fD,fE,fF,x0,()))else none)else some (.inr (v0,false,v1,v2,v3,v4,v5,v6,v7,v8,v9,ej,eq,eE,eG,eI,eK,eO,eS,eV,eX,eZ,fc,ff,fi,fk,fq,fr,fu,fv,fw,fA,fB,fC,fD,fE,fF,fG,()))
def r6(a0:LDIn)(a1:LI)(a2:LLI)(a3:LI)(a4:Int)(a5 a6:LI)(a7:LLI)(a8:z_)(a9:LDOp)(ef:LDOu):Option (LDIn×LI×LLI×LI×Int×LDCe×LDLn×LDTh×LI×LI×LLI×LLCn×LDOp×LDOu×LI×LLI×Unit×T07):=
(mP a0 a1 a2 a3 a4).bind λ(x0,x1,x2,x3,x4,x5,_)=>bif(x5 != 0)then(some ([],[],[],[],0,[],[],[],[],[],[],[],[],[],[],[],(),[],x5,()))else
(lf a5 a6 a7 a8 a9 ef).bind λ(x6,_)=>bif(!x6)then(some ([],[],[],[],0,[],[],[],[],[],[],[],[],[],[],[],(),[],1,()))else
(nR a1 a8 a9).bind λ(x7,_)=>bif(!x7)then(some ([],[],[],[],0,[],[],[],[],[],[],[],[],[],[],[],(),[],1,()))else
(qz a5 a6 a7 a8 a9 ef).bind λ(x8,x9,ac,ae,af,ag,_)=>
(wo).bind λ(ah,ai,_)=>
(f9 Al NN (0,(),(),(),(),0,(),(),(),(),(),(),(),(),(),(),(),(),(),a0,a1,a2,x0,x1,x2,x3,x4,x8,x9,ac,ae,af,ag,ah,ai,(),[],())).bind λ(_,_,_,_,_,_,_,_,_,_,_,_,_,_,_,_,_,_,_,_,aL,aM,aO,aP,aQ,aR,aS,aT,aU,aV,aW,aY,aZ,ba,bc,bd,be,bf,_)=>some (aL,aM,aO,aP,aQ,aR,aS,aT,aU,aV,aW,aY,aZ,ba,bc,bd,be,bf,0,())
def Fk:X.Cfg:=⟨E0,[sK,pF,vO,uu,Cm],[],[(lx 11 0 [zaa 6,zaa 10,Uaa 39] [(14,Uae),(22,uL [gO,RI,(yaa RW),RI,CW,g9,i3,qo,(uaa CW),(uaa CW),(uaa (uaa CW)),(uaa (uaa KCn)),(uaa KOp),(uaa IZ),(uaa I64),(uaa (uaa I64)),N1,(uaa I64)])] 40)]⟩
def xN:Ctr:=⟨93,39,[.agg uab,.agg Uab,.agg Zag],[],[⟨uL [gO,RI,(yaa RW),RI,CW,g9,i3,qo,(uaa CW),(uaa CW),(uaa (uaa CW)),(uaa (uaa KCn)),(uaa KOp),(uaa IZ),(uaa I64),(uaa (uaa I64)),N1,(uaa I64),I64],[.agg 18,.one],[]⟩],as2 (as8 ap1) r6⟩
theorem EM:Lk 5 xN:=ls Fk (aC xo (aC su (aC CJ (aC zq (aC JC aN)))))
def pm(a0:LI)(a1:Int):Option (T0N):=
(fS 4 a0 a1).bind λ(x0,x1,x2,_)=>let x3:v_:=[0,1,2,3,7,63];
(fS 6 x1 x2).bind λ(x4,x5,x6,_)=>
(gg x4).bind λx7=>
(fR x3 x7).bind λ_=>
(fR x3 x7).bind λx9=>
(fS 4 x5 x6).bind λ(ac,ae)=>some (x0,x9,(ac==0),ae)
def F9:X.Cfg:=⟨E0,[g7],[],[]⟩
def yp:Ctr:=⟨97,40,[.ptr ⟨2,0,[]⟩ [0]],[(2,yab)],[⟨yaj,[.agg 3],[(2,yab)]⟩],ap2 pm⟩
theorem Ff:Lk 4 yp:=ls F9 (aC ib aN)
def j3:T0C->Option (T0C⊕(LDTh×Int×Int×T00)):=λ(v0,v1,v2,v3,_)=>bif(decide (v2<v1))then(((gg v2).bind λx0=>
(fR v0 x0).bind λx1=>bif(x1.1==1)then(bif(gh 8 v3.length (List.length [v2]))then let x2:v_:=(List.append v3 [v2]);some (v0,v1,v2,x2,())else none)else some (v0,v1,v2,v3,()):Option (T0C)).bind λ(x0,x1,x2,x3,_)=>let x4:=w64 (x2+1);some (.inl (x0,x1,x4,x3,())))else some (.inr (v0,v1,v2,false,v3,()))
def o4(a0:LDTh):Option (LI×Unit):=let x0:=fY a0.length;
(f9 j3 NN (a0,x0,0,[],())).bind λ(_,_,_,_,x5,_)=>some (x5,())
def FF:X.Cfg:=⟨E0,[],[],[⟨7,0,qE,[(.normal,qS yaw [(9,Zae)])]⟩,(lx 4 1 yaw [(9,Zae)] 9)]⟩
def xX:Ctr:=⟨130,41,uL [og],[],[⟨Zae,[.one],[]⟩],ap1 o4⟩
theorem EW:Lk 1 xX:=ls FF aN
def nS(a0:LDIn)(a1:LI)(a2:LLI)(a3:LI)(a4:Int)(a5:LDCe)(a6:LDLn)(a7:LDTh)(a8 a9:LI)(ef:LLI)(ek:z_)(eu:LDOp)(eF:LDOu)(eH:LI)(eJ:LLI)(eM:LDEn)(eQ:LI):Option (T2Y):=bif(gh 8 0 eQ.length)then let x0:v_:=(List.append [] eQ);bif(gh 184 0 eM.length)then let x1:LDEn:=(List.append [] eM);some (a0,a1,a2,a3,a4,a5,a6,a7,a8,a9,ef,ek,eu,eF,eH,eJ,x1,x0,())else none else none
def Dd:X.Cfg:=⟨E0,[],[(9,Pw)],[]⟩
def vP:Ctr:=⟨131,42,[.agg Xah],[],[⟨ual,[.agg 18],[]⟩],as1 (as8 (as8 ap1)) nS⟩
theorem CK:Lk 1 vP:=ls Dd aN
def pT(a0:LI)(a1:Int)(a2:LDCe)(a3:LDLn)(a4:LDTh)(a5:Int):f_:=bif(decide (a5<0))then(some (false,()))else let x0:=fY a4.length;bif(decide (a5>=x0))then(some (false,()))else
(gg a5).bind λx1=>
(fR a4 x1).bind λx2=>bif(x2.1==1)then(bif(x2.2.2.2.2.1 != (-1))then(some ((x2.2.2.2.2.2.1==(-1)),()))else some (false,()))else some (false,())
def JN:X.Cfg:=⟨E0,[],[],[]⟩
def wH:Ctr:=⟨132,43,[.agg Uac,shU I64],[],[⟨zab,[.one],[]⟩],ap6 pT⟩
theorem Bt:Lk 1 wH:=ls JN aN
def kQ:T23->Option (T23⊕(LDLn×Int×Int×Bool×T1c)):=λ(v0,v1,v2,v3,v4,v5,v6,v7,v8,_)=>bif(decide (v2<v1))then((gg v2).bind λx0=>
(fR v0 x0).bind λx1=>bif(gh 4 0 x1.2.2.length)then let x2:LDCe:=(List.append [] x1.2.2);let x3:LDLn:=[(x1.1,(x1.2.1,x2))];bif(gh 40 v8.length x3.length)then let x4:LDLn:=(List.append v8 x3);let x5:=w64 (v2+1);some (.inl (v0,v1,x5,v3,v4,v5,v6,v7,x4,()))else none else none)else some (.inr (v0,v1,v2,false,v3,v4,v5,v6,v7,v8,()))
def qI(a0:LDCe)(a1:LDLn):Option (T05):=bif(gh 4 0 a0.length)then let x0:LDCe:=(List.append [] a0);let x1:=fY a1.length;
(f9 kQ NN (a1,x1,0,a0,a1,(),(),x0,[],())).bind λ(_,_,_,_,_,_,_,_,ac)=>some (ac)else none
def Io:X.Cfg:=⟨E0,[],[(24,RF),(25,RF)],[(lx 4 0 (zl [2,3]++sP 11 i3::il [12,13]) [(4,yaf),(6,uac),(8,Uad)] 14)]⟩
def Ab:Ctr:=⟨91,44,[.agg yaf],[],[⟨Uad,[.agg 2],[]⟩],ap2 qI⟩
theorem HF:Lk 1 Ab:=ls Io aN
def kN:T2Z->Option (T2Z⊕T36):=λ(v0,v1,v2,v3,v4,v5,v6,v7,v8,v9,ej,eq,eE,eG,eI,eK,eO,eS,_)=>bif(decide (v2<v1))then((gg v2).bind λx0=>
(fR v0 x0).bind λx1=>bif(gh 4 0 x1.2.1.length)then let x2:LDCe:=(List.append [] x1.2.1);let x3:LDTh:=[(x1.1,(x2,(x1.2.2.1,(x1.2.2.2.1,(x1.2.2.2.2.1,(x1.2.2.2.2.2.1,(x1.2.2.2.2.2.2.1,x1.2.2.2.2.2.2.2)))))))];bif(gh 80 eS.length x3.length)then let x4:LDTh:=(List.append eS x3);let x5:=w64 (v2+1);some (.inl (v0,v1,x5,v3,v4,v5,v6,v7,v8,v9,ej,eq,eE,eG,eI,eK,eO,x4,()))else none else none)else some (.inr (v0,v1,v2,false,v3,v4,v5,v6,v7,v8,v9,ej,eq,eE,eG,eI,eK,eO,eS,()))
def kO(a0:LI)(a1:Int)(a2:LDCe)(a3:LDLn)(a4:LDTh):Option (T0W):=bif(gh 8 0 a0.length)then let x0:v_:=(List.append [] a0);
(qI a2 a3).bind λ(x1,x2,_)=>let x3:=fY a4.length;
(f9 kN NN (a4,x3,0,a0,a1,a2,a3,a4,(),0,(),(),(),x0,a1,x1,x2,[],())).bind λ(_,_,_,_,_,_,_,_,_,_,_,_,_,_,am)=>some (am)else none
def Ii:X.Cfg:=⟨E0,[Ab],[(32,RE),(33,RE)],[(lx 4 0 (zl [2,3]++sP 19 og::il [20,21]) [(4,Uac),(6,Zab),(8,Xac)] 22)]⟩
def oC:Ctr:=⟨56,45,[.agg Uac],[],[⟨Xac,[.agg 5],[]⟩],ap5 kO⟩
theorem qU:Lk 2 oC:=ls Ii (aC HF aN)
def mG(a0:LI)(a1:Int)(a2:LDCe)(a3:LDLn)(a4:LDTh)(a5:Int):Option (T1g):=
(kO a0 a1 a2 a3 a4).bind λ(x0,x1,x2,x3,x4,_)=>
(pT a0 a1 a2 a3 a4 a5).bind λ(x5,_)=>bif(!x5)then(some (x0,x1,x2,x3,x4,false,()))else
(gg a5).bind λx6=>
(fR x4 x6).bind λ_=>
(fR x4 x6).bind λx8=>
(fR x4 x6).bind λx9=>
(fR x4 x6).bind λ_=>let ae:=x4.modify x6 λe=>(e.1,(e.2.1,(e.2.2.1,(e.2.2.2.1,(e.2.2.2.2.1,(x8.2.2.1,e.2.2.2.2.2.2))))));
(fR ae x6).bind λ_=>let ag:=ae.modify x6 λe=>(e.1,(e.2.1,(x9.2.2.2.2.1,e.2.2.2)));some (x0,x1,x2,x3,ag,true,())
def BN:X.Cfg:=⟨E0,[oC,wH],[],[]⟩
def uy:Ctr:=⟨133,46,[.agg Uac,shU I64],[],[⟨yal,[.agg 5,.one],[]⟩],ap6 mG⟩
theorem Bs:Lk 3 uy:=ls BN (aC qU (aC Bt aN))
def mU(a0 a1:Int):f_:=some ((decide (a0<=2)),())
def FV:X.Cfg:=⟨E0,[],[],[]⟩
def sQ:Ctr:=⟨79,47,[.agg Xab],[],[⟨zab,[.one],[]⟩],ap2 mU⟩
theorem xu:Lk 1 sQ:=ls FV aN
def nW:T0j->Option (T0j⊕((Bool×Unit)⊕T0B)):=λ(v0,v1,v2,_)=>bif(decide (v2<v1))then((gg v2).bind λx0=>
(fR v0 x0).bind λx1=>
(mU x1.1 x1.2).bind λ(x2,_)=>bif(!x2)then(some (.inr (.inl (false,()))))else let x3:=w64 (v2+1);some (.inl (v0,v1,x3,())))else some (.inr (.inr (v0,v1,v2,false,())))
def pX(a0:LDCe):f_:=let x0:=fY a0.length;
(match f9 nW NN (a0,x0,0,())with
|none=>none
|some (.inl (x1,_))=>some (x1,())
|some (.inr (_,_))=>some (true,()))
def JU:X.Cfg:=⟨E0,[sQ],[],[⟨3,0,qS (sP 5 g9::il [6,7]) [],[(.ret,qS Uat []),(.exit 0,qS [sP 5 g9,Uaa 6,Uaa 7,Xaa 8] [])]⟩]⟩
def Cr:Ctr:=⟨78,48,uL [g9],[],[⟨zab,[.one],[]⟩],ap1 pX⟩
theorem JH:Lk 2 Cr:=ls JU (aC xu aN)
def l9:T0U->Option (T0U⊕((Bool×Unit)⊕T1e)):=λ(v0,v1,v2,v3)=>bif(decide (v2<v1))then((gg v2).bind λx0=>
(fR v0 x0).bind λx1=>bif(x1.1==(-1))then(bif x1.2.1 then(some (.inr (.inl (false,()))))else let x2:=fY x1.2.2.length;bif(decide (x2>0))then(some (.inr (.inl (false,()))))else let x3:=w64 (v2+1);some (.inl (v0,v1,x3,v3)))else
(bif(decide (x1.1<0))then(some (v0,v1,v2,true,v3))else bif(decide (x1.1>=128))then(some (v0,v1,v2,true,v3))else let x2:=Int.tmod x1.1 4;bif(x2 != v2)then(some (v0,v1,v2,true,v3))else let x3:=fY x1.2.2.length;bif(x3 != 4)then(some (v0,v1,v2,true,v3))else
(pX x1.2.2).bind λ(x4,_)=>some (v0,v1,v2,(!x4),v3):Option (T1e)).bind λ(x2,x3,x4,x5,x6)=>bif x5 then(some (.inr (.inl (false,()))))else let x8:=w64 (x4+1);some (.inl (x2,x3,x8,x6)))else some (.inr (.inr (v0,v1,v2,false,v3)))
def o6(a0:LDCe)(a1:LDLn):f_:=
(let x0:=fY a0.length;bif(x0 != 512)then(some (true,a0,a1,()))else let x1:=fY a1.length;bif(x1 != 4)then(some (true,a0,a1,()))else
(pX a0).bind λ(x2,_)=>some ((!x2),a0,a1,()):Option (T0d)).bind λ(x0,x1,x2,_)=>bif x0 then(some (false,()))else let x3:=fY x2.length;
(match f9 l9 NN (x2,x3,0,x1,x2,())with
|none=>none
|some (.inl (x4,_))=>some (x4,())
|some (.inr (_,_))=>some (true,()))
def FO:X.Cfg:=⟨E0,[Cr],[],[⟨2,0,qE,[(.normal,qS [zaa 1,Xaa 20] uan)]⟩,⟨16,1,qE,[(.normal,qS [sP 22 i3,Uaa 23,Uaa 24,Xaa 66] uan)]⟩,⟨6,2,qS (sP 22 i3::il [23,24]) uan,[(.ret,qS Uat []),(.exit 0,qS [sP 22 i3,Uaa 23,Uaa 24,Xaa 25] uan)]⟩]⟩
def yb:Ctr:=⟨46,49,[.agg yaf],[],[⟨zab,[.one],[]⟩],ap2 o6⟩
theorem E1:Lk 3 yb:=ls FO (aC JH aN)
def lW:T2q->Option (T2q⊕((Bool×Unit)⊕(LDCe×Int×Int×Bool×T1N))):=λ(v0,v1,v2,v3)=>bif(decide (v2<v1))then((gg v2).bind λx0=>
(fR v0 x0).bind λx1=>
(mU x1.1 x1.2).bind λ(x2,_)=>bif(!x2)then(some (.inr (.inl (false,()))))else let x3:=w64 (v2+1);some (.inl (v0,v1,x3,v3)))else some (.inr (.inr (v0,v1,v2,false,v3)))
def oZ(a0:Int)(a1:LDCe)(a2 a3 a4 a5 a6 a7:Int):f_:=let x0:=fY a1.length;
(match f9 lW NN (a1,x0,0,a0,a1,a2,a3,a4,a5,a6,a7,())with
|none=>none
|some (.inl (x1,_))=>some (x1,())
|some (.inr (_,_,_,_,x5,x6,x7,x8,x9,ac,ae,_,_))=>bif(decide (x5>=0))then(bif(decide (x5<=4))then(let ag:Int:=(fY x6.length);bif(ag==8)then(bif(decide (x7>=0))then(bif(decide (x7<=255))then(bif(decide (x8>=0))then(bif(decide (x8<=1099511627776))then(bif(decide (x9>=(-1)))then(bif(decide (x9<=255))then(bif(decide (ac>=(-1)))then(bif(decide (ac<=255))then(bif(decide (ae>=0))then(some ((decide (ae<=6)),()))else some (false,()))else some (false,()))else some (false,()))else some (false,()))else some (false,()))else some (false,()))else some (false,()))else some (false,()))else some (false,()))else some (false,()))else some (false,()))else some (false,()))
def FE:X.Cfg:=⟨E0,[sQ],[],[⟨3,0,qS (zaa 1::sP 6 g9::il [7,8]) [(4,uad)],[(.ret,qS Uat []),(.exit 0,qS [zaa 1,sP 6 g9,Uaa 7,Uaa 8,Xaa 9] [(4,uad)])]⟩]⟩
def xW:Ctr:=⟨47,50,[.agg uad],[],[⟨zab,[.one],[]⟩],as1 (as2 (as4 ap1)) oZ⟩
theorem EV:Lk 2 xW:=ls FE (aC xu aN)
def oI:T1P->Option (T1P⊕((Bool×Unit)⊕(LDTh×Int×Int×T12))):=λ(v0,v1,v2,v3)=>bif(decide (v2<v1))then((gg v2).bind λx0=>
(fR v0 x0).bind λx1=>
(oZ x1.1 x1.2.1 x1.2.2.1 x1.2.2.2.1 x1.2.2.2.2.1 x1.2.2.2.2.2.1 x1.2.2.2.2.2.2.1 x1.2.2.2.2.2.2.2).bind λ(x2,_)=>bif(!x2)then(some (.inr (.inl (false,()))))else let x3:=w64 (v2+1);some (.inl (v0,v1,x3,v3)))else some (.inr (.inr (v0,v1,v2,false,v3)))
def jL(a0:LDIn)(a1:LI)(a2:LLI)(a3:LI)(a4:Int)(a5:LDCe)(a6:LDLn)(a7:LDTh):f_:=
((lh a0 a1 a2).bind λ(x0,_)=>bif(x0 != 0)then(some (true,a3,a4,a5,a6,a7,()))else
(jM a3 a4 a1).bind λ(x1,_)=>bif(!x1)then(some (true,a3,a4,a5,a6,a7,()))else
(o6 a5 a6).bind λ(x2,_)=>bif(!x2)then(some (true,a3,a4,a5,a6,a7,()))else let x3:=fY a7.length;some ((x3 != 4),a3,a4,a5,a6,a7,()):Option (T12)).bind λ(x0,x1,x2,x3,x4,x5,_)=>bif x0 then(some (false,()))else let x6:=fY x5.length;
(match f9 oI NN (x5,x6,0,x1,x2,x3,x4,x5,())with
|none=>none
|some (.inl (x7,_))=>some (x7,())
|some (.inr (_,_))=>some (true,()))
def FC:X.Cfg:=⟨E0,[pH,nn,yb,xW],[],[⟨2,0,qE,[(.normal,qS [zaa 3,Xaa 29] [(8,Uac)])]⟩,⟨6,1,qS (sP 31 og::il [32,33]) [(8,Uac)],[(.ret,qS Xat []),(.exit 0,qS [sP 31 og,Uaa 32,Uaa 33,Xaa 34] [(8,Uac)])]⟩]⟩
def nj:Ctr:=⟨17,51,[.agg uab,.agg Uac],[],[⟨zab,[.one],[]⟩],as1 (as2 (as4 ap1)) jL⟩
theorem py:Lk 4 nj:=ls FC (aC sx (aC pz (aC E1 (aC EV aN))))
def it(a0:Nat)(a1:Int)(a2:LDTh):Option (Int×LDTh×Unit):=
(fR a2 a0).bind λ_=>let x1:=a2.modify a0 λe=>(4,e.2);
(fR x1 a0).bind λ_=>let x3:=x1.modify a0 λe=>(e.1,(e.2.1,(e.2.2.1,(e.2.2.2.1,(e.2.2.2.2.1,(e.2.2.2.2.2.1,(a1,e.2.2.2.2.2.2.2)))))));
(fR x3 a0).bind λ_=>let x5:=x3.modify a0 λe=>(e.1,(e.2.1,(e.2.2.1,(e.2.2.2.1,(e.2.2.2.2.1,(e.2.2.2.2.2.1,(e.2.2.2.2.2.2.1,0)))))));some (2,x5,())
def If:X.Cfg:=⟨E0,[],[],[]⟩
def zY:Ctr:=⟨175,52,[.ptr ⟨2,0,[((),(8,0))]⟩ [0,0],shU I64],[(2,uL [qo])],[⟨zac,[.one],[(2,uL [qo])]⟩],ap3 it⟩
theorem HC:Lk 1 zY:=ls If aN
def gH:T26->Option (T26⊕(T0c⊕(LI×T20))):=λ(v0,v1,v2,v3,v4,v5)=>bif(decide (v4<v3))then((match((gg v4).bind λx0=>
(fR v2 x0).bind λx1=>bif(decide (v1>=x1))then((gg v4).bind λx2=>
(fR v0 x2).bind λx3=>let x4:=w64 (x1+x3);bif(decide (v1<x4))then(let x5:Int:=(w64 (v1-x1));some (.inl (true,v4,x5,())))else some (.inr (v0,v1,v4,x1,v2,v3,v4,false,v5)))else some (.inr (v0,v1,v4,x1,v2,v3,v4,false,v5)):Option (T0c⊕(LI×Int×Int×T20)))with
|none=>none
|some (.inl (x0,x1,x2,_))=>some (.inr (.inl (x0,x1,x2,())))
|some (.inr (x0,x1,_,_,x4,x5,x6,_,x8))=>let af:=w64 (x6+1);some (.inl (x0,x1,x4,x5,af,x8))))else some (.inr (.inr (v0,v1,v2,v3,v4,false,v5)))
def gS(a0:LI)(a1:Int)(a2:LI)(a3:Int):Option (T0e):=let x0:=fY a0.length;
(match f9 gH NN (a2,a3,a0,x0,0,a0,a1,0,0,())with
|none=>none
|some (.inl (x1,x2,x3,_))=>some (x2,x3,x1,())
|some (.inr (_,_,_,_))=>some (0,0,false,()))
def BS:X.Cfg:=⟨E0,[],[],[⟨6,0,qE,[(.ret,qS Xau [(14,Zac)]),(.normal,qS [sP 1 RI,Uaa 2,zaa 6,Uaa 8,Uaa 9,sP 11 RI,Uaa 12,Uaa 13,Xaa 30] zap)]⟩,⟨3,1,qS [sP 1 RI,Uaa 2,zaa 6,sP 11 RI,Uaa 12,Uaa 13] zap,[(.ret,qS Xau [(14,Zac)]),(.exit 0,qS [sP 1 RI,Uaa 2,zaa 6,sP 11 RI,Uaa 12,Uaa 13,Xaa 14] zap)]⟩]⟩
def jC:Ctr:=⟨27,53,[.agg Uab,shU RI,shU I64],[],[⟨yaj,[.agg 2,.one],[]⟩],ap4 gS⟩
theorem kU:Lk 1 jC:=ls BS aN
def iC(a0:LI)(a1:Int)(a2:LI)(a3 a4 a5:Int)(a6:Bool):Option (T0f):=bif(a3 != 1)then(some (0,0,3,()))else let x0:=wk .i64 a4;
(gS a0 a1 a2 x0).bind λ(x1,x2,x3,_)=>bif(!x3)then(some (0,0,4,()))else
(bif a6 then(let x4:Int:=(wk .i64 a5);let x5:=w64 (x2-x4);some (a2,a0,a1,0,0,x1,x5,()))else let x4:=wk .i64 a5;let x5:=w64 (x2+x4);some (a2,a0,a1,0,0,x1,x5,()):Option (LI×LI×T0P)).bind λ(x4,x5,_,_,_,x9,ac,_)=>
(g8 x4 x9 ac).bind λ(ae,_)=>bif(!ae)then(some (0,0,4,()))else
(gg x9).bind λaf=>
(fR x5 af).bind λag=>let ah:=w64 (ag+ac);let ai:=wk .u16 ah;some (1,ai,0,())
def Ih:X.Cfg:=⟨E0,[jC,lN],[],[⟨8,0,qE,[(.normal,qS (sP 1 RI::zl [5,10,12]) [(12,Uab),(22,Xab),(26,Zac)])]⟩]⟩
def uF:Ctr:=⟨176,54,[.agg Uab,shU RI,.agg Xab,shU CW,shU .bool],[],[⟨zai,[.agg 2,.one],[]⟩],as2 (as4 ap1) iC⟩
theorem zy:Lk 2 uF:=ls Ih (aC kU (aC oe aN))
def mS(a0:Int)(a1:LDCe)(a2:LDLn):Option (Nat×T05):=let x0:=w64 (Int.tdiv a0 4);let x1:=Int.tmod x0 4;
(gg x1).bind λx2=>
(fR a2 x2).bind λ_=>
(fR a2 x2).bind λx4=>bif(x4.1==x0)then(some (x2,a1,a2,()))else
((fR a2 x2).bind λx5=>bif x5.2.1 then((fR a2 x2).bind λx6=>let x7:=w64 (x6.1*4);
(gg x7).bind λx8=>bif(iK x8 a1.length a1.length)then(fR a2 x2).bind λ_=>
(fR a2 x2).bind λac=>bif(iK x8 (Nat.add x8 (Nat.min ac.2.2.length (Nat.sub a1.length x8))) a1.length)then bif(Nat.blt 0 (Nat.min ac.2.2.length (Nat.sub a1.length x8)))then(let ae:LDCe:=(p5 a1 x8 (Nat.min ac.2.2.length (Nat.sub a1.length x8)) ac.2.2);let af:=(fY (Nat.min ac.2.2.length (Nat.sub a1.length x8)));some (x0,x2,ae,a2,()))else let ae:=(fY (Nat.min ac.2.2.length (Nat.sub a1.length x8)));some (x0,x2,a1,a2,())else none else none)else some (x0,x2,a1,a2,()):Option (Int×Nat×T05)).bind λ(x5,x6,x7,x8,_)=>
(fR x8 x6).bind λ_=>let ac:=x8.modify x6 λe=>(x5,e.2);
(fR ac x6).bind λ_=>let af:=ac.modify x6 λe=>(e.1,(false,e.2.2));let ag:=w64 (x5*4);let ah:=w64 (x5+1);let ai:=w64 (ah*4);
(gg ag).bind λaj=>
(gg ai).bind λak=>bif(iK aj ak x7.length)then bif(gh 4 0 (List.length (nv x7 aj (Nat.sub ak aj))))then let am:LDCe:=(List.append [] (nv x7 aj (Nat.sub ak aj)));
(fR af x6).bind λ_=>let ap:=af.modify x6 λe=>(e.1,(e.2.1,am));some (x6,x7,ap,())else none else none
def FN:X.Cfg:=⟨E0,[],[],[⟨6,0,qE,[(.normal,(qS [zaa 0,Uaa 5,(6,.ptr ⟨2,1,[((),(3,0))]⟩ [0,0])] [(2,Uad)]))]⟩]⟩
def sM:Ctr:=⟨192,55,[.ptr ⟨2,0,[]⟩ [0],shU I64],[(2,Uad)],[⟨[.ptr ⟨2,1,[((),(3,0))]⟩ [0,0]],[.ptr],[(2,Uad)]⟩],ap3 mS⟩
theorem xr:Lk 1 sM:=ls FN aN
def qG(a0:Int)(a1:LDCe)(a2:LDLn):Option (T0x):=
(mS a0 a1 a2).bind λ(x0,x1,x2,_)=>
(fR x2 x0).bind λ_=>let x4:=Int.tmod a0 4;
(gg x4).bind λx5=>
(fR x2 x0).bind λx6=>
(fR x6.2.2 x5).bind λ_=>
(fR x2 x0).bind λx8=>
(fR x8.2.2 x5).bind λx9=>some (x9.1,x9.2,x1,x2,())
def Im:X.Cfg:=⟨E0,[sM],[],[]⟩
def zZ:Ctr:=⟨177,56,[.ptr ⟨2,0,[]⟩ [0],shU I64],[(2,Uad)],[⟨Xab,[.agg 2],[(2,Uad)]⟩],ap3 qG⟩
theorem HD:Lk 2 zZ:=ls Im (aC xr aN)
def mQ(a0 a1 a2:Int)(a3:LDCe)(a4:LDLn):Option (T05):=
(mS a0 a3 a4).bind λ(x0,x1,x2,_)=>
(fR x2 x0).bind λ_=>let x4:=Int.tmod a0 4;
(gg x4).bind λx5=>
(fR x2 x0).bind λx6=>
(fR x6.2.2 x5).bind λ_=>
(fR x2 x0).bind λx8=>
(fR x8.2.2 x5).bind λ_=>let ac:=x2.modify x0 λe=>(e.1,(e.2.1,(e.2.2.modify x5 λe=>(a1,a2))));
(fR ac x0).bind λ_=>let af:=ac.modify x0 λe=>(e.1,(true,e.2.2));some (x1,af,())
def FM:X.Cfg:=⟨E0,[sM],[],[]⟩
def sL:Ctr:=⟨178,57,[.ptr ⟨2,0,[]⟩ [0],shU I64,.agg Xab],[(2,Uad)],[⟨[],[],[(2,Uad)]⟩],ap5 mQ⟩
theorem xp:Lk 2 sL:=ls FM (aC xr aN)
def mo(a0:Bool):Option (T02):=bif a0 then(some (0,1,()))else some (0,0,())
def Ig:X.Cfg:=⟨E0,[],[],[]⟩
def uE:Ctr:=⟨193,58,zab,[],[⟨Xab,[.agg 2],[]⟩],ap1 mo⟩
theorem zx:Lk 1 uE:=ls Ig aN
def mN(a0 a1 a2:Int):Option (T0f):=bif(a0==3)then(let x0:Int:=(wk .u16 (a1+a2));some (0,x0,0,()))else bif(a0==4)then(let x0:Int:=(wk .u16 (a1-a2));some (0,x0,0,()))else bif(a0==5)then(let x0:Int:=(wk .u16 (a1*a2));some (0,x0,0,()))else bif(a0==6)then(bif(a2==0)then(some (0,0,5,()))else bif(a0==6)then(bif(a2 != 0)then let x0:Int:=(wk .u16 (Int.tdiv a1 a2));some (0,x0,0,())else none)else bif(a2 != 0)then let x0:Int:=(Int.tmod a1 a2);some (0,x0,0,())else none)else bif(a0==7)then(bif(a2==0)then(some (0,0,5,()))else bif(a0==6)then(bif(a2 != 0)then let x0:Int:=(wk .u16 (Int.tdiv a1 a2));some (0,x0,0,())else none)else bif(a2 != 0)then let x0:Int:=(Int.tmod a1 a2);some (0,x0,0,())else none)else bif(a0==8)then(let x0:Int:=(arR .and .u16 a1 a2);some (0,x0,0,()))else bif(a0==9)then(let x0:Int:=(arR .or .u16 a1 a2);some (0,x0,0,()))else bif(a0==10)then(let x0:Int:=(arR .xor .u16 a1 a2);some (0,x0,0,()))else bif(a0==11)then(let x0:Int:=(Int.tmod a2 16);
(gg x0).bind λx1=>let x2:Int:=(shR .shl .u16 a1 x1);some (0,x2,0,()))else bif(a0==12)then(let x0:Int:=(Int.tmod a2 16);
(gg x0).bind λx1=>let x2:Int:=(shR .shr .u16 a1 x1);some (0,x2,0,()))else
(mo (decide (a1<a2))).bind λ(x0,x1,_)=>some (x0,x1,0,())
def BQ:X.Cfg:=⟨E0,[uE],[],[]⟩
def uD:Ctr:=⟨194,59,uL [I64,CW,CW],[],[⟨zai,[.agg 2,.one],[]⟩],ap3 mN⟩
theorem Bw:Lk 2 uD:=ls BQ (aC zx aN)
def mO(a0:LI)(a1:Int)(a2:LI)(a3 a4 a5 a6:Int):Option (Int×Int×T0e):=let x0:=wk .i64 a4;
(gS a0 a1 a2 x0).bind λ(x1,x2,x3,_)=>let x4:=wk .i64 a6;
(gS a0 a1 a2 x4).bind λ(x5,x6,x7,_)=>bif x3 then(bif x7 then(some (x1,x2,x5,x6,(x1==x5),()))else some (x1,x2,x5,x6,false,()))else some (x1,x2,x5,x6,false,())
def FH:X.Cfg:=⟨E0,[jC],[],[]⟩
def xZ:Ctr:=⟨195,60,[.agg Uab,shU RI,.agg Xab,.agg Xab],[],[⟨uL [I64,I64,I64,I64,.bool],[.agg 2,.agg 2,.one],[]⟩],as2 (as4 ap1) mO⟩
theorem EY:Lk 2 xZ:=ls FH (aC kU aN)
def u4(a0:LI)(a1:Int)(a2:LI)(a3 a4 a5 a6 a7:Int):Option (T0f):=bif(decide (a3<3))then(some (0,0,1,()))else bif(decide (a3>14))then(some (0,0,1,()))else
(match(bif(a3==14)then((mo ((a4==a6)&&((a5==a7)&&true))).bind λ(x0,x1,_)=>some (.inl (0,x0,x1,())))else bif(a4==0)then(bif(a6==0)then((mN a3 a5 a7).bind λ(x0,x1,x2,_)=>some (.inl (x2,x0,x1,())))else
(bif(a3==3)then(bif(a4==1)then(some (a2,a3,(a6==0),a0,a1,a4,a5,a6,a7,0,0,()))else some (a2,a3,false,a0,a1,a4,a5,a6,a7,0,0,()))else some (a2,a3,false,a0,a1,a4,a5,a6,a7,0,0,()):Option (T2s)).bind λ(x0,x1,x2,x3,x4,x5,x6,x7,x8,x9,ac,_)=>bif x2 then((iC x3 x4 x0 x5 x6 x8 false).bind λ(ae,af,ag,_)=>some (.inl (ag,ae,af,())))else
(bif(x1==3)then(bif(x5==0)then(some (x0,x1,(x7==1),x3,x4,x5,x6,x7,x8,x9,ac,()))else some (x0,x1,false,x3,x4,x5,x6,x7,x8,x9,ac,()))else some (x0,x1,false,x3,x4,x5,x6,x7,x8,x9,ac,()):Option (T2s)).bind λ(ae,af,ag,ah,ai,aj,ak,am,an,ap,aq,_)=>bif ag then((iC ah ai ae am an ak false).bind λ(av,ax,ay,_)=>some (.inl (ay,av,ax,())))else
(bif(af==4)then(bif(aj==1)then(some (ae,af,(am==0),ah,ai,aj,ak,am,an,ap,aq,()))else some (ae,af,false,ah,ai,aj,ak,am,an,ap,aq,()))else some (ae,af,false,ah,ai,aj,ak,am,an,ap,aq,()):Option (T2s)).bind λ(av,ax,ay,az,aA,aB,aD,aE,aF,aG,aH,_)=>bif ay then((iC az aA av aB aD aF true).bind λ(aI,aJ,aK,_)=>some (.inl (aK,aI,aJ,())))else
(bif(ax==4)then(bif(aB==1)then(some (av,ax,(aE==1),az,aA,aB,aD,aE,aF,aG,aH,()))else some (av,ax,false,az,aA,aB,aD,aE,aF,aG,aH,()))else bif(ax==13)then(bif(aB==1)then(some (av,ax,(aE==1),az,aA,aB,aD,aE,aF,aG,aH,()))else some (av,ax,false,az,aA,aB,aD,aE,aF,aG,aH,()))else some (av,ax,false,az,aA,aB,aD,aE,aF,aG,aH,()):Option (T2s)).bind λ(aI,aJ,aK,aL,aM,aO,aP,aQ,aR,aS,aT,_)=>bif aK then((mO aL aM aI aO aP aQ aR).bind λ(_,aV,_,aY,aZ,_)=>bif(!aZ)then(some (.inl (4,0,0,())))else bif(aJ==13)then((mo (decide (aV<aY))).bind λ(ba,bc,_)=>some (.inl (0,ba,bc,())))else let ba:=w64 (aV-aY);let bc:=wk .u16 ba;some (.inl (0,0,bc,())))else some (.inr (aI,aJ,false,aL,aM,aO,aP,aQ,aR,aS,aT,())))else
(bif(a3==3)then(bif(a4==1)then(some (a2,a3,(a6==0),a0,a1,a4,a5,a6,a7,0,0,()))else some (a2,a3,false,a0,a1,a4,a5,a6,a7,0,0,()))else some (a2,a3,false,a0,a1,a4,a5,a6,a7,0,0,()):Option (T2s)).bind λ(x0,x1,x2,x3,x4,x5,x6,x7,x8,x9,ac,_)=>bif x2 then((iC x3 x4 x0 x5 x6 x8 false).bind λ(ae,af,ag,_)=>some (.inl (ag,ae,af,())))else
(bif(x1==3)then(bif(x5==0)then(some (x0,x1,(x7==1),x3,x4,x5,x6,x7,x8,x9,ac,()))else some (x0,x1,false,x3,x4,x5,x6,x7,x8,x9,ac,()))else some (x0,x1,false,x3,x4,x5,x6,x7,x8,x9,ac,()):Option (T2s)).bind λ(ae,af,ag,ah,ai,aj,ak,am,an,ap,aq,_)=>bif ag then((iC ah ai ae am an ak false).bind λ(av,ax,ay,_)=>some (.inl (ay,av,ax,())))else
(bif(af==4)then(bif(aj==1)then(some (ae,af,(am==0),ah,ai,aj,ak,am,an,ap,aq,()))else some (ae,af,false,ah,ai,aj,ak,am,an,ap,aq,()))else some (ae,af,false,ah,ai,aj,ak,am,an,ap,aq,()):Option (T2s)).bind λ(av,ax,ay,az,aA,aB,aD,aE,aF,aG,aH,_)=>bif ay then((iC az aA av aB aD aF true).bind λ(aI,aJ,aK,_)=>some (.inl (aK,aI,aJ,())))else
(bif(ax==4)then(bif(aB==1)then(some (av,ax,(aE==1),az,aA,aB,aD,aE,aF,aG,aH,()))else some (av,ax,false,az,aA,aB,aD,aE,aF,aG,aH,()))else bif(ax==13)then(bif(aB==1)then(some (av,ax,(aE==1),az,aA,aB,aD,aE,aF,aG,aH,()))else some (av,ax,false,az,aA,aB,aD,aE,aF,aG,aH,()))else some (av,ax,false,az,aA,aB,aD,aE,aF,aG,aH,()):Option (T2s)).bind λ(aI,aJ,aK,aL,aM,aO,aP,aQ,aR,aS,aT,_)=>bif aK then((mO aL aM aI aO aP aQ aR).bind λ(_,aV,_,aY,aZ,_)=>bif(!aZ)then(some (.inl (4,0,0,())))else bif(aJ==13)then((mo (decide (aV<aY))).bind λ(ba,bc,_)=>some (.inl (0,ba,bc,())))else let ba:=w64 (aV-aY);let bc:=wk .u16 ba;some (.inl (0,0,bc,())))else some (.inr (aI,aJ,false,aL,aM,aO,aP,aQ,aR,aS,aT,())):Option (T0f⊕T2s))with
|none=>none
|some (.inl (x0,x1,x2,_))=>some (x1,x2,x0,())
|some (.inr (_,_,_,_,_,_,_,_,_,_,_,_))=>some (0,0,3,()))
def Ms:X.Cfg:=⟨E0,[uE,uD,uF,xZ],[],[⟨9,0,qE,[(.normal,qS (sP 1 RI::Uaa 2::zl [5,8,9,10]++[Xaa 46]) Uan)]⟩,⟨11,1,qE,[(.normal,qS (sP 1 RI::Uaa 2::zl [5,8,9,10]++[Xaa 67]) Uan)]⟩,⟨13,2,qE,[(.normal,qS (sP 1 RI::Uaa 2::zl [5,8,9,10]++[Xaa 88]) Uan)]⟩,⟨15,3,qE,[(.normal,qS zaw Uan)]⟩,⟨4,4,qE,[(.ret,qS [zaa 10,Uaa 11] [(22,Xab)]),(.normal,qS zaw Uan)]⟩]⟩
def Ea:Ctr:=⟨179,61,[.agg Uab,shU RI,shU I64,.agg Xab,.agg Xab],[],[⟨zai,[.agg 2,.one],[]⟩],as1 (as2 (as4 ap1)) u4⟩
theorem Mk:Lk 3 Ea:=ls Ms (aC zx (aC Bw (aC zy (aC EY aN))))
def nV(a0:Int):f_:=
(iQ a0).bind λ(x0,_)=>bif x0 then(some (true,()))else bif(a0==22)then(some (true,()))else some ((a0==24),())
def Dj:X.Cfg:=⟨E0,[mt],[],[]⟩
def vV:Ctr:=⟨180,62,zac,[],[⟨zab,[.one],[]⟩],ap1 nV⟩
theorem CP:Lk 2 vV:=ls Dj (aC oz aN)
def sc(a0:LDIn)(a1:LI)(a2:LLI)(a3:Int)(a4:LI)(a5:Int)(a6:LDCe)(a7:LDLn)(a8:LDTh):Option (T1a):=
(gg a3).bind λx0=>
(fR a8 x0).bind λ_=>
(fR a8 x0).bind λx2=>let x3:=fY a0.length;bif(decide (x2.2.2.1>=x3))then((it x0 2 a8).bind λ(x4,x5,_)=>some (x4,a4,a5,a6,a7,x5,()))else
(fR a8 x0).bind λx4=>
(gg x4.2.2.1).bind λx5=>
(fR a0 x5).bind λx6=>
(fR a8 x0).bind λx7=>let x8:=w64 (x7.2.2.1+1);
(fR a8 x0).bind λ_=>
(gg x6.2.1).bind λac=>
(fR a8 x0).bind λae=>
(fR ae.2.1 ac).bind λ_=>
(fR a8 x0).bind λag=>
(fR ag.2.1 ac).bind λah=>
(fR a8 x0).bind λ_=>
(gg x6.2.2.1).bind λaj=>
(fR a8 x0).bind λak=>
(fR ak.2.1 aj).bind λ_=>
(fR a8 x0).bind λan=>
(fR an.2.1 aj).bind λap=>
(match(bif(x6.1==0)then(some (.inl (x0,x8,a4,a5,a6,a7,a8,x6.1,x6.2.1,x6.2.2.1,x6.2.2.2.1,x6.2.2.2.2,())))else bif(x6.1==1)then((fR a8 x0).bind λ_=>let av:=wk .u16 x6.2.2.2.2;
(gg x6.2.1).bind λax=>
(fR a8 x0).bind λay=>
(fR ay.2.1 ax).bind λ_=>
(fR a8 x0).bind λaA=>
(fR aA.2.1 ax).bind λ_=>let aD:=a8.modify x0 λe=>(e.1,((e.2.1.modify ax λe=>(0,av)),e.2.2));some (.inl (x0,x8,a4,a5,a6,a7,aD,x6.1,x6.2.1,x6.2.2.1,x6.2.2.2.1,x6.2.2.2.2,())))else bif(x6.1==2)then((fR a8 x0).bind λ_=>
(gg x6.2.1).bind λav=>
(fR a8 x0).bind λax=>
(fR ax.2.1 av).bind λ_=>
(fR a8 x0).bind λaz=>
(fR az.2.1 av).bind λ_=>let aB:=a8.modify x0 λe=>(e.1,((e.2.1.modify av λe=>(ap.1,ap.2)),e.2.2));some (.inl (x0,x8,a4,a5,a6,a7,aB,x6.1,x6.2.1,x6.2.2.1,x6.2.2.2.1,x6.2.2.2.2,())))else bif(x6.1==15)then((fR a8 x0).bind λ_=>
(gg x6.2.2.2.2).bind λav=>
(fR a4 av).bind λax=>let ay:=wk .u16 ax;
(gg x6.2.1).bind λaz=>
(fR a8 x0).bind λaA=>
(fR aA.2.1 az).bind λ_=>
(fR a8 x0).bind λaD=>
(fR aD.2.1 az).bind λ_=>let aF:=a8.modify x0 λe=>(e.1,((e.2.1.modify az λe=>(1,ay)),e.2.2));some (.inl (x0,x8,a4,a5,a6,a7,aF,x6.1,x6.2.1,x6.2.2.1,x6.2.2.2.1,x6.2.2.2.2,())))else bif(x6.1==16)then((bif(x6.1==17)then(some (x0,x8,a4,a5,a6,a7,a8,a0,a1,a2,x6.1,x6.2.1,x6.2.2.1,x6.2.2.2.1,x6.2.2.2.2,ap.1,ap.2,ah.1,ah.2,()))else some (x0,x8,a4,a5,a6,a7,a8,a0,a1,a2,x6.1,x6.2.1,x6.2.2.1,x6.2.2.2.1,x6.2.2.2.2,ap.1,ap.2,ap.1,ap.2,()):Option (T37)).bind λ(aq,av,ax,ay,az,aA,aB,_,aE,_,aG,aH,aI,aJ,aK,aL,aM,aO,aP,_)=>let aQ:=wk .u16 aK;
(iC ax ay aE aO aP aQ false).bind λ(_,aS,aT,_)=>bif(aT != 0)then((it aq aT aB).bind λ(aU,aV,_)=>some (.inr (aU,ax,ay,az,aA,aV,())))else bif(aG==16)then((fR aB aq).bind λ_=>let aV:=wk .i64 aS;
(qG aV az aA).bind λ(aW,aY,aZ,ba,_)=>
(gg aH).bind λbc=>
(fR aB aq).bind λbd=>
(fR bd.2.1 bc).bind λ_=>
(fR aB aq).bind λbf=>
(fR bf.2.1 bc).bind λ_=>let bh:=aB.modify aq λe=>(e.1,((e.2.1.modify bc λe=>(aW,aY)),e.2.2));some (.inl (aq,av,ax,ay,aZ,ba,bh,aG,aH,aI,aJ,aK,())))else let aU:=wk .i64 aS;
(mQ aU aL aM az aA).bind λ(aV,aW,_)=>some (.inl (aq,av,ax,ay,aV,aW,aB,aG,aH,aI,aJ,aK,())))else bif(x6.1==17)then((bif(x6.1==17)then(some (x0,x8,a4,a5,a6,a7,a8,a0,a1,a2,x6.1,x6.2.1,x6.2.2.1,x6.2.2.2.1,x6.2.2.2.2,ap.1,ap.2,ah.1,ah.2,()))else some (x0,x8,a4,a5,a6,a7,a8,a0,a1,a2,x6.1,x6.2.1,x6.2.2.1,x6.2.2.2.1,x6.2.2.2.2,ap.1,ap.2,ap.1,ap.2,()):Option (T37)).bind λ(aq,av,ax,ay,az,aA,aB,_,aE,_,aG,aH,aI,aJ,aK,aL,aM,aO,aP,_)=>let aQ:=wk .u16 aK;
(iC ax ay aE aO aP aQ false).bind λ(_,aS,aT,_)=>bif(aT != 0)then((it aq aT aB).bind λ(aU,aV,_)=>some (.inr (aU,ax,ay,az,aA,aV,())))else bif(aG==16)then((fR aB aq).bind λ_=>let aV:=wk .i64 aS;
(qG aV az aA).bind λ(aW,aY,aZ,ba,_)=>
(gg aH).bind λbc=>
(fR aB aq).bind λbd=>
(fR bd.2.1 bc).bind λ_=>
(fR aB aq).bind λbf=>
(fR bf.2.1 bc).bind λ_=>let bh:=aB.modify aq λe=>(e.1,((e.2.1.modify bc λe=>(aW,aY)),e.2.2));some (.inl (aq,av,ax,ay,aZ,ba,bh,aG,aH,aI,aJ,aK,())))else let aU:=wk .i64 aS;
(mQ aU aL aM az aA).bind λ(aV,aW,_)=>some (.inl (aq,av,ax,ay,aV,aW,aB,aG,aH,aI,aJ,aK,())))else bif(x6.1==18)then(some (.inl (x0,x6.2.2.2.2,a4,a5,a6,a7,a8,x6.1,x6.2.1,x6.2.2.1,x6.2.2.2.1,x6.2.2.2.2,())))else bif(x6.1==19)then(bif(ah.1 != 0)then((it x0 3 a8).bind λ(aq,av,_)=>some (.inr (aq,a4,a5,a6,a7,av,())))else bif((ah.2==0)==(x6.1==19))then(some (.inl (x0,x6.2.2.2.2,a4,a5,a6,a7,a8,x6.1,x6.2.1,x6.2.2.1,x6.2.2.2.1,x6.2.2.2.2,())))else some (.inl (x0,x8,a4,a5,a6,a7,a8,x6.1,x6.2.1,x6.2.2.1,x6.2.2.2.1,x6.2.2.2.2,())))else bif(x6.1==20)then(bif(ah.1 != 0)then((it x0 3 a8).bind λ(aq,av,_)=>some (.inr (aq,a4,a5,a6,a7,av,())))else bif((ah.2==0)==(x6.1==19))then(some (.inl (x0,x6.2.2.2.2,a4,a5,a6,a7,a8,x6.1,x6.2.1,x6.2.2.1,x6.2.2.2.1,x6.2.2.2.2,())))else some (.inl (x0,x8,a4,a5,a6,a7,a8,x6.1,x6.2.1,x6.2.2.1,x6.2.2.2.1,x6.2.2.2.2,())))else bif(x6.1==21)then((fR a8 x0).bind λ_=>let av:=wk .u16 x8;
(gg x6.2.1).bind λax=>
(fR a8 x0).bind λay=>
(fR ay.2.1 ax).bind λ_=>
(fR a8 x0).bind λaA=>
(fR aA.2.1 ax).bind λ_=>let aD:=a8.modify x0 λe=>(e.1,((e.2.1.modify ax λe=>(0,av)),e.2.2));some (.inl (x0,x6.2.2.2.2,a4,a5,a6,a7,aD,x6.1,x6.2.1,x6.2.2.1,x6.2.2.2.1,x6.2.2.2.2,())))else bif(x6.1==22)then(bif(ah.1 != 0)then((it x0 3 a8).bind λ(aq,av,_)=>some (.inr (aq,a4,a5,a6,a7,av,())))else bif(decide (ah.2>255))then((it x0 2 a8).bind λ(aq,av,_)=>some (.inr (aq,a4,a5,a6,a7,av,())))else let aq:=wk .i64 ah.2;some (.inl (x0,aq,a4,a5,a6,a7,a8,x6.1,x6.2.1,x6.2.2.1,x6.2.2.2.1,x6.2.2.2.2,())))else bif(x6.1==24)then((fR a8 x0).bind λaq=>bif(aq.2.2.2.2.2.1==(-1))then((it x0 1 a8).bind λ(av,ax,_)=>some (.inr (av,a4,a5,a6,a7,ax,())))else
(fR a8 x0).bind λav=>
(fR a8 x0).bind λ_=>let ay:=a8.modify x0 λe=>(e.1,(e.2.1,(e.2.2.1,(e.2.2.2.1,(e.2.2.2.2.1,((-1),e.2.2.2.2.2.2))))));some (.inl (x0,av.2.2.2.2.2.1,a4,a5,a6,a7,ay,x6.1,x6.2.1,x6.2.2.1,x6.2.2.2.1,x6.2.2.2.2,())))else bif(x6.1==23)then((fR a8 x0).bind λ_=>let av:=a8.modify x0 λe=>(2,e.2);
(fR av x0).bind λ_=>let ay:=av.modify x0 λe=>(e.1,(e.2.1,(x8,e.2.2.2)));some (.inr (1,a4,a5,a6,a7,ay,())))else
(fR a8 x0).bind λ_=>
(gg x6.2.2.2.1).bind λav=>
(fR a8 x0).bind λax=>
(fR ax.2.1 av).bind λ_=>
(fR a8 x0).bind λaz=>
(fR az.2.1 av).bind λaA=>
(u4 a4 a5 a1 x6.1 ap.1 ap.2 aA.1 aA.2).bind λ(aB,aD,aE,_)=>bif(aE != 0)then((it x0 aE a8).bind λ(aF,aG,_)=>some (.inr (aF,a4,a5,a6,a7,aG,())))else
(fR a8 x0).bind λ_=>
(gg x6.2.1).bind λaG=>
(fR a8 x0).bind λaH=>
(fR aH.2.1 aG).bind λ_=>
(fR a8 x0).bind λaJ=>
(fR aJ.2.1 aG).bind λ_=>let aL:=a8.modify x0 λe=>(e.1,((e.2.1.modify aG λe=>(aB,aD)),e.2.2));some (.inl (x0,x8,a4,a5,a6,a7,aL,x6.1,x6.2.1,x6.2.2.1,x6.2.2.2.1,x6.2.2.2.2,())):Option ((Nat×Int×LI×Int×LDCe×LDLn×LDTh×T0P)⊕T1a))with
|none=>none
|some (.inl (aq,av,ax,ay,az,aA,aB,aD,_,_,_,_,_))=>
(fR aB aq).bind λ_=>let aJ:=aB.modify aq λe=>(e.1,(e.2.1,(av,e.2.2.2)));
((nV aD).bind λ(aK,_)=>bif aK then((fR aJ aq).bind λaL=>let aM:=w64 (aL.2.2.2.1+1);
(fR aJ aq).bind λ_=>let aP:=aJ.modify aq λe=>(e.1,(e.2.1,(e.2.2.1,(aM,e.2.2.2.2))));some (ax,ay,az,aA,aP,()))else some (ax,ay,az,aA,aJ,()):Option (T0W)).bind λ(aK,aL,aM,aO,aP,_)=>some ((-1),aK,aL,aM,aO,aP,())
|some (.inr (aq,av,ax,ay,az,aA,_))=>some (aq,av,ax,ay,az,aA,()))
def JR:X.Cfg:=⟨E0,[zY,uF,zZ,sL,Ea,vV],[],[⟨17,0,qE,[(.normal,(qS (zl [1,3]++(7,.ptr ⟨4,4,[((),(8,0))]⟩ [0,0])::zaa 8::Uaa 9::zl [11,12]) [(4,Xac),(8,uab),(18,zae),(24,Xab),(26,Xab)]))]⟩,⟨8,1,qE,[(.normal,(qS [zaa 1,(7,.ptr ⟨4,4,[((),(8,0))]⟩ [0,0]),zaa 8,Uaa 9] [(4,Xac),(18,zae)])),(.ret,qS [zaa 1,Uaa 6] yan)]⟩,⟨52,2,qE,[(.normal,qS [zaa 1] yan)]⟩]⟩
def Cp:Ctr:=⟨164,63,[.agg uab,.ptr ⟨4,0,[]⟩ [0],shU I64],[(4,Xac)],[⟨zac,[.one],[(4,Xac)]⟩],as8 ap1 sc⟩
theorem JF:Lk 4 Cp:=ls JR (aC HC (aC zy (aC HD (aC xp (aC Mk (aC CP aN))))))
def s8:T2L->Option (T2L⊕T1u):=λ(v0,v1,v2,v3,v4,v5,v6,v7,v8,v9,ej,eq,eE,eG,eI,_)=>
(sc v2 v3 v4 v0 ej eq eE eG eI).bind λ(x0,x1,x2,x3,x4,x5,_)=>bif(x0 != (-1))then(some (.inr (x0,0,x1,x2,x3,x4,x5,())))else
(gg v0).bind λx6=>
(fR x5 x6).bind λ_=>
(fR x5 x6).bind λx8=>bif(x8.2.2.2.1==v1)then(some (.inr (0,0,x1,x2,x3,x4,x5,())))else some (.inl (v0,v1,v2,v3,v4,v5,v6,v7,v8,v9,x1,x2,x3,x4,x5,()))
def oY(a0:LDIn)(a1:LI)(a2:LLI)(a3:LI)(a4:Int)(a5:LDCe)(a6:LDLn)(a7:LDTh)(a8 a9:Int):Option (T1A):=
((jL a0 a1 a2 a3 a4 a5 a6 a7).bind λ(x0,_)=>bif(!x0)then(some (a8,a9,true,a0,a1,a2,a3,a4,a5,a6,a7,(),0,(),(),(),()))else bif(decide (a8<0))then(some (a8,a9,true,a0,a1,a2,a3,a4,a5,a6,a7,(),0,(),(),(),()))else bif(decide (a8>=4))then(some (a8,a9,true,a0,a1,a2,a3,a4,a5,a6,a7,(),0,(),(),(),()))else bif(decide (a9<1))then(some (a8,a9,true,a0,a1,a2,a3,a4,a5,a6,a7,(),0,(),(),(),()))else some (a8,a9,(decide (a9>64)),a0,a1,a2,a3,a4,a5,a6,a7,(),0,(),(),(),()):Option (Int×Int×Bool×LDIn×LI×LLI×LI×Int×LDCe×LDLn×LDTh×T0Y)).bind λ(x0,x1,x2,x3,x4,x5,x6,x7,x8,x9,ac,ae,af,ag,ah,ai,_)=>bif x2 then(some ([],0,[],[],[],0,1,()))else
(kO x6 x7 x8 x9 ac).bind λ(aj,ak,am,an,ap,_)=>
(gg x0).bind λaq=>
(fR ac aq).bind λav=>bif(av.1 != 1)then(some (aj,ak,am,an,ap,3,0,()))else
(gg x0).bind λax=>
(fR ap ax).bind λ_=>
(fR ap ax).bind λaz=>let aA:=w64 (az.2.2.2.1+x1);
(f9 s8 NN (x0,aA,x3,x4,x5,ae,af,ag,ah,ai,aj,ak,am,an,ap,())).bind λ(aB,aD,aE,aF,aG,aH,aI,_)=>some (aE,aF,aG,aH,aI,aB,aD,())
def FD:X.Cfg:=⟨E0,[nj,oC,Cp],[],[⟨2,0,qE,[(.normal,qS (il [2,3]++zl [4,5,8]++[Xaa 33]) [(10,uab),(12,Uac),(18,Zab)])]⟩,⟨9,1,qS (Uaa 2::zl [4,8,11]++[Uaa 12]) [(10,uab),(18,Zab),(24,Xac)],[(.ret,qS (zaa 8::il [9,10]) [(18,Xac)])]⟩]⟩
def xV:Ctr:=⟨152,64,[.agg uab,.agg Uac,shU I64,shU I64],[],[⟨uL [RI,CW,(uaa KCe),iu,qo,I64,I64],[.agg 5,.one,.one],[]⟩],as1 (as8 ap1) oY⟩
theorem EU:Lk 5 xV:=ls FD (aC py (aC qU (aC JF aN)))
def mL(a0:Int):Option (ByteArray×Unit):=let x0:ByteArray:=(bytes []);
(bif(a0==0)then(some (a0,true,()))else bif(a0==8)then(some (a0,true,()))else bif(a0==9)then(some (a0,true,()))else bif(a0==11)then(some (a0,true,()))else some (a0,(a0==12),()):Option (T01)).bind λ(x1,x2,_)=>bif x2 then(let x3:ByteArray:=(bytes [78]);some (x3,()))else bif(x1==1)then(let x3:ByteArray:=(bytes [72,80,78]);some (x3,()))else bif(x1==2)then(let x3:ByteArray:=(bytes [72,80,78]);some (x3,()))else bif(x1==3)then(let x3:ByteArray:=(bytes [78,78]);some (x3,()))else bif(x1==4)then(let x3:ByteArray:=(bytes [72]);some (x3,()))else bif(x1==5)then(let x3:ByteArray:=(bytes [72,78]);some (x3,()))else bif(x1==10)then(let x3:ByteArray:=(bytes [78,88]);some (x3,()))else bif(x1==13)then(let x3:ByteArray:=(bytes [78,80,78]);some (x3,()))else bif(x1==14)then(let x3:ByteArray:=(bytes [78,80,78]);some (x3,()))else let x3:ByteArray:=(bytes []);some (x3,())
def Fw:X.Cfg:=⟨E0,[],[],[⟨3,0,qE,[(.normal,qS [Uaa 3,Xaa 4] [])]⟩]⟩
def pG:Ctr:=⟨165,65,zac,[],[⟨uL [.str],[.one],[]⟩],ap1 mL⟩
theorem sw:Lk 1 pG:=ls Fw aN
def oo(a0 a1:Int):f_:=bif(a0==78)then(some ((a1==0),()))else bif(a0==72)then(some ((a1==2),()))else bif(a0==80)then(some ((a1==1),()))else some (true,())
def Ic:X.Cfg:=⟨E0,[],[],[]⟩
def uB:Ctr:=⟨166,66,uL [CB,CB],[],[⟨zab,[.one],[]⟩],ap2 oo⟩
theorem zu:Lk 1 uB:=ls Ic aN
def ki(a0:Int):h_:=bif(decide (a0<0))then(some ((-1),()))else bif(decide (a0>15))then(some ((-1),()))else bif(a0==1)then(some (1,()))else bif(a0==13)then(some (1,()))else bif(a0==2)then(some (2,()))else bif(a0==14)then(some (2,()))else some (0,())
def Dg:X.Cfg:=⟨E0,[],[],[]⟩
def lL:Ctr:=⟨20,67,zac,[],[⟨zac,[.one],[]⟩],ap1 ki⟩
theorem oc:Lk 1 lL:=ls Dg aN
def nU(a0:LI)(a1:Int)(a2:LI)(a3 a4 a5:Int):Option (T02):=bif(a3 != 1)then(some (0,3,()))else let x0:=wk .i64 a4;
(gS a0 a1 a2 x0).bind λ(x1,x2,x3,_)=>
(bif(!x3)then(some (true,a3,a4,()))else bif(decide (a5<0))then(some (true,a3,a4,()))else
(gg x1).bind λx4=>
(fR a2 x4).bind λx5=>let x6:=w64 (x5-x2);some ((decide (a5>x6)),a3,a4,()):Option (T0c)).bind λ(x4,_,x6,_)=>bif x4 then(some (0,4,()))else let x7:=wk .i64 x6;some (x7,0,())
def Di:X.Cfg:=⟨E0,[jC],[],[⟨6,0,qE,[(.normal,qS [zaa 6,Xaa 41] [(14,Xab)])]⟩]⟩
def vU:Ctr:=⟨167,68,[.agg Uab,shU RI,.agg Xab,shU I64],[],[⟨Zac,[.one,.one],[]⟩],ap6 nU⟩
theorem CO:Lk 2 vU:=ls Di (aC kU aN)
def oH:T39->Option (T39⊕((Int×Unit)⊕(Int×ByteArray×Int×Int×Bool×T2Q))):=λ(v0,v1,v2,v3,v4,v5,v6,v7,v8,v9,ej,eq,eE,eG,eI)=>bif(decide (v3<v2))then((gg v3).bind λx0=>
(DK v1 x0).bind λx1=>
(gg v3).bind λx2=>
(fR eG x2).bind λx3=>
(oo x1 x3.1).bind λ(x4,_)=>bif(!x4)then(some (.inr (.inl (6,()))))else let x5:=w64 (v3+1);some (.inl (v0,v1,v2,x5,v4,v5,v6,v7,v8,v9,ej,eq,eE,eG,eI)))else some (.inr (.inr (v0,v1,v2,v3,false,v4,v5,v6,v7,v8,v9,ej,eq,eE,eG,eI)))
def oW(a0:LDIn)(a1:LI)(a2:LLI)(a3:LI)(a4:Int)(a5:LDCe)(a6:LDLn)(a7:LDTh)(a8:Int):h_:=
(gg a8).bind λx0=>
(fR a7 x0).bind λx1=>let x2:=w64 (x1.2.2.1-1);
(gg x2).bind λx3=>
(fR a0 x3).bind λx4=>
(mL x4.2.2.2.2).bind λ(x5,_)=>let x6:=A6 x5;
(match f9 oH NN (x4.2.2.2.2,x5,x6,0,a0,a1,a2,a3,a4,a5,a6,a7,x1.1,x1.2.1,x1.2.2.1,x1.2.2.2.1,x1.2.2.2.2.1,x1.2.2.2.2.2.1,x1.2.2.2.2.2.2.1,x1.2.2.2.2.2.2.2,())with
|none=>none
|some (.inl (x7,_))=>some (x7,())
|some (.inr (x7,_,_,_,_,af,ag,_,ai,aj,_,_,_,_,aq,_))=>
(ki x7).bind λ(aD,_)=>bif(decide (aD>0))then((fR aq 1).bind λaE=>
(fR aq 2).bind λaF=>let aG:=wk .i64 aF.2;
(nU ai aj ag aE.1 aE.2 aG).bind λ(_,aI,_)=>bif(aI != 0)then(some (6,()))else
(fR aq 2).bind λaJ=>bif(decide (aJ.2>16))then(some (6,()))else
(bif(x7==10)then((fR aq 0).bind λaK=>let aL:=wk .i64 aK.2;let aM:=fY af.length;some ((decide (aL>=aM)),()))else bif(x7==12)then((fR aq 0).bind λaK=>let aL:=wk .i64 aK.2;let aM:=fY af.length;some ((decide (aL>=aM)),()))else some (false,()):f_).bind λ(aK,_)=>bif aK then(some (6,()))else some (0,()))else
(bif(x7==10)then((fR aq 0).bind λaE=>let aF:=wk .i64 aE.2;let aG:=fY af.length;some ((decide (aF>=aG)),()))else bif(x7==12)then((fR aq 0).bind λaE=>let aF:=wk .i64 aE.2;let aG:=fY af.length;some ((decide (aF>=aG)),()))else some (false,()):f_).bind λ(aE,_)=>bif aE then(some (6,()))else some (0,()))
def FA:X.Cfg:=⟨E0,[pG,uB,lL,vU],[],[⟨6,0,qS (zl [3,4,7]++Uaa 8::sP 9 .str::il [29,30]) Xaq,[(.ret,qS [Uaa 6] []),(.exit 0,qS (zl [3,4,7]++Uaa 8::sP 9 .str::il [29,30]++[Xaa 31]) Xaq)]⟩,⟨19,1,qE,[(.normal,qS [Xaa 93] [])]⟩]⟩
def xU:Ctr:=⟨153,69,[.agg uab,.agg Uac,shU I64],[],[⟨zac,[.one],[]⟩],as8 ap1 oW⟩
theorem ET:Lk 3 xU:=ls FA (aC sw (aC zu (aC oc (aC CO aN))))
def nT(a0:Int)(a1:LDCe)(a2 a3 a4 a5 a6 a7:Int):Option (T1N):=bif(gh 4 0 a1.length)then let x0:LDCe:=(List.append [] a1);some (a0,x0,a2,a3,a4,a5,a6,a7,())else none
def Dh:X.Cfg:=⟨E0,[],[],[]⟩
def vT:Ctr:=⟨168,70,[.agg uad],[],[⟨Zaf,[.agg 8],[]⟩],as1 (as2 (as4 ap1)) nT⟩
theorem CN:Lk 1 vT:=ls Dh aN
def pW(a0:Int)(a1:LDCe)(a2 a3 a4 a5 a6 a7 a8 a9:Int):Option (T1N):=
(nT a0 a1 a2 a3 a4 a5 a6 a7).bind λ(_,x1,x2,x3,x4,x5,_)=>some (4,x1,x2,x3,x4,x5,a8,a9,())
def JT:X.Cfg:=⟨E0,[vT],[],[]⟩
def wJ:Ctr:=⟨154,71,[.agg uad,shU I64,shU CW],[],[⟨Zaf,[.agg 8],[]⟩],as1 (as8 ap1) pW⟩
theorem Bv:Lk 2 wJ:=ls JT (aC CN aN)
def jx(a0:Int):h_:=bif(decide (a0<0))then(some ((-1),()))else bif(decide (a0>15))then(some ((-1),()))else
(mL a0).bind λ(x0,_)=>let x1:=A6 x0;some (x1,())
def yY:X.Cfg:=⟨E0,[pG],[],[]⟩
def nN:Ctr:=⟨155,72,zac,[],[⟨zac,[.one],[]⟩],ap1 jx⟩
theorem rG:Lk 2 nN:=ls yY (aC sw aN)
def jc(a0:LI)(a1:Int)(a2:LI)(a3 a4:Int):Option (T0w):=bif(a3==0)then(some (0,a4,0,0,()))else bif(a3==2)then(let x0:Int:=(wk .u16 (a4-a1));some (2,x0,0,0,()))else let x0:=wk .i64 a4;
(gS a0 a1 a2 x0).bind λ(x1,x2,x3,_)=>bif x3 then(some (1,0,x1,x2,()))else let x4:=wk .i64 a4;some (1,0,(-1),x4,())
def FR:X.Cfg:=⟨E0,[jC],[],[]⟩
def nq:Ctr:=⟨21,73,[.agg Uab,shU RI,.agg Xab],[],[⟨yag,[.agg 4],[]⟩],ap5 jc⟩
theorem pA:Lk 2 nq:=ls FR (aC kU aN)
def ot(a0:LDCe)(a1:LDLn)(a2:Int):Option (T02):=let x0:=w64 (Int.tdiv a2 4);let x1:=Int.tmod x0 4;
(gg x1).bind λx2=>
(fR a1 x2).bind λx3=>bif(x3.1==x0)then(let x4:Int:=(Int.tmod a2 4);
(gg x4).bind λx5=>
(fR x3.2.2 x5).bind λx6=>some (x6.1,x6.2,()))else
(gg a2).bind λx4=>
(fR a0 x4).bind λx5=>some (x5.1,x5.2,())
def Il:X.Cfg:=⟨E0,[],[],[]⟩
def uI:Ctr:=⟨60,74,[.agg yaf,shU I64],[],[⟨Xab,[.agg 2],[]⟩],ap3 ot⟩
theorem zB:Lk 1 uI:=ls Il aN
def kM:T3Q->Option (T3Q⊕(Int×Int×T3L)):=λ(v0,v1,v2,v3,v4,v5,v6,v7,v8,v9,ej,eq,eE,eG,eI,eK,eO,eS,eV,eX,eZ,fc,ff,fi,fk,fq,fr,fu,fv,fw,fA,fB,fC,fD,fE,fF,fG,fH,fI,_)=>bif(decide (v1<v0))then((gg v1).bind λx0=>
(fR fk x0).bind λx1=>
(jc eV eX v3 x1.1 x1.2).bind λ(x2,x3,x4,x5,_)=>let x6:LDCn:=[(x2,(x3,(x4,x5)))];bif(gh 24 fH.length x6.length)then let x7:LDCn:=(List.append fH x6);let x8:=w64 (v1+1);some (.inl (v0,x8,v2,v3,v4,v5,v6,v7,v8,v9,ej,eq,eE,eG,eI,eK,eO,eS,eV,eX,eZ,fc,ff,fi,fk,fq,fr,fu,fv,fw,fA,fB,fC,fD,fE,fF,fG,x7,fI,()))else none)else some (.inr (v0,v1,false,v2,v3,v4,v5,v6,v7,v8,v9,ej,eq,eE,eG,eI,eK,eO,eS,eV,eX,eZ,fc,ff,fi,fk,fq,fr,fu,fv,fw,fA,fB,fC,fD,fE,fF,fG,fH,fI,()))
def kL:T3P->Option (T3P⊕T3U):=λ(v0,v1,v2,v3,v4,v5,v6,v7,v8,v9,ej,eq,eE,eG,eI,eK,eO,eS,eV,eX,eZ,fc,ff,fi,fk,fq,fr,fu,fv,fw,fA,fB,fC,fD,fE,fF,fG,fH,fI,_)=>bif(decide (v1<v0))then((fR fk 1).bind λx0=>let x1:=wk .i64 x0.2;let x2:=w64 (x1+v1);
(ot eZ fc x2).bind λ(x3,x4,_)=>
(jc eV eX v3 x3 x4).bind λ(x5,x6,x7,x8,_)=>let x9:LDCn:=[(x5,(x6,(x7,x8)))];bif(gh 24 fI.length x9.length)then let ac:LDCn:=(List.append fI x9);let ae:=w64 (v1+1);some (.inl (v0,ae,v2,v3,v4,v5,v6,v7,v8,v9,ej,eq,eE,eG,eI,eK,eO,eS,eV,eX,eZ,fc,ff,fi,fk,fq,fr,fu,fv,fw,fA,fB,fC,fD,fE,fF,fG,fH,ac,()))else none)else some (.inr (v0,v1,false,v2,v3,v4,v5,v6,v7,v8,v9,ej,eq,eE,eG,eI,eK,eO,eS,eV,eX,eZ,fc,ff,fi,fk,fq,fr,fu,fv,fw,fA,fB,fC,fD,fE,fF,fG,fH,fI,()))
def oq(a0:LDIn)(a1:LI)(a2:LLI)(a3:LI)(a4:Int)(a5:LDCe)(a6:LDLn)(a7:LDTh)(a8 a9:Int):Option (LI×Int×LDCe×LDLn×LDTh×Int×Int×Int×Int×Int×Int×LDCn×LDCn×Int×Unit):=
(oY a0 a1 a2 a3 a4 a5 a6 a7 a8 a9).bind λ(x0,x1,x2,x3,x4,x5,x6,_)=>bif(x6 != 0)then(some ([],0,[],[],[],0,0,0,0,0,0,[],[],x6,()))else
(gg a8).bind λx7=>
(fR x4 x7).bind λ_=>
(fR x4 x7).bind λx9=>
(fR x4 x7).bind λac=>
(match(bif(x5==2)then(some (.inl ((),0,(),(),(),0,0,0,0,0,0,(),(),x0,x1,x2,x3,x4,a8,x5,x9.2.2.2.2.2.2.1,x9.2.2.2.1,x9.2.2.1,0,(),(),())))else bif(x5==1)then((oW a0 a1 a2 x0 x1 x2 x3 x4 a8).bind λ(ae,_)=>bif(ae != 0)then((pW x9.1 ac.2.1 x9.2.2.1 x9.2.2.2.1 x9.2.2.2.2.1 x9.2.2.2.2.2.1 x9.2.2.2.2.2.2.1 x9.2.2.2.2.2.2.2 ae 0).bind λ(af,ag,ah,ai,aj,ak,am,an,_)=>
(gg a8).bind λap=>
(fR x4 ap).bind λ_=>
(fR x4 ap).bind λ_=>let ax:=x4.modify ap λe=>(af,(ag,(ah,(ai,(aj,(ak,(am,an)))))));some (.inl ((),0,(),(),(),0,0,0,0,0,0,(),(),x0,x1,x2,x3,ax,a8,2,ae,x9.2.2.2.1,x9.2.2.1,0,(),(),())))else let af:=w64 (x9.2.2.1-1);
(gg af).bind λag=>
(fR a0 ag).bind λah=>
(jx ah.2.2.2.2).bind λ(ai,_)=>
(f9 kM NN (ai,0,a0,a1,a2,(),0,(),(),(),0,0,0,0,0,0,(),(),x0,x1,x2,x3,x4,x9.1,ac.2.1,x9.2.2.1,x9.2.2.2.1,x9.2.2.2.2.1,x9.2.2.2.2.2.1,x9.2.2.2.2.2.2.1,x9.2.2.2.2.2.2.2,a8,x5,0,x9.2.2.2.1,x9.2.2.1,ah.2.2.2.2,[],(),())).bind λ(_,_,_,an,ap,aq,av,ax,ay,az,aA,aB,aD,aE,aF,aG,aH,aI,aJ,aK,aL,aM,aO,aP,aQ,aR,aS,aT,aU,aV,aW,aY,aZ,ba,bc,bd,be,bf,bg,bh,_)=>
(ki bf).bind λ(bi,_)=>bif(bi==1)then((fR aR 2).bind λbj=>let bk:=wk .i64 bj.2;
(f9 kL NN (bk,0,an,ap,aq,av,ax,ay,az,aA,aB,aD,aE,aF,aG,aH,aI,aJ,aK,aL,aM,aO,aP,aQ,aR,aS,aT,aU,aV,aW,aY,aZ,ba,bc,bd,be,bf,bg,[],())).bind λ(bl)=>some (.inr (.inl (bl))))else some (.inr (.inr (.inl (false,an,ap,aq,av,ax,ay,az,aA,aB,aD,aE,aF,aG,aH,aI,aJ,aK,aL,aM,aO,aP,aQ,aR,aS,aT,aU,aV,aW,aY,aZ,ba,bc,bd,be,bf,bg,bh,())))))else some (.inr (.inr (.inr (a8,false,a0,a1,a2,(),0,(),(),(),0,0,0,0,0,0,(),(),x0,x1,x2,x3,x4,x9.1,ac.2.1,x9.2.2.1,x9.2.2.2.1,x9.2.2.2.2.1,x9.2.2.2.2.2.1,x9.2.2.2.2.2.2.1,x9.2.2.2.2.2.2.2,a8,x5,0,x9.2.2.2.1,x9.2.2.1,0,(),(),())))):Option ((Unit×Int×Unit×Unit×Unit×Int×Int×Int×Int×Int×Int×Unit×Unit×LI×Int×LDCe×LDLn×LDTh×T1I)⊕(T3U⊕(T3L⊕(Int×Bool×LDIn×LI×LLI×Unit×Int×Unit×Unit×Unit×Int×Int×Int×Int×Int×Int×Unit×Unit×LI×Int×LDCe×LDLn×LDTh×Int×LDCe×Int×Int×Int×Int×Int×Int×T1I)))))with
|none=>none
|some (.inl (_,_,_,_,_,_,_,_,_,_,_,_,_,ay,az,aA,aB,aD,aE,aF,aG,aH,aI,aJ,_,_,_))=>some (ay,az,aA,aB,aD,aE,aF,aG,aH,aI,aJ,[],[],0,())
|some (.inr (.inl (_,_,_,_,_,_,_,_,_,_,_,_,_,_,_,_,_,_,_,aF,aG,aH,aI,aJ,_,_,_,_,_,_,_,_,aT,aU,aV,aW,aY,aZ,ba,bc,_)))=>some (aF,aG,aH,aI,aJ,aT,aU,aV,aW,aY,aZ,ba,bc,0,())
|some (.inr (.inr (.inl (_,_,_,_,_,_,_,_,_,_,_,_,_,_,_,_,_,aD,aE,aF,aG,aH,_,_,_,_,_,_,_,_,aR,aS,aT,aU,aV,aW,aY,_,_))))=>some (aD,aE,aF,aG,aH,aR,aS,aT,aU,aV,aW,aY,[],0,())
|some (.inr (.inr (.inr (_,_,_,_,_,_,_,_,_,_,_,_,_,_,_,_,_,_,aE,aF,aG,aH,aI,_,_,_,_,_,_,_,_,aS,aT,aU,aV,aW,aY,_,_,_))))=>some (aE,aF,aG,aH,aI,aS,aT,aU,aV,aW,aY,[],[],0,()))
def Id:X.Cfg:=⟨E0,[xV,xU,wJ,nN,nq,lL,uI],[],[⟨19,0,qS (zl [4,8,9,11,14,15]++il [80,81]) Uap,[(.exit 1,qS (zl [4,8,9,11,14,15]++il [80,81]++[Xaa 82]) Uap)]⟩,⟨26,1,qS (zl [4,8,9,11,14,15]++il [109,110]) Xap,[(.exit 3,qS Uaw Xap)]⟩,⟨7,2,qE,[(.normal,qS (zl [8,9,11,15]) [(18,Zab),(20,yae),(24,uah),(32,yae)]),(.normal,qS Uaw Xap),(.normal,qS (zl [4,8,9,11,14,15]++[Xaa 103]) Uap),(.normal,qS (Uaa 2::zl [4,8,9,11,14,15]++[Xaa 51]) [(10,uab),(18,Zab),(20,yae),(24,uah),(30,uad),(32,yae)])]⟩]⟩
def zX:Ctr:=⟨134,75,[.agg uab,.agg Uac,shU I64,shU I64],[],[⟨uL [RI,CW,(uaa KCe),iu,(uaa ny),I64,I64,I64,I64,I64,I64,(uaa KCn),(uaa KCn),I64],[.agg 5,.agg 8,.one],[]⟩],as1 (as8 ap1) oq⟩
theorem HB:Lk 6 zX:=ls Id (aC EU (aC ET (aC Bv (aC rG (aC pA (aC oc (aC zB aN)))))))
def kK:T2b->Option (T2b⊕T2l):=λ(v0,v1,v2,v3,v4,v5,v6,v7,v8,_)=>bif(decide (v2<v1))then((gg v2).bind λx0=>
(fR v0 x0).bind λx1=>bif(gh 8 0 x1.length)then let x2:v_:=(List.append [] x1);bif(gh 24 v8.length (List.length [x2]))then let x3:List LI:=(List.append v8 [x2]);let x4:=w64 (v2+1);some (.inl (v0,v1,x4,v3,v4,v5,v6,v7,x3,()))else none else none)else some (.inr (v0,v1,v2,false,v3,v4,v5,v6,v7,v8,()))
def ol(a0:LI)(a1:LLI):Option (T08):=bif(gh 8 0 a0.length)then let x0:v_:=(List.append [] a0);let x1:=fY a1.length;
(f9 kK NN (a1,x1,0,a0,a1,(),(),x0,[],())).bind λ(_,_,_,_,_,_,_,_,ac)=>some (ac)else none
def Ia:X.Cfg:=⟨E0,[],[(21,(uaa I64)),(22,(uaa I64))],[(lx 4 0 (zl [2,3]++sP 11 (yaa RI)::il [12,13]) [(4,Uaf),(6,uac),(8,uaf)] 14)]⟩
def q7:Ctr:=⟨169,76,[.agg Uaf],[],[⟨uaf,[.agg 2],[]⟩],ap2 ol⟩
theorem uf:Lk 1 q7:=ls Ia aN
def jF(a0:LI)(a1:LLI)(a2 a3:Int):Option (LI×LLI×T01):=
(ol a0 a1).bind λ(x0,x1,_)=>
(bif(decide (a2<0))then(some (a2,true,(),(),x0,x1,()))else bif(decide (a2>=4))then(some (a2,true,(),(),x0,x1,()))else
(gg a2).bind λx2=>
(fR a0 x2).bind λx3=>some (a2,(x3 != a3),(),(),x0,x1,()):Option (T14)).bind λ(x2,x3,_,_,x6,x7,_)=>bif x3 then(some (x6,x7,(-1),false,()))else
(gg x2).bind λx8=>
(fR x6 x8).bind λ_=>
(fR x6 x8).bind λ_=>let ae:=x6.modify x8 λe=>(-1);
(gg x2).bind λaf=>
(fR x7 af).bind λ_=>
(fR x7 af).bind λ_=>
(fR x7 af).bind λai=>let aj:=fY ai.length;bif(decide (aj>0))then((gg x2).bind λak=>
(fR x7 ak).bind λ_=>
(fR x7 ak).bind λ_=>
(fR x7 ak).bind λap=>
(fR ap 0).bind λ_=>
(fR x7 ak).bind λav=>
(fR av 0).bind λax=>
(gg x2).bind λay=>
(fR ae ay).bind λ_=>
(fR ae ay).bind λ_=>let aB:=ae.modify ay λe=>ax;
(gg x2).bind λaD=>
(fR x7 aD).bind λ_=>
(fR x7 aD).bind λ_=>
(fR x7 aD).bind λaG=>bif(iK 1 aG.length aG.length)then(fR x7 aD).bind λ_=>
(gg x2).bind λaI=>
(fR x7 aI).bind λ_=>
(fR x7 aD).bind λaK=>
(fR x7 aI).bind λ_=>let aM:=x7.modify aI λe=>(nv aK 1 (Nat.sub aG.length 1));
(gg x2).bind λaO=>
(fR aB aO).bind λaP=>some (aB,aM,aP,true,())else none)else
(gg x2).bind λak=>
(fR ae ak).bind λam=>some (ae,x7,am,true,())
def H8:X.Cfg:=⟨E0,[q7],[],[⟨3,0,qE,[(.normal,qS [Uaa 1,zaa 6,zaa 9,Xaa 26] [(14,uac),(20,uaf)])]⟩]⟩
def qZ:Ctr:=⟨156,77,[.agg Uaf,shU I64,shU I64],[],[⟨uL [RI,(yaa RI),I64,.bool],[.agg 2,.one,.one],[]⟩],ap4 jF⟩
theorem ue:Lk 2 qZ:=ls H8 (aC uf aN)
def gk(a0:Int)(a1:Bool):Option (T1r):=
(bif(!a1)then(some (65535,0,0,0,0,(),0,false,()))else some (a0,0,0,0,0,(),0,false,()):Option (Int×T1r)).bind λ(x0,_)=>let x8:=wk .u16 x0;some (0,x8,0,0,(),(-1),false,())
def Fl:X.Cfg:=⟨E0,[],[],[⟨1,0,qE,[(.normal,qS [Uaa 0,zaa 4] [(10,Xad)])]⟩]⟩
def ni:Ctr:=⟨170,78,uL [I64,.bool],[],[⟨Xad,[.agg 7],[]⟩],ap2 gk⟩
theorem px:Lk 1 ni:=ls Fl aN
def pV:T2I->Option (T2I⊕((Int×T08)⊕(Int×Int×LLI×Int×Int×LI×T1U))):=λ(v0,v1,v2,v3,v4,v5,v6,v7,v8,v9,ej,eq,eE)=>bif(decide (v7<v6))then((gg v7).bind λx0=>
(fR v5 x0).bind λx1=>bif(x1==v1)then(some (.inr (.inl (2,eE))))else let x2:=w64 (v7+1);some (.inl (v0,v1,v2,v3,v4,v5,v6,x2,v8,v9,ej,eq,eE)))else some (.inr (.inr (v0,v1,v2,v3,v4,v5,v6,v7,false,v8,v9,ej,eq,eE)))
def pU:T2o->Option (T2o⊕((Int×T08)⊕(Int×Int×T2l))):=λ(v0,v1,v2,v3,v4,v5)=>bif(decide (v4<v3))then((gg v4).bind λx0=>
(fR v2 x0).bind λx1=>let x2:=fY x1.length;
(match f9 pV NN (v0,v1,v2,v3,v4,x1,x2,0,v5)with
|none=>none
|some (.inl (x3,x4,x5,_))=>some (.inr (.inl (x3,x4,x5,())))
|some (.inr (x3,x4,x5,x6,x7,_,_,_,_,af))=>let am:=w64 (x7+1);some (.inl (x3,x4,x5,x6,am,af))))else some (.inr (.inr (v0,v1,v2,v3,v4,false,v5)))
def qD(a0:LI)(a1:LLI)(a2 a3:Int):Option (LI×LLI×Int×Unit):=
(ol a0 a1).bind λ(x0,x1,_)=>
(bif(decide (a2<0))then(some (a2,a3,true,a0,a1,(),(),x0,x1,()))else bif(decide (a2>=4))then(some (a2,a3,true,a0,a1,(),(),x0,x1,()))else
(gg a2).bind λx2=>
(fR a0 x2).bind λx3=>some (a2,a3,(x3==a3),a0,a1,(),(),x0,x1,()):Option (T1U)).bind λ(x2,x3,x4,x5,x6,x7,x8,x9,ac,_)=>bif x4 then(some (x9,ac,2,()))else let ae:=fY x6.length;
(match f9 pU NN (x2,x3,x6,ae,0,x5,x6,x7,x8,x9,ac,())with
|none=>none
|some (.inl (af,ag,ah,_))=>some (ag,ah,af,())
|some (.inr (af,ag,_,_,_,_,am,_,_,_,av,ax,_))=>
(gg af).bind λay=>
(fR am ay).bind λaz=>bif(az==(-1))then((gg af).bind λaA=>
(fR av aA).bind λ_=>
(fR av aA).bind λ_=>let aE:=av.modify aA λe=>ag;some (aE,ax,0,()))else
(gg af).bind λaA=>
(fR ax aA).bind λ_=>
(fR ax aA).bind λ_=>
(fR ax aA).bind λaE=>bif(gh 8 aE.length (List.length [ag]))then let aF:v_:=(List.append aE [ag]);
(gg af).bind λaG=>
(fR ax aG).bind λ_=>
(fR ax aG).bind λ_=>bif(Nat.beq aG aA)then let aJ:List LI:=(ax.modify aG λe=>aF);some (av,aJ,1,())else none else none)
def H7:X.Cfg:=⟨E0,[q7],[],[⟨3,0,qE,[(.normal,qS (il [1,2]++zl [3,6,8]++[Xaa 29]) Xan)]⟩,⟨13,1,qS (il [1,2]++zl [3,6,8]++sP 32 (yaa RI)::il [33,34]++sP 38 RI::il [39,40]) Xan,[(.ret,qS yav [(14,uaf)]),(.exit 2,qS (il [1,2]++zl [3,6,8]++sP 32 (yaa RI)::il [33,34]++sP 38 RI::il [39,40]++[Xaa 41]) Xan)]⟩,⟨7,2,qS (il [1,2]++zl [3,6,8]++sP 32 (yaa RI)::il [33,34]) Xan,[(.ret,qS yav [(14,uaf)]),(.exit 0,qS (il [1,2]++zl [3,6,8]++sP 32 (yaa RI)::il [33,34]++[Xaa 35]) Xan)]⟩]⟩
def zV:Ctr:=⟨171,79,[.agg Uaf,shU I64,shU I64],[],[⟨uL [(uaa I64),(uaa (uaa I64)),I64],[.agg 2,.one],[]⟩],ap4 qD⟩
theorem Hz:Lk 2 zV:=ls H7 (aC uf aN)
def mM(a0 a1 a2 a3 a4 a5:Int)(a6 a7:LDCn):f_:=bif(decide (a0>=0))then(bif(decide (a0<4))then(bif(decide (a1>=0))then(bif(decide (a1<=3))then(bif(decide (a2>=0))then(bif(decide (a2<=6))then(bif(decide (a3>=0))then(bif(decide (a3<=1099511627776))then(bif(decide (a4>=0))then(bif(decide (a4<=255))then(bif(decide (a5>=0))then(bif(decide (a5<=15))then((iq a6 3).bind λ(x0,_)=>bif x0 then((iq a7 16).bind λ(x1,_)=>some (x1,()))else some (false,()))else some (false,()))else some (false,()))else some (false,()))else some (false,()))else some (false,()))else some (false,()))else some (false,()))else some (false,()))else some (false,()))else some (false,()))else some (false,()))else some (false,())
def Fy:X.Cfg:=⟨E0,[jg],[],[]⟩
def sJ:Ctr:=⟨173,80,[.agg yac],[],[⟨zab,[.one],[]⟩],as1 (as2 (as4 ap1)) mM⟩
theorem xn:Lk 3 sJ:=ls Fy (aC jS aN)
def tM(a0:Int):f_:=bif(decide (a0>=1))then(bif(decide (a0<=7))then(some (true,()))else bif(a0==13)then(some (true,()))else some ((a0==14),()))else bif(a0==13)then(some (true,()))else some ((a0==14),())
def HW:X.Cfg:=⟨E0,[],[],[]⟩
def zQ:Ctr:=⟨181,81,zac,[],[⟨zab,[.one],[]⟩],ap1 tM⟩
theorem Hu:Lk 1 zQ:=ls HW aN
def j0:T2w->Option (T2w⊕((Bool×Unit)⊕(ByteArray×LDCn×Int×Int×Bool×T1G))):=λ(v0,v1,v2,v3,v4)=>bif(decide (v3<v2))then((gg v3).bind λx0=>
(fR v1 x0).bind λx1=>
(gg v3).bind λx2=>
(DK v0 x2).bind λx3=>
(oo x3 x1.1).bind λ(x4,_)=>bif(!x4)then(some (.inr (.inl (false,()))))else let x5:=w64 (v3+1);some (.inl (v0,v1,v2,x5,v4)))else some (.inr (.inr (v0,v1,v2,v3,false,v4)))
def oV(a0 a1 a2 a3 a4 a5:Int)(a6 a7:LDCn):f_:=
(mL a5).bind λ(x0,_)=>let x1:=A6 x0;let x2:=fY a6.length;bif(x1 != x2)then(some (false,()))else let x3:=fY a6.length;
(match f9 j0 NN (x0,a6,x3,0,a0,a1,a2,a3,a4,a5,a6,a7,())with
|none=>none
|some (.inl (x4,_))=>some (x4,())
|some (.inr (_,_))=>some (true,()))
def Fz:X.Cfg:=⟨E0,[pG,uB],[],[⟨7,0,qS (sP 3 .str::sP 16 gj::il [17,18]) [(4,yac)],[(.ret,qS Uat []),(.exit 0,qS [sP 3 .str,sP 16 gj,Uaa 17,Uaa 18,Xaa 19] [(4,yac)])]⟩]⟩
def xT:Ctr:=⟨182,82,[.agg yac],[],[⟨zab,[.one],[]⟩],as1 (as2 (as4 ap1)) oV⟩
theorem ES:Lk 2 xT:=ls Fz (aC sw (aC zu aN))
def jE(a0:z_)(a1:LDOp)(a2:Int):f_:=bif(decide (a2>=0))then(let x0:Int:=(fY a1.length);bif(decide (a2<x0))then((gg a2).bind λx1=>
(fR a1 x1).bind λx2=>some ((x2.1 != (-1)),()))else some (false,()))else some (false,())
def HZ:X.Cfg:=⟨E0,[],[],[]⟩
def oB:Ctr:=⟨196,83,[.agg uae,shU I64],[],[⟨zab,[.one],[]⟩],ap3 jE⟩
theorem qT:Lk 1 oB:=ls HZ aN
def s7:T2r->Option (T2r⊕(LDCn×Nat×Int×Int×Int×Bool×T1m)):=λ(v0,v1,v2,v3,v4,v5,v6,v7,v8,v9,ej,_)=>bif(decide (v4<v3))then(((fR v9 v1).bind λx0=>let x1:=w64 (x0.2.1+v4);let x2:=fY ej.length;bif(decide (x1<x2))then((fR v9 v1).bind λx3=>let x4:=w64 (x3.2.1+v4);
(gg v4).bind λx5=>
(fR v0 x5).bind λx6=>
(gg x4).bind λx7=>
(fR ej x7).bind λ_=>
(fR ej x7).bind λ_=>let ac:=ej.modify x7 λe=>(x6.1,(x6.2.1,(x6.2.2.1,x6.2.2.2)));some (v0,v1,v2,v3,v4,v5,v6,v7,v8,v9,ac,()))else
(gg v4).bind λx3=>
(fR v0 x3).bind λx4=>let x5:LDCn:=[(x4.1,(x4.2.1,(x4.2.2.1,x4.2.2.2)))];bif(gh 24 ej.length x5.length)then let x6:LDCn:=(List.append ej x5);some (v0,v1,v2,v3,v4,v5,v6,v7,v8,v9,x6,())else none:Option (T2r)).bind λ(x0,x1,x2,x3,x4,x5,x6,x7,x8,x9,ac,_)=>let ae:=w64 (x4+1);some (.inl (x0,x1,x2,x3,ae,x5,x6,x7,x8,x9,ac,())))else some (.inr (v0,v1,v2,v3,v4,false,v5,v6,v7,v8,v9,ej,()))
def oS(a0:z_)(a1:LDOp)(a2:Int)(a3:LDCn):Option (LLCn×LDOp×T01):=
(i8 a0 a1).bind λ(x0,x1,_)=>
((jE a0 a1 a2).bind λ(x2,_)=>bif(!x2)then(some (a2,a3,true,(),(),x0,x1,()))else
(gg a2).bind λx3=>
(fR a1 x3).bind λx4=>bif(!x4.2.2)then(some (a2,a3,true,(),(),x0,x1,()))else let x5:=fY a3.length;
(iq a3 x5).bind λ(x6,_)=>some (a2,a3,(!x6),(),(),x0,x1,()):Option (Int×LDCn×T0M)).bind λ(x2,x3,x4,x5,x6,x7,x8,_)=>bif x4 then(some (x7,x8,0,false,()))else
(gg x2).bind λx9=>
(fR x8 x9).bind λ_=>let ae:=fY x3.length;
(fR x8 x9).bind λaf=>let ag:=w64 (64-af.2.1);let ah:=mmR false ae ag;
(fR x8 x9).bind λai=>
(gg ai.1).bind λaj=>
(fR x7 aj).bind λ_=>
(fR x7 aj).bind λ_=>
(fR x7 aj).bind λan=>
(f9 s7 NN (x3,x9,ah,ah,0,x5,x6,x7,aj,x8,an,())).bind λ(_,aq,av,_,_,_,_,_,aD,aE,aF,aG,_)=>
(fR aF aq).bind λaH=>
(gg aH.1).bind λaI=>
(fR aD aI).bind λ_=>
(fR aD aI).bind λ_=>bif(Nat.beq aI aE)then let aL:z_:=(aD.modify aI λe=>aG);
(fR aF aq).bind λaM=>let aO:=w64 (aM.2.1+av);
(fR aF aq).bind λ_=>let aQ:=aF.modify aq λe=>(e.1,(aO,e.2.2));some (aL,aQ,av,true,())else none
def Fp:X.Cfg:=⟨E0,[kX,oB,jg],[],[⟨3,0,qE,[(.normal,qS [Uaa 1,sP 2 gj,zaa 6,zaa 9,Xaa 35] [(14,uac),(20,zaf)])]⟩,⟨13,1,qE,[(.normal,(qS Xaw Zaq))]⟩,(lx 10 2 Xaw Zaq 59)]⟩
def xP:Ctr:=⟨183,84,[.agg uae,shU I64,shU gj],[],[⟨uL [(uaa (uaa KCn)),(uaa KOp),I64,.bool],[.agg 2,.one,.one],[]⟩],ap4 oS⟩
theorem EO:Lk 3 xP:=ls Fp (aC mq (aC qT (aC jS aN)))
def qB(a0:z_)(a1:LDOp)(a2 a3:Int):Option ((LLCn×LDOp×Unit×Bool×Unit)⊕(LLCn×LDOp×LDCn×Bool×Unit)):=
(i8 a0 a1).bind λ(x0,x1,_)=>
((jE a0 a1 a2).bind λ(x2,_)=>bif(!x2)then(some (a2,a3,true,a0,a1,(),(),x0,x1,()))else bif(decide (a3<0))then(some (a2,a3,true,a0,a1,(),(),x0,x1,()))else
(gg a2).bind λx3=>
(fR a1 x3).bind λx4=>some (a2,a3,x4.2.2,a0,a1,(),(),x0,x1,()):Option (T1V)).bind λ(x2,x3,x4,_,_,_,_,x9,ac,_)=>bif x4 then(some (.inl (x9,ac,(),false,())))else
(gg x2).bind λae=>
(fR ac ae).bind λ_=>
(fR ac ae).bind λag=>
(gg ag.1).bind λah=>
(fR x9 ah).bind λ_=>
(fR x9 ah).bind λ_=>
(fR x9 ah).bind λak=>let am:=fY ak.length;
(fR ac ae).bind λan=>let ap:=w64 (am-an.2.1);let aq:=mmR false x3 ap;
(fR ac ae).bind λav=>
(fR ac ae).bind λax=>let ay:=w64 (ax.2.1+aq);
(gg av.2.1).bind λaz=>
(gg ay).bind λaA=>bif(iK az aA ak.length)then let aB:LDCn:=(nv ak az (Nat.sub aA az));bif(gh 24 0 aB.length)then let aD:LDCn:=(List.append [] aB);
(fR ac ae).bind λaE=>let aF:=w64 (aE.2.1+aq);
(fR ac ae).bind λ_=>let aH:=ac.modify ae λe=>(e.1,(aF,e.2.2));some (.inr (x9,aH,aD,true,()))else none else none
def H4:X.Cfg:=⟨E0,[kX,oB],[],[⟨3,0,qE,[(.normal,qS (il [1,2]++zl [6,9]++[Xaa 31]) [(8,uae),(14,uac),(20,zaf)])]⟩]⟩
def zT:Ctr:=⟨184,85,[.agg uae,shU I64,shU I64],[],[⟨uL [(uaa (uaa KCn)),(uaa KOp),N1,.bool],[.agg 2,.one,.one],[]⟩,⟨uL [(uaa gj),(uaa KOp),(uaa KCn),.bool],[.agg 2,.one,.one],[]⟩],ap4 qB⟩
theorem Hx:Lk 2 zT:=ls H4 (aC mq (aC qT aN))
def tO:T1Z->Option (T1Z⊕(Int×T1V)):=λ(v0,v1,v2,v3,v4,v5)=>let x0:=fY v4.length;bif(decide (v2<x0))then((gg v2).bind λx1=>
(fR v4 x1).bind λx2=>bif(x2.1 != (-1))then(let x3:Int:=(w64 (v2+1));some (.inl (v0,v1,x3,v3,v4,v5)))else some (.inr (v0,v1,v2,false,v3,v4,v5)))else some (.inr (v0,v1,v2,false,v3,v4,v5))
def tN:T1X->Option (T1X⊕(Int×Int×T1F)):=λ(v0,v1,v2,v3,v4,v5,v6,v7,v8,_)=>bif(decide (v4<v3))then(((gg v4).bind λx0=>
(fR v8 x0).bind λ_=>
(fR v8 x0).bind λx2=>bif(x2.1==v0)then((gg v4).bind λx3=>
(fR v8 x3).bind λ_=>
(fR v8 x3).bind λ_=>let x6:=v8.modify x3 λe=>(e.1,(0,e.2.2));some (v0,v1,v2,v3,v4,v5,v6,v7,x6,()))else some (v0,v1,v2,v3,v4,v5,v6,v7,v8,()):Option (T1X)).bind λ(x0,x1,x2,x3,x4,x5,x6,x7)=>let x9:=w64 (x4+1);some (.inl (x0,x1,x2,x3,x9,x5,x6,x7)))else some (.inr (v0,v1,v2,v3,v4,false,v5,v6,v7,v8,()))
def qC(a0:z_)(a1:LDOp)(a2 a3:Int):Option (LLCn×LDOp×Int×Unit):=
(i8 a0 a1).bind λ(x0,x1,_)=>
(f9 tO NN (a2,a3,0,a0,a1,(),(),x0,x1,())).bind λ(x2,x3,x4,_,x6,x7,x8)=>
(bif(decide (x2<0))then(some (x2,x3,x4,true,x8))else let af:=fY x6.length;bif(decide (x2>=af))then(some (x2,x3,x4,true,x8))else bif(decide (x3<0))then(some (x2,x3,x4,true,x8))else bif(decide (x3>2))then(some (x2,x3,x4,true,x8))else let ag:=fY x7.length;some (x2,x3,x4,(x4==ag),x8):Option (T1F)).bind λ(af,ag,ah,ai,aj,ak,am,an,_)=>bif ai then(some (am,an,(-1),()))else bif(ag==1)then((gg af).bind λap=>
(fR am ap).bind λ_=>
(fR am ap).bind λ_=>let ax:=am.modify ap λe=>[];let ay:=fY an.length;
(f9 tN NN (af,ag,ah,ay,0,aj,ak,ax,an,())).bind λ(az,aA,aB,_,_,_,aG,aH,aI,aJ,_)=>
(gg aB).bind λaK=>
(fR aJ aK).bind λ_=>
(fR aJ aK).bind λ_=>let aO:=aJ.modify aK λe=>(az,(0,(decide (aA>0))));
(bif(aA==2)then((gg az).bind λaP=>
(fR aI aP).bind λ_=>
(fR aI aP).bind λ_=>
(fR aI aP).bind λaS=>let aT:=fY aS.length;
(gg aB).bind λaU=>
(fR aO aU).bind λ_=>
(fR aO aU).bind λ_=>let aY:=aO.modify aU λe=>(e.1,(aT,e.2.2));some (aB,aG,aH,aI,aY,()))else some (aB,aG,aH,aI,aO,()):Option (T0R)).bind λ(aP,_,_,aS,aT,_)=>some (aS,aT,aP,()))else
(gg ah).bind λap=>
(fR an ap).bind λ_=>
(fR an ap).bind λ_=>let ax:=an.modify ap λe=>(af,(0,(decide (ag>0))));
(bif(ag==2)then((gg af).bind λay=>
(fR am ay).bind λ_=>
(fR am ay).bind λ_=>
(fR am ay).bind λaB=>let aD:=fY aB.length;
(gg ah).bind λaE=>
(fR ax aE).bind λ_=>
(fR ax aE).bind λ_=>let aH:=ax.modify aE λe=>(e.1,(aD,e.2.2));some (ah,aj,ak,am,aH,()))else some (ah,aj,ak,am,ax,()):Option (T0R)).bind λ(ay,_,_,aB,aD,_)=>some (aB,aD,ay,())
def H5:X.Cfg:=⟨E0,[kX],[],[(lx 4 0 (il [1,2]++zl [3,6,8]++[Uaa 9]) [(8,uae),(14,uac),(18,zaf)] 26),⟨8,1,qE,[(.normal,qS (il [1,2]++zl [6,8]++[Uaa 9,Xaa 52]) zan)]⟩,⟨17,2,qE,[(.normal,qS Zaw zan)]⟩,⟨14,3,qS Zaw zan,[(.exit 2,qS (il [1,2]++zl [6,8]++il [9,62,63]++[Xaa 64]) zan)]⟩,⟨21,4,qE,[(.normal,qS [zaa 6,zaa 8,Uaa 9] zan)]⟩]⟩
def zU:Ctr:=⟨185,86,[.agg uae,shU I64,shU I64],[],[⟨Xak,[.agg 2,.one],[]⟩],ap4 qC⟩
theorem Hy:Lk 2 zU:=ls H5 (aC mq aN)
def oT(a0:z_)(a1:LDOp)(a2:Int):Option (LLCn×LDOp×Bool×Unit):=
(i8 a0 a1).bind λ(x0,x1,_)=>
(jE a0 a1 a2).bind λ(x2,_)=>bif(!x2)then(some (x0,x1,false,()))else
(gg a2).bind λx3=>
(fR x1 x3).bind λ_=>
(fR x1 x3).bind λ_=>let x6:=x1.modify x3 λe=>((-1),(0,false));some (x0,x6,true,())
def Fr:X.Cfg:=⟨E0,[kX,oB],[],[]⟩
def xQ:Ctr:=⟨186,87,[.agg uae,shU I64],[],[⟨zal,[.agg 2,.one],[]⟩],ap3 oT⟩
theorem EP:Lk 2 xQ:=ls Fr (aC mq (aC qT aN))
def qA(a0:z_)(a1:LDOp)(a2 a3:Int):Option (LLCn×LDOp×Bool×Unit):=
(i8 a0 a1).bind λ(x0,x1,_)=>
((jE a0 a1 a2).bind λ(x2,_)=>bif(!x2)then(some (a2,a3,true,(),(),x0,x1,()))else bif(decide (a3<0))then(some (a2,a3,true,(),(),x0,x1,()))else
(gg a2).bind λx3=>
(fR a1 x3).bind λx4=>
(gg x4.1).bind λx5=>
(fR a0 x5).bind λx6=>let x7:=fY x6.length;some (a2,a3,(decide (a3>x7)),(),(),x0,x1,()):Option (T1o)).bind λ(x2,x3,x4,_,_,x7,x8,_)=>bif x4 then(some (x7,x8,false,()))else
(gg x2).bind λx9=>
(fR x8 x9).bind λ_=>
(fR x8 x9).bind λ_=>let af:=x8.modify x9 λe=>(e.1,(x3,e.2.2));some (x7,af,true,())
def H3:X.Cfg:=⟨E0,[kX,oB],[],[⟨3,0,qE,[(.normal,qS (il [1,2]++zl [6,8]++[Xaa 33]) zan)]⟩]⟩
def zS:Ctr:=⟨187,88,[.agg uae,shU I64,shU I64],[],[⟨zal,[.agg 2,.one],[]⟩],ap4 qA⟩
theorem Hw:Lk 2 zS:=ls H3 (aC mq (aC qT aN))
def ml(a0:LDOu)(a1:Int)(a2:LDCn):Option (LDOu×T01):=
(kI a0).bind λ(x0,_)=>
(bif(decide (a1<0))then(some (a0,a1,a2,true,x0,()))else bif(decide (a1>=2))then(some (a0,a1,a2,true,x0,()))else let x1:=fY a0.length;bif(decide (x1>=200))then(some (a0,a1,a2,true,x0,()))else let x2:=fY a2.length;some (a0,a1,a2,(decide (x2>16)),x0,()):Option (LDOu×Int×LDCn×Bool×LDOu×Unit)).bind λ(x1,x2,x3,x4,x5,_)=>bif x4 then(some (x5,0,false,()))else let x6:=fY x1.length;bif(gh 24 0 x3.length)then let x7:LDCn:=(List.append [] x3);let x8:LDOu:=[(x6,(x2,x7))];bif(gh 40 x5.length x8.length)then let x9:LDOu:=(List.append x5 x8);let ac:=fY x3.length;some (x9,ac,true,())else none else none
def HX:X.Cfg:=⟨E0,[ux],[(36,IZ),(37,IZ)],[⟨3,0,qE,[(.normal,qS [sP 0 kY,Uaa 1,sP 2 gj,Zaa 9 21,Xaa 27] [(21,uak)])]⟩]⟩
def zR:Ctr:=⟨188,89,uL [kY,I64,gj],[],[⟨uL [(uaa IZ),I64,.bool],[.one,.one,.one],[]⟩],ap3 ml⟩
theorem Hv:Lk 2 zR:=ls HX (aC zr aN)
def i7:T1t->Option (T1t⊕(Int×Int×LI×Int×Int×Bool×LLI×LDCn×Unit)):=λ(v0,v1,v2,v3,v4,v5,v6,_)=>bif(decide (v4<v3))then((gg v4).bind λx0=>
(fR v2 x0).bind λx1=>let x2:LDCn:=[(0,(x1,(0,0)))];bif(gh 24 v6.length x2.length)then let x3:LDCn:=(List.append v6 x2);let x4:=w64 (v4+1);some (.inl (v0,v1,v2,v3,x4,v5,x3,()))else none)else some (.inr (v0,v1,v2,v3,v4,false,v5,v6,()))
def mD(a0:LLI)(a1 a2:Int):Option ((LLI×Unit×Bool×Unit)⊕(LLI×LDCn×Bool×Unit)):=
(iG a0).bind λ(x0,_)=>
(bif(decide (a1<0))then(some (a0,a1,a2,true,x0,()))else let x1:=fY a0.length;bif(decide (a1>=x1))then(some (a0,a1,a2,true,x0,()))else some (a0,a1,a2,(decide (a2<0)),x0,()):Option (LLI×Int×Int×Bool×LLI×Unit)).bind λ(x1,x2,x3,x4,x5,_)=>bif x4 then(some (.inl (x5,(),false,())))else
(gg x2).bind λx6=>
(fR x1 x6).bind λx7=>let x8:=fY x7.length;let x9:=mmR false x3 x8;
(gg x2).bind λac=>
(fR x1 ac).bind λae=>
(gg x9).bind λaf=>bif(iK 0 af ae.length)then let ag:v_:=(nv ae 0 (Nat.sub af 0));let ah:=fY ag.length;
(f9 i7 NN (x2,x9,ag,ah,0,x5,[],())).bind λ(ai,aj,_,_,_,_,aq,av,_)=>
(gg ai).bind λax=>
(fR aq ax).bind λ_=>
(fR aq ax).bind λ_=>
(fR aq ax).bind λaA=>
(gg aj).bind λaB=>bif(iK aB aA.length aA.length)then(fR aq ax).bind λ_=>
(gg ai).bind λaE=>
(fR aq aE).bind λ_=>
(fR aq ax).bind λaG=>
(fR aq aE).bind λ_=>let aI:=aq.modify aE λe=>(nv aG aB (Nat.sub aA.length aB));some (.inr (aI,av,true,()))else none else none
def BL:X.Cfg:=⟨E0,[kD],[],[⟨3,0,qE,[(.normal,qS [sP 0 (yaa RW),Uaa 1,Uaa 2,Zaa 9 21,Xaa 27] [(21,zaj)])]⟩,(lx 9 1 [Uaa 1,Zaa 9 21,Uaa 10,Zaa 11 25,sP 41 RW,Uaa 42,Uaa 43] [(21,zaj),(25,Xag)] 44)]⟩
def uv:Ctr:=⟨189,90,uL [(yaa RW),I64,I64],[],[⟨uL [(uaa (uaa CW)),N1,.bool],[.one,.one,.one],[]⟩,⟨uL [(uaa RW),(uaa KCn),.bool],[.one,.one,.one],[]⟩],ap3 mD⟩
theorem Bq:Lk 2 uv:=ls BL (aC na aN)
def r7:T3I->Option (T3I⊕(LDCn×Int×Int×Bool×T3A)):=λ(v0,v1,v2,v3,v4,v5,v6,v7,v8,v9,ej,eq,eE,eG,eI,eK,eO,eS,eV,eX,eZ,fc,ff,fi,fk,fq,fr,fu,fv,fw,fA,fB,fC,fD,fE,fF,fG,_)=>bif(decide (v2<v1))then((gg v2).bind λx0=>
(fR v0 x0).bind λx1=>let x2:=wk .i64 x1.2.1;
(gg v2).bind λx3=>
(fR fG x3).bind λ_=>
(fR fG x3).bind λ_=>let x6:=fG.modify x3 λe=>x2;let x7:=w64 (v2+1);some (.inl (v0,v1,x7,v3,v4,v5,v6,v7,v8,v9,ej,eq,eE,eG,eI,eK,eO,eS,eV,eX,eZ,fc,ff,fi,fk,fq,fr,fu,fv,fw,fA,fB,fC,fD,fE,fF,x6,())))else some (.inr (v0,v1,v2,false,v3,v4,v5,v6,v7,v8,v9,ej,eq,eE,eG,eI,eK,eO,eS,eV,eX,eZ,fc,ff,fi,fk,fq,fr,fu,fv,fw,fA,fB,fC,fD,fE,fF,fG,()))
def nE(a0 a1:LI)(a2:LLI)(a3:z_)(a4:LDOp)(a5:LDOu)(a6 a7 a8 a9 ef ek:Int)(eu eF:LDCn):Option (LI×LI×LLI×LLCn×LDOp×LDOu×Int×Int×Int×Int×LDCn×Int×Bool×Int×Unit):=
((lf a0 a1 a2 a3 a4 a5).bind λ(x0,_)=>bif(!x0)then(some (true,a0,a1,a2,a3,a4,a5,a6,a7,a8,a9,ef,ek,eu,eF,(),(),(),(),(),(),0,0,0,0,(),0,false,()))else
(mM a6 a7 a8 a9 ef ek eu eF).bind λ(x1,_)=>bif(!x1)then(some (true,a0,a1,a2,a3,a4,a5,a6,a7,a8,a9,ef,ek,eu,eF,(),(),(),(),(),(),0,0,0,0,(),0,false,()))else bif(a7 != 1)then(some (true,a0,a1,a2,a3,a4,a5,a6,a7,a8,a9,ef,ek,eu,eF,(),(),(),(),(),(),0,0,0,0,(),0,false,()))else
(tM ek).bind λ(x2,_)=>bif(!x2)then(some (true,a0,a1,a2,a3,a4,a5,a6,a7,a8,a9,ef,ek,eu,eF,(),(),(),(),(),(),0,0,0,0,(),0,false,()))else
(oV a6 a7 a8 a9 ef ek eu eF).bind λ(x3,_)=>bif(!x3)then(some (true,a0,a1,a2,a3,a4,a5,a6,a7,a8,a9,ef,ek,eu,eF,(),(),(),(),(),(),0,0,0,0,(),0,false,()))else
(ki ek).bind λ(x4,_)=>bif(x4==2)then((fR eu 2).bind λx5=>some ((decide (x5.2.1>16)),a0,a1,a2,a3,a4,a5,a6,a7,a8,a9,ef,ek,eu,eF,(),(),(),(),(),(),0,0,0,0,(),0,false,()))else some (false,a0,a1,a2,a3,a4,a5,a6,a7,a8,a9,ef,ek,eu,eF,(),(),(),(),(),(),0,0,0,0,(),0,false,()):Option (Bool×LI×LI×LLI×LLCn×LDOp×LDOu×Int×Int×Int×Int×Int×Int×LDCn×LDCn×Unit×Unit×Unit×Unit×Unit×Unit×T1r)).bind λ(x0,x1,x2,x3,x4,x5,x6,x7,x8,x9,ac,ae,af,ag,ah,ai,aj,ak,am,an,ap,aq,av,ax,ay,az,aA,aB,_)=>bif x0 then(some ([],[],[],[],[],[],0,0,0,0,[],0,false,1,()))else
(qz x1 x2 x3 x4 x5 x6).bind λ(aD,aE,aF,aG,aH,aI,_)=>let aJ:v_:=[0,0,0];let aK:=fY ag.length;
(f9 r7 NN (ag,aK,0,x1,x2,x3,x4,x5,x6,x7,x8,x9,ac,ae,af,ag,ah,ai,aj,ak,am,an,ap,aq,av,ax,ay,az,aA,aB,aD,aE,aF,aG,aH,aI,aJ,())).bind λ(_,_,_,_,aQ,aR,aS,aT,aU,aV,_,_,_,_,_,bd,_,bf,bg,bh,bi,bj,bk,bl,bm,bn,bo,bp,bq,bt,bv,bx,bA,bB,bC,bD,bE,bF,_)=>
(gk 0 false).bind λ(bG,bH,bI,bJ,bK)=>
(match(bif(bd==1)then((fR bF 0).bind λ_=>
(fR bF 0).bind λbO=>
(oS aT aU bO bf).bind λ(bP,bQ,bR,bS,_)=>
(gk bR bS).bind λ(bT,bU,bV,bW,_,bZ,b8,_)=>some (.inl (bg,bh,bi,bj,bk,bl,bm,bn,bo,bp,bq,bt,bv,bx,bA,bB,bP,bQ,bE,bT,bU,bV,bW,[],bZ,b8,())))else bif(bd==2)then((fR bF 0).bind λ_=>
(fR bF 0).bind λbO=>
(fR bF 2).bind λ_=>
(fR bF 2).bind λbQ=>
(match qB aT aU bO bQ with
|none=>none
|some (.inl (bR,bS,_,bU,_))=>
(gk 0 bU).bind λ(bV,bW,bY,bZ,_,b9,cb,_)=>some (.inl (bg,bh,bi,bj,bk,bl,bm,bn,bo,bp,bq,bt,bv,bx,bA,bB,bR,bS,bE,bV,bW,bY,bZ,[],b9,cb,()))
|some (.inr (bR,bS,bT,bU,_))=>let bV:=fY bT.length;
(gk bV bU).bind λ(bW,bY,bZ,b8,_,cb,cd,_)=>some (.inl (bg,bh,bi,bj,bk,bl,bm,bn,bo,bp,bq,bt,bv,bx,bA,bB,bR,bS,bE,bW,bY,bZ,b8,bT,cb,cd,()))))else bif(bd==3)then((fR bF 0).bind λ_=>
(fR bF 0).bind λbO=>
(fR bF 1).bind λ_=>
(fR bF 1).bind λbQ=>
(qC aT aU bO bQ).bind λ(bR,bS,bT,_)=>bif(decide (bT>=0))then(let bU:Int:=(wk .u16 bT);some (.inr (.inl (bg,bh,bi,bj,bk,bl,bm,bn,bo,bp,bq,bt,bv,bx,bA,bB,bR,bS,bE,2,bU,0,0,bK))))else some (.inr (.inl (bg,bh,bi,bj,bk,bl,bm,bn,bo,bp,bq,bt,bv,bx,bA,bB,bR,bS,bE,bG,bH,bI,bJ,bK))))else bif(bd==4)then((fR bF 0).bind λ_=>
(fR bF 0).bind λbO=>
(oT aT aU bO).bind λ(bP,bQ,bR,_)=>
(gk 0 bR).bind λ(bS,bT,bU,bV,_,bY,bZ,_)=>some (.inl (bg,bh,bi,bj,bk,bl,bm,bn,bo,bp,bq,bt,bv,bx,bA,bB,bP,bQ,bE,bS,bT,bU,bV,[],bY,bZ,())))else bif(bd==5)then((fR bF 0).bind λ_=>
(fR bF 0).bind λbO=>
(fR bF 1).bind λ_=>
(fR bF 1).bind λbQ=>
(qA aT aU bO bQ).bind λ(bR,bS,bT,_)=>
(gk 0 bT).bind λ(bU,bV,bW,bY,_,b8,b9,_)=>some (.inl (bg,bh,bi,bj,bk,bl,bm,bn,bo,bp,bq,bt,bv,bx,bA,bB,bR,bS,bE,bU,bV,bW,bY,[],b8,b9,())))else bif(bd==6)then(let bN:Int:=(fY aQ.length);bif(decide (bN>0))then((fR aQ 0).bind λbO=>let bP:=wk .i64 bO;
(gk bP true).bind λ(bQ,bR,bS,bT,bU,bV,bW,_)=>bif(iK 1 bx.length bx.length)then let bY:v_:=(nv bx 1 (Nat.sub bx.length 1));some (.inr (.inr (.inl (bg,bh,bi,bj,bk,bl,bm,bn,bo,bp,bq,bt,bv,bY,bA,bB,bC,bD,bE,bQ,bR,bS,bT,bU,bV,bW,()))))else none)else some (.inr (.inl (bg,bh,bi,bj,bk,bl,bm,bn,bo,bp,bq,bt,bv,bx,bA,bB,bC,bD,bE,bG,bH,bI,bJ,bK))))else bif(bd==7)then(let bN:Int:=(fY aR.length);bif(decide (bN>0))then((fR aR 0).bind λbO=>let bP:=wk .i64 bO;
(gk bP true).bind λ(bQ,bR,bS,bT,bU,bV,bW,_)=>bif(iK 1 bA.length bA.length)then let bY:v_:=(nv bA 1 (Nat.sub bA.length 1));some (.inr (.inr (.inr (.inl (bg,bh,bi,bj,bk,bl,bm,bn,bo,bp,bq,bt,bv,bx,bY,bB,bC,bD,bE,bQ,bR,bS,bT,bU,bV,bW,())))))else none)else some (.inr (.inl (bg,bh,bi,bj,bk,bl,bm,bn,bo,bp,bq,bt,bv,bx,bA,bB,bC,bD,bE,bG,bH,bI,bJ,bK))))else bif(bd==13)then((fR bF 0).bind λ_=>
(fR bF 0).bind λbO=>
(ml aV bO bf).bind λ(bP,bQ,bR,_)=>
(gk bQ bR).bind λ(bS,bT,bU,bV,bW,bY,bZ,_)=>some (.inr (.inl (bg,bh,bi,bj,bk,bl,bm,bn,bo,bp,bq,bt,bv,bx,bA,bB,bC,bD,bP,bS,bT,bU,bV,bW,bY,bZ,()))))else bif(bd==14)then((fR bF 0).bind λ_=>
(fR bF 0).bind λbO=>
(fR bF 2).bind λ_=>
(fR bF 2).bind λbQ=>
(match mD aS bO bQ with
|none=>none
|some (.inl (bR,bS,bT,_))=>
(gk 0 bT).bind λ(bU,bV,bW,bY,_,b8,b9,_)=>some (.inr (.inl (bg,bh,bi,bj,bk,bl,bm,bn,bo,bp,bq,bt,bv,bx,bA,bR,bC,bD,bE,bU,bV,bW,bY,bS,b8,b9,())))
|some (.inr (bR,bS,bT,_))=>let bU:=fY bS.length;
(gk bU bT).bind λ(bV,bW,bY,bZ,_,b9,cb,_)=>some (.inr (.inr (.inr (.inr (bg,bh,bi,bj,bk,bl,bm,bn,bo,bp,bq,bt,bv,bx,bA,bR,bC,bD,bE,bV,bW,bY,bZ,bS,b9,cb,())))))))else some (.inr (.inl (bg,bh,bi,bj,bk,bl,bm,bn,bo,bp,bq,bt,bv,bx,bA,bB,bC,bD,bE,bG,bH,bI,bJ,bK))):Option (T3p⊕(T3q⊕(T3q⊕(T3q⊕T3p)))))with
|none=>none
|some (.inl (_,_,_,_,_,_,_,_,_,_,_,_,_,b9,cb,cd,cf,cg,ch,ci,cj,cl,cn,cq,cr,cu,_))=>some (b9,cb,cd,cf,cg,ch,ci,cj,cl,cn,cq,cr,cu,0,())
|some (.inr (.inl (_,_,_,_,_,_,_,_,_,_,_,_,_,b9,cb,cd,cf,cg,ch,ci,cj,cl,cn,_,cr,cu,_)))=>some (b9,cb,cd,cf,cg,ch,ci,cj,cl,cn,[],cr,cu,0,())
|some (.inr (.inr (.inl (_,_,_,_,_,_,_,_,_,_,_,_,_,b9,cb,cd,cf,cg,ch,ci,cj,cl,cn,_,cr,cu,_))))=>some (b9,cb,cd,cf,cg,ch,ci,cj,cl,cn,[],cr,cu,0,())
|some (.inr (.inr (.inr (.inl (_,_,_,_,_,_,_,_,_,_,_,_,_,b9,cb,cd,cf,cg,ch,ci,cj,cl,cn,_,cr,cu,_)))))=>some (b9,cb,cd,cf,cg,ch,ci,cj,cl,cn,[],cr,cu,0,())
|some (.inr (.inr (.inr (.inr (_,_,_,_,_,_,_,_,_,_,_,_,_,b9,cb,cd,cf,cg,ch,ci,cj,cl,cn,cq,cr,cu,_)))))=>some (b9,cb,cd,cf,cg,ch,ci,cj,cl,cn,cq,cr,cu,0,()))
def Mr:X.Cfg:=⟨E0,[pF,sJ,zQ,xT,lL,uu,ni,xP,zT,zU,xQ,zS,zR,uv],[],[⟨2,0,qE,[(.normal,qS (zl [2,3,4,5]++[Xaa 67]) [(6,Zag),(8,yac),(10,zah),(12,Xad)])]⟩,(lx 8 1 (zl [2,3,4,5,7]++Zaa 8 19::sP 74 gj::il [75,76]) [(6,Zag),(8,yac),(10,zah),(12,Xad),(16,yak),(19,Zae)] 77),⟨14,2,qE,[(.normal,(qS zau [(10,zah),(12,Xad),(16,uL [(uaa CW),(uaa CW),(uaa (uaa CW)),(yaa gj),jh,(uaa IZ)]),(24,yah)])),(.normal,qS zau [(10,zah),(12,Xad),(16,yak),(24,Xad)]),(.normal,(qS zau [(10,zah),(12,Xad),(16,uL [RW,(uaa CW),(uaa (uaa CW)),(uaa (uaa KCn)),(uaa KOp),(uaa IZ)]),(24,Xad)])),(.normal,(qS zau [(10,zah),(12,Xad),(16,uL [(uaa CW),RW,(uaa (uaa CW)),(uaa (uaa KCn)),(uaa KOp),(uaa IZ)]),(24,Xad)])),(.normal,(qS zau [(10,zah),(12,Xad),(16,uL [(uaa CW),(uaa CW),(uaa RW),(uaa (uaa KCn)),(uaa KOp),(uaa IZ)]),(24,yah)]))]⟩]⟩
def D9:Ctr:=⟨172,91,[.agg Zag,.agg yac],[],[⟨uL [RW,RW,(yaa RW),(yaa gj),jh,kY,CB,CW,I64,I64,gj,I64,.bool,I64],[.agg 6,.agg 7,.one],[]⟩],as1 (as4 (as8 ap1)) nE⟩
theorem Mj:Lk 5 D9:=ls Mr (aC su (aC xn (aC Hu (aC ES (aC oc (aC zq (aC px (aC EO (aC Hx (aC Hy (aC EP (aC Hw (aC Hv (aC Bq aN))))))))))))))
def mA:T3r->Option (T3r⊕(T3l⊕(Int×Int×Bool×T3l))):=λ(v0,v1,v2,v3,v4,v5,v6,v7,v8,v9,ej,eq,eE,eG,eI,eK,eO,eS,eV,eX,eZ)=>bif(decide (v1<v0))then((gg v1).bind λx0=>
(fR v9 x0).bind λ_=>
(fR v9 x0).bind λx2=>bif(x2.1==0)then((gk v1 true).bind λ(x3,x4,x5,x6,x7,_,x9,_)=>some (.inr (.inl (v2,v3,v4,v5,v6,v7,v8,v9,ej,eq,eE,eG,eI,eK,eO,eS,eV,eX,x3,x4,x5,x6,x7,v1,x9,()))))else let x3:=w64 (v1+1);some (.inl (v0,x3,v2,v3,v4,v5,v6,v7,v8,v9,ej,eq,eE,eG,eI,eK,eO,eS,eV,eX,eZ)))else some (.inr (.inr (v0,v1,false,v2,v3,v4,v5,v6,v7,v8,v9,ej,eq,eE,eG,eI,eK,eO,eS,eV,eX,eZ)))
def mB(a0 a1 a2 a3 a4 a5:Int)(a6 a7:LDCn)(a8:LDIn)(a9:LI)(ef:LLI)(ek:LI)(eu:Int)(eF:LDCe)(eH:LDLn)(eJ:LDTh)(eM eQ:LI)(eU:LLI)(eW:z_)(eY:LDOp)(fa:LDOu)(fe:LI)(fh:LLI)(fj:LDEn)(fm:LI):Option (Int×Int×Int×Int×LDCn×T38):=
(bif(a5==0)then(some (a5,true,a8,a9,ef,ek,eu,eF,eH,eJ,eM,eQ,eU,eW,eY,fa,fe,fh,fj,fm,a0,a1,a2,a3,a4,a5,a6,a7,0,0,0,0,(),0,false,()))else bif(a5==12)then(some (a5,true,a8,a9,ef,ek,eu,eF,eH,eJ,eM,eQ,eU,eW,eY,fa,fe,fh,fj,fm,a0,a1,a2,a3,a4,a5,a6,a7,0,0,0,0,(),0,false,()))else some (a5,(a5==15),a8,a9,ef,ek,eu,eF,eH,eJ,eM,eQ,eU,eW,eY,fa,fe,fh,fj,fm,a0,a1,a2,a3,a4,a5,a6,a7,0,0,0,0,(),0,false,()):Option (T3B)).bind λ(x0,x1,x2,x3,x4,x5,x6,x7,x8,x9,ac,ae,af,ag,ah,ai,aj,ak,am,an,ap,aq,av,ax,ay,az,aA,aB,aD)=>bif x1 then((gk 0 true).bind λ(aK,aL,aM,aO,_,aQ,aR,_)=>some (aK,aL,aM,aO,[],aQ,aR,x2,x3,x4,x5,x6,x7,x8,x9,ac,ae,af,ag,ah,ai,aj,ak,am,an,()))else bif(x0==8)then((fR aA 0).bind λaK=>let aL:=wk .i64 aK.2.1;
(qD aj ak aL ap).bind λ(aM,aO,aP,_)=>
(gk 0 (aP != 2)).bind λ(aQ,aR,aS,aT,_,aV,_,_)=>some (aQ,aR,aS,aT,[],aV,(aP==1),x2,x3,x4,x5,x6,x7,x8,x9,ac,ae,af,ag,ah,ai,aM,aO,am,an,()))else bif(x0==9)then((fR aA 0).bind λaK=>let aL:=wk .i64 aK.2.1;
(jF aj ak aL ap).bind λ(aM,aO,_,aQ,_)=>
(gk 0 aQ).bind λ(aR,aS,aT,aU,_,aW,aY,_)=>some (aR,aS,aT,aU,[],aW,aY,x2,x3,x4,x5,x6,x7,x8,x9,ac,ae,af,ag,ah,ai,aM,aO,am,an,()))else bif(x0==10)then(let aK:Int:=(fY x9.length);
(match f9 mA NN (aK,0,x2,x3,x4,x5,x6,x7,x8,x9,ac,ae,af,ag,ah,ai,aj,ak,am,an,aD)with
|none=>none
|some (.inl (aL,aM,aO,aP,aQ,aR,aS,aT,aU,aV,aW,aY,aZ,ba,bc,bd,be,bf,bg,bh,bi,bj,_,bl,bm,_))=>some (bg,bh,bi,bj,[],bl,bm,aL,aM,aO,aP,aQ,aR,aS,aT,aU,aV,aW,aY,aZ,ba,bc,bd,be,bf,())
|some (.inr (_,_,_,aP,aQ,aR,aS,aT,aU,aV,aW,aY,aZ,ba,bc,bd,be,bf,bg,bh,bi,_,_,_,_,_,_,_,_))=>
(gk 0 false).bind λ(bq,bt,bv,bx,_,bB,bC,_)=>some (bq,bt,bv,bx,[],bB,bC,aP,aQ,aR,aS,aT,aU,aV,aW,aY,aZ,ba,bc,bd,be,bf,bg,bh,bi,())))else bif(x0==11)then((fR aA 0).bind λaK=>let aL:=wk .i64 aK.2.1;
(bif(aL==ap)then(some (aL,true,x2,x3,x4,x5,x6,x7,x8,x9,ac,ae,af,ag,ah,ai,aj,ak,am,an,ap,aq,av,ax,ay,az,aA,aB,aD))else bif(decide (aL>=4))then(some (aL,true,x2,x3,x4,x5,x6,x7,x8,x9,ac,ae,af,ag,ah,ai,aj,ak,am,an,ap,aq,av,ax,ay,az,aA,aB,aD))else
(gg aL).bind λaM=>
(fR x9 aM).bind λ_=>
(fR x9 aM).bind λaP=>some (aL,(aP.1==0),x2,x3,x4,x5,x6,x7,x8,x9,ac,ae,af,ag,ah,ai,aj,ak,am,an,ap,aq,av,ax,ay,az,aA,aB,aD):Option (T3B)).bind λ(aM,aO,aP,aQ,aR,aS,aT,aU,aV,aW,aY,aZ,ba,bc,bd,be,bf,bg,bh,bi,bj,_,_,_,_,_,_,_,_,_,_,_,_,_,_,_)=>bif aO then((gk 0 false).bind λ(bE,bF,bG,bH,_,bJ,bK,_)=>some (bE,bF,bG,bH,[],bJ,bK,aP,aQ,aR,aS,aT,aU,aV,aW,aY,aZ,ba,bc,bd,be,bf,bg,bh,bi,()))else
(gg aM).bind λbE=>
(fR aW bE).bind λ_=>
(fR aW bE).bind λbG=>bif(bG.1==4)then(let bH:Int:=(wk .i64 bG.2.2.2.2.2.2.2);
(gk bH true).bind λ(bI,bJ,bK,bL,_,bN,bO,_)=>some (bI,bJ,bK,bL,[],bN,bO,aP,aQ,aR,aS,aT,aU,aV,aW,aY,aZ,ba,bc,bd,be,bf,bg,bh,bi,()))else
(gg bj).bind λbH=>
(fR bi bH).bind λ_=>
(fR bi bH).bind λ_=>let bK:=bi.modify bH λe=>aM;
(gk 0 true).bind λ(bL,bM,bN,bO,_,bQ,_,_)=>some (bL,bM,bN,bO,[],bQ,true,aP,aQ,aR,aS,aT,aU,aV,aW,aY,aZ,ba,bc,bd,be,bf,bg,bh,bK,()))else
(nE ac ae af ag ah ai ap aq av ax ay az aA aB).bind λ(aK,aL,aM,aO,aP,aQ,aR,aS,aT,aU,aV,aW,aY,_,_)=>some (aR,aS,aT,aU,aV,aW,aY,x2,x3,x4,x5,x6,x7,x8,x9,aK,aL,aM,aO,aP,aQ,aj,ak,am,an,())
def BK:X.Cfg:=⟨E0,[ni,zV,qZ,D9],[],[⟨3,0,qE,[(.normal,qS (zl [0,3,4]++[Uaa 21,Xaa 22]) uar)]⟩,⟨20,1,(qS (zl [0,4]++(87,.pk ⟨2,7,[]⟩ [0,0])::il [88,89]) Zap),[(.ret,qS (zl [0,4]) Zap),(.exit 1,(qS (zl [0,4]++(87,.pk ⟨2,7,[]⟩ [0,0])::il [88,89]++[Xaa 90]) Zap))]⟩,⟨33,2,qE,[(.normal,qS (zl [0,3,4]++[Uaa 14,Xaa 131]) uar)]⟩]⟩
def ut:Ctr:=⟨157,92,[.ptr ⟨2,0,[]⟩ [0],.agg yac],[(2,Zad)],[⟨yad,[.agg 7],[(2,Zad)]⟩],as1 (as8 (as8 (as8 ap1))) mB⟩
theorem Bp:Lk 6 ut:=ls BK (aC px (aC Hz (aC ue (aC Mj aN))))
def mH(a0 a1 a2 a3:Int)(a4:LDCn)(a5:Int)(a6:Bool):f_:=
(mn a0 a1 a2 a3).bind λ(x0,_)=>bif x0 then((iq a4 16).bind λ(x1,_)=>bif x1 then(bif(decide (a5>=(-1)))then(some ((decide (a5<4)),()))else some (false,()))else some (false,()))else some (false,())
def Fs:X.Cfg:=⟨E0,[uC,jg],[],[]⟩
def sH:Ctr:=⟨55,93,[.agg yad],[],[⟨zab,[.one],[]⟩],as2 (as4 ap1) mH⟩
theorem xk:Lk 3 sH:=ls Fs (aC zw (aC jS aN))
def jk(a0:LI)(a1:Int)(a2:LI)(a3 a4 a5 a6:Int):Option (T0f):=
(io a2 a3 a4 a5 a6).bind λ(x0,_)=>bif(!x0)then(some (0,0,1,()))else bif(a3==0)then(some (0,a4,0,()))else bif(a3==2)then(let x1:Int:=(wk .u16 (a4+a1));some (2,x1,0,()))else
(gg a5).bind λx1=>
(fR a0 x1).bind λx2=>let x3:=w64 (x2+a6);let x4:=wk .u16 x3;some (1,x4,0,())
def JV:X.Cfg:=⟨E0,[lM],[],[]⟩
def sO:Ctr:=⟨37,94,[.agg Uab,shU RI,.agg yag],[],[⟨zai,[.agg 2,.one],[]⟩],as2 (as4 ap1) jk⟩
theorem wA:Lk 3 sO:=ls JV (aC od aN)
def mT(a0:LI)(a1:Int)(a2:LI)(a3 a4:Int):Option (T02):=
(g8 a2 a3 a4).bind λ(x0,_)=>bif(!x0)then(some (0,6,()))else
(gg a3).bind λx1=>
(fR a0 x1).bind λx2=>let x3:=w64 (x2+a4);some (x3,0,())
def BT:X.Cfg:=⟨E0,[lN],[],[]⟩
def uJ:Ctr:=⟨190,95,[.agg Uab,shU RI,.agg Zac],[],[⟨Zac,[.one,.one],[]⟩],ap5 mT⟩
theorem By:Lk 2 uJ:=ls BT (aC oe aN)
def wR:Option (T1N):=bif(xe 8 8 2)then let x0:LDCe:=(List.replicate 8 (0,0));some (0,x0,0,0,(-1),(-1),0,0,())else none
def FG:X.Cfg:=⟨E0,[],[],[]⟩
def xY:Ctr:=⟨197,96,[],[],[⟨Zaf,[.agg 8],[]⟩],λh=>wR⟩
theorem EX:Lk 1 xY:=ls FG aN
def sd(a0 a1 a2:Int):Option (T1N):=
(wR).bind λ(_,x1,_,x3)=>
(fR x1 0).bind λ_=>
(fR x1 0).bind λ_=>let ac:=x1.modify 0 λe=>(a1,a2);some (1,ac,a0,x3)
def JS:X.Cfg:=⟨E0,[xY],[],[]⟩
def Cq:Ctr:=⟨191,97,[shU I64,.agg Xab],[],[⟨Zaf,[.agg 8],[]⟩],ap3 sd⟩
theorem JG:Lk 2 Cq:=ls JS (aC EX aN)
def jj:T3u->Option (T3u⊕(T12⊕T3w)):=λ(v0,v1,v2,v3,v4,v5,v6,v7,v8,v9,ej,eq,eE,eG,eI,eK,eO,eS,eV,eX,eZ,fc,ff,fi,fk,fq,fr,fu,fv,fw,fA,_)=>bif(decide (v3<v2))then((gg v3).bind λx0=>
(fR v1 x0).bind λx1=>
(jk v4 v5 ej x1.1 x1.2.1 x1.2.2.1 x1.2.2.2).bind λ(x2,x3,x4,_)=>bif(x4 != 0)then(some (.inr (.inl (false,v4,v5,v6,v7,v8,()))))else
(g8 ej fw fA).bind λ(x5,_)=>bif(!x5)then(some (.inr (.inl (false,v4,v5,v6,v7,v8,()))))else
(mT v4 v5 ej fw fA).bind λ(x6,_,_)=>
(mQ x6 x2 x3 v6 v7).bind λ(x8,x9,_)=>let ac:=w64 (fA+1);let ae:=w64 (v3+1);some (.inl (v0,v1,v2,ae,v4,v5,x8,x9,v8,v9,ej,eq,eE,eG,eI,eK,eO,eS,eV,eX,eZ,fc,ff,fi,fk,fq,fr,fu,fv,fw,ac,())))else some (.inr (.inr (v0,v1,v2,v3,false,v4,v5,v6,v7,v8,v9,ej,eq,eE,eG,eI,eK,eO,eS,eV,eX,eZ,fc,ff,fi,fk,fq,fr,fu,fv,fw,fA,())))
def nF(a0:LDIn)(a1:LI)(a2:LLI)(a3 a4 a5 a6 a7 a8:Int)(a9 ef:LDCn)(ek eu eF eH:Int)(eJ:LDCn)(eM:Int)(eQ:Bool)(eU:LI)(eW:Int)(eY:LDCe)(fa:LDLn)(fe:LDTh):Option (T12):=
(gg a3).bind λx0=>
(fR fe x0).bind λ_=>
(jk eU eW a1 ek eu eF eH).bind λ(x2,x3,x4,_)=>bif(x4 != 0)then(some (false,eU,eW,eY,fa,fe,()))else
(match((ki a8).bind λ(x5,_)=>bif(x5==2)then(let x6:Int:=(fY eJ.length);bif(decide (x6>0))then((fR a9 1).bind λx7=>
(fR a9 1).bind λx8=>
(fR a9 1).bind λx9=>
(io a1 x9.1 x9.2.1 x9.2.2.1 x9.2.2.2).bind λ(ac,_)=>bif(!ac)then(some (.inl (false,eU,eW,eY,fa,fe,())))else
(fR a9 1).bind λae=>bif(ae.1 != 1)then(some (.inl (false,eU,eW,eY,fa,fe,())))else let af:=fY eJ.length;
(match f9 jj NN (x0,eJ,af,0,eU,eW,eY,fa,fe,a0,a1,a2,a3,a4,a5,a6,a7,a8,a9,ef,ek,eu,eF,eH,eJ,eM,eQ,x2,x3,x7.2.2.1,x8.2.2.2,())with
|none=>none
|some (.inl (ag,ah,ai,aj,ak,am,_))=>some (.inl (ag,ah,ai,aj,ak,am,()))
|some (.inr (ag,ah,ai,aj,ak,am,an,ap,aq,av,ax,ay,az,aA,aB,aD,aE,aF,aG,aH,aI,aJ,aK,aL,aM,aO,aP,aQ,aR,aS,aT,aU,_))=>some (.inr (.inl (ag,ah,ai,aj,ak,am,an,ap,aq,av,ax,ay,az,aA,aB,aD,aE,aF,aG,aH,aI,aJ,aK,aL,aM,aO,aP,aQ,aR,aS,aT,aU,())))))else some (.inr (.inr (x0,false,eU,eW,eY,fa,fe,a0,a1,a2,a3,a4,a5,a6,a7,a8,a9,ef,ek,eu,eF,eH,eJ,eM,eQ,x2,x3,()))))else some (.inr (.inr (x0,false,eU,eW,eY,fa,fe,a0,a1,a2,a3,a4,a5,a6,a7,a8,a9,ef,ek,eu,eF,eH,eJ,eM,eQ,x2,x3,()))):Option (T12⊕(T3w⊕(Nat×Bool×T3m))))with
|none=>none
|some (.inl (x5,x6,x7,x8,x9,ac,_))=>some (x5,x6,x7,x8,x9,ac,())
|some (.inr (.inl (x5,_,_,_,_,ac,ae,af,ag,ah,ai,aj,ak,am,an,ap,aq,av,ax,ay,az,aA,aB,aD,aE,aF,aG,aH,aI,aJ,_,_,_)))=>
(match(bif(ax==12)then((fR ay 0).bind λaM=>let aO:=wk .i64 aM.2.1;bif(decide (aO>255))then(some (.inl (false,ac,ae,af,ag,ah,())))else
(fR ay 0).bind λaP=>bif(aP.1 != 0)then(some (.inl (false,ac,ae,af,ag,ah,())))else
(fR ay 0).bind λaQ=>let aR:=wk .i64 aQ.2.1;
(fR ah x5).bind λ_=>let aT:=ah.modify x5 λe=>(e.1,(e.2.1,(e.2.2.1,(e.2.2.2.1,(aR,e.2.2.2.2.2)))));some (.inr (x5,ac,ae,af,ag,aT,ai,aj,ak,am,an,ap,aq,av,ax,ay,az,aA,aB,aD,aE,aF,aG,aH,aI,aJ,())))else some (.inr (x5,ac,ae,af,ag,ah,ai,aj,ak,am,an,ap,aq,av,ax,ay,az,aA,aB,aD,aE,aF,aG,aH,aI,aJ,())):Option (T12⊕T3o))with
|none=>none
|some (.inl (aM,aO,aP,aQ,aR,aS,_))=>some (aM,aO,aP,aQ,aR,aS,())
|some (.inr (aM,aO,aP,aQ,aR,aS,_,aU,_,aW,aY,aZ,ba,bc,bd,be,bf,bg,bh,bi,bj,bk,bl,bm,bn,bo,_))=>
(match(bif(bd==10)then(bif(decide (bl>=0))then((fR be 1).bind λbp=>
(jk aO aP aU bp.1 bp.2.1 bp.2.2.1 bp.2.2.2).bind λ(bq,bt,bv,_)=>
(bif(bv != 0)then(some (aM,true,aO,aP,aQ,aR,aS,aW,aY,aZ,ba,bc,bd,be,bf,bg,bh,bi,bj,bk,bl,bm,bn,bo,bq,bt,()))else
(gg bl).bind λbx=>
(fR aS bx).bind λ_=>
(fR aS bx).bind λbB=>bif(bB.1 != 0)then(some (aM,true,aO,aP,aQ,aR,aS,aW,aY,aZ,ba,bc,bd,be,bf,bg,bh,bi,bj,bk,bl,bm,bn,bo,bq,bt,()))else
(fR be 0).bind λbC=>let bD:=wk .i64 bC.2.1;bif(decide (bD>255))then(some (aM,true,aO,aP,aQ,aR,aS,aW,aY,aZ,ba,bc,bd,be,bf,bg,bh,bi,bj,bk,bl,bm,bn,bo,bq,bt,()))else
(fR be 0).bind λbE=>some (aM,(bE.1 != 0),aO,aP,aQ,aR,aS,aW,aY,aZ,ba,bc,bd,be,bf,bg,bh,bi,bj,bk,bl,bm,bn,bo,bq,bt,()):Option (T3n)).bind λ(bx,bA,bB,bC,bD,bE,bF,bG,bH,bI,bJ,bK,bL,bM,bN,_,_,_,_,_,bT,_,bV,bW,bY,bZ,_)=>bif bA then(some (.inl (false,bB,bC,bD,bE,bF,())))else
(fR bM 0).bind λb8=>let b9:=wk .i64 b8.2.1;
(sd b9 bY bZ).bind λ(cb,cd,cf,cg,ch,ci,cj,cl,_)=>
(gg bT).bind λcn=>
(fR bF cn).bind λ_=>
(fR bF cn).bind λ_=>let cu:=bF.modify cn λe=>(cb,(cd,(cf,(cg,(ch,(ci,(cj,cl)))))));some (.inr (bx,bB,bC,bD,bE,cu,bG,bH,bI,bJ,bK,bL,bM,bN,bV,bW,())))else some (.inr (aM,aO,aP,aQ,aR,aS,aW,aY,aZ,ba,bc,bd,be,bf,bn,bo,())))else some (.inr (aM,aO,aP,aQ,aR,aS,aW,aY,aZ,ba,bc,bd,be,bf,bn,bo,())):Option (T12⊕T2S))with
|none=>none
|some (.inl (bp,bq,bt,bv,bx,bA,_))=>some (bp,bq,bt,bv,bx,bA,())
|some (.inr (bp,bq,bt,bv,bx,bA,_,_,_,_,_,_,_,_,bJ,bK,_))=>
(fR bA bp).bind λ_=>
(fR bA bp).bind λbM=>
(fR bM.2.1 0).bind λ_=>
(fR bA bp).bind λbO=>
(fR bO.2.1 0).bind λ_=>let bQ:=bA.modify bp λe=>(e.1,((e.2.1.modify 0 λe=>(bJ,bK)),e.2.2));
(fR bQ bp).bind λ_=>let bS:=bQ.modify bp λe=>(1,e.2);some (true,bq,bt,bv,bx,bS,())))
|some (.inr (.inr (x5,_,x7,x8,x9,ac,ae,af,ag,ah,ai,aj,ak,am,an,ap,aq,av,ax,ay,az,aA,aB,aD,aE,aF,aG,_)))=>
(match(bif(ap==12)then((fR aq 0).bind λaH=>let aI:=wk .i64 aH.2.1;bif(decide (aI>255))then(some (.inl (false,x7,x8,x9,ac,ae,())))else
(fR aq 0).bind λaJ=>bif(aJ.1 != 0)then(some (.inl (false,x7,x8,x9,ac,ae,())))else
(fR aq 0).bind λaK=>let aL:=wk .i64 aK.2.1;
(fR ae x5).bind λ_=>let aO:=ae.modify x5 λe=>(e.1,(e.2.1,(e.2.2.1,(e.2.2.2.1,(aL,e.2.2.2.2.2)))));some (.inr (x5,x7,x8,x9,ac,aO,af,ag,ah,ai,aj,ak,am,an,ap,aq,av,ax,ay,az,aA,aB,aD,aE,aF,aG,())))else some (.inr (x5,x7,x8,x9,ac,ae,af,ag,ah,ai,aj,ak,am,an,ap,aq,av,ax,ay,az,aA,aB,aD,aE,aF,aG,())):Option (T12⊕T3o))with
|none=>none
|some (.inl (aH,aI,aJ,aK,aL,aM,_))=>some (aH,aI,aJ,aK,aL,aM,())
|some (.inr (aH,aI,aJ,aK,aL,aM,_,aP,_,aR,aS,aT,aU,aV,aW,aY,aZ,ba,bc,bd,be,bf,bg,bh,bi,bj,_))=>
(match(bif(aW==10)then(bif(decide (bg>=0))then((fR aY 1).bind λbk=>
(jk aI aJ aP bk.1 bk.2.1 bk.2.2.1 bk.2.2.2).bind λ(bl,bm,bn,_)=>
(bif(bn != 0)then(some (aH,true,aI,aJ,aK,aL,aM,aR,aS,aT,aU,aV,aW,aY,aZ,ba,bc,bd,be,bf,bg,bh,bi,bj,bl,bm,()))else
(gg bg).bind λbo=>
(fR aM bo).bind λ_=>
(fR aM bo).bind λbq=>bif(bq.1 != 0)then(some (aH,true,aI,aJ,aK,aL,aM,aR,aS,aT,aU,aV,aW,aY,aZ,ba,bc,bd,be,bf,bg,bh,bi,bj,bl,bm,()))else
(fR aY 0).bind λbt=>let bv:=wk .i64 bt.2.1;bif(decide (bv>255))then(some (aH,true,aI,aJ,aK,aL,aM,aR,aS,aT,aU,aV,aW,aY,aZ,ba,bc,bd,be,bf,bg,bh,bi,bj,bl,bm,()))else
(fR aY 0).bind λbx=>some (aH,(bx.1 != 0),aI,aJ,aK,aL,aM,aR,aS,aT,aU,aV,aW,aY,aZ,ba,bc,bd,be,bf,bg,bh,bi,bj,bl,bm,()):Option (T3n)).bind λ(bo,bp,bq,bt,bv,bx,bA,bB,bC,bD,bE,bF,bG,bH,bI,_,_,_,_,_,bO,_,bQ,bR,bS,bT,_)=>bif bp then(some (.inl (false,bq,bt,bv,bx,bA,())))else
(fR bH 0).bind λbU=>let bV:=wk .i64 bU.2.1;
(sd bV bS bT).bind λ(bW,bY,bZ,b8,b9,cb,cd,cf,_)=>
(gg bO).bind λcg=>
(fR bA cg).bind λ_=>
(fR bA cg).bind λ_=>let cj:=bA.modify cg λe=>(bW,(bY,(bZ,(b8,(b9,(cb,(cd,cf)))))));some (.inr (bo,bq,bt,bv,bx,cj,bB,bC,bD,bE,bF,bG,bH,bI,bQ,bR,())))else some (.inr (aH,aI,aJ,aK,aL,aM,aR,aS,aT,aU,aV,aW,aY,aZ,bi,bj,())))else some (.inr (aH,aI,aJ,aK,aL,aM,aR,aS,aT,aU,aV,aW,aY,aZ,bi,bj,())):Option (T12⊕T2S))with
|none=>none
|some (.inl (bk,bl,bm,bn,bo,bp,_))=>some (bk,bl,bm,bn,bo,bp,())
|some (.inr (bk,bl,bm,bn,bo,bp,_,_,_,_,_,_,_,_,bE,bF,_))=>
(fR bp bk).bind λ_=>
(fR bp bk).bind λbH=>
(fR bH.2.1 0).bind λ_=>
(fR bp bk).bind λbJ=>
(fR bJ.2.1 0).bind λ_=>let bL:=bp.modify bk λe=>(e.1,((e.2.1.modify 0 λe=>(bE,bF)),e.2.2));
(fR bL bk).bind λ_=>let bN:=bL.modify bk λe=>(1,e.2);some (true,bl,bm,bn,bo,bN,()))))
def JP:X.Cfg:=⟨E0,[sO,lL,lM,lN,uJ,sL,Cq],[],[⟨13,0,(qS (zl [1,4,6,7]++(9,.ptr ⟨4,4,[((),(8,0))]⟩ [0,0])::zl [10,12]++sP 80 gj::il [81,82]) uaq),[(.ret,qS Uau yan),(.exit 0,(qS uax uaq))]⟩,⟨6,1,qE,[(.ret,qS Uau yan),(.normal,(qS uax uaq)),(.normal,(qS (zl [1,4,6,7]++[(9,.ptr ⟨4,4,[((),(8,0))]⟩ [0,0]),zaa 10,Xaa 51]) yar))]⟩,⟨24,2,qE,[(.ret,qS Uau yan),(.normal,(qS (zl [1,4,6,7]++[(9,.ptr ⟨4,4,[((),(8,0))]⟩ [0,0]),zaa 10]) yar))]⟩,⟨33,3,qE,[(.normal,(qS (zl [1,6,7]++(9,.ptr ⟨4,4,[((),(8,0))]⟩ [0,0])::zl [10,19]++[Xaa 207]) [(4,Xac),(14,yac),(16,yad),(22,Xab),(40,Xab)]))]⟩,⟨29,4,qE,[(.ret,qS Uau yan),(.normal,(qS [zaa 1,(9,.ptr ⟨4,4,[((),(8,0))]⟩ [0,0]),zaa 10] [(4,Xac),(14,yac),(22,Xab)]))]⟩]⟩
def Cn:Ctr:=⟨174,98,[.agg uab,.ptr ⟨4,0,[]⟩ [0],.agg yac,.agg yad],[(4,Xac)],[⟨zab,[.one],[(4,Xac)]⟩],as2 (as4 (as8 (as8 ap1))) nF⟩
theorem JD:Lk 4 Cn:=ls JP (aC wA (aC oc (aC od (aC oe (aC By (aC xp (aC JG aN)))))))
def sb(a0:LDIn)(a1:LI)(a2:LLI)(a3:LI)(a4:Int)(a5:LDCe)(a6:LDLn)(a7:LDTh)(a8 a9 ef ek eu eF:Int)(eH eJ:LDCn)(eM eQ eU eW:Int)(eY:LDCn)(fa:Int)(fe:Bool):Option (T1g):=
((jL a0 a1 a2 a3 a4 a5 a6 a7).bind λ(x0,_)=>bif(!x0)then(some (true,a0,a1,a2,a3,a4,a5,a6,a7,a8,a9,ef,ek,eu,eF,eH,eJ,eM,eQ,eU,eW,eY,fa,fe,(),0,(),(),(),()))else
(mM a8 a9 ef ek eu eF eH eJ).bind λ(x1,_)=>bif(!x1)then(some (true,a0,a1,a2,a3,a4,a5,a6,a7,a8,a9,ef,ek,eu,eF,eH,eJ,eM,eQ,eU,eW,eY,fa,fe,(),0,(),(),(),()))else bif(a9 != 1)then(some (true,a0,a1,a2,a3,a4,a5,a6,a7,a8,a9,ef,ek,eu,eF,eH,eJ,eM,eQ,eU,eW,eY,fa,fe,(),0,(),(),(),()))else let x2:=fY eH.length;
(jx eF).bind λ(x3,_)=>bif(x2 != x3)then(some (true,a0,a1,a2,a3,a4,a5,a6,a7,a8,a9,ef,ek,eu,eF,eH,eJ,eM,eQ,eU,eW,eY,fa,fe,(),0,(),(),(),()))else
(mH eM eQ eU eW eY fa fe).bind λ(x4,_)=>bif(!x4)then(some (true,a0,a1,a2,a3,a4,a5,a6,a7,a8,a9,ef,ek,eu,eF,eH,eJ,eM,eQ,eU,eW,eY,fa,fe,(),0,(),(),(),()))else
(gg a8).bind λx5=>
(fR a7 x5).bind λx6=>some ((x6.1 != 2),a0,a1,a2,a3,a4,a5,a6,a7,a8,a9,ef,ek,eu,eF,eH,eJ,eM,eQ,eU,eW,eY,fa,fe,(),0,(),(),(),()):Option (Bool×LDIn×LI×LLI×LI×Int×LDCe×LDLn×LDTh×Int×Int×Int×Int×Int×Int×LDCn×LDCn×T2z)).bind λ(x0,x1,x2,x3,x4,x5,x6,x7,x8,x9,ac,ae,af,ag,ah,ai,aj,ak,am,an,ap,aq,av,ax,_)=>bif x0 then(none)else
(kO x4 x5 x6 x7 x8).bind λ(aE,aF,aG,aH,aI,_)=>bif(ah==0)then((gg x9).bind λaJ=>
(fR aI aJ).bind λ_=>
(fR aI aJ).bind λaL=>
(fR ai 0).bind λaM=>
(fR aI aJ).bind λaO=>
(pW aL.1 aO.2.1 aL.2.2.1 aL.2.2.2.1 aL.2.2.2.2.1 aL.2.2.2.2.2.1 aL.2.2.2.2.2.2.1 aL.2.2.2.2.2.2.2 0 aM.2.1).bind λ(aP,aQ,aR,aS,aT,aU,aV,aW,_)=>
(gg x9).bind λaY=>
(fR aI aY).bind λ_=>
(fR aI aY).bind λ_=>let bc:=aI.modify aY λe=>(aP,(aQ,(aR,(aS,(aT,(aU,(aV,aW)))))));
(fR bc 0).bind λ_=>some (aE,aF,aG,aH,bc,true,()))else bif ax then((gg x9).bind λaJ=>
(fR aI aJ).bind λ_=>
(fR aI aJ).bind λ_=>let aM:=aI.modify aJ λe=>(3,e.2);
(fR aM 0).bind λ_=>
(fR aM 0).bind λ_=>some (aE,aF,aG,aH,aM,true,()))else
(nF x1 x2 x3 x9 ac ae af ag ah ai aj ak am an ap aq av ax aE aF aG aH aI).bind λ(aJ,aK,aL,aM,aO,aP,_)=>bif(!aJ)then(none)else
(fR aP 0).bind λ_=>
(fR aP 0).bind λ_=>some (aK,aL,aM,aO,aP,true,())
def JQ:X.Cfg:=⟨E0,[nj,sJ,nN,sH,oC,wJ,Cn],[],[⟨2,0,qE,[(.normal,qS (zl [4,5,6,7,8]++[Xaa 48]) [(10,uab),(12,Uac),(14,yac),(16,yad),(18,Zab)])]⟩]⟩
def Co:Ctr:=⟨158,99,[.agg uab,.agg Uac,.agg yac,.agg yad],[],[⟨Ual,[.agg 5,.one],[]⟩],as2 (as4 (as8 (as8 ap1))) sb⟩
theorem JE:Lk 5 Co:=ls JQ (aC py (aC xn (aC rG (aC xk (aC qU (aC Bv (aC JD aN)))))))
def om(a0:LDIn)(a1:LI)(a2:LLI)(a3:LI)(a4:Int)(a5:LDCe)(a6:LDLn)(a7:LDTh)(a8 a9 ef ek eu:Int)(eF:LDCn)(eH:Int)(eJ:Bool):Option (T1g):=
((jL a0 a1 a2 a3 a4 a5 a6 a7).bind λ(x0,_)=>bif(!x0)then(some (a8,true,a0,a1,a2,a3,a4,a5,a6,a7,a9,ef,ek,eu,eF,eH,eJ,(),0,(),(),(),()))else
(mH a9 ef ek eu eF eH eJ).bind λ(x1,_)=>bif(!x1)then(some (a8,true,a0,a1,a2,a3,a4,a5,a6,a7,a9,ef,ek,eu,eF,eH,eJ,(),0,(),(),(),()))else bif(decide (a8<0))then(some (a8,true,a0,a1,a2,a3,a4,a5,a6,a7,a9,ef,ek,eu,eF,eH,eJ,(),0,(),(),(),()))else bif(decide (a8>=4))then(some (a8,true,a0,a1,a2,a3,a4,a5,a6,a7,a9,ef,ek,eu,eF,eH,eJ,(),0,(),(),(),()))else
(gg a8).bind λx2=>
(fR a7 x2).bind λx3=>some (a8,(x3.1 != 3),a0,a1,a2,a3,a4,a5,a6,a7,a9,ef,ek,eu,eF,eH,eJ,(),0,(),(),(),()):Option (Int×Bool×LDIn×LI×LLI×LI×Int×LDCe×LDLn×LDTh×T2z)).bind λ(x0,x1,_,x3,_,x5,x6,x7,x8,x9,ac,ae,af,ag,_)=>bif x1 then(none)else
(jk x5 x6 x3 ac ae af ag).bind λ(av,ax,ay,_)=>bif(ay != 0)then(none)else
(kO x5 x6 x7 x8 x9).bind λ(az,aA,aB,aD,aE,_)=>
(gg x0).bind λaF=>
(fR aE aF).bind λ_=>
(fR aE aF).bind λ_=>
(fR aE aF).bind λaI=>
(fR aI.2.1 0).bind λ_=>
(fR aE aF).bind λaK=>
(fR aK.2.1 0).bind λ_=>let aM:=aE.modify aF λe=>(e.1,((e.2.1.modify 0 λe=>(av,ax)),e.2.2));
(gg x0).bind λaO=>
(fR aM aO).bind λ_=>
(fR aM aO).bind λ_=>let aR:=aM.modify aO λe=>(1,e.2);
(fR aR 0).bind λ_=>
(fR aR 0).bind λ_=>some (az,aA,aB,aD,aR,true,())
def Ib:X.Cfg:=⟨E0,[nj,sH,sO,oC],[],[⟨2,0,qE,[(.normal,qS (Uaa 2::zl [4,5,7,8]++[Xaa 38]) [(10,uab),(12,Uac),(16,yad),(18,Zab)])]⟩]⟩
def uz:Ctr:=⟨23,100,[.agg uab,.agg Uac,shU I64,.agg yad],[],[⟨Ual,[.agg 5,.one],[]⟩],as1 (as2 (as4 (as8 ap1))) om⟩
theorem zt:Lk 5 uz:=ls Ib (aC py (aC xk (aC wA (aC qU aN))))
def qy(a0 a1:Int)(a2:LDIn)(a3:LI)(a4:LLI)(a5:LI)(a6:Int)(a7:LDCe)(a8:LDLn)(a9:LDTh)(ef ek:LI)(eu:LLI)(eF:z_)(eH:LDOp)(eJ:LDOu)(eM:LI)(eQ:LLI)(eU:LDEn)(eW:LI):Option (T2Y):=let x0:=wk .i64 a1;
(gk x0 true).bind λ(x1,x2,x3,x4,_,x6,x7,_)=>
(om a2 a3 a4 a5 a6 a7 a8 a9 a0 x1 x2 x3 x4 [] x6 x7).bind λ(x8,x9,ac,ae,af,_,_)=>let ah:LDEn:=[(4,(a0,(0,(0,(0,(0,(0,(0,(0,([],([],(x1,(x2,(x3,(x4,([],(x6,x7)))))))))))))))))];bif(gh 184 eU.length ah.length)then let ai:LDEn:=(List.append eU ah);some (a2,a3,a4,x8,x9,ac,ae,af,ef,ek,eu,eF,eH,eJ,eM,eQ,ai,eW,())else none
def HS:X.Cfg:=⟨E0,[ni,uz],[(35,Pw),(36,Pw)],[]⟩
def zO:Ctr:=⟨159,101,[.ptr ⟨2,0,[]⟩ [0],shU I64,shU CW],[(2,Zad)],[⟨[],[],[(2,Zad)]⟩],as1 (as2 (as8 (as8 ap1))) qy⟩
theorem Hs:Lk 6 zO:=ls HS (aC px (aC zt aN))
def lD(a0 a1 a2 a3 a4 a5:Int)(a6 a7:LDCn)(a8:LDIn)(a9:LI)(ef:LLI)(ek:LI)(eu:Int)(eF:LDCe)(eH:LDLn)(eJ:LDTh)(eM eQ:LI)(eU:LLI)(eW:z_)(eY:LDOp)(fa:LDOu)(fe:LI)(fh:LLI)(fj:LDEn)(fm:LI):Option (T2Y):=
(bif(a5==9)then((fR a6 0).bind λx0=>let x1:=wk .i64 x0.2.1;
(jF fe fh x1 a0).bind λ(_,_,x4,_,_)=>some (x4,a8,a9,ef,ek,eu,eF,eH,eJ,eM,eQ,eU,eW,eY,fa,fe,fh,fj,fm,a0,a1,a2,a3,a4,a5,a6,a7,()))else some ((-1),a8,a9,ef,ek,eu,eF,eH,eJ,eM,eQ,eU,eW,eY,fa,fe,fh,fj,fm,a0,a1,a2,a3,a4,a5,a6,a7,()):Option (Int×LDIn×LI×LLI×LI×Int×LDCe×LDLn×LDTh×LI×LI×LLI×LLCn×LDOp×LDOu×LI×LLI×LDEn×LI×T1G)).bind λ(x0,x1,x2,x3,x4,x5,x6,x7,x8,x9,ac,ae,af,ag,ah,ai,aj,ak,am,an,ap,aq,av,ax,ay,az,aA,_)=>
(mB an ap aq av ax ay az aA x1 x2 x3 x4 x5 x6 x7 x8 x9 ac ae af ag ah ai aj ak am).bind λ(aB,aD,aE,aF,aG,aH,aI,aJ,aK,aL,aM,aO,aP,aQ,aR,aS,aT,aU,aV,aW,aY,aZ,ba,bc,bd,_)=>
(sb aJ aK aL aM aO aP aQ aR an ap aq av ax ay az aA aB aD aE aF aG aH aI).bind λ(be,bf,bg,bh,bi,_,_)=>let bk:LDEn:=[(2,(an,(0,(an,(ap,(aq,(av,(ax,(ay,(az,(aA,(aB,(aD,(aE,(aF,(aG,(aH,aI)))))))))))))))))];bif(gh 184 bc.length bk.length)then let bl:LDEn:=(List.append bc bk);bif(decide (x0>=0))then((qy x0 0 aJ aK aL be bf bg bh bi aS aT aU aV aW aY aZ ba bl bd).bind λ(bm)=>some (bm))else some (aJ,aK,aL,be,bf,bg,bh,bi,aS,aT,aU,aV,aW,aY,aZ,ba,bl,bd,())else none
def De:X.Cfg:=⟨E0,[qZ,ut,Co,zO],[(56,Pw),(57,Pw)],[⟨2,0,qE,[(.normal,qS [zaa 0,zaa 3,Uaa 4] [(2,Zad),(8,yac)])]⟩]⟩
def vQ:Ctr:=⟨135,102,[.ptr ⟨2,0,[]⟩ [0],.agg yac],[(2,Zad)],[⟨[],[],[(2,Zad)]⟩],as1 (as8 (as8 (as8 ap1))) lD⟩
theorem CL:Lk 7 vQ:=ls De (aC ue (aC Bp (aC JE (aC Hs aN))))
def tR:T2A->Option (T2A⊕(Int×Int×Int×Int×Nat×T1E)):=λ(v0,v1,v2,v3,v4,v5,v6,v7,v8,v9,ej,eq,_)=>bif(decide (v6<v5))then(((gg v6).bind λx0=>
(fR ej v4).bind λx1=>
(fR x1 x0).bind λ_=>
(fR ej v4).bind λx3=>
(fR x3 x0).bind λx4=>bif(x4 != v0)then(bif(gh 8 eq.length (List.length [x4]))then let x5:v_:=(List.append eq [x4]);some (v0,v1,v2,v3,v4,v5,v6,v7,v8,v9,ej,x5,())else none)else some (v0,v1,v2,v3,v4,v5,v6,v7,v8,v9,ej,eq,()):Option (T2A)).bind λ(x0,x1,x2,x3,x4,x5,x6,x7)=>let af:=w64 (x6+1);some (.inl (x0,x1,x2,x3,x4,x5,af,x7)))else some (.inr (v0,v1,v2,v3,v4,v5,v6,false,v7,v8,v9,ej,eq,()))
def tQ:T1s->Option (T1s⊕(Int×T1n)):=λ(v0,v1,v2,v3,v4,v5,v6,_)=>bif(decide (v2<v1))then((gg v2).bind λx0=>
(fR v6 x0).bind λ_=>
(fR v6 x0).bind λ_=>
(fR v6 x0).bind λx3=>let x4:=fY x3.length;
(f9 tR NN (v0,v2,v1,v2,x0,x4,0,v3,v4,v5,v6,[],())).bind λ(x5,x6,x7,x8,_,_,_,_,ag,ah,ai,aj,ak,_)=>
(gg x6).bind λam=>
(fR aj am).bind λ_=>
(fR aj am).bind λ_=>let aq:=aj.modify am λe=>ak;let av:=w64 (x8+1);some (.inl (x5,x7,av,ag,ah,ai,aq,())))else some (.inr (v0,v1,v2,false,v3,v4,v5,v6,()))
def tP:T1J->Option (T1J⊕(Int×T1E)):=λ(v0,v1,v2,v3,v4,v5,v6,v7,_)=>bif(decide (v2<v1))then((jF v5 v6 v2 v0).bind λ(x0,x1,x2,x3,_)=>
(bif x3 then(bif(decide (x2>=0))then(bif(gh 8 v7.length (List.length [x2]))then let x4:v_:=(List.append v7 [x2]);some (v0,v1,v2,v3,v4,v5,v6,x4,x0,x1,())else none)else some (v0,v1,v2,v3,v4,v5,v6,v7,x0,x1,()))else some (v0,v1,v2,v3,v4,v5,v6,v7,x0,x1,()):Option (Int×Int×Int×Unit×Unit×LI×LLI×LI×T08)).bind λ(x4,x5,x6,x7,x8,_,_,ae,af,ag,_)=>let ah:=w64 (x6+1);some (.inl (x4,x5,ah,x7,x8,af,ag,ae,())))else some (.inr (v0,v1,v2,false,v3,v4,v5,v6,v7,()))
def qF(a0:LI)(a1:LLI)(a2:Int):Option (T0q):=
(ol a0 a1).bind λ(x0,x1,_)=>let x2:=fY x1.length;
(f9 tQ NN (a2,x2,0,(),(),x0,x1,())).bind λ(x3,_,_,_,x7,x8,x9,ac,_)=>let ae:=fY x9.length;
(f9 tP NN (x3,ae,0,x7,x8,x9,ac,[],())).bind λ(_,_,_,_,_,_,am)=>some (am)
def H9:X.Cfg:=⟨E0,[q7,qZ],[],[⟨15,0,qE,[(.normal,(qS yax yaq))]⟩,⟨12,1,(qS yax yaq),[(.exit 2,(qS [Uaa 1,zaa 4,zaa 6,Uaa 7,Zaa 9 21,(20,.pk ⟨14,1,[]⟩ [0,0]),Uaa 21,Uaa 22,(27,.pk ⟨14,1,[((),(1,0))]⟩ [0,0,0]),Uaa 28,Uaa 29,Xaa 30] yaq))]⟩,(lx 4 2 (Uaa 1::zl [4,6]++(20,.pk ⟨14,1,[]⟩ [0,0])::il [21,22]) [(10,uac),(14,uaf)] 23),⟨27,3,qE,[(.normal,qS (Uaa 1::zl [4,6]++Zaa 12 27::zaa 14::il [49,50]) [(10,uac),(14,Uaf),(27,Zae),(30,Uaf)])]⟩,⟨21,4,qS (Uaa 1::zl [4,6]++Zaa 12 27::il [49,50]) zar,[(.exit 4,qS [Uaa 1,zaa 4,zaa 6,Zaa 12 27,Uaa 49,Uaa 50,Xaa 51] zar)]⟩]⟩
def zW:Ctr:=⟨160,103,[.agg Uaf,shU I64],[],[⟨uL [RI,(yaa RI),(uaa I64)],[.agg 2,.one],[]⟩],ap3 qF⟩
theorem HA:Lk 3 zW:=ls H9 (aC uf (aC ue aN))
def lC(a0 a1:Int)(a2:LDIn)(a3:LI)(a4:LLI)(a5:LI)(a6:Int)(a7:LDCe)(a8:LDLn)(a9:LDTh)(ef ek:LI)(eu:LLI)(eF:z_)(eH:LDOp)(eJ:LDOu)(eM:LI)(eQ:LLI)(eU:LDEn):Option (LDIn×LI×LLI×LI×Int×LDCe×LDLn×LDTh×LI×LI×LLI×LLCn×LDOp×LDOu×LI×LLI×LDEn×Unit):=let x0:=wk .i64 a1;
(gk x0 true).bind λ(x1,x2,x3,x4,_,x6,x7,_)=>
(om a2 a3 a4 a5 a6 a7 a8 a9 a0 x1 x2 x3 x4 [] x6 x7).bind λ(x8,x9,ac,ae,af,_,_)=>let ah:LDEn:=[(4,(a0,(0,(0,(0,(0,(0,(0,(0,([],([],(x1,(x2,(x3,(x4,([],(x6,x7)))))))))))))))))];bif(gh 184 eU.length ah.length)then let ai:LDEn:=(List.append eU ah);some (a2,a3,a4,x8,x9,ac,ae,af,ef,ek,eu,eF,eH,eJ,eM,eQ,ai,())else none
def Db:X.Cfg:=⟨E0,[ni,uz],[(35,Pw),(36,Pw)],[]⟩
def vN:Ctr:=⟨159,104,[.ptr ⟨2,0,[]⟩ [0],shU I64,shU CW],[(2,Xal)],[⟨[],[],[(2,Xal)]⟩],as2 (as8 (as8 ap1)) lC⟩
theorem CI:Lk 6 vN:=ls Db (aC px (aC zt aN))
def s6:T3f->Option (T3f⊕(Int×Int×Int×Bool×T35)):=λ(v0,v1,v2,v3,v4,v5,v6,v7,v8,v9,ej,eq,eE,eG,eI,eK,eO,eS,eV,eX,eZ,fc,_)=>bif(decide (v2<v1))then((gg v2).bind λx0=>
(fR fc x0).bind λ_=>
(fR fc x0).bind λx2=>
(lC x2 0 v3 v4 v5 v6 v7 v8 v9 ej eq eE eG eI eK eO eS eV eX).bind λ(x3,x4,x5,x6,x7,x8,x9,ac,ae,af,ag,ah,ai,aj,ak,am,an,_)=>let ap:=w64 (v2+1);some (.inl (v0,v1,ap,x3,x4,x5,x6,x7,x8,x9,ac,ae,af,ag,ah,ai,aj,ak,am,an,eZ,fc,())))else some (.inr (v0,v1,v2,false,v3,v4,v5,v6,v7,v8,v9,ej,eq,eE,eG,eI,eK,eO,eS,eV,eX,eZ,fc,()))
def sZ:T3d->Option (T3d⊕(Int×Int×T38)):=λ(v0,v1,v2,v3,v4,v5,v6,v7,v8,v9,ej,eq,eE,eG,eI,eK,eO,eS,eV,eX,eZ,_)=>bif(decide (v2<v1))then(((gg v2).bind λx0=>
(fR eZ x0).bind λ_=>
(fR eZ x0).bind λx2=>bif(x2==v0)then((gg v0).bind λx3=>
(fR ej x3).bind λ_=>
(fR ej x3).bind λx5=>
(lC v2 x5.2.2.2.2.2.2.2 v3 v4 v5 v6 v7 v8 v9 ej eq eE eG eI eK eO eS eV eX).bind λ(x6,x7,x8,x9,ac,ae,af,ag,ah,ai,aj,ak,am,an,ap,aq,av,_)=>
(gg v2).bind λax=>
(fR eZ ax).bind λ_=>
(fR eZ ax).bind λ_=>let aA:=eZ.modify ax λe=>(-1);some (v0,v1,v2,x6,x7,x8,x9,ac,ae,af,ag,ah,ai,aj,ak,am,an,ap,aq,av,aA,()))else some (v0,v1,v2,v3,v4,v5,v6,v7,v8,v9,ej,eq,eE,eG,eI,eK,eO,eS,eV,eX,eZ,()):Option (T3d)).bind λ(x0,x1,x2,x3,x4,x5,x6,x7,x8,x9,ac,ae,af,ag,ah,ai,aj,ak,am,an,ap,_)=>let aq:=w64 (x2+1);some (.inl (x0,x1,aq,x3,x4,x5,x6,x7,x8,x9,ac,ae,af,ag,ah,ai,aj,ak,am,an,ap,())))else some (.inr (v0,v1,v2,false,v3,v4,v5,v6,v7,v8,v9,ej,eq,eE,eG,eI,eK,eO,eS,eV,eX,eZ,()))
def mC(a0:Int)(a1:LDIn)(a2:LI)(a3:LLI)(a4:LI)(a5:Int)(a6:LDCe)(a7:LDLn)(a8:LDTh)(a9 ef:LI)(ek:LLI)(eu:z_)(eF:LDOp)(eH:LDOu)(eJ:LI)(eM:LLI)(eQ:LDEn)(eU:LI):Option (T2Y):=
(qF eJ eM a0).bind λ(x0,x1,x2,_)=>let x3:=fY x2.length;
(f9 s6 NN (a0,x3,0,a1,a2,a3,a4,a5,a6,a7,a8,a9,ef,ek,eu,eF,eH,x0,x1,eQ,eU,x2,())).bind λ(x4,_,_,_,x8,x9,ac,ae,af,ag,ah,ai,aj,ak,am,an,ap,aq,av,ax,ay,az,_,_)=>let aB:=fY az.length;
(f9 sZ NN (x4,aB,0,x8,x9,ac,ae,af,ag,ah,ai,aj,ak,am,an,ap,aq,av,ax,ay,az,())).bind λ(_,_,_,_,aH)=>some (aH)
def Fj:X.Cfg:=⟨E0,[zW,vN],[],[(lx 4 0 [zaa 0,Uaa 1,Zaa 23 13,Uaa 24,Uaa 25] [(2,Zad),(13,Zae)] 26),⟨13,1,qE,[(.normal,(qS zax [(2,Zad)]))]⟩,⟨10,2,(qS zax [(2,Zad)]),[(.exit 2,(qS [zaa 0,Uaa 1,(36,.pk ⟨2,17,[]⟩ [0,0]),Uaa 37,Uaa 38,Xaa 39] [(2,Zad)]))]⟩]⟩
def xM:Ctr:=⟨136,105,[.ptr ⟨2,0,[]⟩ [0],shU I64],[(2,Zad)],[⟨[],[],[(2,Zad)]⟩],as2 (as8 (as8 ap1)) mC⟩
theorem EL:Lk 7 xM:=ls Fj (aC HA (aC CI aN))
def oj(a0:LDIn)(a1:LI)(a2:LLI)(a3:LI)(a4:Int)(a5:LDCe)(a6:LDLn)(a7:LDTh)(a8 a9:LI)(ef:LLI)(ek:z_)(eu:LDOp)(eF:LDOu)(eH:LI)(eJ:LLI)(eM:LDEn)(eQ:LI)(eU eW:Int)(eY:Bool):Option ((Unit×Unit×Unit×Unit×Int×Unit×Unit×Unit×Unit×Unit×Unit×Unit×Unit×Unit×Unit×Unit×Unit×Unit×Int×Unit)⊕(LDIn×LI×LLI×LI×Int×LDCe×LDLn×LDTh×LI×LI×LLI×LLCn×LDOp×LDOu×LI×LLI×LDEn×T07)):=
(o4 a7).bind λ(x0,_)=>let x1:=fY x0.length;bif(x1==0)then(some (.inl ((),(),(),(),0,(),(),(),(),(),(),(),(),(),(),(),(),(),15,())))else let x2:=fY eM.length;bif(decide (x2>192))then(some (.inl ((),(),(),(),0,(),(),(),(),(),(),(),(),(),(),(),(),(),3,())))else let x3:=fY x0.length;
(mg eU x3).bind λ(x4,_)=>
(gg x4).bind λx5=>
(fR x0 x5).bind λ_=>
(fR x0 x5).bind λx7=>
(mg eW 64).bind λ(x8,_)=>let x9:=w64 (1+x8);
(nS a0 a1 a2 a3 a4 a5 a6 a7 a8 a9 ef ek eu eF eH eJ eM eQ).bind λ(ac,ae,af,ag,ah,ai,aj,ak,am,an,ap,aq,av,ax,ay,az,aA,aB,_)=>
(match(bif eY then((pT ag ah ai aj ak x7).bind λ(aD,_)=>bif aD then((mG ag ah ai aj ak x7).bind λ(aE,aF,aG,aH,aI,_,_)=>let aK:LDEn:=[(3,(x7,(0,(0,(0,(0,(0,(0,(0,([],([],(0,(0,(0,(0,([],(0,false)))))))))))))))))];bif(gh 184 aA.length aK.length)then let aL:LDEn:=(List.append aA aK);some (.inl (x7,x9,(),(),(),(),0,(),(),(),(),(),(),(),(),(),(),(),(),(),ac,ae,af,aE,aF,aG,aH,aI,am,an,ap,aq,av,ax,ay,az,aL,aB,()))else none)else some (.inr (x7,x9,(),(),(),(),0,(),(),(),(),(),(),(),(),(),(),(),(),(),ac,ae,af,ag,ah,ai,aj,ak,am,an,ap,aq,av,ax,ay,az,aA,aB,())))else some (.inr (x7,x9,(),(),(),(),0,(),(),(),(),(),(),(),(),(),(),(),(),(),ac,ae,af,ag,ah,ai,aj,ak,am,an,ap,aq,av,ax,ay,az,aA,aB,())):Option (T3M⊕T3M))with
|none=>none
|some (.inl (aD,aE,aF,aG,aH,aI,aJ,aK,aL,aM,aO,aP,aQ,aR,aS,aT,aU,aV,aW,aY,aZ,ba,bc,bd,be,bf,bg,bh,bi,bj,bk,bl,bm,bn,bo,bp,bq,bt,_))=>
(oq aZ ba bc bd be bf bg bh aD aE).bind λ(bv,bx,bA,bB,bC,bD,bE,bF,bG,bH,bI,bJ,bK,_,_)=>let bM:LDEn:=[(1,(aD,(aE,(bD,(bE,(bF,(bG,(bH,(bI,(bJ,(bK,(0,(0,(0,(0,([],(0,false)))))))))))))))))];bif(gh 184 bq.length bM.length)then let bN:LDEn:=(List.append bq bM);
(bif(bE==1)then((lD bD bE bF bG bH bI bJ bK aZ ba bc bv bx bA bB bC bi bj bk bl bm bn bo bp bN bt).bind λ(bO,bP,bQ,bR,bS,bT,bU,bV,bW,bY,bZ,b8,b9,cb,cd,cf,cg,ch,_)=>some (aD,aF,aG,aH,aI,aJ,aK,aL,aM,aO,aP,aQ,aR,aS,aT,aU,aV,aW,aY,bO,bP,bQ,bR,bS,bT,bU,bV,bW,bY,bZ,b8,b9,cb,cd,cf,cg,ch,()))else some (aD,aF,aG,aH,aI,aJ,aK,aL,aM,aO,aP,aQ,aR,aS,aT,aU,aV,aW,aY,aZ,ba,bc,bv,bx,bA,bB,bC,bi,bj,bk,bl,bm,bn,bo,bp,bN,bt,()):Option (T3G)).bind λ(bO,bP,bQ,bR,bS,bT,bU,bV,bW,bY,bZ,b8,b9,cb,cd,cf,cg,ch,ci,cj,cl,cn,cq,cr,cu,cw,cx,cy,cz,cD,cE,cF,cG,cH,cI,cJ,cK,_)=>
((gg bO).bind λcL=>
(fR cx cL).bind λ_=>
(fR cx cL).bind λcN=>bif(cN.1==4)then((mC bO cj cl cn cq cr cu cw cx cy cz cD cE cF cG cH cI cJ cK).bind λ(cO,cP,cQ,cR,cS,cT,cU,cV,cW,cX,cY,cZ,c8,c9,dc,de,df,dg,_)=>some (bP,bQ,bR,bS,bT,bU,bV,bW,bY,bZ,b8,b9,cb,cd,cf,cg,ch,ci,cO,cP,cQ,cR,cS,cT,cU,cV,cW,cX,cY,cZ,c8,c9,dc,de,df,dg,()))else some (bP,bQ,bR,bS,bT,bU,bV,bW,bY,bZ,b8,b9,cb,cd,cf,cg,ch,ci,cj,cl,cn,cq,cr,cu,cw,cx,cy,cz,cD,cE,cF,cG,cH,cI,cJ,cK,()):Option (T3D)).bind λ(_,_,_,_,_,_,_,_,_,_,_,_,_,_,_,_,_,_,de,df,dg,dh,dk,dm,dn,dp,dq,dx,dy,dz,dA,dB,dC,dD,dE,dF,_)=>some (.inr (de,df,dg,dh,dk,dm,dn,dp,dq,dx,dy,dz,dA,dB,dC,dD,dE,dF,0,()))else none
|some (.inr (aD,aE,aF,aG,aH,aI,aJ,aK,aL,aM,aO,aP,aQ,aR,aS,aT,aU,aV,aW,aY,aZ,ba,bc,bd,be,bf,bg,bh,bi,bj,bk,bl,bm,bn,bo,bp,bq,bt,_))=>
(oq aZ ba bc bd be bf bg bh aD aE).bind λ(bv,bx,bA,bB,bC,bD,bE,bF,bG,bH,bI,bJ,bK,_,_)=>let bM:LDEn:=[(1,(aD,(aE,(bD,(bE,(bF,(bG,(bH,(bI,(bJ,(bK,(0,(0,(0,(0,([],(0,false)))))))))))))))))];bif(gh 184 bq.length bM.length)then let bN:LDEn:=(List.append bq bM);
(bif(bE==1)then((lD bD bE bF bG bH bI bJ bK aZ ba bc bv bx bA bB bC bi bj bk bl bm bn bo bp bN bt).bind λ(bO,bP,bQ,bR,bS,bT,bU,bV,bW,bY,bZ,b8,b9,cb,cd,cf,cg,ch,_)=>some (aD,aF,aG,aH,aI,aJ,aK,aL,aM,aO,aP,aQ,aR,aS,aT,aU,aV,aW,aY,bO,bP,bQ,bR,bS,bT,bU,bV,bW,bY,bZ,b8,b9,cb,cd,cf,cg,ch,()))else some (aD,aF,aG,aH,aI,aJ,aK,aL,aM,aO,aP,aQ,aR,aS,aT,aU,aV,aW,aY,aZ,ba,bc,bv,bx,bA,bB,bC,bi,bj,bk,bl,bm,bn,bo,bp,bN,bt,()):Option (T3G)).bind λ(bO,bP,bQ,bR,bS,bT,bU,bV,bW,bY,bZ,b8,b9,cb,cd,cf,cg,ch,ci,cj,cl,cn,cq,cr,cu,cw,cx,cy,cz,cD,cE,cF,cG,cH,cI,cJ,cK,_)=>
((gg bO).bind λcL=>
(fR cx cL).bind λ_=>
(fR cx cL).bind λcN=>bif(cN.1==4)then((mC bO cj cl cn cq cr cu cw cx cy cz cD cE cF cG cH cI cJ cK).bind λ(cO,cP,cQ,cR,cS,cT,cU,cV,cW,cX,cY,cZ,c8,c9,dc,de,df,dg,_)=>some (bP,bQ,bR,bS,bT,bU,bV,bW,bY,bZ,b8,b9,cb,cd,cf,cg,ch,ci,cO,cP,cQ,cR,cS,cT,cU,cV,cW,cX,cY,cZ,c8,c9,dc,de,df,dg,()))else some (bP,bQ,bR,bS,bT,bU,bV,bW,bY,bZ,b8,b9,cb,cd,cf,cg,ch,ci,cj,cl,cn,cq,cr,cu,cw,cx,cy,cz,cD,cE,cF,cG,cH,cI,cJ,cK,()):Option (T3D)).bind λ(_,_,_,_,_,_,_,_,_,_,_,_,_,_,_,_,_,_,de,df,dg,dh,dk,dm,dn,dp,dq,dx,dy,dz,dA,dB,dC,dD,dE,dF,_)=>some (.inr (de,df,dg,dh,dk,dm,dn,dp,dq,dx,dy,dz,dA,dB,dC,dD,dE,dF,0,()))else none)
def HU:X.Cfg:=⟨E0,[xX,wK,vP,wH,uy,zX,vQ,xM],[(60,Pw),(61,Pw),(82,Pw),(83,Pw)],[⟨11,0,qE,[(.normal,(qS Uax [(10,Uae),(20,uL [gO,RI,(yaa RW),RI,CW,(uaa KCe),iu,qo,RW,RW,(yaa RW),(yaa gj),jh,kY,RI,(yaa RI),(uaa qt),(uaa I64)])])),(.normal,qS Uax [(10,Uae),(20,ual)])]⟩,⟨17,1,qE,[(.normal,qS [zaa 4,Uaa 7,zaa 9] [(10,Uae),(20,Zad)])]⟩,⟨19,2,qE,[(.normal,qS (zl [4,9]) [(10,Uae),(20,Zad)])]⟩]⟩
def zP:Ctr:=⟨96,106,[.agg Xah,.agg yaj],[],[⟨uL [N1,N1,N1,N1,CW,N1,N1,N1,N1,N1,N1,N1,N1,N1,N1,N1,N1,N1,I64],[.agg 18,.one],[]⟩,⟨uL [gO,RI,(yaa RW),RI,CW,(uaa KCe),iu,(uaa ny),RW,RW,(yaa RW),(yaa gj),jh,kY,RI,(yaa RI),(uaa qt),(uaa I64),I64],[.agg 18,.one],[]⟩],as4 (as8 (as8 ap1)) oj⟩
theorem Ht:Lk 8 zP:=ls HU (aC EW (aC Bz (aC CK (aC Bt (aC Bs (aC HB (aC CL (aC EL aN))))))))
def sm:T3R->Option (T3R⊕(T41⊕(T41⊕(T40⊕(Int×Bool×T3N))))):=λ(v0,v1,v2,v3,v4,v5,v6,v7,v8,v9,ej,eq,eE,eG,eI,eK,eO,eS,eV,eX,eZ,fc,ff,fi,fk,fq,fr,fu,fv,fw,fA,fB,fC,fD,fE,fF,fG,fH,fI,_)=>bif(decide (v0>0))then((match((pm v1 v2).bind λ(x0,x1,x2,x3,x4,_)=>
(match oj fc ff fi fk fq fr fu fv fw fA fB fC fD fE fF fG fH fI x0 x1 x2 with
|none=>none
|some (.inl (x5,x6,x7,x8,x9,ac,ae,af,ag,ah,ai,aj,ak,am,an,ap,aq,av,ax,_))=>bif(ax != 0)then(some (.inl (v0,true,x3,x4,v3,v4,v5,v6,v7,v8,v9,ej,eq,eE,eG,eI,eK,eO,eS,eV,eX,eZ,fc,ff,fi,fk,fq,fr,fu,fv,fw,fA,fB,fC,fD,fE,fF,fG,fH,fI,x5,x6,x7,x8,x9,ac,ae,af,ag,ah,ai,aj,ak,am,an,ap,aq,av,())))else some (.inr (.inl (v0,x3,x4,v3,v4,v5,v6,v7,v8,v9,ej,eq,eE,eG,eI,eK,eO,eS,eV,eX,eZ,x5,x6,x7,x8,x9,ac,ae,af,ag,ah,ai,aj,ak,am,an,ap,aq,av,())))
|some (.inr (_,_,_,_,_,_,_,_,_,_,_,_,_,_,_,_,_,_,_,_))=>
(match oj fc ff fi fk fq fr fu fv fw fA fB fC fD fE fF fG fH fI x0 x1 x2 with
|none=>none
|some (.inl (ay,az,aA,aB,aD,aE,aF,aG,aH,aI,aJ,aK,aL,aM,aO,aP,aQ,aR,aS,_))=>bif(aS != 0)then(some (.inr (.inr (.inl (v0,true,x3,x4,v3,v4,v5,v6,v7,v8,v9,ej,eq,eE,eG,eI,eK,eO,eS,eV,eX,eZ,fc,ff,fi,fk,fq,fr,fu,fv,fw,fA,fB,fC,fD,fE,fF,fG,fH,fI,ay,az,aA,aB,aD,aE,aF,aG,aH,aI,aJ,aK,aL,aM,aO,aP,aQ,aR,())))))else some (.inr (.inl (v0,x3,x4,v3,v4,v5,v6,v7,v8,v9,ej,eq,eE,eG,eI,eK,eO,eS,eV,eX,eZ,ay,az,aA,aB,aD,aE,aF,aG,aH,aI,aJ,aK,aL,aM,aO,aP,aQ,aR,())))
|some (.inr (ay,az,aA,aB,aD,aE,aF,aG,aH,aI,aJ,aK,aL,aM,aO,aP,aQ,aR,aS,_))=>bif(aS != 0)then(some (.inr (.inr (.inr (.inl (v0,true,x3,x4,v3,v4,v5,v6,v7,v8,v9,ej,eq,eE,eG,eI,eK,eO,eS,eV,eX,eZ,fc,ff,fi,fk,fq,fr,fu,fv,fw,fA,fB,fC,fD,fE,fF,fG,fH,fI,ay,az,aA,aB,aD,aE,aF,aG,aH,aI,aJ,aK,aL,aM,aO,aP,aQ,aR,()))))))else some (.inr (.inr (.inr (.inr (v0,x3,x4,v3,v4,v5,v6,v7,v8,v9,ej,eq,eE,eG,eI,eK,eO,eS,eV,eX,eZ,ay,az,aA,aB,aD,aE,aF,aG,aH,aI,aJ,aK,aL,aM,aO,aP,aQ,aR,()))))))):Option (T41⊕((Int×LI×Int×Unit×Unit×Unit×Unit×Int×Unit×Unit×Unit×Unit×Unit×Unit×Unit×Unit×Unit×Unit×Unit×Unit×Unit×T32)⊕(T41⊕(T40⊕T3R)))))with
|none=>none
|some (.inl (x0,x1,x2,x3,x4,x5,x6,x7,x8,x9,ac,ae,af,ag,ah,ai,aj,ak,am,an,ap,aq,av,ax,ay,az,aA,aB,aD,aE,aF,aG,aH,aI,aJ,aK,aL,aM,aO,aP,aQ,aR,aS,aT,aU,aV,aW,aY,aZ,ba,bc,bd,be,bf,bg,bh,bi,bj,_))=>some (.inr (.inl (x0,x1,x2,x3,x4,x5,x6,x7,x8,x9,ac,ae,af,ag,ah,ai,aj,ak,am,an,ap,aq,av,ax,ay,az,aA,aB,aD,aE,aF,aG,aH,aI,aJ,aK,aL,aM,aO,aP,aQ,aR,aS,aT,aU,aV,aW,aY,aZ,ba,bc,bd,be,bf,bg,bh,bi,bj,())))
|some (.inr (.inl (x0,x1,x2,x3,x4,x5,x6,x7,x8,x9,ac,ae,af,ag,ah,ai,aj,ak,am,an,ap,_,_,_,_,az,_,_,_,_,_,_,_,_,_,_,_,_,_,_)))=>let aP:=w64 (x0-1);some (.inl (aP,x1,x2,x3,x4,x5,x6,x7,x8,x9,ac,ae,af,ag,ah,ai,aj,ak,am,an,ap,[],[],[],[],az,[],[],[],[],[],[],[],[],[],[],[],[],[],()))
|some (.inr (.inr (.inl (x0,x1,x2,x3,x4,x5,x6,x7,x8,x9,ac,ae,af,ag,ah,ai,aj,ak,am,an,ap,aq,av,ax,ay,az,aA,aB,aD,aE,aF,aG,aH,aI,aJ,aK,aL,aM,aO,aP,aQ,aR,aS,aT,aU,aV,aW,aY,aZ,ba,bc,bd,be,bf,bg,bh,bi,bj,_))))=>some (.inr (.inr (.inl (x0,x1,x2,x3,x4,x5,x6,x7,x8,x9,ac,ae,af,ag,ah,ai,aj,ak,am,an,ap,aq,av,ax,ay,az,aA,aB,aD,aE,aF,aG,aH,aI,aJ,aK,aL,aM,aO,aP,aQ,aR,aS,aT,aU,aV,aW,aY,aZ,ba,bc,bd,be,bf,bg,bh,bi,bj,()))))
|some (.inr (.inr (.inr (.inl (x0,x1,x2,x3,x4,x5,x6,x7,x8,x9,ac,ae,af,ag,ah,ai,aj,ak,am,an,ap,aq,av,ax,ay,az,aA,aB,aD,aE,aF,aG,aH,aI,aJ,aK,aL,aM,aO,aP,aQ,aR,aS,aT,aU,aV,aW,aY,aZ,ba,bc,bd,be,bf,bg,bh,bi,bj,_)))))=>some (.inr (.inr (.inr (.inl (x0,x1,x2,x3,x4,x5,x6,x7,x8,x9,ac,ae,af,ag,ah,ai,aj,ak,am,an,ap,aq,av,ax,ay,az,aA,aB,aD,aE,aF,aG,aH,aI,aJ,aK,aL,aM,aO,aP,aQ,aR,aS,aT,aU,aV,aW,aY,aZ,ba,bc,bd,be,bf,bg,bh,bi,bj,())))))
|some (.inr (.inr (.inr (.inr (x0,x1,x2,x3,x4,x5,x6,x7,x8,x9,ac,ae,af,ag,ah,ai,aj,ak,am,an,ap,aq,av,ax,ay,az,aA,aB,aD,aE,aF,aG,aH,aI,aJ,aK,aL,aM,aO,_)))))=>let aP:=w64 (x0-1);some (.inl (aP,x1,x2,x3,x4,x5,x6,x7,x8,x9,ac,ae,af,ag,ah,ai,aj,ak,am,an,ap,aq,av,ax,ay,az,aA,aB,aD,aE,aF,aG,aH,aI,aJ,aK,aL,aM,aO,()))))else some (.inr (.inr (.inr (.inr (v0,false,v1,v2,v3,v4,v5,v6,v7,v8,v9,ej,eq,eE,eG,eI,eK,eO,eS,eV,eX,eZ,fc,ff,fi,fk,fq,fr,fu,fv,fw,fA,fB,fC,fD,fE,fF,fG,fH,fI,())))))
def u6(a0:LI)(a1:Int):Option (LDIn×LI×LLI×LI×Int×LDCe×LDLn×LDTh×LI×LI×LLI×LLCn×LDOp×LDOu×LI×LLI×LDEn×LI×T07):=
(n6 a0 a1).bind λ(x0,x1,x2,x3,x4,_)=>
(pj x1 x3 x4).bind λ(x5,x6,x7,x8,_)=>
(n7 x7 x8).bind λ(x9,ac,ae,af,ag,_,ai,aj,_)=>
(r6 x0 x1 x2 x5 x6 x9 ac ae af ag []).bind λ(ak,am,an,ap,aq,av,ax,ay,az,aA,aB,aD,aE,aF,aG,aH,_,aJ,_,_)=>
(fR ay 0).bind λ_=>
(fR ay 0).bind λ_=>
(fS 16 ai aj).bind λ(aO,aP,aQ,_)=>let aR:=w64 (3+aO);
(match f9 sm NN (aR,aP,aQ,(),(),(),(),0,(),(),(),(),(),(),(),(),(),(),(),(),(),ak,am,an,ap,aq,av,ax,ay,az,aA,aB,aD,aE,aF,aG,aH,[],aJ,())with
|none=>none
|some (.inl (_,_,aU,aV,_,_,_,_,_,_,_,_,_,_,_,_,_,_,_,_,_,_,bq,bt,bv,bx,bA,bB,bC,bD,bE,bF,bG,bH,bI,bJ,bK,bL,bM,bN,_,_,_,_,_,_,_,_,_,_,_,_,_,_,_,_,_,_,_))=>some (bq,bt,bv,bx,bA,bB,bC,bD,bE,bF,bG,bH,bI,bJ,bK,bL,bM,bN,aU,aV,())
|some (.inr (.inl (_,_,_,_,_,_,_,_,_,_,_,_,_,_,_,_,_,_,_,_,_,_,_,_,_,_,_,_,_,_,_,_,_,_,_,_,_,_,_,_,_,_,_,_,_,_,_,_,_,_,_,_,_,_,_,_,_,_,_)))=>none
|some (.inr (.inr (.inl (_,_,_,_,_,_,_,_,_,_,_,_,_,_,_,_,_,_,_,_,_,_,_,_,_,_,_,_,_,_,_,_,_,_,_,_,_,_,_,_,_,_,_,_,_,_,_,_,_,_,_,_,_,_,_,_,_,_,_))))=>none
|some (.inr (.inr (.inr (_,_,aU,aV,_,_,_,_,_,_,_,_,_,_,_,_,_,_,_,_,_,_,bq,bt,bv,bx,bA,bB,bC,bD,bE,bF,bG,bH,bI,bJ,bK,bL,bM,bN,_))))=>some (bq,bt,bv,bx,bA,bB,bC,bD,bE,bF,bG,bH,bI,bJ,bK,bL,bM,bN,aU,aV,()))
def Mu:X.Cfg:=⟨E0,[wl,yo,wm,xN,g7,yp,zP],[],[⟨8,0,qE,[(.exit 0,qS uau Uar),(.normal,qS zav [(2,yab),(6,Uae),(10,Uae)]),(.exit 0,qS uau Xar),(.exit 0,qS uau Zar),(.normal,qS zav [(2,yab),(6,Uae),(10,Zad)])]⟩,⟨5,1,qS zav uas,[(.exit 0,qS uau Uar),(.exit 0,qS uau Xar),(.exit 0,qS uau Zar),(.exit 0,qS (zl [0,2,4]++[Uaa 6,Xaa 26]) uas)]⟩]⟩
def Ec:Ctr:=⟨57,107,[.ptr ⟨2,0,[]⟩ [0]],[(2,yab)],[⟨Xai,[.agg 18],[(2,yab)]⟩],ap2 u6⟩
theorem Mm:Lk 9 Ec:=ls Mu (aC C3 (aC Fe (aC C4 (aC EM (aC ib (aC Ff (aC Ht aN)))))))
def jb:T2H->Option (T2H⊕(LI×Int×LI×Int×Int×Int×Int×Bool×T1b)):=λ(v0,v1,v2,v3,v4,v5,v6,v7,v8,v9,ej,eq,eE,_)=>bif(decide (v6<v5))then((gg v1).bind λx0=>
(fR v9 x0).bind λx1=>let x2:=w64 (x1+v6);
(ot v7 v8 x2).bind λ(x3,x4,_)=>
(jc v9 ej v0 x3 x4).bind λ(x5,x6,x7,x8,_)=>let x9:LDCn:=[(x5,(x6,(x7,x8)))];bif(gh 24 eE.length x9.length)then let ac:LDCn:=(List.append eE x9);let ae:=w64 (v6+1);some (.inl (v0,v1,v2,v3,v4,v5,ae,v7,v8,v9,ej,eq,ac,()))else none)else some (.inr (v0,v1,v2,v3,v4,v5,v6,false,v7,v8,v9,ej,eq,eE,()))
def ja:T27->Option (T27⊕(LI×LI×Int×Int×Bool×T0S)):=λ(v0,v1,v2,v3,v4,v5,v6,v7,v8,_)=>bif(decide (v3<v2))then((gg v3).bind λx0=>
(fR v1 x0).bind λx1=>
(f9 jb NN (v0,v3,v1,v2,v3,x1,0,v4,v5,v6,v7,v8,[],())).bind λ(x2,_,x4,x5,x6,_,_,_,ac,ae,af,ag,ah,ai,_)=>bif(gh 24 ah.length (List.length [ai]))then let aj:z_:=(List.append ah [ai]);let ak:=w64 (x6+1);some (.inl (x2,x4,x5,ak,ac,ae,af,ag,aj,()))else none)else some (.inr (v0,v1,v2,v3,false,v4,v5,v6,v7,v8,()))
def mR(a0:LDCe)(a1:LDLn)(a2:LI)(a3:Int)(a4:LI):Option (LLCn×Unit):=let x0:=fY a4.length;
(f9 ja NN (a4,a4,x0,0,a0,a1,a2,a3,[],())).bind λ(_,_,_,_,_,_,_,_,_,ac,_)=>some (ac,())
def BR:X.Cfg:=⟨E0,[uI,nq],[(41,(uaa KCn)),(42,(uaa KCn))],[⟨12,0,qS (sP 2 RI::zl [3,4]++Zaa 7 17::Uaa 8::Zaa 10 23::sP 12 RI::il [13,14,19,20]) yas,[(.exit 2,qS (sP 2 RI::zl [3,4]++Zaa 7 17::Uaa 8::Zaa 10 23::sP 12 RI::il [13,14,19,20]++[Xaa 21]) yas)]⟩,(lx 4 1 (sP 2 RI::zl [3,4]++Zaa 7 17::sP 12 RI::il [13,14]) [(8,yaf),(10,Uab),(17,Uaj)] 15)]⟩
def uH:Ctr:=⟨29,108,[.agg yaf,.agg Uab,shU RI],[],[⟨Uaj,[.one],[]⟩],ap5 mR⟩
theorem Bx:Lk 3 uH:=ls BR (aC zB (aC pA aN))
def jZ:T3y->Option (T3y⊕(LDTh×Int×Int×LDCe×Int×Int×Bool×T3t)):=λ(v0,v1,v2,v3,v4,v5,v6,v7,v8,v9,ej,eq,eE,eG,eI,eK,eO,eS,eV,eX,eZ,fc,ff,fi,fk,fq,fr,fu,fv,fw,fA,fB,fC,fD,_)=>bif(decide (v5<v4))then((gg v5).bind λx0=>
(fR v3 x0).bind λx1=>
(jc v9 ej v7 x1.1 x1.2).bind λ(x2,x3,x4,x5,_)=>let x6:LDCn:=[(x2,(x3,(x4,x5)))];bif(gh 24 fD.length x6.length)then let x7:LDCn:=(List.append fD x6);let x8:=w64 (v5+1);some (.inl (v0,v1,v2,v3,v4,x8,v6,v7,v8,v9,ej,eq,eE,eG,eI,eK,eO,eS,eV,eX,eZ,fc,ff,fi,fk,fq,fr,fu,fv,fw,fA,fB,fC,x7,()))else none)else some (.inr (v0,v1,v2,v3,v4,v5,false,v6,v7,v8,v9,ej,eq,eE,eG,eI,eK,eO,eS,eV,eX,eZ,fc,ff,fi,fk,fq,fr,fu,fv,fw,fA,fB,fC,fD,()))
def jY:T2M->Option (T2M⊕(LDTh×Int×Int×Bool×T2B)):=λ(v0,v1,v2,v3,v4,v5,v6,v7,v8,v9,ej,eq,eE,eG,eI,_)=>bif(decide (v2<v1))then((gg v2).bind λx0=>
(fR v0 x0).bind λx1=>let x2:=fY x1.2.1.length;
(f9 jZ NN (v0,v1,v2,x1.2.1,x2,0,v3,v4,v5,v6,v7,v8,v9,ej,eq,eE,eG,eI,x1.1,x1.2.1,x1.2.2.1,x1.2.2.2.1,x1.2.2.2.2.1,x1.2.2.2.2.2.1,x1.2.2.2.2.2.2.1,x1.2.2.2.2.2.2.2,x1.1,x1.2.2.1,x1.2.2.2.1,x1.2.2.2.2.1,x1.2.2.2.2.2.1,x1.2.2.2.2.2.2.1,x1.2.2.2.2.2.2.2,[],())).bind λ(x3,x4,x5,_,_,_,_,ac,ae,af,ag,ah,ai,aj,ak,am,an,ap,aq,_,_,_,_,_,_,_,_,aF,aG,aH,aI,aJ,aK,aL,aM,_)=>let aO:LDTs:=[(aF,(aG,(aH,(aI,(aJ,(aK,(aL,aM)))))))];bif(gh 80 aq.length aO.length)then let aP:LDTs:=(List.append aq aO);let aQ:=w64 (x5+1);some (.inl (x3,x4,aQ,ac,ae,af,ag,ah,ai,aj,ak,am,an,ap,aP,()))else none)else some (.inr (v0,v1,v2,false,v3,v4,v5,v6,v7,v8,v9,ej,eq,eE,eG,eI,()))
def mK(a0:LDIn)(a1:LI)(a2:LLI)(a3:LI)(a4:Int)(a5:LDCe)(a6:LDLn)(a7:LDTh):Option (T0a):=
(mR a5 a6 a3 a4 a1).bind λ(x0,_)=>let x1:=fY a7.length;
(f9 jY NN (a7,x1,0,a0,a1,a2,a3,a4,a5,a6,a7,(),(),x0,[],())).bind λ(_,_,_,_,_,_,_,_,_,_,_,_,_,_,aj)=>some (aj)
def Fv:X.Cfg:=⟨E0,[uH,nq],[(63,Lr),(64,Lr)],[⟨12,0,qS (zl [2,3,4,5,8]++sP 20 og::il [21,22]++sP 42 g9::il [43,44]) zas,[(.exit 2,qS (zl [2,3,4,5,8]++sP 20 og::il [21,22]++sP 42 g9::il [43,44]++[Xaa 45]) zas)]⟩,(lx 4 1 (zl [2,3,4,5]++sP 20 og::il [21,22]) [(6,uab),(8,Uac),(10,uac),(12,uag)] 23)]⟩
def sI:Ctr:=⟨10,109,[.agg uab,.agg Uac],[],[⟨uag,[.agg 2],[]⟩],as1 (as2 (as4 ap1)) mK⟩
theorem xm:Lk 4 sI:=ls Fv (aC Bx (aC pA aN))
def j4:Int×T0o->Option ((Int×T0o)⊕(Int×T0D)):=λ(v0,v1,v2,v3,_)=>bif(decide (v3<v2))then((gg v3).bind λx0=>
(fR v1 x0).bind λx1=>let x2:=w64 (v0+x1);let x3:=w64 (v3+1);some (.inl (x2,v1,v2,x3,())))else some (.inr (v0,v1,v2,v3,false,()))
def o8(a0:LI):h_:=let x0:=fY a0.length;
(f9 j4 NN (0,a0,x0,0,())).bind λ(x1,_)=>some (x1,())
def FU:X.Cfg:=⟨E0,[],[],[(lx 4 0 (Uaa 3::sP 6 RI::il [7,8]) [] 9)]⟩
def yc:Ctr:=⟨99,110,yai,[],[⟨zac,[.one],[]⟩],ap1 o8⟩
theorem E2:Lk 1 yc:=ls FU aN
def se:Int×LI×T0w->Option ((Int×LI×T0w)⊕(T0f⊕T1y)):=λ(v0,v1,v2,v3,v4)=>bif(decide (v3<v2))then((gg v3).bind λx0=>
(fR v1 x0).bind λx1=>
(match(bif(decide (v0>=0))then(bif(decide (v0<x1))then(some (.inl (0,v3,v0,())))else some (.inr (v0,v3,x1,v1,v2,v3,false,v4)))else some (.inr (v0,v3,x1,v1,v2,v3,false,v4)):Option (T0f⊕(Int×Int×T1y)))with
|none=>none
|some (.inl (x2,x3,x4,_))=>some (.inr (.inl (x2,x3,x4,())))
|some (.inr (x2,_,x4,x5,x6,x7,_,x9))=>let ae:=w64 (x2-x4);let af:=w64 (x7+1);some (.inl (ae,x5,x6,af,x9))))else some (.inr (.inr (v0,v1,v2,v3,false,v4)))
def u5(a0:LI)(a1:Int):Option (T0f):=let x0:=fY a0.length;
(match f9 se NN (a1,a0,x0,0,0,0,())with
|none=>none
|some (.inl (x1,x2,x3,_))=>some (x2,x3,x1,())
|some (.inr (_,_,_,_))=>some (0,0,6,()))
def Mt:X.Cfg:=⟨E0,[],[],[⟨8,0,qE,[(.ret,qS uav Zan),(.normal,qS [Uaa 1,zaa 4,Uaa 6,Uaa 7,sP 8 RI,Uaa 9,Uaa 10,Xaa 21] Zan)]⟩,⟨3,1,qS [Uaa 1,zaa 4,sP 8 RI,Uaa 9,Uaa 10] Zan,[(.ret,qS uav Zan),(.exit 0,qS [Uaa 1,zaa 4,sP 8 RI,Uaa 9,Uaa 10,Xaa 11] Zan)]⟩]⟩
def Eb:Ctr:=⟨98,111,yab,[],[⟨zak,[.agg 2,.one],[]⟩],ap2 u5⟩
theorem Ml:Lk 1 Eb:=ls Mt aN
def jG(a0 a1:LI)(a2:Int):Option (T17):=
(fS 6 a1 a2).bind λ(x0,x1,x2,_)=>bif(x0==4)then((o8 a0).bind λ(x3,_)=>
(fS x3 x1 x2).bind λ(x4,x5,x6,_)=>
(u5 a0 x4).bind λ(x7,x8,_,_)=>some (1,0,x7,x8,x5,x6,()))else bif(x0==5)then((fS 10 x1 x2).bind λ(x3,x4,x5,_)=>let x6:=wk .u16 x3;some (2,x6,0,0,x4,x5,()))else
(kS x1 x2).bind λ(x3,x4,x5,_)=>some (0,x3,0,0,x4,x5,())
def Ix:X.Cfg:=⟨E0,[g7,yc,Eb,qm],[],[]⟩
def oD:Ctr:=⟨58,112,[.ptr ⟨2,0,[]⟩ [0],shU RI],[(2,yab)],[⟨yag,[.agg 4],[(2,yab)]⟩],ap3 jG⟩
theorem qV:Lk 5 oD:=ls Ix (aC ib (aC E2 (aC Ml (aC sA aN))))
def i9:LDTs×LDTs×T02->Option ((LDTs×LDTs×T02)⊕((Bool×Unit)⊕(LDTs×LDTs×T0e))):=λ(v0,v1,v2,v3,_)=>bif(decide (v3<v2))then((gg v3).bind λx0=>
(fR v1 x0).bind λx1=>
(bif(decide (x1.1>=0))then(bif(decide (x1.1<=4))then(bif(decide (x1.2.1>=0))then(bif(decide (x1.2.1<=255))then(bif(decide (x1.2.2.1>=0))then(bif(decide (x1.2.2.1<=1099511627776))then(bif(decide (x1.2.2.2.1>=(-1)))then(bif(decide (x1.2.2.2.1<=255))then(bif(decide (x1.2.2.2.2.1>=(-1)))then(bif(decide (x1.2.2.2.2.1<=255))then(bif(decide (x1.2.2.2.2.2.1>=0))then(some (v0,(decide (x1.2.2.2.2.2.1<=6)),v1,v2,v3,x1.1,x1.2.1,x1.2.2.1,x1.2.2.2.1,x1.2.2.2.2.1,x1.2.2.2.2.2.1,x1.2.2.2.2.2.2.1,x1.2.2.2.2.2.2.2,()))else some (v0,false,v1,v2,v3,x1.1,x1.2.1,x1.2.2.1,x1.2.2.2.1,x1.2.2.2.2.1,x1.2.2.2.2.2.1,x1.2.2.2.2.2.2.1,x1.2.2.2.2.2.2.2,()))else some (v0,false,v1,v2,v3,x1.1,x1.2.1,x1.2.2.1,x1.2.2.2.1,x1.2.2.2.2.1,x1.2.2.2.2.2.1,x1.2.2.2.2.2.2.1,x1.2.2.2.2.2.2.2,()))else some (v0,false,v1,v2,v3,x1.1,x1.2.1,x1.2.2.1,x1.2.2.2.1,x1.2.2.2.2.1,x1.2.2.2.2.2.1,x1.2.2.2.2.2.2.1,x1.2.2.2.2.2.2.2,()))else some (v0,false,v1,v2,v3,x1.1,x1.2.1,x1.2.2.1,x1.2.2.2.1,x1.2.2.2.2.1,x1.2.2.2.2.2.1,x1.2.2.2.2.2.2.1,x1.2.2.2.2.2.2.2,()))else some (v0,false,v1,v2,v3,x1.1,x1.2.1,x1.2.2.1,x1.2.2.2.1,x1.2.2.2.2.1,x1.2.2.2.2.2.1,x1.2.2.2.2.2.2.1,x1.2.2.2.2.2.2.2,()))else some (v0,false,v1,v2,v3,x1.1,x1.2.1,x1.2.2.1,x1.2.2.2.1,x1.2.2.2.2.1,x1.2.2.2.2.2.1,x1.2.2.2.2.2.2.1,x1.2.2.2.2.2.2.2,()))else some (v0,false,v1,v2,v3,x1.1,x1.2.1,x1.2.2.1,x1.2.2.2.1,x1.2.2.2.2.1,x1.2.2.2.2.2.1,x1.2.2.2.2.2.2.1,x1.2.2.2.2.2.2.2,()))else some (v0,false,v1,v2,v3,x1.1,x1.2.1,x1.2.2.1,x1.2.2.2.1,x1.2.2.2.2.1,x1.2.2.2.2.2.1,x1.2.2.2.2.2.2.1,x1.2.2.2.2.2.2.2,()))else some (v0,false,v1,v2,v3,x1.1,x1.2.1,x1.2.2.1,x1.2.2.2.1,x1.2.2.2.2.1,x1.2.2.2.2.2.1,x1.2.2.2.2.2.2.1,x1.2.2.2.2.2.2.2,()))else some (v0,false,v1,v2,v3,x1.1,x1.2.1,x1.2.2.1,x1.2.2.2.1,x1.2.2.2.2.1,x1.2.2.2.2.2.1,x1.2.2.2.2.2.2.1,x1.2.2.2.2.2.2.2,()))else some (v0,false,v1,v2,v3,x1.1,x1.2.1,x1.2.2.1,x1.2.2.2.1,x1.2.2.2.2.1,x1.2.2.2.2.2.1,x1.2.2.2.2.2.2.1,x1.2.2.2.2.2.2.2,()):Option (LDTs×Bool×LDTs×T2e)).bind λ(x2,x3,x4,x5,x6,_,_,_,_,_,_,_,ah,_)=>
(bif(!x3)then(some (x2,x4,x5,x6,true,()))else let ai:=fY ah.length;bif(ai != 8)then(some (x2,x4,x5,x6,true,()))else
(iq ah 8).bind λ(aj,_)=>some (x2,x4,x5,x6,(!aj),()):Option (LDTs×LDTs×T0e)).bind λ(ai,aj,ak,am,an,_)=>bif an then(some (.inr (.inl (false,()))))else let ap:=w64 (am+1);some (.inl (ai,aj,ak,ap,())))else some (.inr (.inr (v0,v1,v2,v3,false,())))
def mI(a0:LDTs):f_:=let x0:=fY a0.length;
(match f9 i9 NN (a0,a0,x0,0,())with
|none=>none
|some (.inl (x1,_))=>some (x1,())
|some (.inr (x1,_))=>let x6:=fY x1.length;some ((x6==4),()))
def BO:X.Cfg:=⟨E0,[jg],[],[⟨8,0,qE,[(.normal,qS [sP 0 (yaa vp),zaa 4,Xaa 5,sP 6 (yaa vp),Uaa 7,Uaa 8] [(10,Uak)])]⟩,⟨9,1,qE,[(.normal,qS [sP 0 (yaa vp),sP 6 (yaa vp),Uaa 7,Uaa 8,Xaa 83] [])]⟩,⟨3,2,qS (sP 0 (yaa vp)::sP 6 (yaa vp)::il [7,8]) [],[(.ret,qS Uat []),(.exit 0,qS [sP 0 (yaa vp),sP 6 (yaa vp),Uaa 7,Uaa 8,Xaa 9] [])]⟩]⟩
def uA:Ctr:=⟨61,113,uL [(yaa vp)],[],[⟨zab,[.one],[]⟩],ap1 mI⟩
theorem Bu:Lk 3 uA:=ls BO (aC jS aN)
def lU:T1S->Option (T1S⊕((Bool×Unit)⊕(LLCn×Int×Int×Bool×T0T))):=λ(v0,v1,v2,v3,v4,v5)=>bif(decide (v2<v1))then((gg v2).bind λx0=>
(fR v0 x0).bind λx1=>let x2:=fY x1.length;
(gg v2).bind λx3=>
(fR v4 x3).bind λx4=>bif(x2 != x4)then(some (.inr (.inl (false,()))))else
(iq x1 32).bind λ(x5,_)=>bif(!x5)then(some (.inr (.inl (false,()))))else let x6:=w64 (v2+1);some (.inl (v0,v1,x6,v3,v4,v5)))else some (.inr (.inr (v0,v1,v2,false,v3,v4,v5)))
def mJ(a0:LDIn)(a1:LI)(a2:LLI)(a3:z_)(a4:LDTs):f_:=
((lh a0 a1 a2).bind λ(x0,_)=>bif(x0 != 0)then(some (true,a0,a1,a2,a3,a4,()))else let x1:=fY a3.length;let x2:=fY a1.length;bif(x1 != x2)then(some (true,a0,a1,a2,a3,a4,()))else
(mI a4).bind λ(x3,_)=>some ((!x3),a0,a1,a2,a3,a4,()):Option (Bool×T0T)).bind λ(x0,x1,x2,x3,x4,x5,_)=>bif x0 then(some (false,()))else let x6:=fY x4.length;
(match f9 lU NN (x4,x6,0,x1,x2,x3,x4,x5,())with
|none=>none
|some (.inl (x7,_))=>some (x7,())
|some (.inr (_,_))=>some (true,()))
def Fu:X.Cfg:=⟨E0,[pH,uA,jg],[],[⟨2,0,qE,[(.normal,qS [zaa 2,zaa 3,Xaa 24] zaq)]⟩,⟨6,1,qS (zaa 2::sP 26 (yaa gj)::il [27,28]) zaq,[(.ret,qS Xat []),(.exit 0,qS [zaa 2,sP 26 (yaa gj),Uaa 27,Uaa 28,Xaa 29] zaq)]⟩]⟩
def xS:Ctr:=⟨32,114,[.agg uab,.agg Xae],[],[⟨zab,[.one],[]⟩],ap5 mJ⟩
theorem ER:Lk 4 xS:=ls Fu (aC sx (aC Bu (aC jS aN)))
def jX:LDTs×Int×Int×LLCn×LDTs×LLCn×Unit->Option ((LDTs×Int×Int×LLCn×LDTs×LLCn×Unit)⊕(LDTs×Int×Int×Bool×LLCn×LDTs×LLCn×Unit)):=λ(v0,v1,v2,v3,v4,v5,_)=>bif(decide (v2<v1))then((gg v2).bind λx0=>
(fR v0 x0).bind λx1=>let x2:z_:=[x1.2.2.2.2.2.2.2];bif(gh 24 v5.length x2.length)then let x3:z_:=(List.append v5 x2);let x4:=w64 (v2+1);some (.inl (v0,v1,x4,v3,v4,x3,()))else none)else some (.inr (v0,v1,v2,false,v3,v4,v5,()))
def oU(a0:z_)(a1:LDTs):Option (LLCn×Unit):=bif(gh 24 0 a0.length)then let x0:z_:=(List.append [] a0);let x1:=fY a1.length;
(f9 jX NN (a1,x1,0,a0,a1,x0,())).bind λ(_,_,_,_,_,_,x8,_)=>some (x8,())else none
def Ft:X.Cfg:=⟨E0,[],[(8,(uaa KCn)),(19,(uaa KCn)),(20,(uaa KCn))],[(lx 4 0 (Zaa 3 9::sP 10 (yaa vp)::il [11,12]) [(4,Xae),(9,Zah)] 13)]⟩
def xR:Ctr:=⟨34,115,[.agg Xae],[],[⟨Zah,[.one],[]⟩],ap2 oU⟩
theorem EQ:Lk 1 xR:=ls Ft aN
def jw:T2V->Option (T2V⊕(T13⊕(Int×Int×LDCn×T2O))):=λ(v0,v1,v2,v3,v4,v5,v6,v7)=>bif(decide (v4<v3))then((gg v4).bind λx0=>
(fR v2 x0).bind λx1=>
(io v6 x1.1 x1.2.1 x1.2.2.1 x1.2.2.2).bind λ(x2,_)=>bif(!x2)then(some (.inr (.inl (false,(),0,(),(),(),()))))else let x3:=w64 (v4+1);some (.inl (v0,v1,v2,v3,x3,v5,v6,v7)))else some (.inr (.inr (v0,v1,v2,v3,v4,false,v5,v6,v7)))
def jv:T2K->Option (T2K⊕(T13⊕T2O)):=λ(v0,v1,v2,v3,v4,v5,v6,v7,v8,v9,ej,eq,eE,eG,eI,_)=>bif(decide (v1<v0))then((gg v1).bind λx0=>
(fR eI x0).bind λ_=>
(fR eI x0).bind λx2=>let x3:=fY x2.length;
(match f9 jw NN (v0,v1,x2,x3,0,v2,v3,v4,v5,v6,v7,v8,v9,ej,eq,eE,eG,eI,())with
|none=>none
|some (.inl (x4,x5,x6,x7,x8,x9,_))=>some (.inr (.inl (x4,x5,x6,x7,x8,x9,())))
|some (.inr (x4,x5,_,_,_,_,ac))=>let ax:=w64 (x5+1);some (.inl (x4,ax,ac))))else some (.inr (.inr (v0,v1,false,v2,v3,v4,v5,v6,v7,v8,v9,ej,eq,eE,eG,eI,())))
def ju:T3i->Option (T3i⊕(Int×LLCn×Int×Int×LDCn×T3a)):=λ(v0,v1,v2,v3,v4,v5,v6,v7,v8,v9,ej,eq,eE,eG,eI,eK,eO,eS,eV,eX,eZ,fc,ff)=>bif(decide (v6<v5))then((gg v6).bind λx0=>
(fR v4 x0).bind λx1=>
(gg v0).bind λx2=>
(fR ej x2).bind λx3=>let x4:=w64 (x3+v6);
(jk ej eq v8 x1.1 x1.2.1 x1.2.2.1 x1.2.2.2).bind λ(x5,x6,_,_)=>
(gg x4).bind λx8=>
(fR fc x8).bind λ_=>
(fR fc x8).bind λ_=>let ae:=fc.modify x8 λe=>(x5,x6);let af:=w64 (v6+1);some (.inl (v0,v1,v2,v3,v4,v5,af,v7,v8,v9,ej,eq,eE,eG,eI,eK,eO,eS,eV,eX,eZ,ae,ff)))else some (.inr (v0,v1,v2,v3,v4,v5,v6,false,v7,v8,v9,ej,eq,eE,eG,eI,eK,eO,eS,eV,eX,eZ,fc,ff))
def jt:T3c->Option (T3c⊕(LLCn×T3a)):=λ(v0,v1,v2,v3)=>bif(decide (v2<v1))then((gg v2).bind λx0=>
(fR v0 x0).bind λx1=>let x2:=fY x1.length;
(f9 ju NN (v2,v0,v1,v2,x1,x2,0,v3)).bind λ(_,x4,x5,x6,_,_,_,_,ae)=>let aD:=w64 (x6+1);some (.inl (x4,x5,aD,ae)))else some (.inr (v0,v1,v2,false,v3))
def jq:T3T->Option (T3T⊕(LDTs×Int×Int×LDCn×Int×Int×Bool×T3x)):=λ(v0,v1,v2,v3,v4,v5,v6,v7,v8,v9,ej,eq,eE,eG,eI,eK,eO,eS,eV,eX,eZ,fc,ff,fi,fk,fq,fr,fu,fv,fw,fA,fB,fC,fD)=>bif(decide (v5<v4))then((gg v5).bind λx0=>
(fR v3 x0).bind λx1=>
(jk v9 ej v7 x1.1 x1.2.1 x1.2.2.1 x1.2.2.2).bind λ(x2,x3,_,_)=>let x5:LDCe:=[(x2,x3)];bif(gh 4 fC.length x5.length)then let x6:LDCe:=(List.append fC x5);let x7:=w64 (v5+1);some (.inl (v0,v1,v2,v3,v4,x7,v6,v7,v8,v9,ej,eq,eE,eG,eI,eK,eO,eS,eV,eX,eZ,fc,ff,fi,fk,fq,fr,fu,fv,fw,fA,fB,x6,fD))else none)else some (.inr (v0,v1,v2,v3,v4,v5,false,v6,v7,v8,v9,ej,eq,eE,eG,eI,eK,eO,eS,eV,eX,eZ,fc,ff,fi,fk,fq,fr,fu,fv,fw,fA,fB,fC,fD))
def jp:T3b->Option (T3b⊕(LDTs×Int×Int×Bool×T2T)):=λ(v0,v1,v2,v3,v4,v5,v6,v7,v8,v9,ej,eq,eE,eG,eI,eK,eO,eS,eV,eX,_)=>bif(decide (v2<v1))then((gg v2).bind λx0=>
(fR v0 x0).bind λx1=>let x2:=fY x1.2.2.2.2.2.2.2.length;
(f9 jq NN (v0,v1,v2,x1.2.2.2.2.2.2.2,x2,0,v3,v4,v5,v6,v7,v8,v9,ej,eq,eE,eG,eI,eK,eO,eS,eV,eX,x1.1,x1.2.1,x1.2.2.1,x1.2.2.2.1,x1.2.2.2.2.1,x1.2.2.2.2.2.1,x1.2.2.2.2.2.2.1,x1.2.2.2.2.2.2.2,x1.1,[],x1.2.1,x1.2.2.1,x1.2.2.2.1,x1.2.2.2.2.1,x1.2.2.2.2.2.1,x1.2.2.2.2.2.2.1,())).bind λ(x3,x4,x5,_,_,_,_,ac,ae,af,ag,ah,ai,aj,ak,am,an,ap,aq,av,ax,ay,az,aA,_,_,_,_,_,_,_,_,aK,aL,aM,aO,aP,aQ,aR,aS,_)=>let aT:LDTh:=[(aK,(aL,(aM,(aO,(aP,(aQ,(aR,aS)))))))];bif(gh 80 aA.length aT.length)then let aU:LDTh:=(List.append aA aT);let aV:=w64 (x5+1);some (.inl (x3,x4,aV,ac,ae,af,ag,ah,ai,aj,ak,am,an,ap,aq,av,ax,ay,az,aU,()))else none)else some (.inr (v0,v1,v2,false,v3,v4,v5,v6,v7,v8,v9,ej,eq,eE,eG,eI,eK,eO,eS,eV,eX,()))
def lE(a0:LDIn)(a1:LI)(a2:LLI)(a3:LI)(a4:Int)(a5:z_)(a6:LDTs):Option (T1g):=
(mJ a0 a1 a2 a5 a6).bind λ(x0,_)=>bif(!x0)then(some ([],0,[],[],[],false,()))else
(jM a3 a4 a1).bind λ(x1,_)=>bif(!x1)then(some ([],0,[],[],[],false,()))else
(oU a5 a6).bind λ(x2,_)=>let x3:=fY x2.length;
(match f9 jv NN (x3,0,a0,a1,a2,a3,a4,a5,a6,(),0,(),(),(),x2,())with
|none=>none
|some (.inl (x4,_,x6,_,_,_,_))=>some ([],x6,[],[],[],x4,())
|some (.inr (_,_,_,x7,x8,x9,ac,ae,af,ag,ah,ai,aj,ak,am,_,_))=>bif(gh 8 0 ac.length)then let ap:v_:=(List.append [] ac);bif(xe 512 512 2)then let aq:LDCe:=(List.replicate 512 (0,0));
(o7).bind λ(av,_)=>let ax:=fY af.length;
(f9 jt NN (af,ax,0,x7,x8,x9,ac,ae,af,ag,ah,ai,aj,ak,am,ap,ae,aq,av,(),())).bind λ(_,_,_,_,aD,aE,aF,aG,aH,aI,aJ,aK,aL,aM,aO,aP,aQ,aR,aS,aT,_,_)=>let aV:=fY aJ.length;
(f9 jp NN (aJ,aV,0,aD,aE,aF,aG,aH,aI,aJ,aK,aL,aM,aO,aP,aQ,aR,aS,aT,[],())).bind λ(_,_,_,_,_,_,_,_,_,_,_,_,_,_,_,_,bo,bp,bq,bt,bv,_)=>some (bo,bp,bq,bt,bv,true,())else none else none)
def Df:X.Cfg:=⟨E0,[xS,nn,xR,lM,sN,sO],[(150,RE),(151,RE)],[⟨12,0,qS (zl [3,4,5,6]++Zaa 37 77::il [38,39]++sP 43 gj::il [44,45]) zao,[(.ret,qS Xau [(14,Zab)]),(.exit 2,qS (zl [3,4,5,6]++Zaa 37 77::il [38,39]++sP 43 gj::il [44,45]++[Xaa 46]) zao)]⟩,⟨6,1,qS (zl [3,4,5,6]++Zaa 37 77::il [38,39]) zao,[(.ret,qS Xau [(14,Zab)]),(.exit 0,qS (zl [3,4,5,6]++Zaa 37 77::il [38,39]++[Xaa 40]) zao)]⟩,⟨28,2,qS (zl [3,4,5,6,12]++Uaa 13::sP 68 (yaa gj)::il [69,70]++sP 75 gj::il [76,77]) Uao,[(.exit 6,qS (zl [3,4,5,6,12]++Uaa 13::sP 68 (yaa gj)::il [69,70]++sP 75 gj::il [76,77]++[Xaa 78]) Uao)]⟩,⟨22,3,qS (zl [3,4,5,6,12]++sP 68 (yaa gj)::il [69,70]) Uao,[(.exit 4,qS (zl [3,4,5,6,12]++sP 68 (yaa gj)::il [69,70]++[Xaa 71]) Uao)]⟩,⟨43,4,qS (zl [3,4,6,12,19]++sP 104 (yaa vp)::il [105,106]++sP 126 gj::il [127,128]) Uas,[(.exit 10,qS (zl [3,4,6,12,19]++sP 104 (yaa vp)::il [105,106]++sP 126 gj::il [127,128]++[Xaa 129]) Uas)]⟩,⟨35,5,qS (zl [3,4,6,12]++sP 104 (yaa vp)::il [105,106]) Xas,[(.exit 8,qS (zl [3,4,6,12]++sP 104 (yaa vp)::il [105,106]++[Xaa 107]) Xas)]⟩]⟩
def vR:Ctr:=⟨13,116,[.agg uab,.agg Uab,.agg Xae],[],[⟨yal,[.agg 5,.one],[]⟩],as2 (as4 ap1) lE⟩
theorem CM:Lk 5 vR:=ls Df (aC ER (aC pz (aC EQ (aC od (aC xt (aC wA aN))))))
def nH:T3C->Option (T3C⊕T3F):=λ(v0,v1,v2,v3,v4,v5,v6,v7,v8,v9,ej,eq,eE,eG,eI,eK,eO,eS,eV,eX,eZ,fc,ff,fi,fk,fq,fr,fu,fv,fw,fA,fB,fC,fD,fE,fF,_)=>bif(decide (v1<v0))then(((fS 3 v2 v3).bind λ(x0,x1,x2,_)=>bif(x0==0)then((fR fE 0).bind λ_=>
(fR fE 0).bind λ_=>
(jG eG x1 x2).bind λ(x5,x6,x7,x8,x9,ac,_)=>
(gg v1).bind λae=>
(fR fE 0).bind λaf=>
(fR af ae).bind λ_=>
(fR fE 0).bind λah=>
(fR ah ae).bind λ_=>let aj:=fE.modify 0 λe=>(e.modify ae λe=>(x5,(x6,(x7,x8))));some (v0,v1,x9,ac,v4,v5,v6,v7,v8,v9,ej,eq,eE,eG,eI,eK,eO,eS,eV,eX,eZ,fc,ff,fi,fk,fq,fr,fu,fv,fw,fA,fB,fC,fD,aj,fF,()))else some (v0,v1,x1,x2,v4,v5,v6,v7,v8,v9,ej,eq,eE,eG,eI,eK,eO,eS,eV,eX,eZ,fc,ff,fi,fk,fq,fr,fu,fv,fw,fA,fB,fC,fD,fE,fF,()):Option (T3C)).bind λ(x0,x1,x2,x3,x4,x5,x6,x7,x8,x9,ac,ae,af,ag,ah,ai,aj,ak)=>let aL:=w64 (x1+1);some (.inl (x0,aL,x2,x3,x4,x5,x6,x7,x8,x9,ac,ae,af,ag,ah,ai,aj,ak)))else some (.inr (v0,v1,false,v2,v3,v4,v5,v6,v7,v8,v9,ej,eq,eE,eG,eI,eK,eO,eS,eV,eX,eZ,fc,ff,fi,fk,fq,fr,fu,fv,fw,fA,fB,fC,fD,fE,fF,()))
def rA:T3O->Option (T3O⊕(Int×Int×Int×T3F)):=λ(v0,v1,v2,v3,v4,v5,v6,v7,v8,v9,ej,eq,eE,eG,eI,eK,eO,eS,eV,eX,eZ,fc,ff,fi,fk,fq,fr,fu,fv,fw,fA,fB,fC,fD,fE,fF,fG,fH,fI,_)=>bif(decide (v4<v3))then(((fS 3 v5 v6).bind λ(x0,x1,x2,_)=>bif(x0==0)then((gg v0).bind λx3=>
(fR fI x3).bind λ_=>
(fR fI x3).bind λ_=>
(jG eO x1 x2).bind λ(x6,x7,x8,x9,ac,ae,_)=>
(gg v4).bind λaf=>
(fR fI x3).bind λag=>
(fR ag.2.2.2.2.2.2.2 af).bind λ_=>
(fR fI x3).bind λai=>
(fR ai.2.2.2.2.2.2.2 af).bind λ_=>let ak:=fI.modify x3 λe=>(e.1,(e.2.1,(e.2.2.1,(e.2.2.2.1,(e.2.2.2.2.1,(e.2.2.2.2.2.1,(e.2.2.2.2.2.2.1,(e.2.2.2.2.2.2.2.modify af λe=>(x6,(x7,(x8,x9)))))))))));some (v0,v1,v2,v3,v4,ac,ae,v7,v8,v9,ej,eq,eE,eG,eI,eK,eO,eS,eV,eX,eZ,fc,ff,fi,fk,fq,fr,fu,fv,fw,fA,fB,fC,fD,fE,fF,fG,fH,ak,()))else some (v0,v1,v2,v3,v4,x1,x2,v7,v8,v9,ej,eq,eE,eG,eI,eK,eO,eS,eV,eX,eZ,fc,ff,fi,fk,fq,fr,fu,fv,fw,fA,fB,fC,fD,fE,fF,fG,fH,fI,()):Option (T3O)).bind λ(x0,x1,x2,x3,x4,x5,x6,x7,x8,x9,ac,ae,af,ag,ah,ai,aj,ak,am)=>let aP:=w64 (x4+1);some (.inl (x0,x1,x2,x3,aP,x5,x6,x7,x8,x9,ac,ae,af,ag,ah,ai,aj,ak,am)))else some (.inr (v0,v1,v2,v3,v4,false,v5,v6,v7,v8,v9,ej,eq,eE,eG,eI,eK,eO,eS,eV,eX,eZ,fc,ff,fi,fk,fq,fr,fu,fv,fw,fA,fB,fC,fD,fE,fF,fG,fH,fI,()))
def nG:T3C->Option (T3C⊕T3F):=λ(v0,v1,v2,v3,v4,v5,v6,v7,v8,v9,ej,eq,eE,eG,eI,eK,eO,eS,eV,eX,eZ,fc,ff,fi,fk,fq,fr,fu,fv,fw,fA,fB,fC,fD,fE,fF,_)=>bif(decide (v1<v0))then(((gg v1).bind λx0=>
(fR fF x0).bind λ_=>
(fR fF x0).bind λ_=>
(fR fF x0).bind λx3=>let x4:=fY x3.2.2.2.2.2.2.2.length;
(f9 rA NN (v1,v0,v1,x4,0,v2,v3,v4,v5,v6,v7,v8,v9,ej,eq,eE,eG,eI,eK,eO,eS,eV,eX,eZ,fc,ff,fi,fk,fq,fr,fu,fv,fw,fA,fB,fC,fD,fE,fF,())).bind λ(x5,x6,x7,_,_,_,ae,af,ag,ah,ai,aj,ak,am,an,ap,aq,av,ax,ay,az,aA,aB,aD,aE,aF,aG,aH,aI,aJ,aK,aL,aM,aO,aP,aQ,aR,aS,aT,aU,_)=>
(fS 4 ae af).bind λ(aV,aW,aY,_)=>bif(aV==0)then((fS 5 aW aY).bind λ(aZ,ba,bc,_)=>
(gg x5).bind λbd=>
(fR aU bd).bind λ_=>
(fR aU bd).bind λ_=>let bg:=aU.modify bd λe=>(aZ,e.2);some (x6,x7,ba,bc,ag,ah,ai,aj,ak,am,an,ap,aq,av,ax,ay,az,aA,aB,aD,aE,aF,aG,aH,aI,aJ,aK,aL,aM,aO,aP,aQ,aR,aS,aT,bg,()))else some (x6,x7,aW,aY,ag,ah,ai,aj,ak,am,an,ap,aq,av,ax,ay,az,aA,aB,aD,aE,aF,aG,aH,aI,aJ,aK,aL,aM,aO,aP,aQ,aR,aS,aT,aU,()):Option (T3C)).bind λ(x0,x1,x2,x3,x4,x5,x6,x7,x8,x9,ac,ae,af,ag,ah,ai,aj,ak,am,an,ap,aq,av,ax,ay,az,aA,aB,aD,aE,aF,aG,aH,aI,aJ,aK,_)=>let aL:=w64 (x1+1);some (.inl (x0,aL,x2,x3,x4,x5,x6,x7,x8,x9,ac,ae,af,ag,ah,ai,aj,ak,am,an,ap,aq,av,ax,ay,az,aA,aB,aD,aE,aF,aG,aH,aI,aJ,aK,())))else some (.inr (v0,v1,false,v2,v3,v4,v5,v6,v7,v8,v9,ej,eq,eE,eG,eI,eK,eO,eS,eV,eX,eZ,fc,ff,fi,fk,fq,fr,fu,fv,fw,fA,fB,fC,fD,fE,fF,()))
def n8(a0:LI)(a1:Int):Option (LDIn×LI×LLI×LI×Int×LDCe×LDLn×LDTh×T07):=
(u6 a0 a1).bind λ(x0,x1,x2,x3,x4,x5,x6,x7,x8,x9,ac,ae,af,ag,ah,ai,aj,ak,am,an,_)=>
(match((fS 3 am an).bind λ(ap,aq,av,_)=>bif(ap==0)then((mK x0 x1 x2 x3 x4 x5 x6 x7).bind λ(ax,ay,_)=>
(fR ax 0).bind λ_=>
(fR ax 0).bind λ_=>
(fR ax 0).bind λaB=>let aD:=fY aB.length;
(f9 nH NN (aD,0,aq,av,(),(),(),(),0,(),(),(),x0,x1,x2,x3,x4,x5,x6,x8,x9,ac,ae,af,ag,ah,ai,aj,ak,x3,x4,x5,x6,x7,ax,ay,())).bind λ(_,_,_,aH,aI,aJ,aK,aL,aM,aO,aP,aQ,aR,aS,aT,aU,aV,aW,aY,aZ,ba,bc,bd,be,bf,bg,bh,bi,bj,bk,bl,bm,bn,bo,bp,bq,bt,_)=>let bv:=fY bt.length;
(f9 nG NN (bv,0,aH,aI,aJ,aK,aL,aM,aO,aP,aQ,aR,aS,aT,aU,aV,aW,aY,aZ,ba,bc,bd,be,bf,bg,bh,bi,bj,bk,bl,bm,bn,bo,bp,bq,bt,())).bind λ(_,_,_,bC,bD,bE,bF,bG,bH,bI,bJ,bK,bL,bM,bN,bO,bP,bQ,bR,bS,bT,bU,bV,bW,bY,bZ,b8,b9,cb,cd,cf,cg,ch,ci,cj,cl,cn,_)=>
(lE bM bN bO cf cg cl cn).bind λ(cq,cr,cu,cw,cx,cy,_)=>bif cy then(some (.inl (bC,bD,bE,bF,bG,bH,bI,bJ,bK,bL,bM,bN,bO,bP,bQ,bR,bS,bT,bU,bV,bW,bY,bZ,b8,b9,cb,cd,cq,cr,cu,cw,cx,())))else some (.inr (bC,bD,bE,bF,bG,bH,bI,bJ,bK,bL,bM,bN,bO,bP,bQ,bR,bS,bT,bU,bV,bW,bY,bZ,b8,b9,cb,cd,cf,cg,ch,ci,cj,())))else some (.inr (aq,av,(),(),(),(),0,(),(),(),x0,x1,x2,x3,x4,x5,x6,x8,x9,ac,ae,af,ag,ah,ai,aj,ak,x3,x4,x5,x6,x7,())):Option (T3v⊕T3v))with
|none=>none
|some (.inl (ap,aq,_,_,_,_,_,_,_,_,aF,aG,aH,_,_,_,_,_,_,_,_,_,_,_,_,_,_,aY,aZ,ba,bc,bd,_))=>
(fR bd 0).bind λ_=>
(fR bd 0).bind λ_=>some (aF,aG,aH,aY,aZ,ba,bc,bd,ap,aq,())
|some (.inr (ap,aq,_,_,_,_,_,_,_,_,aF,aG,aH,_,_,_,_,_,_,_,_,_,_,_,_,_,_,aY,aZ,ba,bc,bd,_))=>
(fR bd 0).bind λ_=>some (aF,aG,aH,aY,aZ,ba,bc,bd,ap,aq,()))
def Dx:X.Cfg:=⟨E0,[Ec,g7,sI,oD,vR],[],[⟨11,0,qE,[(.normal,(qS Xax Zam))]⟩,(lx 8 1 Xax Zam 29),⟨26,2,qE,[(.normal,(qS Zax Zam))]⟩,⟨23,3,(qS Zax Zam),[(.exit 4,(qS (zl [0,2,3,4,5,6]++il [8,48,49,58,59]++[Xaa 60]) Zam))]⟩,⟨19,4,qE,[(.normal,(qS uay Zam))]⟩,⟨16,5,(qS uay Zam),[(.exit 2,(qS (zl [0,2,3,4,5,6]++il [48,49]++[Xaa 50]) Zam))]⟩,⟨3,6,qE,[(.normal,(qS yay [(2,yab),(6,zad),(8,Zab),(10,yam),(12,Xac)])),(.normal,(qS yay [(2,yab),(6,zad),(8,Zab),(10,yam),(12,Xaf)]))]⟩]⟩
def wn:Ctr:=⟨24,117,[.ptr ⟨2,0,[]⟩ [0]],[(2,yab)],[⟨uL [gO,RI,(yaa RW),RI,CW,g9,i3,(uaa ny)],[.agg 3,.agg 5],[(2,yab)]⟩],ap2 n8⟩
theorem C5:Lk 10 wn:=ls Dx (aC Mm (aC ib (aC xm (aC qV (aC CM aN)))))
def oN:Int×LI×T03->Option ((Int×LI×T03)⊕(Int×Bool×LI×T03)):=λ(v0,v1,v2,v3,_)=>bif(decide (v0>0))then(let x0:v_:=[8,4];
(jG x0 v1 v2).bind λ(x1,x2,x3,x4,x5,x6,_)=>
((fS 12 x5 x6).bind λ(x7,x8,x9,_)=>bif(x7==0)then((fS 65536 x8 x9).bind λ(ac,ae,af,_)=>some (v0,ae,af,v3,1,0,(-1),ac,()))else some (v0,x8,x9,v3,x1,x2,x3,x4,()):Option (Int×LI×Int×LDCn×T0w)).bind λ(x7,x8,x9,ac,ae,af,ag,ah,_)=>let ai:LDCn:=[(ae,(af,(ag,ah)))];bif(gh 24 ac.length ai.length)then let aj:LDCn:=(List.append ac ai);let ak:=w64 (x7-1);some (.inl (ak,x8,x9,aj,()))else none)else some (.inr (v0,false,v1,v2,v3,()))
def jO(a0:Int)(a1:LI)(a2:Int):Option (LDCn×T07):=let x0:=w64 (a0+1);
(fS x0 a1 a2).bind λ(x1,x2,x3,_)=>
(f9 oN NN (x1,x2,x3,[],())).bind λ(_,_,x6,x7,x8,_)=>some (x8,x6,x7,())
def Ga:X.Cfg:=⟨E0,[g7,oD],[],[⟨9,0,qE,[(.normal,qS [zaa 0,Zaa 5 13,Uaa 6,zaa 7] [(2,yab),(13,Xag),(16,yag)])]⟩,(lx 4 1 [zaa 0,Zaa 5 13,Uaa 6] [(2,yab),(13,Xag)] 13)]⟩
def sS:Ctr:=⟨59,118,[.ptr ⟨2,0,[]⟩ [0],shU I64],[(2,yab)],[⟨Xag,[.one],[(2,yab)]⟩],ap3 jO⟩
theorem xy:Lk 6 sS:=ls Ga (aC ib (aC qV aN))
def ln:T3e->Option (T3e⊕(LI×Int×Int×Bool×T31)):=λ(v0,v1,v2,v3,v4,v5,v6,v7,v8,v9,ej,eq,eE,eG,eI,eK,eO,eS,eV,eX,eZ,_)=>bif(decide (v2<v1))then(((gg v2).bind λx0=>
(fR v0 x0).bind λx1=>bif(x1==78)then((fS 5 v3 v4).bind λ(x2,x3,x4,_)=>let x5:=wk .u16 x2;let x6:LDCn:=[(0,(x5,(0,0)))];bif(gh 24 eX.length x6.length)then let x7:LDCn:=(List.append eX x6);some (v0,v1,v2,x3,x4,v5,v6,v7,v8,v9,ej,eq,eE,eG,eI,eK,eO,eS,eV,x7,eZ,())else none)else bif(x1==72)then((fS 4 v3 v4).bind λ(x2,x3,x4,_)=>let x5:=wk .u16 x2;let x6:LDCn:=[(2,(x5,(0,0)))];bif(gh 24 eX.length x6.length)then let x7:LDCn:=(List.append eX x6);some (v0,v1,v2,x3,x4,v5,v6,v7,v8,v9,ej,eq,eE,eG,eI,eK,eO,eS,eV,x7,eZ,())else none)else bif(x1==80)then((fS 2 v3 v4).bind λ(x2,x3,x4,_)=>
(fS 4 x3 x4).bind λ(x5,x6,x7,_)=>let x8:LDCn:=[(1,(0,(x2,x5)))];bif(gh 24 eX.length x8.length)then let x9:LDCn:=(List.append eX x8);some (v0,v1,v2,x6,x7,v5,v6,v7,v8,v9,ej,eq,eE,eG,eI,eK,eO,eS,eV,x9,eZ,())else none)else let x2:v_:=[8,4];
(jG x2 v3 v4).bind λ(x3,x4,x5,x6,x7,x8,_)=>let x9:LDCn:=[(x3,(x4,(x5,x6)))];bif(gh 24 eX.length x9.length)then let ac:LDCn:=(List.append eX x9);some (v0,v1,v2,x7,x8,v5,v6,v7,v8,v9,ej,eq,eE,eG,eI,eK,eO,eS,eV,ac,eZ,())else none:Option (T3e)).bind λ(x0,x1,x2,x3,x4,x5,x6,x7,x8,x9,ac,ae)=>let aq:=w64 (x2+1);some (.inl (x0,x1,aq,x3,x4,x5,x6,x7,x8,x9,ac,ae)))else some (.inr (v0,v1,v2,false,v3,v4,v5,v6,v7,v8,v9,ej,eq,eE,eG,eI,eK,eO,eS,eV,eX,eZ,()))
def lG(a0:LI)(a1:Int):Option (Int×Int×Int×Int×Int×Int×LDCn×LDCn×T07):=
(fS 4 a0 a1).bind λ(x0,x1,x2,_)=>let x3:v_:=[1,1,1,0,2,3];
(fS 6 x1 x2).bind λ(x4,x5,x6,_)=>
(gg x4).bind λx7=>
(fR x3 x7).bind λ_=>
(fR x3 x7).bind λx9=>
(fS 50 x5 x6).bind λ(ac,ae,af,_)=>
(fS 64 ae af).bind λ(ag,ah,ai,_)=>
(bif(x9==2)then((fS 6 ah ai).bind λ(aj,ak,am,_)=>let an:=w64 (1+aj);some (ak,am,0,0,0,0,0,0,(),(),x0,x9,an,ac,ag,0,(),(),()))else some (ah,ai,0,0,0,0,0,0,(),(),x0,x9,0,ac,ag,0,(),(),()):Option (LI×Int×Int×Int×Int×Int×Int×Int×Unit×Unit×T1I)).bind λ(aj,ak,am,an,ap,aq,av,ax,ay,az,aA,aB,aD,aE,aF,aG,_,aI,_)=>bif(aB != 1)then(some (aA,aB,aD,aE,aF,aG,[],[],aj,ak,()))else
(fS 16 aj ak).bind λ(aJ,aK,aL,_)=>let aM:List (ByteArray):=[(bytes [78]),(bytes [72,80,78]),(bytes [72,80,78]),(bytes [78,78]),(bytes [72]),(bytes [72,78]),(bytes []),(bytes []),(bytes [78]),(bytes [78]),(bytes [78,88]),(bytes [78]),(bytes [78]),(bytes [78,80,78]),(bytes [78,80,78]),(bytes [])];
(gg aJ).bind λaO=>
(fR aM aO).bind λ_=>
(fR aM aO).bind λaQ=>bif(RO aQ)then let aR:v_:=(M3 aQ);let aS:=fY aR.length;
(f9 ln NN (aR,aS,0,aK,aL,am,an,ap,aq,av,ax,ay,az,aA,aB,aD,aE,aF,aJ,[],aI,())).bind λ(_,_,_,_,aY,aZ,ba,bc,bd,be,bf,bg,bh,bi,bj,bk,bl,bm,bn,bo,bp,_,_)=>
(bif(bo==1)then((jO 6 aY aZ).bind λ(bt,bv,bx,_)=>some (bv,bx,ba,bc,bd,be,bf,bg,bh,bi,bj,bk,bl,bm,bn,bo,bp,bt,()))else bif(bo==13)then((jO 6 aY aZ).bind λ(bt,bv,bx,_)=>some (bv,bx,ba,bc,bd,be,bf,bg,bh,bi,bj,bk,bl,bm,bn,bo,bp,bt,()))else some (aY,aZ,ba,bc,bd,be,bf,bg,bh,bi,bj,bk,bl,bm,bn,bo,bp,[],()):Option (T30)).bind λ(bt,bv,bx,bA,bB,bC,bD,bE,bF,bG,bH,bI,bJ,bK,bL,bM,bN,bO,_)=>
((fS 10 bt bv).bind λ(bP,bQ,bR,_)=>bif(bP==0)then((jO 3 bQ bR).bind λ(bS,bT,bU,_)=>some (bT,bU,bx,bA,bB,bC,bD,bE,bF,bG,bH,bI,bJ,bK,bL,bM,bS,bO,()))else some (bQ,bR,bx,bA,bB,bC,bD,bE,bF,bG,bH,bI,bJ,bK,bL,bM,bN,bO,()):Option (T30)).bind λ(bP,bQ,_,_,_,_,_,_,_,_,b8,b9,cb,cd,cf,cg,ch,ci,_)=>some (b8,b9,cb,cd,cf,cg,ch,ci,bP,bQ,())else none
def Du:X.Cfg:=⟨E0,[g7,oD,sS],[],[⟨2,0,qE,[(.normal,qS yau [(2,yab),(6,yae),(8,yae)])]⟩,⟨14,1,qE,[(.normal,qS zay Zas)]⟩,(lx 11 2 zay Zas 42),⟨20,3,qE,[(.normal,qS yau uat)]⟩,⟨22,4,qE,[(.normal,qS yau uat)]⟩]⟩
def wi:Ctr:=⟨25,119,[.ptr ⟨2,0,[]⟩ [0]],[(2,yab)],[⟨zag,[.agg 8],[(2,yab)]⟩],ap2 lG⟩
theorem CZ:Lk 7 wi:=ls Du (aC ib (aC qV (aC xy aN)))
def pi(a0:LI)(a1:Int):Option (T1Y):=let x0:v_:=[8,4];
(jG x0 a0 a1).bind λ(x1,x2,x3,x4,x5,x6,_)=>
(fS 6 x5 x6).bind λ(x7,x8,x9,_)=>
(fS 3 x8 x9).bind λ(ac,ae,af,_)=>bif(ac==0)then((jO 5 ae af).bind λ(ag,ah,ai,_)=>
((fS 5 ah ai).bind λ(aj,ak,am,_)=>bif(aj==0)then((fS 4 ak am).bind λ(an,ap,aq,_)=>some (ap,aq,0,0,0,0,(),0,false,x1,x2,x3,x4,ag,an,(x7==0),()))else some (ak,am,0,0,0,0,(),0,false,x1,x2,x3,x4,ag,(-1),(x7==0),()):Option (T2R)).bind λ(aj,ak,_,_,_,_,_,_,_,az,aA,aB,aD,aE,aF,aG,_)=>some (az,aA,aB,aD,aE,aF,aG,aj,ak,()))else
((fS 5 ae af).bind λ(ag,ah,ai,_)=>bif(ag==0)then((fS 4 ah ai).bind λ(aj,ak,am,_)=>some (ak,am,0,0,0,0,(),0,false,x1,x2,x3,x4,[],aj,(x7==0),()))else some (ah,ai,0,0,0,0,(),0,false,x1,x2,x3,x4,[],(-1),(x7==0),()):Option (T2R)).bind λ(ag,ah,_,_,_,_,_,_,_,av,ax,ay,az,aA,aB,aD,_)=>some (av,ax,ay,az,aA,aB,aD,ag,ah,())
def F7:X.Cfg:=⟨E0,[oD,g7,sS],[],[⟨4,0,qE,[(.normal,qS yau [(2,yab),(6,Xad),(8,yah)])]⟩]⟩
def yn:Ctr:=⟨26,120,[.ptr ⟨2,0,[]⟩ [0]],[(2,yab)],[⟨yah,[.agg 7],[(2,yab)]⟩],ap2 pi⟩
theorem Fd:Lk 7 yn:=ls F7 (aC qV (aC ib (aC xy aN)))
def mX:T3X->Option (T3X⊕(Int×Bool×T3W)):=λ(v0,v1,v2,v3,v4,v5,v6,v7,v8,v9,ej,eq,eE,eG,eI,eK,eO,eS,eV,eX,eZ,fc,ff,fi,fk,fq,fr,fu,fv,fw,fA,fB,fC,fD,fE,fF,fG)=>bif(decide (v0<5))then(bif(fF != 1)then((lG v1 v2).bind λ(x0,x1,x2,x3,x4,x5,x6,x7,x8,x9,_)=>let ac:=w64 (v0+1);some (.inl (ac,x8,x9,v3,v4,v5,v6,v7,v8,v9,ej,eq,eE,eG,eI,eK,eO,eS,eV,eX,eZ,fc,ff,fi,fk,fq,fr,fu,fv,fw,fA,fB,fC,fD,x0,x1,x2,x3,x4,x5,x6,x7,())))else some (.inr (v0,false,v1,v2,v3,v4,v5,v6,v7,v8,v9,ej,eq,eE,eG,eI,eK,eO,eS,eV,eX,eZ,fc,ff,fi,fk,fq,fr,fu,fv,fw,fA,fB,fC,fD,fE,fF,fG)))else some (.inr (v0,false,v1,v2,v3,v4,v5,v6,v7,v8,v9,ej,eq,eE,eG,eI,eK,eO,eS,eV,eX,eZ,fc,ff,fi,fk,fq,fr,fu,fv,fw,fA,fB,fC,fD,fE,fF,fG))
def mW:T3Z->Option (T3Z⊕(Int×Int×Bool×T3Y)):=λ(v0,v1,v2,v3,v4,v5,v6,v7,v8,v9,ej,eq,eE,eG,eI,eK,eO,eS,eV,eX,eZ,fc,ff,fi,fk,fq,fr,fu,fv,fw,fA,fB,fC,fD,fE,fF,fG,fH,fI,fJ,fK,fL,fM)=>bif(decide (v1<v0))then(((gg v1).bind λx0=>
(fR fL x0).bind λ_=>
(fR fL x0).bind λx2=>bif(x2.1==1)then(let x3:Int:=(fY fv.length);
(fS x3 v2 v3).bind λ(x4,x5,x6,_)=>
(gg x4).bind λx7=>
(fR fA x7).bind λx8=>
(gS fA fB fv x8).bind λ(x9,_,_,_)=>
(gg x9).bind λaf=>
(fR fv af).bind λag=>
(fS ag x5 x6).bind λ(ah,ai,aj,_)=>
(gg v1).bind λak=>
(fR fL ak).bind λ_=>
(fR fL ak).bind λ_=>let ap:=fL.modify ak λe=>(e.1,(e.2.1,(x9,e.2.2.2)));
(gg v1).bind λaq=>
(fR ap aq).bind λ_=>
(fR ap aq).bind λ_=>let ay:=ap.modify aq λe=>(e.1,(e.2.1,(e.2.2.1,ah)));some (v0,v1,ai,aj,v4,v5,v6,v7,v8,v9,ej,eq,eE,eG,eI,eK,eO,eS,eV,eX,eZ,fc,ff,fi,fk,fq,fr,fu,fv,fw,fA,fB,fC,fD,fE,fF,fG,fH,fI,fJ,fK,ay,fM))else some (v0,v1,v2,v3,v4,v5,v6,v7,v8,v9,ej,eq,eE,eG,eI,eK,eO,eS,eV,eX,eZ,fc,ff,fi,fk,fq,fr,fu,fv,fw,fA,fB,fC,fD,fE,fF,fG,fH,fI,fJ,fK,fL,fM):Option (T3Z)).bind λ(x0,x1,x2,x3,x4,x5,x6,x7,x8,x9,ac,ae,af,ag,ah,ai,aj,ak,am,an,ap,aq,av,ax,ay,az)=>let bc:=w64 (x1+1);some (.inl (x0,bc,x2,x3,x4,x5,x6,x7,x8,x9,ac,ae,af,ag,ah,ai,aj,ak,am,an,ap,aq,av,ax,ay,az)))else some (.inr (v0,v1,false,v2,v3,v4,v5,v6,v7,v8,v9,ej,eq,eE,eG,eI,eK,eO,eS,eV,eX,eZ,fc,ff,fi,fk,fq,fr,fu,fv,fw,fA,fB,fC,fD,fE,fF,fG,fH,fI,fJ,fK,fL,fM))
def mY(a0:LI)(a1:Int):Option (LDIn×LI×LLI×LI×Int×LDCe×LDLn×LDTh×Int×Int×Int×Int×Int×Int×LDCn×LDCn×T1Y):=
(n8 a0 a1).bind λ(x0,x1,x2,x3,x4,x5,x6,x7,x8,x9,_)=>
(lG x8 x9).bind λ(ac,ae,af,ag,ah,ai,aj,ak,am,an,_)=>
(f9 mX NN (0,am,an,(),(),(),(),0,(),(),(),0,0,0,0,0,0,(),(),0,0,0,0,(),0,false,x0,x1,x2,x3,x4,x5,x6,x7,ac,ae,af,ag,ah,ai,aj,ak,())).bind λ(_,_,av,ax,ay,az,aA,aB,aD,aE,aF,aG,aH,aI,aJ,aK,aL,aM,aO,aP,aQ,aR,aS,aT,aU,aV,aW,aY,aZ,ba,bc,bd,be,bf,bg,bh,bi,bj,bk,bl,bm,bn,bo,_)=>
(gg bh).bind λbp=>
(fR bg bp).bind λ_=>
(fR bg bp).bind λ_=>let bv:=bg.modify bp λe=>(2,e.2);
(pi av ax).bind λ(bx,bA,bB,bC,bD,bE,bF,bG,bH,_)=>let bI:=fY bn.length;
(f9 mW NN (bI,0,bG,bH,ay,az,aA,aB,aD,aE,aF,aG,aH,aI,aJ,aK,aL,aM,aO,aP,aQ,aR,aS,aT,aU,aV,aW,aY,aZ,ba,bc,bd,be,bf,bv,bh,bi,bj,bk,bl,bm,bn,bo,bx,bA,bB,bC,bD,bE,bF,())).bind λ(_,_,_,bM,bN,bO,bP,bQ,bR,bS,bT,bU,bV,bW,bY,bZ,b8,b9,cb,cd,cf,cg,ch,ci,cj,cl,cn,cq,cr,cu,cw,cx,cy,cz,cD,cE,cF,cG,cH,cI,cJ,cK,cL,cM,cN,cO,cP,cQ,cR,cS,cT,_)=>
(bif(cK==10)then((fS 3 bM bN).bind λ(cU,cV,cW,_)=>bif(decide (cU>0))then((fR cE 3).bind λ_=>
(fR cE 3).bind λ_=>let cZ:=cE.modify 3 λe=>(0,e.2);bif(cF != 3)then(some (cV,cW,bO,bP,bQ,bR,bS,bT,bU,bV,bW,bY,bZ,b8,b9,cb,cd,cf,cg,ch,ci,cj,cl,cn,cq,cr,cu,cw,cx,cy,cz,cD,cZ,cF,cG,cH,cI,cJ,cK,cL,cM,cN,cO,cP,cQ,cR,3,cT,()))else some (cV,cW,bO,bP,bQ,bR,bS,bT,bU,bV,bW,bY,bZ,b8,b9,cb,cd,cf,cg,ch,ci,cj,cl,cn,cq,cr,cu,cw,cx,cy,cz,cD,cZ,cF,cG,cH,cI,cJ,cK,cL,cM,cN,cO,cP,cQ,cR,cS,cT,()))else some (cV,cW,bO,bP,bQ,bR,bS,bT,bU,bV,bW,bY,bZ,b8,b9,cb,cd,cf,cg,ch,ci,cj,cl,cn,cq,cr,cu,cw,cx,cy,cz,cD,cE,cF,cG,cH,cI,cJ,cK,cL,cM,cN,cO,cP,cQ,cR,cS,cT,()))else some (bM,bN,bO,bP,bQ,bR,bS,bT,bU,bV,bW,bY,bZ,b8,b9,cb,cd,cf,cg,ch,ci,cj,cl,cn,cq,cr,cu,cw,cx,cy,cz,cD,cE,cF,cG,cH,cI,cJ,cK,cL,cM,cN,cO,cP,cQ,cR,cS,cT,()):Option (T3Y)).bind λ(cU,cV,_,_,_,_,_,_,_,_,_,_,_,_,_,_,_,_,_,_,_,_,_,_,_,dE,dF,dG,dH,dI,dJ,dK,dL,dM,dN,dO,dP,dQ,dR,dS,dT,dU,dV,dW,dX,dY,dZ,ee,_)=>some (dE,dF,dG,dH,dI,dJ,dK,dL,dM,dN,dO,dP,dQ,dR,dS,dT,dU,dV,dW,dX,dY,dZ,ee,cU,cV,())
def BW:X.Cfg:=⟨E0,[wn,wi,yn,g7,jC],[],[(lx 5 0 (zl [0,2,3,4,5,6,7,8]++[Uaa 9]) [(2,yab),(6,zad),(8,Zab),(10,yae),(12,Xad),(14,uab),(16,Xaf),(18,zag)] 28),⟨16,1,qE,[(.normal,(qS Uay Xao))]⟩,⟨13,2,(qS Uay Xao),[(.exit 2,(qS (zl [0,2,3,4,5,6,7,8,10]++(42,.pk ⟨18,6,[]⟩ [0,0])::il [43,44]++[Xaa 45]) Xao))]⟩,⟨20,3,qE,[(.normal,qS (zl [0,2,3,4,5,6,7,8,10]) Xao)]⟩]⟩
def uN:Ctr:=⟨9,121,[.ptr ⟨2,0,[]⟩ [0]],[(2,yab)],[⟨uL [gO,RI,(yaa RW),RI,CW,g9,i3,og,I64,I64,I64,I64,I64,I64,gj,gj,CB,CW,I64,I64,gj,I64,.bool],[.agg 3,.agg 5,.agg 8,.agg 7],[(2,yab)]⟩],ap2 mY⟩
theorem BC:Lk 11 uN:=ls BW (aC C5 (aC CZ (aC Fd (aC ib (aC kU aN)))))
def yz:T0F->Option (T0F⊕((Bool×Unit)⊕(LI×T0D))):=λ(v0,v1,v2,v3,_)=>bif(decide (v3<v2))then((gg v3).bind λx0=>
(fR v1 x0).bind λx1=>bif(decide (x1<1))then(some (.inr (.inl (false,()))))else bif(decide (x1>32))then(some (.inr (.inl (false,()))))else let x2:=w64 (v3+1);some (.inl (v0,v1,v2,x2,())))else some (.inr (.inr (v0,v1,v2,v3,false,())))
def lB(a0:LI):f_:=let x0:=fY a0.length;
(match f9 yz NN (a0,a0,x0,0,())with
|none=>none
|some (.inl (x1,_))=>some (x1,())
|some (.inr (x1,_))=>let x6:=fY x1.length;bif(decide (x6>=1))then(let x7:Int:=(fY x1.length);some ((decide (x7<=4)),()))else some (false,()))
def Da:X.Cfg:=⟨E0,[],[],[⟨3,0,qS Zav [],[(.ret,qS Uat []),(.exit 0,qS uaw [])]⟩]⟩
def rp:Ctr:=⟨110,122,yai,[],[⟨zab,[.one],[]⟩],ap1 lB⟩
theorem vG:Lk 1 rp:=ls Da aN
def rd(a0:Int):Option (T0s):=
(bif(a0==1)then(some (a0,true,false,false,false,false,()))else bif(a0==15)then(some (a0,true,false,false,false,false,()))else bif(a0==19)then(some (a0,true,false,false,false,false,()))else bif(a0==20)then(some (a0,true,false,false,false,false,()))else some (a0,(a0==21),false,false,false,false,()):Option (Int×Bool×T0s)).bind λ(x0,x1,_)=>bif x1 then(some (true,false,false,true,()))else bif(x0==2)then(some (true,true,false,false,()))else bif(x0==16)then(some (true,true,false,true,()))else bif(x0==17)then(some (true,true,false,true,()))else bif(x0==18)then(some (false,false,false,true,()))else bif(x0==23)then(some (false,false,false,true,()))else bif(x0==22)then(some (true,false,false,false,()))else bif(x0==0)then(some (false,false,false,false,()))else bif(x0==24)then(some (false,false,false,false,()))else some (true,true,true,false,())
def Dq:X.Cfg:=⟨E0,[],[],[⟨3,0,qE,[(.normal,qS [zaa 2,Uaa 3,Xaa 4] [(6,Uag)])]⟩]⟩
def wd:Ctr:=⟨161,123,zac,[],[⟨Uag,[.agg 4],[]⟩],ap1 rd⟩
theorem CU:Lk 1 wd:=ls Dq aN
def iW(a0:Bool)(a1 a2:Int):f_:=bif(a1==0)then(some (true,()))else bif a0 then(bif(decide (a1>0))then(some ((decide (a1<=a2)),()))else some (false,()))else some (false,())
def BX:X.Cfg:=⟨E0,[],[],[]⟩
def uO:Ctr:=⟨162,124,uL [.bool,I64,I64],[],[⟨zab,[.one],[]⟩],ap3 iW⟩
theorem BD:Lk 1 uO:=ls BX aN
def m6(a0:Int):f_:=bif(a0==18)then(some (true,()))else bif(a0==19)then(some (true,()))else bif(a0==20)then(some (true,()))else some ((a0==21),())
def F3:X.Cfg:=⟨E0,[],[],[]⟩
def sR:Ctr:=⟨140,125,zac,[],[⟨zab,[.one],[]⟩],ap1 m6⟩
theorem xw:Lk 1 sR:=ls F3 aN
def qK(a0:Int):h_:=
(m6 a0).bind λ(x0,_)=>bif x0 then(some (63,()))else bif(a0==15)then(some (3,()))else bif(a0==23)then(some (15,()))else some (65535,())
def Is:X.Cfg:=⟨E0,[sR],[],[]⟩
def Ae:Ctr:=⟨163,126,zac,[],[⟨zac,[.one],[]⟩],ap1 qK⟩
theorem HJ:Lk 2 Ae:=ls Is (aC xw aN)
def pe(a0 a1 a2 a3 a4:Int):f_:=bif(decide (a0<0))then(some (false,()))else bif(decide (a0>24))then(some (false,()))else
(rd a0).bind λ(x0,x1,x2,x3,_)=>
(iW x0 a1 7).bind λ(x4,_)=>bif x4 then((iW x1 a2 7).bind λ(x5,_)=>bif x5 then((iW x2 a3 7).bind λ(x6,_)=>bif x6 then((qK a0).bind λ(x7,_)=>
(iW x3 a4 x7).bind λ(x8,_)=>some (x8,()))else some (false,()))else some (false,()))else some (false,())
def F2:X.Cfg:=⟨E0,[wd,uO,Ae],[],[]⟩
def yj:Ctr:=⟨139,127,[.agg zae],[],[⟨zab,[.one],[]⟩],ap5 pe⟩
theorem E9:Lk 3 yj:=ls F2 (aC CU (aC BD (aC HJ aN)))
end
end Go.Proofs.YtabfnmgabblofaaGreat
