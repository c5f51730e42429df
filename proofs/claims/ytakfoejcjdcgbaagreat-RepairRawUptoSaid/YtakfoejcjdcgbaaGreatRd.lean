/- Part of the proof; no condition. -/
import Derived.Test.YtakfoejcjdcgbaaGreatRc
import Derived.Test.YtakfoejcjdcgbaaGreatRows
import Derived.WalkKit
import Derived.WalkSpells
import Derived.WalkLawsBesides
import Derived.Deep.QuietTactic
import Derived.BigQuiet
import Derived.Lib.Hide
import Derived.Handy
import Derived.OpenShut
import Derived.Orders
import Derived.Test.YtakfoejcjdcgbaaGreatProg
import Derived.Sort.Grow
import Derived.Shelf.GgSortFunc.RowK
import Derived.Shelf.SlicesQ.Reverse
import Derived.Lib.SlicesCompact
import Derived.Lib.SliceRun
import Derived.Laws.StructEq
import Derived.Deep.LoopGhost
import Derived.Deep.Draws
import Derived.Sort.WalkB12
import Derived.Shelf.RegionOpenPlain
import Derived.Shelf.SlSortCmp.WholeK
import Derived.Shelf.SlSortCmp.NoneTotal
import Derived.Shelf.SlicesE.Clone
import Derived.Ground.SlgnProg
import Derived.Deep.DeepAppendRoom
import Derived.ArgAppend
import Derived.KernelRfl
set_option linter.unusedVariables false
set_option linter.unusedSimpArgs false
namespace Go.Proofs.YtakfoejcjdcgbaaGreat
open Go.RowKit
theorem JW{t:TV}(h:JY t=true):t.imm=t:=by
 cases t with
 |v _=>rfl
 |sl _=>rfl
 |_=>simp[JY]at h
theorem JX{t:XV den}(h:X.isVSX t=true):JY (er t)=true:=by
 cases t with
 |d tt x=>cases tt with
  |int k=>rfl
  |bool=>rfl
  |str=>rfl
  |_=>simp[X.isVSX]at h
 |k x=>rfl
 |_=>simp[X.isVSX]at h
theorem Fa:∀{n:Nat}(l:List TV),l.length=n->ju 1 n l=l.map λc=>[c]:=by
 intro n
 induction n with
 |zero=>intro l h;rw[oEN h];rfl
 |succ n ih=>
  intro l h
  cases l with
  |nil=>simp at h
  |cons x l=>
   simp only[ju,List.take_succ_cons,List.take_zero,List.drop_succ_cons,List.drop_zero,List.map_cons];rw[ih l (by simpa using h)]
section
variable {α β γ δ Y:Type}
theorem bL{x:Opd}{g:XV den->XM den Option Y γ}{h:TV->SP δ}{f:γ->δ}(H:∀t,Sim (g t) (h (er t)) f):Sim (X.bind (X.opd bI x) g) ((opd x).bind h) f:=(ms x).bind H
theorem Gd(k:Nat){s:SP β}{f:α->β}:∀(n:Nat)(g:Nat->XM den Option Y α)(i:Nat),(∀j,i<=j->j<i+n->k=j->Sim (g j) s f)->Sim (X.caseM bI k n g i) s f:=by
 intro n
 induction n with
 |zero=>intro g i _;exact .fail
 |succ n ih=>
  intro g i h;refine tJ (λhb=>h i (Nat.le_refl _) (by omega) ?_) λhb=>ih g (i+1) λj h1 h2 h3=>h j (by omega) (by omega) h3;have hb:Nat.beq k i=true:=hb
  simp_all
theorem Ny(HT:List (Nat×CT))(d:Nat)(op:TOp):Sim (Y:=Y) (X.ev1 bI HT d op) (ev1 d op) id:=by
 cases op with
 |mov x=>
  refine bL λt=>?_
  cases t with
  |d t y=>
   cases ho:X.isOwT t with
   |true=>
    obtain⟨c,hc⟩:=j6 (v:=.d t y) ho;rw[hc];show Sim (if X.isOwT t then _ else _) _ id;rw[oIP ho]
    cases x with
    |c v=>exact gX d false (by simp only[erL,hc])
    |_=>exact .fail
   |false=>
    show Sim (if X.isOwT t then _ else _) _ id;rw[oIN (by rw[ho];simp)]
    have h1:kf (er (.d t y))=false:=by rw[qw];exact ho
    cases t with
    |row o t=>cases o<;>first|exact cj d rfl|simp[X.isOwT]at ho
    |nilr o=>cases o<;>first|exact cj d rfl|simp[X.isOwT]at ho
    |_=>exact cj d rfl
  |agg l=>
   show Sim (if l.any X.isOwX then _ else _) (if(erL l).any kf then .fail else wr d (.agg (erL l))) id;rw[Lg];refine Sim.ite (λ_=>.fail) λh=>?_;rw[oIN h];exact cj d rfl
  |gap=>exact .fail
  |half=>exact .fail
  |_=>exact cj d rfl
 |asn mv x=>
  refine bL λt=>?_
  cases t with
  |ptr p vs=>exact cj d rfl
  |ip cs=>exact cj d rfl
  |fn f cap=>exact cj d rfl
  |d t y=>
   cases t with
   |row o t=>cases o<;>exact(nD mv (.d _ y)).bind λl=>gX d l.2 rfl
   |nilr o=>cases o<;>exact(nD mv (.d _ y)).bind λl=>gX d l.2 rfl
   |_=>exact(nD mv (.d _ y)).bind λl=>gX d l.2 rfl
  |_=>exact(nD mv _).bind λl=>gX d l.2 rfl
 |pick c a b=>exact Ll HT d c a b
 |alloc z=>
  refine Sim.ite (λh=>?_) λ_=>.fail;show Sim _ (if(z.map cf).all cq then _ else _) id;rw[oIP (lT h)];exact Sim.new (oL z) (Sim.rdV λg=>cj d rfl)
 |box n mv x=>
  refine bL λt=>?_;rw[qM];refine(lO mv _).bind λl=>Sim.ite (λh=>?_) λ_=>.fail;rw[oIP (by rw[dT];exact h)];exact Sim.new rfl (Sim.rdV λg=>cj d rfl)
 |boxi n x=>
  refine bL λt=>?_;refine Sim.ite (λh=>?_) λ_=>Sim.ite (λh=>?_) λ_=>.fail
  ·rw[oIP (J0 h)];refine Sim.ite (λhn=>?_) λ_=>.fail;rw[oIP hn];exact cj d rfl
  ·rw[oIN (Mz h)];rw[qM];refine(lO false _).bind λl=>Sim.opt λl' hl=>Sim.ite (λhn=>?_) λ_=>.fail;rw[oIP (by rw[dT];exact hn)];exact cj d (by simp only[er,xQ hl])
 |load n a=>
  refine bL λt=>?_
  cases t with
  |ptr p vs=>
   refine(dL p _ vs).bind λ_=>?_
   cases n with
   |none=>exact(FZ p).bind λt'=>cj d rfl
   |some n=>exact(zh p n).bind λl=>cj d rfl
  |ip cs=>
   simp only[er]
   cases h:X.loadIp n cs with
   |none=>exact .fail
   |some t=>simp only[Hk h];exact cj d rfl
  |_=>exact .fail
 |store n mv a x=>
  refine bL λta=>?_
  cases ta with
  |ptr p vs=>
   refine bL λtx=>?_;rw[qM];refine(lO mv _).bind λl=>Sim.ite (λh=>?_) λ_=>.fail;rw[oIP (by rw[dT];exact h)];exact(dL p _ vs).bind λ_=>CX p l
  |_=>exact .fail
 |nilc x=>
  refine bL λt=>?_
  cases t with
  |ptr p vs=>exact(dL p _ vs).bind λ_=>cj d rfl
  |ip cs=>exact cj d rfl
  |fn f cap=>exact cj d rfl
  |_=>exact .fail
 |fld off a=>
  refine bL λt=>?_
  cases t with
  |ptr p vs=>
   refine(dL p _ vs).bind λ_=>Sim.ite (λh=>?_) λ_=>.fail;rw[oIP (by rw[<- yB];exact h)];exact cj d (by simp only[er,Ca])
  |ip cs=>
   refine Sim.ite (λh=>?_) λ_=>.fail;show Sim _ (if off<(erL cs).length then _ else _) id;rw[oIP (by rw[dT];exact h)];exact cj d (by simp only[er,qI])
  |_=>exact .fail
 |fldv off n x=>
  refine bL λt=>?_
  cases t with
  |agg l=>
   cases n with
   |none=>
    refine Sim.ite (λh=>?_) λ_=>.fail;show Sim _ (if off<(erL l).length then _ else _) id;rw[oIP (by rw[dT];exact h)];exact cj d (qH l off)
   |some n=>
    refine Sim.ite (λh=>?_) λ_=>.fail;show Sim _ (if off+n<=(erL l).length then _ else _) id;rw[oIP (by rw[dT];exact h)];exact cj d (by simp only[er,oG,qI])
  |_=>exact .fail
 |idx sz x i=>
  refine bL λt=>bL λti=>(gM ti).bind λk=>?_
  cases t with
  |pk p vs=>
   refine(dL p _ vs).bind λ_=>(CZ p).bind λt=>?_
   cases t with
   |d tt x=>cases tt with
    |row o t=>cases o with
     |false=>exact .fail
     |true=>
      refine Sim.ite (λh=>?_) λ_=>.fail;refine Sim.get λe he=>?_
      have hk:k<(x:List (den t)).length:=by
       rcases Nat.lt_or_ge k (x:List (den t)).length with h|h
       ·exact h
       ·rw[oGN h]at he;cases he
      show Sim _ (if k<(List.map List.length (List.map (enc t) (x:List (den t)))).length&&(List.map List.length (List.map (enc t) (x:List (den t)))).getD k 0==sz&&decide (0<sz)then _ else _) id;rw[uC,oIP]
      ·exact cj d rfl
      ·simp only[oBA,oDE,beq_iff_eq,List.length_map];refine⟨⟨hk,?_⟩,h.2⟩;rw[oGD,List.getElem?_map,he];simp[dN,h.1]
    |_=>exact .fail
   |gap t x i' o'=>
    refine Sim.ite (λh=>?_) λ_=>.fail;refine Sim.get λe he=>?_
    have hk:k<(x:List (den t)).length:=by
     rcases Nat.lt_or_ge k (x:List (den t)).length with h|h
     ·exact h
     ·rw[oGN h]at he;cases he
    have Rt:(er (.gap t x i' o':XV den)).hd=some (List.map List.length (List.map (enc t) (x:List (den t)))):=uu (hs:=[(i',0,o')]) (by simp);rw[Rt];show Sim _ (if k<(List.map List.length (List.map (enc t) (x:List (den t)))).length&&(List.map List.length (List.map (enc t) (x:List (den t)))).getD k 0==sz&&decide (0<sz)then _ else _) id;rw[uC,oIP]
    ·exact cj d rfl
    ·simp only[oBA,oDE,beq_iff_eq,List.length_map];refine⟨⟨hk,?_⟩,h.2⟩;rw[oGD,List.getElem?_map,he];simp[dN,h.1]
   |half t x m=>
    refine Sim.ite (λh=>?_) λ_=>.fail;subst h;refine Sim.get λe he=>?_
    have hk:k<(x:List (List (den t))).length:=by
     rcases Nat.lt_or_ge k (x:List (List (den t))).length with h|h
     ·exact h
     ·rw[oGN h]at he;cases he
    show Sim _ (if k<(List.map List.length (gO t m x)).length&&(List.map List.length (gO t m x)).getD k 0==1&&decide (0<1)then _ else _) id;rw[wA,oIP]
    ·exact cj d rfl
    ·simp only[oBA,oDE,beq_iff_eq,List.length_map];refine⟨⟨hk,?_⟩,by omega⟩;rw[oGD,List.getElem?_map,he];rfl
   |_=>exact .fail
  |pw p vs sz' lo n=>
   refine(dL p _ vs).bind λ_=>(gN p).bind λt=>?_
   cases t with
   |d tt x=>cases tt with
    |row o t=>cases o with
     |false=>exact .fail
     |true=>
      refine Sim.ite (λh=>?_) λ_=>.fail;refine Sim.br λhb=>Sim.get λe he=>?_;have hb:Nat.blt k n=true:=hb
      have hb:k<n:=by simpa using hb
      have he:(x:List (den t))[lo+k]?=some e:=he;show Sim _ (if k<n&&((List.map (enc t) (x:List (den t))).getD (lo+k) []).length==sz&&sz'==sz&&decide (0<sz)then _ else _) id;rw[oIP]
      ·exact cj d rfl
      ·simp only[oBA,oDE,beq_iff_eq];refine⟨⟨⟨hb,?_⟩,h.2.2⟩,h.2.1⟩;rw[oGD,List.getElem?_map,he];simp[dN,h.1]
    |_=>exact .fail
   |_=>exact .fail
  |d tt x=>cases tt with
   |row o t=>cases o with
    |true=>exact .fail
    |false=>
     refine Sim.ite (λh=>?_) λ_=>.fail;refine Sim.get λe he=>?_;have he:(x:List (den t))[k]?=some e:=he
     have hk:k<(x:List (den t)).length:=by
      rcases Nat.lt_or_ge k (x:List (den t)).length with h|h
      ·exact h
      ·rw[oGN h]at he;cases he
     have hg:(List.map (enc t) (x:List (den t))).getD k []=enc t e:=by
      rw[oGD,List.getElem?_map,he];rfl
     show Sim _ (if k<(List.map (enc t) (x:List (den t))).length&&((List.map (enc t) (x:List (den t))).getD k []).length==sz&&decide (0<sz)then wr d (.ip ((List.map (enc t) (x:List (den t))).getD k []))else _) id;rw[hg,oIP]
     ·exact cj d (by simp only[er,pS])
     ·simp only[oBA,oDE,beq_iff_eq,List.length_map];exact⟨⟨hk,by rw[dN];exact h.1⟩,h.2⟩
   |nilr o=>cases o<;>exact .fail
   |_=>exact .fail
  |_=>exact .fail
 |ext x i=>
  refine bL λt=>?_
  cases t with
  |tup l=>
   refine Sim.ite (λh=>?_) λ_=>.fail;show Sim _ (if i<(erL l).length then _ else _) id;rw[oIP (by rw[dT];exact h)];exact cj d (qH l i)
  |_=>exact .fail
 |bin op x y=>exact bL λa=>bL λb=>Nz d op a b
 |bnb neg x y=>
  refine bL λa=>bL λb=>?_
  cases a with
  |d t a=>cases t with
   |bool=>cases b with
    |d u b=>cases u with
     |bool=>
      show Sim _ (wr d (.v (.bool (if neg then !((a:Bool)==b)else(a:Bool)==b)))) id;refine cj d ?_;cases neg<;>rfl
     |_=>exact .fail
    |_=>exact .fail
   |_=>exact .fail
  |_=>exact .fail
 |eqa ks neg x y=>
  refine bL λa=>bL λb=>?_
  cases a with
  |agg a=>cases b with
   |agg b=>
    simp only[er]
    cases h:X.eqAll bI ks a b with
    |none=>exact .fail
    |some r=>
     obtain⟨vs,ws,h1,h2,h3⟩:=Ki h;show Sim _ ((ig (co (erL a))).bind λxs=>(ig (co (erL b))).bind λys=>(ig (cA ks xs ys)).bind λr=>wr d (.v (.bool (if neg then !r else r)))) id;rw[h1,h2];show Sim _ ((ig (cA ks vs ws)).bind λr=>wr d (.v (.bool (if neg then !r else r)))) id;rw[h3];refine cj d ?_;cases neg<;>rfl
   |_=>exact .fail
  |_=>exact .fail
 |un op x=>
  refine bL λa=>?_
  cases a with
  |d t a=>cases t with
   |bool=>cases op<;>first|exact .fail|exact cj d rfl
   |int k=>cases op<;>first|exact .fail|exact cj d rfl
   |_=>cases op<;>exact .fail
  |_=>cases op<;>exact .fail
 |conv k x=>
  refine bL λa=>?_
  cases a with
  |d t a=>cases t with
   |int k0=>exact cj d rfl
   |_=>exact .fail
  |_=>exact .fail
 |bld z mv parts=>
  refine Sim.ite (λh=>?_) λ_=>.fail;show Sim _ (if(z.map cf).all cq then _ else _) id;rw[oIP (lT h)];refine(pT mv parts).bind λl=>(nE d l).bind λl'=>cj d ?_;simp only[er];rw[AS,oL]
 |bsl sz mv len parts=>
  refine(pT mv _).bind λl=>Sim.ite (λh=>?_) λ_=>.fail;rw[oIP h];refine Sim.opt λv hv=>gX d false ?_;simp only[erL,C9 hv,wJ]
 |mks sz z l c=>
  refine Sim.ite (λh=>?_) λ_=>.fail;simp only[oBA]at h;show Sim _ (if(z.map cf).all cq&&z.length==sz then _ else _) id;rw[oIP (by simp only[oBA];exact⟨lT h.1,h.2⟩)];refine bL λtl=>bL λtc=>(gM tl).bind λn=>(gM tc).bind λm=>Sim.br λhok=>?_;have hok:gk n m sz=true:=hok;rw[oIP (by simpa[gk]using hok)];refine Sim.opt λv hv=>gX d false ?_;simp only[erL,xa hv,oL,id_eq]
 |mki sz z l c=>
  refine Sim.ite (λh=>?_) λ_=>.fail;simp only[oBA]at h;show Sim _ (if(z.map cf).all cq&&z.length==sz then _ else _) id;rw[oIP (by simp only[oBA];exact⟨lT h.1,h.2⟩)];refine bL λtl=>bL λtc=>(gM tl).bind λn=>(gM tc).bind λm=>Sim.br λhok=>?_;have hok:gk n m sz=true:=hok;rw[oIP (by simpa[gk]using hok)];refine Sim.opt λz' hz=>Sim.opt λv hv=>gX d false ?_;simp only[erL,xa hv,xQ hz,oL,id_eq,List.map_map];rfl
 |sla n x hi=>
  refine bL λt=>(rx hi n).bind λh=>Sim.ite (λhn=>?_) λ_=>.fail;refine Sim.br λhok=>?_;have hok:df 0 h n=true:=hok
  have XN:h<=n:=by simp[df]at hok;exact hok
  show Sim _ (if decide (h<=n)&&decide (n<=16777216)then _ else _) id;rw[oIP (by simp only[oBA,oDE];exact⟨XN,hn⟩)]
  cases t with
  |ip cs=>
   refine Sim.ite (λhc=>?_) λ_=>.fail;simp only[oBA,oDE]at hc
   have hv:(erL cs).all JY=true:=by
    rw[List.all_eq_true];intro t ht;rw[gQ]at ht;obtain⟨y,hy,rfl⟩:=List.mem_map.1 ht;exact JX (List.all_eq_true.1 hc.2 y hy)
   have hl:(erL cs).length=n:=by rw[gQ,List.length_map];exact hc.1
   show Sim _ (if decide ((erL cs).length=n)&&(erL cs).all JY then _ else _) id;rw[oIP (by rw[hv,oDT hl];rfl)];refine Sim.opt λv h1=>Sim.opt λv2 h2=>?_;have e1:=pB h2;rw[C9 h1,fH,wJ,Fa _ hl,List.map_map]at e1;have e2:((λe:List TV=>e.map TV.imm) ∘ λc=>[c])=λc=>[c.imm]:=rfl;rw[e2]at e1
   have e3:(erL cs).map (λc=>[c.imm])=(erL cs).map λc=>[c]:=List.map_congr_left λc Zp=>by rw[JW (List.all_eq_true.1 hv c Zp)]
   rw[e3]at e1
   cases v2 with
   |d tt xs=>cases tt with
    |row o t=>cases o with
     |true=>exact .fail
     |false=>
      refine cj d ?_;have e4:TV.sl (List.map (enc t) (xs:List (den t)))=.sl ((erL cs).map λc=>[c]):=e1
      injection e4 with e4
      show TV.sl (List.map (enc t) ((List.drop 0 (xs:List (den t))).take h))=_;rw[List.drop_zero,List.map_take,e4];rfl
    |_=>exact .fail
   |_=>exact .fail
  |_=>exact .fail
 |slc sz x lo hi=>
  refine bL λt=>(pU t).bind λn=>(rx lo 0).bind λl=>(rx hi n).bind λh=>Sim.br λhok=>?_;have hok:df l h n=true:=hok;rw[oIP (by simpa[df]using hok)]
  cases t with
  |d tt x=>cases tt with
   |row o t=>cases o with
    |true=>exact .fail
    |false=>
     refine Sim.ite (λhs=>?_) λ_=>.fail;show Sim _ (if(List.map (enc t) (x:List (den t))).all (λe=>e.length==sz)then _ else _) id;rw[oIP (by rw[<- hs];exact mN t x)];refine cj d ?_;show TV.sl (List.map (enc t) ((List.drop l (x:List (den t))).take (h-l)))=_;rw[List.map_take,List.map_drop];rfl
   |nilr o=>cases o with
    |false=>
     show Sim _ (if([]:List (List TV)).all (λe=>e.length==sz)then wr d (.sl ((([]:List (List TV)).drop l).take (h-l)))else _) id;rw[oIP (by rfl)];exact cj d (by simp[er,er1])
    |true=>exact gX d false rfl
   |_=>exact .fail
  |pk p vs=>
   refine(gN p).bind λt=>?_
   cases t with
   |d tt x=>cases tt with
    |row o t=>cases o with
     |false=>exact .fail
     |true=>
      refine Sim.ite (λhs=>?_) λ_=>.fail;show Sim _ (if(List.map (enc t) (x:List (den t))).all (λe=>e.length==sz)then _ else _) id;rw[oIP (by rw[<- hs];exact mN t x)];exact cj d rfl
    |nilr o=>cases o with
     |false=>exact .fail
     |true=>
      show Sim _ (if([]:List (List TV)).all (λe=>e.length==sz)then _ else _) id;rw[oIP (by rfl)];exact cj d rfl
    |_=>exact .fail
   |_=>exact .fail
  |pw p vs sz' lo' n'=>
   refine Sim.ite (λhs=>?_) λ_=>.fail;show Sim _ (if sz'=sz then _ else _) id;rw[oIP hs];exact cj d rfl
  |_=>exact .fail
 |apz sz bytes z s x=>
  refine Sim.ite (λh=>?_) λ_=>.fail;simp only[oBA]at h;show Sim _ (if(z.map cf).all cq&&z.length==sz then _ else _) id;rw[oIP (by simp only[oBA];exact⟨lT h.1,h.2⟩)];refine bL λts=>bL λtx=>(gM tx).bind λn=>(eu true ts).bind λs=>Sim.opt λv hv=>?_;have h:=Fu (Y:=Y) d sz bytes (b9 HT d) s v
  have e:IU d sz bytes (er s) (.ow (List.replicate n (z.map cf)))=(match er s,er v with
   |.ow c,.ow c2=>if(c++c2).all (λe=>e.length==sz)&&decide (c.length+c2.length<=1099511627776)&&decide ((c.length+c2.length)*bytes<=140737488355328)then inst d false [.ow (c++c2)]else .fail
   |.ow c,.sl c2=>if(c++c2).all (λe=>e.length==sz)&&decide (c.length+c2.length<=1099511627776)&&decide ((c.length+c2.length)*bytes<=140737488355328)then inst d false [.ow (c++c2)]else .fail
   |_,_=>.fail):=by
   rw[xa hv,oL];rfl
  rw[id_eq,e];exact h
 |del sz s x=>
  refine bL λts=>bL λtx=>?_
  cases ts with
  |pw p vs s1 l1 k=>cases tx with
   |pw p2 vs2 s2 lo m=>
    refine Sim.ite (λhc=>?_) λ_=>.fail
    refine(show Sim _ (if(erP p).hops.isEmpty&&(erP p2).hops.isEmpty&&(erP p2).root==(erP p).root&&(erP p2).off==(erP p).off&&vs2==vs&&s1==sz&&s2==sz then(take1 true (er (.pk p vs))).bind λt=>match t with
     |.ow c=>if c.all (λe=>e.length==sz)&&decide (l1<=0)&&decide (k<=lo)&&decide (lo+m<=c.length)then inst d false [(TV.ow (c.take k++(c.drop lo).take m)).imm]else .fail
     |_=>.fail
     else .fail) id from ?_)
    rw[oIP (by simpa[erP]using hc)];refine(eu true (.pk p vs)).bind λt=>?_
    cases t with
    |d tt xs=>cases tt with
     |row o t=>cases o with
      |true=>
       refine Sim.ite (λhsz=>Sim.br λh1=>Sim.br λh2=>Sim.br λh3=>Sim.opt λv hv=>?_) λ_=>.fail;have h1:df l1 0 k=true:=h1;have h2:df k lo (lo+m)=true:=h2;have h3:df lo (lo+m) (List.length xs)=true:=h3;simp only[df,oBA,oDE]at h1 h2 h3;have VX:=pB hv;refine(show Sim _ (if(List.map (enc t) (xs:List (den t))).all (λe=>e.length==sz)&&decide (l1<=0)&&decide (k<=lo)&&decide (lo+m<=(List.map (enc t) (xs:List (den t))).length)then inst d false [(TV.ow ((List.map (enc t) (xs:List (den t))).take k++((List.map (enc t) (xs:List (den t))).drop lo).take m)).imm]else .fail) id from ?_);have hal:=mN t xs;rw[hsz]at hal;rw[oIP (by rw[hal,oDT h1.1,oDT h2.1,oDT (show lo+m<=(List.map (enc t) (xs:List (den t))).length by rw[List.length_map];exact h3.2)];rfl)];refine gX d false ?_;simp only[erL,VX];show[(TV.ow (List.map (enc t) (List.append ((List.drop 0 xs).take k) ((List.drop lo xs).take m)))).imm]=_;rw[List.drop_zero,<- List.map_take,<- List.map_drop,<- List.map_take,<- List.map_append];rfl
      |false=>exact .fail
     |_=>exact .fail
    |_=>exact .fail
   |_=>exact .fail
  |_=>exact .fail
 |app sz bytes mv fl s x=>
  refine bL λts=>bL λtx=>?_
  have hn:wy (er tx)=X.isNameX tx:=by
   cases tx with
   |d t y=>cases t with
    |row o t=>cases o<;>rfl
    |nilr o=>cases o<;>rfl
    |_=>rfl
   |_=>rfl
  rw[hn]
  cases hc:(fl && !mv&&X.isNameX tx)with
  |true=>
   simp only[if_true];refine(wg tx).bind λc2=>?_;refine Sim.ite (λhf=>?_) λ_=>.fail
   have hV:(E2 c2).all (λe=>e.all isV)=true:=by
    cases c2 with
    |d t y=>cases t with
     |row o t=>
      have hf:X.flatT t=true:=hf;cases o<;>show(List.map (enc t) (y:List (den t))).all (λe=>e.all isV)=true
      all_goals
       rw[List.all_map,List.all_eq_true];intro z _;exact Ht hf z
     |nilr o=>cases o<;>rfl
     |_=>rfl
    |gap=>cases hf
    |half=>cases hf
    |_=>rfl
   rw[oIP hV];refine(eu true ts).bind λs=>?_;have h:=Fu (Y:=Y) d sz bytes (b9 HT d) s c2
   have e:IU d sz bytes (er s) (.sl (E2 c2))=(match er s,er c2 with
    |.ow c,.ow c2=>if(c++c2).all (λe=>e.length==sz)&&decide (c.length+c2.length<=1099511627776)&&decide ((c.length+c2.length)*bytes<=140737488355328)then inst d false [.ow (c++c2)]else .fail
    |.ow c,.sl c2=>if(c++c2).all (λe=>e.length==sz)&&decide (c.length+c2.length<=1099511627776)&&decide ((c.length+c2.length)*bytes<=140737488355328)then inst d false [.ow (c++c2)]else .fail
    |_,_=>.fail):=by
    unfold IU
    cases c2 with
    |d t y=>cases t with
     |row o t=>cases o<;>cases er s<;>rfl
     |nilr o=>cases o<;>cases er s<;>rfl
     |_=>simp[X.flatRow]at hf
    |_=>simp[X.flatRow]at hf
   rw[e];exact h
  |false=>
   simp only[Bool.false_eq_true,if_false];exact(eu true ts).bind λs=>(eu mv tx).bind λx=>Fu d sz bytes _ s x
 |len x=>exact bL λt=>(pU t).bind λn=>cj d rfl
 |lens x=>
  refine bL λt=>?_
  cases t with
  |d t s=>cases t with
   |str=>exact cj d rfl
   |_=>exact .fail
  |_=>exact .fail
 |ixs x i=>
  refine bL λt=>bL λti=>(gM ti).bind λk=>?_
  cases t with
  |d t s=>cases t with
   |str=>
    intro σ kk y hk;obtain⟨b,h1,h2⟩:=bO (show(FF s k).bind _=some y from hk);unfold FF at h1;obtain⟨c,h3,h4⟩:=ge h1;have h3:(s:ByteArray)[k]?=some c:=h3;have:=cj (Y:=Y) d (t:=.d (.int .u8) b) (t':=.v (.int .u8 c.toNat)) (by rw[<- h4];rfl) σ kk y h2;show ∃a σ',(match(s:ByteArray)[k]? with|some b=>wr d (.v (.int .u8 b.toNat))|none=>.fail).run (erS σ)=_/\lK σ σ' ((match(s:ByteArray)[k]? with|some b=>wr d (.v (.int .u8 b.toNat))|none=>.fail).foot (erS σ))/\_;rw[h3];exact this
   |_=>exact .fail
  |_=>exact .fail
 |mm mx xs=>
  refine(CY (λx=>(ms x).bind λt=>F6 t) xs).bind λl=>?_
  cases l with
  |nil=>exact .fail
  |cons t r=>cases t with
   |d t a=>cases t with
    |int k=>
     simp only[List.map_cons,OV]
     cases h:X.mmAll bI mx k a r with
     |none=>exact .fail
     |some m=>simp only[JQ h];exact cj d rfl
    |_=>exact .fail
   |_=>exact .fail
 |mkf f caps=>
  refine(CY (λx=>(ms x).bind λt=>Ge t) caps).bind λl=>cj d ?_;simp only[er,gQ]
 |idxa n sz x i=>
  refine bL λt=>bL λti=>(gM ti).bind λk=>?_
  cases t with
  |ptr p vs=>
   refine(dL p _ vs).bind λ_=>Gd _ n _ 0 λj Vc hj hk=>Sim.ite (λh=>?_) λ_=>.fail;subst hk;simp only[id_eq];rw[oIP (by rw[<- yB];simp only[oBA,oDE];exact⟨by omega,h⟩)];exact cj d (by simp only[er,Ca])
  |_=>exact .fail
 |s2b x=>
  refine bL λt=>?_
  cases t with
  |d t s=>cases t with
   |str=>
    refine Sim.br λh=>?_;have h:decide ((s:ByteArray).size<4294967296)=true:=h;show Sim _ (if(s:ByteArray).size<4294967296 then wr d (.sl (om s))else .fail) id;rw[oIP (by simpa using h)];refine cj d ?_;show TV.sl (List.map (enc (.int .u8)) (Lv s))=_;simp[Lv,om,enc]
   |_=>exact .fail
  |_=>exact .fail
 |emp x=>exact bL λt=>(pU t).bind λn=>gX d false rfl
 |b2s x=>
  refine bL λt=>(eu false t).bind λt'=>?_
  cases t' with
  |d t c=>cases t with
   |row o t=>cases o with
    |false=>cases t with
     |int k=>cases k with
      |u8=>
       intro σ kk y hk;have hk:X.wr bI d (.d .str (mK c)) σ kk=some y:=hk
       have hb:bstr (List.map (enc (.int .u8)) (c:List Int))=some (mK c):=by
        have:wa (List.map (enc (.int .u8)) (c:List Int))=some c:=by
         have h9:∀l:List Int,wa (List.map (enc (.int .u8)) l)=some l:=by
          intro l
          induction l with
          |nil=>rfl
          |cons x l ih=>
           show Option.map (x :: ·) (wa (List.map (enc (.int .u8)) l))=_;rw[ih];rfl
         exact h9 c
        simp only[bstr,this];rfl
       have:=cj (Y:=Y) d (t:=.d .str (mK c)) (t':=.v (.string (mK c))) rfl σ kk y hk;show ∃a σ',((ig (bstr (List.map (enc (.int .u8)) (c:List Int)))).bind λs=>wr d (.v (.string s))).run (erS σ)=_/\lK σ σ' (((ig (bstr (List.map (enc (.int .u8)) (c:List Int)))).bind λs=>wr d (.v (.string s))).foot (erS σ))/\_;rw[hb];exact this
      |_=>exact .fail
     |_=>exact .fail
    |true=>exact .fail
   |_=>exact .fail
  |_=>exact .fail
 |cpy sz x y=>
  refine bL λt=>bL λu=>(wg u).bind λc2=>?_
  cases t with
  |pk p vs=>
   refine(dL p _ vs).bind λ_=>Sim.rdC λtv=>?_;exact KI d sz p 0 none tv c2
  |pw p vs sz' lo n=>
   refine Sim.ite (λhs=>?_) λ_=>.fail;refine(dL p _ vs).bind λ_=>Sim.rdC λtv=>?_;have:=KI (Y:=Y) d sz p lo (some n) tv c2;simp only[oIP hs];exact this
  |_=>exact .fail
 |call k f args=>exact .fail
end
theorem yJ:∀(hs:List (Unit×Nat×Nat))(hs':List (den .nat×Nat×Nat))(r:List CT)(h:HL den r)(h':HL den (BR hs r)),Ci hs hs' r h=some h'->(uJ hs r h').1=hs'/\(uJ hs r h').2=h
 | [],[],_,_,_,hc=>by
  injection hc with hc
  exact⟨rfl,hc.symm⟩
 | [],_::_,_,_,_,hc=>by cases hc
 |_::_,[],_,_,_,hc=>by cases hc
 |(_,sz,o)::hs,(i,sz',o')::hs',r,h,h',hc=>by
  have hc:(if sz=sz'/\o=o' then(Ci hs hs' r h).map λh1=>((i,h1):den .nat×HL den (BR hs r))else none)=some h':=hc;by_cases hb:sz=sz'/\o=o'
  ·rw[oIP hb]at hc;obtain⟨h1,h2,h3⟩:=Option.map_eq_some_iff.1 hc;obtain⟨e1,e2⟩:=yJ hs hs' r h h1 h2;subst h3;refine⟨?_,e2⟩;show(i,sz,o)::(uJ hs r h1).1=(i,sz',o')::hs';rw[e1,hb.1,hb.2]
  ·rw[oIN hb]at hc;cases hc
theorem NU{p:XP λ_=>Unit}{q:XP den}(h:KQ p q=true):erP (Ps p)=erP q:=by
 simp[KQ]at h;have ⟨⟨⟨h1,h2⟩,h3⟩,h4⟩:=h;have ⟨r,o,hs⟩:=q
 cases hs with
 |nil=>simp[Ps,h1,h2]
 |cons=>simp[XP.bare]at h4
theorem Kf{x y:Value}(h:H7 x y=true):x=y:=by
 unfold H7 at h
 grind
mutual
theorem Ih:(s:Sh)->(x:XV den)->(r:List CT)->(h:HL den r)->(h':HL den (lv s r))->conv bI s x r h=some h'->er (fill s r h').1=er x/\(fill s r h').2=h
 |.d u z,x,r,h,h',hc=>by
  cases x with
  |d t y=>
   have hc:(asT bI t u y).map (λw=>(w,h))=some h':=hc;obtain⟨w,h1,h2⟩:=ge hc
   have e1:h'.1=w:=by rw[<- h2]
   have e2:h'.2=h:=by rw[<- h2]
   refine⟨?_,e2⟩;show er1 u h'.1=er1 t y;rw[e1];exact AT h1
  |_=>exact absurd (show(none:Option (HL den _))=some h' from hc) (by simp)
 |.k z,x,r,h,h',hc=>by
  cases x with
  |k y=>
   have hc:(if H7 z y then some h else none)=some h':=hc;by_cases hb:H7 z y=true
   ·rw[oIP hb]at hc
    injection hc with hc
    rw[Kf hb];exact⟨rfl,hc.symm⟩
   ·rw[oIN hb]at hc;cases hc
  |_=>exact absurd (show(none:Option (HL den _))=some h' from hc) (by simp)
 |.dead,x,r,h,h',hc=>by
  cases x with
  |dead=>
   have hc:some h=some h':=hc
   injection hc with hc
   exact⟨rfl,hc.symm⟩
  |_=>exact absurd (show(none:Option (HL den _))=some h' from hc) (by simp)
 |.ptr p vs,x,r,h,h',hc=>by
  cases x with
  |ptr q ws=>
   have hc:(if p.root==q.root&&p.off==q.off&&vs==ws then Ci p.hops q.hops r h else none)=some h':=hc;by_cases hb:(p.root==q.root&&p.off==q.off&&vs==ws)=true
   ·rw[oIP hb]at hc;simp only[oBA,beq_iff_eq]at hb;obtain⟨h1,h2⟩:=yJ _ _ _ _ _ hc;refine⟨?_,h2⟩;show TV.ptr ⟨p.root,p.off,(uJ p.hops r h').1⟩ vs=TV.ptr ⟨q.root,q.off,q.hops⟩ ws;rw[h1,hb.1.1,hb.1.2,hb.2]
   ·rw[oIN hb]at hc;cases hc
  |_=>exact absurd (show(none:Option (HL den _))=some h' from hc) (by simp)
 |.pk p vs,x,r,h,h',hc=>by
  cases x with
  |pk q ws=>
   have hc:(if p.root==q.root&&p.off==q.off&&vs==ws then Ci p.hops q.hops r h else none)=some h':=hc;by_cases hb:(p.root==q.root&&p.off==q.off&&vs==ws)=true
   ·rw[oIP hb]at hc;simp only[oBA,beq_iff_eq]at hb;obtain⟨h1,h2⟩:=yJ _ _ _ _ _ hc;refine⟨?_,h2⟩;show TV.pk ⟨p.root,p.off,(uJ p.hops r h').1⟩ vs=TV.pk ⟨q.root,q.off,q.hops⟩ ws;rw[h1,hb.1.1,hb.1.2,hb.2]
   ·rw[oIN hb]at hc;cases hc
  |_=>exact absurd (show(none:Option (HL den _))=some h' from hc) (by simp)
 |.pw p vs sz lo n,x,r,h,h',hc=>by cases x<;>exact absurd (show(none:Option (HL den _))=some h' from hc) (by simp)
 |.gap t _ _ o,x,r,h,h',hc=>by
  cases x with
  |gap t' y i o'=>
   have hc:(if o=o' then(asT bI (.row true t') (.row true t) y).map λy=>(y,i,h)else none)=some h':=hc;by_cases hb:o=o'
   ·subst hb;rw[oIP rfl]at hc;obtain⟨z,h1,rfl⟩:=ge hc;refine⟨?_,rfl⟩;show eE (er1 (.row true t) z) [(i,0,o)] .dead=eE (er1 (.row true t') y) [(i,0,o)] .dead;rw[AT h1]
   ·rw[oIN hb]at hc;cases hc
  |_=>exact absurd (show(none:Option (HL den _))=some h' from hc) (by simp)
 |.half t _ _,x,r,h,h',hc=>by
  cases x with
  |half t' y m=>
   have hc:(if e:mF t' t=true then some (lh e▸y,m,h)else none:Option (HL den (.row true (.row true t) :: .nat::r)))=some h':=hc;by_cases hb:mF t' t=true
   ·have e:=lh hb;subst e;rw[dif_pos hb]at hc
    injection hc with hc
    subst hc;exact⟨rfl,rfl⟩
   ·rw[dif_neg hb]at hc;cases hc
  |_=>exact absurd (show(none:Option (HL den _))=some h' from hc) (by simp)
 |.ip l,x,r,h,h',hc=>by
  cases x with
  |ip l'=>
   have:=lj l l' r h h' hc;exact⟨congrArg TV.ip this.1,this.2⟩
  |_=>exact absurd (show(none:Option (HL den _))=some h' from hc) (by simp)
 |.agg l,x,r,h,h',hc=>by
  cases x with
  |agg l'=>
   have:=lj l l' r h h' hc;exact⟨congrArg TV.agg this.1,this.2⟩
  |_=>exact absurd (show(none:Option (HL den _))=some h' from hc) (by simp)
 |.tup l,x,r,h,h',hc=>by
  cases x with
  |tup l'=>
   have:=lj l l' r h h' hc;exact⟨congrArg TV.tup this.1,this.2⟩
  |_=>exact absurd (show(none:Option (HL den _))=some h' from hc) (by simp)
 |.fn f l,x,r,h,h',hc=>by
  cases x with
  |fn f' l'=>
   have hc:(if f=f' then s9 bI l l' r h else none)=some h':=hc;by_cases hb:f=f'
   ·subst hb;rw[oIP rfl]at hc;have:=lj l l' r h h' hc;exact⟨congrArg (TV.fn f) this.1,this.2⟩
   ·rw[oIN hb]at hc;cases hc
  |_=>exact absurd (show(none:Option (HL den _))=some h' from hc) (by simp)
theorem lj:(s:List Sh)->(x:List (XV den))->(r:List CT)->(h:HL den r)->(h':HL den (lvL s r))->s9 bI s x r h=some h'->erL (gP s r h').1=erL x/\(gP s r h').2=h
 | [],x,r,h,h',hc=>by
  cases x with
  |nil=>
   have hc:some h=some h':=hc
   injection hc with hc
   exact⟨rfl,hc.symm⟩
  |cons=>exact absurd (show(none:Option (HL den _))=some h' from hc) (by simp)
 |s::ss,x,r,h,h',hc=>by
  cases x with
  |nil=>exact absurd (show(none:Option (HL den _))=some h' from hc) (by simp)
  |cons x xs=>
   have hc:(s9 bI ss xs r h).bind (λh1=>conv bI s x (lvL ss r) h1)=some h':=hc;obtain⟨h1,Zg,Zp⟩:=bO hc;obtain⟨e1,e2⟩:=lj ss xs r h h1 Zg;obtain⟨e3,e4⟩:=Ih s x (lvL ss r) h1 h' Zp;have e5:gP (s::ss) r h'=((fill s (lvL ss r) h').1::(gP ss r (fill s (lvL ss r) h').2).1,(gP ss r (fill s (lvL ss r) h').2).2):=rfl;rw[e5,e4];refine⟨?_,e2⟩;show er _::erL _=er x::erL xs;rw[e3,e1]
end
theorem yI:∀{s:List (Nat×List Sh)}{x:List (Nat×List (XV den))}{r:List CT}{h:HL den r}{h':HL den (lvP s r)},X.convP bI s x r h=some h'->erC (qG s r h').1=erC x/\(qG s r h').2=h:=by
 intro s
 induction s with
 |nil=>
  intro x r h h' hc
  cases x with
  |nil=>
   have hc:some h=some h':=hc
   injection hc with hc
   exact⟨rfl,hc.symm⟩
  |cons=>exact absurd (show(none:Option (HL den _))=some h' from hc) (by simp)
 |cons s ss ih=>
  intro x r h h' hc
  cases x with
  |nil=>exact absurd (show(none:Option (HL den _))=some h' from hc) (by simp)
  |cons x xs=>
   have hc:(if s.1=x.1 then(X.convP bI ss xs r h).bind (λh1=>s9 bI s.2 x.2 (lvP ss r) h1)else none)=some h':=hc;by_cases hk:s.1=x.1
   ·rw[oIP hk]at hc
    ·obtain⟨h1,Zg,hc⟩:=bO hc;obtain⟨e1,e2⟩:=ih Zg;obtain⟨e3,e4⟩:=lj s.2 x.2 (lvP ss r) h1 h' hc;have e5:qG (s::ss) r h'=((s.1,(gP s.2 (lvP ss r) h').1)::(qG ss r (gP s.2 (lvP ss r) h').2).1,(qG ss r (gP s.2 (lvP ss r) h').2).2):=rfl;rw[e5,e4];refine⟨?_,e2⟩;show(s.1,erL _)::erC _=(x.1,erL x.2)::erC xs;rw[e3,e1,hk]
   ·rw[oIN hk]at hc;cases hc
theorem Km:∀{s:List (Nat×Sh)}{x:List (Nat×XV den)}{r:List CT}{h:HL den r}{h':HL den (lvT s r)},X.convT bI s x r h=some h'->(yA s r h').1.map (λx=>(x.1,er x.2))=x.map (λx=>(x.1,er x.2))/\(yA s r h').2=h:=by
 intro s
 induction s with
 |nil=>
  intro x r h h' hc
  cases x with
  |nil=>
   have hc:some h=some h':=hc
   injection hc with hc
   exact⟨rfl,hc.symm⟩
  |cons=>exact absurd (show(none:Option (HL den _))=some h' from hc) (by simp)
 |cons s ss ih=>
  intro x r h h' hc
  cases x with
  |nil=>exact absurd (show(none:Option (HL den _))=some h' from hc) (by simp)
  |cons x xs=>
   have hc:(if s.1=x.1 then(X.convT bI ss xs r h).bind (λh1=>conv bI s.2 x.2 (lvT ss r) h1)else none)=some h':=hc;by_cases hk:s.1=x.1
   ·rw[oIP hk]at hc
    ·obtain⟨h1,Zg,hc⟩:=bO hc;obtain⟨e1,e2⟩:=ih Zg;obtain⟨e3,e4⟩:=Ih s.2 x.2 (lvT ss r) h1 h' hc;have e5:yA (s::ss) r h'=((s.1,(fill s.2 (lvT ss r) h').1)::(yA ss r (fill s.2 (lvT ss r) h').2).1,(yA ss r (fill s.2 (lvT ss r) h').2).2):=rfl;rw[e5,e4];refine⟨?_,e2⟩;simp only[List.map_cons];rw[e3,e1,hk]
   ·rw[oIN hk]at hc;cases hc
theorem Gu:∀{a b:List (Key×Nat)},X.sameVr a b=true->a=b:=by
 intro a
 induction a with
 |nil=>intro b h;cases b with|nil=>rfl|cons=>simp[X.sameVr]at h
 |cons x a ih=>
  intro b h
  cases b with
  |nil=>simp[X.sameVr]at h
  |cons y b=>
   simp only[X.sameVr,oBA,beq_iff_eq]at h;obtain⟨⟨h1,h2⟩,h3⟩:=h;rw[ih h3];obtain⟨a1,a2⟩:=x;obtain⟨b1,b2⟩:=y;simp only at h1 h2;rw[h1,h2]
theorem yH{s:Shs}{σ:XS den}{u:HL den []}{h:HL den (lvS s)}(hc:X.convS bI s σ u=some h):erS (B8 s h)=erS σ:=by
 unfold X.convS at hc;by_cases hv:X.sameVr s.vr σ.vr=true
 ·rw[oIP hv]at hc;obtain⟨h1,Zg,hc⟩:=bO hc;obtain⟨e1,e2⟩:=yI Zg;obtain⟨e3,e4⟩:=Km hc;unfold erS B8;simp only;rw[e3,e4,e1,Gu hv]
 ·rw[oIN hv]at hc;cases hc
theorem Ay{c:Ctr}{vals:List (XV den)}{pts:List (Nat×List (XV den))}{u:HL den []}{h:HL den (lvL c.ins (lvP c.pts []))}(hc:X.convIn bI c vals pts u=some h):
 erL (gP c.ins _ h).1=erL vals/\erC (qG c.pts [] (gP c.ins _ h).2).1=erC pts:=by
 unfold X.convIn at hc;obtain⟨h1,Zg,hc⟩:=bO hc;obtain⟨e1,e2⟩:=yI Zg;obtain⟨e3,e4⟩:=lj _ _ _ _ _ hc;rw[e4];exact⟨e3,e1⟩
theorem Gv:∀{a b:List RSh},X.sameSh a b=true->a=b:=by
 intro a
 induction a with
 |nil=>intro b h;cases b with|nil=>rfl|cons=>simp[X.sameSh]at h
 |cons x a ih=>
  intro b h
  cases b with
  |nil=>cases x<;>simp[X.sameSh]at h
  |cons y b=>
   cases x<;>cases y<;>simp[X.sameSh]at h
   ·rw[ih h]
   ·rw[h.1,ih h.2]
   ·rw[ih h]
theorem MC{cells:List (XV den)}{sh:List RSh}{pts:List (Nat×List (XV den))}{u:HL den []}:∀{outs:List XO}{i:Nat}{h:HL den (xg (outs.map lvO) i)},X.injO bI cells sh pts u outs=some ⟨i,h⟩->∃x,j7 outs i h=some x/\erL x.1=erL cells/\x.2.1=sh/\erC x.2.2=erC pts:=by
 intro outs
 induction outs with
 |nil=>intro i h hc;simp[X.injO]at hc
 |cons o outs ih=>
  intro i h hc;simp only[X.injO]at hc;split at hc
  ·rename_i h1 Zg
   injection hc with hc
   injection hc with h2 h3
   subst h2;have h3:=eq_of_heq h3;subst h3;refine⟨_,rfl,?_⟩;unfold X.convO at Zg;by_cases hs:X.sameSh o.sh sh=true
   ·rw[oIP hs]at Zg;obtain⟨h4,PY,Zg⟩:=bO Zg;obtain⟨e1,e2⟩:=yI PY;obtain⟨e3,e4⟩:=lj _ _ _ _ _ Zg;refine⟨e3,Gv hs,?_⟩;show erC (qG o.pts [] (gP o.cells _ h1).2).1=_;rw[e4];exact e1
   ·rw[oIN hs]at Zg;cases Zg
  ·split at hc
   ·rename_i x hx
    injection hc with hc
    injection hc with h2 h3
    subst h2;have h3:=eq_of_heq h3;subst h3;exact ih hx
   ·simp at hc
theorem MM{a b:iO}(h:X.exEq a b=true):a=b:=by
 cases a<;>cases b<;>simp[X.exEq]at h
 ·rfl
 ·rw[h]
 ·rfl
theorem HI{e:iO}{σ:XS den}{u:HL den []}:∀{outs:List (iO×Shs)}{i:Nat}{h:HL den (xg (outs.map λx=>lvS x.2) i)},X.injE bI e σ u outs=some ⟨i,h⟩->∃x,so outs i h=some x/\x.1=e/\erS x.2=erS σ:=by
 intro outs
 induction outs with
 |nil=>intro i h hc;simp[X.injE]at hc
 |cons o outs ih=>
  intro i h hc;simp only[X.injE]at hc;split at hc
  ·rename_i h1 Zg
   injection hc with hc
   injection hc with h2 h3
   subst h2;have h3:=eq_of_heq h3;subst h3;refine⟨_,rfl,?_⟩;split at Zg
   ·rename_i he;exact⟨MM he,yH Zg⟩
   ·simp at Zg
  ·split at hc
   ·rename_i x hx
    injection hc with hc
    injection hc with h2 h3
    subst h2;have h3:=eq_of_heq h3;subst h3;exact ih hx
   ·simp at hc
theorem uQ{α β:Type}(G:α->β):∀(ls:List (List CT))(o:wS ls)(f:(i:Nat)->HL den (xg ls i)->α),jI ls o (λi h=>G (f i h))=G (jI ls o f):=by
 intro ls
 induction ls with
 |nil=>intro o;cases o
 |cons l ls ih=>
  intro o f
  cases ls with
  |nil=>rfl
  |cons m r=>
   cases o with
   |inl h=>rfl
   |inr o=>exact ih o λi h=>f (i+1) h
theorem wE{α:Type}:∀{ls:List (List CT)}{i:Nat}{h:HL den (xg ls i)}{o:wS ls}(f:(i:Nat)->HL den (xg ls i)->α),rI ls i h=some o->jI ls o f=f i h:=by
 intro ls
 induction ls with
 |nil=>intro i h o f hm;simp[rI]at hm
 |cons l ls ih=>
  intro i h o f hm
  cases ls with
  |nil=>
   cases i with
   |zero=>cases hm;rfl
   |succ i=>simp[rI]at hm
  |cons m r=>
   cases i with
   |zero=>cases hm;rfl
   |succ i=>
    simp only[rI]at hm;obtain⟨o',h1,rfl⟩:=ge hm;exact ih (λi h=>f (i+1) h) h1
def me(F:cI)(c:Ctr):Prop:=∀(h:HL den (lvL c.ins (lvP c.pts [])))(o:wS (c.outs.map lvO))(x:List (XV den)×List RSh×List (Nat×List (XV den))),c.g h=some o->jI (c.outs.map lvO) o (λi ho=>j7 c.outs i ho)=some x ->
 F c.f (erL (gP c.ins _ h).1) (erC (qG c.pts [] (gP c.ins _ h).2).1)=some (⟨erL x.1,x.2.1⟩,erC x.2.2)
section
variable {α β γ δ Y:Type}
theorem Js(x:Option Nat×Opd):Sim (Y:=Y) (X.argV bI x) (argV x) er:=by
 refine bL λt=>?_
 have V5:∀t:XV den,Sim (Y:=Y) (X.bind (X.takeV bI false t) λl=>X.bind (X.optM bI (X.immXL bI l.1)) λl'=>X.ret (X.shapedX l.2 l')) ((takeV false (er t)).bind λl=>.ret (mV l.2 (l.1.map TV.imm))) er:=λt=>
  (nD false t).bind λl=>Sim.opt λl' hl=>.ret (by rw[wl,xQ hl])
 have nil:∀{s:SP TV}(t:CT)(y:den (.row true t)),Sim (Y:=Y) (X.bind (X.takeV bI false (.d (.row true t) y)) λl=>X.bind (X.optM bI (X.immXL bI l.1)) λl'=>X.ret (X.shapedX l.2 l')) s er:=λt y σ k o hk=>by cases hk
 refine Sim.ite (λh=>?_) λh=>?_
 ·have h2:(x.1==some 0&&OZ (er t))=true:=by
   simp only[oBA]at h⊢;refine⟨h.1,?_⟩;have h3:=h.2
   cases t with
   |pk p vs=>rfl
   |d t y=>cases t with
    |nilr o=>cases o with
     |true=>rfl
     |false=>simp[X.isNmX]at h3
    |_=>simp[X.isNmX]at h3
   |_=>simp[X.isNmX]at h3
  rw[oIP h2]
  have h3:X.isNmX t=true:=by
   simp only[oBA]at h;exact h.2
  cases t with
  |pk p vs=>exact .ret rfl
  |d t y=>cases t with
   |nilr o=>cases o with
    |true=>exact(nE 1000000 [.d (.nilr true) y]).bind λl=>.ret (by cases l<;>rfl)
    |false=>simp[X.isNmX]at h3
   |_=>simp[X.isNmX]at h3
  |_=>simp[X.isNmX]at h3
 ·have keep:∀{s:SP TV},OZ (er t)=X.isNmX t->No (er t)=X.isPkX t->Sim (Y:=Y) (X.argV0 bI t) s er->Sim (Y:=Y) (if(x.1.isSome&&X.isPkX t)=true then X.ret t else X.argV0 bI t) (if(x.1==some 0&&OZ (er t))=true then wv (er t)else if(x.1.isSome&&No (er t))=true then .ret (er t)else s) er:=λhe hp hs=>by
   rw[he,oIN h,hp];split
   ·exact .ret rfl
   ·exact hs
  have nk:∀{t:XV den}{s:SP TV},X.isPkX t=false->(∀ σ k (o:Y),X.argV0 bI t σ k≠some o)->Sim (Y:=Y) (if(x.1.isSome&&X.isPkX t)=true then X.ret t else X.argV0 bI t) s er:=λhp hn=>by
   rw[hp,Bool.and_false,oIN (by simp)];exact fun σ k o hk=>absurd hk (hn σ k o)
  cases t with
  |ip cs=>exact keep rfl rfl (.ret rfl)
  |fn f cap=>exact keep rfl rfl (.ret rfl)
  |ptr p vs=>exact keep rfl rfl (.ret rfl)
  |d t y=>cases t with
   |row o t=>cases o with
    |true=>exact nk rfl fun σ k o hk=>by cases hk
    |false=>exact keep rfl rfl (V5 _)
   |nilr o=>cases o<;>exact keep rfl rfl (V5 _)
   |nat=>exact nk rfl fun σ k o hk=>by cases hk
   |pair a b=>exact nk rfl fun σ k o hk=>by cases hk
   |_=>exact keep rfl rfl (V5 _)
  |gap t y i o=>exact nk rfl fun σ k o hk=>by cases hk
  |half t y m=>exact nk rfl fun σ k o hk=>by cases hk
  |_=>exact keep rfl rfl (V5 _)
theorem zl:∀l:List (Option Nat×Opd),Sim (Y:=Y) (X.argVs bI l) (argVs l) erL:=by
 intro l
 induction l with
 |nil=>exact .ret rfl
 |cons x r ih=>exact(Js x).bind λt=>ih.bind λl=>.ret rfl
theorem zg:∀(l:List (Option Nat×XV den))(i:Nat),Sim (Y:=Y) (X.takeOwns bI i l) (takeOwns i (l.map λx=>(x.1,er x.2))) (List.map λx=>(x.1,er x.2)):=by
 intro l
 induction l with
 |nil=>intro i;exact .ret rfl
 |cons x l ih=>
  intro i;have ⟨n,t⟩:=x
  cases n with
  |none=>cases t with
   |d t y=>cases t with
    |row o t=>cases o<;>exact ih (i+1)
    |nilr o=>cases o<;>exact ih (i+1)
    |nat=>exact ih (i+1)
    |pair a b=>exact ih (i+1)
    |_=>exact ih (i+1)
   |_=>exact ih (i+1)
  |some n=>cases n with
   |zero=>cases t with
    |pk p vs=>
     refine(eu true (.pk p vs)).bind λt=>Sim.ite (λh=>?_) λ_=>.fail;have ⟨c,hc⟩:=j6 h
     have h2:kf (er t)=true:=by rw[hc];rfl
     rw[oIP h2];exact(ih (i+1)).bind λq=>.ret rfl
    |d t y=>cases t with
     |row o t=>cases o<;>exact ih (i+1)
     |nilr o=>cases o<;>exact ih (i+1)
     |nat=>exact ih (i+1)
     |pair a b=>exact ih (i+1)
     |_=>exact ih (i+1)
    |_=>exact ih (i+1)
   |succ n=>cases t with
    |d t y=>cases t with
     |row o t=>cases o<;>exact ih (i+1)
     |nilr o=>cases o<;>exact ih (i+1)
     |nat=>exact ih (i+1)
     |pair a b=>exact ih (i+1)
     |_=>exact ih (i+1)
    |_=>exact ih (i+1)
theorem F8(r:Nat):∀(n o:Nat),Sim (Y:=Y) (X.grabB bI r o n) (Ai ⟨r,o,[]⟩ n) erL:=by
 intro n
 induction n with
 |zero=>intro o;exact .ret rfl
 |succ n ih=>
  intro o
  cases n with
  |zero=>
   refine Sim.rdC λt=>(iC ⟨r,o,[]⟩ t).bind λt'=>(eu true t').bind λt2=>?_;exact(Sim.ret (f:=erL) rfl).bind (h:=λl=>.ret (er t2::l)) λl=>.ret rfl
  |succ n=>
   exact Sim.rdC λt=>(iC ⟨r,o,[]⟩ t).bind λt'=>(eu true t').bind λt2=>(ih (o+1)).bind λl=>.ret rfl
theorem Eb(p:XP den):Sim (Y:=Y) (X.rooted bI p) (rooted (erP p)) id:=by
 have ⟨r,off,hops⟩:=p
 cases hops with
 |nil=>exact .ret rfl
 |cons h hs=>
  refine Sim.rdT λt=>?_
  cases t with
  |ptr q ws=>
   refine Sim.ite (λhc=>?_) λ_=>.fail;show Sim _ (if(erP q).root==r&&(erP q).hops.isEmpty then chk (erP q) 0 ws else .fail) id
   have:((erP q).root==r&&(erP q).hops.isEmpty)=true:=by
    simpa[erP]using hc
   rw[oIP this];exact dL q 0 ws
  |_=>exact .fail
def erG(g:XGP den):GP:=⟨g.i,erP g.p,g.vs,erL g.cells⟩
theorem Hy{t:XV den}(h:X.isArgX t=true):oQ (er t)=true:=by
 cases t with
 |ip cs=>rfl
 |fn f cap=>exact xS h
 |agg l=>
  simp only[X.isArgX]at h;simp only[er,oQ,gQ,List.all_map];rw[List.all_eq_true]at h⊢;intro x hx;have:=h x hx;simp at this;simp
  rcases lR this.1 this.2 with⟨y,hy⟩|⟨c,hc⟩
  ·rw[hy]
  ·rw[hc]
 |d t x=>
  by_cases hn:t=.nilr true
  ·subst hn;rfl
  ·have:X.okCellX (.d t x:XV den)=true/\X.isOwX (.d t x:XV den)=false:=by
    cases t with
    |nilr o=>cases o with
     |true=>simp_all
     |false=>simpa[X.isArgX]using h
    |_=>simpa[X.isArgX]using h
   rcases lR this.1 this.2 with⟨y,hy⟩|⟨c,hc⟩
   ·rw[hy];rfl
   ·rw[hc];rfl
 |k x=>rfl
 |_=>simp[X.isArgX,X.okCellX]at h
theorem F7:∀(l:List (Option Nat×XV den))(i:Nat),Sim (Y:=Y) (X.grabs bI i l) (grabs i (l.map λx=>(x.1,er x.2))) (List.map erG):=by
 intro l
 induction l with
 |nil=>intro i;exact .ret rfl
 |cons x l ih=>
  intro i;obtain⟨n,t⟩:=x
  have Y8:(∀m p vs,(n,er t)≠(some m,TV.ptr p vs))->(∀p vs,(n,er t)≠(some 0,TV.pk p vs))->Sim (Y:=Y) (if X.isArgX t then X.grabs bI (i+1) l else X.fail bI) (grabs i (((n,t)::l).map λx=>(x.1,er x.2))) (List.map erG):=by
   intro hne UM;refine Sim.ite (λh=>?_) λ_=>.fail
   have e:grabs i (((n,t)::l).map λx=>(x.1,er x.2))=if oQ (er t)then grabs (i+1) (l.map λx=>(x.1,er x.2))else .fail:=by
    show grabs i ((n,er t)::_)=_
    cases n with
    |none=>rfl
    |some m=>cases he:er t with
     |ptr p vs=>simp_all
     |pk p vs=>cases m with
      |zero=>exact absurd (by rw[he]) (UM p vs)
      |succ m=>rfl
     |_=>cases m<;>rfl
   rw[e,oIP (Hy h)];exact ih (i+1)
  cases n with
  |none=>exact Y8 (by intro m p vs h;cases h) (by intro p vs h;cases h)
  |some m=>cases t with
   |pk p vs=>cases m with
    |zero=>exact ih (i+1)
    |succ m=>exact Y8 (by intro m p vs h;cases h) (by intro p vs h;cases h)
   |ptr p vs=>exact(dL p _ vs).bind λ_=>(Eb p).bind λ_=>Sim.bind (by have:=F8 (Y:=Y) p.root (X.baseXN p m) p.off;have e:MX (erP p) m=X.baseXN p m:=(by have ⟨r,o,hs⟩:=p;cases hs<;>rfl);show Sim _ (Ai (erP p).base (MX (erP p) m)) _;rw[e];exact this) λl1=>(ih (i+1)).bind λq=>.ret rfl
   |d t y=>cases t with
    |row o t=>cases m<;>cases o<;>exact Y8 (by intro m p vs h;cases h) (by intro p vs h;cases h)
    |nilr o=>cases m<;>cases o<;>exact Y8 (by intro m p vs h;cases h) (by intro p vs h;cases h)
    |_=>cases m<;>exact Y8 (by intro m p vs h;cases h) (by intro p vs h;cases h)
   |_=>cases m<;>exact Y8 (by intro m p vs h;cases h) (by intro p vs h;cases h)
theorem FQ(p:XP den):Sim (Y:=Y) (X.touch bI p) (touch (erP p)) id:=Sim.rdC λtv=>FP p.root p.off tv
theorem FT:∀q:List (XGP den),Sim (Y:=Y) (X.rechk bI q) (rechk (q.map erG)) id:=by
 intro q
 induction q with
 |nil=>exact .ret rfl
 |cons g q ih=>exact(dL g.p _ g.vs).bind λ_=>(FQ g.p).bind λ_=>ih
theorem M4(i:Nat)(t:XV den):er (X.argT i t)=argT i (er t):=by
 cases t with
 |d t y=>cases t with
  |row o t=>cases o<;>rfl
  |nilr o=>cases o<;>rfl
  |_=>rfl
 |_=>rfl
theorem Kw:∀(l:List (XV den))(i:Nat),erL (X.argTs i l)=argTs i (erL l):=by
 intro l
 induction l with
 |nil=>intro i;rfl
 |cons t l ih=>intro i;simp[X.argTs,erL,argTs,ih,M4]
theorem EJ{t:XV den}(h:X.isDeadX t=false):Dr (er t)=false:=by
 cases t with
 |d t y=>cases t with
  |row o t=>cases o<;>rfl
  |nilr o=>cases o<;>rfl
  |nat=>simp[X.isDeadX,X.oneT]at h
  |pair a b=>simp[X.isDeadX,X.oneT]at h
  |_=>rfl
 |dead=>simp[X.isDeadX]at h
 |_=>rfl
theorem Bi:∀q:List (XGP den×List (XV den)),Sim (Y:=Y) (X.putBack bI q) (putBack (q.map λx=>(erG x.1,erL x.2))) id:=by
 intro q
 induction q with
 |nil=>exact .ret rfl
 |cons x q ih=>
  have ⟨g,l⟩:=x;refine ih.bind λ_=>Sim.ite (λh=>?_) λ_=>.fail;have ⟨h1,h2,h3⟩:=h;show Sim _ (if(erL l).length=(erL g.cells).length&&(erL l).all λt=>!Dr t then putL (erP g.p) (erL l)else .fail) id;rw[oIP]
  ·exact CX g.p l
  ·simp only[oBA,oDE,dT];refine⟨h1,?_⟩;rw[gQ,List.all_map,List.all_eq_true];intro t ht;have:=List.all_eq_true.1 h3 t ht;simp at this;simp[EJ this]
theorem Gn:∀(sh:List RSh)(l:List (XV den)),erL (X.shapeRX sh l)=ib sh (erL l):=by
 intro sh
 induction sh with
 |nil=>intro l;rfl
 |cons s sh ih=>
  intro l
  cases s with
  |one=>
   simp only[X.shapeRX,erL];rw[ih,Au];cases l<;>rfl
  |agg n=>
   simp only[X.shapeRX,erL,ib,er];rw[ih,oG,qI]
  |ptr=>
   simp[X.shapeRX,erL,ib,er];rw[ih]
theorem zn(sh:List RSh)(l:List (XV den)):er (X.shapeTX sh l)=pV sh (erL l):=by
 unfold X.shapeTX pV;rw[<- Gn]
 cases X.shapeRX sh l with
 |nil=>rfl
 |cons x r=>cases r<;>rfl
theorem F4(dst:Option Nat)(cells:List (XV den))(sh:List RSh):Sim (Y:=Y) (X.landR bI dst cells sh) (landR dst ⟨erL cells,sh⟩) id:=by
 cases dst with
 |none=>exact .ret rfl
 |some d=>exact(nE d cells).bind λl=>cj d (zn sh l)
theorem Hw(sh:List RSh)(cells:List (XV den)):isP ⟨erL cells,sh⟩=X.isPX sh cells:=by
 unfold isP X.isPX
 cases sh with
 |nil=>simp_all
 |cons s sh=>cases s with
  |ptr=>cases cells with
   |nil=>rfl
   |cons t r=>cases t with
    |d t y=>cases t with
     |row o t=>cases o<;>rfl
     |nilr o=>cases o<;>rfl
     |_=>rfl
    |_=>rfl
  |_=>rfl
theorem Ei(t:XV den)(l:List (XV den)):er (X.shapePX t l)=C7 (er t) (erL l):=by
 cases l<;>rfl
theorem F5(dst:Option Nat)(q:List (XGP den))(cells:List (XV den)):Sim (Y:=Y) (X.landP bI dst q cells) (landP dst (q.map erG) (erL cells)) id:=by
 cases dst with
 |none=>exact .ret rfl
 |some d=>
  unfold X.landP;simp only;split
  ·rename_i pl vs l g;refine Sim.ite (λhc=>?_) λ_=>.fail;show Sim _ (if pl.root==2*g.i+2&&(erP g.p).hops.isEmpty then(rdVs (nN g.p.root (g.p.off+pl.off) (erP pl).hops.length)).bind λvs=>wr d (C7 (.ptr ⟨g.p.root,g.p.off+pl.off,(erP pl).hops⟩ vs) (erL l))else .fail) id;rw[oIP (by simpa[erP]using hc)];exact(te _).bind λvs=>cj d (Ei _ l)
  ·exact .fail
theorem Nw(q:List (XGP den))(l:List (Nat×List (XV den))):(q.zip (l.map (·.2))).map (λx=>(erG x.1,erL x.2))=(q.map erG).zip ((erC l).map (·.2)):=by
 induction q generalizing l with
 |nil=>rfl
 |cons g q ih=>
  cases l with
  |nil=>rfl
  |cons x l=>simp[erC,ih]
theorem Hm(z:List (Option Nat×XV den))(i:Nat):lentTo (z.map λx=>(x.1,er x.2)) i=X.lentTo z i:=by
 unfold lentTo X.lentTo;rw[List.getElem?_map]
 cases z[i]? with
 |none=>rfl
 |some x=>
  obtain⟨n,t⟩:=x
  cases n with
  |none=>rfl
  |some n=>cases n with
   |zero=>rfl
   |succ n=>cases t with
    |d t y=>cases t with
     |row o t=>cases o<;>rfl
     |nilr o=>cases o<;>rfl
     |_=>rfl
    |_=>rfl
theorem JM(x:Option Nat×XV den):normA (x.1,er x.2)=((X.normA x).1,er (X.normA x).2):=by
 obtain⟨n,t⟩:=x
 cases n with
 |none=>rfl
 |some n=>cases t with
  |d t y=>cases t with
   |row o t=>cases o<;>rfl
   |nilr o=>cases o<;>rfl
   |_=>rfl
  |_=>rfl
theorem Bj:∀z:List (Option Nat×XV den),Sim (Y:=Y) (X.lendChk bI z) (lendChk (z.map λx=>(x.1,er x.2))) id:=by
 intro z
 induction z with
 |nil=>exact .ret rfl
 |cons x z ih=>
  obtain⟨n,t⟩:=x
  cases n with
  |none=>exact ih
  |some n=>cases n with
   |zero=>exact ih
   |succ k=>cases t with
    |pk p vs=>
     refine(dL p _ vs).bind λ_=>Sim.rdT λt=>?_
     cases t with
     |pk q ws=>
      refine Sim.ite (λhc=>?_) λ_=>.fail;show Sim _ (if p.root=2*k+3/\p.off=0/\(erP p).hops.isEmpty=true/\q.root=2*k+3/\q.off=0/\(erP q).hops.isEmpty=true/\vs=ws then _ else _) id;rw[oIP (by simpa[erP]using hc)];exact ih
     |d t y=>cases t with
      |row o t=>cases o<;>exact .fail
      |nilr o=>cases o<;>exact .fail
      |_=>exact .fail
     |_=>exact .fail
    |d t y=>cases t with
     |row o t=>cases o<;>exact ih
     |nilr o=>cases o<;>exact ih
     |_=>exact ih
    |_=>exact ih
theorem zi(z:List (Option Nat×XV den))(ks:List Nat):∀(ow:List (Nat×XV den))(rs:List (List (XV den))),Sim (Y:=Y) (X.giveBack bI z ks ow rs) (giveBack (z.map λx=>(x.1,er x.2)) ks (ow.map λx=>(x.1,er x.2)) (rs.map erL)) id:=by
 intro ow
 induction ow with
 |nil=>intro rs;exact .ret rfl
 |cons x ow ih=>
  intro rs
  cases rs with
  |nil=>exact .fail
  |cons y rs=>
   refine(ih rs).bind λ_=>?_;show Sim _ (match lentTo (z.map λx=>(x.1,er x.2)) x.1 with|none=>_|some k=>_) id;rw[Hm]
   cases X.lentTo z x.1 with
   |none=>exact .ret rfl
   |some k=>
    cases y with
    |nil=>exact .fail
    |cons v y=>
     cases y with
     |cons v2 y=>exact .fail
     |nil=>
      refine Sim.ite (λhc=>?_) λ_=>.fail;obtain⟨c,hv⟩:=j6 hc.1;show Sim _ (match[er v]with | [.ow c]=>if ks.contains (1000000+x.1)=true/\x.1≠1000000 then(names k [.ow c]).bind λl=>.wrT k (l.headD .dead) (.ret ())else .fail|_=>.fail) id;rw[hv];simp only;rw[oIP hc.2];have h:=nE (Y:=Y) k [v];rw[show erL [v]=[.ow c] by simp[erL,hv]]at h;refine h.bind λl=>?_;rw[show(erL l).headD .dead=er (l.headD .dead) by cases l<;>rfl];exact ru k _
theorem Eh{F:cI}(dst:Option Nat)(f:FuncId)(vals:List (XV den))(q:List (XGP den))(ow:List (Nat×XV den))(z:List (Option Nat×XV den))(u:HL den []):∀(TB:List Ctr),(∀c∈TB,me F c)->Sim (Y:=Y) (X.callTB bI dst f vals q ow z u TB) ((ig (F f (erL vals) ((q.map erG).map (λg=>(2*g.i+2,g.cells))++(ow.map λx=>(x.1,er x.2)).map λx=>(2*x.1+3,[x.2])))).bind λr=>
 if(r.2.map (·.1)).take ((q.map erG).length+(ow.map λx=>(x.1,er x.2)).length)=(q.map erG).map (λg=>2*g.i+2)++(ow.map λx=>(x.1,er x.2)).map (λx=>2*x.1+3)&&(isP r.1||nH r.1.sh r.1.cells.length)then(putBack ((q.map erG).zip (r.2.map (·.2)))).bind λ_=>(giveBack (z.map λx=>(x.1,er x.2)) ((r.2.drop ((q.map erG).length+(ow.map λx=>(x.1,er x.2)).length)).map (·.1)) (ow.map λx=>(x.1,er x.2)) ((r.2.drop (q.map erG).length).map (·.2))).bind λ_=>if isP r.1 then(if(ow.map λx=>(x.1,er x.2)).isEmpty then landP dst (q.map erG) r.1.cells else .fail)else landR dst r.1 else .fail) id:=by
 intro TB
 induction TB with
 |nil=>intro _;exact .fail
 |cons c TB ih=>
  intro YY;have ZW:=ih λc' WT=>YY c' (by simp[WT]);unfold X.callTB
  cases hsel:(if c.f=f then X.convIn bI c vals (q.map (λg=>(2*g.i+2,g.cells))++ow.map λy=>(2*y.1+3,[y.2])) u else none)with
  |none=>exact ZW
  |some h=>
   by_cases hf:c.f=f
   ·rw[oIP hf]at hsel;obtain⟨e1,e2⟩:=Ay hsel;intro σ k y hk;obtain⟨o,ho,hk⟩:=bO (show(c.g h).bind _=some y from hk);rw[uQ (λr=>X.onOut bI r λx=>X.afterC bI dst q ow z x σ k)]at hk
    cases hx:jI (c.outs.map lvO) o (λi ho=>j7 c.outs i ho)with
    |none=>rw[hx]at hk;cases hk
    |some x=>
     rw[hx]at hk;have hk:X.afterC bI dst q ow z x σ k=some y:=hk;have hF:=YY c (by simp) h o x ho hx
     have e3:erC (q.map (λg=>(2*g.i+2,g.cells))++ow.map λy=>(2*y.1+3,[y.2]))=(q.map erG).map (λg=>(2*g.i+2,g.cells))++(ow.map λx=>(x.1,er x.2)).map λx=>(2*x.1+3,[x.2]):=by
      unfold erC;rw[List.map_append,List.map_map,List.map_map,List.map_map,List.map_map];congr 1
     rw[e1,e2,e3,hf]at hF;rw[hF]
     have hE:∀m,(erC x.2.2).drop m=erC (x.2.2.drop m):=λm=>by unfold erC;rw[List.map_drop]
     have hK:∀l:List (Nat×List (XV den)),(erC l).map (·.1)=l.map (·.1):=λl=>by unfold erC;rw[List.map_map];exact List.map_congr_left λ_ _=>rfl
     have hV:∀l:List (Nat×List (XV den)),(erC l).map (·.2)=(l.map (·.2)).map erL:=λl=>by unfold erC;rw[List.map_map,List.map_map];exact List.map_congr_left λ_ _=>rfl
     have Z0:Sim (Y:=Y) (X.afterC bI dst q ow z x) (if((erC x.2.2).map (·.1)).take ((q.map erG).length+(ow.map λx=>(x.1,er x.2)).length)=(q.map erG).map (λg=>2*g.i+2)++(ow.map λx=>(x.1,er x.2)).map (λx=>2*x.1+3)&&(isP ⟨erL x.1,x.2.1⟩||nH x.2.1 (erL x.1).length)then(putBack ((q.map erG).zip ((erC x.2.2).map (·.2)))).bind λ_=>(giveBack (z.map λx=>(x.1,er x.2)) (((erC x.2.2).drop ((q.map erG).length+(ow.map λx=>(x.1,er x.2)).length)).map (·.1)) (ow.map λx=>(x.1,er x.2)) (((erC x.2.2).drop (q.map erG).length).map (·.2))).bind λ_=>if isP ⟨erL x.1,x.2.1⟩then(if(ow.map λx=>(x.1,er x.2)).isEmpty then landP dst (q.map erG) (erL x.1)else .fail)else landR dst ⟨erL x.1,x.2.1⟩else .fail) id:=by
      unfold X.afterC;refine Sim.ite (λhc=>?_) λ_=>.fail
      have h6:(q.map erG).map (λg=>2*g.i+2)=q.map (λg=>2*g.i+2):=by rw[List.map_map];exact List.map_congr_left λ_ _=>rfl
      have h7:(ow.map λx=>(x.1,er x.2)).map (λx=>2*x.1+3)=ow.map (λy=>2*y.1+3):=by rw[List.map_map];exact List.map_congr_left λ_ _=>rfl
      have hC:(decide (((erC x.2.2).map (·.1)).take ((q.map erG).length+(ow.map λx=>(x.1,er x.2)).length)=(q.map erG).map (λg=>2*g.i+2)++(ow.map λx=>(x.1,er x.2)).map (λx=>2*x.1+3))&&(isP ⟨erL x.1,x.2.1⟩||nH x.2.1 (erL x.1).length))=true:=by
       rw[Hw,hK,h6,h7,List.length_map,List.length_map,dT,oDT hc.1,Bool.true_and];exact hc.2
      rw[oIP hC,<- Nw,Hw,hE,hE,hK,hV,List.length_map,List.length_map];refine(Bi _).bind λ_=>(zi z _ ow _).bind λ_=>?_
      cases X.isPX x.2.1 x.1 with
      |true=>
       show Sim (if ow.isEmpty=true then _ else _) (if(ow.map λx=>(x.1,er x.2)).isEmpty=true then _ else _) id;rw[List.isEmpty_map];refine Sim.ite (λh=>?_) λh=>?_
       ·rw[oIP h];exact F5 dst q x.1
       ·rw[oIN h];exact .fail
      |false=>exact F4 dst x.1 x.2.1
     exact Z0 σ k y hk
   ·rw[oIN hf]at hsel;cases hsel
end
section
variable {α β γ δ Y:Type}
theorem zk{F:cI}{TB:List Ctr}(YY:∀c∈TB,me F c)(u:HL den [])(dst:Option Nat)(f:FuncId)(ns:List (Option Nat))(vals:List (XV den)):Sim (Y:=Y) (X.callV bI TB u dst f ns vals) (callV F dst f ns (erL vals)) id:=by
 have ez:∀(ns:List (Option Nat))(vals:List (XV den)),(ns.zip vals).map (λx=>(x.1,er x.2))=ns.zip (erL vals):=by
  intro ns
  induction ns with
  |nil=>intro vals;rfl
  |cons n ns ih=>
   intro vals
   cases vals with
   |nil=>rfl
   |cons v vals=>simp only[List.zip_cons_cons,List.map_cons,erL,ih]
 unfold callV
 have en:(ns.zip (erL vals)).map normA=((ns.zip vals).map X.normA).map λx=>(x.1,er x.2):=by
  rw[<- ez,List.map_map,List.map_map];exact List.map_congr_left λx _=>JM x
 rw[en,<- ez];refine(Bj _).bind λ_=>(zg _ 0).bind λow=>(F7 _ 0).bind λq=>(FT q).bind λ_=>Sim.ite (λh=>?_) λ_=>.fail;rw[oIP]
 ·rw[<- Kw];exact Eh dst f _ q ow (ns.zip vals) u TB YY
 ·rw[List.map_map,List.all_map];simp only[oBA]at h⊢;refine⟨h.1,?_⟩;rw[List.all_eq_true]at h⊢;intro g hg;have:=h.2 g hg;simpa[erG,dT]using this
theorem Ga(dst:Option Nat)(tm:List BxC)(vals:List (XV den))(hok:tm.all X.boxOk=true):Sim (Y:=Y) (X.evBox bI dst tm vals) (evBox dst tm (erL vals)) id:=by
 cases dst with
 |none=>exact .fail
 |some d=>
  have e:erL (tm.map (X.bxX bI vals))=tm.map (bxT (erL vals)):=by
   rw[gQ,List.map_map];refine List.map_congr_left λb hb=>?_;have:=List.all_eq_true.1 hok b hb
   cases b with
   |arg i=>exact qH vals i
   |val x=>
    show er (X.cellX bI x)=.v x;rw[tF];simp[X.boxOk]at this;unfold cf;split
    all_goals simp_all
  show Sim _ ((takeL false (tm.map (bxT (erL vals)))).bind _) id;rw[<- e];exact(lO false _).bind λl=>Sim.new rfl (Sim.rdV λg=>cj d rfl)
theorem CV(x:XV den):Sim (Y:=Y) (X.see1 bI x) (see1 (er x)) er:=by
 cases x with
 |d t y=>cases t with
  |int k=>exact .ret rfl
  |bool=>exact .ret rfl
  |str=>exact .ret rfl
  |nat=>exact .fail
  |row o t=>cases o<;>first|exact .fail|exact .ret rfl
  |nilr o=>cases o<;>exact .ret rfl
  |pair a b=>exact .fail
 |k y=>exact .ret rfl
 |pk p vs=>
  refine(dL p _ vs).bind λ_=>Sim.rdC λtv=>tg λv hv=>?_;refine Sim.ite (λho=>?_) λ_=>.fail;have ⟨c,hc⟩:=j6 ho
  have YL:b7 (er tv) (erP p).hops=some (.ow c):=by rw[<- hc];exact hv
  simp[YL];intro σ k y hk
  cases hi:X.immX bI v with
  |none=>rw[hi]at hk;cases hk
  |some v'=>
   rw[hi]at hk;exact Sim.ret (by rw[pB hi,hc]) σ k y hk
 |_=>exact .fail
theorem Jb:∀l:List (XV den),Sim (Y:=Y) (X.seeL bI l) (seeL (erL l)) erL:=by
 intro l
 induction l with
 |nil=>exact .ret rfl
 |cons t r ih=>exact(CV t).bind λt'=>ih.bind λr'=>.ret rfl
theorem Jc(t:XV den):Sim (Y:=Y) (X.seeA bI t) (seeA (er t)) er:=by
 have Z0:=CV (Y:=Y) t
 cases t with
 |agg l=>exact(Jb l).bind λl'=>.ret rfl
 |ip cs=>exact .ret rfl
 |fn f cap=>
  refine Sim.ite (λh=>?_) λ_=>.fail;show Sim _ (if(erL cap).all zS then .ret (.fn f (erL cap))else .fail) er;rw[oIP (xS h)];exact .ret rfl
 |d t y=>cases t with
  |row o t=>cases o<;>exact Z0
  |nilr o=>cases o<;>exact Z0
  |_=>exact Z0
 |_=>exact Z0
theorem FS:∀l:List Opd,Sim (Y:=Y) (X.seeAs bI l) (seeAs l) erL:=by
 intro l
 induction l with
 |nil=>exact .ret rfl
 |cons x r ih=>exact bL λt=>(Jc t).bind λt'=>ih.bind λl=>.ret rfl
theorem DB{l:List (XV den)}(h:l.all X.flatX=true):(erL l).all A2=true:=by
 rw[gQ,List.all_map,List.all_eq_true];intro x hx;have:=List.all_eq_true.1 h x hx
 cases x with
 |d t y=>cases t<;>first|rfl|simp[X.flatX]at this
 |k y=>exact this
 |_=>simp[X.flatX]at this
theorem Gf{F:cI}(dst:Option Nat)(f:FuncId)(vals:List (XV den))(u:HL den []):∀(TB:List Ctr),(∀c∈TB,me F c)->Sim (Y:=Y) (X.callB bI dst f vals u TB) (callB F dst f (erL vals)) id:=by
 intro TB
 induction TB with
 |nil=>intro _;exact .fail
 |cons c TB ih=>
  intro YY;have ZW:=ih λc' WT=>YY c' (by simp[WT]);unfold X.callB
  cases hsel:(if c.f=f then X.convIn bI c vals [] u else none)with
  |none=>exact ZW
  |some h=>
   by_cases hf:c.f=f
   ·rw[oIP hf]at hsel;obtain⟨e1,e2⟩:=Ay hsel;intro σ k y hk;have ⟨o,ho,hk⟩:=bO (show(c.g h).bind _=some y from hk);rw[uQ (λz=>X.onOut bI z λx=>X.afterB bI dst x σ k)]at hk
    cases hx:jI (c.outs.map lvO) o (λi ho=>j7 c.outs i ho)with
    |none=>rw[hx]at hk;cases hk
    |some x=>
     rw[hx]at hk;have hk:X.afterB bI dst x σ k=some y:=hk;unfold X.afterB at hk;have hF:=YY c (by simp) h o x ho hx;rw[e1,e2,hf]at hF;have hF:F f (erL vals) []=some (⟨erL x.1,x.2.1⟩,erC x.2.2):=hF;unfold callB;rw[hF];show ∃a σ',(if(erC x.2.2).length=0&&(erL x.1).all A2&&nH x.2.1 (erL x.1).length then _ else _:SP Unit).run (erS σ)=_/\lK σ σ' ((if(erC x.2.2).length=0&&(erL x.1).all A2&&nH x.2.1 (erL x.1).length then _ else _:SP Unit).foot (erS σ))/\_;split at hk
     ·rename_i hc;rw[oIP]
      ·cases dst with
       |none=>exact Sim.ret (a:=()) (f:=id) rfl σ k y hk
       |some d=>exact cj d (zn x.2.1 x.1) σ k y hk
      ·simp only[oBA,dT];refine⟨⟨?_,DB hc.2.1⟩,hc.2.2⟩;unfold erC
       simp_all
     ·cases hk
   ·simp_all
theorem EK(zs:List Int):qy (zs.map pA)=some zs:=by
 induction zs with
 |nil=>rfl
 |cons z zs ih=>simp only[List.map_cons,pA,qy]at ih⊢;rw[ih];rfl
theorem tT(dst:Option Nat)(k:Nat)(p:XP den)(vs:List Nat)(m:Nat):Sim (Y:=Y) (X.rowLand bI dst k p vs m) (rowLand dst k (erP p) vs m) id:=by
 cases dst with
 |none=>exact .ret rfl
 |some d=>
  refine Sim.ite (λh=>?_) λh=>?_
  ·show Sim _ (if k=1 then wr d (.tup [])else wr d (.pw (erP p) vs 1 0 m)) id;rw[oIP h];exact cj d rfl
  ·show Sim _ (if k=1 then wr d (.tup [])else wr d (.pw (erP p) vs 1 0 m)) id;rw[oIN h];exact cj d rfl
theorem F9(dst:Option Nat)(k:Nat)(t:XV den):Sim (Y:=Y) (X.evRow bI dst k t) (evRow dst k (er t)) id:=by
 cases t with
 |pk p vs=>
  refine(dL p 1 vs).bind λ_=>?_;obtain⟨r,o,hs⟩:=p
  cases hs with
  |cons h hs=>exact .fail
  |nil=>
   refine Sim.rdC λtv=>?_
   cases tv with
   |d t y=>cases t with
    |row o t=>cases o with
     |false=>exact .fail
     |true=>cases t with
      |int kk=>cases kk with
       |i64=>
        show Sim _ (match qy (List.map pA y)with|some zs=>_|none=>_) id;rw[EK];refine Sim.br λh=>?_;have h:y.length<4611686018427387904:=Nat.le_of_ble_eq_true h;show Sim _ (if y.length<4611686018427387904 then _ else _) id;rw[oIP h];exact Sim.wrC rfl (tT dst k _ vs _)
       |_=>exact .fail
      |_=>exact .fail
    |nilr o=>cases o with
     |false=>exact .fail
     |true=>
      have h:=tT (Y:=Y) dst k ⟨r,o,[]⟩ vs 0;rw[<- th]at h;exact Sim.wrC (by rw[Da];rfl) h
    |_=>exact .fail
   |_=>exact .fail
 |d t y=>cases t with
  |row o t=>cases o<;>exact .fail
  |nilr o=>cases o<;>exact .fail
  |_=>exact .fail
 |_=>exact .fail
theorem My(t:XV den):No (er t)=X.isPkX t:=by
 cases t with
 |d t x=>cases t with
  |row o t=>cases o<;>rfl
  |nilr o=>cases o<;>rfl
  |_=>rfl
 |_=>rfl
theorem Ef(dst:Option Nat)(t ti:XV den):Sim (Y:=Y) (X.evPart bI dst t ti) (evPart dst (er t) (er ti)) id:=by
 cases ti with
 |d tt x=>cases tt with
  |int kk=>cases kk with
   |i64=>
    refine(pU t).bind λn=>(gM (.d (.int .i64) x)).bind λj=>Sim.br λh1=>Sim.br λh2=>Sim.br λh3=>?_;have h1:j<33:=Nat.le_of_ble_eq_true h1;have h2:oct j<n:=Nat.le_of_ble_eq_true h2;have h3:n<1099511627777:=Nat.le_of_ble_eq_true h3;show Sim _ (if j<33 then if oct j<n then if n<1099511627777 then _ else _ else _ else _) id;rw[oIP h1,oIP h2,oIP h3]
    cases dst with
    |none=>exact .fail
    |some d=>
     cases t with
     |pk p vs=>
      refine(gN p).bind λt=>?_
      cases t with
      |d tt y=>cases tt with
       |row o t=>cases o with
        |false=>exact .fail
        |true=>
         refine Sim.ite (λhs=>?_) λ_=>.fail;show Sim _ (if(List.map (enc t) (y:List (den t))).all (λe=>e.length==4)then _ else _) id;rw[oIP (by rw[<- hs];exact mN t y)];exact cj d rfl
       |nilr o=>cases o<;>exact .fail
       |_=>exact .fail
      |_=>exact .fail
     |d tt y=>cases tt with
      |row o t=>cases o<;>exact .fail
      |nilr o=>cases o<;>exact .fail
      |_=>exact .fail
     |_=>exact .fail
   |_=>exact .fail
  |row o t=>cases o<;>exact .fail
  |nilr o=>cases o<;>exact .fail
  |_=>exact .fail
 |_=>exact .fail
theorem Ee(dst:Option Nat)(k:Nat){nx:XM den Option Y Unit}{ny:SP Unit}(hn:Sim nx ny id)(args:List (Option Nat×Opd)):Sim (Y:=Y) (X.evRowA bI dst k nx args) (evRowA dst k ny args) id:=by
 cases args with
 |nil=>exact .fail
 |cons x args=>
  cases args with
  |nil=>
   refine Sim.ite (λ_=>.fail) λhk=>?_;show Sim _ (if k=3 then .fail else(opd x.2).bind (evRow dst k)) id;rw[oIN hk];exact(ms x.2).bind λt=>F9 dst k t
  |cons y args=>
   cases args with
   |nil=>
    refine Sim.ite (λhk=>?_) λ_=>.fail;show Sim _ (if k=3 then(opd x.2).bind λt=>if No t then(opd y.2).bind (evPart dst t)else ny else .fail) id;rw[oIP hk];refine(ms x.2).bind λt=>?_;rw[My];refine Sim.ite (λh=>?_) λh=>?_
    ·rw[oIP h];exact(ms y.2).bind λti=>Ef dst t ti
    ·rw[oIN h];exact hn
   |cons z args=>exact .fail
theorem zj{F:cI}{TB:List Ctr}(YY:∀c∈TB,me F c)(E:Env)(u:HL den [])(dst:Option Nat)(k:Bool)(f:FuncId)(args:List (Option Nat×Opd)):Sim (Y:=Y) (X.evNrm bI E TB u dst k f args) (evNrm E F dst k f args) id:=by
 cases k with
 |false=>exact(FS _).bind λvals=>Gf dst f vals u TB YY
 |true=>
 refine(zl _).bind λvals=>?_
 cases hb:E.box f with
 |none=>exact zk YY u dst f _ vals
 |some x=>
  refine Sim.ite (λh=>?_) λ_=>.fail;show Sim _ (if(erL vals).length=x.1 then evBox dst x.2 (erL vals)else .fail) id;rw[oIP (by rw[dT];exact h.1)];exact Ga dst x.2 vals h.2
theorem Eg{F:cI}{TB:List Ctr}(YY:∀c∈TB,me F c)(E:Env)(u:HL den [])(dst:Option Nat)(op:TOp):Sim (Y:=Y) (X.evCall bI E TB u dst op) (evCall E F dst op) id:=by
 cases op with
 |call k f args=>
  cases f with
  |f f=>
   by_cases hrow:E.row f≠0
   ·have e1:X.evCall (X:=Y) bI E TB u dst (.call k (.f f) args)=X.evRowA bI dst (E.row f) (X.evNrm bI E TB u dst k f args) args:=oIP hrow;have e2:evCall E F dst (.call k (.f f) args)=evRowA dst (E.row f) (evNrm E F dst k f args) args:=oIP hrow;rw[e1,e2];exact Ee dst _ (zj YY E u dst k f args) args
   have e1:X.evCall (X:=Y) bI E TB u dst (.call k (.f f) args)=X.evNrm bI E TB u dst k f args:=oIN hrow;have e2:evCall E F dst (.call k (.f f) args)=evNrm E F dst k f args:=oIN hrow;rw[e1,e2];exact zj YY E u dst k f args
  |t i=>
   refine Sim.rdT λt=>?_
   cases t with
   |fn f caps=>
    refine(zl _).bind λvals=>?_;have:=zk (Y:=Y) YY u dst f (args.map (·.1)++Ir E f args.length caps.length) (vals++caps);rw[oH]at this;show Sim _ (callV F dst f (args.map (·.1)++Ir E f args.length (erL caps).length) (erL vals++erL caps)) id;rw[dT];exact this
   |d t y=>cases t with
    |row o t=>cases o<;>exact .fail
    |nilr o=>cases o<;>exact .fail
    |_=>exact .fail
   |_=>exact .fail
  |c x=>exact .fail
 |_=>exact .fail
theorem F1{F:cI}{C:X.Cfg}(YY:∀c∈C.TB,me F c)(u:HL den [])(dst:Option Nat)(op:TOp):Sim (Y:=Y) (X.evop bI C u dst op) (evop (evCall C.E F) dst op) id:=by
 have Z0:∀d,Sim (Y:=Y) (X.ev1 bI C.HT d op) (ev1 d op) id:=λd=>Ny C.HT d op;have kc:=Eg (Y:=Y) YY C.E u dst op
 cases op with
 |call k f args=>exact kc
 |store n mv a x=>cases dst with
  |none=>exact Z0 0
  |some d=>exact .fail
 |_=>cases dst with
  |none=>exact .fail
  |some d=>exact Z0 d
theorem tS(dst:Option Nat):Sim (Y:=Y) (X.setNo bI dst) (setNo dst) id:=by
 cases dst with
 |none=>exact .ret rfl
 |some d=>exact ru d (.tup [])
theorem Do{σ:XS den}{j:Nat}{b:Bool}(h:X.tOf σ j=.d .bool b):erS (X.known bI j b σ)=erS σ:=by
 have h1:b9 σ.tm j=some (.d .bool b):=by
  unfold X.tOf at h
  cases hg:b9 σ.tm j with
  |none=>simp_all
  |some t=>simp_all
 have:=oq h1;show(⟨(dp σ.tm j (.d .bool b)).map _,erC σ.ce,σ.vr⟩:St)=_;rw[this];rfl
theorem CS{F:cI}{C:X.Cfg}(YY:∀c∈C.TB,me F c)(u:HL den [])(o:gE):Sim (Y:=Y) (X.spOp bI C u o) (spOp (evCall C.E F) o) id:=by
 unfold X.spOp spOp
 cases hg:o.guard with
 |none=>exact F1 YY u o.dst o.op
 |some g=>
  obtain⟨j,want⟩:=g;intro σ k y hk
  cases ht:X.tOf σ j with
  |d t b=>cases t with
   |bool=>
    have hk:(bif b then((if want then X.evop bI C u o.dst o.op else X.setNo bI o.dst) (X.known bI j true (X.lgR (.t j) σ)) k)else((if want then X.setNo bI o.dst else X.evop bI C u o.dst o.op) (X.known bI j false (X.lgR (.t j) σ)) k))=some y:=by
     have hk:X.guardX bI j want (X.evop bI C u o.dst o.op) (X.setNo bI o.dst) (X.tOf σ j) (X.lgR (.t j) σ) k=some y:=hk;rw[ht]at hk;exact hk
    have Z0:∀(m:XM den Option Y Unit)(s:SP Unit),Sim m s id->m (X.known bI j b (X.lgR (.t j) σ)) k=some y->∃a σ',s.run (erS σ)=some (id a,erS σ')/\lK σ σ' (.t j::(s.foot (erS σ)).1,(s.foot (erS σ)).2)/\k a σ'=some y:=by
     intro m s hm h;have e:erS (X.known bI j b (X.lgR (.t j) σ))=erS σ:=Do (σ:=X.lgR (.t j) σ) ht;obtain⟨a,σ',r1,n1,k1⟩:=hm _ k y h;rw[e]at r1 n1;refine⟨a,σ',r1,⟨λx hx=>?_,λx hx=>n1.w x hx,λx hx=>n1.r0 x (by simp[X.known,X.lgR,hx]),λx hx=>n1.w0 x (by simpa[X.known,X.lgR]using hx)⟩,k1⟩;rcases List.mem_cons.1 hx with h|h
     ·exact n1.r0 x (by simp[X.known,X.lgR,h])
     ·exact n1.r x h
    have hst:(erS σ).t j=.v (.bool b):=by rw[Kh,ht];rfl
    have res:∀(s:SP Unit),(if b=want then evop (evCall C.E F) o.dst o.op else setNo o.dst)=s->(∃a σ',s.run (erS σ)=some (id a,erS σ')/\lK σ σ' (.t j::(s.foot (erS σ)).1,(s.foot (erS σ)).2)/\k a σ'=some y)->∃a σ',(SP.rdT j λt=>match t with|.v (.bool b)=>if b=want then evop (evCall C.E F) o.dst o.op else setNo o.dst|.tup []=>setNo o.dst|_=>.fail).run (erS σ)=some (id a,erS σ')/\lK σ σ' ((SP.rdT j λt=>match t with|.v (.bool b)=>if b=want then evop (evCall C.E F) o.dst o.op else setNo o.dst|.tup []=>setNo o.dst|_=>.fail).foot (erS σ))/\k a σ'=some y:=by
     rintro s hs ⟨a,σ',r1,n1,k1⟩;refine⟨a,σ',?_,?_,k1⟩
     ·simp only[SP.run,hst,hs];exact r1
     ·simp only[SP.foot,hst,hs];exact n1
    cases b with
    |true=>
     cases want with
     |true=>exact res _ (oIP rfl) (Z0 _ _ (F1 YY u o.dst o.op) hk)
     |false=>exact res _ (oIN (by simp)) (Z0 _ _ (tS o.dst) hk)
    |false=>
     cases want with
     |true=>exact res _ (oIN (by simp)) (Z0 _ _ (tS o.dst) hk)
     |false=>exact res _ (oIP rfl) (Z0 _ _ (F1 YY u o.dst o.op) hk)
   |_=>
    have hk:X.guardX bI j want (X.evop bI C u o.dst o.op) (X.setNo bI o.dst) (X.tOf σ j) (X.lgR (.t j) σ) k=some y:=hk;rw[ht]at hk;cases hk
  |tup l=>
   have hk:X.guardX bI j want (X.evop bI C u o.dst o.op) (X.setNo bI o.dst) (X.tOf σ j) (X.lgR (.t j) σ) k=some y:=hk;rw[ht]at hk
   cases l with
   |cons=>cases hk
   |nil=>
    have hst:(erS σ).t j=.tup []:=by rw[Kh,ht];rfl
    obtain⟨a,σ',r1,n1,k1⟩:=tS o.dst (X.lgR (.t j) σ) k y hk;refine⟨a,σ',?_,?_,k1⟩
    ·simp only[SP.run,hst];exact r1
    ·simp only[SP.foot,hst];refine⟨λx hx=>?_,n1.w,λx hx=>n1.r0 x (by simp[X.lgR,hx]),λx hx=>n1.w0 x hx⟩;rcases List.mem_cons.1 hx with h|h
     ·exact n1.r0 x (by simp[X.lgR,h])
     ·exact n1.r x h
  |_=>
   have hk:X.guardX bI j want (X.evop bI C u o.dst o.op) (X.setNo bI o.dst) (X.tOf σ j) (X.lgR (.t j) σ) k=some y:=hk;rw[ht]at hk;cases hk
end
section
variable {α β γ δ Y:Type}
theorem I3{F:cI}{C:X.Cfg}(YY:∀c∈C.TB,me F c)(u:HL den []):∀(ops:List gE){σ:XS den}{k:Unit->XS den->Option Y}{y:Y},X.spOps bI C u ops σ k=some y->∃ σ',pZ (evCall C.E F) ops (erS σ)=some (erS σ')/\k () σ'=some y:=by
 intro ops
 induction ops with
 |nil=>intro σ k y h;exact⟨σ,rfl,h⟩
 |cons o ops ih=>
  intro σ k y h;have ⟨a,σ1,r1,_,h1⟩:=CS YY u o σ _ y h;have ⟨σ',r2,h2⟩:=ih h1;refine⟨σ',?_,h2⟩;simp[pZ];rw[CP r1];exact r2
def Dz(f g:oN):Prop:=(∀x∈f.1,x∈g.1)/\∀x∈f.2,x∈g.2
inductive Ns:List (Nat×oN)->List (Nat×oN)->Prop
 |nil:Ns [] []
 |cons {i:Nat} {f g:oN} {l r:List (Nat×oN)} (h:Dz f g) (t:Ns l r):Ns ((i,f)::l) ((i,g)::r)
theorem qi{a a' b b':List Loc}(ha:∀x∈a,x∈a')(hb:∀x∈b,x∈b')(h:EE a' b'=false):EE a b=false:=by
 unfold EE at h⊢
 simp_all
theorem E9{f f' g g':oN}(h1:Dz f f')(h2:Dz g g')(h:mG f' g'=false):mG f g=false:=by
 unfold mG at h⊢;simp at h⊢;have ⟨⟨⟨a,b⟩,c⟩,d⟩:=h;exact⟨⟨⟨qi h1.2 h2.1 a,qi h1.2 h2.2 b⟩,qi h2.2 h1.1 c⟩,qi h2.2 h1.2 d⟩
theorem G6{deps:List (List Nat)}{j:Nat}{f f':oN}(hf:Dz f f'){l r:List (Nat×oN)}(h:Ns l r):(r.all λy=>!mG f' y.2||(deps.getD y.1 []).contains j)=true->(l.all λy=>!mG f y.2||(deps.getD y.1 []).contains j)=true:=by
 induction h with
 |nil=>exact id
 |cons h t ih=>
  intro hr;simp only[List.all_cons,oBA]at hr⊢;refine⟨?_,ih hr.2⟩;simp at hr⊢;rcases hr.1 with h3|h3
  ·exact .inl (E9 hf h h3)
  ·simp_all
theorem zB{deps:List (List Nat)}{l r:List (Nat×oN)}(h:Ns l r):gB deps r=true->gB deps l=true:=by
 induction h with
 |nil=>exact id
 |cons h t ih=>
  intro hr;simp only[gB,oBA]at hr⊢;exact⟨G6 h t hr.1,ih hr.2⟩
theorem Lw{F:cI}{C:X.Cfg}(YY:∀c∈C.TB,me F c)(u:HL den [])(ops:List gE):∀(L:List Nat){σ:XS den}{k:List (Nat×oN)->XS den->Option Y}{y:Y},X.spFL bI C u ops L σ k=some y ->
 ∃fs gs σ',oO (λi=>spOp (evCall C.E F) (ops.getD i A0)) L (erS σ)=some (fs,erS σ')/\Ns fs gs/\k gs σ'=some y:=by
 intro L
 induction L with
 |nil=>intro σ k y h;exact⟨[],[],σ,rfl,.nil,h⟩
 |cons i L ih=>
  intro σ k y h;have ⟨a,σ1,r1,n1,h1⟩:=CS YY u _ _ _ y h;have r1:(spOp (evCall C.E F) (ops.getD i A0)).run (erS σ)=some (a,erS σ1):=r1;have ⟨fs,gs,σ',r2,le,h2⟩:=ih h1;refine⟨(i,(spOp (evCall C.E F) (ops.getD i A0)).foot (erS σ))::fs,(i,σ1.lg)::gs,σ',?_,.cons ⟨n1.r,n1.w⟩ le,h2⟩;simp[oO]
  simp_all
theorem rD(L:List Nat)(σ:XS den){t:XV den}(h:X.okN0 t=true):er (X.renorm0 L σ t)=renorm0 L (erS σ) (er t):=by
 cases t with
 |d t x=>cases t with
  |row o t=>cases o<;>first|rfl|simp[X.okN0]at h
  |nilr o=>cases o<;>rfl
  |nat=>simp[X.okN0]at h
  |pair a b=>simp[X.okN0]at h
  |_=>rfl
 |ptr p vs=>
  show er (if _ then _ else _)=(if _ then _ else _);by_cases hc:(L.contains p.root&&vs==gY (pd σ.vr) p.root p.off p.hops.length)=true
  ·rw[oIP hc,oIP (by exact hc)];rfl
  ·rw[oIN hc,oIN (by exact hc)];rfl
 |pk p vs=>
  show er (if _ then _ else _)=(if _ then _ else _);by_cases hc:(L.contains p.root&&vs==gY (pd σ.vr) p.root p.off (p.hops.length+1))=true
  ·rw[oIP hc,oIP (by exact hc)];rfl
  ·rw[oIN hc,oIN (by exact hc)];rfl
 |pw p vs sz lo n=>
  show er (if _ then _ else _)=(if _ then _ else _);by_cases hc:(L.contains p.root&&vs==gY (pd σ.vr) p.root p.off (p.hops.length+1))=true
  ·rw[oIP hc,oIP (by exact hc)];rfl
  ·rw[oIN hc,oIN (by exact hc)];rfl
 |tup l=>cases l<;>rfl
 |gap=>simp[X.okN0]at h
 |half=>simp[X.okN0]at h
 |_=>rfl
theorem GE(L:List Nat)(σ:XS den){t:XV den}(h:X.okN t=true):er (X.renorm L σ t)=renorm L (erS σ) (er t):=by
 have Z0:X.okN0 t=true->er (X.renorm0 L σ t)=renorm0 L (erS σ) (er t):=λh=>rD L σ h
 cases t with
 |agg l=>
  simp only[X.renorm,er,renorm,gQ,List.map_map];congr 1;refine List.map_congr_left λx hx=>rD L σ (List.all_eq_true.1 h x hx)
 |fn f l=>
  simp only[X.renorm,er,renorm,gQ,List.map_map];congr 1;refine List.map_congr_left λx hx=>rD L σ (List.all_eq_true.1 h x hx)
 |d t x=>
  have:=Z0 h
  cases t with
  |row o t=>cases o<;>exact this
  |nilr o=>cases o<;>exact this
  |_=>exact this
 |_=>exact Z0 h
theorem Kz{α:Type}{P:α->Bool}:∀{l:List (Nat×α)}{i:Nat}{t:α},(l.all λx=>P x.2)=true->b9 l i=some t->P t=true:=by
 intro l
 induction l with
 |nil=>intro i t _ h;simp[b9]at h
 |cons x l ih=>
  intro i t ha h;simp only[List.all_cons,oBA]at ha;simp[b9]at h;split at h
  ·simp_all
  ·exact ih ha.2 h
theorem JK(L:List Nat)(σ:XS den)(hok:X.okS σ=true):∀l:List Nat,(X.normT L σ l).map (λx=>(x.1,er x.2))=normT L (erS σ) l:=by
 intro l
 induction l with
 |nil=>rfl
 |cons i l ih=>
  simp[X.normT,normT];have e:b9 (erS σ).tm i=(b9 σ.tm i).map er:=tH _ _ _;rw[e]
  cases h:b9 σ.tm i with
  |none=>exact ih
  |some t=>
   have ht:=Kz hok h;simp only[oMS,List.map_cons];rw[GE L σ ht,ih]
theorem JL(σ:XS den):∀l:List Nat,erC (X.normC σ l)=normC (erS σ) l:=by
 intro l
 induction l with
 |nil=>rfl
 |cons r l ih=>
  simp[X.normC,normC];rw[uN]
  cases h:b9 σ.ce r with
  |none=>exact ih
  |some c=>
   simp;show(r,erL c)::erC _=_;rw[ih]
theorem xi{σ:XS den}(hok:X.okS σ=true)(pers:Prs):erS (X.norm σ pers)=(erS σ).norm pers:=by
 unfold X.norm St.norm;show(⟨(X.normT pers.2 σ pers.1).map _,erC (X.normC σ pers.2),[]⟩:St)=_;rw[JK _ σ hok,JL]
theorem CF{σ:XS den}(hok:X.okS σ=true):erS (X.anew σ)=(erS σ).anew:=by
 unfold X.anew St.anew;rw[xi hok];congr 1;congr 1
 ·show _=(σ.tm.map λx=>(x.1,er x.2)).map (·.1)
  simp_all
 ·show _=(erC σ.ce).map (·.1);unfold erC
  simp_all
theorem Ja(x:Nat×Option Nat):Sim (Y:=Y) (X.shr1 bI x) (shr1 x) id:=by
 obtain⟨i,off⟩:=x;refine Sim.rdT λt=>?_
 cases off with
 |none=>cases t with
  |pk p vs=>
   refine(eu false (.pk p vs)).bind λt'=>Sim.opt λt2 h2=>?_;rw[<- pB h2];exact ru i t2
  |d t y=>cases t with
   |row o t=>cases o<;>exact .ret rfl
   |nilr o=>cases o<;>exact .ret rfl
   |_=>exact .ret rfl
  |agg l=>exact Sim.ite (λ_=>.fail) λ_=>.ret rfl
  |_=>exact .fail
 |some off=>cases t with
  |ptr p vs=>
   refine(dL p _ vs).bind λ_=>Sim.ite (λh=>?_) λ_=>.fail;rw[oIP (by rw[<- yB];exact h),<- Ca];refine(gN _).bind λt=>Sim.ite (λho=>?_) λho=>?_
   ·obtain⟨c,hc⟩:=j6 ho;have Xr:=iC (Y:=Y) (X.addP p off) t;rw[hc]at Xr;rw[hc];exact Xr.bind λt'=>(eu false t').bind λ_=>.ret rfl
   ·cases t with
    |d t y=>
     cases t with
     |row o t=>cases o<;>first|exact .ret rfl|simp[X.isOwX,X.isOwT]at ho
     |nilr o=>cases o<;>first|exact .ret rfl|simp[X.isOwX,X.isOwT]at ho
     |_=>exact .ret rfl
    |_=>exact .fail
  |d t y=>cases t with
   |row o t=>cases o<;>exact .fail
   |nilr o=>cases o<;>exact .fail
   |_=>exact .fail
  |_=>exact .fail
theorem CU:∀l:List (Nat×Option Nat),Sim (Y:=Y) (X.shrs bI l) (shrs l) id:=by
 intro l
 induction l with
 |nil=>exact .ret rfl
 |cons x l ih=>exact(Ja x).bind λ_=>ih
theorem FX(r:Nat):∀n o:Nat,Sim (Y:=Y) (X.rdImmM bI r n o) (Ep r n o) erL:=by
 intro n
 induction n with
 |zero=>intro o;exact .ret rfl
 |succ n ih=>
  intro o;refine Sim.rdC λt=>Sim.ite (λh=>?_) λh=>.fail;rw[oIP (xR h)];exact(ih (o+1)).bind λl=>.ret rfl
theorem J6{n:Nat}{t:XV den}{k:XV den->Option Y}{y:Y}(h:X.halfX bI n t k=some y):∃t',er t'=er t/\k t'=some y:=by
 unfold X.halfX at h;split at h
 ·rename_i t xs;split at h
  ·split at h
   ·refine⟨_,?_,h⟩;show TV.ow (gO t 0 xs)=.ow (List.map (enc (.row false t)) xs);rw[EN]
   ·cases h
  ·cases h
 ·rename_i t xs m;split at h
  ·have h2:bI.br (Nat.beq m (List.length xs)) _ none=some y:=h;clear h
   cases hc:Nat.beq m (List.length xs)with
   |false=>rw[hc]at h2;cases h2
   |true=>
    rw[hc]at h2;have e:m=List.length xs:=Nat.eq_of_beq_eq_true hc;subst e;refine⟨_,?_,h2⟩;show TV.ow (List.map (enc (.row true t)) xs)=.ow (gO t (List.length xs) xs);rw[HV]
  ·cases h
 ·split at h
  ·exact⟨_,rfl,h⟩
  ·cases h
 ·cases h
theorem Jn(r o n:Nat):Sim (Y:=Y) (X.halfM bI r o n) (.ret ()) id:=by
 intro σ k y hk;unfold X.halfM at hk;split at hk
 case h_2=>cases hk
 rename_i l hl;split at hk
 case isFalse=>cases hk
 rename_i ho;obtain⟨t',e,hk⟩:=J6 hk;refine⟨(),⟨σ.tm,dp σ.ce r (l.set o t'),σ.vr,σ.lg⟩,?_,⟨λx h=>by simp[SP.foot]at h,λx h=>by simp[SP.foot]at h,λ_ h=>h,λ_ h=>h⟩,hk⟩;show some ((),erS σ)=some ((),_);congr 2;unfold erS erC;simp only;congr 1;rw[<- mM,rS,e,qH]
 have hs:(erL l).set o ((erL l).getD o .dead)=erL l:=by
  apply List.ext_getElem?;intro j;rw[List.getElem?_set];split
  ·rename_i h;subst h;split
   ·rename_i h2;simp[oGD,oGE h2]
   ·rename_i h2;exact(oGN (by omega)).symm
  ·rfl
 rw[hs]
 exact(oq (by
  show b9 (erC σ.ce) r=some (erL l);have:=uN (σ:=σ) (r:=r);rw[show erC σ.ce=(erS σ).ce from rfl,this,hl]
  rfl)).symm
theorem LK(i n:Nat):Sim (Y:=Y) (X.frzM bI i n) (Np i n) id:=by
 refine Sim.ite (λh=>?_) λh=>?_
 ·unfold Np;rw[oIP h];exact Jn _ _ n
 unfold Np;rw[oIN h];refine Sim.rdT λt=>?_
 cases t with
 |ptr p vs=>
  refine Sim.ite (λh=>?_) λh=>.fail;show Sim _ (if(erP p).root=2*i+2/\(erP p).off=0/\(erP p).hops=[]then _ else _) id;rw[oIP (by unfold erP;exact h)];refine(dL p 0 vs).bind λ_=>(FX _ n 0).bind λl=>?_;exact Sim.new rfl (ru i (.ip l))
 |_=>exact .fail
theorem L0{i:Nat}{σ:XS den}{u:HL den []}:∀{L:List AY}{H:AY}{h:HL den (lvS H.s)},X.selH bI i σ u L=some ⟨H,h⟩->X.convS bI H.s σ u=some h:=by
 intro L
 induction L with
 |nil=>intro H h hs;cases hs
 |cons H0 L ih=>
  intro H h hs;unfold X.selH at hs
  grind
theorem wD{Z:Type}{outs:List (iO×Shs)}{i:Nat}{h:HL den (xg (outs.map λx=>lvS x.2) i)}{o:wS (outs.map λx=>lvS x.2)}{x:iO×XS den}(K:iO×XS den->Option Z)(hm:rI (outs.map λx=>lvS x.2) i h=some o)(hf:so outs i h=some x):(jI (outs.map λx=>lvS x.2) o λj ho=>X.onOut bI (so outs j ho) K)=K x:=by
 rw[wE _ hm,hf];rfl
theorem Jd{F:cI}{C:X.Cfg}(YY:∀c∈C.TB,me F c)(u:HL den []){N:Nat}(hN:NN<=N):∀(tc:gF)(i:Nat){Y:Type}(σ:XS den)(k:iO->XS den->Option Y)(y:Y),X.runC bI C u tc i σ k=some y->∃e σ',runC (evCall C.E F) N tc (erS σ)=some (e,erS σ')/\k e σ'=some y:=by
 intro tc
 induction tc with
 |skip=>intro i Y σ k y h;exact⟨.normal,σ,rfl,h⟩
 |frz j n a ih=>
  intro i Y σ k y h
  have h:X.frzM bI j n σ (λ_ σ'=>if X.okS σ' then X.runC bI C u a i (X.anew σ') k else none)=some y:=by
   unfold X.runC at h;exact h
  obtain⟨_,σ1,r1,_,h1⟩:=LK j n σ _ y h;split at h1
  ·rename_i hok;obtain⟨e,σ2,r2,h2⟩:=ih _ _ k y h1;refine⟨e,σ2,?_,h2⟩;simp only[runC];rw[r1];simp only[oBS];rw[<- CF hok];exact r2
  ·cases h1
 |nrm pers=>
  intro i Y σ k y h;have h:(if X.okS σ then k .normal (X.norm σ pers)else none)=some y:=h;split at h
  ·rename_i hok;exact⟨.normal,X.norm σ pers,by rw[xi hok];rfl,h⟩
  ·cases h
 |reg id draw ops pers=>
  intro i Y σ k y h
  cases draw with
  |none=>
   have h:X.spOps bI C u ops σ (λ_ σ'=>if X.okS σ' then k .normal (X.norm σ' pers)else none)=some y:=h;obtain⟨σ1,r1,h1⟩:=I3 YY u ops h;split at h1
   ·rename_i hok;refine⟨.normal,X.norm σ1 pers,?_,h1⟩;simp only[runC];rw[r1,xi hok];rfl
   ·cases h1
  |some deps=>
   have h:X.spFL bI C u ops (List.range ops.length) σ (λfs σ'=>if qc deps fs&&X.okS σ' then k .normal (X.norm σ' pers)else none)=some y:=h;obtain⟨fs,gs,σ1,r1,le,h1⟩:=Lw YY u ops _ h;split at h1
   ·rename_i hok;simp only[oBA]at hok;rw[By]at hok;refine⟨.normal,X.norm σ1 pers,?_,h1⟩;simp only[runC];rw[r1,xi hok.2];simp only[oBS];rw[oIP (zB le hok.1)]
   ·cases h1
 |seq a b Zc Y7=>
  intro i Y σ k y h
  have fin:∀(e:iO)(σ1:XS den),runC (evCall C.E F) N a (erS σ)=some (e,erS σ1)->(match e with|.normal=>X.runC bI C u b (i+1+X.marks a) σ1 k|e=>k e σ1)=some y->∃e σ',runC (evCall C.E F) N (.seq a b) (erS σ)=some (e,erS σ')/\k e σ'=some y:=by
   intro e σ1 r1 h1;simp only[runC];rw[r1];simp only[oBS]
   cases e with
   |normal=>exact Y7 _ σ1 k y h1
   |exit j=>exact⟨_,σ1,rfl,h1⟩
   |ret=>exact⟨_,σ1,rfl,h1⟩
  unfold X.runC at h
  cases hs:X.selJ i C.HL with
  |none=>
   rw[hs]at h;obtain⟨e,σ1,r1,h1⟩:=Zc _ σ _ y h;exact fin e σ1 r1 h1
  |some H=>
   rw[hs]at h;obtain⟨o,h1,h2⟩:=bO (show(X.runC bI C u a (i+1) σ _:Option _).bind _=some y from h);obtain⟨e,σ1,r1,h3⟩:=Zc _ σ _ o h1
   cases hi:X.injE bI e σ1 u H.outs with
   |none=>rw[hi]at h3;cases h3
   |some x=>
    rw[hi]at h3;obtain⟨j,ho⟩:=x;have h3:rI (H.outs.map λx=>lvS x.2) j ho=some o:=h3;obtain⟨x,hf,he,hσ⟩:=HI hi;rw[wD _ h3 hf]at h2;rw[<- hσ]at r1;rw[<- he]at r1;exact fin x.1 x.2 r1 h2
 |cond c a b Zc Y7=>
  intro i Y σ k y h
  have h:X.opd bI c σ (λt _=>X.condX bI (X.runC bI C u a i (X.knownO bI c true σ) k) (X.runC bI C u b (i+X.marks a) (X.knownO bI c false σ) k) t)=some y:=by
   unfold X.runC at h;exact h
  obtain⟨t,σ1,r1,e1,_,h1⟩:=tk h
  cases t with
  |d t x=>cases t with
   |bool=>
    have RB:erS (X.knownO bI c x σ)=erS σ:=by
     cases c with
     |t j=>
      have hj:X.tOf σ j=.d .bool x:=by
       have h9:X.condX bI (X.runC bI C u a i (X.knownO bI (.t j) true σ) k) (X.runC bI C u b (i+X.marks a) (X.knownO bI (.t j) false σ) k) (X.tOf σ j)=some y:=h;have r1:(some ((erS σ).t j,erS σ):Option (TV×St))=some (er (.d .bool x),erS σ):=r1
       injection r1 with r1
       injection r1 with r1 _
       rw[Kh]at r1
       cases ht:X.tOf σ j with
       |d t2 z=>cases t2 with
        |bool=>rw[ht]at r1;injection r1 with r1;injection r1 with r1;rw[show z=x from r1]
        |_=>rw[ht]at h9;cases h9
       |_=>rw[ht]at h9;cases h9
      exact Do hj
     |_=>rfl
    have r1:(opd c).run (erS σ)=some (.v (.bool x),erS σ):=r1;simp only[runC];rw[r1];simp only[oBS]
    cases x with
    |true=>
     rw[<- RB];exact Zc _ _ k y h1
    |false=>
     rw[<- RB];exact Y7 _ _ k y h1
   |_=>cases h1
  |_=>cases h1
 |sc b ih=>
  intro i Y σ k y h;unfold X.runC at h;exact ih i σ k y h
 |block id b ih=>
  intro i Y σ k y h;unfold X.runC at h;obtain⟨e,σ1,r1,h1⟩:=ih _ σ _ y h;simp only[runC];rw[r1];simp only[oBS]
  cases e with
  |normal=>exact⟨_,σ1,rfl,h1⟩
  |ret=>exact⟨_,σ1,rfl,h1⟩
  |exit j=>
   dsimp only at h1;by_cases hj:j=id
   ·rw[oIP hj]at h1;exact⟨.normal,σ1,by dsimp only;rw[oIP hj],h1⟩
   ·rw[oIN hj]at h1;exact⟨.exit j,σ1,by dsimp only;rw[oIN hj],h1⟩
 |loop b ih=>
  intro i Y σ k y h;unfold X.runC at h
  cases hs:X.selH bI i σ u C.HL with
  |none=>rw[hs]at h;cases h
  |some x=>
   obtain⟨H,h0⟩:=x;rw[hs]at h;have S0:=yH (L0 hs);obtain⟨o,h1,h2⟩:=bO (show(bM _ NN h0).bind _=some y from h)
   have Z0:∀(n:Nat)(hd:HL den (lvS H.s))(o:wS (H.outs.map λx=>lvS x.2)),bM (λh=>X.runC bI C u b (i+1) (B8 H.s h) (X.roundK bI H u)) n hd=some o->∀N',n<=N'->∃x j ho,Mx (runC (evCall C.E F) N b) N' (erS (B8 H.s hd))=some (x.1,erS x.2)/\rI (H.outs.map λx=>lvS x.2) j ho=some o/\so H.outs j ho=some x:=by
    intro n
    induction n with
    |zero=>intro hd o h;cases h
    |succ n ihn=>
     intro hd o h N' YN;obtain⟨N',rfl⟩:∃N'',N'=N''+1:=⟨N'-1,by omega⟩;obtain⟨z,hz,hz2⟩:=bO (show(X.runC bI C u b (i+1) (B8 H.s hd) _:Option _).bind _=some o from h);obtain⟨e,σ1,r1,h3⟩:=ih _ _ _ z hz;simp only[Mx];rw[r1];simp only[oBS]
     have Y8:∀e':iO,(∀s:Option (HL den (lvS H.s)⊕wS (H.outs.map λx=>lvS x.2)),s=some z->s=X.onOut bI (X.injE bI e' σ1 u H.outs) (λx=>bI.exitL (lvS H.s) (H.outs.map λx=>lvS x.2) x.1 x.2)->∃x j ho,(some (e',erS σ1):Option (iO×St))=some (x.1,erS x.2)/\rI (H.outs.map λx=>lvS x.2) j ho=some o/\so H.outs j ho=some x):=by
      intro e' s YR YK;rw[YR]at YK
      cases hi:X.injE bI e' σ1 u H.outs with
      |none=>rw[hi]at YK;cases YK
      |some x=>
       rw[hi]at YK;obtain⟨j,ho⟩:=x;obtain⟨t,VV,Yr⟩:=ge (show(rI (H.outs.map λx=>lvS x.2) j ho).map Sum.inr=some z from YK.symm);subst Yr;obtain⟨x,hf,he,hσ⟩:=HI hi;refine⟨x,j,ho,by rw[he,hσ],?_,hf⟩;have:some t=some o:=hz2;rw[<- this];exact VV
     cases e with
     |normal=>
      have h3:X.onOut bI (X.convS bI H.s σ1 u) (bI.next (lvS H.s) (H.outs.map λx=>lvS x.2))=some z:=h3
      cases hc:X.convS bI H.s σ1 u with
      |none=>rw[hc]at h3;cases h3
      |some h'=>
       rw[hc]at h3;have h3:some (Sum.inl h')=some z:=h3
       injection h3 with h3
       subst h3;rw[<- yH hc];exact ihn h' o hz2 N' (by omega)
     |exit j=>exact Y8 (.exit j) _ h3 rfl
     |ret=>exact Y8 .ret _ h3 rfl
   obtain⟨x,j,ho,r1,hm,hf⟩:=Z0 NN h0 o h1 N hN;rw[wD _ hm hf]at h2;refine⟨x.1,x.2,?_,h2⟩;simp only[runC];rw[<- S0];exact r1
 |exit id=>intro i Y σ k y h;exact⟨.exit id,σ,rfl,h⟩
 |ret=>intro i Y σ k y h;exact⟨.ret,σ,rfl,h⟩
 |pre l a ih=>
  intro i Y σ k y h
  have h:X.shrs bI l σ (λ_ σ'=>if X.okS σ' then X.runC bI C u a i (X.anew σ') k else none)=some y:=by
   unfold X.runC at h;exact h
  obtain⟨_,σ1,r1,_,h1⟩:=CU l σ _ y h;split at h1
  ·rename_i hok;obtain⟨e,σ2,r2,h2⟩:=ih _ _ k y h1;refine⟨e,σ2,?_,h2⟩;simp only[runC];rw[r1];simp only[oBS];rw[<- CF hok];exact r2
  ·cases h1
 |post a l ih=>
  intro i Y σ k y h
  have h:X.runC bI C u a i σ (λe σ'=>X.shrs bI l σ' λ_ σ2=>if X.okS σ2 then k e (X.anew σ2)else none)=some y:=by
   unfold X.runC at h;exact h
  obtain⟨e,σ1,r1,h1⟩:=ih _ _ _ y h;obtain⟨_,σ2,r2,_,h2⟩:=CU l σ1 _ y h1;split at h2
  ·rename_i hok;refine⟨e,X.anew σ2,?_,h2⟩;simp only[runC];rw[r1];simp only[oBS];rw[r2];simp only[oBS];rw[CF hok]
  ·cases h2
end
section
variable {α β γ δ Y:Type}
theorem wj(np:Nat)(t:XV den):Sim (Y:=Y) (X.takeR1 bI np t) (takeR1 np (er t)) er:=by
 have Z0:Sim (Y:=Y) (X.take1 bI true t) (take1 true (er t)) er:=eu true t
 cases t with
 |pk p vs=>exact eu _ (.pk p vs)
 |d t y=>cases t with
  |row o t=>cases o<;>exact Z0
  |nilr o=>cases o<;>exact Z0
  |_=>exact Z0
 |_=>exact Z0
theorem Ea(np:Nat):∀l:List (XV den),Sim (Y:=Y) (X.takeRL bI np l) (takeRL np (erL l)) erL:=by
 intro l
 induction l with
 |nil=>exact .ret rfl
 |cons t l ih=>exact(wj np t).bind λt'=>ih.bind λr'=>.ret rfl
theorem rv(np:Nat)(t:XV den):Sim (Y:=Y) (X.takeRV bI np t) (takeRV np (er t)) λx=>(erL x.1,x.2):=by
 have one:∀t:XV den,Sim (Y:=Y) (X.bind (X.takeR1 bI np t) λt'=>X.ret ([t'],RSh.one)) ((takeR1 np (er t)).bind λt'=>.ret ([t'],.one)) λx=>(erL x.1,x.2):=λt=>(wj np t).bind λt'=>.ret rfl;have Z0:=one t
 cases t with
 |agg l=>exact(Ea np l).bind λl'=>.ret (by simp[dT])
 |d t y=>cases t with
  |row o t=>cases o<;>exact Z0
  |nilr o=>cases o<;>exact Z0
  |_=>exact Z0
 |_=>exact Z0
theorem Jg(np:Nat)(q:TRs):Sim (Y:=Y) (X.res1 bI np q) (res1 np q) λx=>(erL x.1,x.2):=by
 cases q with
 |tmp t=>exact Sim.rdT λtv=>rv np tv
 |cell t n=>
  refine Sim.rdT λtv=>?_
  cases tv with
  |ptr p vs=>
   refine(dL p _ vs).bind λ_=>?_
   cases n with
   |none=>exact(gN p).bind λt=>(iC p t).bind λt'=>rv np t'
   |some n=>exact(zh p n).bind λl=>rv np (.agg l)
  |d t y=>cases t with
   |row o t=>cases o<;>exact .fail
   |nilr o=>cases o<;>exact .fail
   |_=>exact .fail
  |_=>exact .fail
theorem Je(np:Nat):∀l:List TRs,Sim (Y:=Y) (X.resL bI np l) (resL np l) λx=>(erL x.1,x.2):=by
 intro l
 induction l with
 |nil=>exact .ret rfl
 |cons q l ih=>exact(Jg np q).bind λx=>ih.bind λy=>.ret (by simp[oH])
theorem Ha(l:List (XV den)):onesOf (erL l)=X.onesOf l:=by
 induction l with
 |nil=>rfl
 |cons t l ih=>simp[erL,onesOf,X.onesOf,ih]
theorem Ed:∀l:List TRs,Sim (Y:=Y) (X.flatsR bI l) (flatsR l) erL:=by
 intro l
 induction l with
 |nil=>exact .ret rfl
 |cons q l ih=>cases q with
  |cell t n=>exact .fail
  |tmp t=>
   refine Sim.rdT λtv=>Sim.ite (λhc=>?_) λ_=>.fail
   have h1:A2 (er tv)=true:=by
    have:=DB (l:=[tv]) (by simp_all);simpa[erL]using this
   rw[oIP h1];exact ih.bind λl=>.ret rfl
theorem Jf(np:Nat)(l:List TRs):Sim (Y:=Y) (X.resF bI np l) (resF np l) λx=>(erL x.1,x.2):=by
 have base:=Je (Y:=Y) np l
 cases l with
 |nil=>exact base
 |cons q r=>cases q with
  |cell t n=>exact base
  |tmp t=>
   refine Sim.rdT λtv=>?_
   cases tv with
   |ptr p vs=>exact(dL p _ vs).bind λ_=>(Ed r).bind λl=>.ret (by simp[Ha];rfl)
   |d ty y=>cases ty with
    |row o ty=>cases o<;>exact base
    |nilr o=>cases o<;>exact base
    |_=>exact base
   |_=>exact base
theorem Hu(t:XV den):(∃p vs,t=.ptr p vs)\/(X.isPtrX t=false/\∀p vs,er t≠.ptr p vs):=by
 cases t with
 |ptr p vs=>exact .inl ⟨p,vs,rfl⟩
 |d t y=>cases t with
  |row o t=>cases o<;>exact .inr ⟨rfl,by simp[er,er1]⟩
  |nilr o=>cases o<;>exact .inr ⟨rfl,by simp[er,er1]⟩
  |_=>exact .inr ⟨rfl,by simp[er,er1]⟩
 |gap t x i o=>exact .inr ⟨rfl,λp vs h=>by cases h⟩
 |half t x m=>exact .inr ⟨rfl,λp vs h=>by cases h⟩
 |_=>exact .inr ⟨rfl,by simp[er]⟩
theorem JZ{t:XV den}(h:X.isShX t=true):∃c,er t=.sl c:=by
 cases t with
 |d t y=>cases t with
  |row o t=>cases o with
   |false=>exact⟨_,rfl⟩
   |true=>cases h
  |nilr o=>cases o with
   |false=>exact⟨_,rfl⟩
   |true=>cases h
  |_=>cases h
 |_=>cases h
theorem Et{pp:List Nat}:∀{l:List (XV den)}{i:Nat},X.ptrsInX pp i l=true->kZ pp i (erL l)=true:=by
 intro l
 induction l with
 |nil=>intro i _;rfl
 |cons t l ih=>
  intro i h;simp only[X.ptrsInX,oBA]at h;have ⟨⟨h0,hs⟩,hr⟩:=h
  rcases Hu t with⟨p,vs,rfl⟩|⟨h1,h2⟩
  ·show(pp.contains i&&kZ pp (i+1) (erL l))=true;rw[ih hr,Bool.and_true];simpa[X.isPtrX]using h0
  ·show kZ pp i (er t::erL l)=true;rw[h1,Bool.false_or]at hs
   cases hsh:X.isShX t with
   |true=>
    have ⟨c,hc⟩:=JZ hsh;rw[hc];exact ih hr
   |false=>
    rw[hsh,Bool.false_or]at hs
    cases he:er t with
    |ptr p vs=>simp_all
    |sl c=>exact ih hr
    |_=>show(!pp.contains (1000+i)&&kZ pp (i+1) (erL l))=true;rw[hs,ih hr];rfl
theorem Bz(l:List (XV den)):∀i,(eP i l).map (λx=>(x.1,er x.2))=eP i (erL l):=by
 induction l with
 |nil=>intro i;rfl
 |cons t l ih=>intro i;simp[eP,erL,ih]
theorem Mq(vals:List (XV den))(pts:List (Nat×List (XV den))):erS (X.mkSt vals pts)=mkSt (erL vals) (erC pts):=by
 unfold X.mkSt mkSt erS;simp[Bz]
theorem JB(σ:XS den)(pts:List (Nat×List (XV den))):erC (X.ptsOf σ pts)=(erC pts).map λx=>(x.1,(b9 (erS σ).ce x.1).getD []):=by
 induction pts with
 |nil=>rfl
 |cons x pts ih=>
  show(x.1,erL ((b9 σ.ce x.1).getD []))::erC (X.ptsOf σ pts)=(x.1,(b9 (erS σ).ce x.1).getD [])::_;rw[ih,uN];cases b9 σ.ce x.1<;>rfl
theorem MN(a b:List (Nat×List (XV den))):erC (a++b)=erC a++erC b:=by unfold erC;rw[List.map_append]
theorem Od(pp:List Nat):erC (X.kpX (D:=den) pp)=kpE pp:=by
 unfold erC X.kpX kpE;rw[List.map_map];rfl
theorem L6{F:cI}{C:X.Cfg}(YY:∀c∈C.TB,me F c)(u:HL den []){N:Nat}(hN:NN<=N){tf:TFn}{outs:List XO}{vals:List (XV den)}{pts:List (Nat×List (XV den))}{o:wS (outs.map lvO)}(h:X.runT bI C u tf outs vals pts=some o):
 ∃x,jI (outs.map lvO) o (λi ho=>j7 outs i ho)=some x/\runT C.E F N tf (erL vals) (erC pts)=some (⟨erL x.1,x.2.1⟩,erC x.2.2):=by
 unfold X.runT at h;split at h
 case isFalse=>cases h
 rename_i hc;obtain⟨e,σ1,r1,h1⟩:=Jd YY u hN tf.body 0 _ _ o h
 have Z0:X.resF bI tf.np tf.res σ1 (λy σ'=>X.onOut bI (X.injO bI y.1 y.2 (X.ptsOf σ' pts++X.kpX tf.pp) u outs) λx=>bI.out (outs.map lvO) x.1 x.2)=some o ->
  ∃x,jI (outs.map lvO) o (λi ho=>j7 outs i ho)=some x/\(((resF tf.np tf.res).run (erS σ1)).bind λy=>some ((⟨y.1.1,y.1.2⟩:vl),((erC pts).map λx=>(x.1,(b9 y.2.ce x.1).getD []))++kpE tf.pp))=some (⟨erL x.1,x.2.1⟩,erC x.2.2):=by
  intro h2;obtain⟨y,σ2,r2,_,h3⟩:=Jf tf.np tf.res σ1 _ o h2
  cases hi:X.injO bI y.1 y.2 (X.ptsOf σ2 pts++X.kpX tf.pp) u outs with
  |none=>rw[hi]at h3;cases h3
  |some z=>
   rw[hi]at h3;obtain⟨i,ho⟩:=z;obtain⟨x,hf,e1,e2,e3⟩:=MC hi;refine⟨x,?_,?_⟩
   ·rw[wE _ (show rI (outs.map lvO) i ho=some o from h3)];exact hf
   ·rw[r2];simp only[oBS];rw[e1,e2,e3,MN,JB,Od]
 have Z9:(erL vals).length=tf.np/\(kZ tf.pp 0 (erL vals)&&(!tf.pp.contains 1000||(erC pts).isEmpty))=true:=by
  have h2:=hc.2;rw[oBA]at h2;refine⟨by rw[dT];exact hc.1,?_⟩;rw[Et h2.1,Bool.true_and];have h3:=h2.2
  cases pts with
  |nil=>simp[erC]
  |cons x pts=>simpa[erC]using h3
 unfold runT;rw[oIP Z9,<- Mq,r1];simp only[oBS]
 cases e with
 |exit j=>cases h1
 |normal=>exact Z0 h1
 |ret=>exact Z0 h1
end
theorem Kk{E:Env}{T:FuncId->Option TFn}{B F:cI}{N:Nat}(hN:NN<=N){C:X.Cfg}(hE:C.E=E)(YY:∀c∈C.TB,me F c){c:Ctr}{tf:TFn}(hT:T c.f=some tf)
 (hg:∀h,X.runT bI C () tf c.outs (gP c.ins _ h).1 (qG c.pts [] (gP c.ins _ h).2).1=c.g h):me (Bc E T B F N) c:=by
 intro h o x ho hx;rw[D5 hT];rw[<- hg h]at ho;have ⟨x',h1,h2⟩:=L6 YY () hN ho
 simp_all
def Lvl(E:Env)(T:FuncId->Option TFn)(B:cI)(n:Nat)(c:Ctr):Prop:=∀k,n<=k->me (runF E T B (NN+k)) c
def DY(E:Env)(T:FuncId->Option TFn)(B:cI)(n:Nat):List Ctr->Prop
 | []=>True
 |c::r=>Lvl E T B n c/\DY E T B n r
theorem Lvl.mono{E:Env}{T:FuncId->Option TFn}{B:cI}{n m:Nat}{c:Ctr}(h:Lvl E T B n c)(hm:n<=m):Lvl E T B m c:=λk hk=>h k (Nat.le_trans hm hk)
theorem DY.get{E:Env}{T:FuncId->Option TFn}{B:cI}{n:Nat}:∀{l:List Ctr},DY E T B n l->∀c∈l,Lvl E T B n c:=by
 intro l
 induction l with
 |nil=>simp_all
 |cons x l ih=>
  intro h c hc;rcases List.mem_cons.1 hc with rfl|hc
  ·exact h.1
  ·exact ih h.2 c hc
theorem xj{E:Env}{T:FuncId->Option TFn}{B:cI}{n:Nat}{C:X.Cfg}(hE:C.E=E)(YY:DY E T B n C.TB){c:Ctr}{tf:TFn}(hT:T c.f=some tf)
 (hg:∀h,X.runT bI C () tf c.outs (gP c.ins _ h).1 (qG c.pts [] (gP c.ins _ h).2).1=c.g h):Lvl E T B (n+1) c:=by
 intro k hk;obtain⟨k,rfl⟩:∃k',k=k'+1:=⟨k-1,by omega⟩;exact Kk (F:=runF E T B (NN+k)) (Nat.le_add_right _ _) hE (λc hc=>YY.get c hc k (by omega)) hT hg
theorem E5{P:Program}{H:Nat->List (Nat×Option Nat)}{f:FuncId}{tf:TFn}(h:n9 P H f=some tf):∃fn,P.funcs[f]?=some fn/\tf.np<=fn.params.size+fn.nfree/\tf.nt=fn.ntmps:=by
 unfold n9 at h;split at h
 case h_2=>simp at h
 split at h
 case h_2=>simp at h
 split at h
 ·rename_i tf' Zi;have ⟨_,g2,g3,_⟩:=sr Zi
  simp_all
 simp only at h;split at h
 ·injection h with h
  subst h
  simp_all
 ·simp at h
theorem A7{P:Program}(H:FuncId->Nat->List (Nat×Option Nat))(ZX:(P.funcs.all λfn=>decide (fn.params.size+fn.nfree<=fn.ntmps) && !(fn.name=="runtime.NumGoroutine"))=true):yS P λf=>n9 P (H f) f:=by
 refine IX λf tf h=>?_;have ⟨fn,hf,e1,e2⟩:=E5 h;have ⟨hlt,he⟩:=Array.getElem?_eq_some_iff.1 hf;have:=Array.all_eq_true.1 ZX f hlt;rw[he]at this;simp at this;refine⟨⟨H f,h⟩,by omega,λfn' Sx=>?_⟩
 simp_all
def PA:TFn:=⟨0,[],0,.skip,[]⟩
theorem Be{o:Option TFn}(h:o.isSome=true):o=some (o.getD PA):=by
 cases o with
 |none=>simp at h
 |some x=>rfl
def Pa(P:Program)(f:FuncId):List (Option Nat):=match P.funcs[f]? with
 |some fn=>fn.params.toList.map λt=>match P.underlying t with|some (.pointer e)=>vo P e|_=>none
 |none=>[]
def noB:cI:=λ_ _ _=>none
theorem N7{P:Program}:dF P noB:=λf vals pts res ZJ h=>by simp[noB]at h
abbrev I64:CT:=.int .i64
def w64(x:Int):Int:=IntKind.wrap .i64 x
def wk(k:IntKind)(x:Int):Int:=IntKind.wrap k x
def bytes(l:List Nat):ByteArray:=⟨(l.map UInt8.ofNat).toArray⟩
inductive wc (w:World)(F:Nat->Prop):TV->Value->Prop
 |im {t:TV} {x:Value} (h:io w F t x):wc w F t x
 |fn {f:FuncId}:wc w F (.fn f []) (.func (.func f) #[] #[])
 |ag {l:List TV} {cs:Array Value} (hl:cs.size=l.length) (h:∀j (hj:j<l.length),io w F l[j] (cs.getD j undef)):wc w F (.agg l) (.agg cs)
def MA:TV->Bool
 |.v _=>true
 |.sl _=>true
 |_=>false
def BN:TV->Bool
 |.sl _=>true
 |.v _=>true
 |.fn _ []=>true
 |.agg l=>l.all MA
 |_=>false
def DX(P:Program)(f:FuncId)(vals:List TV)(r:vl):Prop:=
 r.cells.all MA=true/\∀(avs:List Value)(w:World)(F:Nat->Prop),avs.length=vals.length->(∀j (h:j<vals.length)(h':j<avs.length),wc w F vals[j] avs[j])->
  Calls P f avs.toArray w λe w2=>∃ys,e=.returned (kz r.sh ys)/\ys.length=r.cells.length/\Below w.heap.size w w2/\∀j (h:j<r.cells.length),io w2 (λk=>F k\/w.heap.size<=k) r.cells[j] (ys.getD j undef)
def EF(R:FuncId->List TV->Option vl):cI:=λf vals pts=>
 match pts with
 | []=>if vals.all BN then(R f vals).map λr=>(r,[])else none
 |_=>none
section
variable {M:Fm} {σ:St} {ts:Array Value} {w:World}
theorem Inv.addHands{F:Nat->Prop}:∀{z:List TV}{ys:List Value}{H:List TV}{xs:List Value}{G:Gh},Inv M σ H xs ts w G->(∀k,F k->G.F M.A k)->z.length=ys.length->(∀j (h:j<z.length),io w F z[j] (ys.getD j undef))->∃G',Inv M σ (H++z) (xs++ys) ts w G':=by
 intro z
 induction z with
 |nil=>
  intro ys H xs G hI _ hl _;have:ys=[]:=List.length_eq_zero_iff.1 hl.symm;subst this;exact⟨G,by simpa using hI⟩
 |cons t z ih=>
  intro ys H xs G hI hF hl hz
  cases ys with
  |nil=>simp at hl
  |cons y ys=>
   obtain⟨G1,hg⟩:=hI.addHand ((hz 0 (by simp)).frame (F':=G.F M.A) (λ_ _ _=>rfl) λk hk _=>hF k hk).toOwn
   obtain⟨G2,Z3⟩:=ih hg.1 (λk hk=>hg.2.1 k (hF k hk)) (by simpa using hl) λj hj=>by have:=hz (j+1) (by simpa using hj);simpa using this
   refine⟨G2,?_⟩;simpa using Z3
end
theorem Ms{P:Program}{R:FuncId->List TV->Option vl}(hR:∀f vals r,R f vals=some r->gS P f/\DX P f vals r):dF P (EF R):=by
 intro f vals pts res ZJ h
 cases pts with
 |cons _ _=>simp[EF]at h
 |nil=>
  simp only[EF]at h;split at h
  case isFalse=>simp at h
  rename_i ZX;simp only[List.all_eq_true]at ZX
  obtain⟨r,hr,he⟩:∃r,R f vals=some r/\(r,[])=(res,ZJ):=by
   cases hr:R f vals with
   |none=>simp[hr]at h
   |some c=>exact⟨c,rfl,by simpa[hr]using h⟩
  injection he with e1 e2
  subst e1 e2;obtain⟨ZG,WX,UJ⟩:=hR f vals r hr;refine⟨ZG,vals.length,[],Nat.le_refl _,λM avs w G hal hN SI Y4 hkp hI=>?_⟩;subst SI
  have TP:avs.toArray++Array.replicate (vals.length-avs.length) undef=avs.toArray:=by rw[hal];simp
  rw[TP]at hI
  have hst:∀j,(mkSt vals []).t j=vals.getD j .dead:=by
   intro j;simp[St.t,mkSt,k8]
  refine(UJ avs M.w0 (G.F M.A) hal λj hj ZY=>?_).mono λe w2 ⟨ys,WU,hlen,hb,V3⟩=>?_
  ·have ht:=hI.tmr j;rw[hst]at ht
   have e1:vals.getD j .dead=vals[j]:=by simp[hj]
   have e2:avs.toArray.getD j undef=avs[j]:=by simp[Array.getD_eq_getD_getElem?,ZY]
   rw[e1,e2]at ht;have ha:=ZX _ (List.getElem_mem hj);revert ht ha;generalize vals[j]=t;generalize avs[j]=y;intro ht ha
   cases ht with
   |v h=>exact .im (.v h)
   |sl h=>exact .im h
   | @fn f l xs hl h=>
    cases l with
    |nil=>
     have:xs=#[]:=Array.eq_empty_of_size_eq_zero (by simpa using hl);subst this;exact .fn
    |cons _ _=>simp[BN]at ha
   | @agg l cs hl h=>
    refine .ag hl λj hj=>?_;have h1:MA l[j]=true:=List.all_eq_true.1 ha _ (List.getElem_mem hj);have h2:=h j hj;revert h1 h2;generalize l[j]=t;generalize cs.getD j undef=z;intro h1 h2
    cases h2 with
    |v h2=>exact .v h2
    |sl h2=>exact h2
    |_=>simp[MA]at h1
   |_=>simp[BN]at ha
  ·obtain⟨Z3,_⟩:=hI.grow (w':=w2) (λk hk=>hb.block k hk) hb.size hb.os hb.tape hb.output
   have hF:∀k,G.F M.A k\/M.w0.heap.size<=k->G.F M.A k:=by
    rintro k (hk|hk)
    ·exact hk
    ·refine⟨M.hA k hk,λr o hφ=>?_,λr b o n hβ e=>?_⟩
     ·have:=hI.core.live hφ;omega
     ·subst e;have:=hI.core.boxlt hβ;omega
   obtain⟨G',Yl⟩:=Z3.addHands hF hlen.symm V3;refine⟨_,mkSt vals [],WU,.inl ⟨ys,avs.toArray,G',rfl,by simpa using Yl,λj hj=>.inl ?_⟩,rfl⟩;have:=List.all_eq_true.1 WX _ (List.getElem_mem hj);revert this;generalize r.cells[j]=t;intro this
   cases t with
   |v _=>rfl
   |sl _=>rfl
   |_=>simp[MA]at this
def Dq:TV->Bool
 |.v _=>true
 |.sl _=>true
 |.ow _=>true
 |_=>false
theorem wc.toTm{w:World}{F:Nat->Prop}{V:Vs}{C:Cs}{G:Gh}{t:TV}{x:Value}(h:wc w F t x):TmR w F V C G t x:=by
 cases h with
 |im h=>exact h.toTm
 |fn=>exact .fn rfl λj hj=>by simp at hj
 |ag hl h=>exact .agg hl λj hj=>(h j hj).toTm
theorem wc.frame{w w':World}{F F':Nat->Prop}{t:TV}{x:Value}(h:wc w F t x)(hw:∀k,F k->k<w.heap.size->w'.heap[k]?=w.heap[k]?)(hF:∀k,F k->k<w.heap.size->F' k):wc w' F' t x:=by
 cases h with
 |im h=>exact .im (h.frame hw hF)
 |fn=>exact .fn
 |ag hl h=>exact .ag hl λj hj=>(h j hj).frame hw hF
theorem Ks{P:Program}{B:cI}(hB:dF P B){f:FuncId}{vals:List TV}{avs:List Value}{res:vl}{w:World}{F:Nat->Prop}(h:B f vals []=some (res,[]))(ZE:res.cells.all Dq=true)(hl:avs.length=vals.length)
 (hv:∀j (h:j<vals.length)(h':j<avs.length),wc w F vals[j] avs[j]):
 Calls P f avs.toArray w λe w'=>∃ys,e=.returned (kz res.sh ys)/\ys.length=res.cells.length/\Below w.heap.size w w'/\∀j (h:j<res.cells.length),io w' (λk=>F k\/w.heap.size<=k) res.cells[j].imm (ys.getD j undef):=by
 obtain⟨ZG,N,ks,hN,hc⟩:=hB f vals [] _ _ h;obtain⟨M,hM⟩:∃M:Fm,M={ w0:=w,A:=λk=>F k\/w.heap.size<=k,W0:=λ_=>False,pr:=λ_=>none,N:=N,hA:=λk hk=>.inr hk }:=⟨_,rfl⟩;have Zz:∀k,F k->frG.F M.A k:=λk hk=>⟨by rw[hM];exact .inl hk,λ_ _ h=>h,λ_ _ _ _ h=>by simp[frG]at h⟩
 have hst:∀i,(mkSt vals []).t i=vals.getD i .dead:=by
  intro i;simp[St.t,mkSt,k8]
 have hE:∀r o,b5 M (mkSt vals []) [] r o=.dead:=by
  intro r o;unfold b5;split
  ·simp
  ·rfl
 have hI:Inv M (mkSt vals []) [] [] (avs.toArray++Array.replicate (N-avs.length) undef) w frG:=by
  refine⟨⟨λr o=>.inl ⟨hE r o,λ_ h=>h⟩,λ_ _ _ _ h=>by simp[frG]at h,λ_ _ _ _ h=>by simp[frG]at h,λ_ _ _ _ _ _ _ h=>by simp[frG]at h,λ_ _ _ _ h=>by simp[frG]at h,λ_ _ _ _ _ h=>h.elim,λ_ _ _ h=>h.elim⟩,λi=>?_,⟨by rw[hM],by rw[hM],by rw[hM],by rw[hM];exact Nat.le_refl _,λ_ _ _ _=>by rw[hM],λ_ _ _ _ h=>by simp[hM]at h,λ_ _ _ h=>h.elim,λ_ _ _ _ h=>by simp[frG]at h,λ_ h=>by simp[frG]at h⟩,λr l h=>by simp[mkSt,b9]at h,?_,rfl,λj hj=>by simp at hj,λ_ _ _ _ h=>by simp[frG]at h,λ_ _ _ h=>by simp[hM]at h⟩
  ·rw[hst];by_cases hi:i<vals.length
   ·have ZT:i<avs.length:=by omega
    have e1:vals.getD i .dead=vals[i]:=by simp[hi]
    have e2:(avs.toArray++Array.replicate (N-avs.length) undef).getD i undef=avs[i]:=by
     simp[Array.getD_eq_getD_getElem?,Array.getElem?_append,ZT]
    rw[e1,e2];exact((hv i hi ZT).frame (w':=w) (F':=frG.F M.A) (λ_ _ _=>rfl) λk hk _=>Zz k hk).toTm
   ·have e1:vals.getD i .dead=.dead:=by rw[oGD,oGN (by omega)];rfl
    rw[e1];exact .dead
  ·rw[hM];simp;omega
 refine(hc M avs w frG hl (by rw[hM]) (by rw[hM]) (λr hr=>by simp[hM]at hr) (λi hi=>by simp[hM]at hi) hI).mono λe w2 ⟨v,σ2,he,Yt,_⟩=>?_
 rcases Yt with⟨ys,ts2,G2,rfl,Z3,_⟩|⟨q,vs,l,pv,ts2,G2,ZV,_⟩
 rotate_left
 ·rw[ZV]at ZE;simp[Dq]at ZE
 have Zu:∀j (h:j<res.cells.length),res.cells[j]≠.dead:=λj hj e=>by
  have:=List.all_eq_true.1 ZE res.cells[j] (List.getElem_mem hj);rw[e]at this;simp[Dq]at this
 obtain⟨G3,hg3,WX⟩:=Z3.dropImm Zu;refine⟨ys,he,Z3.hand.symm,⟨?_,?_,?_,?_,λk hk=>?_⟩,λj hj=>(WX j hj).frame (λ_ _ _=>rfl) λk hk _=>?_⟩
 ·have:=Z3.fram.os;rw[hM]at this;exact this
 ·have:=Z3.fram.tape;rw[hM]at this;exact this
 ·have:=Z3.fram.output;rw[hM]at this;exact this
 ·have:=Z3.fram.size;rw[hM]at this;exact this
 ·have:=Z3.fram.old k (by rw[hM];exact hk) (by rw[hM];exact λh=>h) λ_ _ _ _ h=>by simp[hM]at h
  rw[this,hM]
 ·have:=hk.1;rw[hM]at this;exact this
inductive OR (w:World)(F:Nat->Prop):TV->Value->Prop
 |im {c:List (List TV)} {x:Value} (h:io w F (.sl c) x):OR w F (.sl c) x
 |v {x:Value} (h:gc x=true):OR w F (.v x) x
 |fn {f:FuncId}:OR w F (.fn f []) (.func (.func f) #[] #[])
 |ag {l:List TV} {cs:Array Value} (hl:cs.size=l.length) (h:∀j (hj:j<l.length),∃x,l[j]=.v x/\cs.getD j undef=x):OR w F (.agg l) (.agg cs)
def Hx:TV->Bool
 |.v _=>true
 |_=>false
def zQ:TV->Bool
 |.sl _=>true
 |.v _=>true
 |.fn _ []=>true
 |.agg l=>l.all Hx
 |_=>false
def Nf(P:Program)(f:FuncId)(vals:List TV)(c:List (List TV)):Prop:=
 ∀(asq:List Value)(w:World)(F:Nat->Prop),asq.length=vals.length->(∀j (h:j<vals.length)(h':j<asq.length),OR w F vals[j] asq[j])->
  Calls P f asq.toArray w λe w2=>∃x,e=.returned x/\Below w.heap.size w w2/\io w2 (λk=>F k\/w.heap.size<=k) (.sl c) x
def KZ(R:FuncId->List TV->Option (List (List TV))):cI:=λf vals pts=>
 match pts with
 | []=>if vals.all zQ then(R f vals).map λc=>(⟨[.sl c],[.one]⟩,[])else none
 |_=>none
theorem Oa{P:Program}{R:FuncId->List TV->Option (List (List TV))}(hR:∀f vals c,R f vals=some c->gS P f/\Nf P f vals c):dF P (KZ R):=by
 intro f vals pts res ZJ h
 cases pts with
 |cons _ _=>simp[KZ]at h
 |nil=>
  simp only[KZ]at h;split at h
  case isFalse=>simp at h
  rename_i ZX;simp only[List.all_eq_true]at ZX
  obtain⟨c,hc,he⟩:∃c,R f vals=some c/\(⟨[.sl c],[.one]⟩,[])=(res,ZJ):=by
   cases hr:R f vals with
   |none=>simp[hr]at h
   |some c=>exact⟨c,rfl,by simpa[hr]using h⟩
  injection he with e1 e2
  subst e1 e2;obtain⟨ZG,UJ⟩:=hR f vals c hc;refine⟨ZG,vals.length,[],Nat.le_refl _,λM asq w G hal hN SI Y4 hkp hI=>?_⟩;subst SI
  have TP:asq.toArray++Array.replicate (vals.length-asq.length) undef=asq.toArray:=by rw[hal];simp
  rw[TP]at hI
  have hst:∀j,(mkSt vals []).t j=vals.getD j .dead:=by
   intro j;simp[St.t,mkSt,k8]
  refine(UJ asq M.w0 (G.F M.A) hal λj hj ZY=>?_).mono λe w2 ⟨x,WU,hb,WX⟩=>?_
  ·have ht:=hI.tmr j;rw[hst]at ht
   have e1:vals.getD j .dead=vals[j]:=by simp[hj]
   have e2:asq.toArray.getD j undef=asq[j]:=by simp[Array.getD_eq_getD_getElem?,ZY]
   rw[e1,e2]at ht;have ha:=ZX _ (List.getElem_mem hj);revert ht ha;generalize vals[j]=t;generalize asq[j]=y;intro ht ha
   cases ht with
   |v h=>exact .v h
   |sl h=>exact .im h
   | @fn f l xs hl h=>
    cases l with
    |nil=>
     have:xs=#[]:=Array.eq_empty_of_size_eq_zero (by simpa using hl);subst this;exact .fn
    |cons _ _=>simp[zQ]at ha
   | @agg l cs hl h=>
    refine .ag hl λj hj=>?_;have h1:Hx l[j]=true:=List.all_eq_true.1 ha _ (List.getElem_mem hj);have h2:=h j hj;revert h1 h2;generalize l[j]=t;intro h1 h2
    cases t with
    |v x=>exact⟨x,rfl,by cases h2;rfl⟩
    |_=>simp[Hx]at h1
   |_=>simp[zQ]at ha
  ·obtain⟨Z3,_⟩:=hI.grow (w':=w2) (λk hk=>hb.block k hk) hb.size hb.os hb.tape hb.output
   have hF:∀k,G.F M.A k\/M.w0.heap.size<=k->G.F M.A k:=by
    rintro k (hk|hk)
    ·exact hk
    ·refine⟨M.hA k hk,λr o hφ=>?_,λr b o n hβ e=>?_⟩
     ·have:=hI.core.live hφ;omega
     ·subst e;have:=hI.core.boxlt hβ;omega
   obtain⟨G',hg⟩:=Z3.addHand (WX.frame (F':=G.F M.A) (λ_ _ _=>rfl) λk hk _=>hF k hk).toOwn;refine⟨x,mkSt vals [],WU,.inl ⟨[x],asq.toArray,G',rfl,hg.1,λj hj=>?_⟩,rfl⟩
   have:j=0:=by simpa using hj
   subst this;exact .inl rfl
theorem BD{E:Env}{T:FuncId->Option TFn}{B:cI}{c:Ctr}(hT:T c.f=none)(hB:me B c):Lvl E T B 1 c:=by
 intro k _ h o x ho hx
 have e:runF E T B (NN+k) c.f=B c.f:=by
  obtain⟨n,hn⟩:∃n,NN+k=n+1:=⟨NN-1+k,by have:0<NN:=(by decide);omega⟩;rw[hn];funext vals pts;simp only[runF,Bc,hT]
 rw[e];exact hB h o x ho hx
abbrev PID:=Int×Int
def cO(a b:PID):Bool:=if(a.1==-1) != (b.1==-1)then b.1==-1 else decide (a.1<b.1)||(a.1==b.1&&decide (a.2<b.2))
def nh:List PID->PID->List PID
 | [],x=>[x]
 |y::r,x=>if cO y x then y::nh r x else if y=x then y::r else x::y::r
def lM(l:List PID):List PID:=l.foldl nh []
def rT(x:PID):List TV:=[.v (.int .i64 x.1),.v (.int .i64 x.2)]
def K7:List (List TV)->Option (List PID)
 | []=>some []
 |e::r=>match e with
  | [.v (.int .i64 a),.v (.int .i64 b)]=>(K7 r).map ((a,b) :: ·)
  |_=>none
def Cf:List (List TV)->Option (List (List PID))
 | []=>some []
 |e::r=>match e with
  | [.sl c]=>(K7 c).bind λl=>(Cf r).map (l :: ·)
  |_=>none
theorem yF:∀l:List PID,K7 (l.map rT)=some l
 | []=>rfl
 |x::r=>by simp[K7,rT,yF r]
theorem Ce:∀{c:List (List TV)}{l:List PID},K7 c=some l->c=l.map rT
 | [],l,h=>by simp only[K7,oSJ]at h;subst h;rfl
 |e::r,l,h=>by
  simp only[K7]at h;split at h
  ·obtain⟨l',h1,rfl⟩:=Option.map_eq_some_iff.1 h;rw[Ce h1];rfl
  ·simp at h
theorem DJ:∀{c:List (List TV)}{l:List (List PID)},Cf c=some l->c=l.map λx=>[TV.sl (x.map rT)]
 | [],l,h=>by simp only[Cf,oSJ]at h;subst h;rfl
 |e::r,l,h=>by
  simp only[Cf]at h;split at h
  ·rename_i c;obtain⟨x,h1,h2⟩:=Option.bind_eq_some_iff.1 h;obtain⟨l',h3,rfl⟩:=Option.map_eq_some_iff.1 h2;rw[DJ h3,Ce h1];rfl
  ·simp at h
theorem Aw:∀l:List (List PID),Cf (l.map λx=>[TV.sl (x.map rT)])=some l
 | []=>rfl
 |x::r=>by simp[Cf,yF,Aw r]
def Row(w:World)(F:Nat->Prop)(A:Option Addr)(cs:List Value):Prop:=
 ∀i (_:i<cs.length),∃b off,A=some ⟨b,off,none⟩/\F b/\w.cell? ⟨b,off+i,none⟩=some cs[i]
def IM(k:IntKind)(w:World)(F:Nat->Prop)(A:Option Addr)(xs:List Int):Prop:=Row w F A (xs.map (.int k))
def jO(F:Nat->Prop)(w w':World):Prop:=∀k,F k->w'.heap[k]?=w.heap[k]?
theorem jO.refl(F:Nat->Prop)(w:World):jO F w w:=λ_ _=>rfl
theorem jO.trans{F:Nat->Prop}{a b c:World}(h:jO F a b)(h':jO F b c):jO F a c:=λk hk=>(h' k hk).trans (h k hk)
theorem jO.sub{F G:Nat->Prop}{a b:World}(h:jO F a b)(hs:∀k,G k->F k):jO G a b:=λk hk=>h k (hs k hk)
theorem jO.drewN{F:Nat->Prop}{a b:World}(h:jO F a b)(n:Nat):jO F a (b.drewN n):=h
theorem jO.drew{F:Nat->Prop}{a b:World}(h:jO F a b):jO F a b.drew:=h
theorem jO.alloc{F:Nat->Prop}{a b:World}(h:jO F a b)(hF:∀k,F k->k<b.heap.size)(o:Obj):jO F a (b.alloc o):=
 λk hk=>(heap_alloc_old b o (hF k hk)).trans (h k hk)
theorem jO.setCell{F:Nat->Prop}{a b:World}(h:jO F a b){p:Addr}(hp:¬F p.block)(u:Value):jO F a (b.setCell p u):=
 λk hk=>(Below.heap_setCell b p u k (λe=>hp (e▸hk))).trans (h k hk)
theorem jO.cell{F:Nat->Prop}{a b:World}(h:jO F a b){p:Addr}(hp:F p.block):b.cell? p=a.cell? p:=World.cell?_of_block (h p.block hp)
theorem Row.keep{w w':World}{F:Nat->Prop}{A:Option Addr}{cs:List Value}(h:Row w F A cs)(ha:jO F w w'):Row w' F A cs:=by
 intro i hi;obtain⟨b,off,e,hF,hc⟩:=h i hi;exact⟨b,off,e,hF,by rw[ha.cell (p:=⟨b,off+i,none⟩) hF];exact hc⟩
theorem Row.sub{w:World}{F G:Nat->Prop}{A:Option Addr}{cs:List Value}(h:Row w F A cs)(hs:∀k,F k->G k):Row w G A cs:=by
 intro i hi;obtain⟨b,off,e,hF,hc⟩:=h i hi;exact⟨b,off,e,hs _ hF,hc⟩
theorem Row.nil(w:World)(F:Nat->Prop)(A:Option Addr):Row w F A []:=λi hi=>absurd hi (by simp)
theorem IM.keep{k:IntKind}{w w':World}{F:Nat->Prop}{A:Option Addr}{xs:List Int}(h:IM k w F A xs)(ha:jO F w w'):IM k w' F A xs:=Row.keep h ha
theorem IM.at_{k:IntKind}{w:World}{F:Nat->Prop}{A:Option Addr}{xs:List Int}(h:IM k w F A xs){i:Nat}(hi:i<xs.length):
 ∃b off,A=some ⟨b,off,none⟩/\F b/\w.cell? ⟨b,off+i,none⟩=some (.int k xs[i]):=by
 obtain⟨b,off,e,hF,hc⟩:=h i (by simpa using hi);exact⟨b,off,e,hF,by simpa using hc⟩
theorem Row.grown{w w':World}{F:Nat->Prop}{A:Option Addr}{cs:List Value}(h:Row w F A cs)(hg:w.grownBy w' none)(hF:∀k,F k->k<w.heap.size):Row w' F A cs:=
 h.keep λk hk=>hg.block k (hF k hk) (by simp)
theorem IM.grown{k:IntKind}{w w':World}{F:Nat->Prop}{A:Option Addr}{xs:List Int}(h:IM k w F A xs)(hg:w.grownBy w' none)(hF:∀k,F k->k<w.heap.size):IM k w' F A xs:=Row.grown h hg hF
theorem IM.low{k:IntKind}{w w':World}{A:Option Addr}{xs:List Int}(h:IM k w (λk=>k<w.heap.size) A xs)(hg:w.grownBy w' none):IM k w' (λk=>k<w'.heap.size) A xs:=
 Row.sub (Row.grown h hg λ_ h=>h) λk hk=>Nat.lt_of_lt_of_le hk hg.size
def New(w w':World)(k:Nat):Prop:=w.heap.size<=k/\k<w'.heap.size
def H9(f:Nat->Value):Operand->Value
 |.tmp t=>f t
 |.const v=>v
 |.global g=>.pointer (some ⟨g,0,none⟩)
 |.func f=>.func (.func f) #[] #[]
def I8(f:Nat->Value):Option Tmp->Value
 |some t=>f t
 |none=>undef
def D4(f:Nat->Value)(o:Oper):Value:=
 match o.dst with
 |some t=>f t
 |none=>match o.op with
  |.store _ (.tmp t) _=>f t
  |_=>undef
def xp(f:Nat->Value)(o:Oper)(v:Value):Value:=
 match o.dst with
 |some _=>v
 |none=>D4 f o
def ly(o:Oper)(j:Nat):Bool:=o.after.toList.any λe=>e.on==j&&Region.binds .any e
def mT(l:List Oper)(t:Tmp):Option Nat:=l.findIdx? λo=>o.dst==some t
def DV(l:List Oper)(old:Nat->Value)(Ss:List (Value->World->Prop))(o:Oper)(f:Nat->Value)(w:World)(t:Tmp):Prop:=
 match mT l t with
 |none=>f t=old t
 |some j=>if ly o j then(Ss.getD j λ_ _=>False) (f t) w else f t=old t
def D2(l:List Oper)(f:Nat->Value)(o:Oper):Bool:=
 match o.guard with
 |none=>true
 |some (j,b)=>match(l[j]?).bind (·.dst)with
  |some d=>(match f d with|.bool c=>c==b|_=>false)
  |none=>false
def p6(P:Program)(Un:Value->World->Prop):Result Next->Prop
 |.ok (.value v) w'=>Un v w'
 |.ok .skip w'=>Un undef w'
 |.ok (.enter f args) w'=>Calls P f args w' λe Xx=>∃v,e=.returned v/\Un v Xx
 |_=>False
def Nb(base:World->Prop)(R:World->World->Prop)(s:Value->World->Prop)(w:World)(v:Value)(w':World):Prop:=base w'/\R w w'/\s v w'
def O4(P:Program)(l:List Oper)(old:Nat->Value)(base:World->Prop)(R:World->World->Prop)(Ss:List (Value->World->Prop))(o:Oper)(s:Value->World->Prop):Prop:=
 ∀(f:Nat->Value)(w:World),base w->(∀t∈o.looksAt l.toArray,DV l old Ss o f w t)->
  if D2 l f o=true then p6 P (λv w'=>Nb base R s w (xp f o v) w') ((execOp (H9 f) o).run P w)else s (xp f o undef) w
def ro(P:Program)(l:List Oper)(old:Nat->Value)(base:World->Prop)(R:World->World->Prop)(Ss:List (Value->World->Prop)):List Oper->List (Value->World->Prop)->Prop
 | [],[]=>True
 |o::r,s::rs=>O4 P l old base R Ss o s/\ro P l old base R Ss r rs
 |_,_=>False
def Ng(R:World->World->Prop):List (Value->World->Prop)->Prop
 | []=>True
 |s::r=>(∀w w' u,R w w'->s u w->s u w')/\Ng R r
def jp(f:Nat->Value):List Oper->Act->Act
 | [],a=>a
 |o::r,a=>jp f r (a.put o.dst (I8 f o.dst))
def Nt(f:Nat->Value)(w:World):List Oper->List (Value->World->Prop)->Prop
 |o::r,s::rs=>s (D4 f o) w/\Nt f w r rs
 |_,_=>True
def Bq(l:List Oper)(n:Nat):Bool:=
 (l.zipIdx.all λ(o,k)=>
  (match o.dst with|some d=>mT l d==some k&&decide (d<n)|none=>true) &&
  (o.after.all λe=>!Region.binds .any e||decide (e.on<k)) &&
  (o.looksAt l.toArray).all λt=>match mT l t with
   |none=>true
   |some j=>ly o j||ly (l.getD j default) k) &&
 (l.all λo=>match o.dst,o.op with
  |none,.store _ (.tmp t) _=>(match mT l t with|none=>true|some j=>ly o j)
  |_,_=>true) &&
 l.all λo=>match o.guard with
  |none=>true
  |some (j,_)=>match(l[j]?).bind (·.dst)with|some d=>(o.looksAt l.toArray).contains d|none=>false
section
variable {P:Program} {l:List Oper} {a0:Act} {base:World->Prop} {R:World->World->Prop} {Ss:List (Value->World->Prop)}
structure JJ (l:List Oper)(a0:Act)(base:World->Prop)(Ss:List (Value->World->Prop))(listed:Array Bool)(a:Act)(w:World):Prop where
 base_:base w
 defers:a.defers=a0.defers
 lsize:listed.size=l.length
 asize:a.tmps.size=a0.tmps.size
 old:∀t,(∀(j:Nat) o,l[j]?=some o->o.dst=some t->listed.getD j true=false)->a.tmps.getD t undef=a0.tmps.getD t undef
 says:∀(j:Nat) o s,l[j]?=some o->Ss[j]?=some s->listed.getD j false=true->s (D4 (λt=>a.tmps.getD t undef) o) w
 down:∀(j:Nat) o,l[j]?=some o->listed.getD j false=true->∀e∈o.after,Region.binds .any e=true->listed.getD e.on false=true
theorem KB(a:Act):a.eval=H9 λt=>a.tmps.getD t undef:=by funext x;cases x<;>rfl
theorem ro.at_{lo:List Oper}{ls:List (Value->World->Prop)}:∀{o:Oper}{k:Nat},ro P l (λt=>a0.tmps.getD t undef) base R Ss lo ls->lo[k]?=some o->∃s,ls[k]?=some s/\O4 P l (λt=>a0.tmps.getD t undef) base R Ss o s:=by
 induction lo generalizing ls with
 |nil=>intro o k _ h;simp at h
 |cons x r ih=>
  intro o k hd h
  match ls,hd with
  |s::rs,hd=>
   cases k with
   |zero=>simp at h;subst h;exact⟨s,rfl,hd.1⟩
   |succ k=>simpa using ih hd.2 (by simpa using h)
theorem Ng.at_:∀{ls:List (Value->World->Prop)}{k:Nat}{s:Value->World->Prop},Ng R ls->ls[k]?=some s->∀w w' u,R w w'->s u w->s u w'
 | [],_,_,_,h=>by simp at h
 |x::r,0,s,hk,h=>by simp at h;subst h;exact hk.1
 |x::r,k+1,s,hk,h=>Ng.at_ hk.2 (by simpa using h)
theorem A4{t:Tmp}{j:Nat}(h:mT l t=some j):∃o,l[j]?=some o/\o.dst=some t:=by
 unfold mT at h;rw[List.findIdx?_eq_some_iff_getElem]at h;obtain⟨hj,h1,_⟩:=h;exact⟨l[j],oGE hj,by simpa using h1⟩
theorem A5{t:Tmp}(h:mT l t=none):∀(j:Nat) o,l[j]?=some o->o.dst≠some t:=by
 unfold mT at h;rw[List.findIdx?_eq_none_iff]at h;intro j o hj e;have:=h o (List.mem_of_getElem? hj);simp[e]at this
theorem oC{n:Nat}(h:Bq l n=true){k:Nat}{o:Oper}(hk:l[k]?=some o):
 (∀d,o.dst=some d->mT l d=some k/\d<n)/\(∀e∈o.after,Region.binds .any e=true->e.on<k)/\
 (∀t∈o.looksAt l.toArray,∀j,mT l t=some j->ly o j=true\/ly (l.getD j default) k=true)/\
 (∀y t x,o.dst=none->o.op=.store y (.tmp t) x->∀j,mT l t=some j->ly o j=true)/\
 (∀j b,o.guard=some (j,b)->∃d,(l[j]?).bind (·.dst)=some d/\d∈o.looksAt l.toArray):=by
 simp only[Bq,oBA,List.all_eq_true]at h;obtain⟨⟨h1,hst⟩,h2⟩:=h
 have hm:(o,k)∈l.zipIdx:=by rw[List.mem_zipIdx_iff_getElem?];simpa using hk
 have h3:=h1 _ hm;simp only[oBA,List.all_eq_true]at h3;obtain⟨⟨h4,h5⟩,h6⟩:=h3;refine⟨λd hd=>?_,λe he hb=>?_,λt ht j hj=>?_,λy t x hd hop j hw=>?_,λj b hg=>?_⟩
 ·rw[hd]at h4;simpa using h4
 ·have:=(Array.all_eq_true_iff_forall_mem.1 h5) e he;simpa[hb]using this
 ·have:=h6 t ht;rw[hj]at this;simpa using this
 ·have:=hst o (List.mem_of_getElem? hk);rw[hd,hop]at this;simp only[hw]at this;exact this
 ·have:=h2 o (List.mem_of_getElem? hk);rw[hg]at this;simp only at this
  cases hd:(l[j]?).bind (·.dst)with
  |none=>rw[hd]at this;simp at this
  |some d=>rw[hd]at this;exact⟨d,rfl,by simpa using this⟩
theorem ug{o:Oper}{j:Nat}(h:ly o j=true):∃e∈o.after,e.on=j/\Region.binds .any e=true:=by
 unfold ly at h;rw[List.any_eq_true]at h;obtain⟨e,he,hx⟩:=h;simp only[oBA,beq_iff_eq]at hx;exact⟨e,by simpa using he,hx.1,hx.2⟩
theorem qB{listed:Array Bool}{i j:Nat}{b:Bool}(hi:i<listed.size):(listed.setIfInBounds i true).getD j b=if i=j then true else listed.getD j b:=by
 by_cases e:i=j
 ·subst e;simp[Array.getD,hi]
 ·simp only[oIN e];simp only[Array.getD,Array.size_setIfInBounds];split
  ·exact Array.getElem_setIfInBounds_ne _ e
  ·rfl
theorem qC{a:Act}{d t:Nat}{v:Value}(hd:d<a.tmps.size):(a.put (some d) v).tmps.getD t undef=if d=t then v else a.tmps.getD t undef:=by
 unfold Act.put;by_cases e:d=t
 ·subst e;simp[Array.getD,hd]
 ·simp only[oIN e];simp only[Array.getD,Array.size_setIfInBounds];split
  ·exact Array.getElem_setIfInBounds_ne _ e
  ·rfl
theorem JJ.step(T9:∀w,R w w)(hB:Bq l a0.tmps.size=true)(hD:ro P l (λt=>a0.tmps.getD t undef) base R Ss l Ss)(hK:Ng R Ss){listed:Array Bool}{a:Act}{w:World}{Q:Exit->Act->World->Prop}(h:JJ l a0 base Ss listed a w){i:Nat}(hi:i∈Region.ready .any l.toArray listed):
 wpOp P l.toArray Q i (λa' w'=>JJ l a0 base Ss (listed.setIfInBounds i true) a' w') a w:=by
 obtain⟨WN,o,ho,Y2⟩:=mem_ready.1 hi
 have Zj:l[i]?=some o:=by simpa using ho
 have Yv:i<listed.size:=by rw[h.lsize];exact(oGS Zj).1
 obtain⟨ZR,ZZ,Ub,Rb,hb4⟩:=oC hB Zj;obtain⟨s,hs,S4⟩:=hD.at_ Zj
 have YQ:∀t∈o.looksAt l.toArray,DV l (λt=>a0.tmps.getD t undef) Ss o (λt=>a.tmps.getD t undef) w t:=by
  intro t ht;unfold DV
  cases hw:mT l t with
  |none=>exact h.old t λj o' hj hd=>absurd hd (A5 hw j o' hj)
  |some j=>
   obtain⟨oj,Yz,U'⟩:=A4 hw;by_cases hwt:ly o j=true
   ·simp only[hwt,if_true];obtain⟨e,he,Tw,U7⟩:=ug hwt
    have Ve:listed.getD j false=true:=by rw[<- Tw];exact Y2 e he U7
    obtain⟨sj,VT,_⟩:=hD.at_ Yz;have:=h.says j oj sj Yz VT Ve;simpa[List.getD,VT,D4,U']using this
   ·simp only[hwt];refine h.old t λj' o' ZY hd'=>?_
    have hjj:j'=j:=by
     have:=((oC hB ZY).1 t hd').1
     rw[hw]at this;injection this with this;exact this.symm
    subst hjj;rcases Ub t ht j' hw with h'|h'
    ·exact absurd h' hwt
    ·have e:l.getD j' default=oj:=by simp[List.getD,Yz]
     rw[e]at h';obtain⟨ed,Rj,Tw,U7⟩:=ug h'
     cases hl:listed.getD j' true with
     |false=>rfl
     |true=>
      exfalso
      have hjl:j'<listed.size:=by rw[h.lsize];exact(oGS Yz).1
      have Yw:listed.getD j' false=true:=by simpa[Array.getD,hjl]using hl
      have:=h.down j' oj Yz Yw ed Rj U7;rw[Tw]at this;simp[Array.getD,Yv]at this WN;rw[this]at WN;cases WN
 have VE:=S4 (λt=>a.tmps.getD t undef) w h.base_ YQ
 have TU:Region.wanted o (yielded l.toArray a.tmps)=D2 l (λt=>a.tmps.getD t undef) o:=by
  unfold Region.wanted D2
  cases hg:o.guard with
  |none=>rfl
  |some p=>
   obtain⟨j,b⟩:=p;obtain⟨d,hd,_⟩:=hb4 j b hg
   have P0:d<a.tmps.size:=by
    rw[h.asize];obtain⟨oj,Yz,U'⟩:=Option.bind_eq_some_iff.1 hd;exact((oC hB Yz).1 d U').2
   have hy:yielded l.toArray a.tmps j=(match a.tmps.getD d undef with|.bool c=>some c|_=>none):=by
    unfold yielded
    have e:(l.toArray[j]?).bind (·.dst)=some d:=by simpa using hd
    rw[e];simp only[oBS];rw[Array.getElem?_eq_getElem P0];simp only[Array.getD,P0,dif_pos,Array.getInternal_eq_getElem];cases a.tmps[d]<;>rfl
   simp only[hd];rw[hy];cases a.tmps.getD d undef<;>simp
 have Xd:∀v w',Nb base R s w (xp (λt=>a.tmps.getD t undef) o v) w'->JJ l a0 base Ss (listed.setIfInBounds i true) (a.put o.dst v) w':=by
  intro v w' ⟨hb,hR,Qt⟩
  have hsz:(a.put o.dst v).tmps.size=a.tmps.size:=by unfold Act.put;split<;>simp
  refine⟨hb,by rw[<- h.defers];unfold Act.put;split<;>rfl,by simpa using h.lsize,hsz.trans h.asize,λt ht=>?_,λj oj sj Yz VT Ve=>?_,λj oj Yz Ve e he U7=>?_⟩
  ·have SH:o.dst≠some t:=λe=>by
    have:=ht i o Zj e;rw[qB Yv]at this;simp at this
   have ZA:=h.old t λj oj Yz U'=>by
    have:=ht j oj Yz U';rw[qB Yv]at this;split at this
    ·cases this
    ·exact this
   rw[<- ZA]
   cases hd:o.dst with
   |none=>rfl
   |some d=>rw[qC (by rw[h.asize];exact(ZR d hd).2),oIN (by rintro rfl;exact SH hd)]
  ·by_cases e:i=j
   ·subst e
    rw[Zj]at Yz;injection Yz with Yz;subst Yz
    rw[hs]at VT;injection VT with VT;subst VT
    cases hd:o.dst with
    |none=>
     have e1:(a.put none v).tmps=a.tmps:=rfl
     have e2:xp (λt=>a.tmps.getD t undef) o v=D4 (λt=>a.tmps.getD t undef) o:=by unfold xp;rw[hd]
     rw[e1,<- e2];exact Qt
    |some d=>
     have e2:xp (λt=>a.tmps.getD t undef) o v=v:=by unfold xp;rw[hd]
     have e3:D4 (λt=>(a.put (some d) v).tmps.getD t undef) o=v:=by
      unfold D4;rw[hd];simp only;rw[qC (by rw[h.asize];exact(ZR d hd).2),oIP rfl]
     rw[e3,<- e2];exact Qt
   ·rw[qB Yv,oIN e]at Ve;have ZA:=hK.at_ VT w w' _ hR (h.says j oj sj Yz VT Ve)
    have Y5:∀t,o.dst≠some t->(a.put o.dst v).tmps.getD t undef=a.tmps.getD t undef:=λt ht=>by
     cases hd:o.dst with
     |none=>rfl
     |some d'=>rw[qC (by rw[h.asize];exact(ZR d' hd).2),oIN (by rintro rfl;exact ht hd)]
    have RZ:D4 (λt=>(a.put o.dst v).tmps.getD t undef) oj=D4 (λt=>a.tmps.getD t undef) oj:=by
     unfold D4
     cases U':oj.dst with
     |some d=>
      refine Y5 d λhd=>?_;have h1:=(ZR d hd).1;have h2:=((oC hB Yz).1 d U').1;rw[h1]at h2
      injection h2 with h2
      exact e h2
     |none=>
      cases hop:oj.op with
      |store y t x=>
       cases t with
       |tmp t=>
        refine Y5 t λhd=>?_;have h1:=(ZR t hd).1;have h2:=(oC hB Yz).2.2.2.1 y t x U' hop i h1;obtain⟨ed,Rj,Tw,U7⟩:=ug h2;have:=h.down j oj Yz Ve ed Rj U7;rw[Tw]at this;simp[Array.getD,Yv]at this WN;rw[this]at WN;cases WN
       |const _=>rfl
       |global _=>rfl
       |func _=>rfl
      |_=>rfl
    rw[RZ];exact ZA
  ·rw[qB Yv];split
   ·rfl
   ·by_cases e':i=j
    ·subst e'
     rw[Zj]at Yz;injection Yz with Yz;subst Yz
     exact Y2 e he U7
    ·rw[qB Yv,oIN e']at Ve;exact h.down j oj Yz Ve e he U7
 unfold wpOp;simp only[ho];rw[TU];by_cases hw:D2 l (λt=>a.tmps.getD t undef) o=true
 ·rw[oIP hw]at VE⊢;refine .inl ?_;unfold Oper.wp;rw[KB];generalize(execOp (H9 λt=>a.tmps.getD t undef) o).run P w=r at VE
  cases r with
  |ok n w'=>
   cases n<;>simp only[p6]at VE<;>simp only[Oper.upon]
   case value v=>exact Xd v w' VE
   case skip=>exact Xd undef w' VE
   case enter fn args=>exact VE.mono λe Xx ⟨v,he,hp⟩=>by subst he;exact Xd v Xx hp
  |halt x w'=>simp only[p6]at VE
 ·rw[oIN hw]at VE⊢;exact Xd undef w ⟨h.base_,T9 w,VE⟩
theorem wR{n:Nat}(hB:Bq l n=true){listed:Array Bool}(hs:listed.size=l.length)(hr:Region.ready .any l.toArray listed=[]):∀(k:Nat),k<l.length->listed.getD k false=true:=by
 intro k
 induction k using Nat.strongRecOn with
 |_ k ih=>
  intro hk
  cases hl:listed.getD k false with
  |true=>rfl
  |false=>
   exfalso;have ho:l[k]?=some l[k]:=oGE hk
   have:k∈Region.ready .any l.toArray listed:=by
    refine mem_ready.2 ⟨?_,l[k],by simp,λe he hb=>?_⟩
    ·have:k<listed.size:=by omega
     simpa[Array.getD,this]using hl
    ·have:=(oC hB ho).2.1 e he hb;exact ih e.on this (by omega)
   rw[hr]at this;cases this
theorem wh(T9:∀w,R w w)(hB:Bq l a0.tmps.size=true)(hD:ro P l (λt=>a0.tmps.getD t undef) base R Ss l Ss)(hK:Ng R Ss){Q:Exit->Act->World->Prop}
 (Xk:∀listed a w,(∀k,k<l.length->listed.getD k false=true)->JJ l a0 base Ss listed a w->Q .normal a w):
 ∀(X3:Nat)(listed:Array Bool)(a:Act)(w:World),JJ l a0 base Ss listed a w->(∃c:List Bool,c.length=l.length/\listed.toList=c/\c.count false=X3)->wpAny P .any l.toArray Q X3 listed a w
 |0,listed,a,w,h,⟨c,Zg,Zp,Ud⟩=>by
  have hr:Region.ready .any l.toArray listed=[]:=by
   rw[List.eq_nil_iff_forall_not_mem];intro i hi;have WN:=(mem_ready.1 hi).1
   have Yv:i<listed.size:=by
    rcases Nat.lt_or_ge i listed.size with h'|h'
    ·exact h'
    ·simp[Array.getD,Nat.not_lt.2 h']at WN
   have:false∈c:=by
    rw[<- Zp]
    have h1:listed[i]=false:=by simpa[Array.getD,Yv]using WN
    rw[<- h1];simp
   exact absurd (List.count_pos_iff.2 this) (by omega)
  exact⟨hr,Xk _ _ _ (wR hB h.lsize hr) h⟩
 |X3+1,listed,a,w,h,⟨c,Zg,Zp,Ud⟩=>by
  refine⟨λhr=>Xk _ _ _ (wR hB h.lsize hr) h,λi hi=>?_⟩;refine wpOp_mono (λa' w' h'=>wh T9 hB hD hK Xk X3 _ a' w' h' ?_) (h.step T9 hB hD hK hi);have WN:=(mem_ready.1 hi).1
  have Yv:i<listed.size:=by
   rcases Nat.lt_or_ge i listed.size with h'|h'
   ·exact h'
   ·simp[Array.getD,Nat.not_lt.2 h']at WN
  have h1:listed[i]=false:=by simpa[Array.getD,Yv]using WN
  refine⟨_,?_,rfl,?_⟩
  ·simp;have:=h.lsize;omega
  ·rw[Array.toList_setIfInBounds,List.count_set (by simpa using Yv)];subst Zp;rw[Ud];simp[h1]
theorem Ib{f:Nat->Value}{w:World}:∀{lo:List Oper}{ls:List (Value->World->Prop)},(∀(k:Nat) o s,lo[k]?=some o->ls[k]?=some s->s (D4 f o) w)->Nt f w lo ls
 | [],_,_=>by unfold Nt;trivial
 |_::_,[],_=>by unfold Nt;trivial
 |o::r,s::rs,h=>⟨h 0 o s rfl rfl,Ib λk o' s' h1 h2=>h (k+1) o' s' (by simpa using h1) (by simpa using h2)⟩
theorem t7(f:Nat->Value):∀(lo:List Oper)(a:Act),(jp f lo a).tmps.size=a.tmps.size
 | [],_=>rfl
 |o::r,a=>by
  rw[jp,t7 f r];unfold Act.put;split<;>simp
theorem p8(f:Nat->Value):∀(lo:List Oper)(a:Act),(jp f lo a).defers=a.defers
 | [],_=>rfl
 |o::r,a=>by
  rw[jp,p8 f r];unfold Act.put;split<;>rfl
theorem t8(f:Nat->Value):∀(lo:List Oper)(a:Act)(t:Nat),t<a.tmps.size ->
 (jp f lo a).tmps.getD t undef=f t/\(∃o∈lo,o.dst=some t)\/(jp f lo a).tmps.getD t undef=a.tmps.getD t undef/\∀o∈lo,o.dst≠some t
 | [],_,_,_=>.inr ⟨rfl,by simp⟩
 |o::r,a,t,ht=>by
  have hsz:(a.put o.dst (I8 f o.dst)).tmps.size=a.tmps.size:=by unfold Act.put;split<;>simp
  rcases t8 f r (a.put o.dst (I8 f o.dst)) t (by rw[hsz];exact ht)with⟨h1,o',h2,h3⟩|⟨h1,h2⟩
  ·exact .inl ⟨h1,o',List.mem_cons_of_mem _ h2,h3⟩
  ·by_cases hd:o.dst=some t
   ·refine .inl ⟨?_,o,List.mem_cons_self ..,hd⟩;rw[jp,h1,hd,qC ht,oIP rfl];rfl
   ·refine .inr ⟨?_,λo' Zj=>?_⟩
    ·rw[jp,h1]
     cases hd':o.dst with
     |none=>rfl
     |some d=>
      by_cases hds:d<a.tmps.size
      ·rw[qC hds,oIN (by rintro rfl;exact hd hd')]
      ·unfold Act.put;simp[Array.setIfInBounds,hds]
    ·rcases List.mem_cons.1 Zj with rfl|h'
     ·exact hd
     ·exact h2 o' h'
theorem vn{id:Nat}{w0:World}{Q:Exit->Act->World->Prop}(base:World->Prop)(R:World->World->Prop)(Ss:List (Value->World->Prop))
 (n:Nat)(hm:P.follows .mixedOrders=true)(hn:a0.tmps.size=n)(Su:Bq l n=true)(h0:base w0.drew)(T9:∀w,R w w)(hK:Ng R Ss)
 (hD:ro P l (λt=>a0.tmps.getD t undef) base R Ss l Ss)
 (Xk:∀f w,base w->Nt f w l Ss->Q .normal (jp f l a0) w):(Code.region id l.toArray true).wp P Q a0 w0:=by
 have hB:Bq l a0.tmps.size=true:=by rw[hn];exact Su
 refine wp_region_any hm ?_;refine wh (a0:=a0) (R:=R) (Ss:=Ss) T9 hB hD hK (λlisted a w hl h=>?_) _ _ _ _ (?_:JJ l a0 base Ss _ _ _) ⟨_,?_,rfl,?_⟩
 ·have e:a=jp (λt=>a.tmps.getD t undef) l a0:=by
   have hd:a.defers=(jp (λt=>a.tmps.getD t undef) l a0).defers:=by rw[p8,h.defers]
   have ht:a.tmps=(jp (λt=>a.tmps.getD t undef) l a0).tmps:=by
    refine Array.ext (by rw[t7,h.asize]) λi h1 h2=>?_
    have hi0:i<a0.tmps.size:=by rw[<- h.asize];exact h1
    have e1:a.tmps[i]=a.tmps.getD i undef:=by simp[Array.getD,h1]
    have e2:(jp (λt=>a.tmps.getD t undef) l a0).tmps[i]=(jp (λt=>a.tmps.getD t undef) l a0).tmps.getD i undef:=by rw[Array.getD,dif_pos h2];rfl
    rw[e1,e2]
    rcases t8 (λt=>a.tmps.getD t undef) l a0 i hi0 with⟨h3,_⟩|⟨h3,h4⟩
    ·exact h3.symm
    ·rw[h3];exact h.old i λj o ho hd=>absurd hd (h4 o (List.mem_of_getElem? ho))
   cases a;cases hp:jp (λt=>Array.getD _ t undef) l a0;simp only[hp]at hd ht;subst hd;subst ht
   simp_all
  rw[e];exact Xk _ w h.base_ (Ib λk o s ho hs=>h.says k o s ho hs (hl k (oGS ho).1))
 ·exact⟨h0,rfl,by simp,rfl,λ_ _=>rfl,λj o s ho hs hl=>by simp[Array.getD]at hl,λj o ho hl=>by simp[Array.getD]at hl⟩
 ·simp
 ·simp[List.count_replicate]
end
theorem cz{P:Program}{l:List Oper}{old:Nat->Value}{base:World->Prop}{R:World->World->Prop}{Ss:List (Value->World->Prop)}{o:Oper}{r:List Oper}{s:Value->World->Prop}{rs:List (Value->World->Prop)}
 (h:O4 P l old base R Ss o s)(h':ro P l old base R Ss r rs):ro P l old base R Ss (o::r) (s::rs):=⟨h,h'⟩
theorem cJ{P:Program}{l:List Oper}{old:Nat->Value}{base:World->Prop}{R:World->World->Prop}{Ss:List (Value->World->Prop)}{o:Oper}{s:Value->World->Prop}(hg:o.guard=none)
 (h:∀(f:Nat->Value)(w:World),base w->(∀t∈o.looksAt l.toArray,DV l old Ss o f w t)->p6 P (λv w'=>Nb base R s w (xp f o v) w') ((execOp (H9 f) o).run P w)):O4 P l old base R Ss o s:=by
 intro f w hb H
 have:D2 l f o=true:=by unfold D2;rw[hg]
 rw[oIP this];exact h f w hb H
theorem EU{P:Program}{l:List Oper}{old:Nat->Value}{base:World->Prop}{R:World->World->Prop}{Ss:List (Value->World->Prop)}:ro P l old base R Ss [] []:=trivial
def RK(X:Nat->Prop)(w w':World):Prop:=w.heap.size<=w'.heap.size/\∀b,b<w.heap.size->¬X b->w'.heap[b]?=w.heap[b]?
theorem RK.refl(X:Nat->Prop)(w:World):RK X w w:=⟨Nat.le_refl _,λ_ _ _=>rfl⟩
theorem RK.alloc(X:Nat->Prop)(w:World)(o:Obj):RK X w (w.alloc o):=⟨by simp,λ_ hb _=>heap_alloc_old _ _ hb⟩
theorem RK.grown{X:Nat->Prop}{w w':World}{g:Nat}(h:w.grownBy w' (some g))(hg:X g):RK X w w':=⟨h.size,λb hb hx=>h.block b hb (by rintro e;injection e with e;subst e;exact hx hg)⟩
theorem RK.set{X:Nat->Prop}{w w1:World}{p:Addr}(h:RK X w w1)(hp:X p.block)(u:Value):RK X w (w1.setCell p u):=
 ⟨by simpa[World.setCell]using h.1,λb hb hx=>(Below.heap_setCell w1 p u b (by rintro rfl;exact hx hp)).trans (h.2 b hb hx)⟩
theorem RK.cell{X:Nat->Prop}{w w':World}(h:RK X w w'){b o:Nat}(hb:b<w.heap.size)(hx:¬X b):w'.cell? ⟨b,o,none⟩=w.cell? ⟨b,o,none⟩:=World.cell?_of_block (h.2 b hb hx)
def RD(X:Nat->Prop)(D:World->Prop)(w w':World):Prop:=RK X w w'/\(D w->D w')
theorem RD.refl(X:Nat->Prop)(D:World->Prop)(w:World):RD X D w w:=⟨RK.refl X w,id⟩
def na(u:Value)(v:Value)(_:World):Prop:=v=u
def Pq(k:IntKind)(lo hi:Int)(v:Value)(_:World):Prop:=∃n:Int,lo<=n/\n<=hi/\v=.int k n
theorem na.kept{x:Value}{R:World->World->Prop}(w w':World)(u:Value)(_:R w w')(h:na x u w):na x u w':=h
theorem Pq.kept{k:IntKind}{lo hi:Int}{R:World->World->Prop}(w w':World)(u:Value)(_:R w w')(h:Pq k lo hi u w):Pq k lo hi u w':=h
attribute [go_sem] H9 p6 xp D4
end Go.Proofs.YtakfoejcjdcgbaaGreat
namespace Go.Proofs.YtakfoejcjdcgbaaGreat
open Go.RowKit Go.Sort
def GW(W w':World):Prop:=∃q os,w'=grow (W.drewN q) os
theorem GW.refl(W:World):GW W W:=⟨0,#[],by rw[grow_empty];rfl⟩
theorem GW.trans{a b c:World}(h:GW a b)(h':GW b c):GW a c:=by
 obtain⟨q,os,rfl⟩:=h;obtain⟨p,QG,rfl⟩:=h';exact⟨q+p,os++QG,by show grow (grow ((a.drewN q).drewN p) os) QG=_;rw[grow_grow,World.drewN_drewN]⟩
theorem GW.alloc(W:World)(o:Obj):GW W (W.alloc o):=⟨0,#[o],by rw[alloc_eq_grow];rfl⟩
theorem GW.drew(W:World):GW W W.drew:=⟨1,#[],by rw[grow_empty];rfl⟩
def qn(r:Int):Int:=if r=-1 then 1 else 0
def yW(x y:Int):Int:=if x<y then -1 else if y<x then 1 else 0
def orI(a b c:Int):Int:=if a=0 then(if b=0 then c else b)else a
def IQ(x y:PID):Int:=orI (yW (qn x.1) (qn y.1)) (yW x.1 y.1) (yW x.2 y.2)
theorem Dp(x:PID)(W:World):Calls Tryz.prog 117 #[.agg #[.int .i64 x.1,.int .i64 x.2]] W λe w'=>e=.returned (.int .i64 (qn x.1))/\GW W w':=by
 by_cases h:x.1=-1
 ·go_enter Tryz.func117,Tryz.ntmps117
  go_wp2
  go_ret
  exact⟨by simp[qn,h],GW.alloc _ _⟩
 ·go_enter Tryz.func117,Tryz.ntmps117
  go_wp2
  go_ret
  exact⟨by simp[qn,h],GW.alloc _ _⟩
theorem Cu(x y:Int)(W:World):Calls Tryz.prog 116 #[.int .i64 x,.int .i64 y] W λe w'=>e=.returned (.int .i64 (yW x y))/\GW W w':=by
 by_cases h:x<y
 ·go_enter Tryz.func116,Tryz.ntmps116
  go_wp2
  go_ret
  exact⟨by simp[yW,h],GW.refl _⟩
 ·by_cases h2:y<x
  ·go_enter Tryz.func116,Tryz.ntmps116
   go_wp2
   go_ret
   exact⟨by simp[yW,h,h2],GW.refl _⟩
  ·go_enter Tryz.func116,Tryz.ntmps116
   go_wp2
   go_ret
   exact⟨by unfold yW;rw[oIN (by omega),oIN (by omega)];rfl,GW.refl _⟩
theorem N4(a b c:Int)(k:Nat)(W:World)(h0:W.cell? ⟨k,0,none⟩=some (.int .i64 a))(h1:W.cell? ⟨k,1,none⟩=some (.int .i64 b))(h2:W.cell? ⟨k,2,none⟩=some (.int .i64 c)):
 Calls Tryz.prog 115 #[.slice (some ⟨k,0,none⟩) 3 3] W λe w'=>e=.returned (.int .i64 (orI a b c))/\GW W w':=by
 by_cases ha:a=0
 ·by_cases hb:b=0
  ·by_cases hc:c=0
   ·go_enter Tryz.func115,Tryz.ntmps115
    go_wp2
    refine wp_loop_rounds 4 ?_;rw[rounds_succ]
    go_wp2
    rw[rounds_succ]
    go_wp2
    rw[rounds_succ]
    go_wp2
    rw[rounds_succ]
    go_wp2
    go_ret
    exact⟨by simp[orI,ha,hb,hc],GW.refl _⟩
   ·go_enter Tryz.func115,Tryz.ntmps115
    go_wp2
    refine wp_loop_rounds 4 ?_;rw[rounds_succ]
    go_wp2
    rw[rounds_succ]
    go_wp2
    rw[rounds_succ]
    go_wp2
    go_ret
    exact⟨by simp[orI,ha,hb],GW.refl _⟩
  ·go_enter Tryz.func115,Tryz.ntmps115
   go_wp2
   refine wp_loop_rounds 4 ?_;rw[rounds_succ]
   go_wp2
   rw[rounds_succ]
   go_wp2
   go_ret
   exact⟨by simp[orI,ha,hb],GW.refl _⟩
 ·go_enter Tryz.func115,Tryz.ntmps115
  go_wp2
  refine wp_loop_rounds 4 ?_;rw[rounds_succ]
  go_wp2
  go_ret
  exact⟨by simp[orI,ha],GW.refl _⟩
def O3(a b c:Int)(v:Value)(w:World):Prop:=∃k,v=.slice (some ⟨k,0,none⟩) 3 3/\w.cell? ⟨k,0,none⟩=some (.int .i64 a)/\w.cell? ⟨k,1,none⟩=some (.int .i64 b)/\w.cell? ⟨k,2,none⟩=some (.int .i64 c)
theorem rkw{w w':World}(h:GW w w'):RK (λ_=>False) w w':=by
 obtain⟨q,os,rfl⟩:=h;refine⟨by simp[grow],λb hb _=>?_⟩;show(w.heap++os)[b]?=_;rw[Array.getElem?_append_left hb]
theorem Cx{w:World}{b o:Nat}{v:Value}(h:w.cell? ⟨b,o,none⟩=some v):b<w.heap.size:=World.block_lt_of_cell? w _ h
theorem GB{a b c:Int}(w w':World)(u:Value)(h:RK (λ_=>False) w w')(hs:O3 a b c u w):O3 a b c u w':=by
 obtain⟨k,h1,h2,h3,h4⟩:=hs;have hk:=Cx h2;exact⟨k,h1,by rw[h.cell hk id];exact h2,by rw[h.cell hk id];exact h3,by rw[h.cell hk id];exact h4⟩
theorem Jw(a b c:Int)(w:World)(t:TypeId):O3 a b c (.slice (some ⟨w.heap.size,0,none⟩) 3 3) (w.alloc (.cells #[.int .i64 a,.int .i64 b,.int .i64 c] t)):=by
 refine⟨_,rfl,?_,?_,?_⟩<;>rw[World.cell?_alloc_new]<;>rfl
theorem wM{W w':World}{a b c d:Value}{t t':TypeId}(h:GW ((W.alloc (.cells #[a,b] t)).alloc (.cells #[c,d] t')) w'):
 w'.cell? ⟨W.heap.size,0,none⟩=some a/\w'.cell? ⟨W.heap.size,1,none⟩=some b/\w'.cell? ⟨W.heap.size+1,0,none⟩=some c/\w'.cell? ⟨W.heap.size+1,1,none⟩=some d:=by
 have hk:=rkw h
 have e1:∀o v,(W.alloc (.cells #[a,b] t)).cell? ⟨W.heap.size,o,none⟩=some v->w'.cell? ⟨W.heap.size,o,none⟩=some v:=λo v hv=>by
  rw[hk.cell (by simp;omega) id,World.cell?_of_block (heap_alloc_old _ _ (by simp))];exact hv
 have e2:∀o v,((W.alloc (.cells #[a,b] t)).alloc (.cells #[c,d] t')).cell? ⟨W.heap.size+1,o,none⟩=some v->w'.cell? ⟨W.heap.size+1,o,none⟩=some v:=λo v hv=>by
  rw[hk.cell (by simp) id];exact hv
 have hs:W.heap.size+1=(W.alloc (.cells #[a,b] t)).heap.size:=by simp
 refine⟨e1 _ _ ?_,e1 _ _ ?_,e2 _ _ ?_,e2 _ _ ?_⟩
 ·rw[World.cell?_alloc_new];rfl
 ·rw[World.cell?_alloc_new];rfl
 ·rw[hs,World.cell?_alloc_new];rfl
 ·rw[hs,World.cell?_alloc_new];rfl
set_option maxHeartbeats 4000000 in
set_option maxRecDepth 100000 in
theorem G9(x y:PID)(W:World):Calls Tryz.prog 86 #[.agg #[.int .i64 x.1,.int .i64 x.2],.agg #[.int .i64 y.1,.int .i64 y.2]] W λe w'=>e=.returned (.int .i64 (IQ x y))/\GW W w':=by
 go_enter Tryz.func86,Tryz.ntmps86
 go_wp2_with fail
 refine vn (λw'=>GW ((W.alloc (.cells #[.int .i64 x.1,.int .i64 x.2] 25)).alloc (.cells #[.int .i64 y.1,.int .i64 y.2] 25)) w') (RK λ_=>False)
  [na (.agg #[.int .i64 x.1,.int .i64 x.2]),na (.int .i64 (qn x.1)),na (.agg #[.int .i64 y.1,.int .i64 y.2]),na (.int .i64 (qn y.1)),na (.int .i64 (yW (qn x.1) (qn y.1))),na (.pointer (some ⟨W.heap.size,0,none⟩)),na (.int .i64 x.1),na (.pointer (some ⟨W.heap.size+1,0,none⟩)),na (.int .i64 y.1),na (.int .i64 (yW x.1 y.1)),na (.pointer (some ⟨W.heap.size,1,none⟩)),na (.int .i64 x.2),na (.pointer (some ⟨W.heap.size+1,1,none⟩)),na (.int .i64 y.2),na (.int .i64 (yW x.2 y.2)),O3 (yW (qn x.1) (qn y.1)) (yW x.1 y.1) (yW x.2 y.2),na (.int .i64 (IQ x y)),na (.int .i64 (IQ x y))]
  22 (by kernel_rfl) rfl (by kernel_rfl) (GW.drew _) (λ_=>RK.refl _ _) ?_ ?_ ?_
 ·exact⟨na.kept,na.kept,na.kept,na.kept,na.kept,na.kept,na.kept,na.kept,na.kept,na.kept,na.kept,na.kept,na.kept,na.kept,na.kept,GB,na.kept,na.kept,trivial⟩
 ·refine cz ?_ (cz ?_ (cz ?_ (cz ?_ (cz ?_ (cz ?_ (cz ?_ (cz ?_ (cz ?_ (cz ?_ (cz ?_ (cz ?_ (cz ?_ (cz ?_ (cz ?_ (cz ?_ (cz ?_ (cz ?_ EU)))))))))))))))))
  ·refine cJ rfl λf w1 hb H=>?_;have e2:f 2=_:=H 2 (by decide);clear H;have hc:=wM hb;obtain⟨c0,c1,c2,c3⟩:=hc;have HB:=Lib.hid hb;clear hb
   go_simp
   exact⟨HB.out,RK.refl _ _,rfl⟩
  ·refine cJ rfl λf w1 hb H=>?_;have e5:f 5=_:=H 5 (by decide);clear H;have HB:=Lib.hid hb;clear hb
   go_simp
   refine(Dp x w1).mono ?_;rintro e w2 ⟨rfl,hg⟩;exact⟨_,rfl,HB.out.trans hg,rkw hg,rfl⟩
  ·refine cJ rfl λf w1 hb H=>?_;have e3:f 3=_:=H 3 (by decide);clear H;have hc:=wM hb;obtain⟨c0,c1,c2,c3⟩:=hc;have HB:=Lib.hid hb;clear hb
   go_simp
   exact⟨HB.out,RK.refl _ _,rfl⟩
  ·refine cJ rfl λf w1 hb H=>?_;have e7:f 7=_:=H 7 (by decide);clear H;have HB:=Lib.hid hb;clear hb
   go_simp
   refine(Dp y w1).mono ?_;rintro e w2 ⟨rfl,hg⟩;exact⟨_,rfl,HB.out.trans hg,rkw hg,rfl⟩
  ·refine cJ rfl λf w1 hb H=>?_;have e6:f 6=_:=H 6 (by decide);have e8:f 8=_:=H 8 (by decide);clear H;have HB:=Lib.hid hb;clear hb
   go_simp
   refine(Cu _ _ w1).mono ?_;rintro e w2 ⟨rfl,hg⟩;exact⟨_,rfl,HB.out.trans hg,rkw hg,rfl⟩
  ·refine cJ rfl λf w1 hb H=>?_;have e2:f 2=_:=H 2 (by decide);clear H;have HB:=Lib.hid hb;clear hb
   go_simp
   exact⟨HB.out,RK.refl _ _,rfl⟩
  ·refine cJ rfl λf w1 hb H=>?_;have e10:f 10=_:=H 10 (by decide);clear H;have hc:=wM hb;obtain⟨c0,c1,c2,c3⟩:=hc;have HB:=Lib.hid hb;clear hb
   go_simp
   exact⟨HB.out,RK.refl _ _,rfl⟩
  ·refine cJ rfl λf w1 hb H=>?_;have e3:f 3=_:=H 3 (by decide);clear H;have HB:=Lib.hid hb;clear hb
   go_simp
   exact⟨HB.out,RK.refl _ _,rfl⟩
  ·refine cJ rfl λf w1 hb H=>?_;have e12:f 12=_:=H 12 (by decide);clear H;have hc:=wM hb;obtain⟨c0,c1,c2,c3⟩:=hc;have HB:=Lib.hid hb;clear hb
   go_simp
   exact⟨HB.out,RK.refl _ _,rfl⟩
  ·refine cJ rfl λf w1 hb H=>?_;have e11:f 11=_:=H 11 (by decide);have qN:f 13=_:=H 13 (by decide);clear H;have HB:=Lib.hid hb;clear hb
   go_simp
   refine(Cu _ _ w1).mono ?_;rintro e w2 ⟨rfl,hg⟩;exact⟨_,rfl,HB.out.trans hg,rkw hg,rfl⟩
  ·refine cJ rfl λf w1 hb H=>?_;have e2:f 2=_:=H 2 (by decide);clear H;have HB:=Lib.hid hb;clear hb
   go_simp
   exact⟨HB.out,RK.refl _ _,rfl⟩
  ·refine cJ rfl λf w1 hb H=>?_;have e15:f 15=_:=H 15 (by decide);clear H;have hc:=wM hb;obtain⟨c0,c1,c2,c3⟩:=hc;have HB:=Lib.hid hb;clear hb
   go_simp
   exact⟨HB.out,RK.refl _ _,rfl⟩
  ·refine cJ rfl λf w1 hb H=>?_;have e3:f 3=_:=H 3 (by decide);clear H;have HB:=Lib.hid hb;clear hb
   go_simp
   exact⟨HB.out,RK.refl _ _,rfl⟩
  ·refine cJ rfl λf w1 hb H=>?_;have e17:f 17=_:=H 17 (by decide);clear H;have hc:=wM hb;obtain⟨c0,c1,c2,c3⟩:=hc;have HB:=Lib.hid hb;clear hb
   go_simp
   exact⟨HB.out,RK.refl _ _,rfl⟩
  ·refine cJ rfl λf w1 hb H=>?_;have e16:f 16=_:=H 16 (by decide);have e18:f 18=_:=H 18 (by decide);clear H;have HB:=Lib.hid hb;clear hb
   go_simp
   refine(Cu _ _ w1).mono ?_;rintro e w2 ⟨rfl,hg⟩;exact⟨_,rfl,HB.out.trans hg,rkw hg,rfl⟩
  ·refine cJ rfl λf w1 hb H=>?_;have e9:f 9=_:=H 9 (by decide);have e14:f 14=_:=H 14 (by decide);have e19:f 19=_:=H 19 (by decide);clear H;have HB:=Lib.hid hb;clear hb
   go_simp
   exact⟨HB.out.trans (GW.alloc _ _),rkw (GW.alloc _ _),Jw _ _ _ _ _⟩
  ·refine cJ rfl λf w1 hb H=>?_;have s20:=H 20 (by decide);clear H;obtain⟨k,s20a,Sl,Sn,So⟩:=s20;have HB:=Lib.hid hb;clear hb
   go_simp
   refine(N4 _ _ _ k w1 Sl Sn So).mono ?_;rintro e w2 ⟨rfl,hg⟩;exact⟨_,rfl,HB.out.trans hg,rkw hg,rfl⟩
  ·refine cJ rfl λf w1 hb H=>?_;have e21:f 21=_:=H 21 (by decide);clear H;have HB:=Lib.hid hb;clear hb
   go_simp
   exact⟨HB.out,RK.refl _ _,rfl⟩
 ·intro f w9 hb hE;simp only[jp,Act.put,I8,List.setIfInBounds_toArray,List.set_cons_succ,List.set_cons_zero]
  have e4:f 4=.int .i64 (IQ x y):=by
   simp only[Nt,D4,na]at hE;simp[hE]
  rw[e4];clear hE e4
  go_wp2
  go_ret
  exact⟨rfl,((GW.alloc _ _).trans (GW.alloc _ _)).trans hb⟩
end Go.Proofs.YtakfoejcjdcgbaaGreat
namespace Go.Proofs.YtakfoejcjdcgbaaGreat
open Go.RowKit Go.Sort Go.Lib
def jt(x:PID):List Value:=[.int .i64 x.1,.int .i64 x.2]
theorem NZ(x y:PID)(w:World):Sem.run Tryz.prog (binOp .eql 25 (.agg #[.int .i64 x.1,.int .i64 x.2]) (.agg #[.int .i64 y.1,.int .i64 y.2])) w=.ok (.bool (decide (x=y))) w:=by
 have u3:=Tryz.underlying3;have a3:=Tryz.isAgg3;have z3:=Tryz.sizeOf3
 have hS:Tryz.prog.underlying 25=some (.struct (Tryz.prog.fieldsOf 25)):=by kernel_rfl
 have hp:Tryz.prog.stoodInHeld 25=false:=by kernel_rfl
 rw[run_eql_struct,show(10000:Nat)=9999+1 from rfl,run_equalIn_agg w 9999 25 _ _ hS hp];simp only[Program.fieldsOf,Tryz.underlying25]
 go_simp
 by_cases h1:x.fst=y.fst<;>by_cases h2:x.snd=y.snd<;>simp[h1,h2,Prod.ext_iff]
theorem eQ{W:World}{Zr off:Nat}{d:Array PID}(h:HoldsK jt 2 W Zr off d){i:Nat}(hi:i<d.size):
 W.cell? ⟨Zr,off+i*2,none⟩=some (.int .i64 d[i]!.1)/\W.cell? ⟨Zr,off+i*2+1,none⟩=some (.int .i64 d[i]!.2)/\W.frozen? ⟨Zr,off+i*2,none⟩=false/\W.frozen? ⟨Zr,off+i*2+1,none⟩=false:=by
 have h0:=h.cell hi (c:=0) (by omega);have h1:=h.cell hi (c:=1) (by omega);exact⟨by simpa[jt]using h0.1,by simpa[jt]using h1.1,by simpa using h0.2,by simpa using h1.2⟩
theorem NM{w wr:World}{n Zr off:Nat}{dk:Array PID}{i:Nat}(hi:i<dk.size)(TW:wr=putRowK jt 2 (Sort.ahead w n) Zr off dk)(x:PID):
 ((wr.drew.setCell ⟨Zr,off+i*2,none⟩ (.int .i64 x.1)).setCell ⟨Zr,off+i*2+1,none⟩ (.int .i64 x.2))=putRowK jt 2 (Sort.ahead w (n+1)) Zr off (dk.setIfInBounds i x):=by
 subst TW
 have hb:i*2+(jt x).length<=(flatK jt 2 dk).size:=by simp[jt];omega
 have e:=setCells_putRow (Sort.ahead w (n+1)) Zr off (jt x) (i*2) (flatK jt 2 dk) hb
 have e2:setMany (flatK jt 2 dk) (i*2) (jt x)=flatK jt 2 (dk.setIfInBounds i x):=by
  refine ext_get! (by simp) λt ht=>?_
  have YS:t<dk.size*2:=by simpa using ht
  rw[get_setMany _ _ _ t (by simpa using YS),get_flatK _ _ _ t YS,get_flatK _ _ _ t (by simpa using YS)]
  have hq:t/2<dk.size:=by omega
  by_cases a:t/2=i
  ·rw[oIP (by simp[jt];omega)]
   have:t-i*2=t%2:=by omega
   rw[this,a];simp[show i<dk.size from hi]
  ·rw[oIN (by simp[jt];omega)];simp[Array.getElem!_eq_getD,Array.getD,hq,Array.getElem_setIfInBounds,Ne.symm a]
 rw[e2]at e;exact e
structure eZ (b:Nat)(w w':World):Prop where
 os:w'.os=w.os
 tape:w'.tape=w.tape
 output:w'.output=w.output
 size:w'.heap.size=w.heap.size
 block:∀k,k≠b->w'.heap[k]?=w.heap[k]?
theorem eZ.set(b o:Nat)(w:World)(v:Value):eZ b w (w.setCell ⟨b,o,none⟩ v):=⟨rfl,rfl,rfl,by simp,λk hk=>Below.heap_setCell w _ v k hk⟩
theorem eZ.refl(b:Nat)(w:World):eZ b w w:=⟨rfl,rfl,rfl,rfl,λ_ _=>rfl⟩
theorem eZ.trans{b:Nat}{w w' Xx:World}(h:eZ b w w')(h':eZ b w' Xx):eZ b w Xx:=
 ⟨h'.os.trans h.os,h'.tape.trans h.tape,h'.output.trans h.output,h'.size.trans h.size,λk hk=>(h'.block k hk).trans (h.block k hk)⟩
theorem eZ.setCells(b:Nat):∀(vs:List Value)(o:Nat)(w:World),eZ b w (w.setCells b o vs)
 | [],_,_=>eZ.refl _ _
 |v::r,o,w=>(eZ.set b o w v).trans (eZ.setCells b r (o+1) _)
theorem eZ.ahead(b:Nat)(w:World)(n:Nat):eZ b w (Sort.ahead w n):=⟨rfl,rfl,rfl,rfl,λ_ _=>rfl⟩
theorem eZ.drewN(b:Nat)(w:World)(n:Nat):eZ b w (w.drewN n):=⟨rfl,rfl,rfl,rfl,λ_ _=>rfl⟩
theorem eZ.putRow(b off:Nat)(w:World)(d:Array PID):eZ b w (putRowK jt 2 w b off d):=by
 unfold putRowK Go.Sort.putRow mapBlock;exact⟨rfl,rfl,rfl,by simp,λk hk=>by simp[Array.getElem?_modify,Ne.symm hk]⟩
def nb(w:World)(b off:Nat)(l:List PID):Prop:=∀i (h:i<l.length),w.cell? ⟨b,off+i*2,none⟩=some (.int .i64 l[i].1)/\w.cell? ⟨b,off+i*2+1,none⟩=some (.int .i64 l[i].2)
theorem Pb(x y:PID)(w:World):Sem.run Tryz.prog (binOp .neq 25 (.agg #[.int .i64 x.1,.int .i64 x.2]) (.agg #[.int .i64 y.1,.int .i64 y.2])) w=.ok (.bool (!decide (x=y))) w:=by
 have h:=NZ x y w;rw[run_eql_struct]at h;rw[run_neq_struct];revert h
 cases(Op.equalIn 10000 25 (.agg #[.int .i64 x.1,.int .i64 x.2]) (.agg #[.int .i64 y.1,.int .i64 y.2])).run Tryz.prog w with
 |ok b w'=>intro h;simp only[Result.andThen_ok]at h⊢;injection h with h1 h2;injection h1 with h1;rw[h1,h2]
 |_=>intro h;simp[Result.andThen]at h
theorem JD(op:BinOp)(a b:Operand)(x y:PID)(w:World):Sem.run Tryz.prog (eqGuard op 25 a b (.agg #[.int .i64 x.1,.int .i64 x.2]) (.agg #[.int .i64 y.1,.int .i64 y.2])) w=.ok () w:=
 (GuardAt.agg (P:=Tryz.prog) (T:=25) (λx:PID=>#[.int .i64 x.1,.int .i64 x.2]) (by kernel_rfl)) op a b x y w
theorem jK(b:Nat):∀(vs:List Value)(o:Nat){w:World}{j:Nat},j<o->(w.setCells b o vs).cell? ⟨b,j,none⟩=w.cell? ⟨b,j,none⟩
 | [],_,_,_,_=>rfl
 |v::r,o,w,j,h=>by
  show((w.setCell ⟨b,o,none⟩ v).setCells b (o+1) r).cell? _=_;rw[jK b r (o+1) (by omega)];refine World.cell?_setCell_other (h:=?_) ..
  intro e;injection e with _ e _;omega
theorem E8(w:World)(ty:TypeId)(b o n c:Nat)(hn:0<n)(hc:∀j,j<n*2->(w.cell? ⟨b,o+j,none⟩).isSome=true/\w.frozen? ⟨b,o+j,none⟩=false):
 (Builtin.clear_ #[30] ty #[.slice (some ⟨b,o,none⟩) n c]).run Tryz.prog w=.ok (.tuple #[]) (w.setCells b o (List.replicate (n*2) (.int .i64 0))):=by
 have XE:(Builtin.zeroCells #[.int .i64 0,.int .i64 0] n).toList=List.replicate (n*2) (.int .i64 0):=by
  simp[Builtin.zeroCells];apply List.ext_getElem
  ·simp
  ·intro i h1 h2;simp only[List.getElem_map,List.getElem_replicate]
   rcases Nat.mod_two_eq_zero_or_one i with e|e<;>simp[e]
 have hst:=run_storeCells_cells (P:=Tryz.prog) b o (List.replicate (n*2) (.int .i64 0)) 0 w (λj hj=>by simpa using(hc j (by simpa using hj)).1) (λj hj=>by simpa using(hc j (by simpa using hj)).2) (by intro v YL;rw[List.eq_of_mem_replicate YL];rfl);simp only[Nat.add_zero]at hst;obtain⟨m,rfl⟩:∃m,n=m+1:=⟨n-1,by omega⟩;have hv:∀w,(zeroValue 25).run Tryz.prog w=.ok (.agg #[.int .i64 0,.int .i64 0]) w:=Tryz.zeroValue25;simp[Builtin.clear_,run_underlying Tryz.underlying30,hv,Value.cells,XE,hst]
def Nc(w w':World)(Zr off:Nat)(d:Array PID):Prop:=nb w' Zr off (compactUpTo d d.size)/\eZ Zr w w'
theorem zV{w:World}{Zr off:Nat}{d:Array PID}(h:HoldsK jt 2 w Zr off d){l:List PID}(hl:l.length<=d.size)(he:∀i (h:i<l.length),l[i]=d[i]!):nb w Zr off l:=λi hi=>by
 have:=eQ h (i:=i) (by omega);rw[he i hi];exact⟨this.1,this.2.1⟩
set_option maxHeartbeats 8000000 in
set_option maxRecDepth 1000000 in
theorem Cn(Zr off cap:Nat)(d:Array PID)(w:World)(hH:HoldsK jt 2 w Zr off d)(hcap:d.size<=cap)(hsz:d.size<=4611686018427387904):
 Calls Tryz.prog 114 #[.slice (some ⟨Zr,off,none⟩) d.size cap] w λe w'=>e=.returned (.slice (some ⟨Zr,off,none⟩) (compactUpTo d d.size).length cap)/\Nc w w' Zr off d:=by
 have mixed:Tryz.prog.follows .mixedOrders=true:=by kernel_rfl
 have heq':=λx y w=>NZ x y w;have hne':=λx y w=>Pb x y w;have hgd':=λop a b x y w=>JD op a b x y w
 have Yo:∀q,(∀j,j<d.size->keeps d j=true)->(compactUpTo d d.size).length=d.size/\Nc w (w.drewN q) Zr off d:=by
  intro q ZX
  have e:compactUpTo d d.size=d.toList:=by rw[compactUpTo_all d _ ZX,range_map_get]
  refine⟨by rw[e];simp,?_,eZ.drewN _ _ _⟩;rw[e]
  exact zV (d:=d) (holdsK_ahead jt 2 w q Zr off d hH) (by simp) λi hi=>by simp at hi;simp[hi]
 have HS:Aside (∀q,(∀j,j<d.size->keeps d j=true)->(compactUpTo d d.size).length=d.size/\Nc w (w.drewN q) Zr off d):=Yo;clear Yo;by_cases h2:d.size<2
 ·have HH:Aside (HoldsK jt 2 w Zr off d):=hH;clear hH
  go_enter Tryz.func114,Tryz.ntmps114
  go_wp2
  go_ret
  obtain⟨e1,e2⟩:=HS.out 0 (λj hj=>keeps_lt_one d j (by omega));exact⟨by rw[e1];rfl,e2⟩
 ·go_enter Tryz.func114,Tryz.ntmps114
  go_wp2
  go_loopg [3] d.size (λg s3 wr=>∃k q:Nat,1<=k/\k<=d.size/\d.size-k<=g/\s3=.int .i64 k/\wr=w.drewN q/\∀j,j<k->keeps d j=true)
  case atStart=>exact⟨1,0,Nat.le_refl _,by omega,by omega,rfl,rfl,keeps_lt_one d⟩
  case round=>
   obtain⟨k,q,Y9,hk,hg,rfl,rfl,ZX⟩:=hrel;by_cases hlt:k<d.size
   ·obtain⟨c1,d5,f1,f1'⟩:=eQ hH hlt;obtain⟨c0,d4,f0,f0'⟩:=eQ hH (i:=k-1) (by omega);have A:Aside (∀j,j<k->keeps d j=true):=ZX;have HH:Aside (HoldsK jt 2 w Zr off d):=hH;clear ZX hH;generalize hx:d[k]! = x at c1 d5;generalize hy:d[k-1]! = y at c0 d4;have B:Aside (d[k]! = x/\d[k-1]! = y):=⟨hx,hy⟩;clear hx hy;by_cases hdup:x=y
    ·subst hdup
     go_wp2_with fail
     go_region_o
     go_wp2
     clear c0 c1 d4 d5 f0 f1 f0' f1'
     go_loopg [3,5] d.size (λg s3 s5 wr=>∃(kk k2 q2:Nat)(dk:Array PID),s3=.int .i64 kk/\s5=.int .i64 k2/\1<=k2/\k+k2<=d.size/\d.size-(k+k2)<=g/\wr=putRowK jt 2 (Sort.ahead w q2) Zr off dk/\CompInv d (k+k2) kk dk)
     case atStart=>exact⟨k,1,q+1,d,rfl,rfl,Nat.le_refl _,by omega,by omega,(putRowK_self jt 2 (Sort.ahead w (q+1)) Zr off d (holdsK_ahead jt 2 w (q+1) Zr off d HH.out)).symm,CompInv.start A.out (keeps_neg (by omega) (by rw[B.out.1,B.out.2]))⟩
     case round=>
      obtain⟨kk,k2,q2,dk,rfl,rfl,h1,YN,ZL,TW,hI⟩:=hrel;have hkk:=hI.lt;have hds:=hI.size
      have Uv:HoldsK jt 2 wr Zr off dk:=by rw[TW];exact holdsK_putRowK jt 2 _ Zr off d dk (holdsK_ahead jt 2 w q2 Zr off d HH.out) hds
      have W2:Aside (wr=putRowK jt 2 (Sort.ahead w q2) Zr off dk):=TW;have I2:Aside (CompInv d (k+k2) kk dk):=hI;clear TW;by_cases hlt2:k+k2<d.size
      ·obtain⟨cm,p5,_,_⟩:=eQ Uv (i:=k+k2) (by omega);obtain⟨cp,p',_,_⟩:=eQ Uv (i:=k+k2-1) (by omega);obtain⟨ck,ck',fk,fk'⟩:=eQ Uv (i:=kk) (by omega);rw[hI.high (k+k2) (by omega),show off+(k+k2)*2=off+k*2+k2*2 by omega]at cm p5;rw[hI.high (k+k2-1) (by omega),show off+(k+k2-1)*2=off+k*2+(k2-1)*2 by omega]at cp p';clear Uv hI;generalize hu:d[k+k2]! = u at cm p5;generalize hv:d[k+k2-1]! = v at cp p';generalize dk[kk]! = old at ck ck';have C:Aside (d[k+k2]! = u/\d[k+k2-1]! = v):=⟨hu,hv⟩;clear hu hv;by_cases huv:u=v
       ·subst huv
        go_wp2_with fail
        go_region_o
        go_wp2
        go_roundg (d.size-(k+(k2+1)))
        case measure=>omega
        case rel=>exact⟨kk,k2+1,q2+1,dk,rfl,by go_num,by omega,by omega,Nat.le_refl _,by rw[W2.out];rfl,I2.out.skip (keeps_neg (by omega) (by rw[C.out.1,C.out.2]))⟩
       ·go_wp2_with fail
        go_region_o
        go_wp2
        go_roundg (d.size-(k+(k2+1)))
        case measure=>omega
        case rel=>exact⟨kk+1,k2+1,q2+1,dk.setIfInBounds kk u,by go_num,by go_num,by omega,by omega,Nat.le_refl _,NM (by omega) W2.out u,by have:=I2.out.keep hlt2 (keeps_pos (by rw[C.out.1,C.out.2];exact huv));rwa [C.out.1]at this⟩
      ·have Xk:k+k2=d.size:=by omega
       have Zi:∀ty,(Builtin.clear_ #[30] ty #[.slice (some ⟨Zr,off+kk*2,none⟩) (d.size-kk) (cap-kk)]).run Tryz.prog wr=.ok (.tuple #[]) (wr.setCells Zr (off+kk*2) (List.replicate ((d.size-kk)*2) (.int .i64 0))):=λty=>E8 wr ty Zr (off+kk*2) (d.size-kk) (cap-kk) (by omega) λj hj=>by
        have h:=eQ Uv (i:=kk+j/2) (by omega);rcases Nat.mod_two_eq_zero_or_one j with e|e
        ·rw[show off+kk*2+j=off+(kk+j/2)*2 by omega];exact⟨by rw[h.1];rfl,h.2.2.1⟩
        ·rw[show off+kk*2+j=off+(kk+j/2)*2+1 by omega];exact⟨by rw[h.2.1];rfl,h.2.2.2⟩
       have HK:=Lib.hid Uv;clear Uv hI
       go_wp2
       go_ret
       have hI:=I2.out;rw[Xk]at hI;have hl:=hI.len;refine⟨by rw[hl];rfl,λi hi=>?_,?_⟩
       ·rw[hl]at hi;have VL:=hI.low i hi;obtain⟨g1,g2,_,_⟩:=eQ HK.out (i:=i) (by omega)
        have e:(compactUpTo d d.size)[i]'(by rw[hl];exact hi)=dk[i]!:=by
         have:=oGS VL;exact this.2
        rw[e];exact⟨by rw[jK _ _ _ (by omega)];exact g1,by rw[jK _ _ _ (by omega)];exact g2⟩
       ·rw[W2.out];exact((eZ.ahead _ _ _).trans (eZ.putRow _ _ _ _)).trans (eZ.setCells _ _ _ _)
    ·go_wp2_with fail
     go_region_o
     go_wp2
     go_roundg (d.size-(k+1))
     case measure=>omega
     case rel=>
      refine⟨k+1,q+1,by omega,by omega,Nat.le_refl _,by go_num,rfl,λj hj=>?_⟩;by_cases e:j=k
      ·subst e;exact keeps_pos (by rw[B.out.1,B.out.2];exact hdup)
      ·exact A.out j (by omega)
   ·have:k=d.size:=by omega
    subst this;have HH:Aside (HoldsK jt 2 w Zr off d):=hH;clear hH
    go_wp2
    go_ret
    obtain⟨e1,e2⟩:=HS.out q ZX;exact⟨by rw[e1];rfl,e2⟩
theorem md(a b:PID):cO a b=true↔(a.1≠-1/\b.1=-1)\/((a.1=-1↔b.1=-1)/\(a.1<b.1\/a.1=b.1/\a.2<b.2)):=by
 unfold cO;by_cases h1:a.1=-1<;>by_cases h2:b.1=-1<;>simp[h1,h2,oBF]
theorem lq(a:PID):cO a a=false:=by
 rw[<- Bool.not_eq_true,md];omega
theorem mO{a b c:PID}(h1:cO a b=true)(h2:cO b c=true):cO a c=true:=by
 rw[md]at *;omega
theorem vf{a b:PID}(h1:cO a b=false)(h2:cO b a=false):a=b:=by
 rw[<- Bool.not_eq_true,md]at *
 have e1:a.1=b.1:=by omega
 have e2:a.2=b.2:=by omega
 exact Prod.ext e1 e2
theorem CG{a b:PID}(h1:cO a b=true):cO b a=false:=by
 rw[<- Bool.not_eq_true];intro h2;have:=mO h1 h2;rw[lq]at this;cases this
theorem wH(a b:Int):(a<b/\yW a b=-1)\/(a=b/\yW a b=0)\/(b<a/\yW a b=1):=by
 unfold yW;by_cases h:a<b
 ·exact .inl ⟨h,oIP h⟩
 ·rw[oIN h];by_cases h2:b<a
  ·exact .inr (.inr ⟨h2,oIP h2⟩)
  ·exact .inr (.inl ⟨by omega,oIN h2⟩)
theorem uj(a:Int):(a=-1/\qn a=1)\/(a≠-1/\qn a=0):=by
 unfold qn;by_cases h:a=-1
 ·exact .inl ⟨h,oIP h⟩
 ·exact .inr ⟨h,oIN h⟩
theorem tr(x y:PID):ltOf IQ x y=cO x y:=by
 rw[Bool.eq_iff_iff,md];unfold ltOf IQ;rw[decide_eq_true_iff]
 rcases uj x.1 with⟨h1,e1⟩|⟨h1,e1⟩<;>rcases uj y.1 with⟨h2,e2⟩|⟨h2,e2⟩<;>rw[e1,e2]<;>rcases wH x.1 y.1 with⟨h3,e3⟩|⟨h3,e3⟩|⟨h3,e3⟩<;>rw[e3] <;>
  rcases wH x.2 y.2 with⟨h4,e4⟩|⟨h4,e4⟩|⟨h4,e4⟩<;>rw[e4]<;>simp only[orI,yW]<;>simp<;>omega
theorem Lu:SWO (ltOf IQ) where
 irrefl x:=by rw[tr];exact lq x
 trans x y z h1 h2:=by rw[tr]at *;exact mO h1 h2
 ntrans x y z h1 h2:=by
  rw[tr]at *;rw[<- Bool.not_eq_true,md]at *;omega
abbrev Asc(l:List PID):Prop:=l.Pairwise λa b=>cO a b=true
theorem wQ:∀{a b:List PID},Asc a->Asc b->(∀x,x∈a↔x∈b)->a=b
 | [],[],_,_,_=>rfl
 | [],y::b,_,_,h=>by have:=(h y).2 (by simp);simp at this
 |x::a,[],_,_,h=>by have:=(h x).1 (by simp);simp at this
 |x::a,y::b,ha,hb,h=>by
  have WR:=List.pairwise_cons.1 ha;have Zx:=List.pairwise_cons.1 hb
  have e:x=y:=by
   have h1:=(h x).1 (by simp);have h2:=(h y).2 (by simp);rcases List.mem_cons.1 h1 with e|h1
   ·exact e
   ·rcases List.mem_cons.1 h2 with e|h2
    ·exact e.symm
    ·have g1:=Zx.1 x h1;have g2:=WR.1 y h2;rw[CG g1]at g2;cases g2
  subst e;rw[wQ WR.2 Zx.2 λz=>?_];constructor
  ·intro hz
   rcases List.mem_cons.1 ((h z).1 (by simp[hz]))with e|h1
   ·subst e;have:=WR.1 z hz;rw[lq]at this;cases this
   ·exact h1
  ·intro hz
   rcases List.mem_cons.1 ((h z).2 (by simp[hz]))with e|h1
   ·subst e;have:=Zx.1 z hz;rw[lq]at this;cases this
   ·exact h1
theorem BO(x z:PID):∀{l:List PID},z∈nh l x↔z=x\/z∈l
 | []=>by simp[nh]
 |y::r=>by
  unfold nh;split
  ·rw[List.mem_cons,BO x z,List.mem_cons];constructor
   ·rintro(h|h|h)<;>simp[h]
   ·rintro(h|h|h)<;>simp[h]
  ·split
   ·rename_i e;subst e;simp
   ·simp
theorem HG(x:PID):∀{l:List PID},Asc l->Asc (nh l x)
 | [],_=>by simp[nh]
 |y::r,h=>by
  have h':=List.pairwise_cons.1 h;unfold nh;split
  ·rename_i hy;refine List.pairwise_cons.2 ⟨λz hz=>?_,HG x h'.2⟩
   rcases(BO x z).1 hz with rfl|hz
   ·exact hy
   ·exact h'.1 z hz
  ·rename_i hy;split
   ·exact h
   ·rename_i hne
    have Ul:cO x y=true:=by
     rw[<- Bool.not_eq_false];intro e;exact hne (vf (by simpa using hy) e)
    refine List.pairwise_cons.2 ⟨λz hz=>?_,h⟩;rcases List.mem_cons.1 hz with rfl|hz
    ·exact Ul
    ·exact mO Ul (h'.1 z hz)
theorem Al(l:List PID):∀{a:List PID},Asc a->Asc (l.foldl nh a)/\∀z,z∈l.foldl nh a↔z∈l\/z∈a:=by
 induction l with
 |nil=>intro a h;exact⟨h,λz=>by simp⟩
 |cons x l ih=>
  intro a h;obtain⟨h1,h2⟩:=ih (HG x h);refine⟨h1,λz=>?_⟩;rw[List.foldl_cons,h2,BO,List.mem_cons];constructor
  ·rintro(h|h|h)<;>simp[h]
  ·rintro((h|h)|h)<;>simp[h]
theorem FM(l:List PID):Asc (lM l):=(Al l (a:=[]) List.Pairwise.nil).1
theorem FJ(l:List PID)(z:PID):z∈lM l↔z∈l:=by
 rw[lM,(Al l (a:=[]) List.Pairwise.nil).2];simp
theorem I7{l m:List PID}(h:Asc m)(hm:∀z,z∈m↔z∈l):lM l=m:=wQ (FM l) h λz=>(FJ l z).trans (hm z).symm
theorem vY(d:Array PID)(hs:∀i,i+1<d.size->cO d[i+1]! d[i]! = false):∀m,m<=d.size ->
 Asc (compactUpTo d m)/\(∀z,z∈compactUpTo d m↔∃i,i<m/\z=d[i]!)/\(0<m->∀z∈compactUpTo d m,z=d[m-1]!\/cO z d[m-1]! = true):=by
 intro m
 induction m with
 |zero=>intro _;refine⟨by simp[compactUpTo],λz=>by simp[compactUpTo],λh=>by omega⟩
 |succ m ih=>
  intro hm;obtain⟨h1,h2,h3⟩:=ih (by omega);rw[compactUpTo_succ];by_cases h0:m=0
  ·subst h0;have:keeps d 0=true:=keeps_lt_one d 0 (by omega);rw[this];refine⟨by simp[compactUpTo],λz=>?_,λ_ z hz=>?_⟩
   ·simp only[compactUpTo,List.range_zero,List.filter_nil,List.map_nil,if_true,List.nil_append,List.mem_singleton];constructor
    ·intro e;exact⟨0,by omega,e⟩
    ·rintro⟨i,hi,e⟩;rw[e];congr 1;omega
   ·simp[compactUpTo]at hz;exact .inl hz
  ·have Uu:=h3 (by omega);have Vo:=hs (m-1) (by omega);rw[show m-1+1=m by omega]at Vo;by_cases e:d[m]! = d[m-1]!
   ·rw[keeps_neg (by omega) e];simp only[Bool.false_eq_true,if_false,List.append_nil];refine⟨h1,λz=>?_,λ_ z hz=>?_⟩
    ·rw[h2];constructor
     ·rintro⟨i,hi,hz⟩;exact⟨i,by omega,hz⟩
     ·rintro⟨i,hi,hz⟩;by_cases hi2:i=m
      ·subst hi2;exact⟨i-1,by omega,by rw[hz,e]⟩
      ·exact⟨i,by omega,hz⟩
    ·rw[Nat.add_sub_cancel,e];exact Uu z hz
   ·rw[keeps_pos e];simp only[if_true]
    have hlt:cO d[m-1]! d[m]! = true:=by
     rw[<- Bool.not_eq_false];intro g;exact e (vf Vo g)
    have ZX:∀z∈compactUpTo d m,cO z d[m]! = true:=λz hz=>by
     rcases Uu z hz with g|g
     ·rw[g];exact hlt
     ·exact mO g hlt
    refine⟨List.pairwise_append.2 ⟨h1,by simp,λa ha b hb=>?_⟩,λz=>?_,λ_ z hz=>?_⟩
    ·rw[List.mem_singleton.1 hb];exact ZX a ha
    ·rw[List.mem_append,h2,List.mem_singleton];constructor
     ·rintro(⟨i,hi,hz⟩|hz)
      ·exact⟨i,by omega,hz⟩
      ·exact⟨m,by omega,hz⟩
     ·rintro⟨i,hi,hz⟩;by_cases hi2:i=m
      ·subst hi2;exact .inr hz
      ·exact .inl ⟨i,by omega,hz⟩
    ·rw[Nat.add_sub_cancel];rcases List.mem_append.1 hz with hz|hz
     ·exact .inr (ZX z hz)
     ·exact .inl (List.mem_singleton.1 hz)
theorem yL{l:List PID}{d:Array PID}(hp:∀z,z∈d.toList↔z∈l)(hs:∀i,i+1<d.size->cO d[i+1]! d[i]! = false):compactUpTo d d.size=lM l:=by
 obtain⟨h1,h2,_⟩:=vY d hs d.size (Nat.le_refl _);refine(I7 h1 λz=>?_).symm;rw[h2,<- hp];constructor
 ·rintro⟨i,hi,e⟩;rw[e];simp[hi]
 ·intro hz;obtain⟨i,hi,e⟩:=List.getElem_of_mem hz
  have ZT:i<d.size:=by simpa using hi
  exact⟨i,ZT,by rw[<- e];simp[ZT]⟩
end Go.Proofs.YtakfoejcjdcgbaaGreat
namespace Go.Proofs.YtakfoejcjdcgbaaGreat
open Go.Shelf
def Bd:Go.Shelf.Ren:=⟨λ|6=>113|15=>93|14=>138|28=>129|29=>130|20=>148|21=>149|22=>150|23=>151|24=>152|25=>153|26=>154|27=>155|46=>157|47=>141|48=>142|49=>158|50=>159|57=>160|n=>n,λ|22=>30|24=>25|25=>119|3=>3|39=>127|0=>0|53=>161|55=>163|4=>4|46=>153|45=>152|50=>158|5=>5|9=>9|66=>171|70=>175|76=>183|77=>184|n=>n,λ|n=>n⟩
theorem FI:Go.Proofs.SlLaysF0.n6 Tryz.prog Bd:={
 mixed:=by kernel_rfl
 f6:=⟨Tryz.f113.name,by decide,Tryz.func113.trans (congrArg some (by kernel_rfl))⟩
 f14:=⟨Tryz.f138.name,by decide,Tryz.func138.trans (congrArg some (by kernel_rfl))⟩
 f15:=Tryz.func93.trans (congrArg some (by kernel_rfl))
 f20:=⟨Tryz.f148.name,by decide,Tryz.func148.trans (congrArg some (by kernel_rfl))⟩
 f21:=⟨Tryz.f149.name,by decide,Tryz.func149.trans (congrArg some (by kernel_rfl))⟩
 f22:=⟨Tryz.f150.name,by decide,Tryz.func150.trans (congrArg some (by kernel_rfl))⟩
 f23:=⟨Tryz.f151.name,by decide,Tryz.func151.trans (congrArg some (by kernel_rfl))⟩
 f24:=⟨Tryz.f152.name,by decide,Tryz.func152.trans (congrArg some (by kernel_rfl))⟩
 f25:=⟨Tryz.f153.name,by decide,Tryz.func153.trans (congrArg some (by kernel_rfl))⟩
 f26:=⟨Tryz.f154.name,by decide,Tryz.func154.trans (congrArg some (by kernel_rfl))⟩
 f27:=⟨Tryz.f155.name,by decide,Tryz.func155.trans (congrArg some (by kernel_rfl))⟩
 f28:=Tryz.func129.trans (congrArg some (by kernel_rfl))
 f29:=Tryz.func130.trans (congrArg some (by kernel_rfl))
 f46:=⟨Tryz.f157.name,by decide,Tryz.func157.trans (congrArg some (by kernel_rfl))⟩
 f47:=Tryz.func141.trans (congrArg some (by kernel_rfl))
 f48:=Tryz.func142.trans (congrArg some (by kernel_rfl))
 f49:=⟨Tryz.f158.name,by decide,Tryz.func158.trans (congrArg some (by kernel_rfl))⟩
 f50:=⟨Tryz.f159.name,by decide,Tryz.func159.trans (congrArg some (by kernel_rfl))⟩
 f57:=⟨Tryz.f160.name,by decide,Tryz.func160.trans (congrArg some (by kernel_rfl))⟩
 t0:=Tryz.underlying0
 a0:=Tryz.isAgg0
 z0:=Tryz.sizeOf0
 v0:=Tryz.zeroValue0
 t3:=Tryz.underlying3
 a3:=Tryz.isAgg3
 z3:=Tryz.sizeOf3
 v3:=Tryz.zeroValue3
 t4:=Tryz.underlying4
 a4:=Tryz.isAgg4
 z4:=Tryz.sizeOf4
 v4:=Tryz.zeroValue4
 t5:=Tryz.underlying5
 a5:=Tryz.isAgg5
 z5:=Tryz.sizeOf5
 v5:=Tryz.zeroValue5
 t9:=Tryz.underlying9
 a9:=Tryz.isAgg9
 z9:=Tryz.sizeOf9
 v9:=Tryz.zeroValue9
 t22:=Tryz.underlying30
 a22:=Tryz.isAgg30
 z22:=Tryz.sizeOf30
 v22:=Tryz.zeroValue30
 t25:=Tryz.underlying119
 a25:=Tryz.isAgg119
 z25:=Tryz.sizeOf119
 v25:=Tryz.zeroValue119
 t39:=Tryz.underlying127
 a39:=Tryz.isAgg127
 z39:=Tryz.sizeOf127
 v39:=Tryz.zeroValue127
 t45:=Tryz.underlying152
 a45:=Tryz.isAgg152
 z45:=Tryz.sizeOf152
 v45:=Tryz.zeroValue152
 t46:=Tryz.underlying153
 a46:=Tryz.isAgg153
 z46:=Tryz.sizeOf153
 v46:=Tryz.zeroValue153
 t50:=Tryz.underlying158
 a50:=Tryz.isAgg158
 z50:=Tryz.sizeOf158
 v50:=Tryz.zeroValue158
 t53:=Tryz.underlying161
 a53:=Tryz.isAgg161
 z53:=Tryz.sizeOf161
 v53:=Tryz.zeroValue161
 t55:=Tryz.underlying163
 a55:=Tryz.isAgg163
 z55:=Tryz.sizeOf163
 v55:=Tryz.zeroValue163
 t66:=Tryz.underlying171
 a66:=Tryz.isAgg171
 z66:=Tryz.sizeOf171
 v66:=Tryz.zeroValue171
 t70:=Tryz.underlying175
 a70:=Tryz.isAgg175
 z70:=Tryz.sizeOf175
 v70:=Tryz.zeroValue175
 t76:=Tryz.underlying183
 a76:=Tryz.isAgg183
 z76:=Tryz.sizeOf183
 v76:=Tryz.zeroValue183
 t77:=Tryz.underlying184
 a77:=Tryz.isAgg184
 z77:=Tryz.sizeOf184
 v77:=Tryz.zeroValue184 }
def AD:Go.Shelf.Ren:=⟨λ|41=>84|n=>n,λ|22=>30|23=>25|4=>4|n=>n,λ|n=>n⟩
theorem DM:Go.Proofs.SlLaysE0.n41 Tryz.prog AD:={
 mixed:=by kernel_rfl
 f41:=⟨Tryz.f84.name,by decide,Tryz.func84.trans (congrArg some (by kernel_rfl))⟩
 t4:=Tryz.underlying4
 a4:=Tryz.isAgg4
 z4:=Tryz.sizeOf4
 v4:=Tryz.zeroValue4
 t22:=Tryz.underlying30
 a22:=Tryz.isAgg30
 z22:=Tryz.sizeOf30
 v22:=Tryz.zeroValue30 }
end Go.Proofs.YtakfoejcjdcgbaaGreat
namespace Go.Proofs.YtakfoejcjdcgbaaGreat
open Go.RowKit Go.Sort Go.Lib
theorem AA(p:Option Addr)(cap:Nat)(w:World):Calls Tryz.prog 114 #[.slice p 0 cap] w λe w'=>e=.returned (.slice p 0 cap)/\w'=w:=by
 go_enter Tryz.func114,Tryz.ntmps114
 go_wp2
 go_ret
 exact⟨rfl,rfl⟩
theorem FH(p:Option Addr)(cap:Nat)(fv:Value)(w:World):Calls Tryz.prog 113 #[.slice p 0 cap,fv] w λe w'=>e=.returned (.tuple #[])/\w'=w:=
 AnyF.slices_SortFunc_none FI p cap fv w
theorem I6(Zr cap:Nat)(d:Array PID)(w:World)(hH:HoldsK jt 2 w Zr 0 d)(VA:Zr<w.heap.size)(hsz:d.size<4611686018427387904):
 Calls Tryz.prog 113 #[.slice (some ⟨Zr,0,none⟩) d.size cap,.func (.func 86) #[] #[]] w λe w'=>
  e=.returned (.tuple #[])/\∃d' n os,PermIn 0 d.size d d'/\SortedIn (ltOf IQ) 0 d.size d'/\w'=sortWorldK jt 2 w Zr 0 n d' os:=by
 have eg:∀args w,(callFunc 86 args).run Tryz.prog w=.ok (.enter 86 args) w:=iJ Tryz.func86 (by kernel_rfl) rfl;have Rh:CmpLays Tryz.prog 86 #[] jt 2 IQ Zr 0 d.size w:=λ_ _ _ _ x y=>G9 x y _;exact AnyQ.slices_SortFunc FI 2 Tryz.isAgg25 Tryz.sizeOf25 jt (λ_=>rfl) (λx v hv=>by simp[jt]at hv;rcases hv with rfl|rfl<;>rfl) IQ Lu 86 #[] Zr 0 cap d w eg Rh hH VA hsz
theorem tj:∃i z,Tryz.prog.info? 25=some i/\i.zero=some z/\i.size=2/\i.bytes=16/\z.cells.size=2:=by
 have h:(match Tryz.prog.info? 25 with|some i=>(match i.zero with|some z=>decide (i.size=2)&&decide (i.bytes=16)&&decide (z.cells.size=2)|none=>false)|none=>false)=true:=by kernel_rfl
 revert h
 cases Tryz.prog.info? 25 with
 |none=>intro h;cases h
 |some i=>
  intro h;simp only at h
  cases hz:i.zero with
  |none=>rw[hz]at h;cases h
  |some z=>
   rw[hz]at h;simp only[oBA,oDE]at h;exact⟨i,z,rfl,hz,h.1.1,h.1.2,h.2⟩
def jH(l:List PID):List Value:=l.flatMap jt
theorem uF(l:List PID):(jH l).length=l.length*2:=by
 induction l with
 |nil=>rfl
 |cons x l ih=>simp[jH,jt]at ih⊢;omega
theorem uG:∀(l:List PID)(i:Nat)(h:i<l.length),(jH l)[i*2]?=some (.int .i64 l[i].1)/\(jH l)[i*2+1]?=some (.int .i64 l[i].2)
 |x::l,0,_=>⟨rfl,rfl⟩
 |x::l,i+1,h=>by
  have:=uG l i (by simpa using h);have e:jH (x::l)=.int .i64 x.1 :: .int .i64 x.2::jH l:=rfl;rw[e,show(i+1)*2=i*2+1+1 by omega];simpa using this
theorem Aq(l:List PID):∀u∈jH l,u.oneCell'=true:=by
 intro u hu;simp[jH,jt]at hu;obtain⟨_,_,_,h|h⟩:=hu<;>rw[h]<;>rfl
theorem uH{w:World}{b o:Nat}{l:List PID}(h:nb w b o l):∀j u,(jH l)[j]?=some u->w.cell? ⟨b,o+j,none⟩=some u:=by
 intro j u hu
 have hj:j<l.length*2:=by rw[<- uF];exact(oGS hu).1
 have hi:j/2<l.length:=by omega
 have g:=uG l (j/2) hi;have hc:=h (j/2) hi;rcases Nat.mod_two_eq_zero_or_one j with e|e
 ·rw[show j=j/2*2 by omega]at hu⊢;rw[g.1]at hu
  injection hu with hu
  rw[<- hu];exact hc.1
 ·rw[show j=j/2*2+1 by omega]at hu⊢;rw[g.2]at hu
  injection hu with hu
  rw[<- hu,<- Nat.add_assoc];exact hc.2
theorem wz{w:World}{g cap:Nat}{cur:Array Value}{e:TypeId}{l:List PID}(hg:w.heap[g]?=some (.cells cur e (0,0)))(hcur:cur.size=cap*2)(hl:l.length<=cap)(ht:cur.toList.take (l.length*2)=jH l):HoldsK jt 2 w g 0 l.toArray:=by
 intro j hj;rw[size_flatK]at hj
 have ZY:j<l.length*2:=by simpa using hj
 rw[Nat.zero_add,get_flatK _ _ _ _ hj,cell_of_row w g j cur e (0,0) hg]
 have hi:j/2<l.length:=by omega
 have e1:(jH l)[j]?=cur.toList[j]?:=by rw[<- ht,List.getElem?_take_of_lt ZY]
 have e2:cur[j]?=cur.toList[j]?:=by simp
 have gg:=uG l (j/2) hi
 have e3:l.toArray[j/2]! = l[j/2]:=by simp[hi]
 refine⟨?_,?_⟩
 ·rw[e2,<- e1,e3];rcases Nat.mod_two_eq_zero_or_one j with e|e
  ·rw[e];have:=gg.1;rw[show j/2*2=j by omega]at this;exact this
  ·rw[e];have:=gg.2;rw[show j/2*2+1=j by omega]at this;exact this
 ·simp[World.frozen?,hg]
theorem E6(ad:Addr)(cap:Nat)(w:World):Calls Tryz.prog 84 #[.slice (some ad) 0 cap] w λe w'=>Below w.heap.size w w'/\∃p,e=.returned (.slice p 0 0):=by
 obtain⟨i,z,hi,_⟩:=tj;have q:∀(w:World)(a:Option Addr)(n c n' c':Nat),(binOp .eql 30 (.slice a n c) (.slice none n' c')).run Tryz.prog w=.ok (.bool a.isNone) w:=λw a n c n' c'=>Lib.run_eql_slice_nil w _ _ a n c n' c' Tryz.underlying30;have hz:∀(w:World)(ty:TypeId)(s:Option Addr),(Builtin.append_ #[30,30] ty #[.slice s 0 0,.slice (some ad) 0 cap]).run Tryz.prog w=.ok (.slice s 0 0) w:=λw ty s=>fB w 30 ty 25 i Tryz.underlying30 hi s 0 0 (Nat.le_refl _) (some ad) cap;clear hi
 go_enter Tryz.func84,Tryz.ntmps84
 go_wp2
 go_ret
 exact⟨Below.alloc (Below.refl _ _) (Nat.le_refl _) _,_,rfl⟩
theorem Il(l:List PID)(a:Option Addr)(cap:Nat)(w:World)(ha:l≠[]->∃b o,a=some ⟨b,o,none⟩/\nb w b o l)(hl:l.length<=1099511627776):
 Calls Tryz.prog 84 #[.slice a l.length cap] w λe w'=>Below w.heap.size w w'/\((l=[]/\∃p,e=.returned (.slice p 0 0))\/
  ∃g c,e=.returned (.slice (some ⟨g,0,none⟩) l.length c)/\w.heap.size<=g/\g<w'.heap.size/\l.length<=c/\c<=maxLen/\HoldsK jt 2 w' g 0 l.toArray):=by
 obtain⟨i,z,hi,hz,hsz,Ym,Y1⟩:=tj
 have Z0:∀b o,a=some ⟨b,o,none⟩->(∀j u,(jH l)[j]?=some u->w.cell? ⟨b,o+j,none⟩=some u)->Calls Tryz.prog 84 #[.slice a l.length cap] w λe w'=>Below w.heap.size w w'/\((l=[]/\∃p,e=.returned (.slice p 0 0))\/
  ∃g c,e=.returned (.slice (some ⟨g,0,none⟩) l.length c)/\w.heap.size<=g/\g<w'.heap.size/\l.length<=c/\c<=maxLen/\HoldsK jt 2 w' g 0 l.toArray):=by
  rintro b o rfl hc;have h:=AnyE.slices_Clone DM i z 2 16 hi hz hsz Ym Y1 (by omega) Tryz.sizeOf25 b o l.length cap (jH l) w (uF l) (by unfold maxLen;omega) (by omega) hc (Aq l);refine h.mono λe w' ⟨v',he,hown,_,hb⟩=>⟨hb,?_⟩
  rcases hown.2 with⟨rfl,hn⟩|⟨g,c,cur,rfl,hg,Ug,hcap,hmax,hcur,YQ⟩
  ·exact .inl ⟨oEN hn,none,he⟩
  ·exact .inr ⟨g,c,he,hg,(Array.getElem?_eq_some_iff.1 Ug).1,hcap,hmax,wz Ug hcur hcap YQ⟩
 by_cases hn:l=[]
 ·subst hn
  cases a with
  |none=>exact(AnyE.slices_Clone_nil DM 0 cap w).mono λe w' ⟨he,hw⟩=>by subst hw;exact⟨Below.refl _ _,.inl ⟨rfl,none,he⟩⟩
  |some ad=>exact(E6 ad cap w).mono λe w' ⟨hb,h⟩=>⟨hb,.inl ⟨rfl,h⟩⟩
 ·obtain⟨b,o,e,hh⟩:=ha hn;exact Z0 b o e (uH hh)
theorem vb{w w' Xx:World}{g:Nat}(hb:Below w.heap.size w w')(hg:w.heap.size<=g)(h:eZ g w' Xx):Below w.heap.size w Xx:=
 ⟨h.os.trans hb.os,h.tape.trans hb.tape,h.output.trans hb.output,by rw[h.size];exact hb.size,λk hk=>(h.block k (by omega)).trans (hb.block k hk)⟩
theorem Fe{w w':World}{g n:Nat}{d:Array PID}{os:Array Obj}(hb:Below w.heap.size w w')(hg:w.heap.size<=g):Below w.heap.size w (sortWorldK jt 2 w' g 0 n d os):=by
 have h1:eZ g w' (putRowK jt 2 (Sort.ahead w' n) g 0 d):=(eZ.ahead g w' n).trans (eZ.putRow g 0 _ d);have h2:=vb hb hg h1;have e:sortWorldK jt 2 w' g 0 n d os=grow (putRowK jt 2 (Sort.ahead w' n) g 0 d) os:=rfl;rw[e];refine⟨h2.os,h2.tape,h2.output,Nat.le_trans h2.size (by simp[grow]),λk hk=>?_⟩;rw[<- h2.block k hk];show(_++os)[k]?=_;exact Array.getElem?_append_left (Nat.lt_of_lt_of_le hk h2.size)
theorem EL{w':World}{g n:Nat}{d d':Array PID}{os:Array Obj}(h:HoldsK jt 2 w' g 0 d)(hg:g<w'.heap.size)(hs:d'.size=d.size):HoldsK jt 2 (sortWorldK jt 2 w' g 0 n d' os) g 0 d':=by
 have e:sortWorldK jt 2 w' g 0 n d' os=grow (putRowK jt 2 (Sort.ahead w' n) g 0 d') os:=rfl;rw[e];exact holdsK_grow jt 2 _ os g 0 d' (by unfold putRowK;simpa using hg) (holdsK_putRowK jt 2 _ g 0 d d' (holdsK_ahead jt 2 w' n g 0 d h) hs)
theorem HD(x:PID):∀l:List PID,(nh l x).length<=l.length+1
 | []=>by simp[nh]
 |y::r=>by
  unfold nh;split
  ·have:=HD x r;simp;omega
  ·split<;>simp
theorem FL(l:List PID):(lM l).length<=l.length:=by
 have Z0:∀(l a:List PID),(l.foldl nh a).length<=a.length+l.length:=by
  intro l
  induction l with
  |nil=>intro a;simp
  |cons x l ih=>
   intro a;have h1:=ih (nh a x);have h2:=HD x a;simp only[List.foldl_cons,oLC];omega
 have:=Z0 l [];simpa[lM]using this
def OQ(w w':World)(e:Ending)(m:List PID):Prop:=Below w.heap.size w w'/\((m=[]/\∃p,e=.returned (.slice p 0 0))\/∃g c,e=.returned (.slice (some ⟨g,0,none⟩) m.length c)/\w.heap.size<=g/\m.length<=c/\c<=maxLen/\nb w' g 0 m)
set_option maxHeartbeats 2000000 in
theorem D8(l:List PID)(a:Option Addr)(cap:Nat)(w:World)(ha:l≠[]->∃b o,a=some ⟨b,o,none⟩/\nb w b o l)(hl:l.length<=1099511627776):
 Calls Tryz.prog 85 #[.func (.func 86) #[] #[],.slice a l.length cap] w λe w'=>OQ w w' e (lM l):=by
 have Wj:=Il l a cap w ha hl
 have Wh:(l.length:Nat)<4611686018427387904:=by omega
 clear ha
 go_enter Tryz.func85,Tryz.ntmps85
 go_wp2_with fail
 refine Wj.mono ?_;rintro e w1 ⟨ZR,⟨rfl,p,rfl⟩|⟨g,c,rfl,hg,ZB,hc,hmax,hK⟩⟩
 ·go_wp2_with fail
  refine(FH p 0 _ w1).mono ?_;rintro e w2 ⟨rfl,rfl⟩
  go_wp2_with fail
  refine(AA p 0 w2).mono ?_;rintro e w3 ⟨rfl,rfl⟩
  go_wp2
  go_ret
  exact⟨ZR,.inl ⟨rfl,p,rfl⟩⟩
 ·have HB:=Lib.hid ZR;have HK:=Lib.hid hK;clear ZR hK Wj
  go_wp2_with fail
  have hs:=I6 g c l.toArray w1 HK.out ZB (by simpa using Wh);refine hs.mono ?_;rintro e w2 ⟨rfl,d',n,os,hp,Qs,rfl⟩
  have hsz:d'.size=l.length:=by simpa using hp.1
  have PU:=EL (os:=os) (n:=n) HK.out ZB hp.1
  have Zy:∀z,z∈d'.toList↔z∈l:=λz=>by
   have:=hp.2.2.mem_iff (a:=z);simpa[Array.extract_eq_self_of_le,hsz]using this
  have YP:∀i,i+1<d'.size->cO d'[i+1]! d'[i]! = false:=λi hi=>by
   rw[<- tr];exact Qs i (i+1) (by omega) (by omega) (by rw[List.size_toArray];omega)
  have HC:=Lib.hid (Cn g 0 c d' (sortWorldK jt 2 w1 g 0 n d' os) PU (by omega) (by omega));have HB2:=Lib.hid (Fe (n:=n) (d:=d') (os:=os) HB.out hg);have HE:=Lib.hid (yL Zy YP);have HL:=Lib.hid hsz;clear PU Zy YP hp Qs hs hsz
  go_wp2_with fail
  have hcc:=HC.out;rw[HL.out]at hcc;refine hcc.mono ?_;rintro e w3 ⟨rfl,Vw,SQ⟩
  go_wp2
  go_ret
  have e:compactUpTo d' l.length=lM l:=by rw[<- HL.out];exact HE.out
  have hlen:=FL l;exact⟨vb HB2.out hg SQ,.inr ⟨g,c,by rw[e];rfl,hg,by omega,hmax,by rw[<- HE.out];exact Vw⟩⟩
theorem wY:gS Tryz.prog 85:=iJ Tryz.func85 (by kernel_rfl) rfl
theorem zR{w:World}{F:Nat->Prop}{l:List PID}{x:Value}(h:io w F (.sl (l.map rT)) x):∃a cap,x=.slice a l.length cap/\(l≠[]->∃b o,a=some ⟨b,o,none⟩/\nb w b o l):=by
 cases h with
 | @sl _ a cap sz u hsz hcap hmax hnil hcell hrec=>
  refine⟨a,cap,by simp,λhn=>?_⟩;have Z4:0<l.length:=List.length_pos_iff.2 hn
  have hz:sz=2:=by
   have:=hsz 0 (by simpa using Z4);rw[<- this];simp[rT]
  subst hz;obtain⟨b,o,e,_,_⟩:=hcell 0 0 (by simpa using Z4) (by omega);refine⟨b,o,e,λi hi=>?_⟩
  have ZT:i<(l.map rT).length:=by simpa using hi
  have cell:∀j (hj:j<2),w.cell? ⟨b,o+(i*2+j),none⟩=some (u i j):=λj hj=>by
   obtain⟨b',o',e',_,hc⟩:=hcell i j ZT hj;rw[e]at e'
   injection e' with e'
   injection e' with e1 e2
   subst e1;subst e2;exact hc
  have g0:=hrec i 0 ZT (by simp[rT]);have g1:=hrec i 1 ZT (by simp[rT]);have c0:=cell 0 (by omega);have c1:=cell 1 (by omega);revert g0 g1 c0 c1;generalize u i 0=u0;generalize u i 1=u1;intro g0 g1 c0 c1;simp only[List.getElem_map,rT,List.getElem_cons_zero,List.getElem_cons_succ]at g0 g1;cases g0;cases g1;exact⟨by rw[<- c0];congr 2,by rw[<- c1];congr 2⟩
theorem GA{w:World}{F:Nat->Prop}{l:List PID}{g c:Nat}(h:nb w g 0 l)(hl:l.length<=c)(hm:c<=maxLen)(hF:F g):io w F (.sl (l.map rT)) (.slice (some ⟨g,0,none⟩) l.length c):=by
 have Z0:=io.sl (w:=w) (F:=F) (c:=l.map rT) (a:=some ⟨g,0,none⟩) (cap:=c) 2 (λi j=>if j=0 then .int .i64 (l.getD i (0,0)).1 else .int .i64 (l.getD i (0,0)).2) (λi hi=>by simp[rT]) (by simpa using hl) hm (λe=>by simp at e) (λi j hi hj=>?_) (λi j hi hj=>?_)
 ·rw[List.length_map]at Z0;exact Z0
 ·have ZT:i<l.length:=by simpa using hi
  have hh:=h i ZT;refine⟨g,0,rfl,hF,?_⟩
  have e:l.getD i (0,0)=l[i]:=by simp[ZT]
  rw[e];rcases Nat.lt_or_ge 0 j with h0|h0
  ·have:j=1:=by omega
   subst this;rw[oIN (by omega),<- hh.2,Nat.add_assoc]
  ·have:j=0:=by omega
   subst this;rw[oIP rfl,<- hh.1];congr 2
 ·have ZT:i<l.length:=by simpa using hi
  have e:l.getD i (0,0)=l[i]:=by simp[ZT]
  simp only[List.getElem_map,rT,oLC,List.length_nil]at hj⊢;rw[e];rcases Nat.lt_or_ge 0 j with h0|h0
  ·have:j=1:=by omega
   subst this;exact .v rfl
  ·have:j=0:=by omega
   subst this;exact .v rfl
theorem Dd{w w':World}{e:Ending}{m:List PID}{F:Nat->Prop}(h:OQ w w' e m):∃x,e=.returned x/\Below w.heap.size w w'/\io w' (λk=>F k\/w.heap.size<=k) (.sl (m.map rT)) x:=by
 obtain⟨hb,⟨rfl,p,he⟩|⟨g,c,he,hg,hl,hm,hh⟩⟩:=h
 ·exact⟨_,he,hb,.sl (c:=[]) 2 (λ_ _=>undef) (λi h=>by simp at h) (Nat.le_refl _) (Nat.zero_le _) (λ_=>rfl) (λi j h=>by simp at h) (λi j h=>by simp at h)⟩
 ·exact⟨_,he,hb,GA hh hl hm (.inr hg)⟩
theorem D7(l:List PID)(hl:l.length<=1099511627776):Nf Tryz.prog 85 [.fn 86 [],.sl (l.map rT)] ((lM l).map rT):=by
 intro avs w F hal ha
 match avs,hal with
 | [x,y],_=>
  have h0:=ha 0 (by simp) (by simp);have h1:=ha 1 (by simp) (by simp);simp only[List.getElem_cons_zero,List.getElem_cons_succ]at h0 h1;cases h0
  cases h1 with
  |im h1=>
   obtain⟨a,cap,rfl,hh⟩:=zR h1;exact(D8 l a cap w hh hl).mono λe w' h=>Dd h
theorem tY{P:Program}{w:World}(t it ty e:TypeId)(i:TypeInfo)(z:Value)(ht:P.underlying t=some (.slice e))(hit:P.underlying it=some (.int .i64))(hi:P.info? e=some i)(hz:i.zero=some z)(Z4:0<i.size)
 (n:Nat)(h0:0<n)(QX:n<=1099511627776)(h48:n*i.bytes<=140737488355328):
 (Builtin.append_ #[t,it] ty #[.slice none 0 0,.int .i64 n]).run P w =
  .ok (.slice (some ⟨w.heap.size,0,none⟩) n (grownCap w n 0 e)) (w.drew.alloc (.cells (Builtin.zeroCells z.cells n++Builtin.zeroCells z.cells (grownCap w n 0 e-n)) e)):=by
 have hn:n≠0:=by omega
 have Q0:¬(9223372036854775807<(n:Int)):=by omega
 have hw:IntKind.i64.wrap (n:Int)=(n:Int):=wrap_i64 (by omega) (by omega)
 have UN:¬((n:Int)<0):=by omega
 have Q':¬((281474976710656:Int)<(n:Int)*(i.bytes:Int)):=by
  have e:(n:Int)*(i.bytes:Int)=((n*i.bytes:Nat):Int):=by simp
  rw[e];omega
 have QY:¬(281474976710656<Builtin.nextslicecap n 0*i.bytes):=by rw[nextslicecap_zero h0];omega
 have hm:n*i.size≠0:=by have:=Nat.mul_pos h0 Z4;omega
 have hsz:i.size≠0:=by omega
 simp[Builtin.append_,run_underlying ht,run_underlying hit,asInt,asIntOf,sizeOf,typeInfo,zeroValue,hi,hz,Builtin.lenOf,hn,Q0,QY,Question.forced,run_firstCells_none,newRow,grownCap,asInt,hw,UN,Q',hm,hsz]
theorem lL{P:Program}{ops:Array Oper}{rest:List Oper}{o:Oper}{a:Act}{Q:Exit->Act->World->Prop}{w:World}{t it:TypeId}(WL:o.guard=none)(s x:Operand)(ho:o.op=.call { callee:=.builtin .append,args:=#[s,x],argTypes:=#[t,it] })
 {vs vx v':Value}{w':World}(hs:a.eval s=vs)(hx:a.eval x=vx)(hrun:(Builtin.append_ #[t,it] o.type #[vs,vx]).run P w=.ok v' w')(h:wpList P ops Q rest (a.put o.dst v') w'):wpList P ops Q (o::rest) a w:=by
 refine wpList_plain WL λK hK=>?_;unfold Oper.wp;simp[execOp,ho,resolve,invoke,builtin,hs,hx,hrun,Result.andThen];exact hK _ _ h
theorem Ff{B:Nat}{a w:World}(h:Below B a w):Below B a w.drew:=⟨h.os,h.tape,h.output,h.size,h.block⟩
theorem J8(n:Nat)(w:World)(hn:n<=1099511627776):Calls Tryz.prog 118 #[.slice none 0 0,.int .i64 n] w λe w'=>Below w.heap.size w w'/\∃v,e=.returned v/\w'.ownsRow w.heap.size 25 2 v 0 []:=by
 obtain⟨i,z,hi,hz,hsz,Ym,Y1⟩:=tj;by_cases h0:n=0
 ·subst h0;clear hi hz hsz Ym Y1
  go_enter Tryz.func118,Tryz.ntmps118
  go_wp2
  go_ret
  exact⟨Below.refl _ _,_,rfl,rfl,.inl ⟨rfl,rfl⟩⟩
 ·have hz0:∀(w:World)(ty:TypeId),(Builtin.append_ #[30,3] ty #[.slice none 0 0,.int .i64 n]).run Tryz.prog w=.ok (.slice (some ⟨w.heap.size,0,none⟩) n (grownCap w n 0 25)) (w.drew.alloc (.cells (Builtin.zeroCells z.cells n++Builtin.zeroCells z.cells (grownCap w n 0 25-n)) 25)):=λw ty=>
   tY 30 3 ty 25 i z Tryz.underlying30 Tryz.underlying3 hi hz (by omega) n (by omega) hn (by rw[Ym];omega)
  have hge:n<=grownCap w n 0 25:=grownCap_ge w n 0 _;have YN:grownCap w n 0 25<=maxLen:=grownCap_le_maxLen w n 0 _ (by unfold maxLen;omega);obtain⟨zc,XE⟩:∃zc,zc=z.cells:=⟨_,rfl⟩;rw[<- XE]at hz0 Y1;have HZ:=Lib.hid Y1;clear XE hi hz hsz Ym Y1
  go_enter Tryz.func118,Tryz.ntmps118
  go_wp2_with (at_builtin;refine lL rfl _ _ rfl rfl rfl (hz0 _ _) ?_)
  go_ret
  have WJ:(Builtin.zeroCells zc n++Builtin.zeroCells zc (grownCap w n 0 25-n)).size=grownCap w n 0 25*2:=by
   rw[Array.size_append,size_zeroCells,size_zeroCells,HZ.out,<- Nat.add_mul];congr 1;omega
  refine⟨Ff (Below.alloc (Below.refl _ _) (Nat.le_refl _) _),_,rfl,rfl,.inr ⟨w.heap.size,_,_,rfl,Nat.le_refl _,heap_alloc_new w _,Nat.zero_le _,YN,WJ,by simp⟩⟩
theorem tZ{P:Program}{w:World}{t e:TypeId}(i:TypeInfo)(z:Value)(size bytes:Nat)(hu:P.underlying t=some (.slice e))(hi:P.info? e=some i)(hz:i.zero=some z)(Yj:i.size=size)(Ym:i.bytes=bytes)(Y1:z.cells.size=size)(Z4:0<size)
 (ty:TypeId)(base:Nat)(v:Value)(n:Nat)(xs:List Value)(hown:w.ownsRow base e size v n xs)
 (ad:Addr)(m c:Nat)(news:List Value)(hl:news.length=m*size)(Ze:∀(j:Nat) u,news[j]?=some u->w.cell? (ad.add j)=some u)(h1:∀u∈news,u.oneCell'=true)
 (Os:n+m<=maxLen)(Wf:(n+m)*bytes<=140737488355328)(Yd:base<=w.heap.size):
 ∃v' w',(Builtin.append_ #[t,t] ty #[v,.slice (some ad) m c]).run P w=.ok v' w'/\w'.ownsRow base e size v' (n+m) (xs++news)/\w.grownBy w' v.ownBlock:=by
 rcases hown.2 with⟨rfl,hn⟩|⟨g,cap,cur,rfl,hb,Ug,hcap,hmax,hsz,YQ⟩
 ·subst hn;have hx:xs=[]:=oEN (by simpa using hown.1);subst hx;obtain⟨v',w',hr,Zm,hg,_⟩:=run_append_own (P:=P) w w.heap.size t ty e i z size bytes hu hi hz Yj Ym Y1 Z4 (.slice none 0 0) 0 [] ⟨by simp,.inl ⟨rfl,rfl⟩⟩ ad m c news hl Ze h1 Os Wf (Nat.le_refl _);refine⟨v',w',hr,⟨Zm.1,?_⟩,hg⟩;rcases Zm.2 with h|⟨g,cap,cur,e1,e2,e3⟩
  ·exact .inl h
  ·exact .inr ⟨g,cap,cur,e1,Nat.le_trans Yd e2,e3⟩
 ·rcases Nat.lt_or_ge cap (n+m)with hlt|hge
  ·have hc:=@World.ownsRow.cells w base e size _ n xs hown;obtain⟨v',w',hr,Zm,hg⟩:=run_append_arg_grows (P:=P) w t ty e i z size bytes hu hi hz Yj Ym Y1 Z4 ⟨g,0,none⟩ n cap xs hown.1 (hc rfl) ad m c news hl Ze hlt Os Wf;refine⟨v',w',hr,⟨Zm.1,?_⟩,⟨hg.os,hg.tape,hg.output,hg.size,λk hk _=>hg.block k hk (by simp)⟩⟩;rcases Zm.2 with h|⟨g,cap,cur,e1,e2,e3⟩
   ·exact .inl h
   ·exact .inr ⟨g,cap,cur,e1,Nat.le_trans Yd e2,e3⟩
  ·obtain⟨w',hr,Zm,hg⟩:=run_append_own_spare (P:=P) w base t ty e i size hu hi Yj g n cap xs hown ad m c news hl Ze h1 hge;exact⟨_,w',hr,Zm,hg⟩
theorem L5{w:World}(ty:TypeId)(base:Nat)(v:Value)(xs l:List PID)(hown:w.ownsRow base 25 2 v xs.length (jH xs))(Yd:base<=w.heap.size)(a:Option Addr)(cap:Nat)(ha:l≠[]->∃b o,a=some ⟨b,o,none⟩/\nb w b o l)(hlen:xs.length+l.length<=1099511627776):
 ∃v' w',(Builtin.append_ #[30,30] ty #[v,.slice a l.length cap]).run Tryz.prog w=.ok v' w'/\w'.ownsRow base 25 2 v' (xs++l).length (jH (xs++l))/\w.heap.size<=w'.heap.size/\w'.os=w.os/\w'.tape=w.tape/\w'.output=w.output/\∀k,k<base->w'.heap[k]?=w.heap[k]?:=by
 obtain⟨i,z,hi,hz,hsz,Ym,Y1⟩:=tj
 have e:jH (xs++l)=jH xs++jH l:=by simp[jH]
 by_cases hl:l=[]
 ·subst hl
  rcases hown.2 with⟨rfl,hn⟩|⟨g,c,cur,rfl,hb,Ug,hcap,hmax,XW,YQ⟩
  ·rw[hn]at hown;refine⟨_,w,fB w _ ty 25 i Tryz.underlying30 hi none 0 0 (Nat.le_refl _) a cap,by rw[List.append_nil,hn];exact hown,Nat.le_refl _,rfl,rfl,rfl,λ_ _=>rfl⟩
  ·exact⟨_,w,fB w _ ty 25 i Tryz.underlying30 hi _ _ c hcap a cap,by rw[List.append_nil];exact hown,Nat.le_refl _,rfl,rfl,rfl,λ_ _=>rfl⟩
 ·obtain⟨b,o,rfl,hh⟩:=ha hl;obtain⟨v',w',hr,Zm,hg⟩:=tZ i z 2 16 Tryz.underlying30 hi hz hsz Ym Y1 (by omega) ty base v xs.length (jH xs) hown ⟨b,o,none⟩ l.length cap (jH l) (uF l) (λj u hu=>by rw[cY];exact uH hh j u hu) (Aq l) (by unfold maxLen;omega) (by omega) Yd;refine⟨v',w',hr,by rw[List.length_append,e];exact Zm,hg.size,hg.os,hg.tape,hg.output,λk hk=>hg.block k (by omega) λe2=>?_⟩
  rcases hown.2 with⟨rfl,_⟩|⟨g,c,cur,rfl,hb,_⟩
  ·simp[Value.ownBlock]at e2
  ·simp only[Value.ownBlock,oSJ]at e2;omega
def Na(w:World)(b o:Nat)(ls:List (List PID)):Prop:=∀i (h:i<ls.length),∃ai ci,w.cell? ⟨b,o+i,none⟩=some (.slice ai ls[i].length ci)/\(ls[i]≠[]->∃b' o',ai=some ⟨b',o',none⟩/\nb w b' o' ls[i])
theorem Ao{ls:List (List PID)}{i:Nat}(h:i<ls.length):(ls.take (i+1)).flatten=(ls.take i).flatten++ls[i]:=by
 rw[<- List.take_append_getElem h,List.flatten_append];simp only[List.flatten_cons,List.flatten_nil,List.append_nil]
theorem B6{ls:List (List PID)}(i:Nat):(ls.take i).flatten.length<=ls.flatten.length:=by
 have:ls.flatten=(ls.take i).flatten++(ls.drop i).flatten:=by rw[<- List.flatten_append,List.take_append_drop]
 rw[this,List.length_append];omega
theorem Cy{w w':World}(h:Below w.heap.size w w'){b o:Nat}{l:List PID}(hh:nb w b o l):nb w' b o l:=λi hi=>by
 obtain⟨h1,h2⟩:=hh i hi;have hb:=Cx h1;exact⟨by rw[World.cell?_of_block (h.block b hb)];exact h1,by rw[World.cell?_of_block (h.block b hb)];exact h2⟩
theorem AN{B q:Nat}{w w1:World}(h:Below B (w.drewN q) w1):Below B w w1:=⟨h.os,h.tape,h.output,h.size,h.block⟩
set_option maxHeartbeats 4000000 in
theorem E4(ls:List (List PID))(b o cap:Nat)(w:World)(hr:Na w b o ls)(hlen:ls.flatten.length<=1099511627776)(hm:ls.length<=1099511627776):
 Calls Tryz.prog 87 #[.slice (some ⟨b,o,none⟩) ls.length cap] w λe w'=>Below w.heap.size w w'/\∃v,e=.returned v/\w'.ownsRow w.heap.size 25 2 v ls.flatten.length (jH ls.flatten):=by
 have mixed:Tryz.prog.follows .mixedOrders=true:=by kernel_rfl
 have HR:Aside (Na w b o ls):=hr;clear hr
 go_enter Tryz.func87,Tryz.ntmps87
 go_wp2
 go_loopg [3,11] ls.length (λg s3 s11 wr=>∃i q:Nat,i<=ls.length/\ls.length-i<=g/\s3=.int .i64 ((ls.take i).flatten.length:Nat)/\s11=.int .i64 i/\wr=w.drewN q)
 case atStart=>exact⟨0,0,by omega,by omega,rfl,rfl,rfl⟩
 case round=>
  obtain⟨i,q,hi,hg,rfl,rfl,rfl⟩:=hrel;have YN:=B6 (ls:=ls) i;by_cases hlt:i<ls.length
  ·obtain⟨ai,ci,hc,_⟩:=HR.out i hlt;have VK:=B6 (ls:=ls) (i+1)
   have Va:(ls.take (i+1)).flatten.length=(ls.take i).flatten.length+ls[i].length:=by rw[Ao hlt,List.length_append]
   generalize hk:ls[i].length=k at hc Va;generalize hn:(ls.take i).flatten.length=n at YN Va;have HF:Aside ((ls.take (i+1)).flatten.length=n+k/\(ls.take (i+1)).flatten.length<=ls.flatten.length):=⟨Va,VK⟩
   have Ui:n+k<=1099511627776:=by omega
   clear Va VK hk hn YN
   go_wp2
   go_roundg (ls.length-(i+1))
   case measure=>omega
   case rel=>exact⟨i+1,q,by omega,Nat.le_refl _,by rw[HF.out.1];go_num,by go_num,rfl⟩
  ·have Yv:i=ls.length:=by omega
   subst Yv;rw[List.take_length]at YN⊢;generalize hn:ls.flatten.length=n at YN hlen⊢;have HN:Aside (ls.flatten.length=n):=hn;clear hn YN
   go_wp2_with fail
   refine(J8 n _ hlen).mono ?_;rintro e w1 ⟨ZR,v,rfl,hown⟩;have HB:Aside (Below w.heap.size w w1/\w1.ownsRow w.heap.size 25 2 v 0 []):=⟨AN ZR,hown⟩;clear ZR hown
   go_wp2
   go_loopg [6,27] ls.length (λg s6 s27 wr=>∃j:Nat,j<=ls.length/\ls.length-j<=g/\s27=.int .i64 j/\Below w.heap.size w wr/\wr.ownsRow w.heap.size 25 2 s6 (ls.take j).flatten.length (jH (ls.take j).flatten))
   case atStart=>exact⟨0,by omega,by omega,rfl,HB.out.1,HB.out.2⟩
   case round=>
    obtain⟨j,hj,ZL,rfl,ZZ,hown⟩:=hrel;by_cases hlt2:j<ls.length
    ·obtain⟨ai,ci,hc,hrow⟩:=HR.out j hlt2
     have Zp:wr.cell? ⟨b,o+j,none⟩=some (.slice ai ls[j].length ci):=by rw[World.cell?_of_block (ZZ.block b (Cx hc))];exact hc
     have VK:=B6 (ls:=ls) (j+1);have Va:=Ao hlt2
     have hsz:(ls.take j).flatten.length+ls[j].length<=1099511627776:=by
      have:(ls.take (j+1)).flatten.length=(ls.take j).flatten.length+ls[j].length:=by rw[Va,List.length_append]
      have:=HN.out;omega
     obtain⟨v',w',hrun,Zm,Yj,Qm,Vp,VO,VA⟩:=L5 (w:=wr) 30 w.heap.size _ (ls.take j).flatten ls[j] hown ZZ.size ai ci (λhne=>by
      obtain⟨b',o',e1,e2⟩:=hrow hne
      exact⟨b',o',e1,Cy ZZ e2⟩) hsz
     rw[<- Va]at Zm;have HO:Aside (w'.ownsRow w.heap.size 25 2 v' (ls.take (j+1)).flatten.length (jH (ls.take (j+1)).flatten)/\Below w.heap.size w w'):=⟨Zm,⟨Qm.trans ZZ.os,Vp.trans ZZ.tape,VO.trans ZZ.output,Nat.le_trans ZZ.size Yj,λk hk=>(VA k hk).trans (ZZ.block k hk)⟩⟩;generalize ls[j].length=m at Zp hrun;clear Zm Qm Vp VO VA Yj hrow hown ZZ hc Va hsz VK
     go_wp2_with (at_builtin;refine lL rfl _ _ rfl rfl rfl hrun ?_)
     go_roundg (ls.length-(j+1))
     case measure=>omega
     case rel=>exact⟨j+1,by omega,Nat.le_refl _,by go_num,HO.out.2,HO.out.1⟩
    ·have hjl:j=ls.length:=by omega
     subst hjl;rw[List.take_length]at hown;have HO:Aside (Below w.heap.size w wr/\wr.ownsRow w.heap.size 25 2 u6 ls.flatten.length (jH ls.flatten)):=⟨ZZ,hown⟩;clear ZZ hown
     go_wp2
     go_ret
     exact⟨HO.out.1,_,rfl,HO.out.2⟩
theorem Ck(a:Option Addr)(cap:Nat)(w:World):Calls Tryz.prog 87 #[.slice a 0 cap] w λe w'=>Below w.heap.size w w'/\e=.returned (.slice none 0 0):=by
 have mixed:Tryz.prog.follows .mixedOrders=true:=by kernel_rfl
 go_enter Tryz.func87,Tryz.ntmps87
 go_wp2
 refine wp_loop_rounds 1 ?_;rw[rounds_succ]
 go_wp2
 refine wp_loop_rounds 1 ?_;rw[rounds_succ]
 go_wp2
 go_ret
 exact⟨Below.refl _ _,rfl⟩
theorem yK:gS Tryz.prog 87:=iJ Tryz.func87 (by kernel_rfl) rfl
theorem E3(ls:List (List PID))(hl:ls.flatten.length<=1099511627776)(hm:ls.length<=1099511627776):Nf Tryz.prog 87 [.sl (ls.map λx=>[TV.sl (x.map rT)])] (ls.flatten.map rT):=by
 intro avs w F hal ha
 match avs,hal with
 | [x],_=>
  have h0:=ha 0 (by simp) (by simp);simp only[List.getElem_cons_zero]at h0
  cases h0 with
  |im h0=>
   cases h0 with
   | @sl _ a cap sz u hsz hcap hmax hnil hcell hrec=>
    have Uh:(ls.map λx=>[TV.sl (x.map rT)]).length=ls.length:=by simp
    rw[Uh]at hcap⊢;by_cases hn:ls=[]
    ·subst hn;exact(Ck a cap w).mono λe w' ⟨hb,he⟩=>⟨_,he,hb,.sl (c:=[]) 2 (λ_ _=>undef) (λi h=>by simp at h) (Nat.le_refl _) (Nat.zero_le _) (λ_=>rfl) (λi j h=>by simp at h) (λi j h=>by simp at h)⟩
    ·have Z4:0<ls.length:=List.length_pos_iff.2 hn
     have hz:sz=1:=by
      have:=hsz 0 (by simpa using Z4);rw[<- this];simp
     subst hz;obtain⟨b,o,e,_,_⟩:=hcell 0 0 (by simpa using Z4) (by omega);subst e
     have TI:Na w b o ls:=λi hi=>by
      obtain⟨b',o',e',_,hc⟩:=hcell i 0 (by simpa using hi) (by omega)
      injection e' with e'
      injection e' with e1 e2
      subst e1;subst e2;have hr:=hrec i 0 (by simpa using hi) (by simp);simp only[List.getElem_map,List.getElem_cons_zero]at hr;obtain⟨ai,ci,hu,hh⟩:=zR hr;exact⟨ai,ci,by rw[<- hu,<- hc];congr 2;omega,hh⟩
     refine(E4 ls b o cap w TI hl hm).mono λe w' ⟨hb,v,he,hown⟩=>?_;refine Dd ⟨hb,?_⟩
     rcases hown.2 with⟨rfl,h0⟩|⟨g,c,cur,rfl,hg,Ug,W9,Wr,hcur,YQ⟩
     ·exact .inl ⟨oEN h0,none,he⟩
     ·have hK:=wz Ug hcur W9 YQ;exact .inr ⟨g,c,he,hg,W9,Wr,zV hK (by simp) λi hi=>by rw[getElem!_pos _ i (by simpa using hi)];simp⟩
end Go.Proofs.YtakfoejcjdcgbaaGreat
namespace Go.Proofs.YtakfoejcjdcgbaaGreat
end Go.Proofs.YtakfoejcjdcgbaaGreat
namespace Go.Proofs.YtakfoejcjdcgbaaGreat
open Go.RowKit
def Nm:FuncId->List TV->Option (List (List TV)):=λf vals=>
 if f=85 then(match vals with
  | [.fn g [],.sl c]=>if g=86 then(K7 c).bind λl=>if l.length<=1099511627776 then some ((lM l).map rT)else none else none
  |_=>none)
 else if f=87 then(match vals with
  | [.sl c]=>(Cf c).bind λl=>if l.flatten.length<=1099511627776/\l.length<=1099511627776 then some (l.flatten.map rT)else none
  |_=>none)
 else none
def Nn:cI:=KZ Nm
theorem Mv:dF Tryz.prog Nn:=Oa λf vals c h=>by
 unfold Nm at h;split at h
 ·rename_i e;subst e;split at h
  ·split at h
   ·rename_i g c0 e;subst e;obtain⟨l,h1,h2⟩:=Option.bind_eq_some_iff.1 h;split at h2
    ·rename_i hl
     injection h2 with h2
     subst h2;rw[Ce h1];exact⟨wY,D7 l hl⟩
    ·cases h2
   ·cases h
  ·cases h
 ·split at h
  ·rename_i e;subst e;split at h
   ·obtain⟨l,h1,h2⟩:=Option.bind_eq_some_iff.1 h;split at h2
    ·rename_i hl
     injection h2 with h2
     subst h2;rw[DJ h1];exact⟨yK,E3 l hl.1 hl.2⟩
    ·cases h2
   ·cases h
  ·cases h
def dB(a0:List PID):Option (List PID×Unit):=if a0.length<=1099511627776 then some (lM a0,())else none
def dg(a0:List (List PID)):Option (List PID×Unit):=if a0.flatten.length<=1099511627776/\a0.length<=1099511627776 then some (a0.flatten,())else none
theorem my{id:Nat}:me Nn ⟨85,id,[.fn 86 [],shU (.row false (.pair (.int .i64) (.int .i64)))],[],[⟨[shU (.row false (.pair (.int .i64) (.int .i64)))],[.one],[]⟩],λh=>dB h.1⟩:=by
 rintro⟨l,h⟩ o x ho hx;have ho:(if List.length l<=1099511627776 then some (lM l,())else none)=some o:=ho;split at ho
 case isFalse=>cases ho
 rename_i hl
 injection ho with ho
 subst ho;cases hx;show KZ Nm 85 [.fn 86 [],.sl (l.map rT)] []=some (⟨[.sl ((lM l).map rT)],[.one]⟩,[]);simp[KZ,Nm,zQ,yF,hl]
theorem lX{id:Nat}:me Nn ⟨87,id,[shU (.row false (.row false (.pair (.int .i64) (.int .i64))))],[],[⟨[shU (.row false (.pair (.int .i64) (.int .i64)))],[.one],[]⟩],λh=>dg h.1⟩:=by
 rintro⟨l,h⟩ o x ho hx;have ho:(if(List.flatten l).length<=1099511627776/\List.length l<=1099511627776 then some (List.flatten l,())else none)=some o:=ho;split at ho
 case isFalse=>cases ho
 rename_i hl
 injection ho with ho
 subst ho;cases hx;show KZ Nm 87 [.sl (l.map λx=>[TV.sl (x.map rT)])] []=some (⟨[.sl (l.flatten.map rT)],[.one]⟩,[]);unfold KZ;rw[oIP (by simp[zQ])];unfold Nm;rw[oIN (by decide),oIP rfl];simp only[Aw,oBS,oIP hl,oMS]
abbrev PP:CT:=(.pair (.int .u8) (.pair (.int .u16) (.pair I64 I64)))
abbrev IK:CT:=(.row false PP)
abbrev RIi:CT:=(.row false I64)
abbrev Nu:Type:=(Int×Int×Int×Int)
def HHi(f i:Nat):List (Nat×Option Nat):=if f=77 then(if i=1000011 then[(11,some 1),(12,some 1)]else[])else if f=5 then(if i=3000021 then[(11,some 2),(11,some 3),(11,some 4)]else[])else if f=100 then(if i=4000010 then[(8,some 2)]else[])else if f=75 then(if i=3000006 then[(8,none)]else[])else if f=26 then(if i=3000005 then[(10,none)]else[])else if f=38 then(if i=3000010 then[(11,none)]else if i=3000008 then[(15,some 2),(15,some 10)]else if i=1000001 then[(5,some 5)]else[])else if f=58 then(if i=3000014 then[(9,some 0),(9,some 1)]else[])else if f=43 then(if i=1000011 then[(8,none)]else[])else if f=79 then(if i=3000006 then[(8,none)]else[])else if f=39 then(if i=3000009 then[(11,none)]else[])else if f=108 then(if i=3000017 then[(9,some 1)]else[])else if f=40 then(if i=3000010 then[(11,none)]else[])else if f=4 then(if i=1000009 then[(6,none)]else if i=1000012 then[(9,none)]else if i=1000000 then[(0,some 3)]else[])else if f=30 then(if i=4000002 then[(1,some 1000)]else if i=4000007 then[(1,some 1001)]else[])else[]
noncomputable def TTi (f:FuncId):Option TFn:=n9 Tryz.prog (HHi f) f
noncomputable def E0i:Env:={ box:=λ_=>none,ps:=λf=>Pa Tryz.prog f }
theorem NF:yS Tryz.prog TTi:=A7 HHi (by kernel_rfl)
def pf:Int×(List (Int))×Int×Int×Int×(List (Int))×Unit->Option ((Int×(List (Int))×Int×Int×Int×(List (Int))×Unit)⊕(Int×(List (Int))×Int×Int×Int×Bool×(List (Int))×Unit)):=λ(v0,v1,v2,v3,v4,v5,_)=>
bif(decide (v4<8))then(let x0:Int:=(wk .u64 v0);
let x1:Int:=(w64 (8*v4));
(cl x1).bind λx2=>
let x3:Int:=(shR .shr .u64 x0 x2);
let x4:Int:=(wk .u8 x3);
bif(b6 1 (List.length v5) (List.length [x4]))then let x5:List (Int):=(List.append v5 [x4]);
let x6:Int:=(w64 (v4+1));
some (.inl (v0,v1,v2,v3,x6,x5,()))else none)else
some (.inr (v0,v1,v2,v3,v4,false,v5,()))
def pe:(List (Int))×Int×Int×(List (Int))×Unit->Option (((List (Int))×Int×Int×(List (Int))×Unit)⊕((List (Int))×Int×Int×Bool×(List (Int))×Unit)):=λ(v0,v1,v2,v3,_)=>
bif(decide (v2<v1))then((cl v2).bind λx0=>
(bV v0 x0).bind λx1=>
(bM pf NN (x1,v0,v1,v2,0,v3,())).bind λ(x2,x3,x4,x5,x6,x7,x8,_)=>
let x9:Int:=(w64 (x5+1));
some (.inl (x3,x4,x9,x8,())))else
some (.inr (v0,v1,v2,false,v3,()))
def fQ(a0:List (Int))(a1:List (Int)):Option ((List (Int))×Unit):=
let x0:Int:=(bJ (List.length a0));
(bM pe NN (a0,x0,0,a1,())).bind λ(x1,x2,x3,x4,x5,_)=>
some (x5,())
noncomputable def sT:X.Cfg:=⟨E0i,[],[],[⟨9,0,⟨[(0,.pk ⟨3,0,[]⟩ [0,0]),(6,shU I64),(8,shU RIi),(9,shU I64),(10,shU I64),(14,shU I64)],[(3,[shU (.row true (.int .u8))])],[],([],[])⟩,[(.exit 2,⟨[(0,.pk ⟨3,0,[]⟩ [0,0]),(6,shU I64),(8,shU RIi),(9,shU I64),(10,shU I64),(14,shU I64),(15,shU .bool)],[(3,[shU (.row true (.int .u8))])],[],([],[])⟩)]⟩,⟨3,1,⟨[(0,.pk ⟨3,0,[]⟩ [0,0]),(8,shU RIi),(9,shU I64),(10,shU I64)],[(3,[shU (.row true (.int .u8))])],[],([],[])⟩,[(.exit 0,⟨[(0,.pk ⟨3,0,[]⟩ [0,0]),(8,shU RIi),(9,shU I64),(10,shU I64),(11,shU .bool)],[(3,[shU (.row true (.int .u8))])],[],([],[])⟩)]⟩]⟩
def jJ:Ctr:=⟨99,0,[.pk ⟨3,0,[]⟩ [0,0],shU RIi],[(3,[shU (.row true (.int .u8))])],[⟨[shU (.row true (.int .u8))],[.one],[(3,[])]⟩],λh=>fQ h.1 h.2.1⟩
set_option maxRecDepth 100000 in
theorem mX:Lvl E0i TTi noB 1 jJ:=xj (n:=0) (C:=sT) rfl (.intro) (Be (by kernel_rfl)) (λh=>by kernel_rfl)
def sF:(List Nu)×Int×Int×(List (Int))×Unit->Option (((List Nu)×Int×Int×(List (Int))×Unit)⊕((List Nu)×Int×Int×Bool×(List (Int))×Unit)):=λ(v0,v1,v2,v3,_)=>
bif(decide (v2<v1))then((cl v2).bind λx0=>
(bV v0 x0).bind λx1=>
let x2:Int:=(wk .i64 x1.1);
let x3:Int:=(wk .i64 x1.2.1);
let x4:List (Int):=[x2,x3,x1.2.2.1,x1.2.2.2];
(fQ x4 v3).bind λ(x5,_)=>
let x6:Int:=(w64 (v2+1));
some (.inl (v0,v1,x6,x5,())))else
some (.inr (v0,v1,v2,false,v3,()))
def mj(a0:List Nu)(a1:List (Int)):Option ((List (Int))×Unit):=
let x0:Int:=(bJ (List.length a0));
(fQ [x0] a1).bind λ(x1,_)=>
let x2:Int:=(bJ (List.length a0));
(bM sF NN (a0,x2,0,x1,())).bind λ(x3,x4,x5,x6,x7,_)=>
some (x7,())
noncomputable def xU:X.Cfg:=⟨E0i,[jJ],[],[⟨4,0,⟨[(0,.pk ⟨3,0,[]⟩ [0,0]),(12,shU IK),(13,shU I64),(14,shU I64)],[(3,[shU (.row true (.int .u8))])],[],([],[])⟩,[(.exit 0,⟨[(0,.pk ⟨3,0,[]⟩ [0,0]),(12,shU IK),(13,shU I64),(14,shU I64),(15,shU .bool)],[(3,[shU (.row true (.int .u8))])],[],([],[])⟩)]⟩]⟩
def qL:Ctr:=⟨98,1,[.pk ⟨3,0,[]⟩ [0,0],shU IK],[(3,[shU (.row true (.int .u8))])],[⟨[shU (.row true (.int .u8))],[.one],[(3,[])]⟩],λh=>mj h.1 h.2.1⟩
set_option maxRecDepth 100000 in
theorem xo:Lvl E0i TTi noB 2 qL:=xj (n:=1) (C:=xU) rfl (.intro (mX.mono (by decide)) (.intro)) (Be (by kernel_rfl)) (λh=>by kernel_rfl)
def gH(a0:Int)(a1:Int)(a2:List Nu)(a3:Int)(a4:Int)(a5:Int)(a6:Int)(a7:Int)(a8:Int)(a9:Int)(a10:List Nu):Option ((List (Int))×Unit):=
let x0:List (Int):=[a0,a1];
(fQ x0 []).bind λ(x1,_)=>
(mj a2 x1).bind λ(x2,_)=>
let x3:Int:=(wk .i64 a9);
let x4:List (Int):=[a3,a4,a5,a6,a7,a8,x3];
(fQ x4 x2).bind λ(x5,_)=>
(mj a10 x5).bind λ(x6,_)=>
some (x6,())
noncomputable def vD:X.Cfg:=⟨E0i,[jJ,qL],[],[]⟩
def oY:Ctr:=⟨74,2,[.agg [shU I64,shU I64,shU IK,shU I64,shU I64,shU I64,shU I64,shU I64,shU I64,shU (.int .u16),shU IK]],[],[⟨[shU (.row true (.int .u8))],[.one],[]⟩],λh=>gH h.1 h.2.1 h.2.2.1 h.2.2.2.1 h.2.2.2.2.1 h.2.2.2.2.2.1 h.2.2.2.2.2.2.1 h.2.2.2.2.2.2.2.1 h.2.2.2.2.2.2.2.2.1 h.2.2.2.2.2.2.2.2.2.1 h.2.2.2.2.2.2.2.2.2.2.1⟩
set_option maxRecDepth 100000 in
theorem vt:Lvl E0i TTi noB 3 oY:=xj (n:=2) (C:=vD) rfl (.intro (mX.mono (by decide)) (.intro (xo.mono (by decide)) (.intro))) (Be (by kernel_rfl)) (λh=>by kernel_rfl)
abbrev Cn4:=Int×Int×Int×Int
abbrev Vw8:=Int×Int×Int×Int×Int×Int×Int×List Cn4
abbrev Pw:=Int×Int×List Cn4×Vw8
abbrev cCn:CT:=.pair (.int .u8) (.pair (.int .u16) (.pair (.int .i64) (.int .i64)))
abbrev cCs:CT:=.row false cCn
abbrev cVw:CT:=.pair (.int .i64) (.pair (.int .i64) (.pair (.int .i64) (.pair (.int .i64) (.pair (.int .i64) (.pair (.int .i64) (.pair (.int .u16) cCs))))))
abbrev cPg:CT:=.pair (.int .i64) (.pair (.int .i64) (.pair cCs cVw))
theorem Ov:wd Tryz.prog E0i:=Ku λf n tm h=>by simp[E0i]at h
theorem PE(k:Nat):dF Tryz.prog (runF E0i TTi noB k):=runF_ok NF Ov N7 k
theorem K1(l:List Int):(TV.ow (l.map (enc (.int .u8)))).imm=.sl (l.map (enc (.int .u8))):=by
 simp only[TV.imm,lw,List.map_map];rfl
theorem Mu{P:Program}{B:cI}(hB:dF P B){f:FuncId}{vals:List TV}{res:vl}(h:B f vals []=some (res,[]))(ZE:res.cells.all Dq=true)(h2:(res.cells.map TV.imm).all MA=true):DX P f vals ⟨res.cells.map TV.imm,res.sh⟩:=by
 refine⟨h2,λavs w F hl hv=>(Ks hB h ZE hl hv).mono ?_⟩;rintro e w2 ⟨ys,e1,e2,e3,e4⟩;refine⟨ys,e1,by simpa using e2,e3,λj hj=>?_⟩
 have ZY:j<res.cells.length:=by simpa using hj
 simpa using e4 j ZY
theorem Fc(p:Pw)(bs:List Int)(h:gH p.1 p.2.1 p.2.2.1 p.2.2.2.1 p.2.2.2.2.1 p.2.2.2.2.2.1 p.2.2.2.2.2.2.1 p.2.2.2.2.2.2.2.1 p.2.2.2.2.2.2.2.2.1 p.2.2.2.2.2.2.2.2.2.1 p.2.2.2.2.2.2.2.2.2.2=some (bs,())):
 runF E0i TTi noB (NN+3) 74 [.agg (enc cPg p)] []=some (⟨[.ow (bs.map (enc (.int .u8)))],[.one]⟩,[]):=by
 obtain⟨a,c,pc,v0,v1,v2,v3,v4,v5,v6,pr⟩:=p;have h2:gH a c pc v0 v1 v2 v3 v4 v5 v6 pr=some (bs,()):=h
 exact vt 3 (Nat.le_refl _) ⟨a,c,pc,v0,v1,v2,v3,v4,v5,v6,pr,()⟩ (bs,()) _ (by
  unfold oY;dsimp only
  exact h2) rfl
theorem Is(p:Pw)(bs:List Int)(h:gH p.1 p.2.1 p.2.2.1 p.2.2.2.1 p.2.2.2.2.1 p.2.2.2.2.2.1 p.2.2.2.2.2.2.1 p.2.2.2.2.2.2.2.1 p.2.2.2.2.2.2.2.2.1 p.2.2.2.2.2.2.2.2.2.1 p.2.2.2.2.2.2.2.2.2.2=some (bs,())):
 DX Tryz.prog 74 [.agg (enc cPg p)] ⟨[.sl (bs.map (enc (.int .u8)))],[.one]⟩:=by
 have h2:=Mu (PE _) (Fc p bs h) rfl (by
  show(MA ((TV.ow (bs.map (enc (.int .u8)))).imm)&&true)=true;rw[K1]
  rfl)
 rw[<- K1 bs];exact h2
def Oz{α:Type}(f:List TV->Option α):List (List TV)->Option (List α)
 | []=>some []
 |c::r=>(f c).bind λx=>(Oz f r).bind λy=>some (x::y)
def Cd:(t:CT)->List TV->Option (den t)
 |.int k,l=>match l with
  | [.v (.int k' x)]=>if k'=k then some x else none
  |_=>none
 |.bool,l=>match l with
  | [.v (.bool b)]=>some b
  |_=>none
 |.row o t,l=>match o,l with
  |false,[.sl c]=>Oz (Cd t) c
  |_,_=>none
 |.pair a b,l=>(Cd a (l.take (ii a))).bind λx=>(Cd b (l.drop (ii a))).bind λy=>some (x,y)
 |.str,_=>none
 |.nat,_=>none
 |.nilr _,_=>none
theorem If{α:Type}{f:List TV->Option α}{e:α->List TV}(h:∀{c x},f c=some x->c=e x):∀{c:List (List TV)}{xs:List α},Oz f c=some xs->c=xs.map e
 | [],xs,g=>by
  simp only[Oz,oSJ]at g;subst g;rfl
 |c::r,xs,g=>by
  simp only[Oz]at g;obtain⟨x,h1,g⟩:=Option.bind_eq_some_iff.1 g;obtain⟨y,h2,g⟩:=Option.bind_eq_some_iff.1 g
  injection g with g
  subst g;rw[h h1,If h h2];rfl
theorem yE:∀(t:CT){l:List TV}{x:den t},Cd t l=some x->l=enc t x:=by
 intro t
 induction t with
 |int k=>
  intro l x h;simp only[Cd]at h;split at h
  ·split at h
   ·rename_i e
    injection h with h
    subst h e;rfl
   ·cases h
  ·cases h
 |bool=>
  intro l x h;simp only[Cd]at h;split at h
  ·injection h with h
   subst h;rfl
  ·cases h
 |str=>intro l x h;simp[Cd]at h
 |nat=>intro l x h;simp[Cd]at h
 |nilr o=>intro l x h;simp[Cd]at h
 |row o t ih=>
  intro l x h;simp only[Cd]at h;split at h
  ·have e:=If (e:=enc t) (λg=>ih g) h;subst e;rfl
  ·cases h
 |pair a b Zc Y7=>
  intro l x h;simp only[Cd]at h;obtain⟨y,h1,h⟩:=Option.bind_eq_some_iff.1 h;obtain⟨z,h2,h⟩:=Option.bind_eq_some_iff.1 h
  injection h with h
  subst h;simp only[enc];rw[<- Zc h1,<- Y7 h2,List.take_append_drop]
abbrev sRg:CT:=.row false (.row false cCn)
abbrev sTs:CT:=.row false cVw
def Og(vals:List TV):Option vl:=match vals with
 | [.agg l]=>(Cd cPg l).bind λp=>(gH p.1 p.2.1 p.2.2.1 p.2.2.2.1 p.2.2.2.2.1 p.2.2.2.2.2.1 p.2.2.2.2.2.2.1 p.2.2.2.2.2.2.2.1 p.2.2.2.2.2.2.2.2.1 p.2.2.2.2.2.2.2.2.2.1 p.2.2.2.2.2.2.2.2.2.2).bind λ(bs,_)=>some ⟨[.sl (bs.map (enc (.int .u8)))],[.one]⟩
 |_=>none
def MI(f:FuncId)(vals:List TV):Option vl:=if f=74 then Og vals else none
theorem AJ:gS Tryz.prog 74:=iJ Tryz.func74 (by kernel_rfl) rfl
theorem J5:∀f vals r,MI f vals=some r->gS Tryz.prog f/\DX Tryz.prog f vals r:=by
 intro f vals r h;unfold MI at h;split at h
 case isFalse=>cases h
 rename_i e;subst e;refine⟨AJ,?_⟩;unfold Og at h;split at h
 case h_2=>cases h
 rename_i l;obtain⟨p,h3,h⟩:=Option.bind_eq_some_iff.1 h;obtain⟨⟨bs,u⟩,h4,h⟩:=Option.bind_eq_some_iff.1 h
 injection h with h
 subst h;have e3:=yE _ h3;subst e3;exact Is p bs h4
def xk:cI:=EF MI
theorem tu:dF Tryz.prog xk:=Ms J5
theorem GD{b o o' n n' c c':Nat}(h1:o=o')(h2:n=n')(h3:c=c'):Ending.returned (.slice (some ⟨b,o,none⟩) n c)=.returned (.slice (some ⟨b,o',none⟩) n' c'):=by rw[h1,h2,h3]
theorem GY(b o n c j:Nat)(w:World)(h:j<=32)(hn:8*j<n)(hc:n<=c)(hm:n<=1099511627776):Calls Tryz.prog 90 #[.slice (some ⟨b,o,none⟩) n c,.int .i64 j] w λe w'=>e=.returned (.slice (some ⟨b,o+8*j*4,none⟩) (min 8 (n-8*j)) (c-8*j))/\w'=w:=by
 have h0:¬(j:Int)<0:=by omega
 have h1:¬(32:Int)<(j:Int):=by omega
 have h2:¬(n:Int)<=(j:Int)*8:=by omega
 have h3:(j:Int)*8<(n:Int):=by omega
 go_enter Tryz.func90,Tryz.ntmps90
 go_wp2_with fail
 all_goals
  go_ret
  refine⟨?_,rfl⟩;exact GD (by omega) (by omega) (by omega)
theorem Dh:IL Tryz.prog 90:=⟨iJ Tryz.func90 (by kernel_rfl) rfl,λb o n c j w h1 h2 h3 h4=>GY b o n c j w h1 h2 h3 h4⟩
def HC(f i:Nat):List (Nat×Option Nat):=if f=99 then(if i=1000007 then[(0,some 4)]else[])
 else if f=100 then(if i=4000010 then[(8,some 2)]else[])
 else if f=75 then(if i=3000006 then[(8,none)]else[])
 else if f=26 then(if i=3000005 then[(10,none)]else[])
 else if f=38 then(if i=3000010 then[(11,none)]else if i=3000008 then[(15,some 2),(15,some 10)]else[])
 else[]
noncomputable def TC (f:FuncId):Option TFn:=n9 Tryz.prog (HC f) f
noncomputable def EC:Env:={ box:=λ_=>none,ps:=λf=>Pa Tryz.prog f,row:=λf=>if f=90 then 3 else 0 }
theorem NI:yS Tryz.prog TC:=A7 HC (by kernel_rfl)
theorem MQ:wd Tryz.prog EC:=⟨λf n tm h=>(by simp[EC]at h),λf hf=>by
 by_cases h:f=90
 ·subst h;exact⟨λh=>absurd rfl h,λ_=>Dh⟩
 ·exact absurd (show EC.row f=0 from oIN h) hf⟩
noncomputable def TD (f:FuncId):Option TFn:=if f=74\/f=38 then none else TC f
theorem O7:yS Tryz.prog TD:=λf tf h=>NI f tf (by
 unfold TD at h;split at h
 ·cases h
 ·exact h)
noncomputable def TE (f:FuncId):Option TFn:=if f=74 then none else TC f
theorem NH:yS Tryz.prog TE:=λf tf h=>NI f tf (by
 unfold TE at h;split at h
 ·cases h
 ·exact h)
abbrev St2:Type:=List (List Cn4)×List Vw8
abbrev cS2:CT:=.pair sRg sTs
abbrev z4:Cn4:=(0,0,0,0)
def stL:List St2:=[([[z4,z4,z4,z4,z4,z4,z4,z4,z4]],[]),([[z4,z4,z4,z4,z4,z4,z4,z4,(0,3,0,0)]],[]),([[z4,z4,z4,z4,z4,z4,z4,z4,z4]],[])]
def agV(l:List St2)(b:List Bool)(d:Int×Int):List TV:=[.sl (l.map (enc cS2)),.sl (b.map (enc .bool)),.agg (enc (.pair I64 I64) d),.v (.int .i64 2)]
def agR(i:Int)(cs:List Cn4)(l:List Int):vl:=⟨enc cPg (0,i,cs,0,0,0,0,0,0,0,[])++[.sl (l.map (enc I64)),.v (.int .i64 0)],[.agg 11,.one,.one]⟩
theorem ag0:runF EC TE xk 100000 38 (agV stL [true,true,true] (0,0)) []=some (agR 0 [z4,z4,z4,z4,z4,z4,z4,z4] [],[]):=by kernel_rfl
theorem ag1:runF EC TE xk 100000 38 (agV stL [true,true,true] (0,1)) []=some (agR 1 [z4] [1],[]):=by kernel_rfl
def eqS(a b:St2):Bool:=a.1==b.1&&a.2.isEmpty&&b.2.isEmpty
def eqL:List St2->List St2->Bool
 | [],[]=>true
 |a::l,b::k=>eqS a b&&eqL l k
 |_,_=>false
theorem K6:∀{l k:List St2},eqL l k=true->l=k
 | [],[],_=>rfl
 |a::l,b::k,h=>by
  simp only[eqL,eqS,oBA,beq_iff_eq,List.isEmpty_iff]at h;obtain⟨⟨⟨h1,h2⟩,h3⟩,h4⟩:=h;rw[K6 h4,show a=b from Prod.ext h1 (h2.trans h3.symm)]
def MH(f:FuncId)(vals:List TV)(pts:Pts):Option (vl×Pts):=if f=38 then(match vals,pts with
 | [L,I,.agg d,.v (.int .i64 2)],[]=>(Cd (.row false cS2) [L]).bind λl=>(Cd (.row false .bool) [I]).bind λb=>(Cd (.pair I64 I64) d).bind λp=>
  if eqL l stL=true/\b=[true,true,true]then(if p=(0,0)then some (agR 0 [z4,z4,z4,z4,z4,z4,z4,z4] [],[])else if p=(0,1)then some (agR 1 [z4] [1],[])else none)else none
 |_,_=>none)else none
theorem J4:dF Tryz.prog MH:=by
 intro f vals pts res ZJ h;unfold MH at h;split at h
 case isFalse=>cases h
 rename_i e;subst e;split at h
 case h_2=>cases h
 rename_i L I d;obtain⟨l,h1,hA⟩:=Option.bind_eq_some_iff.1 h;obtain⟨b,h2,hB⟩:=Option.bind_eq_some_iff.1 hA;obtain⟨p,h3,hC⟩:=Option.bind_eq_some_iff.1 hB;clear h hA hB;have e1:=yE _ h1;have e2:=yE _ h2;have e3:=yE _ h3;simp only[enc,List.cons.injEq,and_true]at e1 e2;subst e1 e2 e3;split at hC
 case isFalse=>cases hC
 rename_i g;obtain⟨g1,g2⟩:=g;have g1:=K6 g1;subst g1 g2;split at hC
 ·rename_i g;subst g
  injection hC with hC
  injection hC with Vw SQ
  subst Vw SQ;exact runF_ok NH MQ tu 100000 _ _ _ _ _ ag0
 ·split at hC
  ·rename_i g;subst g
   injection hC with hC
   injection hC with Vw SQ
   subst Vw SQ;exact runF_ok NH MQ tu 100000 _ _ _ _ _ ag1
  ·cases hC
def Mt:cI:=λf vals pts=>match xk f vals pts with
 |some r=>some r
 |none=>MH f vals pts
theorem JT:dF Tryz.prog Mt:=by
 intro f vals pts res ZJ h;unfold Mt at h;split at h
 ·rename_i r hr
  injection h with h
  subst h;exact tu f vals pts _ _ hr
 ·exact J4 f vals pts _ _ h
theorem Ph:runF EC TD Mt 100000 7 [] []=some (⟨[.v (.bool true)],[.one]⟩,[]):=by kernel_rfl
def libBj:cI:=λf vals pts=>match xk f vals pts with
 |some r=>some r
 |none=>match vals,pts with
  | [],[]=>if f=7 then some (⟨[.v (.bool true)],[.one]⟩,[])else none
  |_,_=>Nn f vals pts
theorem libBj_ok:dF Tryz.prog libBj:=by
 intro f vals pts res ZJ h;unfold libBj at h;split at h
 ·rename_i r hr
  injection h with h
  subst h;exact tu f vals pts _ _ hr
 ·split at h
  ·split at h
   ·rename_i e
    injection h with h
    injection h with h1 h2
    subst h1 h2 e;exact runF_ok O7 MQ JT 100000 _ [] [] _ _ Ph
   ·cases h
  ·exact Mv f vals pts _ _ h
def dn:Option (Bool×Unit):=some (true,())
theorem sL{id:Nat}:me libBj ⟨7,id,[],[],[⟨[shU .bool],[.one],[]⟩],λh=>dn⟩:=by
 intro h o x ho hx
 injection ho with ho
 subst ho;cases hx;show libBj 7 [] []=_;rfl
theorem lW{id:Nat}:me libBj ⟨85,id,[.fn 86 [],shU (.row false (.pair (.int .i64) (.int .i64)))],[],[⟨[shU (.row false (.pair (.int .i64) (.int .i64)))],[.one],[]⟩],λh=>dB h.1⟩:=by
 intro a o x ho hx;have h:=my (id:=id) a o x ho hx
 have e:∀vals pts,vals≠[]->libBj 85 vals pts=Nn 85 vals pts:=λvals pts hv=>by
  have e1:xk 85 vals pts=none:=by
   unfold xk EF;split
   ·split
    ·rfl
    ·rfl
   ·rfl
  unfold libBj;rw[e1]
  match vals,hv with
  |_::_,_=>rfl
 exact(e _ _ (by cases hx;exact List.cons_ne_nil _ _)).trans h
theorem lA{id:Nat}:me libBj ⟨87,id,[shU (.row false (.row false (.pair (.int .i64) (.int .i64))))],[],[⟨[shU (.row false (.pair (.int .i64) (.int .i64)))],[.one],[]⟩],λh=>dg h.1⟩:=by
 intro a o x ho hx;have h:=lX (id:=id) a o x ho hx
 have e:∀vals pts,vals≠[]->libBj 87 vals pts=Nn 87 vals pts:=λvals pts hv=>by
  have e1:xk 87 vals pts=none:=by
   unfold xk EF;split
   ·split
    ·rfl
    ·rfl
   ·rfl
  unfold libBj;rw[e1]
  match vals,hv with
  |_::_,_=>rfl
 exact(e _ _ (by cases hx;exact List.cons_ne_nil _ _)).trans h
end Go.Proofs.YtakfoejcjdcgbaaGreat
namespace Go.Proofs.YtakfoejcjdcgbaaGreat
open Go.RowKit
set_option maxRecDepth 100000
noncomputable section
abbrev KCn:CT:=(.pair (.int .u8) (.pair (.int .u16) (.pair I64 I64)))
abbrev ch:CT:=(.pair I64 (.pair I64 (.pair I64 (.pair I64 (.pair I64 (.pair I64 (.pair (.int .u16) (.row false KCn))))))))
abbrev nq:CT:=(.pair I64 (.pair I64 (.pair I64 (.pair I64 (.pair I64 (.pair I64 (.pair (.int .u16) (.row true KCn))))))))
abbrev bZ:CT:=(.row false KCn)
abbrev RI:CT:=(.row false I64)
abbrev DCe:Type:=(Int×Int)
abbrev DCn:Type:=(Int×Int×Int×Int)
abbrev DTs:Type:=(Int×Int×Int×Int×Int×Int×Int×List DCn)
def HH(f i:Nat):List (Nat×Option Nat):=if f=5 then(if i=3000021 then[(11,some 2),(11,some 3),(11,some 4)]else[])else if f=100 then(if i=4000010 then[(8,some 2)]else[])else if f=43 then(if i=1000011 then[(8,none)]else[])else if f=108 then(if i=3000017 then[(9,some 1)]else[])else if f=40 then(if i=3000010 then[(11,none)]else[])else if f=58 then(if i=1000007 then[(1,some 5)]else[])else if f=4 then(if i=1000009 then[(6,none)]else if i=1000012 then[(9,none)]else if i=1000000 then[(0,some 3)]else if i=1 then[(12,some 0),(12,some 1)]else[])else if f=18 then(if i=0 then[(4,some 0)]else[])else if f=90 then(if i=0 then[(4,none)]else[])else if f=89 then(if i=0 then[(4,some 2),(4,some 10)]else[])else if f=53 then(if i=0 then[(4,some 2),(4,some 10)]else[])else if f=102 then(if i=1 then[(5,some 1),(5,some 2)]else[])else if f=75 then(if i=3000006 then[(8,none)]else if i=0 then[(6,some 1)]else[])else if f=38 then(if i=3000010 then[(11,none)]else if i=3000008 then[(15,some 2),(15,some 10)]else if i=1000001 then[(5,some 5)]else if i=0 then[(8,some 2),(8,some 10),(9,none)]else[])else if f=77 then(if i=1000011 then[(11,some 1),(12,some 1)]else if i=0 then[(4,some 10)]else[])else if f=79 then(if i=3000006 then[(8,none)]else if i=0 then[(6,some 1),(6,some 2)]else[])else if f=39 then(if i=3000009 then[(11,none)]else if i=0 then[(8,some 2),(8,some 10),(9,none)]else[])else if f=30 then(if i=4000002 then[(1,some 1000)]else if i=4000007 then[(1,some 1001)]else if i=1000010 then[(6,none)]else[])else if f=54 then(if i=1000008 then[(9,none)]else[])else if f=26 then(if i=3000005 then[(10,none)]else if i=0 then[(6,some 0),(6,some 1),(7,none)]else[])else if f=20 then(if i=0 then[(6,some 4)]else[])else if f=111 then(if i=0 then[(4,none)]else[])else if f=81 then(if i=1 then[(5,none)]else[])else if f=23 then(if i=1 then[(11,some 0),(11,some 1)]else if i=0 then[(6,some 2),(6,some 3)]else[])else[]
def Ob:List Nat:=[7,87,85]
noncomputable def TT (f:FuncId):Option TFn:=if Ob.contains f then none else n9 Tryz.prog (HH f) f
theorem FD{f:FuncId}(h:Ob.contains f=true):TT f=none:=oIP h
noncomputable def E0:Env:={ box:=λf=>if f=14 then some (1,[.arg 0,.val (.int .i64 0)])else none,ps:=λf=>Pa Tryz.prog f,row:=λf=>if f=57 then 1 else if f=59 then 2 else if f=90 then 3 else 0 }
theorem tt_ok:yS Tryz.prog TT:=λf tf h=>A7 HH (by kernel_rfl) f tf (by
 unfold TT at h
 split at h
 ·cases h
 ·exact h)
abbrev qE:Shs:=⟨[],[],[],([],[])⟩
abbrev qS(s:List (Nat×Sh))(c:List (Nat×List Sh)):Shs:=⟨s,c,[],([],[])⟩
abbrev N1:CT:=.nilr true
abbrev N0:CT:=.nilr false
abbrev CW:CT:=.int .u16
abbrev CB:CT:=.int .u8
abbrev uL(l:List CT):List Sh:=l.map fun c=>.d c ()
abbrev pP(t r:Nat):Nat×Sh:=(t,.ptr ⟨r,0,[]⟩ [0])
abbrev sP(t:Nat)(c:CT):Nat×Sh:=(t,.d c ())
abbrev Lk(n:Nat)(c:Ctr):Prop:=Lvl E0 TT libBj n c
theorem aN{m:Nat}:DY E0 TT libBj m []:=trivial
theorem aC{n m:Nat}{c:Ctr}{l:List Ctr}(h:Lk n c)(r:DY E0 TT libBj m l)(hm:n≤m:=by decide):DY E0 TT libBj m (c::l):=⟨h.mono hm,r⟩
abbrev lx(i n:Nat)(s:List (Nat×Sh))(c:List (Nat×List Sh))(b:Nat):AY:=⟨i,n,⟨s,c,[],([],[])⟩,[(.exit 0,⟨s++[(b,.d .bool ())],c,[],([],[])⟩)]⟩
abbrev LI:Type:=List Int
abbrev LDCe:Type:=List DCe
abbrev LDCn:Type:=List DCn
abbrev LDTs:Type:=List DTs
abbrev LLCn:Type:=List (List DCn)
abbrev T00:Type:=Bool×LI×Unit
abbrev T01:Type:=Int×Bool×Unit
abbrev T02:Type:=Int×Int×Unit
abbrev T03:Type:=Int×LI×Unit
abbrev T04:Type:=Int×Unit×Unit
abbrev T05:Type:=LDCe×Int×Unit
abbrev T06:Type:=LI×Int×Unit
abbrev T07:Type:=LI×LI×Unit
abbrev T08:Type:=LLCn×LDTs×Unit
abbrev T09:Type:=Unit×Unit×Unit
abbrev T0a:Type:=Bool×T02
abbrev T0b:Type:=Bool×T07
abbrev T0c:Type:=Int×T00
abbrev T0d:Type:=Int×T01
abbrev T0e:Type:=Int×T02
abbrev T0f:Type:=Int×Int×LDCe×Unit
abbrev T0g:Type:=Int×T03
abbrev T0h:Type:=Int×T07
abbrev T0i:Type:=Int×T09
abbrev T0j:Type:=LDCe×T08
abbrev T0k:Type:=LDTs×T09
abbrev T0l:Type:=LI×T02
abbrev T0m:Type:=LI×T06
abbrev T0n:Type:=LLCn×LDTs×Int×Unit
abbrev T0o:Type:=LLCn×LDTs×LI×Unit
abbrev T0p:Type:=Int×(List (Bool×LI×List (Int)))×Unit
abbrev T0q:Type:=Int×Int×Bool×LDCe×Unit
abbrev T0r:Type:=Int×T0c
abbrev T0s:Type:=Int×T0g
abbrev T0t:Type:=Int×Int×T08
abbrev T0u:Type:=Int×T0i
abbrev T0v:Type:=Int×T0o
abbrev T0w:Type:=LDCe×LDCe×T04
abbrev T0x:Type:=LI×T0d
abbrev T0y:Type:=LI×T0f
abbrev T0z:Type:=LLCn×LDTs×T06
abbrev T0A:Type:=LLCn×LDTs×T08
abbrev T0B:Type:=LLCn×T0k
abbrev T0C:Type:=Unit×Unit×T08
abbrev T0D:Type:=Unit×Unit×LLCn×Unit×Unit
abbrev T0E:Type:=Bool×T0A
abbrev T0F:Type:=Int×Bool×(List (Bool×LI×List (Int)))×Unit
abbrev T0G:Type:=Int×T0p
abbrev T0H:Type:=Int×T0r
abbrev T0I:Type:=Int×T0u
abbrev T0J:Type:=Int×T0y
abbrev T0K:Type:=Int×T0A
abbrev T0L:Type:=Int×T0C
abbrev T0M:Type:=LI×T0q
abbrev T0N:Type:=LLCn×Nat×T0k
abbrev T0O:Type:=Unit×Unit×T0j
abbrev T0P:Type:=(List (Bool×LI×List (Int)))×T0g
abbrev T0Q:Type:=Bool×Unit×Unit×T0b
abbrev T0R:Type:=Int×T0F
abbrev T0S:Type:=Int×Int×LLCn×LDTs×T05
abbrev T0T:Type:=Int×Unit×Unit×(List (Bool×LI×List (Int)))×Unit
abbrev T0U:Type:=Int×T0O
abbrev T0V:Type:=LI×T0L
abbrev T0W:Type:=LI×Int×T0D
abbrev T0X:Type:=LLCn×LDTs×(List (LLCn×LDTs))×T06
abbrev T0Y:Type:=LLCn×LDTs×T0C
abbrev T0Z:Type:=LLCn×LDTs×T0D
abbrev T10:Type:=Unit×Unit×(List (Bool))×T0o
abbrev T11:Type:=(List (Bool×LI×List (Int)))×Bool×T0l
abbrev T12:Type:=(List (Bool×LI×List (Int)))×T0s
abbrev T13:Type:=(List (Bool×List (Int)))×(List (Bool))×T0p
abbrev T14:Type:=(List (Bool×List (Int)))×T0G
abbrev T15:Type:=Bool×T0X
abbrev T16:Type:=Int×Bool×T0O
abbrev T17:Type:=Int×T0S
abbrev T18:Type:=Int×Int×LLCn×LDTs×LDCe×T02
abbrev T19:Type:=Int×Int×T0N
abbrev T1a:Type:=Int×T0V
abbrev T1b:Type:=Int×T0W
abbrev T1c:Type:=Int×T0Y
abbrev T1d:Type:=Int×T0Z
abbrev T1e:Type:=Int×T10
abbrev T1f:Type:=LI×Int×Unit×Unit×LLCn×Unit×LDCn×Unit
abbrev T1g:Type:=(List (Bool×LI×List (Int)))×Int×T0s
abbrev T1h:Type:=(List (Bool×List (Int)))×(List (Bool))×T0G
abbrev T1i:Type:=(List (Bool))×T14
abbrev T1j:Type:=(List (LLCn×LDTs))×(List (Bool))×T0I
abbrev T1k:Type:=Int×Bool×T0V
abbrev T1l:Type:=Int×Int×Int×Int×Int×Int×Int×LDCn×Unit
abbrev T1m:Type:=Int×Int×Int×T0J
abbrev T1n:Type:=Int×T1a
abbrev T1o:Type:=Int×T1k
abbrev T1p:Type:=Int×Int×T1f
abbrev T1q:Type:=Int×Int×Unit×Unit×Unit×T0v
abbrev T1r:Type:=Int×Unit×Unit×Bool×LI×LI×T0h
abbrev T1s:Type:=Int×Int×Int×Int×Int×Int×Int×LDCn×T06
abbrev T1t:Type:=(List (Bool×LI×List (Int)))×Int×Int×T0Q
abbrev T1u:Type:=(List (Bool×LI×List (Int)))×Int×Int×T0T
abbrev T1v:Type:=Int×Int×LDCn×T1l
abbrev T1w:Type:=LLCn×LDTs×Int×Int×Unit×Unit×Unit×Int×T0j
abbrev T1x:Type:=(List (Bool×LI×List (Int)))×Int×Int×Bool×T0T
abbrev T1y:Type:=(List (Bool))×Int×Int×T1r
abbrev T1z:Type:=(List (Int×Int×LDCn×Int×Int×Int×Int×Int×Int×Int×LDCn))×Int×Unit
abbrev T1A:Type:=Int×T1u
abbrev T1B:Type:=Int×Int×LDCn×Int×Int×Int×Int×Int×Int×Int×LDCn×Int×Unit
abbrev T1C:Type:=(List (Bool))×T1A
abbrev T1D:Type:=Int×T1x
abbrev T1E:Type:=Int×Int×Int×Int×T1q
abbrev T1F:Type:=Int×Int×LDCn×T1s
abbrev T1G:Type:=LI×Int×T1v
abbrev T1H:Type:=Int×Int×Int×T1w
abbrev T1I:Type:=LLCn×LDTs×LDCe×(List (Int×Int×LDCn×Int×Int×Int×Int×Int×Int×Int×LDCn))×Unit
abbrev T1J:Type:=Int×Int×Int×Bool×Bool×Bool×Bool×Bool×Int×T0X
abbrev T1K:Type:=Int×T1I
abbrev T1L:Type:=Int×Bool×T1I
abbrev T1M:Type:=Int×T1K
abbrev T1N:Type:=LI×(List (Int×Int×LDCn×Int×Int×Int×Int×Int×Int×Int×LDCn))×T0u
abbrev T1O:Type:=LI×Int×Int×Int×Int×Int×Int×Int×LDCn×Int×Int×Int×Int×T0e
abbrev T1P:Type:=Unit×Unit×LI×LDCe×(List (Bool))×(List (Int×Int×LDCn×Int×Int×Int×Int×Int×Int×Int×LDCn))×Unit
abbrev T1Q:Type:=Unit×Unit×LI×LDCe×(List (Int×Int×LDCn×Int×Int×Int×Int×Int×Int×Int×LDCn))×LI×Unit
abbrev T1R:Type:=(List (Int×Int×LDCn×Int×Int×Int×Int×Int×Int×Int×LDCn))×T0U
abbrev T1S:Type:=Int×T1O
abbrev T1T:Type:=(List (Int×Int×LDCn×Int×Int×Int×Int×Int×Int×Int×LDCn))×T16
abbrev T1U:Type:=(List (Int×Int×LDCn×Int×Int×Int×Int×Int×Int×Int×LDCn))×Int×T0U
abbrev T1V:Type:=LI×T1R
abbrev T1W:Type:=LI×Int×Int×Int×Int×Int×Int×Int×Int×Unit×T1l
abbrev T1X:Type:=LLCn×LDTs×Int×Int×Unit×Unit×Unit×Int×Int×Int×LLCn×LDTs×LDCe×Int×LDCe×T0j
abbrev T1Y:Type:=(List (Bool×List (Int)))×(List (Bool))×Int×(List (Bool×LI×List (Int)))×T1A
abbrev T1Z:Type:=Int×T1W
abbrev T20:Type:=Int×LI×Int×T1P
abbrev T21:Type:=Int×LI×Int×Bool×T1P
abbrev T22:Type:=LI×(List (Int×Int×LDCn×Int×Int×Int×Int×Int×Int×Int×LDCn))×Int×LI×Int×T0L
abbrev T23:Type:=Int×Int×Int×T1X
abbrev T24:Type:=(List (LLCn×LDTs))×(List (Bool))×T20
abbrev T25:Type:=Int×Int×Int×Bool×T1X
abbrev T26:Type:=Int×Int×LLCn×LDTs×LDCe×Int×LLCn×LDTs×Int×Int×Unit×Unit×Unit×Int×LDCe×LDCe×T0S
abbrev T27:Type:=(List (Int×Int×LDCn×Int×Int×Int×Int×Int×Int×Int×LDCn))×(List (Int×Int×LDCn×Int×Int×Int×Int×Int×Int×Int×LDCn))×LDCe×Unit
abbrev T28:Type:=(List (LLCn×LDTs))×(List (Bool))×Int×LI×Int×Int×T1Q
abbrev T29:Type:=Int×T26
abbrev T2a:Type:=(List (LLCn×LDTs))×(List (Bool))×Int×LI×T20
abbrev T2b:Type:=Int×T27
abbrev T2c:Type:=Int×Bool×T27
abbrev T2d:Type:=Int×T2b
abbrev T2e:Type:=Int×Int×Int×Int×Unit×Int×Int×Int×Int×Int×Int×Int×Unit×(List (Bool×List (Int)))×(List (Int×Int×LDCn×Int×Int×Int×Int×Int×Int×Int×LDCn))×Unit
abbrev T2f:Type:=Int×Int×Unit×Int×Int×Int×Int×Int×Int×Int×Unit×(List (Bool×List (Int)))×(List (Int×Int×LDCn×Int×Int×Int×Int×Int×Int×Int×LDCn))×T0h
abbrev T2g:Type:=Bool×T2f
abbrev T2h:Type:=Int×Int×T2e
abbrev T2i:Type:=Int×T2f
abbrev T2j:Type:=Int×T2g
abbrev T2k:Type:=Int×Int×Bool×T2e
abbrev T2l:Type:=(List (LLCn×LDTs))×(List (Bool))×T2h
abbrev T2m:Type:=(List (Bool))×(List (Bool×List (Int)))×Int×T2i
abbrev T2n:Type:=(List (Bool))×Int×(List (LLCn×LDTs))×T2h
abbrev T2o:Type:=(List (LLCn×LDTs))×(List (Bool))×(List (Bool×List (Int)))×T2i
abbrev T2p:Type:=(List (LLCn×LDTs))×(List (Bool))×(List (Bool×List (Int)))×T2j
noncomputable abbrev ap1{A0 D R:Type}(f:A0→R)(h:A0×D):R:=f h.1
noncomputable abbrev ap2{A0 A1 D R:Type}(f:A0→A1→R)(h:A0×A1×D):R:=f h.1 h.2.1
noncomputable abbrev ap3{A0 A1 A2 D R:Type}(f:A0→A1→A2→R)(h:A0×A1×A2×D):R:=f h.1 h.2.1 h.2.2.1
noncomputable abbrev ap4{A0 A1 A2 A3 D R:Type}(f:A0→A1→A2→A3→R)(h:A0×A1×A2×A3×D):R:=f h.1 h.2.1 h.2.2.1 h.2.2.2.1
noncomputable abbrev ap5{A0 A1 A2 A3 A4 D R:Type}(f:A0→A1→A2→A3→A4→R)(h:A0×A1×A2×A3×A4×D):R:=f h.1 h.2.1 h.2.2.1 h.2.2.2.1 h.2.2.2.2.1
noncomputable abbrev ap6{A0 A1 A2 A3 A4 A5 D R:Type}(f:A0→A1→A2→A3→A4→A5→R)(h:A0×A1×A2×A3×A4×A5×D):R:=f h.1 h.2.1 h.2.2.1 h.2.2.2.1 h.2.2.2.2.1 h.2.2.2.2.2.1
noncomputable abbrev ap8{A0 A1 A2 A3 A4 A5 A6 A7 D R:Type}(f:A0→A1→A2→A3→A4→A5→A6→A7→R)(h:A0×A1×A2×A3×A4×A5×A6×A7×D):R:=f h.1 h.2.1 h.2.2.1 h.2.2.2.1 h.2.2.2.2.1 h.2.2.2.2.2.1 h.2.2.2.2.2.2.1 h.2.2.2.2.2.2.2.1
noncomputable abbrev ap9{A0 A1 A2 A3 A4 A5 A6 A7 A8 D R:Type}(f:A0→A1→A2→A3→A4→A5→A6→A7→A8→R)(h:A0×A1×A2×A3×A4×A5×A6×A7×A8×D):R:=f h.1 h.2.1 h.2.2.1 h.2.2.2.1 h.2.2.2.2.1 h.2.2.2.2.2.1 h.2.2.2.2.2.2.1 h.2.2.2.2.2.2.2.1 h.2.2.2.2.2.2.2.2.1
noncomputable abbrev ap10{A0 A1 A2 A3 A4 A5 A6 A7 A8 A9 D R:Type}(f:A0→A1→A2→A3→A4→A5→A6→A7→A8→A9→R)(h:A0×A1×A2×A3×A4×A5×A6×A7×A8×A9×D):R:=f h.1 h.2.1 h.2.2.1 h.2.2.2.1 h.2.2.2.2.1 h.2.2.2.2.2.1 h.2.2.2.2.2.2.1 h.2.2.2.2.2.2.2.1 h.2.2.2.2.2.2.2.2.1 h.2.2.2.2.2.2.2.2.2.1
noncomputable abbrev ap11{A0 A1 A2 A3 A4 A5 A6 A7 A8 A9 A10 D R:Type}(f:A0→A1→A2→A3→A4→A5→A6→A7→A8→A9→A10→R)(h:A0×A1×A2×A3×A4×A5×A6×A7×A8×A9×A10×D):R:=f h.1 h.2.1 h.2.2.1 h.2.2.2.1 h.2.2.2.2.1 h.2.2.2.2.2.1 h.2.2.2.2.2.2.1 h.2.2.2.2.2.2.2.1 h.2.2.2.2.2.2.2.2.1 h.2.2.2.2.2.2.2.2.2.1 h.2.2.2.2.2.2.2.2.2.2.1
noncomputable abbrev ap12{A0 A1 A2 A3 A4 A5 A6 A7 A8 A9 A10 A11 D R:Type}(f:A0→A1→A2→A3→A4→A5→A6→A7→A8→A9→A10→A11→R)(h:A0×A1×A2×A3×A4×A5×A6×A7×A8×A9×A10×A11×D):R:=f h.1 h.2.1 h.2.2.1 h.2.2.2.1 h.2.2.2.2.1 h.2.2.2.2.2.1 h.2.2.2.2.2.2.1 h.2.2.2.2.2.2.2.1 h.2.2.2.2.2.2.2.2.1 h.2.2.2.2.2.2.2.2.2.1 h.2.2.2.2.2.2.2.2.2.2.1 h.2.2.2.2.2.2.2.2.2.2.2.1
noncomputable abbrev ap13{A0 A1 A2 A3 A4 A5 A6 A7 A8 A9 A10 A11 A12 D R:Type}(f:A0→A1→A2→A3→A4→A5→A6→A7→A8→A9→A10→A11→A12→R)(h:A0×A1×A2×A3×A4×A5×A6×A7×A8×A9×A10×A11×A12×D):R:=f h.1 h.2.1 h.2.2.1 h.2.2.2.1 h.2.2.2.2.1 h.2.2.2.2.2.1 h.2.2.2.2.2.2.1 h.2.2.2.2.2.2.2.1 h.2.2.2.2.2.2.2.2.1 h.2.2.2.2.2.2.2.2.2.1 h.2.2.2.2.2.2.2.2.2.2.1 h.2.2.2.2.2.2.2.2.2.2.2.1 h.2.2.2.2.2.2.2.2.2.2.2.2.1
noncomputable abbrev ap16{A0 A1 A2 A3 A4 A5 A6 A7 A8 A9 A10 A11 A12 A13 A14 A15 D R:Type}(f:A0→A1→A2→A3→A4→A5→A6→A7→A8→A9→A10→A11→A12→A13→A14→A15→R)(h:A0×A1×A2×A3×A4×A5×A6×A7×A8×A9×A10×A11×A12×A13×A14×A15×D):R:=f h.1 h.2.1 h.2.2.1 h.2.2.2.1 h.2.2.2.2.1 h.2.2.2.2.2.1 h.2.2.2.2.2.2.1 h.2.2.2.2.2.2.2.1 h.2.2.2.2.2.2.2.2.1 h.2.2.2.2.2.2.2.2.2.1 h.2.2.2.2.2.2.2.2.2.2.1 h.2.2.2.2.2.2.2.2.2.2.2.1 h.2.2.2.2.2.2.2.2.2.2.2.2.1 h.2.2.2.2.2.2.2.2.2.2.2.2.2.1 h.2.2.2.2.2.2.2.2.2.2.2.2.2.2.1 h.2.2.2.2.2.2.2.2.2.2.2.2.2.2.2.1
noncomputable abbrev ap22{A0 A1 A2 A3 A4 A5 A6 A7 A8 A9 A10 A11 A12 A13 A14 A15 A16 A17 A18 A19 A20 A21 D R:Type}(f:A0→A1→A2→A3→A4→A5→A6→A7→A8→A9→A10→A11→A12→A13→A14→A15→A16→A17→A18→A19→A20→A21→R)(h:A0×A1×A2×A3×A4×A5×A6×A7×A8×A9×A10×A11×A12×A13×A14×A15×A16×A17×A18×A19×A20×A21×D):R:=f h.1 h.2.1 h.2.2.1 h.2.2.2.1 h.2.2.2.2.1 h.2.2.2.2.2.1 h.2.2.2.2.2.2.1 h.2.2.2.2.2.2.2.1 h.2.2.2.2.2.2.2.2.1 h.2.2.2.2.2.2.2.2.2.1 h.2.2.2.2.2.2.2.2.2.2.1 h.2.2.2.2.2.2.2.2.2.2.2.1 h.2.2.2.2.2.2.2.2.2.2.2.2.1 h.2.2.2.2.2.2.2.2.2.2.2.2.2.1 h.2.2.2.2.2.2.2.2.2.2.2.2.2.2.1 h.2.2.2.2.2.2.2.2.2.2.2.2.2.2.2.1 h.2.2.2.2.2.2.2.2.2.2.2.2.2.2.2.2.1 h.2.2.2.2.2.2.2.2.2.2.2.2.2.2.2.2.2.1 h.2.2.2.2.2.2.2.2.2.2.2.2.2.2.2.2.2.2.1 h.2.2.2.2.2.2.2.2.2.2.2.2.2.2.2.2.2.2.2.1 h.2.2.2.2.2.2.2.2.2.2.2.2.2.2.2.2.2.2.2.2.1 h.2.2.2.2.2.2.2.2.2.2.2.2.2.2.2.2.2.2.2.2.2.1
theorem ls{n:Nat}(C:X.Cfg)(hT:DY E0 TT libBj n C.TB){c:Ctr}(hE:C.E=E0:=by rfl)(h1:(TT c.f).isSome=true:=by kernel_rfl)(hg:∀h,X.runT bI C () ((TT c.f).getD PA) c.outs (gP c.ins _ h).1 (qG c.pts [] (gP c.ins _ h).2).1=c.g h:=by intro h;kernel_rfl):Lk (n+1) c:=xj (n:=n) (C:=C) hE hT (Be h1) hg
abbrev Uaa(t:Nat):Nat×Sh:=sP t I64
abbrev Xaa(t:Nat):Nat×Sh:=sP t .bool
abbrev Zaa(t r:Nat):Nat×Sh:=(t,.pk ⟨r,0,[]⟩ [0,0])
abbrev uaa(t:CT):CT:=.row true t
abbrev yaa(t:CT):CT:=.row false t
abbrev zaa(t:Nat):Nat×Sh:=pP t (2*t+2)
abbrev uab:List Sh:=uL [(yaa bZ),(yaa ch)]
abbrev yab:List Sh:=uL [(uaa (.pair I64 I64))]
abbrev zab:List Sh:=uL [.bool]
abbrev Uab:List Sh:=uL [N1,N1]
abbrev Xab:List Sh:=uL [I64,I64]
abbrev Zab:List Sh:=uL [(uaa CB)]
abbrev uac:List Sh:=uL [(uaa I64)]
abbrev yac:List Sh:=uL [I64,I64,(yaa bZ),(yaa ch),(yaa (.pair I64 I64)),I64]
abbrev zac:List Sh:=uL [I64]
abbrev Uac:List Sh:=uL [(uaa (uaa KCn)),(uaa nq)]
abbrev Xac:List Sh:=uL [I64,I64,N1,I64,I64,I64,I64,I64,I64,CW,N1]
abbrev Zac:List Sh:=uL [I64,I64,bZ,I64,I64,I64,I64,I64,I64,CW,bZ]
abbrev uad:List Sh:=uL [.bool,(yaa CB)]
abbrev yad:List Sh:=uL [I64,N1,N1]
abbrev zad:List Sh:=uL [.bool,(yaa CB),RI]
abbrev Uad:List Sh:=uL [I64,I64,I64,I64,I64,I64,CW,bZ]
abbrev Xad:List Sh:=uL [I64,(yaa CB),(uaa I64)]
abbrev Zad:List Sh:=uL [(yaa (.pair .bool (yaa CB)))]
abbrev uae:List Sh:=uL [(uaa (uaa KCn)),(uaa ch)]
abbrev yae:List Sh:=uL [(uaa .bool)]
abbrev zae:List Sh:=uL [I64,I64,N1,N1,N1,I64]
abbrev Uae:List Sh:=uL [I64,(yaa CB),RI]
abbrev Xae:List Sh:=uL [RI]
abbrev Zae:List Sh:=uL [(yaa (.pair I64 I64))]
abbrev uaf:List Sh:=uL [RI,I64]
abbrev yaf:List Sh:=uL [(uaa (.pair .bool (uaa CB)))]
abbrev zaf:List Sh:=uL [(uaa (.pair I64 I64)),I64]
abbrev Uaf:List Sh:=uL [(yaa (.pair I64 I64)),(yaa (.pair I64 I64))]
abbrev Xaf:List Sh:=uL [I64,I64,(yaa bZ),(yaa ch),(uaa (.pair I64 I64)),I64]
abbrev Zaf:List Sh:=uL [I64,I64,I64,I64,I64,I64,CW,(uaa KCn)]
abbrev uag:List Sh:=uL [(yaa CB),(yaa CB)]
abbrev yag:List Sh:=uL [(yaa (.pair .bool (yaa CB))),(yaa .bool)]
abbrev zag:List Sh:=uL [(yaa (.pair .bool (yaa CB))),(yaa .bool),I64]
abbrev Uag:List Sh:=uL [I64,I64,bZ,I64,I64,I64,I64,I64,I64,CW,bZ,RI,I64]
abbrev Xag:List Sh:=uL [I64,I64,I64,I64,I64,I64,I64]
abbrev Zag:List Sh:=uL [(uaa (uaa KCn)),(uaa ch),I64]
abbrev uah:List Sh:=uL [(yaa (.pair (yaa bZ) (yaa ch))),(yaa .bool),I64]
abbrev yah:List Sh:=uL [(uaa (uaa KCn)),(uaa nq),I64]
abbrev zah:List Sh:=uL [I64,I64,(uaa (uaa KCn)),(uaa nq),(uaa (.pair I64 I64)),I64,I64]
abbrev Uah:List Sh:=uL [I64,I64,(yaa bZ),(yaa ch),(yaa (.pair I64 I64)),I64,I64]
abbrev Xah:List Sh:=uL [(yaa (.pair I64 I64)),I64]
abbrev Zah:List Sh:=uL [(uaa (.pair I64 I64)),(uaa (.pair I64 I64))]
def IY(a0:List (Int)):Option (Bool×Unit):=
let x0:=bJ a0.length;
some ((decide (x0<=400)),())
def rg:Ctr:=⟨7,1,[],[],[⟨zab,[.one],[]⟩],λh=>dn⟩
theorem xK:Lvl E0 TT libBj 1 rg:=(BD (FD rfl) sL).mono (by decide)
def A9(a0:Int)(a1:Int):Option (Int×Unit):=
bif(a1 != 0)then let x0:Int:=(Int.tmod a0 a1);
(bif(decide (x0<0))then(let x1:Int:=(w64 (x0+a1));
some (x1,()))else
some (x0,()):Option (Int×Unit)).bind λ(x1,_)=>
some (x1,())else none
def td(a0:Int)(a1:Int):Option (Int×Unit):=
(A9 a0 a1).bind λ(x0,_)=>
some (x0,())
def ca(a0:Int)(a1:List (Int))(a2:Int):Option (Int×T06):=
let x0:=bJ a1.length;
bif(decide (a2>=x0))then(some (0,a1,a2,()))else
let x1:=w64 (a2+1);
let x2:=w64 (x1-1);
(cl x2).bind λx3=>
(bV a1 x3).bind λx4=>
(td x4 a0).bind λ(x5,_)=>
some (x5,a1,x1,())
def nA(a0:List (Int))(a1:Int):Option (Int×Int×Int×Int×T06):=
(ca 5 a0 a1).bind λ(x0,x1,x2,_)=>
bif(x0==4)then((ca 3 x1 x2).bind λ(x3,x4,x5,_)=>
(ca 8 x4 x5).bind λ(x6,x7)=>
some (1,0,x3,x6,x7))else
(ca 40 x1 x2).bind λ(x3,x4,x5,_)=>
let x6:=wk .u16 x3;
some (0,x6,0,0,x4,x5,())
def tP:T1Z->Option (T1Z⊕(Int×Bool×T1W)):=λ(v0,v1,v2,v3,v4,v5,v6,v7,v8,v9,v10,v11,v12,v13,v14,v15,v16,v17,v18,_)=>
bif(decide (v0<8))then((nA v1 v2).bind λ(x0,x1,x2,x3,x4,x5,_)=>
let x6:LDCn:=[(x0,(x1,(x2,x3)))];
bif(b6 24 v18.length x6.length)then let x7:LDCn:=(List.append v18 x6);
let x8:=w64 (v0+1);
some (.inl (x8,x4,x5,v3,v4,v5,v6,v7,v8,v9,v10,v11,v12,v13,v14,v15,v16,v17,x7,()))else none)else
some (.inr (v0,false,v1,v2,v3,v4,v5,v6,v7,v8,v9,v10,v11,v12,v13,v14,v15,v16,v17,v18,()))
def r7(a0:List (Int))(a1:Int):Option (T1s):=
(ca 5 a0 a1).bind λ(x0,x1,x2,_)=>
(ca 20 x1 x2).bind λ(x3,x4,x5,_)=>
(ca 30 x4 x5).bind λ(x6,x7,x8,_)=>
(ca 4 x7 x8).bind λ(x9,ac,ae,_)=>
let af:=w64 (x9-1);
(ca 4 ac ae).bind λ(ah,aj,ak,_)=>
let am:=w64 (ah-1);
(ca 7 aj ak).bind λ(an,ap,aq,_)=>
(ca 9 ap aq).bind λ(au,av,aw,_)=>
let ax:=wk .u16 au;
(bM tP NN (0,av,aw,0,0,0,0,0,0,0,(),x0,x3,x6,af,am,an,ax,[],())).bind λ(ay,az,aA,aB,aD,aE,aF,aG,aH,aI,aJ,aK,aL,aM,aO,aP,aQ,aR,aS,aT,_)=>
some (aL,aM,aO,aP,aQ,aR,aS,aT,aA,aB,())
def sI:T1p->Option (T1p⊕(Int×Int×Bool×T1f)):=λ(v0,v1,v2,v3,v4,v5,v6,v7,v8,_)=>
bif(decide (v1>=0))then((nA v2 v3).bind λ(x0,x1,x2,x3,x4,x5,_)=>
let x6:LDCn:=[(x0,(x1,(x2,x3)))];
bif(b6 24 v8.length x6.length)then let x7:LDCn:=(List.append v8 x6);
let x8:=w64 (v1-1);
some (.inl (v0,x8,x4,x5,v4,v5,v6,v7,x7,()))else none)else
some (.inr (v0,v1,false,v2,v3,v4,v5,v6,v7,v8,()))
def sH:T1b->Option (T1b⊕(Int×Bool×T0W)):=λ(v0,v1,v2,v3,v4,v5,v6,_)=>
bif(decide (v0>=0))then((ca 24 v1 v2).bind λ(x0,x1,x2,_)=>
(bM sI NN (v0,x0,x1,x2,v3,v4,v5,v6,[],())).bind λ(x3,x4,x5,x6,x7,x8,x9,ac,ae,af,_)=>
bif(b6 24 ac.length (List.length [af]))then let ah:List LDCn:=(List.append ac [af]);
let aj:=w64 (x3-1);
some (.inl (aj,x6,x7,x8,x9,ah,ae,()))else none)else
some (.inr (v0,false,v1,v2,v3,v4,v5,v6,()))
def sG:T1a->Option (T1a⊕T1k):=λ(v0,v1,v2,v3,v4,v5,v6,_)=>
bif(decide (v0>0))then((r7 v1 v2).bind λ(x0,x1,x2,x3,x4,x5,x6,x7,x8,x9,_)=>
let ac:LDTs:=[(x0,(x1,(x2,(x3,(x4,(x5,(x6,x7)))))))];
bif(b6 80 v6.length ac.length)then let ae:LDTs:=(List.append v6 ac);
let af:=w64 (v0-1);
some (.inl (af,x8,x9,v3,v4,v5,ae,()))else none)else
some (.inr (v0,false,v1,v2,v3,v4,v5,v6,()))
def wW(a0:List (Int))(a1:Int):Option (T0z):=
(ca 3 a0 a1).bind λ(x0,x1,x2,_)=>
(bM sH NN (x0,x1,x2,(),(),[],(),())).bind λ(x3,x4,x5,x6,x7,x8,x9,ac,_)=>
(ca 4 x5 x6).bind λ(ae,af,ah,_)=>
(bM sG NN (ae,af,ah,x7,x8,x9,[],())).bind λ(aj,ak,am,an,ap,aq,au,av,_)=>
some (au,av,am,an,())
def eT(a0:Int)(a1:Int)(a2:Int)(a3:Int)(a4:Int)(a5:Int)(a6:Int)(a7:LDCn):Option (T1l):=
bif(b6 24 0 a7.length)then let x0:LDCn:=(List.append [] a7);
some (a0,a1,a2,a3,a4,a5,a6,x0,())else none
def vL:X.Cfg:=⟨E0,[],[],[]⟩
def jc:Ctr:=⟨55,8,[.agg Uad],[],[⟨Zaf,[.agg 8],[]⟩],ap8 eT⟩
theorem lC:Lk 1 jc:=ls vL aN
def ef:T1d->Option (T1d⊕(Int×Bool×T0Z)):=λ(v0,v1,v2,v3,v4,v5,v6,_)=>
let x0:=bJ v1.length;
bif(decide (v0<x0))then((cl v0).bind λx1=>
(bV v1 x1).bind λx2=>
bif(b6 24 0 x2.length)then let x3:LDCn:=(List.append [] x2);
bif(b6 24 v5.length (List.length [x3]))then let x4:List LDCn:=(List.append v5 [x3]);
let x5:=w64 (v0+1);
some (.inl (x5,v1,v2,v3,v4,x4,v6,()))else none else none)else
some (.inr (v0,false,v1,v2,v3,v4,v5,v6,()))
def d9:T1c->Option (T1c⊕(Int×Bool×T0Y)):=λ(v0,v1,v2,v3,v4,v5,v6,_)=>
let x0:=bJ v2.length;
bif(decide (v0<x0))then((cl v0).bind λx1=>
(bV v2 x1).bind λx2=>
(eT x2.1 x2.2.1 x2.2.2.1 x2.2.2.2.1 x2.2.2.2.2.1 x2.2.2.2.2.2.1 x2.2.2.2.2.2.2.1 x2.2.2.2.2.2.2.2).bind λ(x3,x4,x5,x6,x7,x8,x9,ac,_)=>
let ae:LDTs:=[(x3,(x4,(x5,(x6,(x7,(x8,(x9,ac)))))))];
bif(b6 80 v6.length ae.length)then let af:LDTs:=(List.append v6 ae);
let ah:=w64 (v0+1);
some (.inl (ah,v1,v2,v3,v4,v5,af,()))else none)else
some (.inr (v0,false,v1,v2,v3,v4,v5,v6,()))
def gn(a0:List LDCn)(a1:LDTs):Option (T08):=
(bM ef NN (0,a0,a1,(),(),[],(),())).bind λ(x0,x1,x2,x3,x4,x5,x6,x7,_)=>
(bM d9 NN (0,x2,x3,x4,x5,x6,[],())).bind λ(x8,x9,ac,ae,af,ah,aj)=>
some (aj)
def Ab:X.Cfg:=⟨E0,[jc],[(22,(uaa KCn)),(23,(uaa KCn)),(40,nq),(41,nq)],[(lx 4 0 [zaa 1,zaa 2,zaa 3,Uaa 4] [(4,uab),(6,Uab),(8,uL [(uaa (uaa KCn)),N1])] 10),⟨10,1,qS [zaa 1,zaa 2,zaa 3,Uaa 5] [(4,uab),(6,Uab),(8,Uac)],[(.exit 2,qS [zaa 1,zaa 2,zaa 3,Uaa 5,Xaa 29] [(4,uab),(6,Uab),(8,Uac)])]⟩]⟩
def oh:Ctr:=⟨25,9,[.agg uab],[],[⟨Uac,[.agg 2],[]⟩],ap2 gn⟩
theorem sf:Lk 2 oh:=ls Ab (aC lC aN)
def tQ:T1n->Option (T1n⊕T1o):=λ(v0,v1,v2,v3,v4,v5,v6,v7,_)=>
bif(decide (v1<v0))then(((match(let x0:Int:=(bJ v7.length);
bif(decide (x0>0))then((ca 3 v2 v3).bind λ(x1,x2,x3,_)=>
bif(x1==2)then(let x4:Int:=(bJ v7.length);
(ca x4 x2 x3).bind λ(x5,x6,x7,_)=>
(r7 x6 x7).bind λ(x8,x9,ac,ae,af,ah,aj,ak,am,an,_)=>
(cl x5).bind λap=>
(bV v7 ap).bind λaq=>
(bV v7 ap).bind λau=>
let av:=(List.modify v7 ap λe=>(x8,(x9,(ac,(ae,(af,(ah,(aj,ak))))))));
some (.inl (v0,v1,am,an,v4,v5,v6,av,())))else
some (.inr (v0,v1,false,x2,x3,v4,v5,v6,v7,())))else
some (.inr (v0,v1,false,v2,v3,v4,v5,v6,v7,())):Option (T1n⊕T1o))with
|none=>none
|some (.inl (x0,x1,x2,x3,x4,x5,x6,x7,_))=>
some (x0,x1,x2,x3,x4,x5,x6,x7,())
|some (.inr (x0,x1,x2,x3,x4,x5,x6,x7,x8,_))=>
let x9:=bJ x7.length;
(ca x9 x3 x4).bind λ(ac,ae,af,_)=>
(cl ac).bind λah=>
(bV x7 ah).bind λaj=>
(bV x7 ah).bind λak=>
(cl ac).bind λam=>
(bV x7 am).bind λan=>
(bV x7 am).bind λap=>
(bV x7 am).bind λaq=>
let au:=bJ aq.length;
(ca au ae af).bind λ(av,aw,ax,_)=>
(nA aw ax).bind λ(ay,az,aA,aB,aD,aE,_)=>
(cl av).bind λaF=>
(bV x7 ah).bind λaG=>
(bV aG aF).bind λaH=>
(bV x7 ah).bind λaI=>
(bV aI aF).bind λaJ=>
let aK:=(List.modify x7 ah λe=>(List.modify e aF λe=>(ay,(az,(aA,aB)))));
some (x0,x1,aD,aE,x5,x6,aK,x8,())):Option (T1n)).bind λ(x0,x1,x2,x3,x4,x5,x6,x7,_)=>
let x8:=w64 (x1+1);
some (.inl (x0,x8,x2,x3,x4,x5,x6,x7,())))else
some (.inr (v0,v1,false,v2,v3,v4,v5,v6,v7,()))
def zd(a0:List LDCn)(a1:LDTs)(a2:Int)(a3:List (Int))(a4:Int):Option (T0z):=
(gn a0 a1).bind λ(x0,x1,_)=>
(bM tQ NN (a2,0,a3,a4,(),(),x0,x1,())).bind λ(x2,x3,x4,x5,x6,x7,x8,x9,ac,_)=>
some (x9,ac,x5,x6,())
def A8(a0:List LDCn)(a1:LDTs)(a2:List (Int))(a3:Int):Option (T0z):=
(gn a0 a1).bind λ(x0,x1,_)=>
(match((ca 4 a2 a3).bind λ(x2,x3,x4,_)=>
bif(x2==0)then(bif(b6 24 x0.length (List.length [([]:List Unit)]))then let x5:List LDCn:=(List.append x0 [[]]);
some (.inl (x3,x4,(),(),x5,x1,()))else none)else
bif(x2==1)then((bV x0 0).bind λx5=>
(bV x0 0).bind λx6=>
(ca 40 x3 x4).bind λ(x7,x8,x9,_)=>
(cl x7).bind λac=>
(bV x0 0).bind λae=>
bif(b6 24 ae.length (List.length (List.replicate ac ((0,(0,(0,0))):Int×Int×Int×Int))))then let af:LDCn:=(List.append ae (List.replicate ac (0,(0,(0,0)))));
(bV x0 0).bind λah=>
(bV x0 0).bind λaj=>
let ak:=List.modify x0 0 λe=>af;
some (.inl (x8,x9,(),(),ak,x1,()))else none)else
bif(x2==2)then(let x5:LDTs:=[(0,(0,(0,(0,(0,(0,(0,[])))))))];
bif(b6 80 x1.length x5.length)then let x6:LDTs:=(List.append x1 x5);
some (.inl (x3,x4,(),(),x0,x6,()))else none)else
bif(df 1 x0.length x0.length)then let x5:List LDCn:=(pO x0 1 (Nat.sub x0.length 1));
some (.inr (x3,x4,(),(),x5,x1,()))else none:Option (T0V⊕T0V))with
|none=>none
|some (.inl (x2,x3,x4,x5,x6,x7,_))=>
some (x6,x7,x2,x3,())
|some (.inr (x2,x3,x4,x5,x6,x7,_))=>
some (x6,x7,x2,x3,()))
def iz(a0:Int):Option (Bool×Unit):=
bif(decide (a0>=1))then(some ((decide (a0<=32)),()))else
some (false,())
def ym:X.Cfg:=⟨E0,[],[],[]⟩
def mJ:Ctr:=⟨70,12,zac,[],[⟨zab,[.one],[]⟩],ap1 iz⟩
theorem qv:Lk 1 mJ:=ls ym aN
def gW(a0:LDCn):Option (Bool×Unit):=
let x0:=bJ a0.length;
(iz x0).bind λ(x1,_)=>
some ((!x1),())
def sZ:X.Cfg:=⟨E0,[mJ],[],[]⟩
def m8:Ctr:=⟨95,13,uL [bZ],[],[⟨zab,[.one],[]⟩],ap1 gW⟩
theorem sR:Lk 2 m8:=ls sZ (aC qv aN)
def bY:LLCn×T02->Option ((LLCn×T02)⊕((Int×Unit)⊕(LLCn×T0d))):=λ(v0,v1,v2,_)=>
bif(decide (v2<v1))then((cl v2).bind λx0=>
(bV v0 x0).bind λx1=>
(gW x1).bind λ(x2,_)=>
bif x2 then(some (.inr (.inl (v2,()))))else
let x3:=w64 (v2+1);
some (.inl (v0,v1,x3,())))else
some (.inr (.inr (v0,v1,v2,false,())))
def fi(a0:List LDCn):Option (Int×Unit):=
let x0:=bJ a0.length;
(match bM bY NN (a0,x0,0,())with
|none=>none
|some (.inl (x1,_))=>
some (x1,())
|some (.inr (x1,_))=>
some ((-1),()))
def l7:X.Cfg:=⟨E0,[m8],[],[⟨3,0,(qS [sP 0 (yaa bZ),(1,.fn 95 []),Uaa 7,Uaa 8] []),[(.ret,qS [Uaa 4] []),(.exit 0,(qS [sP 0 (yaa bZ),(1,.fn 95 []),Uaa 7,Uaa 8,Xaa 9] []))]⟩]⟩
def ie:Ctr:=⟨131,14,[shU (yaa bZ),.fn 95 []],[],[⟨zac,[.one],[]⟩],ap1 fi⟩
theorem lZ:Lk 3 ie:=ls l7 (aC sR aN)
def cR(a0:List LDCn):Option (Bool×Unit):=
(fi a0).bind λ(x0,_)=>
some ((decide (x0>=0)),())
def kF:X.Cfg:=⟨E0,[ie],[],[]⟩
def gq:Ctr:=⟨94,15,[shU (yaa bZ),.fn 95 []],[],[⟨zab,[.one],[]⟩],ap1 cR⟩
theorem kC:Lk 4 gq:=ls kF (aC lZ aN)
def ga(a0:List LDCn)(a1:LDTs):Option (Bool×Unit):=
let x0:=bJ a0.length;
bif(decide (x0<=4))then(let x1:Int:=(bJ a1.length);
bif(decide (x1<=4))then((cR a0).bind λ(x2,_)=>
some ((!x2),()))else
some (false,()))else
some (false,())
def vN:X.Cfg:=⟨E0,[gq],[],[]⟩
def je:Ctr:=⟨60,16,[.agg uab],[],[⟨zab,[.one],[]⟩],ap2 ga⟩
theorem lE:Lk 5 je:=ls vN (aC kC aN)
def eK(a0:LDCn)(a1:Int):Option (LDCn×Unit):=
(bif(decide (a1<0))then(some (a0,a1,true,()))else
bif(decide (a1>32))then(some (a0,a1,true,()))else
let x0:=w64 (a1*8);
let x1:=bJ a0.length;
some (a0,a1,(decide (x0>=x1)),()):Option (LDCn×T01)).bind λ(x0,x1,x2,_)=>
bif x2 then(some ([],()))else
let x3:=w64 (x1*8);
let x4:=w64 (x3+8);
let x5:=bJ x0.length;
let x6:=mmR false x4 x5;
(cl x3).bind λx7=>
(cl x6).bind λx8=>
bif(df x7 x8 x0.length)then let x9:LDCn:=(pO x0 x7 (Nat.sub x8 x7));
some (x9,())else none
def Ac:X.Cfg:=⟨E0,[],[],[⟨2,0,qE,[(.normal,qS [sP 0 bZ,Uaa 1,Xaa 18] [])]⟩]⟩
def lp:Ctr:=⟨90,17,uL [bZ,I64],[],[⟨uL [bZ],[.one],[]⟩],ap2 eK⟩
theorem nP:Lk 1 lp:=ls Ac aN
def jY(a0:List LDCn)(a1:LDTs)(a2:Int)(a3:Int):Option (Bool×Unit):=
bif(a2==(-1))then(bif(decide (a3>=0))then(let x0:Int:=(bJ a1.length);
some ((decide (a3<x0)),()))else
some (false,()))else
bif(decide (a2>=0))then(let x0:Int:=(bJ a0.length);
bif(decide (a2<x0))then((cl a2).bind λx1=>
(bV a0 x1).bind λx2=>
(eK x2 a3).bind λ(x3,_)=>
let x4:=bJ x3.length;
some ((decide (x4>0)),()))else
some (false,()))else
some (false,())
def yl:X.Cfg:=⟨E0,[lp],[],[]⟩
def q9:Ctr:=⟨119,18,[.agg uab,.agg Xab],[],[⟨zab,[.one],[]⟩],ap4 jY⟩
theorem xE:Lk 2 q9:=ls yl (aC nP aN)
def jm(a0:List LDCn)(a1:LDTs)(a2:Int)(a3:Int):Option (Int×Unit):=
(ga a0 a1).bind λ(x0,_)=>
bif(!x0)then(some (1,()))else
(jY a0 a1 a2 a3).bind λ(x1,_)=>
bif(!x1)then(some (30,()))else
some (0,())
def Ae:X.Cfg:=⟨E0,[je,q9],[],[]⟩
def oi:Ctr:=⟨88,19,[.agg uab,.agg Xab],[],[⟨zac,[.one],[]⟩],ap4 jm⟩
theorem sg:Lk 6 oi:=ls Ae (aC lE (aC xE aN))
def cZ(a0:LDCn):Option (LDCn×Unit):=
bif(b6 24 0 a0.length)then let x0:LDCn:=(List.append [] a0);
some (x0,())else none
def oS:X.Cfg:=⟨E0,[],[],[]⟩
def fc:Ctr:=⟨66,20,uL [bZ],[],[⟨uL [(uaa KCn)],[.one],[]⟩],ap1 cZ⟩
theorem gD:Lk 1 fc:=ls oS aN
def eN(a0:Int)(a1:Int)(a2:Int)(a3:Int)(a4:Int)(a5:Int)(a6:Int)(a7:LDCn):Option (T1l):=
(cZ a7).bind λ(x0,_)=>
some (a0,a1,a2,a3,a4,a5,a6,x0,())
def yx:X.Cfg:=⟨E0,[fc],[],[]⟩
def j9:Ctr:=⟨67,21,[.agg Uad],[],[⟨Zaf,[.agg 8],[]⟩],ap8 eN⟩
theorem mC:Lk 2 j9:=ls yx (aC gD aN)
def iV(a0:List LDCn)(a1:LDTs)(a2:Int)(a3:Int):Option (T1v):=
bif(a2==(-1))then((cl a3).bind λx0=>
(bV a1 x0).bind λx1=>
(eN x1.1 x1.2.1 x1.2.2.1 x1.2.2.2.1 x1.2.2.2.2.1 x1.2.2.2.2.2.1 x1.2.2.2.2.2.2.1 x1.2.2.2.2.2.2.2).bind λ(x2,x3,x4)=>
some (a2,a3,[],x2,x3,x4))else
(cl a2).bind λx0=>
(bV a0 x0).bind λx1=>
(eK x1 a3).bind λ(x2,_)=>
(cZ x2).bind λ(x3,_)=>
some (a2,a3,x3,0,0,0,0,0,0,0,[],())
def BY:X.Cfg:=⟨E0,[j9,lp,fc],[],[]⟩
def pK:Ctr:=⟨89,22,[.agg uab,.agg Xab],[],[⟨Zac,[.agg 11],[]⟩],ap4 iV⟩
theorem uq:Lk 3 pK:=ls BY (aC mC (aC nP (aC gD aN)))
def iW(a0:List LDCn)(a1:LDTs)(a2:Int)(a3:Int):Option (T1B):=
(jm a0 a1 a2 a3).bind λ(x0,_)=>
bif(x0 != 0)then(some (0,0,[],0,0,0,0,0,0,0,[],x0,()))else
(iV a0 a1 a2 a3).bind λ(x1,x2,x3,x4,x5,x6,x7,x8,x9,ac,ae,_)=>
some (x1,x2,x3,x4,x5,x6,x7,x8,x9,ac,ae,0,())
def B0:X.Cfg:=⟨E0,[oi,pK],[],[]⟩
def pM:Ctr:=⟨53,23,[.agg uab,.agg Xab],[],[⟨uL [I64,I64,bZ,I64,I64,I64,I64,I64,I64,CW,bZ,I64],[.agg 11,.one],[]⟩],ap4 iW⟩
theorem ut:Lk 7 pM:=ls B0 (aC sg (aC uq aN))
def cU:Int×LI×T0s->Option ((Int×LI×T0s)⊕(Int×LI×T0H)):=λ(v0,v1,v2,v3,v4,v5,_)=>
bif(decide (v4<8))then(let x0:Int:=(wk .u64 v0);
let x1:=w64 (8*v4);
(cl x1).bind λx2=>
let x3:Int:=(shR .shr .u64 x0 x2);
let x4:=wk .u8 x3;
bif(b6 1 v5.length (List.length [x4]))then let x5:List (Int):=(List.append v5 [x4]);
let x6:=w64 (v4+1);
some (.inl (v0,v1,v2,v3,x6,x5,()))else none)else
some (.inr (v0,v1,v2,v3,v4,false,v5,()))
def dD:LI×T0g->Option ((LI×T0g)⊕(LI×T0r)):=λ(v0,v1,v2,v3,_)=>
bif(decide (v2<v1))then((cl v2).bind λx0=>
(bV v0 x0).bind λx1=>
(bM cU NN (x1,v0,v1,v2,0,v3,())).bind λ(x2,x3,x4,x5,x6,x7,x8,_)=>
let x9:=w64 (x5+1);
some (.inl (x3,x4,x9,x8,())))else
some (.inr (v0,v1,v2,false,v3,()))
def em(a0:List (Int))(a1:List (Int)):Option (LI×Unit):=
let x0:=bJ a0.length;
(bM dD NN (a0,x0,0,a1,())).bind λ(x1,x2,x3,x4,x5,_)=>
some (x5,())
def uA:X.Cfg:=⟨E0,[],[],[⟨9,0,qS [Zaa 0 3,Uaa 6,sP 8 RI,Uaa 9,Uaa 10,Uaa 14] [(3,Zab)],[(.exit 2,qS [Zaa 0 3,Uaa 6,sP 8 RI,Uaa 9,Uaa 10,Uaa 14,Xaa 15] [(3,Zab)])]⟩,(lx 3 1 [Zaa 0 3,sP 8 RI,Uaa 9,Uaa 10] [(3,Zab)] 11)]⟩
def kM:Ctr:=⟨99,24,[.pk ⟨3,0,[]⟩ [0,0],shU RI],[(3,Zab)],[⟨Zab,[.one],[(3,[])]⟩],ap2 em⟩
theorem nQ:Lk 1 kM:=ls uA aN
def ft:LDCn×T0g->Option ((LDCn×T0g)⊕(LDCn×T0r)):=λ(v0,v1,v2,v3,_)=>
bif(decide (v2<v1))then((cl v2).bind λx0=>
(bV v0 x0).bind λx1=>
let x2:=wk .i64 x1.1;
let x3:=wk .i64 x1.2.1;
let x4:List (Int):=[x2,x3,x1.2.2.1,x1.2.2.2];
(em x4 v3).bind λ(x5,_)=>
let x6:=w64 (v2+1);
some (.inl (v0,v1,x6,x5,())))else
some (.inr (v0,v1,v2,false,v3,()))
def jl(a0:LDCn)(a1:List (Int)):Option (LI×Unit):=
let x0:=bJ a0.length;
(em [x0] a1).bind λ(x1,_)=>
let x2:=bJ a0.length;
(bM ft NN (a0,x2,0,x1,())).bind λ(x3,x4,x5,x6,x7,_)=>
some (x7,())
def Ad:X.Cfg:=⟨E0,[kM],[],[(lx 4 0 [Zaa 0 3,sP 12 bZ,Uaa 13,Uaa 14] [(3,Zab)] 15)]⟩
def sB:Ctr:=⟨98,25,[.pk ⟨3,0,[]⟩ [0,0],shU bZ],[(3,Zab)],[⟨Zab,[.one],[(3,[])]⟩],ap2 jl⟩
theorem zO:Lk 2 sB:=ls Ad (aC nQ aN)
def j0(a0:Int)(a1:Int)(a2:LDCn)(a3:Int)(a4:Int)(a5:Int)(a6:Int)(a7:Int)(a8:Int)(a9:Int)(a10:LDCn):Option (LI×Unit):=
let x0:List (Int):=[a0,a1];
(em x0 []).bind λ(x1,_)=>
(jl a2 x1).bind λ(x2,_)=>
let x3:=wk .i64 a9;
let x4:List (Int):=[a3,a4,a5,a6,a7,a8,x3];
(em x4 x2).bind λ(x5,_)=>
(jl a10 x5).bind λ(x6,_)=>
some (x6,())
def yq:X.Cfg:=⟨E0,[kM,sB],[],[]⟩
def rd:Ctr:=⟨74,26,[.agg Zac],[],[⟨Zab,[.one],[]⟩],ap11 j0⟩
theorem xH:Lk 3 rd:=ls yq (aC nQ (aC zO aN))
def mp(a0:List (Int))(a1:List (Int)):Option (Bool×Unit):=
let x0:ByteArray:=(mK a0);
let x1:ByteArray:=(mK a1);
some ((IS x0 x1),())
def yy:X.Cfg:=⟨E0,[],[],[]⟩
def rj:Ctr:=⟨146,27,uag,[],[⟨zab,[.one],[]⟩],ap2 mp⟩
theorem xN:Lk 1 rj:=ls yy aN
def i8(a0:Bool)(a1:List (Int))(a2:Bool)(a3:List (Int)):Option (Bool×Unit):=
bif(a0==a2)then(bif(!a0)then(some (true,()))else
(mp a1 a3).bind λ(x0,_)=>
some (x0,()))else
some (false,())
def vR:X.Cfg:=⟨E0,[rj],[],[]⟩
def pa:Ctr:=⟨134,28,[.agg uad,.agg uad],[],[⟨zab,[.one],[]⟩],ap4 i8⟩
theorem vC:Lk 2 pa:=ls vR (aC xN aN)
def g6(a0:Bool)(a1:List (Int))(a2:List (Int))(a3:Bool)(a4:List (Int)):Option (Bool×Unit):=
(i8 a3 a4 a0 a1).bind λ(x0,_)=>
some (x0,())
def pE:X.Cfg:=⟨E0,[pa],[],[]⟩
def kO:Ctr:=⟨133,29,[.agg zad,.ip uad],[],[⟨zab,[.one],[]⟩],ap5 g6⟩
theorem pz:Lk 3 kO:=ls pE (aC vC aN)
def cd:T11->Option (T11⊕((Int×Unit)⊕((List (Bool×LI×List (Int)))×Bool×T0x))):=λ(v0,v1,v2,v3,v4,_)=>
bif(decide (v4<v3))then((cl v4).bind λx0=>
(bV v0 x0).bind λx1=>
(g6 x1.1 x1.2.1 x1.2.2 v1 v2).bind λ(x2,_)=>
bif x2 then(some (.inr (.inl (v4,()))))else
let x3:=w64 (v4+1);
some (.inl (v0,v1,v2,v3,x3,())))else
some (.inr (.inr (v0,v1,v2,v3,v4,false,())))
def fh(a0:List (Bool×LI×List (Int)))(a1:Bool)(a2:List (Int)):Option (Int×Unit):=
let x0:=bJ a0.length;
(match bM cd NN (a0,a1,a2,x0,0,())with
|none=>none
|some (.inl (x1,_))=>
some (x1,())
|some (.inr (x1,_))=>
some ((-1),()))
def l6:X.Cfg:=⟨E0,[kO],[],[⟨3,0,(qS [(0,shU (yaa (.pair .bool (.pair (yaa CB) RI)))),(1,.fn 133 [.ip uad]),Uaa 7,Uaa 8] []),[(.ret,qS [Uaa 4] []),(.exit 0,(qS [(0,shU (yaa (.pair .bool (.pair (yaa CB) RI)))),(1,.fn 133 [.ip uad]),Uaa 7,Uaa 8,Xaa 9] []))]⟩]⟩
def ic:Ctr:=⟨145,30,[shU (yaa (.pair .bool (.pair (yaa CB) RI))),.fn 133 [.ip uad]],[],[⟨zac,[.one],[]⟩],ap3 fh⟩
theorem lY:Lk 4 ic:=ls l6 (aC pz aN)
def eO(a0:List (Bool×LI×List (Int)))(a1:Bool)(a2:List (Int)):Option (Int×Unit):=
(fh a0 a1 a2).bind λ(x0,_)=>
bif(decide (x0>=0))then(some (x0,()))else
let x1:=bJ a0.length;
some (x1,())
def nX:X.Cfg:=⟨E0,[ic],[],[]⟩
def jy:Ctr:=⟨132,31,[shU (yaa (.pair .bool (.pair (yaa CB) RI))),.fn 133 [.ip uad]],[],[⟨zac,[.one],[]⟩],ap3 eO⟩
theorem nT:Lk 5 jy:=ls nX (aC lY aN)
def mq(a0:List (Int)):Option (LI×Unit):=
bif(b6 1 0 a0.length)then let x0:List (Int):=(List.append [] a0);
some (x0,())else none
def yz:X.Cfg:=⟨E0,[],[],[]⟩
def rk:Ctr:=⟨135,32,uL [(yaa CB)],[],[⟨Zab,[.one],[]⟩],ap1 mq⟩
theorem xO:Lk 1 rk:=ls yz aN
def dQ:T1i->Option (T1i⊕((List (Bool))×(List (Bool×List (Int)))×T0R)):=λ(v0,v1,v2,v3,v4,_)=>
bif(decide (v3<v2))then((cl v3).bind λx0=>
(bV v1 x0).bind λx1=>
(cl v3).bind λx2=>
(bV v0 x2).bind λx3=>
bif(!x3)then(let x4:Int:=(w64 (v3+1));
some (.inl (v0,v1,v2,x4,v4,())))else
(eO v4 x1.1 x1.2).bind λ(x4,_)=>
(let x5:=bJ v4.length;
bif(x4==x5)then(bif x1.1 then((mq x1.2).bind λ(x6,_)=>
let x7:List (Bool×LI×List (Int)):=[(x1.1,(x6,[]))];
bif(b6 56 v4.length x7.length)then let x8:List (Bool×LI×List (Int)):=(List.append v4 x7);
some (v0,v3,x4,v1,v2,v3,x8,())else none)else
let x6:List (Bool×LI×List (Int)):=[(x1.1,([],[]))];
bif(b6 56 v4.length x6.length)then let x7:List (Bool×LI×List (Int)):=(List.append v4 x6);
some (v0,v3,x4,v1,v2,v3,x7,())else none)else
some (v0,v3,x4,v1,v2,v3,v4,()):Option ((List (Bool))×Int×Int×T14)).bind λ(x5,x6,x7,x8,x9,ac,ae,_)=>
(cl x7).bind λaf=>
(bV ae af).bind λah=>
(bV ae af).bind λaj=>
(bV ae af).bind λak=>
bif(b6 8 ak.2.2.length (List.length [x6]))then let am:List (Int):=(List.append ak.2.2 [x6]);
(cl x7).bind λan=>
(bV ae an).bind λap=>
(bV ae an).bind λaq=>
bif(Nat.beq an af)then let au:List (Bool×LI×List (Int)):=(List.modify ae an λe=>(e.1,(e.2.1,am)));
let av:=w64 (ac+1);
some (.inl (x5,x8,x9,av,au,()))else none else none)else
some (.inr (v0,v1,v2,v3,false,v4,()))
def dZ(a0:List (Bool×List (Int)))(a1:List (Bool)):Option ((List (Bool×LI×List (Int)))×Int×Unit):=
let x0:=bJ a0.length;
bif(decide (x0>5))then(some ([],3,()))else
let x1:=bJ a1.length;
let x2:=bJ a0.length;
bif(x1 != x2)then(some ([],1,()))else
let x3:=bJ a0.length;
(bM dQ NN (a1,a0,x3,0,[],())).bind λ(x4,x5,x6,x7,x8,x9,_)=>
some (x9,0,())
def rO:X.Cfg:=⟨E0,[jy,rk],[(49,(.pair .bool (.pair (uaa CB) (uaa I64)))),(50,(.pair .bool (.pair (uaa CB) (uaa I64))))],[⟨18,0,qE,[(.normal,(qS [sP 1 (yaa .bool),Zaa 6 15,Uaa 7,Uaa 9,sP 19 (yaa (.pair .bool (yaa CB))),Uaa 20,Uaa 21] [(15,[shU (uaa (.pair .bool (.pair (uaa CB) (uaa I64))))])]))]⟩,(lx 10 1 [sP 1 (yaa .bool),Zaa 6 15,sP 19 (yaa (.pair .bool (yaa CB))),Uaa 20,Uaa 21] [(15,[shU (uaa (.pair .bool (.pair (uaa CB) (uaa I64))))])] 22)]⟩
def mc:Ctr:=⟨100,33,yag,[],[⟨[shU (uaa (.pair .bool (.pair (uaa CB) (uaa I64)))),shU I64],[.one,.one],[]⟩],ap2 dZ⟩
theorem rK:Lk 6 mc:=ls rO (aC nT (aC xO aN))
def ko(a0:Int):Option (Bool×Unit):=
bif(decide (a0>=1))then(some ((decide (a0<=5)),()))else
some (false,())
def BS:X.Cfg:=⟨E0,[],[],[]⟩
def pI:Ctr:=⟨101,34,zac,[],[⟨zab,[.one],[]⟩],ap1 ko⟩
theorem uk:Lk 1 pI:=ls BS aN
def kr(a0:Bool)(a1:List (Int))(a2:List (Int))(a3:Bool)(a4:List (Int))(a5:List (Int)):Option (Bool×Unit):=
bif a0 then(let x0:Int:=(bJ a2.length);
let x1:=bJ a5.length;
some ((decide (x0>x1)),()))else
some (false,())
def uw:X.Cfg:=⟨E0,[],[],[]⟩
def oc:Ctr:=⟨103,35,[.agg zad,.agg zad],[],[⟨zab,[.one],[]⟩],ap6 kr⟩
theorem ul:Lk 1 oc:=ls uw aN
def gI:T1t->Option (T1t⊕((List (Bool×LI×List (Int)))×Int×Int×Bool×T0Q)):=λ(v0,v1,v2,v3,v4,v5,v6,v7,v8,_)=>
bif(decide (v2<v1))then(((cl v2).bind λx0=>
(bV v0 x0).bind λx1=>
(kr x1.1 x1.2.1 x1.2.2 v6 v7 v8).bind λ(x2,_)=>
bif x2 then(some (v0,v1,v2,v3,v4,v5,x1.1,x1.2.1,x1.2.2,()))else
some (v0,v1,v2,v3,v4,v5,v6,v7,v8,()):Option (T1t)).bind λ(x0,x1,x2,x3)=>
let x9:=w64 (x2+1);
some (.inl (x0,x1,x9,x3)))else
some (.inr (v0,v1,v2,false,v3,v4,v5,v6,v7,v8,()))
def mn(a0:List (Bool×LI×List (Int))):Option (T0b):=
let x0:=bJ a0.length;
(bM gI NN (a0,x0,0,false,(),(),false,[],[],())).bind λ(x1,x2,x3,x4,x5,x6,x7,x8)=>
some (x8)
def BT:X.Cfg:=⟨E0,[oc],[],[⟨7,0,qE,[(.normal,(qS [(1,.fn 103 []),zaa 4,zaa 5,(8,shU (yaa (.pair .bool (.pair (yaa CB) RI)))),Uaa 9,Uaa 10] [(10,uL [.bool,N1,N1]),(12,zad)]))]⟩,(lx 4 1 [(1,.fn 103 []),zaa 4,zaa 5,(8,shU (yaa (.pair .bool (.pair (yaa CB) RI)))),Uaa 9,Uaa 10] [(10,uL [.bool,N1,N1]),(12,zad)] 11)]⟩
def uZ:Ctr:=⟨102,36,[shU (yaa (.pair .bool (.pair (yaa CB) RI))),.fn 103 []],[],[⟨zad,[.agg 3],[]⟩],ap1 mn⟩
theorem BJ:Lk 2 uZ:=ls BT (aC ul aN)
def jR(a0:Int):Option (Int×Unit):=
(ko a0).bind λ(x0,_)=>
bif(!x0)then(some (0,()))else
let x1:=w64 (Int.tdiv a0 2);
let x2:=w64 (x1+1);
some (x2,())
def xV:X.Cfg:=⟨E0,[pI],[],[]⟩
def qP:Ctr:=⟨104,37,zac,[],[⟨zac,[.one],[]⟩],ap1 jR⟩
theorem xq:Lk 2 qP:=ls xV (aC uk aN)
def cB:LI×T0e->Option ((LI×T0e)⊕((Int×Unit)⊕(LI×Int×T0d))):=λ(v0,v1,v2,v3,_)=>
bif(decide (v3<v2))then((cl v3).bind λx0=>
(bV v0 x0).bind λx1=>
bif(v1==x1)then(some (.inr (.inl (v3,()))))else
let x2:=w64 (v3+1);
some (.inl (v0,v1,v2,x2,())))else
some (.inr (.inr (v0,v1,v2,v3,false,())))
def is(a0:List (Int))(a1:Int):Option (Int×Unit):=
let x0:=bJ a0.length;
(match bM cB NN (a0,a1,x0,0,())with
|none=>none
|some (.inl (x1,_))=>
some (x1,())
|some (.inr (x1,_))=>
some ((-1),()))
def qz:X.Cfg:=⟨E0,[],[],[⟨3,0,qS [sP 0 RI,Uaa 1,Uaa 7,Uaa 8] [],[(.ret,qS [Uaa 4] []),(.exit 0,qS [sP 0 RI,Uaa 1,Uaa 7,Uaa 8,Xaa 9] [])]⟩]⟩
def lm:Ctr:=⟨105,38,uaf,[],[⟨zac,[.one],[]⟩],ap2 is⟩
theorem qp:Lk 1 lm:=ls qz aN
def dt(a0:List (Int))(a1:Int):Option (Bool×Unit):=
(is a0 a1).bind λ(x0,_)=>
some ((decide (x0>=0)),())
def nV:X.Cfg:=⟨E0,[lm],[],[]⟩
def gp:Ctr:=⟨76,39,uaf,[],[⟨zab,[.one],[]⟩],ap2 dt⟩
theorem jr:Lk 2 gp:=ls nV (aC qp aN)
def fS:T1Y->Option (T1Y⊕((List (Bool×List (Int)))×(List (Bool))×Int×(List (Bool×LI×List (Int)))×T1D)):=λ(v0,v1,v2,v3,v4,v5,v6,v7,v8)=>
bif(decide (v7<v6))then((cl v7).bind λx0=>
(bV v5 x0).bind λx1=>
let x2:=bJ x1.2.2.length;
let x3:=w64 (v4+x2);
let x4:=w64 (v7+1);
some (.inl (v0,v1,v2,v3,x3,v5,v6,x4,v8)))else
some (.inr (v0,v1,v2,v3,v4,v5,v6,v7,false,v8))
def fR:T1y->Option (T1y⊕((List (Bool))×Int×Int×Bool×T1r)):=λ(v0,v1,v2,v3,v4,v5,v6,v7,v8,v9,v10,v11,_)=>
bif(decide (v2<v1))then(((cl v2).bind λx0=>
(bV v0 x0).bind λx1=>
bif x1 then((dt v8 v2).bind λ(x2,_)=>
bif(!x2)then(bif(b6 8 v11.length (List.length [v2]))then let x3:List (Int):=(List.append v11 [v2]);
some (v0,v1,v2,v3,v4,v5,v6,v7,v8,v9,v10,x3,())else none)else
some (v0,v1,v2,v3,v4,v5,v6,v7,v8,v9,v10,v11,()))else
some (v0,v1,v2,v3,v4,v5,v6,v7,v8,v9,v10,v11,()):Option (T1y)).bind λ(x0,x1,x2,x3,x4)=>
let af:=w64 (x2+1);
some (.inl (x0,x1,af,x3,x4)))else
some (.inr (v0,v1,v2,false,v3,v4,v5,v6,v7,v8,v9,v10,v11,()))
def gt(a0:List (Bool×List (Int)))(a1:List (Bool))(a2:Int):Option (Int×T0m):=
(dZ a0 a1).bind λ(x0,x1,_)=>
bif(x1 != 0)then(some (0,[],[],x1,()))else
(ko a2).bind λ(x2,_)=>
bif(!x2)then(some (0,[],[],1,()))else
let x3:=bJ x0.length;
(bM fS NN (a0,a1,a2,x0,0,x0,x3,0,0,(),(),x0,())).bind λ(x4,x5,x6,x7,x8,x9,ac,ae,af,ah,aj,ak,am,_)=>
bif(decide (x8<x6))then(some (4,[],[],0,()))else
(mn x7).bind λ(an,ap,aq,_)=>
let au:=bJ aq.length;
bif(au==x8)then(some (1,ap,[],0,()))else
let av:=bJ aq.length;
(jR x8).bind λ(aw,_)=>
bif(decide (av<aw))then(some (3,[],[],0,()))else
let ax:=bJ x4.length;
(bM fR NN (x5,ax,0,ah,aj,ak,an,ap,aq,2,ap,[],())).bind λ(ay,az,aA,aB,aD,aE,aF,aG,aH,aI,aJ,aK,aL,_)=>
some (aJ,aK,aL,0,())
def xW:X.Cfg:=⟨E0,[mc,pI,uZ,qP,gp],[],[(lx 11 0 [sP 0 (yaa (.pair .bool (yaa CB))),sP 1 (yaa .bool),Uaa 2,zaa 6,(8,shU (yaa (.pair .bool (.pair (yaa CB) RI)))),Uaa 10,(30,shU (yaa (.pair .bool (.pair (yaa CB) RI)))),Uaa 31,Uaa 32] [(14,yad),(19,[shU (yaa (.pair .bool (.pair (yaa CB) RI)))])] 33),⟨31,1,qE,[(.normal,qS [sP 1 (yaa .bool),zaa 6,zaa 13,zaa 14,Uaa 69,Uaa 70] [(14,yad),(28,zad),(30,Xad)])]⟩,⟨28,2,qS [sP 1 (yaa .bool),zaa 6,zaa 13,zaa 14,Uaa 69,Uaa 70] [(14,yad),(28,zad),(30,Xad)],[(.exit 3,qS [sP 1 (yaa .bool),zaa 6,zaa 13,zaa 14,Uaa 69,Uaa 70,Xaa 71] [(14,yad),(28,zad),(30,Xad)])]⟩]⟩
def qQ:Ctr:=⟨75,40,zag,[],[⟨uL [I64,(yaa CB),(uaa I64),I64],[.agg 3,.one],[]⟩],ap3 gt⟩
theorem xr:Lk 7 qQ:=ls xW (aC rK (aC uk (aC BJ (aC xq (aC jr aN)))))
def fj:T2n->Option (T2n⊕((List (Bool))×Int×(List (LLCn×LDTs))×T2k)):=λ(v0,v1,v2,v3,v4,v5,v6,v7,v8,v9,v10,v11,v12,v13,v14,v15,v16,v17,v18,v19,_)=>
bif(decide (v4<v3))then((match((cl v4).bind λx0=>
(bV v2 x0).bind λx1=>
let x2:=bJ v0.length;
bif(decide (v4>=x2))then(some (.inl (v0,v1,v4,v2,v3,v4,true,v5,v6,v7,v8,v9,v10,v11,v12,v13,v14,v15,v16,v17,v18,v19,x1.1,x1.2,())))else
(cl v4).bind λx3=>
(bV v0 x3).bind λx4=>
bif(!x4)then(some (.inl (v0,v1,v4,v2,v3,v4,true,v5,v6,v7,v8,v9,v10,v11,v12,v13,v14,v15,v16,v17,v18,v19,x1.1,x1.2,())))else
(iW x1.1 x1.2 v5 v6).bind λ(x5,x6,x7,x8,x9,ac,ae,af,ah,aj,ak,am,_)=>
bif(am==0)then((j0 x5 x6 x7 x8 x9 ac ae af ah aj ak).bind λ(an,_)=>
(cl v4).bind λap=>
(bV v19 ap).bind λaq=>
(bV v19 ap).bind λau=>
let av:=(List.modify v19 ap λe=>(x5,(x6,(x7,(x8,(x9,(ac,(ae,(af,(ah,(aj,ak)))))))))));
(cl v4).bind λaw=>
(bV v18 aw).bind λax=>
(bV v18 aw).bind λay=>
let az:=List.modify v18 aw λe=>(true,an);
some (.inr (v0,v1,v2,v3,v4,v5,v6,v7,v8,v9,v10,v11,v12,v13,v14,v15,v16,v17,az,av,())))else
some (.inr (v0,v1,v2,v3,v4,v5,v6,v7,v8,v9,v10,v11,v12,v13,v14,v15,v16,v17,v18,v19,())):Option (((List (Bool))×Int×Int×(List (LLCn×LDTs))×Int×Int×Bool×Int×Int×Int×Int×Unit×Int×Int×Int×Int×Int×Int×Int×Unit×(List (Bool×List (Int)))×(List (Int×Int×LDCn×Int×Int×Int×Int×Int×Int×Int×LDCn))×T08)⊕T2n))with
|none=>none
|some (.inl (x0,x1,x2,x3,x4,x5,x6,x7,x8,x9,ac,ae,af,ah,aj,ak,am,an,ap,aq,au,av,aw,ax,_))=>
let ay:=w64 (x5+1);
some (.inl (x0,x1,x3,x4,ay,x7,x8,x9,ac,ae,af,ah,aj,ak,am,an,ap,aq,au,av,()))
|some (.inr (x0,x1,x2,x3,x4,x5,x6,x7,x8,x9,ac,ae,af,ah,aj,ak,am,an,ap,aq,_))=>
let au:=w64 (x4+1);
some (.inl (x0,x1,x2,x3,au,x5,x6,x7,x8,x9,ac,ae,af,ah,aj,ak,am,an,ap,aq,()))))else
some (.inr (v0,v1,v2,v3,v4,false,v5,v6,v7,v8,v9,v10,v11,v12,v13,v14,v15,v16,v17,v18,v19,()))
def dW:T2m->Option (T2m⊕(T1G⊕((List (Bool))×(List (Bool×List (Int)))×Int×T2j))):=λ(v0,v1,v2,v3,v4,v5,v6,v7,v8,v9,v10,v11,v12,v13,v14,v15,v16,v17,v18,v19,_)=>
bif(decide (v3<v2))then((cl v3).bind λx0=>
(bV v1 x0).bind λx1=>
((cl v3).bind λx2=>
(bV v0 x2).bind λx3=>
bif x3 then(bif x1.1 then((dt v19 v3).bind λ(x4,_)=>
some (v0,v3,v1,v2,v3,(!x4),v4,v5,v6,v7,v8,v9,v10,v11,v12,v13,v14,v15,v16,v17,v18,v19,x1.1,x1.2,()))else
some (v0,v3,v1,v2,v3,false,v4,v5,v6,v7,v8,v9,v10,v11,v12,v13,v14,v15,v16,v17,v18,v19,x1.1,x1.2,()))else
some (v0,v3,v1,v2,v3,false,v4,v5,v6,v7,v8,v9,v10,v11,v12,v13,v14,v15,v16,v17,v18,v19,x1.1,x1.2,()):Option ((List (Bool))×Int×(List (Bool×List (Int)))×Int×Int×Bool×Int×Int×Unit×Int×Int×Int×Int×Int×Int×Int×Unit×(List (Bool×List (Int)))×(List (Int×Int×LDCn×Int×Int×Int×Int×Int×Int×Int×LDCn))×Int×LI×LI×T00)).bind λ(x2,x3,x4,x5,x6,x7,x8,x9,ac,ae,af,ah,aj,ak,am,an,ap,aq,au,av,aw,ax,_)=>
bif x7 then((cl x3).bind λaA=>
(bV au aA).bind λaB=>
(bV au aA).bind λaD=>
some (.inr (.inl (ax,0,aD.1,aD.2.1,aD.2.2.1,aD.2.2.2.1,aD.2.2.2.2.1,aD.2.2.2.2.2.1,aD.2.2.2.2.2.2.1,aD.2.2.2.2.2.2.2.1,aD.2.2.2.2.2.2.2.2.1,aD.2.2.2.2.2.2.2.2.2.1,aD.2.2.2.2.2.2.2.2.2.2,()))))else
let aA:=w64 (x6+1);
some (.inl (x2,x4,x5,aA,x8,x9,ac,ae,af,ah,aj,ak,am,an,ap,aq,au,av,aw,ax,())))else
some (.inr (.inr (v0,v1,v2,v3,false,v4,v5,v6,v7,v8,v9,v10,v11,v12,v13,v14,v15,v16,v17,v18,v19,())))
def gJ(a0:List (LLCn×LDTs))(a1:List (Bool))(a2:Int)(a3:Int)(a4:Int):Option (T1F):=
let x0:=bJ a0.length;
(cl x0).bind λx1=>
(cl x0).bind λx2=>
bif(gk x1 x2 2)then let x3:List (Bool×List (Int)):=(List.replicate x1 (false,[]));
let x4:=bJ a0.length;
(cl x4).bind λx5=>
(cl x4).bind λx6=>
bif(gk x5 x6 11)then let x7:List (Int×Int×LDCn×Int×Int×Int×Int×Int×Int×Int×LDCn):=(List.replicate x5 (0,(0,([],(0,(0,(0,(0,(0,(0,(0,[])))))))))));
let x8:=bJ a0.length;
(bM fj NN (a1,a4,a0,x8,0,a2,a3,0,0,(),0,0,0,0,0,0,0,(),x3,x7,())).bind λ(x9,ac,ae,af,ah,aj,ak,am,an,ap,aq,au,av,aw,ax,ay,az,aA,aB,aD,aE,_)=>
(gt aD x9 ac).bind λ(aF,aG,aH,aI,_)=>
bif(aI != 0)then(some (0,0,[],0,0,0,0,0,0,0,[],[],aI,()))else
(match(bif(aF != 1)then(bif(aF != 2)then(some (.inl (31,0,0,(),0,0,0,0,0,0,0,(),(),())))else
some (.inr (x9,aD,false,an,ap,aq,au,av,aw,ax,ay,az,aA,aB,aD,aE,aF,aG,aH,())))else
some (.inr (x9,aD,false,an,ap,aq,au,av,aw,ax,ay,az,aA,aB,aD,aE,aF,aG,aH,())):Option ((Int×Int×Int×Unit×Int×Int×Int×Int×T0I)⊕((List (Bool))×(List (Bool×List (Int)))×T2g)))with
|none=>none
|some (.inl (aJ,aK,aL,aM,aO,aP,aQ,aR,aS,aT,aU,aV,aW,_))=>
some (aK,aL,[],aO,aP,aQ,aR,aS,aT,aU,[],[],aJ,())
|some (.inr (aJ,aK,aL,aM,aO,aP,aQ,aR,aS,aT,aU,aV,aW,aY))=>
let bf:=bJ aK.length;
(match bM dW NN (aJ,aK,bf,0,aM,aO,aP,aQ,aR,aS,aT,aU,aV,aW,aY)with
|none=>none
|some (.inl (bg,bh,bi,bj,bk,bl,bm,bn,bo,bp,bq,bt,bu,_))=>
some (bi,bj,bk,bl,bm,bn,bo,bp,bq,bt,bu,bg,bh,())
|some (.inr (bg,bh,bi,bj,bk,bl,bm,bn,bo,bp,bq,bt,bu,_))=>
some (0,0,[],0,0,0,0,0,0,0,[],[],31,())))else none else none
def vG:X.Cfg:=⟨E0,[pM,rd,qQ,gp],[(23,(.pair .bool (uaa CB))),(26,(.pair I64 (.pair I64 (.pair bZ ch))))],[⟨7,0,qE,[(.normal,(qS [sP 1 (yaa .bool),Uaa 3,zaa 6,zaa 8,Zaa 11 25,Zaa 12 27,Uaa 13,zaa 14,sP 27 (yaa (.pair (yaa bZ) (yaa ch))),Uaa 28,Uaa 29,Xaa 44] [(14,Xab),(18,Xac),(25,yaf),(27,[shU (uaa (.pair I64 (.pair I64 (.pair bZ ch))))]),(30,uab)])),(.normal,(qS [sP 1 (yaa .bool),Uaa 3,zaa 6,zaa 8,Zaa 11 25,Zaa 12 27,sP 27 (yaa (.pair (yaa bZ) (yaa ch))),Uaa 28,Uaa 29] [(14,Xab),(18,Xac),(25,yaf),(27,[shU (uaa (.pair I64 (.pair I64 (.pair bZ ch))))])]))]⟩,(lx 4 1 [sP 1 (yaa .bool),Uaa 3,zaa 6,zaa 8,Zaa 11 25,Zaa 12 27,sP 27 (yaa (.pair (yaa bZ) (yaa ch))),Uaa 28,Uaa 29] [(14,Xab),(18,Xac),(25,yaf),(27,[shU (uaa (.pair I64 (.pair I64 (.pair bZ ch))))])] 30),⟨17,2,qE,[(.ret,(qS [zaa 8,Zaa 9 21,Uaa 10] [(18,Xac),(21,uL [N1])])),(.normal,(qS [sP 1 (yaa .bool),zaa 8,sP 11 (yaa (.pair .bool (yaa CB))),Zaa 12 27,zaa 17,Xaa 82] [(18,Xac),(25,Zad),(27,[shU (uaa (.pair I64 (.pair I64 (.pair bZ ch))))]),(36,Xad)]))]⟩,⟨27,3,qE,[(.normal,(qS [sP 1 (yaa .bool),zaa 8,Zaa 12 27,zaa 17,Uaa 19,sP 84 (yaa (.pair .bool (yaa CB))),Uaa 85,Uaa 86,Xaa 105] [(18,Xac),(25,Zad),(27,[shU (uaa (.pair I64 (.pair I64 (.pair bZ ch))))]),(36,Xad),(42,uad)]))]⟩,⟨22,4,(qS [sP 1 (yaa .bool),zaa 8,Zaa 12 27,zaa 17,sP 84 (yaa (.pair .bool (yaa CB))),Uaa 85,Uaa 86] [(18,Xac),(25,Zad),(27,[shU (uaa (.pair I64 (.pair I64 (.pair bZ ch))))]),(36,Xad)]),[(.ret,qS [zaa 8,sP 9 RI,Uaa 10] [(18,Zac)]),(.exit 2,(qS [sP 1 (yaa .bool),zaa 8,Zaa 12 27,zaa 17,sP 84 (yaa (.pair .bool (yaa CB))),Uaa 85,Uaa 86,Xaa 87] [(18,Xac),(25,Zad),(27,[shU (uaa (.pair I64 (.pair I64 (.pair bZ ch))))]),(36,Xad)]))]⟩]⟩
def lI:Ctr:=⟨38,41,[shU (yaa (.pair (yaa bZ) (yaa ch))),shU (yaa .bool),.agg Xab,shU I64],[],[⟨Uag,[.agg 11,.one,.one],[]⟩],ap5 gJ⟩
theorem oT:Lk 8 lI:=ls vG (aC ut (aC xH (aC xr (aC jr aN))))
def dI:T0v->Option (T0v⊕(Int×Bool×T0o)):=λ(v0,v1,v2,v3,_)=>
let x0:=bJ v1.length;
bif(decide (v0<x0))then((cl v0).bind λx1=>
(bV v1 x1).bind λx2=>
let x3:=bJ x2.length;
bif(b6 8 v3.length (List.length [x3]))then let x4:List (Int):=(List.append v3 [x3]);
let x5:=w64 (v0+1);
some (.inl (x5,v1,v2,x4,()))else none)else
some (.inr (v0,false,v1,v2,v3,()))
def dS(a0:List LDCn)(a1:LDTs):Option (LI×Unit):=
(bM dI NN (0,a0,a1,[],())).bind λ(x0,x1,x2,x3,x4,_)=>
some (x4,())
def yh:X.Cfg:=⟨E0,[],[],[(lx 4 0 [zaa 1,Zaa 3 9,Uaa 4] [(4,uab),(9,uac)] 9)]⟩
def gx:Ctr:=⟨36,42,[.agg uab],[],[⟨uac,[.one],[]⟩],ap2 dS⟩
theorem iG:Lk 1 gx:=ls yh aN
def b4:T0l->Option (T0l⊕((Int×Unit)⊕T0x)):=λ(v0,v1,v2,_)=>
let x0:=bJ v0.length;
bif(decide (v2<x0))then((cl v2).bind λx1=>
(bV v0 x1).bind λx2=>
bif(decide (x2<1))then(some (.inr (.inl (1,()))))else
(cl v2).bind λx3=>
(bV v0 x3).bind λx4=>
bif(decide (x4>32))then(some (.inr (.inl (1,()))))else
let x5:=w64 (v2+1);
some (.inl (v0,v1,x5,())))else
some (.inr (.inr (v0,v1,v2,false,())))
def dR(a0:List (Int))(a1:Int):Option (Int×Unit):=
let x0:=bJ a0.length;
bif(decide (x0>4))then(some (3,()))else
bif(decide (a1>4))then(some (3,()))else
(match bM b4 NN (a0,a1,0,())with
|none=>none
|some (.inl (x1,_))=>
some (x1,())
|some (.inr (x1,x2,_))=>
bif(decide (x2<0))then(some (1,()))else
some (0,()))
def yf:X.Cfg:=⟨E0,[],[],[⟨6,0,qS [sP 0 RI,Uaa 1,Uaa 5] [],[(.ret,qS [Uaa 4] []),(.exit 0,qS [sP 0 RI,Uaa 1,Uaa 5,Xaa 16] [])]⟩]⟩
def j8:Ctr:=⟨71,43,uaf,[],[⟨zac,[.one],[]⟩],ap2 dR⟩
theorem mA:Lk 1 j8:=ls yf aN
def eU(a0:List LDCn)(a1:LDTs):Option (Bool×Unit):=
(dS a0 a1).bind λ(x0,_)=>
let x1:=bJ a1.length;
(dR x0 x1).bind λ(x2,_)=>
some ((x2==0),())
def vM:X.Cfg:=⟨E0,[gx,j8],[],[]⟩
def jd:Ctr:=⟨33,44,[.agg uab],[],[⟨zab,[.one],[]⟩],ap2 eU⟩
theorem lD:Lk 2 jd:=ls vM (aC iG (aC mA aN))
end
end Go.Proofs.YtakfoejcjdcgbaaGreat
