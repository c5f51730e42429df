/- Part of the proof; no condition. -/
import Derived.Test.YtdcpgpngdcfhhaaGreatMc
import Derived.Test.YtdcpgpngdcfhhaaGreatProg
import Derived.KernelRfl
set_option linter.unusedVariables false
set_option linter.unusedSimpArgs false
namespace Go.Proofs.YtdcpgpngdcfhhaaGreat
open Go.RowKit
section
variable {α β γ δ Y:Type}
theorem jF(p:XP den) (t:XV den):Sim (Y:=Y) (X.peek1 dE p t) (peek1 (erP p) (er t)) er:=by
 cases t with
 | k x=>exact .ret rfl
 | d t x=>
  have own:X.isOwT t=true→Sim (Y:=Y) (X.peek1 dE p (.d t x)) (peek1 (erP p) (er (.d t x))) er:=by
   intro h;have h1:X.isOwX (.d t x:XV den)=true:=h;obtain⟨c,hc⟩:=mU h1;rw[hc];show Sim (if X.isOwT t then _ else _) (SP.bind _ _) er;rw[if_pos h];exact (uw _).bind fun vs=>.ret rfl
  cases t with
  | row o t=>cases o<;>first | exact .ret rfl | exact own rfl
  | nilr o=>cases o<;>first | exact .ret rfl | exact own rfl
  | int k=>exact .ret rfl
  | bool=>exact .ret rfl
  | str=>exact .ret rfl
  | nat=>exact .fail
  | pair a b=>exact .fail
 | _=>exact .fail
theorem GA(p:XP den):Sim (Y:=Y) (X.peekP dE p) (peekP (erP p)) er:=by
 obtain⟨r,o,hs⟩:=p
 cases hs with
 | nil=>
  refine Sim.rdK fun t=>Sim.ite (fun h=>?_) fun h=>?_
  ·obtain⟨c,hc⟩:=mU h;rw[hc];exact (uw _).bind fun vs=>.ret rfl
  ·rw[LB (by simpa using h) (pU t)];exact (jG ⟨r,o,[]⟩).bind fun t=>jF _ t
 | cons h hs=>exact (jG ⟨r,o,h :: hs⟩).bind fun t=>jF _ t
theorem GB(r:Nat):∀(n o:Nat),Sim (Y:=Y) (X.peekB dE r o n) (peekL ⟨r,o,[]⟩ n) erL:=by
 intro n
 induction n with
 | zero=>intro o;exact .ret rfl
 | succ n ih=>
  intro o
  cases n with
  | zero=>
   show Sim _ ((getPl ⟨r,o,[]⟩).bind fun t=>(peek1 ⟨r,o,[]⟩ t).bind fun t'=>.ret [t']) erL;refine Sim.rdC (h:=fun tv=>SP.bind _ _) fun t=>(jF ⟨r,o,[]⟩ t).bind fun t'=>?_;exact (Sim.ret (a:=[]) (b:=[]) (f:=erL) rfl).bind (h:=fun l=>.ret (er t' :: l)) fun l=>.ret rfl
  | succ n=>
   show Sim _ ((getPl ⟨r,o,[]⟩).bind fun t=>(peek1 ⟨r,o,[]⟩ t).bind fun t'=>(peekL ⟨r,o+1,[]⟩ (n+1)).bind fun l=>.ret (t' :: l)) erL;exact Sim.rdC (h:=fun tv=>SP.bind _ _) fun t=>(jF ⟨r,o,[]⟩ t).bind fun t'=>(ih (o+1)).bind fun l=>.ret rfl
theorem Kb{r o:Nat}{l:List Hop}{i sz f n:Nat}:(⟨r,o,l++[(i,sz,f)]⟩:dR).add n=⟨r,o,l++[(i,sz,f+n)]⟩:=by
 simp[dR.add]
theorem Ib{r o:Nat}{l:List Hop}{i sz f n:Nat}:(⟨r,o,l++[(i,sz,f)]⟩:dR).fits n=decide (f+n < sz):=by
 simp[dR.fits]
theorem Hi:∀{qs:List Key}{σ:St}{a:List Nat}{τ:St},(rdVs qs).run σ=some (a,τ)→τ=σ:=by
 intro qs
 induction qs with
 | nil=>intro σ a τ h;simp only[rdVs,SP.run,oSJ,oPJ] at h;exact h.2.symm
 | cons q qs ih=>
  intro σ a τ h;simp only[rdVs,SP.run] at h;obtain⟨l,σ1,h1,h2⟩:=SP.run_bind_some h;simp only[SP.run,oSJ,oPJ] at h2;rw[← h2.2];exact ih h1
theorem Fq{p:dR}{t:TV}{σ:St}{y:TV×St}(h:(peek1 p t).run σ=some y):y.2=σ:=by
 cases t with
 | v x=>simp only[peek1,SP.run,oSJ] at h;rw[← h]
 | sl c=>simp only[peek1,SP.run,oSJ] at h;rw[← h]
 | ow c=>
  simp only[peek1] at h;obtain⟨l,σ1,h1,h2⟩:=SP.run_bind_some h;simp only[SP.run,oSJ] at h2;rw[← h2];exact Hi h1
 | _=>simp[peek1,SP.run] at h
theorem Fp{r off:Nat}{l:List (den .nat×Nat×Nat)}{i:Nat}{sz:Nat}{tv:TV}:∀(cs:List (XV den)) (o:Nat) {σ:XS den}{k:List (XV den)→XS den→Option Y}{y:Y},X.peekCs dE ⟨r,off,l++[(i,sz,o)]⟩ cs σ k=some y →
 (erS σ).c r off=tv→Loc.c r off∈σ.lg.1→(∀j v,cs[j]?=some v→d7 tv (l++[(i,sz,o+j)])=some (er v))→0 < cs.length→o+cs.length≤sz →
 ∃vs σ',(peekL ⟨r,off,l++[(i,sz,o)]⟩ cs.length).run (erS σ)=some (erL vs,erS σ')∧ms σ σ' ((peekL ⟨r,off,l++[(i,sz,o)]⟩ cs.length).foot (erS σ))∧k vs σ'=some y:=by
 intro cs
 induction cs with
 | nil=>intro o σ k y h _ _ _ h0;simp at h0
 | cons t cs ih=>
  intro o σ k y h hc hlg hg h0 hsz;have h:X.peek1 dE ⟨r,off,l++[(i,sz,o)]⟩ t σ (fun t' σ1=>X.peekCs dE (X.addP ⟨r,off,l++[(i,sz,o)]⟩ 1) cs σ1 fun vs σ2=>k (t' :: vs) σ2)=some y:=h;obtain⟨t',σ1,r1,n1,k1⟩:=jF ⟨r,off,l++[(i,sz,o)]⟩ t σ _ y h;have r1:(peek1 ⟨r,off,l++[(i,sz,o)]⟩ (er t)).run (erS σ)=some (er t',erS σ1):=r1;have hs:erS σ1=erS σ:=Fq r1
  have hpl:(getPl ⟨r,off,l++[(i,sz,o)]⟩).run (erS σ)=some (er t,erS σ):=by
   have h3:d7 tv (l++[(i,sz,o)])=some (er t):=hg 0 t rfl;simp only[getPl,SP.run,hc];rw[h3];rfl
  have fpl:(getPl ⟨r,off,l++[(i,sz,o)]⟩).foot (erS σ)=([.c r off],[]):=by
   simp only[getPl,SP.foot,hc];have:=hg 0 t rfl;simp only[Nat.add_zero] at this;rw[this];rfl
  cases cs with
  | nil=>
   have k1:k [t'] σ1=some y:=k1;have e:peekL ⟨r,off,l++[(i,sz,o)]⟩ 1=(getPl ⟨r,off,l++[(i,sz,o)]⟩).bind fun t=>(peek1 ⟨r,off,l++[(i,sz,o)]⟩ t).bind fun t'=>.ret [t']:=rfl;refine⟨[t'],σ1,?_,?_,k1⟩
   ·show (peekL _ 1).run _=_;rw[e,SP.run_bind,hpl];simp only[oBS,SP.run_bind,r1];rfl
   ·show ms σ σ1 ((peekL _ 1).foot _);rw[e,SP.foot_bind _ _ hpl,SP.foot_bind _ _ r1,fpl];refine⟨fun x hx=>?_,fun x hx=>?_,n1.r0,n1.w0⟩
    ·simp only[SP.foot,List.cons_append,List.nil_append,List.append_nil,List.mem_cons] at hx;rcases hx with h | h
     ·rw[h];exact n1.r0 _ hlg
     ·exact n1.r x h
    ·simp only[SP.foot,List.nil_append,List.append_nil] at hx;exact n1.w x hx
  | cons u cs=>
   have k1:X.peekCs dE (X.addP ⟨r,off,l++[(i,sz,o)]⟩ 1) (u :: cs) σ1 (fun vs σ2=>k (t' :: vs) σ2)=some y:=k1
   have eadd:X.addP (⟨r,off,l++[(i,sz,o)]⟩:XP den) 1=⟨r,off,l++[(i,sz,o+1)]⟩:=by simp[X.addP]
   rw[eadd] at k1;simp only[List.length_cons] at hsz h0
   obtain⟨vs,σ2,r2,n2,k2⟩:=ih (o+1) k1 (by rw[hs];exact hc) (n1.r0 _ hlg) (fun j v hv=>by
    have:=hg (j+1) v (by simpa using hv)
    rw[show o+1+j=o+(j+1) by omega];exact this) (by simp) (by simp only[List.length_cons];omega)
   have e:peekL ⟨r,off,l++[(i,sz,o)]⟩ (u :: cs).length.succ=(getPl ⟨r,off,l++[(i,sz,o)]⟩).bind fun t=>(peek1 ⟨r,off,l++[(i,sz,o)]⟩ t).bind fun t'=>(peekL ⟨r,off,l++[(i,sz,o+1)]⟩ (u :: cs).length).bind fun r=>.ret (t' :: r):=by
    show (getPl _).bind (fun t=>(peek1 _ t).bind fun t'=>if dR.fits ⟨r,off,l++[(i,sz,o)]⟩ 1 then (peekL (dR.add ⟨r,off,l++[(i,sz,o)]⟩ 1) (cs.length+1)).bind fun r=>.ret (t' :: r) else .fail)=_
    have h3:decide (o+1 < sz)=true:=by simpa using (by omega:o+1 < sz)
    rw[Ib,Kb,h3];rfl
   refine⟨t' :: vs,σ2,?_,?_,k2⟩
   ·show (peekL _ (u :: cs).length.succ).run _=_;rw[e,SP.run_bind,hpl];simp only[oBS,SP.run_bind,r1,r2];rfl
   ·show ms σ σ2 ((peekL _ (u :: cs).length.succ).foot _);rw[e,SP.foot_bind _ _ hpl,SP.foot_bind _ _ r1,SP.foot_bind _ _ r2,fpl];refine⟨fun x hx=>?_,fun x hx=>?_,fun x hx=>n2.r0 x (n1.r0 x hx),fun x hx=>n2.w0 x (n1.w0 x hx)⟩
    ·simp only[SP.foot,List.cons_append,List.nil_append,List.append_nil,List.mem_cons,List.mem_append] at hx;rcases hx with h | h | h
     ·rw[h];exact n2.r0 _ (n1.r0 _ hlg)
     ·exact n2.r0 _ (n1.r x h)
     ·exact n2.r x h
    ·simp only[SP.foot,List.nil_append,List.append_nil,List.mem_append] at hx;rcases hx with h | h
     ·exact n2.w0 _ (n1.w x h)
     ·exact n2.w x h
theorem AI(p:XP den) (n:Nat):Sim (Y:=Y) (X.peekL dE p n) (peekL (erP p) n) erL:=by
 obtain⟨r,off,hops⟩:=p
 cases hops with
 | nil=>exact GB r n off
 | cons h1 hs=>
  intro σ k y hk;have hk:X.elemM dE (X.cOf σ r off) (h1 :: hs) (fun t e=>if X.lastO (h1 :: hs)+n≤jS t∧0 < n then X.peekCs dE ⟨r,off,h1 :: hs⟩ (((X.splitX dE t e).drop (X.lastO (h1 :: hs))).take n) else X.fail dE) (X.lgR (.c r off) σ) k=some y:=hk;obtain⟨l,i,sz,o,t,e,e1,e2,e3,e4⟩:=EE hk
  have e5:X.lastO (h1 :: hs)=o:=by rw[e1,tz]
  rw[e5] at e4;dsimp only at e4;split at e4
  ·rename_i hc
   have hlen:(X.splitX dE t e).length=sz:=by rw[← fH,rl,fj,e2]
   have hcl:(((X.splitX dE t e).drop o).take n).length=n:=by rw[List.length_take,List.length_drop,hlen];omega
   rw[e1] at e4
   obtain⟨vs,σ',r1,n1,k1⟩:=Fp (tv:=er (X.cOf σ r off)) _ o e4 (xA σ r off) (by simp[X.lgR]) (fun j v hv=>e3 (o+j) v (by
    rw[u7];rw[List.getElem?_take] at hv;split at hv
    ·rw[List.getElem?_drop] at hv;exact hv
    ·simp at hv)) (by rw[hcl];exact hc.2) (by rw[hcl,← e2];exact hc.1)
   rw[hcl] at r1 n1
   have ep:erP ⟨r,off,h1 :: hs⟩=⟨r,off,l++[(i,sz,o)]⟩:=by unfold erP;rw[e1]
   rw[ep];exact⟨vs,σ',r1,⟨n1.r,n1.w,fun x hx=>n1.r0 x (by simp[X.lgR,hx]),fun x hx=>n1.w0 x hx⟩,k1⟩
  ·cases e4
theorem GD(r:Nat):∀(l:List (XV den)) (i:Nat),Sim (Y:=Y) (X.nameL r i l) (nameL r i (erL l)) erL:=by
 intro l
 induction l with
 | nil=>intro i;exact .ret rfl
 | cons t l ih=>
  intro i
  cases ho:X.isOwX t with
  | true=>
   obtain⟨c,hc⟩:=mU ho
   have e:nameL r i (erL (t :: l))=.rdV (r,0,0) fun g=>.rdV (r,i,1) fun h=>(nameL r (i+1) (erL l)).bind fun l'=>.ret (.pk ⟨r,i,[]⟩ [g,h] :: l'):=by
    simp only[erL,hc,nameL]
   rw[e];simp only[X.nameL,ho,if_true];exact Sim.rdV fun g=>Sim.rdV fun h=>(ih (i+1)).bind fun l'=>.ret rfl
  | false=>
   have e:nameL r i (erL (t :: l))=(nameL r (i+1) (erL l)).bind fun l'=>.ret (er t :: l'):=by
    have h1:mu (er t)=false:=by rw[pU,ho]
    simp only[erL]
    cases he:er t with
    | ow c=>rw[he] at h1;simp[mu] at h1
    | _=>rfl
   rw[e];simp only[X.nameL,ho,Bool.false_eq_true,if_false];exact (ih (i+1)).bind fun l'=>.ret rfl
theorem Kz(l:List (XV den)):(erL l).any mu=l.any X.isOwX:=by
 induction l with
 | nil=>rfl
 | cons t l ih=>simp only[erL,List.any_cons,pU,ih]
theorem uU(d:Nat) (l:List (XV den)):Sim (Y:=Y) (X.names dE d l) (names d (erL l)) erL:=by
 unfold X.names names;rw[Kz];by_cases h:l.any X.isOwX=true
 ·rw[if_pos h,if_pos h];exact Sim.new rfl (GD _ l 0)
 ·rw[if_neg h,if_neg h];exact .ret rfl
theorem xR(agg:Bool) (l:List (XV den)):er (X.shapedX agg l)=oA agg (erL l):=by
 cases agg with
 | true=>rfl
 | false=>exact Cf l
theorem ew(d:Nat) {t:XV den}{t':TV}(e:er t=t'):Sim (Y:=Y) (X.wr dE d t) (wr d t') id:=by subst e;exact yu d t
theorem kv(d:Nat) (agg:Bool) {l:List (XV den)}{l':List TV}(e:erL l=l'):Sim (Y:=Y) (X.inst dE d agg l) (inst d agg l') id:=by
 subst e;exact (uU d l).bind fun l'=>ew d (xR agg l')
theorem ni(t:XV den):Sim (Y:=Y) (X.natOf dE t) (natOf (er t)) id:=by
 cases t with
 | d t x=>cases t with
  | int k=>
   refine Sim.nat fun m hm=>?_;subst hm;exact .ret rfl
  | _=>exact .fail
 | _=>exact .fail
theorem uV(t:XV den):Sim (Y:=Y) (X.lenOf dE t) (mf (er t)) id:=by
 cases t with
 | d t x=>cases t with
  | row o t=>cases o with
   | false=>exact .ret (List.length_map _).symm
   | true=>exact .fail
  | nilr o=>cases o<;>exact .ret rfl
  | _=>exact .fail
 | pk p vs=>
  refine (fJ p _ vs).bind fun _=>(D9 p).bind fun t=>?_
  cases t with
  | d t x=>cases t with
   | row o t=>cases o with
    | true=>exact .ret (show _=(List.map List.length (List.map (enc t) x)).length by simp;rfl)
    | false=>exact .fail
   | nilr o=>cases o with
    | true=>exact .ret rfl
    | false=>exact .fail
   | _=>exact .fail
  | _=>exact .fail
 | pw p vs sz lo n=>exact (fJ p _ vs).bind fun _=>.ret rfl
 | _=>exact .fail
theorem xQ(o:Option Opd) (d:Nat):Sim (Y:=Y) (X.optNat dE o d) (optNat o d) id:=by
 cases o with
 | none=>exact .ret rfl
 | some o=>exact (sH o).bind fun t=>ni t
theorem rm(mv:Bool):∀l:List (Nat×Nat×Opd),Sim (Y:=Y) (X.takeParts dE mv l) (takeParts mv l) erL:=by
 intro l
 induction l with
 | nil=>exact .ret rfl
 | cons x l ih=>
  obtain⟨off,n,x⟩:=x;refine (sH x).bind fun t=>?_;rw[we];refine (oT mv _).bind fun l1=>?_;refine Sim.ite (fun hn=>?_) fun _=>.fail;rw[if_pos (by rw[fH];exact hn)];exact ih.bind fun l'=>.ret (pX _ _)
theorem Ht:∀(l cells:List (XV den)) (off:Nat),erL (X.placeX cells off l)=jd (erL cells) off (erL l):=by
 intro l
 induction l with
 | nil=>intros;rfl
 | cons t l ih=>intro cells off;simp only[X.placeX,erL,jd];rw[ih,vO]
theorem Ct:∀(ps:List (Nat×Nat×Opd)) (cells l:List (XV den)),erL (X.assembleX cells ps l)=assemble (erL cells) ps (erL l):=by
 intro ps
 induction ps with
 | nil=>intros;rfl
 | cons p ps ih=>
  intro cells l;obtain⟨off,n,x⟩:=p;simp only[X.assembleX,assemble];rw[ih,Ht,pW,rM]
theorem F3(sz:Nat):∀(n:Nat) (l:List (XV den)),(X.chunksX sz n l).map erL=mn sz n (erL l):=by
 intro n
 induction n with
 | zero=>intros;rfl
 | succ n ih=>intro l;simp only[X.chunksX,List.map_cons,mn];rw[ih,pW,rM]
theorem uJ(z:List Value):erL (z.map (X.cellX dE))=z.map fk:=by
 rw[jV,List.map_map];exact List.map_congr_left fun y _=>uK y
theorem sQ{z:List Value}(h:(z.map (X.cellX dE)).all X.okCellX=true):(z.map fk).all eX=true:=by
 rw[← uJ,jV,List.all_map];rw[List.all_eq_true] at h ⊢;intro x hx;exact Fw (h x hx)
end
section
variable {α β γ δ Y:Type}
theorem yC(v:Value):Fk (pure v)=some v:=rfl
theorem MI{k:IntKind}{a b:Int}{op:BinOp}(h:op=.add∨op=.sub∨op=.mul∨op=.and∨op=.or∨op=.xor∨op=.andNot):fu op (.int k a) (.int k b)=some (.int k (arR op k a b)):=by
 rcases h with rfl | rfl | rfl | rfl | rfl | rfl | rfl<;>simp[fu,Go.binOp,Op.intArith,Op.intBits,arR,yC]
theorem MH{k:IntKind}{a b:Int}{op:BinOp}(h:op=.eql∨op=.neq∨op=.lss∨op=.leq∨op=.gtr∨op=.geq):fu op (.int k a) (.int k b)=some (.bool (cmR op a b)):=by
 rcases h with rfl | rfl | rfl | rfl | rfl | rfl<;>simp[fu,Go.binOp,Op.intCmp,cmR,yC]
theorem MG{k:IntKind}{a b:Int}{op:BinOp}(h:op=.quo∨op=.rem) (hb:b≠0):fu op (.int k a) (.int k b)=some (.int k (arR op k a b)):=by
 rcases h with rfl | rfl<;>simp[fu,Go.binOp,Op.intDiv,arR,yC,hb]
theorem Kx{k k':IntKind}{a:Int}{n:Nat}{op:BinOp}(h:op=.shl∨op=.shr):fu op (.int k a) (.int k' n)=some (.int k (shR op k a n)):=by
 rcases h with rfl | rfl<;>simp[fu,Go.binOp,Op.shift,shR,yC,show ¬ ((n:Int) < 0) by omega]
theorem Kw{a b:ByteArray}:fu .eql (.string a) (.string b)=some (.bool (M9 a b))∧fu .neq (.string a) (.string b)=some (.bool (!(M9 a b))):=⟨rfl,rfl⟩
theorem uP(d:Nat) {op:BinOp}{x y r:Value}{t:XV den}(h:fu op x y=some r) (hf:gU r=true) (e:er t=.v r):Sim (Y:=Y) (X.wr dE d t) ((jh (fu op x y)).bind fun r=>if gU r then wr d (.v r) else .fail) id:=by
 rw[h];show Sim _ (if gU r then wr d (.v r) else .fail) id;rw[if_pos hf];exact ew d e
theorem Mc(d:Nat) (op:BinOp) (a b:XV den):Sim (Y:=Y) (X.binX dE d op a b) ((sx (er a)).bind fun a=>(sx (er b)).bind fun b=>(jh (fu op a b)).bind fun r=>if gU r then wr d (.v r) else .fail) id:=by
 cases a with
 | d t x=>cases t with
  | int k=>cases b with
   | d u y=>cases u with
    | int k'=>
     show Sim _ ((jh (fu op (.int k x) (.int k' y))).bind _) id
     have ar:(op=.add∨op=.sub∨op=.mul∨op=.and∨op=.or∨op=.xor∨op=.andNot)→Sim (Y:=Y) (if h:k'=k then X.wr dE d (.d (.int k) (dE.ar op k x (h ▸ y))) else X.fail dE) ((jh (fu op (.int k x) (.int k' y))).bind fun r=>if gU r then wr d (.v r) else .fail) id:=by
      intro hop;by_cases h:k'=k
      ·subst h;rw[dif_pos rfl];exact uP d (MI hop) rfl rfl
      ·rw[dif_neg h];exact .fail
     have cm:(op=.eql∨op=.neq∨op=.lss∨op=.leq∨op=.gtr∨op=.geq)→Sim (Y:=Y) (if h:k'=k then X.wr dE d (.d .bool (dE.cm op k x (h ▸ y))) else X.fail dE) ((jh (fu op (.int k x) (.int k' y))).bind fun r=>if gU r then wr d (.v r) else .fail) id:=by
      intro hop;by_cases h:k'=k
      ·subst h;rw[dif_pos rfl];exact uP d (MH hop) rfl rfl
      ·rw[dif_neg h];exact .fail
     have dv:(op=.quo∨op=.rem)→Sim (Y:=Y) (if h:k'=k then X.brM dE (dE.cm .neq k' y (dE.lit k' 0)) (X.wr dE d (.d (.int k) (dE.ar op k x (h ▸ y)))) else X.fail dE) ((jh (fu op (.int k x) (.int k' y))).bind fun r=>if gU r then wr d (.v r) else .fail) id:=by
      intro hop;by_cases h:k'=k
      ·subst h;rw[dif_pos rfl];refine Sim.br fun hb=>uP d (MG hop ?_) rfl rfl;have hb:((y:Int) != 0)=true:=hb;simpa using hb
      ·rw[dif_neg h];exact .fail
     cases op with
     | add=>exact ar (by simp)
     | sub=>exact ar (by simp)
     | mul=>exact ar (by simp)
     | and=>exact ar (by simp)
     | or=>exact ar (by simp)
     | xor=>exact ar (by simp)
     | andNot=>exact ar (by simp)
     | eql=>exact cm (by simp)
     | neq=>exact cm (by simp)
     | lss=>exact cm (by simp)
     | leq=>exact cm (by simp)
     | gtr=>exact cm (by simp)
     | geq=>exact cm (by simp)
     | quo=>exact dv (by simp)
     | rem=>exact dv (by simp)
     | shl=>
      refine Sim.nat fun n hn=>?_;have hn:y=(n:Int):=hn;subst hn;exact uP d (Kx (.inl rfl)) rfl rfl
     | shr=>
      refine Sim.nat fun n hn=>?_;have hn:y=(n:Int):=hn;subst hn;exact uP d (Kx (.inr rfl)) rfl rfl
    | _=>exact .fail
   | _=>exact .fail
  | str=>cases b with
   | d u y=>cases u with
    | str=>
     show Sim _ ((jh (fu op (.string x) (.string y))).bind _) id
     cases op with
     | eql=>exact uP d Kw.1 rfl rfl
     | neq=>exact uP d Kw.2 rfl rfl
     | _=>exact .fail
    | _=>exact .fail
   | _=>exact .fail
  | _=>exact .fail
 | _=>exact .fail
theorem JY:∀{ks:List FK}{xs ys:List (XV den)}{c:Bool},X.eqAll dE ks xs ys=some c→∃vs ws,ek (erL xs)=some vs∧ek (erL ys)=some ws∧eI ks vs ws=some c:=by
 intro ks
 induction ks with
 | nil=>
  intro xs ys c h
  cases xs with
  | nil=>cases ys with
   | nil=>simp only[X.eqAll,oSJ] at h;subst h;exact⟨[],[],rfl,rfl,rfl⟩
   | cons=>simp[X.eqAll] at h
  | cons=>simp[X.eqAll] at h
 | cons f ks ih=>
  intro xs ys c h
  cases xs with
  | nil=>cases f<;>simp[X.eqAll] at h
  | cons x xs=>cases ys with
   | nil=>cases f<;>simp[X.eqAll] at h
   | cons y ys=>
    cases x with
    | d t a=>cases y with
     | d u b=>
      cases f with
      | i=>cases t with
       | int k=>cases u with
        | int k'=>
         simp only[X.eqAll] at h;split at h
         ·rename_i hk;subst hk;obtain⟨c',h1,rfl⟩:=gV h;obtain⟨vs,ws,e1,e2,e3⟩:=ih h1;refine⟨.int k' a :: vs,.int k' b :: ws,by simp only[erL,er,er1,ek,e1,Option.map_some],by simp only[erL,er,er1,ek,e2,Option.map_some],?_⟩;simp only[eI,if_true,e3,Option.map_some];rfl
         ·simp at h
        | _=>simp[X.eqAll] at h
       | _=>simp[X.eqAll] at h
      | b=>cases t with
       | bool=>cases u with
        | bool=>
         simp only[X.eqAll] at h;obtain⟨c',h1,rfl⟩:=gV h;obtain⟨vs,ws,e1,e2,e3⟩:=ih h1;refine⟨.bool a :: vs,.bool b :: ws,by simp only[erL,er,er1,ek,e1,Option.map_some],by simp only[erL,er,er1,ek,e2,Option.map_some],?_⟩;simp only[eI,e3,Option.map_some];rfl
        | _=>simp[X.eqAll] at h
       | _=>simp[X.eqAll] at h
      | s=>cases t with
       | str=>cases u with
        | str=>
         simp only[X.eqAll] at h;obtain⟨c',h1,rfl⟩:=gV h;obtain⟨vs,ws,e1,e2,e3⟩:=ih h1;refine⟨.string a :: vs,.string b :: ws,by simp only[erL,er,er1,ek,e1,Option.map_some],by simp only[erL,er,er1,ek,e2,Option.map_some],?_⟩;simp only[eI,e3,Option.map_some];rfl
        | _=>simp[X.eqAll] at h
       | _=>simp[X.eqAll] at h
     | _=>cases f<;>simp[X.eqAll] at h
    | _=>cases f<;>simp[X.eqAll] at h
theorem D8{f:Opd→XM den Option Y (XV den)}{g:Opd→SP β}{e:XV den→β}(h:∀x,Sim (f x) (g x) e):∀l:List Opd,Sim (X.mapM' f l) (Lv g l) (List.map e):=by
 intro l
 induction l with
 | nil=>exact .ret rfl
 | cons x l ih=>exact (h x).bind fun y=>ih.bind fun l'=>.ret rfl
def MR(x:XV den):Value:=match x with | .d (.int k) n=>.int k n | _=>undef
theorem GH(t:XV den):Sim (Y:=Y) (X.intOf dE t) (sx (er t)) MR:=by
 cases t with
 | d t x=>cases t with
  | int k=>exact .ret rfl
  | _=>exact .fail
 | _=>exact .fail
theorem Jz{mx:Bool}{k:IntKind}:∀{r:List (XV den)}{a m:Int},X.mmAll dE mx k a r=some m→tN mx k a (r.map MR)=some m:=by
 intro r
 induction r with
 | nil=>intro a m h;exact h
 | cons x r ih=>
  intro a m h
  cases x with
  | d t b=>cases t with
   | int k'=>
    simp only[X.mmAll] at h;split at h
    ·rename_i hk;subst hk;have:=ih h;simp only[List.map_cons,MR,tN,if_true];exact this
    ·simp at h
   | _=>simp[X.mmAll] at h
  | _=>simp[X.mmAll] at h
theorem GN(t:XV den):Sim (Y:=Y) (X.capOf dE t) (match er t with | .ptr p vs=>.ret (.ptr p vs) | .v x=>.ret (.v x) | .sl c=>.ret (.sl c) | _=>.fail) er:=by
 have gen:Sim (Y:=Y) (if X.okCellX t && !X.isOwX t then X.ret t else X.fail dE) (match er t with | .ptr p vs=>.ret (.ptr p vs) | .v x=>.ret (.v x) | .sl c=>.ret (.sl c) | _=>.fail) er:=by
  refine Sim.ite (fun h=>?_) fun _=>.fail;simp only[Bool.and_eq_true,Bool.not_eq_true'] at h;rcases oW h.1 h.2 with ⟨y,hy⟩ | ⟨c,hc⟩
  ·rw[hy];exact .ret hy
  ·rw[hc];exact .ret hc
 cases t with
 | ptr p vs=>exact .ret rfl
 | _=>exact gen
theorem JE:∀{t:CT}{l r:List (XV den)}{x:den t},X.joinX dE t l=some (x,r)→erL l=enc t x++erL r:=by
 have one:∀{u:CT} (hu:X.oneT u=true) {l r:List (XV den)} {x:den u},X.joinC dE u l=some (x,r)→erL l=enc u x++erL r:=by
  intro u hu l r x h;unfold X.joinC at h;split at h
  ·rename_i t y r';obtain⟨z,h1,h2⟩:=gV h
   injection h2 with h2 h3
   subst h2;subst h3;rw[qY hu,EM h1];rfl
  ·simp at h
 intro t
 induction t with
 | pair a b iha ihb=>
  intro l r x h;simp only[X.joinX] at h;split at h
  ·rename_i x1 r1 h1;split at h
   ·rename_i y1 r2 h2
    injection h with h
    injection h with h h3
    subst h;subst h3;rw[iha h1,ihb h2,← List.append_assoc];rfl
   ·simp at h
  ·simp at h
 | nat=>intro l r x h;simp[X.joinX] at h
 | int k=>intro l r x h;exact one rfl h
 | bool=>intro l r x h;exact one rfl h
 | str=>intro l r x h;exact one rfl h
 | row o t=>intro l r x h;exact one rfl h
 | nilr o=>intro l r x h;exact one rfl h
theorem yb{t:CT}{l:List (XV den)}{x:den t}(h:X.joinOne dE t l=some x):erL l=enc t x:=by
 unfold X.joinOne at h;split at h
 ·rename_i y h1
  injection h with h
  subst h;rw[JE h1];simp[erL]
 ·simp at h
theorem FI{t:CT}:∀{ls:List (List (XV den))}{xs:List (den t)},X.joinAll dE t ls=some xs→ls.map erL=xs.map (enc t):=by
 intro ls
 induction ls with
 | nil=>intro xs h;simp only[X.joinAll,oSJ] at h;subst h;rfl
 | cons l ls ih=>
  intro xs h;simp only[X.joinAll] at h;split at h
  ·rename_i x xs' h1 h2
   injection h with h
   subst h;simp only[List.map_cons];rw[yb h1,ih h2]
  ·simp at h
theorem Jd{hint:Option CT}{ls:List (List (XV den))}{v:XV den}(h:X.rowOf dE hint ls=some v):er v=.ow (ls.map erL):=by
 unfold X.rowOf at h;split at h
 ·injection h with h;subst h;rfl
 ·split at h
  ·obtain⟨es,h1,rfl⟩:=gV h;rw[FI h1];rfl
  ·simp at h
theorem Jf{hint:Option CT}{n:Nat}{l:List (XV den)}{v:XV den}(h:X.repOf dE hint n l=some v):er v=.ow (List.replicate n (erL l)):=by
 unfold X.repOf at h;split at h
 ·obtain⟨e,h1,rfl⟩:=gV h;rw[yb h1];show TV.ow (List.map _ (List.replicate n e))=_;rw[List.map_replicate]
 ·simp at h
theorem ra(t:CT) (xs:List (den t)):(List.map (enc t) xs).all (fun e=>e.length==jS t)=true:=by
 rw[List.all_map,List.all_eq_true];intro x _;simp[fj]
theorem J7{sz bytes:Nat}{c c2:List (List TV)}(h1:c.all (fun e=>e.length==sz)=true) (h2:c2.all (fun e=>e.length==sz)=true) (h:dU bytes c.length c2.length=true) :
 ((c++c2).all (fun e=>e.length==sz) && decide (c.length+c2.length≤1099511627776) && decide ((c.length+c2.length)*bytes≤140737488355328))=true:=by
 rw[List.all_append,h1,h2];simpa [dU] using h
theorem Ki(d sz bytes:Nat) (hint:Option CT) (s x:XV den):Sim (Y:=Y) (X.appX dE d sz bytes hint s x) (match er s,er x with
 | .ow c,.ow c2=>if (c++c2).all (fun e=>e.length==sz) && decide (c.length+c2.length≤1099511627776) && decide ((c.length+c2.length)*bytes≤140737488355328) then inst d false [.ow (c++c2)] else .fail
 | .ow c,.sl c2=>if (c++c2).all (fun e=>e.length==sz) && decide (c.length+c2.length≤1099511627776) && decide ((c.length+c2.length)*bytes≤140737488355328) then inst d false [.ow (c++c2)] else .fail
 | _,_=>.fail) id:=by
 have key:∀{t:CT} {c c3:List (den t)} {c' c2':List (List TV)} {a:XV den},jS t=sz∨(c'=[]∧c2'=[])→c'=c.map (enc t)→c2'=c3.map (enc t)→er a=.ow (c'++c2')→dU bytes c'.length c2'.length=true →
  Sim (Y:=Y) (X.inst dE d false [a]) (if (c'++c2').all (fun e=>e.length==sz) && decide (c'.length+c2'.length≤1099511627776) && decide ((c'.length+c2'.length)*bytes≤140737488355328) then inst d false [.ow (c'++c2')] else .fail) id:=by
  intro t c c3 c' c2' a hsz e1 e2 ea hok;rw[if_pos]
  ·exact kv d false (by simp only[erL,ea])
  ·refine J7 ?_ ?_ hok
   ·rcases hsz with hsz | ⟨h1,h2⟩
    ·rw[e1,← hsz];exact ra t c
    ·rw[h1];rfl
   ·rcases hsz with hsz | ⟨h1,h2⟩
    ·rw[e2,← hsz];exact ra t c3
    ·rw[h2];rfl
 cases s with
 | d ts c=>cases ts with
  | row ow t=>cases ow with
   | false=>exact .fail
   | true=>cases x with
    | d tx c2=>cases tx with
     | row o t2=>
      refine Sim.ite (fun hsz=>Sim.opt fun c3 h3=>Sim.br fun hok=>?_) fun _=>.fail;have h4:=DR h3;have hok:dU bytes (List.length c) (List.length c2)=true:=hok
      have h5:List.map (enc t2) (c2:List (den t2))=List.map (enc t) (c3:List (den t)):=by
       cases o with
       | true=>
        have h6:[TV.ow (List.map (enc t) (c3:List (den t)))]=[TV.ow (List.map (enc t2) (c2:List (den t2)))]:=h4
        injection h6 with h6
        injection h6 with h6
        exact h6.symm
       | false=>
        have h6:[TV.sl (List.map (enc t) (c3:List (den t)))]=[TV.sl (List.map (enc t2) (c2:List (den t2)))]:=h4
        injection h6 with h6
        injection h6 with h6
        exact h6.symm
      cases o<;>exact key (t:=t) (c:=c) (c3:=c3) (.inl hsz) rfl h5 (by show TV.ow (List.map (enc t) (List.append c c3))=_;rw[h5,← List.map_append];rfl) (by simpa using hok)
     | nilr o=>
      refine Sim.ite (fun hsz=>Sim.br fun hok=>?_) fun _=>.fail;have hok:dU bytes (List.length c) 0=true:=hok;cases o<;>exact key (t:=t) (c:=c) (c3:=[]) (.inl hsz) rfl rfl (by simp[er,er1]) (by simpa using hok)
     | _=>exact .fail
    | _=>exact .fail
  | nilr ow=>cases ow with
   | false=>exact .fail
   | true=>cases x with
    | d tx c2=>cases tx with
     | row o t2=>
      refine Sim.ite (fun hsz=>Sim.opt fun c3 h3=>Sim.br fun hok=>?_) fun _=>.fail;have h4:=DR h3;have hok:dU bytes 0 (List.length c2)=true:=hok
      have h5:List.map (enc t2) (c2:List (den t2))=List.map (enc (X.resT hint t2)) (c3:List (den (X.resT hint t2))):=by
       cases o with
       | true=>
        have h6:[TV.ow (List.map (enc (X.resT hint t2)) (c3:List (den (X.resT hint t2))))]=[TV.ow (List.map (enc t2) (c2:List (den t2)))]:=h4
        injection h6 with h6
        injection h6 with h6
        exact h6.symm
       | false=>
        have h6:[TV.sl (List.map (enc (X.resT hint t2)) (c3:List (den (X.resT hint t2))))]=[TV.sl (List.map (enc t2) (c2:List (den t2)))]:=h4
        injection h6 with h6
        injection h6 with h6
        exact h6.symm
      cases o<;>exact key (t:=t2) (c:=[]) (c3:=c2) (.inl hsz) rfl rfl (by show TV.ow (List.map (enc (X.resT hint t2)) (List.append [] c3))=_;rw[h5];rfl) (by simpa using hok)
     | nilr o=>
      refine Sim.br fun hok=>?_;have hok:dU bytes 0 0=true:=hok;cases o<;>exact key (t:=.bool) (c:=[]) (c3:=[]) (.inr ⟨rfl,rfl⟩) rfl rfl rfl hok
     | _=>exact .fail
    | _=>exact .fail
  | _=>exact .fail
 | _=>exact .fail
end
section
variable {α β γ δ Y:Type}
theorem uB{x:Opd}{σ:XS den}{k:XV den→XS den→Option Y}{y:Y}(h:X.opd dE x σ k=some y):∃t σ',(opd x).run (erS σ)=some (er t,erS σ)∧erS σ'=erS σ∧ms σ σ' ((opd x).foot (erS σ))∧k t σ'=some y:=by
 obtain⟨t,σ',h1,h2,h3⟩:=sH x σ k y h
 have e:erS σ'=erS σ:=by
  cases x with
  | t i=>simp only[opd,SP.run,oSJ,oPJ] at h1;exact h1.2.symm
  | c v=>simp only[opd,SP.run,oSJ,oPJ] at h1;exact h1.2.symm
  | f f=>simp only[opd,SP.run,oSJ,oPJ] at h1;exact h1.2.symm
 rw[e] at h1;exact⟨t,σ',h1,e,h2,h3⟩
theorem uF{t:CT}(h:X.flat1 t=true):∀x:den t,∃v,er (.d t x)=.v v:=by
 cases t<;>simp[X.flat1] at h
 ·exact fun x=>⟨_,rfl⟩
 ·exact fun x=>⟨_,rfl⟩
 ·exact fun x=>⟨_,rfl⟩
theorem Jo{d:Nat}{tc ta tb:XV den}{σ:XS den}{k:Unit→XS den→Option Y}{y:Y}(h:X.pickX dE d tc ta tb σ k=some y):∃c v t,er tc=.v (.bool c)∧er (if c then ta else tb)=.v v∧er t=.v v∧X.wr dE d t σ k=some y:=by
 unfold X.pickX at h;split at h
 ·rename_i c k1 x k2 z;split at h
  ·rename_i hk;subst hk;refine⟨c,.int k2 (bif c then x else z),_,rfl,?_,rfl,h⟩;cases c<;>rfl
  ·cases h
 ·rename_i c x z;refine⟨c,.bool (bif c then x else z),_,rfl,?_,rfl,h⟩;cases c<;>rfl
 ·rename_i c x z;refine⟨c,.string (bif c then x else z),_,rfl,?_,rfl,h⟩;cases c<;>rfl
 ·split at h
  ·rename_i hf
   rename den .bool=>c
   cases c with
   | true=>exact⟨true,_,_,rfl,(uF hf _).choose_spec,(uF hf _).choose_spec,h⟩
   | false=>cases h
  ·cases h
 ·split at h
  ·rename_i hf
   rename den .bool=>c
   cases c with
   | false=>exact⟨false,_,_,rfl,(uF hf _).choose_spec,(uF hf _).choose_spec,h⟩
   | true=>cases h
  ·cases h
 ·cases h
theorem KD(HT:List (Nat×CT)) (d:Nat) (c a b:Opd):Sim (Y:=Y) (X.ev1 dE HT d (.pick c a b)) (ev1 d (.pick c a b)) id:=by
 intro σ k y hk;obtain⟨tc,σ1,r1,e1,n1,hk⟩:=uB (show X.opd dE c σ (fun tc σ1=>X.opd dE a σ1 fun ta σ2=>X.opd dE b σ2 fun tb σ3=>X.pickX dE d tc ta tb σ3 k)=some y from hk);obtain⟨ta,σ2,r2,e2,n2,hk⟩:=uB hk;obtain⟨tb,σ3,r3,e3,n3,hk⟩:=uB hk;obtain⟨cv,v,t,h1,h2,h3,hk⟩:=Jo hk;obtain⟨u,σ',r4,n4,hk⟩:=ew d h3 σ3 k y hk
 have e13:erS σ3=erS σ:=by rw[e3,e2,e1]
 have hx:(opd (if cv then a else b)).run (erS σ)=some (.v v,erS σ)∧ms σ1 σ3 ((opd (if cv then a else b)).foot (erS σ)):=by
  rw[e1] at r2 n2;rw[e2,e1] at r3 n3
  cases cv with
  | true=>exact⟨by simp only[if_true];rw[r2];simp only[if_true] at h2;rw[h2],⟨fun x hx=>n3.r0 x (n2.r x hx),fun x hx=>n3.w0 x (n2.w x hx),fun x hx=>n3.r0 x (n2.r0 x hx),fun x hx=>n3.w0 x (n2.w0 x hx)⟩⟩
  | false=>exact⟨by simp only[Bool.false_eq_true,if_false];rw[r3];simp only[Bool.false_eq_true,if_false] at h2;rw[h2],⟨fun x hx=>n3.r x hx,fun x hx=>n3.w x hx,fun x hx=>n3.r0 x (n2.r0 x hx),fun x hx=>n3.w0 x (n2.w0 x hx)⟩⟩
 obtain⟨hx1,hx2⟩:=hx
 have rc:(opd c).run (erS σ)=some (.v (.bool cv),erS σ):=by rw[r1,h1]
 refine⟨(),σ',?_,?_,hk⟩
 ·simp only[ev1];rw[SP.run_bind,rc];simp only[oBS];rw[SP.run_bind,hx1];simp only[oBS];rw[e13] at r4;exact r4
 ·simp only[ev1];rw[SP.foot_bind _ _ rc];simp only;rw[SP.foot_bind _ _ hx1];rw[e13] at n4;refine⟨fun x hx=>?_,fun x hx=>?_,fun x hx=>n4.r0 x (hx2.r0 x (n1.r0 x hx)),fun x hx=>n4.w0 x (hx2.w0 x (n1.w0 x hx))⟩
  ·rcases List.mem_append.1 hx with hx | hx
   ·exact n4.r0 x (hx2.r0 x (n1.r x hx))
   ·rcases List.mem_append.1 hx with hx | hx
    ·exact n4.r0 x (hx2.r x hx)
    ·exact n4.r x hx
  ·rcases List.mem_append.1 hx with hx | hx
   ·exact n4.w0 x (hx2.w0 x (n1.w x hx))
   ·rcases List.mem_append.1 hx with hx | hx
    ·exact n4.w0 x (hx2.w x hx)
    ·exact n4.w x hx
theorem HI{n:Option Nat}{cs:List (XV den)}{t:XV den}(h:X.loadIp n cs=some t):loadIp n (erL cs)=some (er t):=by
 cases n with
 | none=>
  cases cs with
  | nil=>simp[X.loadIp] at h
  | cons x cs=>
   simp only[X.loadIp] at h;split at h
   ·rename_i hc
    injection h with h
    subst h;simp only[Bool.and_eq_true,Bool.not_eq_true'] at hc;rcases oW hc.1 hc.2 with ⟨y,hy⟩ | ⟨c,hc⟩
    ·simp only[loadIp,erL,hy]
    ·simp only[loadIp,erL,hc]
   ·simp at h
 | some n=>
  simp only[X.loadIp] at h;split at h
  ·rename_i hc
   injection h with h
   subst h;simp only[Bool.and_eq_true,decide_eq_true_eq] at hc;simp only[loadIp];rw[if_pos]
   ·simp only[er,pW]
   ·simp only[Bool.and_eq_true,decide_eq_true_eq];refine⟨by rw[fH];exact hc.1,?_⟩;rw[← pW,jV,List.all_map,List.all_eq_true];intro x hx;have:=List.all_eq_true.1 hc.2 x hx;simp only[Bool.and_eq_true,Bool.not_eq_true'] at this;simp only[Function.comp_apply];rcases oW this.1 this.2 with ⟨y,hy⟩ | ⟨c,hc⟩
    ·rw[hy]
    ·rw[hc]
  ·simp at h
theorem vK:∀{t:CT}(x:den t),X.flatT t=true→∃vs,ek (enc t x)=some vs∧vs.length=jS t∧(vs.all gU=true)∧enc t x=vs.map TV.v∧0 < jS t:=by
 intro t
 induction t with
 | int k=>intro x _;exact⟨[.int k x],rfl,rfl,rfl,rfl,Nat.one_pos⟩
 | bool=>intro x _;exact⟨[.bool x],rfl,rfl,rfl,rfl,by decide⟩
 | str=>intro x _;exact⟨[.string x],rfl,rfl,rfl,rfl,by decide⟩
 | pair a b iha ihb=>
  intro x h;simp only[X.flatT,Bool.and_eq_true] at h;obtain⟨vs,e1,e2,e3,e4,e5⟩:=iha x.1 h.1;obtain⟨ws,f1,f2,f3,f4,f5⟩:=ihb x.2 h.2;refine⟨vs++ws,?_,by simp[e2,f2,jS],by simp[e3,f3],by show enc a x.1++enc b x.2=_;rw[e4,f4];simp,by simp only[jS];omega⟩;show ek (enc a x.1++enc b x.2)=_;rw[e4,f4]
  have:∀l:List Value,ek (l.map TV.v)=some l:=by
   intro l
   induction l with
   | nil=>rfl
   | cons y l ih=>simp[ek,ih]
  rw[← List.map_append,this]
 | _=>intro x h;simp[X.flatT] at h
theorem Hv(sz:Nat) (h0:0 < sz):∀(vs:List Value) (c:List (List TV)) (lo j:Nat) (rest:List Value),j+vs.length=sz→(∀el,c[lo]?=some el→el.length=sz)→nu sz c (lo*sz+j) (vs++rest)=nu sz (c.modify lo fun el=>el.take j++vs.map TV.v) ((lo+1)*sz) rest:=by
 intro vs
 induction vs with
 | nil=>
  intro c lo j rest hj hel
  have hj:j=sz:=by simpa using hj
  subst hj;simp only[List.nil_append,List.map_nil,List.append_nil]
  have e:(c.modify lo fun el=>el.take j)=c:=by
   apply List.ext_getElem?;intro i;rw[List.getElem?_modify];by_cases h:lo=i
   ·subst h
    cases hc:c[lo]? with
    | none=>rfl
    | some el=>simp only[if_true];show some (el.take j)=some el;rw[List.take_of_length_le (by rw[hel el hc];exact Nat.le_refl _)]
   ·simp only[if_neg h];cases c[i]?<;>rfl
  rw[e,Nat.succ_mul]
 | cons v vs ih=>
  intro c lo j rest hj hel;simp only[List.length_cons] at hj
  have hjs:j < sz:=by omega
  show nu sz (c.modify ((lo*sz+j) / sz) fun el=>el.modify ((lo*sz+j) % sz) fun _=>.v v) (lo*sz+j+1) (vs++rest)=_
  have e1:(lo*sz+j) / sz=lo:=by rw[Nat.mul_comm,Nat.mul_add_div h0,Nat.div_eq_of_lt hjs];rfl
  have e2:(lo*sz+j) % sz=j:=by rw[Nat.mul_comm,Nat.mul_add_mod,Nat.mod_eq_of_lt hjs]
  rw[e1,e2,show lo*sz+j+1=lo*sz+(j+1) by omega]
  have hel':∀el,(c.modify lo fun el=>el.modify j fun _=>.v v)[lo]?=some el→el.length=sz:=by
   intro el h;rw[List.getElem?_modify] at h
   cases hc:c[lo]? with
   | none=>rw[hc] at h;simp at h
   | some el0=>
    rw[hc] at h;simp only[if_true,Option.map_eq_map,Option.map_some,oSJ] at h;rw[← h,List.length_modify];exact hel el0 hc
  rw[ih _ lo (j+1) rest (by omega) hel'];congr 1;apply List.ext_getElem?;intro i;simp only[List.getElem?_modify];by_cases h:lo=i
  ·subst h;simp only[if_true]
   cases hc:c[lo]? with
   | none=>rfl
   | some el=>
    simp only[Option.map_eq_map,Option.map_some,oSJ];have hl:=hel el hc;apply List.ext_getElem?;intro m;simp only[List.map_cons];by_cases hm:m < j
    ·rw[List.getElem?_append_left (by rw[List.length_take,List.length_modify];omega),List.getElem?_append_left (by rw[List.length_take];omega),List.getElem?_take,List.getElem?_take,if_pos (by omega),if_pos (by omega),List.getElem?_modify]
     have:¬ j=m:=by omega
     simp only[this,if_false];simp
    ·by_cases hm2:m=j
     ·subst hm2;rw[List.getElem?_append_left (by rw[List.length_take,List.length_modify];omega),List.getElem?_append_right (by rw[List.length_take];omega),List.getElem?_take,if_pos (by omega),List.getElem?_modify,List.length_take]
      have:m - min m el.length=0:=by omega
      rw[this]
      have h3:m < el.length:=by omega
      rw[oGE h3];simp
     ·rw[List.getElem?_append_right (by rw[List.length_take,List.length_modify];omega),List.getElem?_append_right (by rw[List.length_take];omega),List.length_take,List.length_take,List.length_modify]
      have:m - min j el.length=(m - min (j+1) el.length)+1:=by omega
      rw[this,List.getElem?_cons_succ]
  ·simp only[if_neg h];cases c[i]?<;>rfl
theorem Fr{t:CT}(hf:X.flatT t=true):∀(ys xs:List (den t)) (lo:Nat) (vals:List Value),ek ((ys.map (enc t)).flatten)=some vals→lo+ys.length≤xs.length→nu (jS t) (xs.map (enc t)) (lo*jS t) vals=(xs.take lo++ys++xs.drop (lo+ys.length)).map (enc t):=by
 intro ys
 induction ys with
 | nil=>
  intro xs lo vals h hl;simp only[List.map_nil,List.flatten_nil,ek,oSJ] at h;subst h;simp[nu]
 | cons y ys ih=>
  intro xs lo vals h hl;simp only[List.length_cons] at hl;obtain⟨vs,e1,e2,e3,e4,e5⟩:=vK y hf
  obtain⟨ws,h2,rfl⟩:∃ws,ek ((ys.map (enc t)).flatten)=some ws∧vals=vs++ws:=by
   simp only[List.map_cons,List.flatten_cons,e4] at h
   have:∀(l:List Value) (r:List TV),ek (l.map TV.v++r)=(ek r).map (l++·):=by
    intro l r
    induction l with
    | nil=>simp
    | cons z l ih=>simp only[List.map_cons,List.cons_append,ek,ih];cases ek r<;>rfl
   rw[this] at h;obtain⟨ws,h3,h4⟩:=gV h;exact⟨ws,h3,h4.symm⟩
  have:=Hv (jS t) e5 vs (xs.map (enc t)) lo 0 ws (by omega) (fun el hel=>by
   rw[List.getElem?_map] at hel
   cases hx:xs[lo]? with
   | none=>rw[hx] at hel;simp at hel
   | some z=>rw[hx] at hel;simp only[Option.map_some,oSJ] at hel;rw[← hel,fj])
  rw[Nat.add_zero] at this;rw[this]
  have e6:((xs.map (enc t)).modify lo fun el=>el.take 0++vs.map TV.v)=(xs.set lo y).map (enc t):=by
   apply List.ext_getElem?;intro i;simp only[List.getElem?_modify,List.getElem?_map,List.getElem?_set];by_cases hi:lo=i
   ·subst hi
    have hlt:lo < xs.length:=by omega
    simp[hlt,e4]
   ·simp[hi]
  rw[e6,ih (xs.set lo y) (lo+1) ws h2 (by rw[List.length_set];omega)];congr 1;rw[List.take_set,List.drop_set,if_pos (by omega)]
  have:(xs.take (lo+1)).set lo y=xs.take lo++[y]:=by
   rw[List.take_succ_eq_append_getElem (by omega:lo < xs.length),List.set_append_right _ _ (by rw[List.length_take];omega)];congr 1
   have:lo - (xs.take lo).length=0:=by rw[List.length_take];omega
   rw[this];rfl
  rw[this];simp only[List.length_cons,List.append_assoc,List.cons_append,List.nil_append];rw[show lo+1+ys.length=lo+(ys.length+1) by omega]
end
section
variable {α β γ δ Y:Type}
theorem Sim.fork{c:Bool}{m m':XM den Option Y α}{s:SP β}{f:α→β}(h:c=true→Sim m s f) (h':c=false→Sim m' s f):Sim (X.forkM dE c m m') s f:=by
 intro σ k y hk
 cases c with
 | true=>exact h rfl σ k y hk
 | false=>exact h' rfl σ k y hk
def FY(v:XV den):List (List TV):=match er v with | .sl c=>c | .ow c=>c | _=>[]
theorem xG(t:XV den):Sim (Y:=Y) (X.contentOf dE t) (contentOf (er t)) FY:=by
 cases t with
 | d t x=>cases t with
  | row o t=>cases o with
   | false=>exact .ret rfl
   | true=>exact .fail
  | nilr o=>cases o<;>exact .ret rfl
  | _=>exact .fail
 | pk p vs=>
  refine (fJ p _ vs).bind fun _=>(jG p).bind fun t=>?_
  cases t with
  | d t x=>cases t with
   | row o t=>cases o with
    | true=>exact .ret rfl
    | false=>exact .fail
   | nilr o=>cases o with
    | true=>exact .ret rfl
    | false=>exact .fail
   | _=>exact .fail
  | _=>exact .fail
 | pw p vs sz lo n=>
  refine (fJ p _ vs).bind fun _=>(jG p).bind fun t=>?_
  cases t with
  | d t x=>cases t with
   | row o t=>cases o with
    | true=>
     refine .ret ?_;show List.map (enc t) ((List.drop lo x).take n)=((List.map (enc t) x).drop lo).take n;rw[List.map_take,List.map_drop]
    | false=>exact .fail
   | _=>exact .fail
  | _=>exact .fail
 | _=>exact .fail
theorem Ha{t:CT}(hf:X.flatT t=true):∀zs:List (den t),∃vals,ek ((zs.map (enc t)).flatten)=some vals∧vals.all gU=true∧(zs≠[]→∃v vs,vals=v :: vs)∧(zs=[]→vals=[]):=by
 intro zs
 induction zs with
 | nil=>exact⟨[],rfl,rfl,fun h=>absurd rfl h,fun _=>rfl⟩
 | cons z zs ih=>
  obtain⟨ws,h1,h2,_⟩:=ih;obtain⟨vs,e1,e2,e3,e4,e5⟩:=vK z hf
  have:∀(l:List Value) (r:List TV),ek (l.map TV.v++r)=(ek r).map (l++·):=by
   intro l r
   induction l with
   | nil=>simp
   | cons z l ih=>simp only[List.map_cons,List.cons_append,ek,ih];cases ek r<;>rfl
  refine⟨vs++ws,?_,by simp[e3,h2],fun _=>?_,fun h=>by simp at h⟩
  ·rw[List.map_cons,List.flatten_cons,e4,this,h1];rfl
  ·cases vs with
   | nil=>simp at e2;omega
   | cons v vs=>exact⟨v,vs++ws,rfl⟩
theorem HQ{t:CT}(hf:X.flatT t=true) (x:den t):(enc t x).all isV=true:=by
 obtain⟨vs,_,_,_,e4,_⟩:=vK x hf;rw[e4,List.all_map,List.all_eq_true];intro y _;rfl
theorem If{t:CT}(hf:X.flatT t=true) (xs ys:List (den t)) (lo n:Nat) (hle:lo+min ys.length n≤xs.length) :
 J0 (jS t) (xs.map (enc t)) (ys.map (enc t)) lo n=if 0 < min ys.length n then some (min ys.length n,some ((nR xs lo (min ys.length n) ys).map (enc t))) else some (min ys.length n,none):=by
 obtain⟨vals,h1,h2,h3,h4⟩:=Ha hf (ys.take (min ys.length n))
 have e5:0 < jS t:=by
  clear h1 h2 h3 h4 hle
  induction t with
  | pair a b iha ihb=>
   simp only[X.flatT,Bool.and_eq_true] at hf;simp only[jS];have:=iha hf.1 [] [];omega
  | int k=>exact Nat.one_pos
  | bool=>exact Nat.one_pos
  | str=>exact Nat.one_pos
  | _=>simp[X.flatT] at hf
 unfold J0;rw[List.length_map,← List.map_take,h1];by_cases hm:0 < min ys.length n
 ·rw[if_pos hm];obtain⟨v,vs,hv⟩:=h3 (by intro h;have:=congrArg List.length h;rw[List.length_take,List.length_nil] at this;omega);rw[hv];simp only;rw[if_pos,← hv]
  ·have hp:=Fr hf (ys.take (min ys.length n)) xs lo vals h1 (by rw[List.length_take];omega);rw[hp]
   have e:(List.take (min ys.length n) ys).length=min ys.length n:=by rw[List.length_take];omega
   rw[e];rfl
  ·simp only[Bool.and_eq_true,decide_eq_true_eq];refine⟨⟨⟨⟨⟨e5,ra t xs⟩,ra t ys⟩,by rw[List.length_map];exact hle⟩,?_⟩,by rw[← hv];exact h2⟩;rw[← List.map_drop,← List.map_take,List.all_map,List.all_eq_true];intro x _;exact HQ hf x
 ·rw[if_neg hm]
  have:ys.take (min ys.length n)=[]:=by
   have:min ys.length n=0:=by omega
   rw[this];rfl
  rw[h4 this];simp only;rw[if_pos];simp only[Bool.and_eq_true,decide_eq_true_eq];exact⟨e5,ra t ys⟩
theorem Kh(d sz:Nat) (p:XP den) (lo:Nat) (n:Option Nat) (tv c2:XV den):Sim (Y:=Y) (X.cpyX dE d sz p lo n tv c2) (match d7 (er tv) p.hops with | some (.ow c)=>Al d (erP p) (er tv) (J0 sz c (FY c2) lo (n.getD c.length)) | _=>.fail) id:=by
 refine ux fun v hv=>?_;rw[hv]
 cases v with
 | d tt x=>cases tt with
  | row o t=>cases o with
   | false=>exact .fail
   | true=>cases c2 with
    | d t2 y=>cases t2 with
     | row o2 t2=>
      by_cases hc:qa t2 t=true∧jS t=sz∧X.flatT t=true
      ·have he:=rN hc.1;subst he;have e0:X.cpyX (X:=Y) dE d sz p lo n=X.cpyX dE d sz p lo n:=rfl;show Sim (if h:qa t2 t2=true∧jS t2=sz∧X.flatT t2=true then _ else _) _ id;rw[dif_pos hc];refine Sim.opt fun tv' htv=>Sim.br fun hok=>?_
       have hok:ji lo (lo+min (List.length (y:List (den t2))) (n.getD (List.length (x:List (den t2))))) (List.length (x:List (den t2)))=true:=by
        have h9:=hok;cases n<;>exact h9
       have hle:lo+min (List.length (y:List (den t2))) (n.getD (List.length (x:List (den t2))))≤List.length (x:List (den t2)):=by
        simp only[ji,Bool.and_eq_true,decide_eq_true_eq] at hok;exact hok.2
       have hct:FY (.d (.row o2 t2) y:XV den)=List.map (enc t2) (y:List (den t2)):=by cases o2<;>rfl
       have hrow:er (.d (.row true t2) x:XV den)=.ow (List.map (enc t2) (x:List (den t2))):=rfl;rw[hrow,hct];simp only[List.length_map];rw[← hc.2.1,If hc.2.2 x y lo _ hle];have hset:=K9 htv;refine Sim.fork (fun hb=>?_) fun hb=>?_
       ·have hb:Nat.blt 0 (min (List.length (y:List (den t2))) (n.getD (List.length (x:List (den t2)))))=true:=by cases n<;>exact hb
        rw[if_pos (by simpa using hb)];refine Sim.wrC ?_ (ew d ?_)
        ·rw[hset];cases n<;>rfl
        ·cases n<;>rfl
       ·have hb:Nat.blt 0 (min (List.length (y:List (den t2))) (n.getD (List.length (x:List (den t2)))))=false:=by cases n<;>exact hb
        rw[if_neg (by intro h;rw[Bool.eq_false_iff] at hb;exact hb (by simpa using h))];refine ew d ?_;cases n<;>rfl
      ·show Sim (if h:qa t2 t=true∧jS t=sz∧X.flatT t=true then _ else _) _ id;rw[dif_neg hc];exact .fail
     | nilr o2=>
      refine Sim.ite (fun h0=>?_) fun _=>.fail
      have hct:FY (.d (.nilr o2) y:XV den)=[]:=by cases o2<;>rfl
      have hrow:er (.d (.row true t) x:XV den)=.ow (List.map (enc t) (x:List (den t))):=rfl;rw[hrow,hct]
      have:J0 sz (List.map (enc t) (x:List (den t))) [] lo (n.getD (List.map (enc t) (x:List (den t))).length)=some (0,none):=by
       simp[J0,ek,h0]
      simp only[this];exact ew d rfl
     | _=>exact .fail
    | _=>exact .fail
  | _=>exact .fail
 | _=>exact .fail
end
section
variable {α β γ δ Y:Type}
theorem Sim.thenOpd{x:Opd}{g:XV den→XM den Option Y γ}{h:TV→SP δ}{f:γ→δ}(H:∀t,Sim (g t) (h (er t)) f):Sim (X.bind (X.opd dE x) g) ((opd x).bind h) f:=(sH x).bind H
theorem GM(k:Nat) {s:SP β}{f:α→β}:∀(n:Nat) (g:Nat→XM den Option Y α) (i:Nat),(∀j,i≤j→j < i+n→k=j→Sim (g j) s f)→Sim (X.caseM dE k n g i) s f:=by
 intro n
 induction n with
 | zero=>intro g i _;exact .fail
 | succ n ih=>
  intro g i h;refine Sim.fork (fun hb=>h i (Nat.le_refl _) (by omega) ?_) fun hb=>ih g (i+1) fun j h1 h2 h3=>h j (by omega) (by omega) h3;have hb:Nat.beq k i=true:=hb;exact Nat.eq_of_beq_eq_true hb
theorem Mb(HT:List (Nat×CT)) (d:Nat) (op:TOp):Sim (Y:=Y) (X.ev1 dE HT d op) (ev1 d op) id:=by
 cases op with
 | mov x=>
  refine Sim.thenOpd fun t=>?_
  cases t with
  | d t y=>
   cases ho:X.isOwT t with
   | true=>
    obtain⟨c,hc⟩:=mU (v:=.d t y) ho;rw[hc];show Sim (if X.isOwT t then _ else _) _ id;rw[if_pos ho]
    cases x with
    | c v=>exact kv d false (by simp only[erL,hc])
    | _=>exact .fail
   | false=>
    show Sim (if X.isOwT t then _ else _) _ id;rw[if_neg (by rw[ho];simp)]
    have h1:mu (er (.d t y))=false:=by rw[pU];exact ho
    cases t with
    | row o t=>cases o<;>first | exact ew d rfl | simp[X.isOwT] at ho
    | nilr o=>cases o<;>first | exact ew d rfl | simp[X.isOwT] at ho
    | _=>exact ew d rfl
  | agg l=>
   show Sim (if l.any X.isOwX then _ else _) (if (erL l).any mu then .fail else wr d (.agg (erL l))) id;rw[Kz];refine Sim.ite (fun _=>.fail) fun h=>?_;rw[if_neg h];exact ew d rfl
  | gap=>exact .fail
  | _=>exact ew d rfl
 | asn mv x=>
  refine Sim.thenOpd fun t=>?_
  cases t with
  | ptr p vs=>exact ew d rfl
  | ip cs=>exact ew d rfl
  | fn f cap=>exact ew d rfl
  | d t y=>
   cases t with
   | row o t=>cases o<;>exact (oS mv (.d _ y)).bind fun l=>kv d l.2 rfl
   | nilr o=>cases o<;>exact (oS mv (.d _ y)).bind fun l=>kv d l.2 rfl
   | _=>exact (oS mv (.d _ y)).bind fun l=>kv d l.2 rfl
  | _=>exact (oS mv _).bind fun l=>kv d l.2 rfl
 | pick c a b=>exact KD HT d c a b
 | alloc z=>
  refine Sim.ite (fun h=>?_) fun _=>.fail;show Sim _ (if (z.map fk).all eX then _ else _) id;rw[if_pos (sQ h)];exact Sim.new (uJ z) (Sim.rdV fun g=>ew d rfl)
 | box n mv x=>
  refine Sim.thenOpd fun t=>?_;rw[we];refine (oT mv _).bind fun l=>Sim.ite (fun h=>?_) fun _=>.fail;rw[if_pos (by rw[fH];exact h)];exact Sim.new rfl (Sim.rdV fun g=>ew d rfl)
 | load n a=>
  refine Sim.thenOpd fun t=>?_
  cases t with
  | ptr p vs=>
   refine (fJ p _ vs).bind fun _=>?_
   cases n with
   | none=>exact (GA p).bind fun t'=>ew d rfl
   | some n=>exact (AI p n).bind fun l=>ew d rfl
  | ip cs=>
   simp only[er]
   cases h:X.loadIp n cs with
   | none=>exact .fail
   | some t=>simp only[HI h];exact ew d rfl
  | _=>exact .fail
 | store n mv a x=>
  refine Sim.thenOpd fun ta=>?_
  cases ta with
  | ptr p vs=>
   refine Sim.thenOpd fun tx=>?_;rw[we];refine (oT mv _).bind fun l=>Sim.ite (fun h=>?_) fun _=>.fail;rw[if_pos (by rw[fH];exact h)];exact (fJ p _ vs).bind fun _=>D7 p l
  | _=>exact .fail
 | nilc x=>
  refine Sim.thenOpd fun t=>?_
  cases t with
  | ptr p vs=>exact (fJ p _ vs).bind fun _=>ew d rfl
  | ip cs=>exact ew d rfl
  | fn f cap=>exact ew d rfl
  | _=>exact .fail
 | fld off a=>
  refine Sim.thenOpd fun t=>?_
  cases t with
  | ptr p vs=>
   refine (fJ p _ vs).bind fun _=>Sim.ite (fun h=>?_) fun _=>.fail;rw[if_pos (by rw[← Ah];exact h)];exact ew d (by simp only[er,DC])
  | ip cs=>
   refine Sim.ite (fun h=>?_) fun _=>.fail;show Sim _ (if off < (erL cs).length then _ else _) id;rw[if_pos (by rw[fH];exact h)];exact ew d (by simp only[er,rM])
  | _=>exact .fail
 | fldv off n x=>
  refine Sim.thenOpd fun t=>?_
  cases t with
  | agg l=>
   cases n with
   | none=>
    refine Sim.ite (fun h=>?_) fun _=>.fail;show Sim _ (if off < (erL l).length then _ else _) id;rw[if_pos (by rw[fH];exact h)];exact ew d (uG l off)
   | some n=>
    refine Sim.ite (fun h=>?_) fun _=>.fail;show Sim _ (if off+n≤(erL l).length then _ else _) id;rw[if_pos (by rw[fH];exact h)];exact ew d (by simp only[er,pW,rM])
  | _=>exact .fail
 | idx sz x i=>
  refine Sim.thenOpd fun t=>Sim.thenOpd fun ti=>(ni ti).bind fun k=>?_
  cases t with
  | pk p vs=>
   refine (fJ p _ vs).bind fun _=>(D9 p).bind fun t=>?_
   cases t with
   | d tt x=>cases tt with
    | row o t=>cases o with
     | false=>exact .fail
     | true=>
      refine Sim.ite (fun h=>?_) fun _=>.fail;refine Sim.get fun e he=>?_
      have hk:k < (x:List (den t)).length:=by
       rcases Nat.lt_or_ge k (x:List (den t)).length with h | h
       ·exact h
       ·rw[List.getElem?_eq_none h] at he;cases he
      show Sim _ (if k < (List.map List.length (List.map (enc t) (x:List (den t)))).length && (List.map List.length (List.map (enc t) (x:List (den t)))).getD k 0==sz && decide (0 < sz) then _ else _) id;rw[vI,if_pos]
      ·exact ew d rfl
      ·simp only[Bool.and_eq_true,decide_eq_true_eq,beq_iff_eq,List.length_map];refine⟨⟨hk,?_⟩,h.2⟩;rw[List.getD_eq_getElem?_getD,List.getElem?_map,he];simp[fj,h.1]
    | _=>exact .fail
   | gap t x i' o'=>
    refine Sim.ite (fun h=>?_) fun _=>.fail;refine Sim.get fun e he=>?_
    have hk:k < (x:List (den t)).length:=by
     rcases Nat.lt_or_ge k (x:List (den t)).length with h | h
     ·exact h
     ·rw[List.getElem?_eq_none h] at he;cases he
    have hhd:(er (.gap t x i' o':XV den)).hd=some (List.map List.length (List.map (enc t) (x:List (den t)))):=vy (hs:=[(i',0,o')]) (by simp);rw[hhd];show Sim _ (if k < (List.map List.length (List.map (enc t) (x:List (den t)))).length && (List.map List.length (List.map (enc t) (x:List (den t)))).getD k 0==sz && decide (0 < sz) then _ else _) id;rw[vI,if_pos]
    ·exact ew d rfl
    ·simp only[Bool.and_eq_true,decide_eq_true_eq,beq_iff_eq,List.length_map];refine⟨⟨hk,?_⟩,h.2⟩;rw[List.getD_eq_getElem?_getD,List.getElem?_map,he];simp[fj,h.1]
   | _=>exact .fail
  | pw p vs sz' lo n=>
   refine (fJ p _ vs).bind fun _=>(jG p).bind fun t=>?_
   cases t with
   | d tt x=>cases tt with
    | row o t=>cases o with
     | false=>exact .fail
     | true=>
      refine Sim.ite (fun h=>?_) fun _=>.fail;refine Sim.br fun hb=>Sim.get fun e he=>?_;have hb:Nat.blt k n=true:=hb
      have hb:k < n:=by simpa using hb
      have he:(x:List (den t))[lo+k]?=some e:=he;show Sim _ (if k < n && ((List.map (enc t) (x:List (den t))).getD (lo+k) []).length==sz && sz'==sz && decide (0 < sz) then _ else _) id;rw[if_pos]
      ·exact ew d rfl
      ·simp only[Bool.and_eq_true,decide_eq_true_eq,beq_iff_eq];refine⟨⟨⟨hb,?_⟩,h.2.2⟩,h.2.1⟩;rw[List.getD_eq_getElem?_getD,List.getElem?_map,he];simp[fj,h.1]
    | _=>exact .fail
   | _=>exact .fail
  | d tt x=>cases tt with
   | row o t=>cases o with
    | true=>exact .fail
    | false=>
     refine Sim.ite (fun h=>?_) fun _=>.fail;refine Sim.get fun e he=>?_;have he:(x:List (den t))[k]?=some e:=he
     have hk:k < (x:List (den t)).length:=by
      rcases Nat.lt_or_ge k (x:List (den t)).length with h | h
      ·exact h
      ·rw[List.getElem?_eq_none h] at he;cases he
     have hg:(List.map (enc t) (x:List (den t))).getD k []=enc t e:=by
      rw[List.getD_eq_getElem?_getD,List.getElem?_map,he];rfl
     show Sim _ (if k < (List.map (enc t) (x:List (den t))).length && ((List.map (enc t) (x:List (den t))).getD k []).length==sz && decide (0 < sz) then wr d (.ip ((List.map (enc t) (x:List (den t))).getD k [])) else _) id;rw[hg,if_pos]
     ·exact ew d (by simp only[er,rl])
     ·simp only[Bool.and_eq_true,decide_eq_true_eq,beq_iff_eq,List.length_map];exact⟨⟨hk,by rw[fj];exact h.1⟩,h.2⟩
   | nilr o=>cases o<;>exact .fail
   | _=>exact .fail
  | _=>exact .fail
 | ext x i=>
  refine Sim.thenOpd fun t=>?_
  cases t with
  | tup l=>
   refine Sim.ite (fun h=>?_) fun _=>.fail;show Sim _ (if i < (erL l).length then _ else _) id;rw[if_pos (by rw[fH];exact h)];exact ew d (uG l i)
  | _=>exact .fail
 | bin op x y=>exact Sim.thenOpd fun a=>Sim.thenOpd fun b=>Mc d op a b
 | bnb neg x y=>
  refine Sim.thenOpd fun a=>Sim.thenOpd fun b=>?_
  cases a with
  | d t a=>cases t with
   | bool=>cases b with
    | d u b=>cases u with
     | bool=>
      show Sim _ (wr d (.v (.bool (if neg then !((a:Bool)==b) else (a:Bool)==b)))) id;refine ew d ?_;cases neg<;>rfl
     | _=>exact .fail
    | _=>exact .fail
   | _=>exact .fail
  | _=>exact .fail
 | eqa ks neg x y=>
  refine Sim.thenOpd fun a=>Sim.thenOpd fun b=>?_
  cases a with
  | agg a=>cases b with
   | agg b=>
    simp only[er]
    cases h:X.eqAll dE ks a b with
    | none=>exact .fail
    | some r=>
     obtain⟨vs,ws,h1,h2,h3⟩:=JY h;show Sim _ ((jh (ek (erL a))).bind fun xs=>(jh (ek (erL b))).bind fun ys=>(jh (eI ks xs ys)).bind fun r=>wr d (.v (.bool (if neg then !r else r)))) id;rw[h1,h2];show Sim _ ((jh (eI ks vs ws)).bind fun r=>wr d (.v (.bool (if neg then !r else r)))) id;rw[h3];refine ew d ?_;cases neg<;>rfl
   | _=>exact .fail
  | _=>exact .fail
 | un op x=>
  refine Sim.thenOpd fun a=>?_
  cases a with
  | d t a=>cases t with
   | bool=>cases op<;>first | exact .fail | exact ew d rfl
   | int k=>cases op<;>first | exact .fail | exact ew d rfl
   | _=>cases op<;>exact .fail
  | _=>cases op<;>exact .fail
 | conv k x=>
  refine Sim.thenOpd fun a=>?_
  cases a with
  | d t a=>cases t with
   | int k0=>exact ew d rfl
   | _=>exact .fail
  | _=>exact .fail
 | bld z mv parts=>
  refine Sim.ite (fun h=>?_) fun _=>.fail;show Sim _ (if (z.map fk).all eX then _ else _) id;rw[if_pos (sQ h)];refine (rm mv parts).bind fun l=>(uU d l).bind fun l'=>ew d ?_;simp only[er];rw[Ct,uJ]
 | bsl sz mv len parts=>
  refine (rm mv _).bind fun l=>Sim.ite (fun h=>?_) fun _=>.fail;rw[if_pos h];refine Sim.opt fun v hv=>kv d false ?_;simp only[erL,Jd hv,F3]
 | mks sz z l c=>
  refine Sim.ite (fun h=>?_) fun _=>.fail;simp only[Bool.and_eq_true] at h;show Sim _ (if (z.map fk).all eX && z.length==sz then _ else _) id;rw[if_pos (by simp only[Bool.and_eq_true];exact⟨sQ h.1,h.2⟩)];refine Sim.thenOpd fun tl=>Sim.thenOpd fun tc=>(ni tl).bind fun n=>(ni tc).bind fun m=>Sim.br fun hok=>?_;have hok:qO n m sz=true:=hok;rw[if_pos (by simpa [qO] using hok)];refine Sim.opt fun v hv=>kv d false ?_;simp only[erL,Jf hv,uJ,id_eq]
 | slc sz x lo hi=>
  refine Sim.thenOpd fun t=>(uV t).bind fun n=>(xQ lo 0).bind fun l=>(xQ hi n).bind fun h=>Sim.br fun hok=>?_;have hok:ji l h n=true:=hok;rw[if_pos (by simpa [ji] using hok)]
  cases t with
  | d tt x=>cases tt with
   | row o t=>cases o with
    | true=>exact .fail
    | false=>
     refine Sim.ite (fun hs=>?_) fun _=>.fail;show Sim _ (if (List.map (enc t) (x:List (den t))).all (fun e=>e.length==sz) then _ else _) id;rw[if_pos (by rw[← hs];exact ra t x)];refine ew d ?_;show TV.sl (List.map (enc t) ((List.drop l (x:List (den t))).take (h - l)))=_;rw[List.map_take,List.map_drop];rfl
   | nilr o=>cases o with
    | false=>
     show Sim _ (if ([]:List (List TV)).all (fun e=>e.length==sz) then wr d (.sl ((([]:List (List TV)).drop l).take (h - l))) else _) id;rw[if_pos (by rfl)];exact ew d (by simp[er,er1])
    | true=>exact kv d false rfl
   | _=>exact .fail
  | pk p vs=>
   refine (jG p).bind fun t=>?_
   cases t with
   | d tt x=>cases tt with
    | row o t=>cases o with
     | false=>exact .fail
     | true=>
      refine Sim.ite (fun hs=>?_) fun _=>.fail;show Sim _ (if (List.map (enc t) (x:List (den t))).all (fun e=>e.length==sz) then _ else _) id;rw[if_pos (by rw[← hs];exact ra t x)];exact ew d rfl
    | nilr o=>cases o with
     | false=>exact .fail
     | true=>
      show Sim _ (if ([]:List (List TV)).all (fun e=>e.length==sz) then _ else _) id;rw[if_pos (by rfl)];exact ew d rfl
    | _=>exact .fail
   | _=>exact .fail
  | pw p vs sz' lo' n'=>
   refine Sim.ite (fun hs=>?_) fun _=>.fail;show Sim _ (if sz'=sz then _ else _) id;rw[if_pos hs];exact ew d rfl
  | _=>exact .fail
 | app sz bytes mv fl s x=>
  refine Sim.thenOpd fun ts=>Sim.thenOpd fun tx=>(gK true ts).bind fun s=>?_
  have hn:Ep (er tx)=X.isNameX tx:=by
   cases tx with
   | d t y=>cases t with
    | row o t=>cases o<;>rfl
    | nilr o=>cases o<;>rfl
    | _=>rfl
   | _=>rfl
  rw[hn]
  cases hc:(fl && !mv && X.isNameX tx) with
  | true=>
   simp only[if_true];refine (xG tx).bind fun c2=>?_;refine Sim.ite (fun hf=>?_) fun _=>.fail
   have hV:(FY c2).all (fun e=>e.all isV)=true:=by
    cases c2 with
    | d t y=>cases t with
     | row o t=>
      have hf:X.flatT t=true:=hf;cases o<;>show (List.map (enc t) (y:List (den t))).all (fun e=>e.all isV)=true
      all_goals
       rw[List.all_map,List.all_eq_true];intro z _;exact HQ hf z
     | nilr o=>cases o<;>rfl
     | _=>rfl
    | gap=>cases hf
    | _=>rfl
   rw[if_pos hV];have h:=Ki (Y:=Y) d sz bytes (ef HT d) s c2
   have e:LR d sz bytes (er s) (.sl (FY c2))=(match er s,er c2 with
    | .ow c,.ow c2=>if (c++c2).all (fun e=>e.length==sz) && decide (c.length+c2.length≤1099511627776) && decide ((c.length+c2.length)*bytes≤140737488355328) then inst d false [.ow (c++c2)] else .fail
    | .ow c,.sl c2=>if (c++c2).all (fun e=>e.length==sz) && decide (c.length+c2.length≤1099511627776) && decide ((c.length+c2.length)*bytes≤140737488355328) then inst d false [.ow (c++c2)] else .fail
    | _,_=>.fail):=by
    unfold LR
    cases c2 with
    | d t y=>cases t with
     | row o t=>cases o<;>cases er s<;>rfl
     | nilr o=>cases o<;>cases er s<;>rfl
     | _=>simp[X.flatRow] at hf
    | _=>simp[X.flatRow] at hf
   rw[e];exact h
  | false=>
   simp only[Bool.false_eq_true,if_false];exact (gK mv tx).bind fun x=>Ki d sz bytes _ s x
 | len x=>exact Sim.thenOpd fun t=>(uV t).bind fun n=>ew d rfl
 | lens x=>
  refine Sim.thenOpd fun t=>?_
  cases t with
  | d t s=>cases t with
   | str=>exact ew d rfl
   | _=>exact .fail
  | _=>exact .fail
 | ixs x i=>
  refine Sim.thenOpd fun t=>Sim.thenOpd fun ti=>(ni ti).bind fun k=>?_
  cases t with
  | d t s=>cases t with
   | str=>
    intro σ kk y hk;obtain⟨b,h1,h2⟩:=dM (show (xM s k).bind _=some y from hk);unfold xM at h1;obtain⟨c,h3,h4⟩:=gV h1;have h3:(s:ByteArray)[k]?=some c:=h3;have:=ew (Y:=Y) d (t:=.d (.int .u8) b) (t':=.v (.int .u8 c.toNat)) (by rw[← h4];rfl) σ kk y h2;show ∃a σ',(match (s:ByteArray)[k]? with | some b=>wr d (.v (.int .u8 b.toNat)) | none=>.fail).run (erS σ)=_∧ms σ σ' ((match (s:ByteArray)[k]? with | some b=>wr d (.v (.int .u8 b.toNat)) | none=>.fail).foot (erS σ))∧_;rw[h3];exact this
   | _=>exact .fail
  | _=>exact .fail
 | mm mx xs=>
  refine (D8 (fun x=>(sH x).bind fun t=>GH t) xs).bind fun l=>?_
  cases l with
  | nil=>exact .fail
  | cons t r=>cases t with
   | d t a=>cases t with
    | int k=>
     simp only[List.map_cons,MR]
     cases h:X.mmAll dE mx k a r with
     | none=>exact .fail
     | some m=>simp only[Jz h];exact ew d rfl
    | _=>exact .fail
   | _=>exact .fail
 | mkf f caps=>
  refine (D8 (fun x=>(sH x).bind fun t=>GN t) caps).bind fun l=>ew d ?_;simp only[er,jV]
 | idxa n sz x i=>
  refine Sim.thenOpd fun t=>Sim.thenOpd fun ti=>(ni ti).bind fun k=>?_
  cases t with
  | ptr p vs=>
   refine (fJ p _ vs).bind fun _=>GM _ n _ 0 fun j hj0 hj hk=>Sim.ite (fun h=>?_) fun _=>.fail;subst hk;simp only[id_eq];rw[if_pos (by rw[← Ah];simp only[Bool.and_eq_true,decide_eq_true_eq];exact⟨by omega,h⟩)];exact ew d (by simp only[er,DC])
  | _=>exact .fail
 | s2b x=>
  refine Sim.thenOpd fun t=>?_
  cases t with
  | d t s=>cases t with
   | str=>
    refine Sim.br fun h=>?_;have h:decide ((s:ByteArray).size < 4294967296)=true:=h;show Sim _ (if (s:ByteArray).size < 4294967296 then wr d (.sl (pF s)) else .fail) id;rw[if_pos (by simpa using h)];refine ew d ?_;show TV.sl (List.map (enc (.int .u8)) (KL s))=_;simp[KL,pF,enc]
   | _=>exact .fail
  | _=>exact .fail
 | emp x=>exact Sim.thenOpd fun t=>(uV t).bind fun n=>kv d false rfl
 | b2s x=>
  refine Sim.thenOpd fun t=>(gK false t).bind fun t'=>?_
  cases t' with
  | d t c=>cases t with
   | row o t=>cases o with
    | false=>cases t with
     | int k=>cases k with
      | u8=>
       intro σ kk y hk;have hk:X.wr dE d (.d .str (In c)) σ kk=some y:=hk
       have hb:bstr (List.map (enc (.int .u8)) (c:List Int))=some (In c):=by
        have:xD (List.map (enc (.int .u8)) (c:List Int))=some c:=by
         have h9:∀l:List Int,xD (List.map (enc (.int .u8)) l)=some l:=by
          intro l
          induction l with
          | nil=>rfl
          | cons x l ih=>
           show Option.map (x :: ·) (xD (List.map (enc (.int .u8)) l))=_;rw[ih];rfl
         exact h9 c
        simp only[bstr,this];rfl
       have:=ew (Y:=Y) d (t:=.d .str (In c)) (t':=.v (.string (In c))) rfl σ kk y hk;show ∃a σ',((jh (bstr (List.map (enc (.int .u8)) (c:List Int)))).bind fun s=>wr d (.v (.string s))).run (erS σ)=_∧ms σ σ' (((jh (bstr (List.map (enc (.int .u8)) (c:List Int)))).bind fun s=>wr d (.v (.string s))).foot (erS σ))∧_;rw[hb];exact this
      | _=>exact .fail
     | _=>exact .fail
    | true=>exact .fail
   | _=>exact .fail
  | _=>exact .fail
 | cpy sz x y=>
  refine Sim.thenOpd fun t=>Sim.thenOpd fun u=>(xG u).bind fun c2=>?_
  cases t with
  | pk p vs=>
   refine (fJ p _ vs).bind fun _=>Sim.rdC fun tv=>?_;exact Kh d sz p 0 none tv c2
  | pw p vs sz' lo n=>
   refine Sim.ite (fun hs=>?_) fun _=>.fail;refine (fJ p _ vs).bind fun _=>Sim.rdC fun tv=>?_;have:=Kh (Y:=Y) d sz p lo (some n) tv c2;simp only[if_pos hs];exact this
  | _=>exact .fail
 | call k f args=>exact .fail
end
theorem Ao:∀(hs:List (Unit×Nat×Nat)) (hs':List (den .nat×Nat×Nat)) (r:List CT) (h:HL den r) (h':HL den (Df hs r)),DG hs hs' r h=some h'→(vM hs r h').1=hs'∧(vM hs r h').2=h
 | [],[],_,_,_,hc=>by
  injection hc with hc
  exact⟨rfl,hc.symm⟩
 | [],_ :: _,_,_,_,hc=>by cases hc
 | _ :: _,[],_,_,_,hc=>by cases hc
 | (_,sz,o) :: hs,(i,sz',o') :: hs',r,h,h',hc=>by
  have hc:(if sz=sz'∧o=o' then (DG hs hs' r h).map fun h1=>((i,h1):den .nat×HL den (Df hs r)) else none)=some h':=hc;by_cases hb:sz=sz'∧o=o'
  ·rw[if_pos hb] at hc;obtain⟨h1,h2,h3⟩:=Option.map_eq_some_iff.1 hc;obtain⟨e1,e2⟩:=Ao hs hs' r h h1 h2;subst h3;refine⟨?_,e2⟩;show (i,sz,o) :: (vM hs r h1).1=(i,sz',o') :: hs';rw[e1,hb.1,hb.2]
  ·rw[if_neg hb] at hc;cases hc
theorem Mi{p:XP fun _=>Unit}{q:XP den}(h:Km p q=true):erP (Nm p)=erP q:=by
 simp only[Km,Bool.and_eq_true,beq_iff_eq] at h;obtain⟨⟨⟨h1,h2⟩,h3⟩,h4⟩:=h;obtain⟨r,o,hs⟩:=q
 cases hs with
 | nil=>simp only[erP,Nm,h1,h2]
 | cons=>simp[XP.bare] at h4
theorem JU{x y:Value}(h:Ia x y=true):x=y:=by
 unfold Ia at h
 split at h<;>first | rfl | cases h
mutual
theorem Ig:(s:Sh)→(x:XV den)→(r:List CT)→(h:HL den r)→(h':HL den (lv s r))→conv dE s x r h=some h'→er (fill s r h').1=er x∧(fill s r h').2=h
 | .d u z,x,r,h,h',hc=>by
  cases x with
  | d t y=>
   have hc:(asT dE t u y).map (fun w=>(w,h))=some h':=hc;obtain⟨w,h1,h2⟩:=gV hc
   have e1:h'.1=w:=by rw[← h2]
   have e2:h'.2=h:=by rw[← h2]
   refine⟨?_,e2⟩;show er1 u h'.1=er1 t y;rw[e1];exact EM h1
  | _=>exact absurd (show (none:Option (HL den _))=some h' from hc) (by simp)
 | .k z,x,r,h,h',hc=>by
  cases x with
  | k y=>
   have hc:(if Ia z y then some h else none)=some h':=hc;by_cases hb:Ia z y=true
   ·rw[if_pos hb] at hc
    injection hc with hc
    rw[JU hb];exact⟨rfl,hc.symm⟩
   ·rw[if_neg hb] at hc;cases hc
  | _=>exact absurd (show (none:Option (HL den _))=some h' from hc) (by simp)
 | .dead,x,r,h,h',hc=>by
  cases x with
  | dead=>
   have hc:some h=some h':=hc
   injection hc with hc
   exact⟨rfl,hc.symm⟩
  | _=>exact absurd (show (none:Option (HL den _))=some h' from hc) (by simp)
 | .ptr p vs,x,r,h,h',hc=>by
  cases x with
  | ptr q ws=>
   have hc:(if p.root==q.root && p.off==q.off && vs==ws then DG p.hops q.hops r h else none)=some h':=hc;by_cases hb:(p.root==q.root && p.off==q.off && vs==ws)=true
   ·rw[if_pos hb] at hc;simp only[Bool.and_eq_true,beq_iff_eq] at hb;obtain⟨h1,h2⟩:=Ao _ _ _ _ _ hc;refine⟨?_,h2⟩;show TV.ptr ⟨p.root,p.off,(vM p.hops r h').1⟩ vs=TV.ptr ⟨q.root,q.off,q.hops⟩ ws;rw[h1,hb.1.1,hb.1.2,hb.2]
   ·rw[if_neg hb] at hc;cases hc
  | _=>exact absurd (show (none:Option (HL den _))=some h' from hc) (by simp)
 | .pk p vs,x,r,h,h',hc=>by
  cases x with
  | pk q ws=>
   have hc:(if p.root==q.root && p.off==q.off && vs==ws then DG p.hops q.hops r h else none)=some h':=hc;by_cases hb:(p.root==q.root && p.off==q.off && vs==ws)=true
   ·rw[if_pos hb] at hc;simp only[Bool.and_eq_true,beq_iff_eq] at hb;obtain⟨h1,h2⟩:=Ao _ _ _ _ _ hc;refine⟨?_,h2⟩;show TV.pk ⟨p.root,p.off,(vM p.hops r h').1⟩ vs=TV.pk ⟨q.root,q.off,q.hops⟩ ws;rw[h1,hb.1.1,hb.1.2,hb.2]
   ·rw[if_neg hb] at hc;cases hc
  | _=>exact absurd (show (none:Option (HL den _))=some h' from hc) (by simp)
 | .pw p vs sz lo n,x,r,h,h',hc=>by cases x<;>exact absurd (show (none:Option (HL den _))=some h' from hc) (by simp)
 | .gap t _ _ o,x,r,h,h',hc=>by
  cases x with
  | gap t' y i o'=>
   have hc:(if o=o' then (asT dE (.row true t') (.row true t) y).map fun y=>(y,i,h) else none)=some h':=hc;by_cases hb:o=o'
   ·subst hb;rw[if_pos rfl] at hc;obtain⟨z,h1,rfl⟩:=gV hc;refine⟨?_,rfl⟩;show fU (er1 (.row true t) z) [(i,0,o)] .dead=fU (er1 (.row true t') y) [(i,0,o)] .dead;rw[EM h1]
   ·rw[if_neg hb] at hc;cases hc
  | _=>exact absurd (show (none:Option (HL den _))=some h' from hc) (by simp)
 | .ip l,x,r,h,h',hc=>by
  cases x with
  | ip l'=>
   have:=mV l l' r h h' hc;exact⟨congrArg TV.ip this.1,this.2⟩
  | _=>exact absurd (show (none:Option (HL den _))=some h' from hc) (by simp)
 | .agg l,x,r,h,h',hc=>by
  cases x with
  | agg l'=>
   have:=mV l l' r h h' hc;exact⟨congrArg TV.agg this.1,this.2⟩
  | _=>exact absurd (show (none:Option (HL den _))=some h' from hc) (by simp)
 | .tup l,x,r,h,h',hc=>by
  cases x with
  | tup l'=>
   have:=mV l l' r h h' hc;exact⟨congrArg TV.tup this.1,this.2⟩
  | _=>exact absurd (show (none:Option (HL den _))=some h' from hc) (by simp)
 | .fn f l,x,r,h,h',hc=>by
  cases x with
  | fn f' l'=>
   have hc:(if f=f' then uu dE l l' r h else none)=some h':=hc;by_cases hb:f=f'
   ·subst hb;rw[if_pos rfl] at hc;have:=mV l l' r h h' hc;exact⟨congrArg (TV.fn f) this.1,this.2⟩
   ·rw[if_neg hb] at hc;cases hc
  | _=>exact absurd (show (none:Option (HL den _))=some h' from hc) (by simp)
theorem mV:(s:List Sh)→(x:List (XV den))→(r:List CT)→(h:HL den r)→(h':HL den (lvL s r))→uu dE s x r h=some h'→erL (iH s r h').1=erL x∧(iH s r h').2=h
 | [],x,r,h,h',hc=>by
  cases x with
  | nil=>
   have hc:some h=some h':=hc
   injection hc with hc
   exact⟨rfl,hc.symm⟩
  | cons=>exact absurd (show (none:Option (HL den _))=some h' from hc) (by simp)
 | s :: ss,x,r,h,h',hc=>by
  cases x with
  | nil=>exact absurd (show (none:Option (HL den _))=some h' from hc) (by simp)
  | cons x xs=>
   have hc:(uu dE ss xs r h).bind (fun h1=>conv dE s x (lvL ss r) h1)=some h':=hc;obtain⟨h1,hc1,hc2⟩:=dM hc;obtain⟨e1,e2⟩:=mV ss xs r h h1 hc1;obtain⟨e3,e4⟩:=Ig s x (lvL ss r) h1 h' hc2;have e5:iH (s :: ss) r h'=((fill s (lvL ss r) h').1 :: (iH ss r (fill s (lvL ss r) h').2).1,(iH ss r (fill s (lvL ss r) h').2).2):=rfl;rw[e5,e4];refine⟨?_,e2⟩;show er _ :: erL _=er x :: erL xs;rw[e3,e1]
end
theorem An:∀{s:List (Nat×List Sh)}{x:List (Nat×List (XV den))}{r:List CT}{h:HL den r}{h':HL den (lvP s r)},X.convP dE s x r h=some h'→erC (rL s r h').1=erC x∧(rL s r h').2=h:=by
 intro s
 induction s with
 | nil=>
  intro x r h h' hc
  cases x with
  | nil=>
   have hc:some h=some h':=hc
   injection hc with hc
   exact⟨rfl,hc.symm⟩
  | cons=>exact absurd (show (none:Option (HL den _))=some h' from hc) (by simp)
 | cons s ss ih=>
  intro x r h h' hc
  cases x with
  | nil=>exact absurd (show (none:Option (HL den _))=some h' from hc) (by simp)
  | cons x xs=>
   have hc:(if s.1=x.1 then (X.convP dE ss xs r h).bind (fun h1=>uu dE s.2 x.2 (lvP ss r) h1) else none)=some h':=hc;by_cases hk:s.1=x.1
   ·rw[if_pos hk] at hc
    ·obtain⟨h1,hc1,hc⟩:=dM hc;obtain⟨e1,e2⟩:=ih hc1;obtain⟨e3,e4⟩:=mV s.2 x.2 (lvP ss r) h1 h' hc;have e5:rL (s :: ss) r h'=((s.1,(iH s.2 (lvP ss r) h').1) :: (rL ss r (iH s.2 (lvP ss r) h').2).1,(rL ss r (iH s.2 (lvP ss r) h').2).2):=rfl;rw[e5,e4];refine⟨?_,e2⟩;show (s.1,erL _) :: erC _=(x.1,erL x.2) :: erC xs;rw[e3,e1,hk]
   ·rw[if_neg hk] at hc;cases hc
theorem J1:∀{s:List (Nat×Sh)}{x:List (Nat×XV den)}{r:List CT}{h:HL den r}{h':HL den (lvT s r)},X.convT dE s x r h=some h'→(Ag s r h').1.map (fun x=>(x.1,er x.2))=x.map (fun x=>(x.1,er x.2))∧(Ag s r h').2=h:=by
 intro s
 induction s with
 | nil=>
  intro x r h h' hc
  cases x with
  | nil=>
   have hc:some h=some h':=hc
   injection hc with hc
   exact⟨rfl,hc.symm⟩
  | cons=>exact absurd (show (none:Option (HL den _))=some h' from hc) (by simp)
 | cons s ss ih=>
  intro x r h h' hc
  cases x with
  | nil=>exact absurd (show (none:Option (HL den _))=some h' from hc) (by simp)
  | cons x xs=>
   have hc:(if s.1=x.1 then (X.convT dE ss xs r h).bind (fun h1=>conv dE s.2 x.2 (lvT ss r) h1) else none)=some h':=hc;by_cases hk:s.1=x.1
   ·rw[if_pos hk] at hc
    ·obtain⟨h1,hc1,hc⟩:=dM hc;obtain⟨e1,e2⟩:=ih hc1;obtain⟨e3,e4⟩:=Ig s.2 x.2 (lvT ss r) h1 h' hc;have e5:Ag (s :: ss) r h'=((s.1,(fill s.2 (lvT ss r) h').1) :: (Ag ss r (fill s.2 (lvT ss r) h').2).1,(Ag ss r (fill s.2 (lvT ss r) h').2).2):=rfl;rw[e5,e4];refine⟨?_,e2⟩;simp only[List.map_cons];rw[e3,e1,hk]
   ·rw[if_neg hk] at hc;cases hc
theorem G7:∀{a b:List (Key×Nat)},X.sameVr a b=true→a=b:=by
 intro a
 induction a with
 | nil=>intro b h;cases b with | nil=>rfl | cons=>simp[X.sameVr] at h
 | cons x a ih=>
  intro b h
  cases b with
  | nil=>simp[X.sameVr] at h
  | cons y b=>
   simp only[X.sameVr,Bool.and_eq_true,beq_iff_eq] at h;obtain⟨⟨h1,h2⟩,h3⟩:=h;rw[ih h3];obtain⟨a1,a2⟩:=x;obtain⟨b1,b2⟩:=y;simp only at h1 h2;rw[h1,h2]
theorem Am{s:Shs}{σ:XS den}{u:HL den []}{h:HL den (lvS s)}(hc:X.convS dE s σ u=some h):erS (DA s h)=erS σ:=by
 unfold X.convS at hc;by_cases hv:X.sameVr s.vr σ.vr=true
 ·rw[if_pos hv] at hc;obtain⟨h1,hc1,hc⟩:=dM hc;obtain⟨e1,e2⟩:=An hc1;obtain⟨e3,e4⟩:=J1 hc;unfold erS DA;simp only;rw[e3,e4,e1,G7 hv]
 ·rw[if_neg hv] at hc;cases hc
theorem Cm{c:Ctr}{vals:List (XV den)}{pts:List (Nat×List (XV den))}{u:HL den []}{h:HL den (lvL c.ins (lvP c.pts []))}(hc:X.convIn dE c vals pts u=some h) :
 erL (iH c.ins _ h).1=erL vals∧erC (rL c.pts [] (iH c.ins _ h).2).1=erC pts:=by
 unfold X.convIn at hc;obtain⟨h1,hc1,hc⟩:=dM hc;obtain⟨e1,e2⟩:=An hc1;obtain⟨e3,e4⟩:=mV _ _ _ _ _ hc;rw[e4];exact⟨e3,e1⟩
theorem G8:∀{a b:List RSh},X.sameSh a b=true→a=b:=by
 intro a
 induction a with
 | nil=>intro b h;cases b with | nil=>rfl | cons=>simp[X.sameSh] at h
 | cons x a ih=>
  intro b h
  cases b with
  | nil=>cases x<;>simp[X.sameSh] at h
  | cons y b=>
   cases x<;>cases y<;>simp[X.sameSh] at h
   ·rw[ih h]
   ·rw[h.1,ih h.2]
   ·rw[ih h]
theorem LA{cells:List (XV den)}{sh:List RSh}{pts:List (Nat×List (XV den))}{u:HL den []}:∀{outs:List XO}{i:Nat}{h:HL den (yH (outs.map lvO) i)},X.injO dE cells sh pts u outs=some ⟨i,h⟩→∃x,lJ outs i h=some x∧erL x.1=erL cells∧x.2.1=sh∧erC x.2.2=erC pts:=by
 intro outs
 induction outs with
 | nil=>intro i h hc;simp[X.injO] at hc
 | cons o outs ih=>
  intro i h hc;simp only[X.injO] at hc;split at hc
  ·rename_i h1 hc1
   injection hc with hc
   injection hc with h2 h3
   subst h2;have h3:=eq_of_heq h3;subst h3;refine⟨_,rfl,?_⟩;unfold X.convO at hc1;by_cases hs:X.sameSh o.sh sh=true
   ·rw[if_pos hs] at hc1;obtain⟨h4,hc4,hc1⟩:=dM hc1;obtain⟨e1,e2⟩:=An hc4;obtain⟨e3,e4⟩:=mV _ _ _ _ _ hc1;refine⟨e3,G8 hs,?_⟩;show erC (rL o.pts [] (iH o.cells _ h1).2).1=_;rw[e4];exact e1
   ·rw[if_neg hs] at hc1;cases hc1
  ·split at hc
   ·rename_i x hx
    injection hc with hc
    injection hc with h2 h3
    subst h2;have h3:=eq_of_heq h3;subst h3;exact ih hx
   ·simp at hc
theorem LF{a b:jT}(h:X.exEq a b=true):a=b:=by
 cases a<;>cases b<;>simp[X.exEq] at h
 ·rfl
 ·rw[h]
 ·rfl
theorem HZ{e:jT}{σ:XS den}{u:HL den []}:∀{outs:List (jT×Shs)}{i:Nat}{h:HL den (yH (outs.map fun x=>lvS x.2) i)},X.injE dE e σ u outs=some ⟨i,h⟩→∃x,tO outs i h=some x∧x.1=e∧erS x.2=erS σ:=by
 intro outs
 induction outs with
 | nil=>intro i h hc;simp[X.injE] at hc
 | cons o outs ih=>
  intro i h hc;simp only[X.injE] at hc;split at hc
  ·rename_i h1 hc1
   injection hc with hc
   injection hc with h2 h3
   subst h2;have h3:=eq_of_heq h3;subst h3;refine⟨_,rfl,?_⟩;split at hc1
   ·rename_i he;exact⟨LF he,Am hc1⟩
   ·simp at hc1
  ·split at hc
   ·rename_i x hx
    injection hc with hc
    injection hc with h2 h3
    subst h2;have h3:=eq_of_heq h3;subst h3;exact ih hx
   ·simp at hc
theorem vQ{α β:Type}(G:α→β):∀(ls:List (List CT)) (o:yo ls) (f:(i:Nat)→HL den (yH ls i)→α),k9 ls o (fun i h=>G (f i h))=G (k9 ls o f):=by
 intro ls
 induction ls with
 | nil=>intro o;cases o
 | cons l ls ih=>
  intro o f
  cases ls with
  | nil=>rfl
  | cons m r=>
   cases o with
   | inl h=>rfl
   | inr o=>exact ih o fun i h=>f (i+1) h
theorem yf{α:Type}:∀{ls:List (List CT)}{i:Nat}{h:HL den (yH ls i)}{o:yo ls}(f:(i:Nat)→HL den (yH ls i)→α),sU ls i h=some o→k9 ls o f=f i h:=by
 intro ls
 induction ls with
 | nil=>intro i h o f hm;simp[sU] at hm
 | cons l ls ih=>
  intro i h o f hm
  cases ls with
  | nil=>
   cases i with
   | zero=>cases hm;rfl
   | succ i=>simp[sU] at hm
  | cons m r=>
   cases i with
   | zero=>cases hm;rfl
   | succ i=>
    simp only[sU] at hm;obtain⟨o',h1,rfl⟩:=gV hm;exact ih (fun i h=>f (i+1) h) h1
def tg(F:fq) (c:Ctr):Prop:=∀(h:HL den (lvL c.ins (lvP c.pts []))) (o:yo (c.outs.map lvO)) (x:List (XV den)×List RSh×List (Nat×List (XV den))),c.g h=some o→k9 (c.outs.map lvO) o (fun i ho=>lJ c.outs i ho)=some x →
 F c.f (erL (iH c.ins _ h).1) (erC (rL c.pts [] (iH c.ins _ h).2).1)=some (⟨erL x.1,x.2.1⟩,erC x.2.2)
section
variable {α β γ δ Y:Type}
theorem I8(x:Option Nat×Opd):Sim (Y:=Y) (X.argV dE x) (argV x) er:=by
 refine Sim.thenOpd fun t=>?_
 have gen:∀t:XV den,Sim (Y:=Y) (X.bind (X.takeV dE false t) fun l=>X.bind (X.optM dE (X.immXL dE l.1)) fun l'=>X.ret (X.shapedX l.2 l')) ((takeV false (er t)).bind fun l=>.ret (oA l.2 (l.1.map TV.imm))) er:=fun t=>
  (oS false t).bind fun l=>Sim.opt fun l' hl=>.ret (by rw[xR,JI hl])
 have nil:∀{s:SP TV} (t:CT) (y:den (.row true t)),Sim (Y:=Y) (X.bind (X.takeV dE false (.d (.row true t) y)) fun l=>X.bind (X.optM dE (X.immXL dE l.1)) fun l'=>X.ret (X.shapedX l.2 l')) s er:=fun t y σ k o hk=>by cases hk
 refine Sim.ite (fun h=>?_) fun h=>?_
 ·have h2:(x.1==some 0 && MV (er t))=true:=by
   simp only[Bool.and_eq_true] at h ⊢;refine⟨h.1,?_⟩;have h3:=h.2
   cases t with
   | pk p vs=>rfl
   | d t y=>cases t with
    | nilr o=>cases o with
     | true=>rfl
     | false=>simp[X.isNmX] at h3
    | _=>simp[X.isNmX] at h3
   | _=>simp[X.isNmX] at h3
  rw[if_pos h2];exact .ret rfl
 ·have keep:∀{s:SP TV},MV (er t)=X.isNmX t→Sim (Y:=Y) (X.argV0 dE t) s er→Sim (Y:=Y) (X.argV0 dE t) (if (x.1==some 0 && MV (er t))=true then SP.ret (er t) else s) er:=fun he hs=>by
   rw[he,if_neg h];exact hs
  cases t with
  | ip cs=>exact keep rfl (.ret rfl)
  | fn f cap=>exact keep rfl (.ret rfl)
  | ptr p vs=>exact keep rfl (.ret rfl)
  | d t y=>cases t with
   | row o t=>cases o with
    | true=>exact nil t y
    | false=>exact keep rfl (gen _)
   | nilr o=>cases o<;>exact keep rfl (gen _)
   | nat=>exact fun σ k o hk=>by cases hk
   | pair a b=>exact fun σ k o hk=>by cases hk
   | _=>exact keep rfl (gen _)
  | gap t y i o=>exact fun σ k o hk=>by cases hk
  | _=>exact keep rfl (gen _)
theorem AK:∀l:List (Option Nat×Opd),Sim (Y:=Y) (X.argVs dE l) (argVs l) erL:=by
 intro l
 induction l with
 | nil=>exact .ret rfl
 | cons x r ih=>exact (I8 x).bind fun t=>ih.bind fun l=>.ret rfl
theorem AH:∀(l:List (Option Nat×XV den)) (i:Nat),Sim (Y:=Y) (X.takeOwns dE i l) (takeOwns i (l.map fun x=>(x.1,er x.2))) (List.map fun x=>(x.1,er x.2)):=by
 intro l
 induction l with
 | nil=>intro i;exact .ret rfl
 | cons x l ih=>
  intro i;obtain⟨n,t⟩:=x
  cases n with
  | none=>cases t with
   | d t y=>cases t with
    | row o t=>cases o<;>exact ih (i+1)
    | nilr o=>cases o<;>exact ih (i+1)
    | nat=>exact ih (i+1)
    | pair a b=>exact ih (i+1)
    | _=>exact ih (i+1)
   | _=>exact ih (i+1)
  | some n=>cases n with
   | zero=>cases t with
    | pk p vs=>
     refine (gK true (.pk p vs)).bind fun t=>Sim.ite (fun h=>?_) fun _=>.fail;obtain⟨c,hc⟩:=mU h
     have h2:mu (er t)=true:=by rw[hc];rfl
     rw[if_pos h2];exact (ih (i+1)).bind fun q=>.ret rfl
    | d t y=>cases t with
     | row o t=>cases o<;>exact ih (i+1)
     | nilr o=>cases o<;>exact ih (i+1)
     | nat=>exact ih (i+1)
     | pair a b=>exact ih (i+1)
     | _=>exact ih (i+1)
    | _=>exact ih (i+1)
   | succ n=>cases t with
    | d t y=>cases t with
     | row o t=>cases o<;>exact ih (i+1)
     | nilr o=>cases o<;>exact ih (i+1)
     | nat=>exact ih (i+1)
     | pair a b=>exact ih (i+1)
     | _=>exact ih (i+1)
    | _=>exact ih (i+1)
theorem GJ(r:Nat):∀(n o:Nat),Sim (Y:=Y) (X.grabB dE r o n) (xx ⟨r,o,[]⟩ n) erL:=by
 intro n
 induction n with
 | zero=>intro o;exact .ret rfl
 | succ n ih=>
  intro o
  cases n with
  | zero=>
   show Sim _ ((getPl ⟨r,o,[]⟩).bind fun t=>(peek1 ⟨r,o,[]⟩ t).bind fun t'=>(take1 true t').bind fun t2=>.ret [t2]) erL;refine Sim.rdC (h:=fun tv=>SP.bind _ _) fun t=>(jF ⟨r,o,[]⟩ t).bind fun t'=>(gK true t').bind fun t2=>?_;exact (Sim.ret (a:=[]) (b:=[]) (f:=erL) rfl).bind (h:=fun l=>.ret (er t2 :: l)) fun l=>.ret rfl
  | succ n=>
   show Sim _ ((getPl ⟨r,o,[]⟩).bind fun t=>(peek1 ⟨r,o,[]⟩ t).bind fun t'=>(take1 true t').bind fun t2=>(xx ⟨r,o+1,[]⟩ (n+1)).bind fun l=>.ret (t2 :: l)) erL;exact Sim.rdC (h:=fun tv=>SP.bind _ _) fun t=>(jF ⟨r,o,[]⟩ t).bind fun t'=>(gK true t').bind fun t2=>(ih (o+1)).bind fun l=>.ret rfl
theorem E7(p:XP den):Sim (Y:=Y) (X.rooted dE p) (rooted (erP p)) id:=by
 obtain⟨r,off,hops⟩:=p
 cases hops with
 | nil=>exact .ret rfl
 | cons h hs=>
  refine Sim.rdT fun t=>?_
  cases t with
  | ptr q ws=>
   refine Sim.ite (fun hc=>?_) fun _=>.fail;show Sim _ (if (erP q).root==r && (erP q).hops.isEmpty then chk (erP q) 0 ws else .fail) id
   have:((erP q).root==r && (erP q).hops.isEmpty)=true:=by
    simpa [erP] using hc
   rw[if_pos this];exact fJ q 0 ws
  | _=>exact .fail
def erG(g:XGP den):GP:=⟨g.i,erP g.p,g.vs,erL g.cells⟩
theorem HV{t:XV den}(h:X.isArgX t=true):p9 (er t)=true:=by
 cases t with
 | ip cs=>rfl
 | fn f cap=>cases cap with
  | nil=>rfl
  | cons=>simp[X.isArgX,X.okCellX] at h
 | agg l=>
  simp only[X.isArgX] at h;simp only[er,p9,jV,List.all_map];rw[List.all_eq_true] at h ⊢;intro x hx;have:=h x hx;simp only[Bool.and_eq_true,Bool.not_eq_true'] at this;simp only[Function.comp_apply];rcases oW this.1 this.2 with ⟨y,hy⟩ | ⟨c,hc⟩
  ·rw[hy]
  ·rw[hc]
 | d t x=>
  by_cases hn:t=.nilr true
  ·subst hn;rfl
  ·have:X.okCellX (.d t x:XV den)=true∧X.isOwX (.d t x:XV den)=false:=by
    cases t with
    | nilr o=>cases o with
     | true=>exact absurd rfl hn
     | false=>simpa [X.isArgX] using h
    | _=>simpa [X.isArgX] using h
   rcases oW this.1 this.2 with ⟨y,hy⟩ | ⟨c,hc⟩
   ·rw[hy];rfl
   ·rw[hc];rfl
 | k x=>rfl
 | _=>simp[X.isArgX,X.okCellX] at h
theorem GI:∀(l:List (Option Nat×XV den)) (i:Nat),Sim (Y:=Y) (X.grabs dE i l) (grabs i (l.map fun x=>(x.1,er x.2))) (List.map erG):=by
 intro l
 induction l with
 | nil=>intro i;exact .ret rfl
 | cons x l ih=>
  intro i;obtain⟨n,t⟩:=x
  have other:(∀m p vs,(n,er t)≠(some m,TV.ptr p vs))→(∀p vs,(n,er t)≠(some 0,TV.pk p vs))→Sim (Y:=Y) (if X.isArgX t then X.grabs dE (i+1) l else X.fail dE) (grabs i (((n,t) :: l).map fun x=>(x.1,er x.2))) (List.map erG):=by
   intro hne hne2;refine Sim.ite (fun h=>?_) fun _=>.fail
   have e:grabs i (((n,t) :: l).map fun x=>(x.1,er x.2))=if p9 (er t) then grabs (i+1) (l.map fun x=>(x.1,er x.2)) else .fail:=by
    show grabs i ((n,er t) :: _)=_
    cases n with
    | none=>rfl
    | some m=>cases he:er t with
     | ptr p vs=>exact absurd (by rw[he]) (hne m p vs)
     | pk p vs=>cases m with
      | zero=>exact absurd (by rw[he]) (hne2 p vs)
      | succ m=>rfl
     | _=>cases m<;>rfl
   rw[e,if_pos (HV h)];exact ih (i+1)
  cases n with
  | none=>exact other (by intro m p vs h;cases h) (by intro p vs h;cases h)
  | some m=>cases t with
   | pk p vs=>cases m with
    | zero=>exact ih (i+1)
    | succ m=>exact other (by intro m p vs h;cases h) (by intro p vs h;cases h)
   | ptr p vs=>exact (fJ p _ vs).bind fun _=>(E7 p).bind fun _=>Sim.bind (by have:=GJ (Y:=Y) p.root (X.baseXN p m) p.off;have e:LL (erP p) m=X.baseXN p m:=(by obtain⟨r,o,hs⟩:=p;cases hs<;>rfl);show Sim _ (xx (erP p).base (LL (erP p) m)) _;rw[e];exact this) fun l1=>(ih (i+1)).bind fun q=>.ret rfl
   | d t y=>cases t with
    | row o t=>cases m<;>cases o<;>exact other (by intro m p vs h;cases h) (by intro p vs h;cases h)
    | nilr o=>cases m<;>cases o<;>exact other (by intro m p vs h;cases h) (by intro p vs h;cases h)
    | _=>cases m<;>exact other (by intro m p vs h;cases h) (by intro p vs h;cases h)
   | _=>cases m<;>exact other (by intro m p vs h;cases h) (by intro p vs h;cases h)
theorem Gs(p:XP den):Sim (Y:=Y) (X.touch dE p) (touch (erP p)) id:=Sim.rdC fun tv=>Gr p.root p.off tv
theorem Gv:∀q:List (XGP den),Sim (Y:=Y) (X.rechk dE q) (rechk (q.map erG)) id:=by
 intro q
 induction q with
 | nil=>exact .ret rfl
 | cons g q ih=>exact (fJ g.p _ g.vs).bind fun _=>(Gs g.p).bind fun _=>ih
theorem LQ(i:Nat) (t:XV den):er (X.argT i t)=argT i (er t):=by
 cases t with
 | d t y=>cases t with
  | row o t=>cases o<;>rfl
  | nilr o=>cases o<;>rfl
  | _=>rfl
 | _=>rfl
theorem J6:∀(l:List (XV den)) (i:Nat),erL (X.argTs i l)=argTs i (erL l):=by
 intro l
 induction l with
 | nil=>intro i;rfl
 | cons t l ih=>intro i;simp only[X.argTs,erL,argTs,ih,LQ]
theorem FJ{t:XV den}(h:X.isDeadX t=false):Er (er t)=false:=by
 cases t with
 | d t y=>cases t with
  | row o t=>cases o<;>rfl
  | nilr o=>cases o<;>rfl
  | nat=>simp[X.isDeadX,X.oneT] at h
  | pair a b=>simp[X.isDeadX,X.oneT] at h
  | _=>rfl
 | dead=>simp[X.isDeadX] at h
 | _=>rfl
theorem CG:∀q:List (XGP den×List (XV den)),Sim (Y:=Y) (X.putBack dE q) (putBack (q.map fun x=>(erG x.1,erL x.2))) id:=by
 intro q
 induction q with
 | nil=>exact .ret rfl
 | cons x q ih=>
  obtain⟨g,l⟩:=x;refine ih.bind fun _=>Sim.ite (fun h=>?_) fun _=>.fail;obtain⟨h1,h2,h3⟩:=h;show Sim _ (if (erL l).length=(erL g.cells).length && (erL l).all fun t=>!Er t then putL (erP g.p) (erL l) else .fail) id;rw[if_pos]
  ·exact D7 g.p l
  ·simp only[Bool.and_eq_true,decide_eq_true_eq,fH];refine⟨h1,?_⟩;rw[jV,List.all_map,List.all_eq_true];intro t ht;have:=List.all_eq_true.1 h3 t ht;simp only[Bool.not_eq_true'] at this;simp only[Function.comp_apply,FJ this,Bool.not_false]
theorem GV:∀(sh:List RSh) (l:List (XV den)),erL (X.shapeRX sh l)=iv sh (erL l):=by
 intro sh
 induction sh with
 | nil=>intro l;rfl
 | cons s sh ih=>
  intro l
  cases s with
  | one=>
   simp only[X.shapeRX,erL,iv];rw[ih,Cf];cases l<;>rfl
  | agg n=>
   simp only[X.shapeRX,erL,iv,er];rw[ih,pW,rM]
  | ptr=>
   simp only[X.shapeRX,erL,iv,er];rw[ih]
theorem AM(sh:List RSh) (l:List (XV den)):er (X.shapeTX sh l)=ro sh (erL l):=by
 unfold X.shapeTX ro;rw[← GV]
 cases X.shapeRX sh l with
 | nil=>rfl
 | cons x r=>cases r<;>rfl
theorem GF(dst:Option Nat) (cells:List (XV den)) (sh:List RSh):Sim (Y:=Y) (X.landR dE dst cells sh) (landR dst ⟨erL cells,sh⟩) id:=by
 cases dst with
 | none=>exact .ret rfl
 | some d=>exact (uU d cells).bind fun l=>ew d (AM sh l)
theorem HU(sh:List RSh) (cells:List (XV den)):isP ⟨erL cells,sh⟩=X.isPX sh cells:=by
 unfold isP X.isPX
 cases sh with
 | nil=>cases cells<;>rfl
 | cons s sh=>cases s with
  | ptr=>cases sh with
   | cons s2 sh=>rfl
   | nil=>cases cells with
    | nil=>rfl
    | cons t r=>cases r with
     | cons t2 r=>cases t with
      | d t y=>cases t with
       | row o t=>cases o<;>rfl
       | nilr o=>cases o<;>rfl
       | _=>rfl
      | _=>rfl
     | nil=>cases t with
      | d t y=>cases t with
       | row o t=>cases o<;>rfl
       | nilr o=>cases o<;>rfl
       | _=>rfl
      | _=>rfl
  | _=>rfl
theorem GG(dst:Option Nat) (q:List (XGP den)) (cells:List (XV den)):Sim (Y:=Y) (X.landP dE dst q cells) (landP dst (q.map erG) (erL cells)) id:=by
 cases dst with
 | none=>exact .ret rfl
 | some d=>
  unfold X.landP;simp only;split
  ·rename_i pl vs g;refine Sim.ite (fun hc=>?_) fun _=>.fail;show Sim _ (if pl.root==2*g.i+2 && (erP g.p).hops.isEmpty then (rdVs (o4 g.p.root (g.p.off+pl.off) (erP pl).hops.length)).bind fun vs=>wr d (.ptr ⟨g.p.root,g.p.off+pl.off,(erP pl).hops⟩ vs) else .fail) id;rw[if_pos (by simpa [erP] using hc)];exact (uw _).bind fun vs=>ew d rfl
  ·exact .fail
theorem L9(q:List (XGP den)) (l:List (Nat×List (XV den))):(q.zip (l.map (·.2))).map (fun x=>(erG x.1,erL x.2))=(q.map erG).zip ((erC l).map (·.2)):=by
 induction q generalizing l with
 | nil=>rfl
 | cons g q ih=>
  cases l with
  | nil=>rfl
  | cons x l=>simp only[List.map_cons,List.zip_cons_cons,erC,ih]
theorem Fa{F:fq}(dst:Option Nat) (f:FuncId) (vals:List (XV den)) (q:List (XGP den)) (ow:List (Nat×XV den)) (u:HL den []):∀(TB:List Ctr),(∀c∈TB,tg F c)→Sim (Y:=Y) (X.callTB dE dst f vals q ow u TB) ((jh (F f (erL vals) ((q.map erG).map (fun g=>(2*g.i+2,g.cells))++(ow.map fun x=>(x.1,er x.2)).map fun x=>(2*x.1+3,[x.2])))).bind fun r=>
 if r.2.map (·.1)=(q.map erG).map (fun g=>2*g.i+2)++(ow.map fun x=>(x.1,er x.2)).map (fun x=>2*x.1+3) && (isP r.1 || oV r.1.sh r.1.cells.length) then (putBack ((q.map erG).zip (r.2.map (·.2)))).bind fun _=>if isP r.1 then landP dst (q.map erG) r.1.cells else landR dst r.1 else .fail) id:=by
 intro TB
 induction TB with
 | nil=>intro _;exact .fail
 | cons c TB ih=>
  intro hTB;have hrest:=ih fun c' hc'=>hTB c' (by simp[hc']);unfold X.callTB
  cases hsel:(if c.f=f then X.convIn dE c vals (q.map (fun g=>(2*g.i+2,g.cells))++ow.map fun y=>(2*y.1+3,[y.2])) u else none) with
  | none=>exact hrest
  | some h=>
   by_cases hf:c.f=f
   ·rw[if_pos hf] at hsel;obtain⟨e1,e2⟩:=Cm hsel;intro σ k y hk;obtain⟨o,ho,hk⟩:=dM (show (c.g h).bind _=some y from hk);rw[vQ (fun z=>X.onOut dE z fun x=>X.afterC dE dst q ow x σ k)] at hk
    cases hx:k9 (c.outs.map lvO) o (fun i ho=>lJ c.outs i ho) with
    | none=>rw[hx] at hk;cases hk
    | some x=>
     rw[hx] at hk;have hk:X.afterC dE dst q ow x σ k=some y:=hk;unfold X.afterC at hk;have hF:=hTB c (by simp) h o x ho hx
     have e3:erC (q.map (fun g=>(2*g.i+2,g.cells))++ow.map fun y=>(2*y.1+3,[y.2]))=(q.map erG).map (fun g=>(2*g.i+2,g.cells))++(ow.map fun x=>(x.1,er x.2)).map fun x=>(2*x.1+3,[x.2]):=by
      unfold erC;rw[List.map_append,List.map_map,List.map_map,List.map_map,List.map_map];congr 1
     rw[e1,e2,e3,hf] at hF;rw[hF];show ∃a σ',(if (erC x.2.2).map (·.1)=(q.map erG).map (fun g=>2*g.i+2)++(ow.map fun x=>(x.1,er x.2)).map (fun x=>2*x.1+3) && (isP ⟨erL x.1,x.2.1⟩ || oV x.2.1 (erL x.1).length) then _ else _:SP Unit).run (erS σ)=_∧ms σ σ' ((if (erC x.2.2).map (·.1)=(q.map erG).map (fun g=>2*g.i+2)++(ow.map fun x=>(x.1,er x.2)).map (fun x=>2*x.1+3) && (isP ⟨erL x.1,x.2.1⟩ || oV x.2.1 (erL x.1).length) then _ else _:SP Unit).foot (erS σ))∧_;split at hk
     ·rename_i hc;rw[if_pos]
      ·have h4:Sim (Y:=Y) (X.bind (X.putBack dE (q.zip (x.2.2.map (·.2)))) fun _=>if X.isPX x.2.1 x.1 then X.landP dE dst q x.1 else X.landR dE dst x.1 x.2.1) ((putBack ((q.map erG).zip ((erC x.2.2).map (·.2)))).bind fun _=>if isP ⟨erL x.1,x.2.1⟩ then landP dst (q.map erG) (erL x.1) else landR dst ⟨erL x.1,x.2.1⟩) id:=by
        rw[← L9,HU];refine (CG _).bind fun _=>?_
        cases X.isPX x.2.1 x.1 with
        | true=>exact GG dst q x.1
        | false=>exact GF dst x.1 x.2.1
       exact h4 σ k y hk
      ·rw[HU];simp only[Bool.and_eq_true,decide_eq_true_eq,fH];refine⟨?_,hc.2⟩
       have h5:(erC x.2.2).map (·.1)=x.2.2.map (·.1):=by unfold erC;rw[List.map_map];exact List.map_congr_left fun _ _=>rfl
       have h6:(q.map erG).map (fun g=>2*g.i+2)=q.map (fun g=>2*g.i+2):=by rw[List.map_map];exact List.map_congr_left fun _ _=>rfl
       have h7:(ow.map fun x=>(x.1,er x.2)).map (fun x=>2*x.1+3)=ow.map (fun y=>2*y.1+3):=by rw[List.map_map];exact List.map_congr_left fun _ _=>rfl
       rw[h5,h6,h7];exact hc.1
     ·cases hk
   ·rw[if_neg hf] at hsel;cases hsel
end
section
variable {α β γ δ Y:Type}
theorem AJ{F:fq}{TB:List Ctr}(hTB:∀c∈TB,tg F c) (u:HL den []) (dst:Option Nat) (f:FuncId) (ns:List (Option Nat)) (vals:List (XV den)):Sim (Y:=Y) (X.callV dE TB u dst f ns vals) (callV F dst f ns (erL vals)) id:=by
 have ez:∀(ns:List (Option Nat)) (vals:List (XV den)),(ns.zip vals).map (fun x=>(x.1,er x.2))=ns.zip (erL vals):=by
  intro ns
  induction ns with
  | nil=>intro vals;rfl
  | cons n ns ih=>
   intro vals
   cases vals with
   | nil=>rfl
   | cons v vals=>simp only[List.zip_cons_cons,List.map_cons,erL,ih]
 unfold callV;rw[← ez];refine (AH _ 0).bind fun ow=>(GI _ 0).bind fun q=>(Gv q).bind fun _=>Sim.ite (fun h=>?_) fun _=>.fail;rw[if_pos]
 ·rw[← J6];exact Fa dst f _ q ow u TB hTB
 ·rw[List.map_map,List.all_map];simp only[Bool.and_eq_true] at h ⊢;refine⟨h.1,?_⟩;rw[List.all_eq_true] at h ⊢;intro g hg;have:=h.2 g hg;simpa [erG,fH] using this
theorem GK(dst:Option Nat) (tm:List BxC) (vals:List (XV den)) (hok:tm.all X.boxOk=true):Sim (Y:=Y) (X.evBox dE dst tm vals) (evBox dst tm (erL vals)) id:=by
 cases dst with
 | none=>exact .fail
 | some d=>
  have e:erL (tm.map (X.bxX dE vals))=tm.map (bxT (erL vals)):=by
   rw[jV,List.map_map];refine List.map_congr_left fun b hb=>?_;have:=List.all_eq_true.1 hok b hb
   cases b with
   | arg i=>exact uG vals i
   | val x=>
    show er (X.cellX dE x)=.v x;rw[uK];simp only[X.boxOk] at this;unfold fk;split
    ·simp at this
    ·rw[if_pos];split at this
     ·simp at this
     ·exact this
  show Sim _ ((takeL false (tm.map (bxT (erL vals)))).bind _) id;rw[← e];exact (oT false _).bind fun l=>Sim.new rfl (Sim.rdV fun g=>ew d rfl)
theorem D6(x:XV den):Sim (Y:=Y) (X.see1 dE x) (see1 (er x)) er:=by
 cases x with
 | d t y=>cases t with
  | int k=>exact .ret rfl
  | bool=>exact .ret rfl
  | str=>exact .ret rfl
  | nat=>exact .fail
  | row o t=>cases o<;>first | exact .fail | exact .ret rfl
  | nilr o=>cases o<;>exact .ret rfl
  | pair a b=>exact .fail
 | k y=>exact .ret rfl
 | pk p vs=>
  refine (fJ p _ vs).bind fun _=>Sim.rdC fun tv=>ux fun v hv=>?_;refine Sim.ite (fun ho=>?_) fun _=>.fail;obtain⟨c,hc⟩:=mU ho
  have hv':d7 (er tv) (erP p).hops=some (.ow c):=by rw[← hc];exact hv
  simp only[hv'];intro σ k y hk
  cases hi:X.immX dE v with
  | none=>rw[hi] at hk;cases hk
  | some v'=>
   rw[hi] at hk;exact Sim.ret (a:=v') (f:=er) (by rw[vx hi,hc]) σ k y hk
 | _=>exact .fail
theorem IR:∀l:List (XV den),Sim (Y:=Y) (X.seeL dE l) (seeL (erL l)) erL:=by
 intro l
 induction l with
 | nil=>exact .ret rfl
 | cons t r ih=>exact (D6 t).bind fun t'=>ih.bind fun r'=>.ret rfl
theorem IS(t:XV den):Sim (Y:=Y) (X.seeA dE t) (seeA (er t)) er:=by
 have key:=D6 (Y:=Y) t
 cases t with
 | agg l=>exact (IR l).bind fun l'=>.ret rfl
 | ip cs=>exact .ret rfl
 | fn f cap=>cases cap with
  | nil=>exact .ret rfl
  | cons=>exact .fail
 | d t y=>cases t with
  | row o t=>cases o<;>exact key
  | nilr o=>cases o<;>exact key
  | _=>exact key
 | _=>exact key
theorem Gu:∀l:List Opd,Sim (Y:=Y) (X.seeAs dE l) (seeAs l) erL:=by
 intro l
 induction l with
 | nil=>exact .ret rfl
 | cons x r ih=>exact Sim.thenOpd fun t=>(IS t).bind fun t'=>ih.bind fun l=>.ret rfl
theorem JT{l:List (XV den)}(h:l.all X.flatX=true):(erL l).all JG=true:=by
 rw[jV,List.all_map,List.all_eq_true];intro x hx;have:=List.all_eq_true.1 h x hx
 cases x with
 | d t y=>cases t<;>first | rfl | simp[X.flatX] at this
 | k y=>exact this
 | _=>simp[X.flatX] at this
theorem GO{F:fq}(dst:Option Nat) (f:FuncId) (vals:List (XV den)) (u:HL den []):∀(TB:List Ctr),(∀c∈TB,tg F c)→Sim (Y:=Y) (X.callB dE dst f vals u TB) (callB F dst f (erL vals)) id:=by
 intro TB
 induction TB with
 | nil=>intro _;exact .fail
 | cons c TB ih=>
  intro hTB;have hrest:=ih fun c' hc'=>hTB c' (by simp[hc']);unfold X.callB
  cases hsel:(if c.f=f then X.convIn dE c vals [] u else none) with
  | none=>exact hrest
  | some h=>
   by_cases hf:c.f=f
   ·rw[if_pos hf] at hsel;obtain⟨e1,e2⟩:=Cm hsel;intro σ k y hk;obtain⟨o,ho,hk⟩:=dM (show (c.g h).bind _=some y from hk);rw[vQ (fun z=>X.onOut dE z fun x=>X.afterB dE dst x σ k)] at hk
    cases hx:k9 (c.outs.map lvO) o (fun i ho=>lJ c.outs i ho) with
    | none=>rw[hx] at hk;cases hk
    | some x=>
     rw[hx] at hk;have hk:X.afterB dE dst x σ k=some y:=hk;unfold X.afterB at hk;have hF:=hTB c (by simp) h o x ho hx;rw[e1,e2,hf] at hF;have hF:F f (erL vals) []=some (⟨erL x.1,x.2.1⟩,erC x.2.2):=hF;unfold callB;rw[hF];show ∃a σ',(if (erC x.2.2).length=0 && (erL x.1).all JG && oV x.2.1 (erL x.1).length then _ else _:SP Unit).run (erS σ)=_∧ms σ σ' ((if (erC x.2.2).length=0 && (erL x.1).all JG && oV x.2.1 (erL x.1).length then _ else _:SP Unit).foot (erS σ))∧_;split at hk
     ·rename_i hc;rw[if_pos]
      ·cases dst with
       | none=>exact Sim.ret (a:=()) (f:=id) rfl σ k y hk
       | some d=>exact ew d (AM x.2.1 x.1) σ k y hk
      ·simp only[Bool.and_eq_true,decide_eq_true_eq,fH];refine⟨⟨?_,JT hc.2.1⟩,hc.2.2⟩;unfold erC;rw[List.length_map];exact hc.1
     ·cases hk
   ·rw[if_neg hf] at hsel;cases hsel
theorem E9{F:fq}{TB:List Ctr}(hTB:∀c∈TB,tg F c) (E:Env) (u:HL den []) (dst:Option Nat) (op:TOp):Sim (Y:=Y) (X.evCall dE E TB u dst op) (evCall E F dst op) id:=by
 cases op with
 | call k f args=>
  cases f with
  | f f=>
   cases k with
   | false=>exact (Gu _).bind fun vals=>GO dst f vals u TB hTB
   | true=>
   refine (AK _).bind fun vals=>?_
   cases hb:E.box f with
   | none=>exact AJ hTB u dst f _ vals
   | some x=>
    refine Sim.ite (fun h=>?_) fun _=>.fail;show Sim _ (if (erL vals).length=x.1 then evBox dst x.2 (erL vals) else .fail) id;rw[if_pos (by rw[fH];exact h.1)];exact GK dst x.2 vals h.2
  | t i=>
   refine Sim.rdT fun t=>?_
   cases t with
   | fn f caps=>
    refine (AK _).bind fun vals=>?_;have:=AJ (Y:=Y) hTB u dst f (args.map (·.1)++Il E f args.length caps.length) (vals++caps);rw[pX] at this;show Sim _ (callV F dst f (args.map (·.1)++Il E f args.length (erL caps).length) (erL vals++erL caps)) id;rw[fH];exact this
   | d t y=>cases t with
    | row o t=>cases o<;>exact .fail
    | nilr o=>cases o<;>exact .fail
    | _=>exact .fail
   | _=>exact .fail
  | c x=>exact .fail
 | _=>exact .fail
theorem GC{F:fq}{C:X.Cfg}(hTB:∀c∈C.TB,tg F c) (u:HL den []) (dst:Option Nat) (op:TOp):Sim (Y:=Y) (X.evop dE C u dst op) (evop (evCall C.E F) dst op) id:=by
 have key:∀d,Sim (Y:=Y) (X.ev1 dE C.HT d op) (ev1 d op) id:=fun d=>Mb C.HT d op;have kc:=E9 (Y:=Y) hTB C.E u dst op
 cases op with
 | call k f args=>exact kc
 | store n mv a x=>cases dst with
  | none=>exact key 0
  | some d=>exact .fail
 | _=>cases dst with
  | none=>exact .fail
  | some d=>exact key d
theorem uT(dst:Option Nat):Sim (Y:=Y) (X.setNo dE dst) (setNo dst) id:=by
 cases dst with
 | none=>exact .ret rfl
 | some d=>exact yu d (.tup [])
theorem En{σ:XS den}{j:Nat}{b:Bool}(h:X.tOf σ j=.d .bool b):erS (X.known dE j b σ)=erS σ:=by
 have h1:ef σ.tm j=some (.d .bool b):=by
  unfold X.tOf at h
  cases hg:ef σ.tm j with
  | none=>rw[hg] at h;cases h
  | some t=>rw[hg] at h;exact congrArg some h
 have:fI σ.tm j (.d .bool b)=σ.tm:=Cu h1;show (⟨(fI σ.tm j (.d .bool b)).map _,erC σ.ce,σ.vr⟩:St)=_;rw[this];rfl
theorem D4{F:fq}{C:X.Cfg}(hTB:∀c∈C.TB,tg F c) (u:HL den []) (o:iB):Sim (Y:=Y) (X.spOp dE C u o) (spOp (evCall C.E F) o) id:=by
 unfold X.spOp spOp
 cases hg:o.guard with
 | none=>exact GC hTB u o.dst o.op
 | some g=>
  obtain⟨j,want⟩:=g;intro σ k y hk
  cases ht:X.tOf σ j with
  | d t b=>cases t with
   | bool=>
    have hk:(bif b then ((if want then X.evop dE C u o.dst o.op else X.setNo dE o.dst) (X.known dE j true (X.lgR (.t j) σ)) k) else ((if want then X.setNo dE o.dst else X.evop dE C u o.dst o.op) (X.known dE j false (X.lgR (.t j) σ)) k))=some y:=by
     have hk:X.guardX dE j want (X.evop dE C u o.dst o.op) (X.setNo dE o.dst) (X.tOf σ j) (X.lgR (.t j) σ) k=some y:=hk;rw[ht] at hk;exact hk
    have key:∀(m:XM den Option Y Unit) (s:SP Unit),Sim m s id→m (X.known dE j b (X.lgR (.t j) σ)) k=some y→∃a σ',s.run (erS σ)=some (id a,erS σ')∧ms σ σ' (.t j :: (s.foot (erS σ)).1,(s.foot (erS σ)).2)∧k a σ'=some y:=by
     intro m s hm h;have e:erS (X.known dE j b (X.lgR (.t j) σ))=erS σ:=En (σ:=X.lgR (.t j) σ) ht;obtain⟨a,σ',r1,n1,k1⟩:=hm _ k y h;rw[e] at r1 n1;refine⟨a,σ',r1,⟨fun x hx=>?_,fun x hx=>n1.w x hx,fun x hx=>n1.r0 x (by simp[X.known,X.lgR,hx]),fun x hx=>n1.w0 x (by simpa [X.known,X.lgR] using hx)⟩,k1⟩;rcases List.mem_cons.1 hx with h | h
     ·exact n1.r0 x (by simp[X.known,X.lgR,h])
     ·exact n1.r x h
    have hst:(erS σ).t j=.v (.bool b):=by rw[JX,ht];rfl
    have res:∀(s:SP Unit),(if b=want then evop (evCall C.E F) o.dst o.op else setNo o.dst)=s→(∃a σ',s.run (erS σ)=some (id a,erS σ')∧ms σ σ' (.t j :: (s.foot (erS σ)).1,(s.foot (erS σ)).2)∧k a σ'=some y)→∃a σ',(SP.rdT j fun t=>match t with | .v (.bool b)=>if b=want then evop (evCall C.E F) o.dst o.op else setNo o.dst | .tup []=>setNo o.dst | _=>.fail).run (erS σ)=some (id a,erS σ')∧ms σ σ' ((SP.rdT j fun t=>match t with | .v (.bool b)=>if b=want then evop (evCall C.E F) o.dst o.op else setNo o.dst | .tup []=>setNo o.dst | _=>.fail).foot (erS σ))∧k a σ'=some y:=by
     rintro s hs ⟨a,σ',r1,n1,k1⟩;refine⟨a,σ',?_,?_,k1⟩
     ·simp only[SP.run,hst,hs];exact r1
     ·simp only[SP.foot,hst,hs];exact n1
    cases b with
    | true=>
     cases want with
     | true=>exact res _ (if_pos rfl) (key _ _ (GC hTB u o.dst o.op) hk)
     | false=>exact res _ (if_neg (by simp)) (key _ _ (uT o.dst) hk)
    | false=>
     cases want with
     | true=>exact res _ (if_neg (by simp)) (key _ _ (uT o.dst) hk)
     | false=>exact res _ (if_pos rfl) (key _ _ (GC hTB u o.dst o.op) hk)
   | _=>
    have hk:X.guardX dE j want (X.evop dE C u o.dst o.op) (X.setNo dE o.dst) (X.tOf σ j) (X.lgR (.t j) σ) k=some y:=hk;rw[ht] at hk;cases hk
  | tup l=>
   have hk:X.guardX dE j want (X.evop dE C u o.dst o.op) (X.setNo dE o.dst) (X.tOf σ j) (X.lgR (.t j) σ) k=some y:=hk;rw[ht] at hk
   cases l with
   | cons=>cases hk
   | nil=>
    have hst:(erS σ).t j=.tup []:=by rw[JX,ht];rfl
    obtain⟨a,σ',r1,n1,k1⟩:=uT o.dst (X.lgR (.t j) σ) k y hk;have r1:(setNo o.dst).run (erS σ)=some (id a,erS σ'):=r1;have n1:ms (X.lgR (.t j) σ) σ' ((setNo o.dst).foot (erS σ)):=n1;refine⟨a,σ',?_,?_,k1⟩
    ·simp only[SP.run,hst];exact r1
    ·simp only[SP.foot,hst];refine⟨fun x hx=>?_,n1.w,fun x hx=>n1.r0 x (by simp[X.lgR,hx]),fun x hx=>n1.w0 x hx⟩;rcases List.mem_cons.1 hx with h | h
     ·exact n1.r0 x (by simp[X.lgR,h])
     ·exact n1.r x h
  | _=>
   have hk:X.guardX dE j want (X.evop dE C u o.dst o.op) (X.setNo dE o.dst) (X.tOf σ j) (X.lgR (.t j) σ) k=some y:=hk;rw[ht] at hk;cases hk
end
section
variable {α β γ δ Y:Type}
theorem IM{F:fq}{C:X.Cfg}(hTB:∀c∈C.TB,tg F c) (u:HL den []):∀(ops:List iB) {σ:XS den}{k:Unit→XS den→Option Y}{y:Y},X.spOps dE C u ops σ k=some y→∃ σ',qk (evCall C.E F) ops (erS σ)=some (erS σ')∧k () σ'=some y:=by
 intro ops
 induction ops with
 | nil=>intro σ k y h;exact⟨σ,rfl,h⟩
 | cons o ops ih=>
  intro σ k y h;obtain⟨a,σ1,r1,_,h1⟩:=D4 hTB u o σ _ y h;obtain⟨σ',r2,h2⟩:=ih h1;refine⟨σ',?_,h2⟩;simp only[qk];rw[D2 r1];exact r2
def Ew(f g:p8):Prop:=(∀x∈f.1,x∈g.1)∧∀x∈f.2,x∈g.2
inductive L8:List (Nat×p8)→List (Nat×p8)→Prop
 | nil:L8 [] []
 | cons {i:Nat} {f g:p8} {l r:List (Nat×p8)} (h:Ew f g) (t:L8 l r):L8 ((i,f) :: l) ((i,g) :: r)
theorem ry{a a' b b':List Loc}(ha:∀x∈a,x∈a') (hb:∀x∈b,x∈b') (h:CC a' b'=false):CC a b=false:=by
 unfold CC at h ⊢;rw[List.any_eq_false] at h ⊢;intro x hx;have:=h x (ha x hx);simp only[Bool.not_eq_true,List.any_eq_false] at this ⊢;intro z hz;exact this z (hb z hz)
theorem F2{f f' g g':p8}(h1:Ew f f') (h2:Ew g g') (h:oa f' g'=false):oa f g=false:=by
 unfold oa at h ⊢;simp only[Bool.or_eq_false_iff] at h ⊢;obtain⟨⟨⟨a,b⟩,c⟩,d⟩:=h;exact⟨⟨⟨ry h1.2 h2.1 a,ry h1.2 h2.2 b⟩,ry h2.2 h1.1 c⟩,ry h2.2 h1.2 d⟩
theorem Hx{deps:List (List Nat)}{j:Nat}{f f':p8}(hf:Ew f f') {l r:List (Nat×p8)}(h:L8 l r):(r.all fun y=>!oa f' y.2 || (deps.getD y.1 []).contains j)=true→(l.all fun y=>!oa f y.2 || (deps.getD y.1 []).contains j)=true:=by
 induction h with
 | nil=>exact id
 | cons h t ih=>
  intro hr;simp only[List.all_cons,Bool.and_eq_true] at hr ⊢;refine⟨?_,ih hr.2⟩;simp only[Bool.or_eq_true,Bool.not_eq_true'] at hr ⊢;rcases hr.1 with h3 | h3
  ·exact .inl (F2 hf h h3)
  ·exact .inr h3
theorem AW{deps:List (List Nat)}{l r:List (Nat×p8)}(h:L8 l r):iz deps r=true→iz deps l=true:=by
 induction h with
 | nil=>exact id
 | cons h t ih=>
  intro hr;simp only[iz,Bool.and_eq_true] at hr ⊢;exact⟨Hx h t hr.1,ih hr.2⟩
theorem KM{F:fq}{C:X.Cfg}(hTB:∀c∈C.TB,tg F c) (u:HL den []) (ops:List iB):∀(L:List Nat) {σ:XS den}{k:List (Nat×p8)→XS den→Option Y}{y:Y},X.spFL dE C u ops L σ k=some y →
 ∃fs gs σ',mz (fun i=>spOp (evCall C.E F) (ops.getD i Ax)) L (erS σ)=some (fs,erS σ')∧L8 fs gs∧k gs σ'=some y:=by
 intro L
 induction L with
 | nil=>intro σ k y h;exact⟨[],[],σ,rfl,.nil,h⟩
 | cons i L ih=>
  intro σ k y h;have h:X.spOp dE C u (ops.getD i Ax) ⟨σ.tm,σ.ce,σ.vr,([],[])⟩ (fun _ σ1=>X.spFL dE C u ops L σ1 fun fs σ2=>k ((i,σ1.lg) :: fs) σ2)=some y:=h;obtain⟨a,σ1,r1,n1,h1⟩:=D4 hTB u _ _ _ y h;have r1:(spOp (evCall C.E F) (ops.getD i Ax)).run (erS σ)=some (a,erS σ1):=r1;have n1:ms ⟨σ.tm,σ.ce,σ.vr,([],[])⟩ σ1 ((spOp (evCall C.E F) (ops.getD i Ax)).foot (erS σ)):=n1;obtain⟨fs,gs,σ',r2,le,h2⟩:=ih h1;refine⟨(i,(spOp (evCall C.E F) (ops.getD i Ax)).foot (erS σ)) :: fs,(i,σ1.lg) :: gs,σ',?_,.cons ⟨n1.r,n1.w⟩ le,h2⟩;simp only[mz];rw[r1];simp only[oBS];rw[r2];rfl
theorem sN(L:List Nat) (σ:XS den) {t:XV den}(h:X.okN0 t=true):er (X.renorm0 L σ t)=renorm0 L (erS σ) (er t):=by
 cases t with
 | d t x=>cases t with
  | row o t=>cases o<;>first | rfl | simp[X.okN0] at h
  | nilr o=>cases o<;>rfl
  | nat=>simp[X.okN0] at h
  | pair a b=>simp[X.okN0] at h
  | _=>rfl
 | ptr p vs=>
  show er (if _ then _ else _)=(if _ then _ else _);by_cases hc:(L.contains p.root && vs==jj (qI σ.vr) p.root p.off p.hops.length)=true
  ·rw[if_pos hc,if_pos (by exact hc)];rfl
  ·rw[if_neg hc,if_neg (by exact hc)];rfl
 | pk p vs=>
  show er (if _ then _ else _)=(if _ then _ else _);by_cases hc:(L.contains p.root && vs==jj (qI σ.vr) p.root p.off (p.hops.length+1))=true
  ·rw[if_pos hc,if_pos (by exact hc)];rfl
  ·rw[if_neg hc,if_neg (by exact hc)];rfl
 | pw p vs sz lo n=>
  show er (if _ then _ else _)=(if _ then _ else _);by_cases hc:(L.contains p.root && vs==jj (qI σ.vr) p.root p.off (p.hops.length+1))=true
  ·rw[if_pos hc,if_pos (by exact hc)];rfl
  ·rw[if_neg hc,if_neg (by exact hc)];rfl
 | tup l=>cases l<;>rfl
 | gap=>simp[X.okN0] at h
 | _=>rfl
theorem Hg(L:List Nat) (σ:XS den) {t:XV den}(h:X.okN t=true):er (X.renorm L σ t)=renorm L (erS σ) (er t):=by
 have key:X.okN0 t=true→er (X.renorm0 L σ t)=renorm0 L (erS σ) (er t):=fun h=>sN L σ h
 cases t with
 | agg l=>
  simp only[X.renorm,er,renorm,jV,List.map_map];congr 1;refine List.map_congr_left fun x hx=>sN L σ (List.all_eq_true.1 h x hx)
 | fn f l=>
  simp only[X.renorm,er,renorm,jV,List.map_map];congr 1;refine List.map_congr_left fun x hx=>sN L σ (List.all_eq_true.1 h x hx)
 | d t x=>
  have:=key h
  cases t with
  | row o t=>cases o<;>exact this
  | nilr o=>cases o<;>exact this
  | _=>exact this
 | _=>exact key h
theorem Ka{α:Type}{P:α→Bool}:∀{l:List (Nat×α)}{i:Nat}{t:α},(l.all fun x=>P x.2)=true→ef l i=some t→P t=true:=by
 intro l
 induction l with
 | nil=>intro i t _ h;simp[ef] at h
 | cons x l ih=>
  intro i t ha h;obtain⟨k,v⟩:=x;simp only[List.all_cons,Bool.and_eq_true] at ha;simp only[ef] at h;split at h
  ·injection h with h;subst h;exact ha.1
  ·exact ih ha.2 h
theorem Ju(L:List Nat) (σ:XS den) (hok:X.okS σ=true):∀l:List Nat,(X.normT L σ l).map (fun x=>(x.1,er x.2))=normT L (erS σ) l:=by
 intro l
 induction l with
 | nil=>rfl
 | cons i l ih=>
  simp only[X.normT,normT];have e:ef (erS σ).tm i=(ef σ.tm i).map er:=uN _ _ _;rw[e]
  cases h:ef σ.tm i with
  | none=>exact ih
  | some t=>
   have ht:X.okN t=true:=Ka (P:=X.okN) hok h;simp only[Option.map_some,List.map_cons];rw[Hg L σ ht,ih]
theorem Jv(σ:XS den):∀l:List Nat,erC (X.normC σ l)=normC (erS σ) l:=by
 intro l
 induction l with
 | nil=>rfl
 | cons r l ih=>
  simp only[X.normC,normC];rw[yd]
  cases h:ef σ.ce r with
  | none=>exact ih
  | some c=>
   simp only[Option.map_some];show (r,erL c) :: erC _=_;rw[ih]
theorem yI{σ:XS den}(hok:X.okS σ=true) (pers:Prs):erS (X.norm σ pers)=(erS σ).norm pers:=by
 unfold X.norm St.norm;show (⟨(X.normT pers.2 σ pers.1).map _,erC (X.normC σ pers.2),[]⟩:St)=_;rw[Ju _ σ hok,Jv]
theorem It{σ:XS den}(hok:X.okS σ=true):erS (X.anew σ)=(erS σ).anew:=by
 unfold X.anew St.anew;rw[yI hok];congr 1;show (_,_)=(_,_);congr 1
 ·show _=(σ.tm.map fun x=>(x.1,er x.2)).map (·.1);rw[List.map_map];exact List.map_congr_left fun _ _=>rfl
 ·show _=(erC σ.ce).map (·.1);unfold erC;rw[List.map_map];exact List.map_congr_left fun _ _=>rfl
theorem IQ(x:Nat×Option Nat):Sim (Y:=Y) (X.shr1 dE x) (shr1 x) id:=by
 obtain⟨i,off⟩:=x;refine Sim.rdT fun t=>?_
 cases off with
 | none=>cases t with
  | pk p vs=>
   refine (gK false (.pk p vs)).bind fun t'=>Sim.opt fun t2 h2=>?_;rw[← vx h2];exact yu i t2
  | d t y=>cases t with
   | row o t=>cases o<;>exact .ret rfl
   | nilr o=>cases o<;>exact .ret rfl
   | _=>exact .ret rfl
  | agg l=>exact Sim.ite (fun _=>.fail) fun _=>.ret rfl
  | _=>exact .fail
 | some off=>cases t with
  | ptr p vs=>
   refine (fJ p _ vs).bind fun _=>Sim.ite (fun h=>?_) fun _=>.fail;rw[if_pos (by rw[← Ah];exact h),← DC];refine (jG _).bind fun t=>Sim.ite (fun ho=>?_) fun ho=>?_
   ·obtain⟨c,hc⟩:=mU ho;have hpk:=jF (Y:=Y) (X.addP p off) t;rw[hc] at hpk;rw[hc];exact hpk.bind fun t'=>(gK false t').bind fun _=>.ret rfl
   ·cases t with
    | d t y=>
     have h1:mu (er (.d t y))=false:=by rw[pU];simpa using ho
     cases t with
     | row o t=>cases o<;>first | exact .ret rfl | simp[X.isOwX,X.isOwT] at ho
     | nilr o=>cases o<;>first | exact .ret rfl | simp[X.isOwX,X.isOwT] at ho
     | _=>exact .ret rfl
    | _=>exact .fail
  | d t y=>cases t with
   | row o t=>cases o<;>exact .fail
   | nilr o=>cases o<;>exact .fail
   | _=>exact .fail
  | _=>exact .fail
theorem D5:∀l:List (Nat×Option Nat),Sim (Y:=Y) (X.shrs dE l) (shrs l) id:=by
 intro l
 induction l with
 | nil=>exact .ret rfl
 | cons x l ih=>exact (IQ x).bind fun _=>ih
theorem La{i:Nat}{σ:XS den}{u:HL den []}:∀{L:List Cz}{H:Cz}{h:HL den (lvS H.s)},X.selH dE i σ u L=some ⟨H,h⟩→X.convS dE H.s σ u=some h:=by
 intro L
 induction L with
 | nil=>intro H h hs;cases hs
 | cons H0 L ih=>
  intro H h hs;unfold X.selH at hs;split at hs
  ·rename_i h1 hc
   injection hs with hs
   injection hs with e1 e2
   subst e1;have e2:=eq_of_heq e2;subst e2;split at hc
   ·exact hc
   ·cases hc
  ·exact ih hs
theorem ye{Z:Type}{outs:List (jT×Shs)}{i:Nat}{h:HL den (yH (outs.map fun x=>lvS x.2) i)}{o:yo (outs.map fun x=>lvS x.2)}{x:jT×XS den}(K:jT×XS den→Option Z) (hm:sU (outs.map fun x=>lvS x.2) i h=some o) (hf:tO outs i h=some x):(k9 (outs.map fun x=>lvS x.2) o fun j ho=>X.onOut dE (tO outs j ho) K)=K x:=by
 rw[yf _ hm,hf];rfl
theorem IT{F:fq}{C:X.Cfg}(hTB:∀c∈C.TB,tg F c) (u:HL den []) {N:Nat}(hN:NN≤N):∀(tc:jU) (i:Nat) {Y:Type}(σ:XS den) (k:jT→XS den→Option Y) (y:Y),X.runC dE C u tc i σ k=some y→∃e σ',runC (evCall C.E F) N tc (erS σ)=some (e,erS σ')∧k e σ'=some y:=by
 intro tc
 induction tc with
 | skip=>intro i Y σ k y h;exact⟨.normal,σ,rfl,h⟩
 | nrm pers=>
  intro i Y σ k y h;have h:(if X.okS σ then k .normal (X.norm σ pers) else none)=some y:=h;split at h
  ·rename_i hok;exact⟨.normal,X.norm σ pers,by rw[yI hok];rfl,h⟩
  ·cases h
 | reg id draw ops pers=>
  intro i Y σ k y h
  cases draw with
  | none=>
   have h:X.spOps dE C u ops σ (fun _ σ'=>if X.okS σ' then k .normal (X.norm σ' pers) else none)=some y:=h;obtain⟨σ1,r1,h1⟩:=IM hTB u ops h;split at h1
   ·rename_i hok;refine⟨.normal,X.norm σ1 pers,?_,h1⟩;simp only[runC];rw[r1,yI hok];rfl
   ·cases h1
  | some deps=>
   have h:X.spFL dE C u ops (List.range ops.length) σ (fun fs σ'=>if rv deps fs && X.okS σ' then k .normal (X.norm σ' pers) else none)=some y:=h;obtain⟨fs,gs,σ1,r1,le,h1⟩:=KM hTB u ops _ h;split at h1
   ·rename_i hok;simp only[Bool.and_eq_true] at hok;rw[CU] at hok;refine⟨.normal,X.norm σ1 pers,?_,h1⟩;simp only[runC];rw[r1,yI hok.2];simp only[oBS];rw[if_pos (AW le hok.1)]
   ·cases h1
 | seq a b iha ihb=>
  intro i Y σ k y h
  have fin:∀(e:jT) (σ1:XS den),runC (evCall C.E F) N a (erS σ)=some (e,erS σ1)→(match e with | .normal=>X.runC dE C u b (i+1+X.marks a) σ1 k | e=>k e σ1)=some y→∃e σ',runC (evCall C.E F) N (.seq a b) (erS σ)=some (e,erS σ')∧k e σ'=some y:=by
   intro e σ1 r1 h1;simp only[runC];rw[r1];simp only[oBS]
   cases e with
   | normal=>exact ihb _ σ1 k y h1
   | exit j=>exact⟨_,σ1,rfl,h1⟩
   | ret=>exact⟨_,σ1,rfl,h1⟩
  unfold X.runC at h
  cases hs:X.selJ i C.HL with
  | none=>
   rw[hs] at h;obtain⟨e,σ1,r1,h1⟩:=iha _ σ _ y h;exact fin e σ1 r1 h1
  | some H=>
   rw[hs] at h;obtain⟨o,h1,h2⟩:=dM (show (X.runC dE C u a (i+1) σ _:Option _).bind _=some y from h);obtain⟨e,σ1,r1,h3⟩:=iha _ σ _ o h1
   cases hi:X.injE dE e σ1 u H.outs with
   | none=>rw[hi] at h3;cases h3
   | some x=>
    rw[hi] at h3;obtain⟨j,ho⟩:=x;have h3:sU (H.outs.map fun x=>lvS x.2) j ho=some o:=h3;obtain⟨x,hf,he,hσ⟩:=HZ hi;rw[ye _ h3 hf] at h2;rw[← hσ] at r1;rw[← he] at r1;exact fin x.1 x.2 r1 h2
 | cond c a b iha ihb=>
  intro i Y σ k y h
  have h:X.opd dE c σ (fun t _=>X.condX dE (X.runC dE C u a i (X.knownO dE c true σ) k) (X.runC dE C u b (i+X.marks a) (X.knownO dE c false σ) k) t)=some y:=by
   unfold X.runC at h;exact h
  obtain⟨t,σ1,r1,e1,_,h1⟩:=uB h
  cases t with
  | d t x=>cases t with
   | bool=>
    have hkn:erS (X.knownO dE c x σ)=erS σ:=by
     cases c with
     | t j=>
      have hj:X.tOf σ j=.d .bool x:=by
       have h9:X.condX dE (X.runC dE C u a i (X.knownO dE (.t j) true σ) k) (X.runC dE C u b (i+X.marks a) (X.knownO dE (.t j) false σ) k) (X.tOf σ j)=some y:=h;have r1:(some ((erS σ).t j,erS σ):Option (TV×St))=some (er (.d .bool x),erS σ):=r1
       injection r1 with r1
       injection r1 with r1 _
       rw[JX] at r1
       cases ht:X.tOf σ j with
       | d t2 z=>cases t2 with
        | bool=>rw[ht] at r1;injection r1 with r1;injection r1 with r1;rw[show z=x from r1]
        | _=>rw[ht] at h9;cases h9
       | _=>rw[ht] at h9;cases h9
      exact En hj
     | _=>rfl
    have r1:(opd c).run (erS σ)=some (.v (.bool x),erS σ):=r1;simp only[runC];rw[r1];simp only[oBS]
    cases x with
    | true=>
     rw[← hkn];exact iha _ _ k y h1
    | false=>
     rw[← hkn];exact ihb _ _ k y h1
   | _=>cases h1
  | _=>cases h1
 | block id b ih=>
  intro i Y σ k y h;unfold X.runC at h;obtain⟨e,σ1,r1,h1⟩:=ih _ σ _ y h;simp only[runC];rw[r1];simp only[oBS]
  cases e with
  | normal=>exact⟨_,σ1,rfl,h1⟩
  | ret=>exact⟨_,σ1,rfl,h1⟩
  | exit j=>
   dsimp only at h1;by_cases hj:j=id
   ·rw[if_pos hj] at h1;exact⟨.normal,σ1,by dsimp only;rw[if_pos hj],h1⟩
   ·rw[if_neg hj] at h1;exact⟨.exit j,σ1,by dsimp only;rw[if_neg hj],h1⟩
 | loop b ih=>
  intro i Y σ k y h;unfold X.runC at h
  cases hs:X.selH dE i σ u C.HL with
  | none=>rw[hs] at h;cases h
  | some x=>
   obtain⟨H,h0⟩:=x;rw[hs] at h;have hconv:=Am (La hs);obtain⟨o,h1,h2⟩:=dM (show (dO _ NN h0).bind _=some y from h)
   have key:∀(n:Nat) (hd:HL den (lvS H.s)) (o:yo (H.outs.map fun x=>lvS x.2)),dO (fun h=>X.runC dE C u b (i+1) (DA H.s h) (X.roundK dE H u)) n hd=some o→∀N',n≤N'→∃x j ho,iter (runC (evCall C.E F) N b) N' (erS (DA H.s hd))=some (x.1,erS x.2)∧sU (H.outs.map fun x=>lvS x.2) j ho=some o∧tO H.outs j ho=some x:=by
    intro n
    induction n with
    | zero=>intro hd o h;cases h
    | succ n ihn=>
     intro hd o h N' hle;obtain⟨N',rfl⟩:∃N'',N'=N''+1:=⟨N' - 1,by omega⟩;obtain⟨z,hz,hz2⟩:=dM (show (X.runC dE C u b (i+1) (DA H.s hd) _:Option _).bind _=some o from h);obtain⟨e,σ1,r1,h3⟩:=ih _ _ _ z hz;simp only[iter];rw[r1];simp only[oBS]
     have other:∀e':jT,(∀s:Option (HL den (lvS H.s)⊕yo (H.outs.map fun x=>lvS x.2)),s=some z→s=X.onOut dE (X.injE dE e' σ1 u H.outs) (fun x=>dE.exitL (lvS H.s) (H.outs.map fun x=>lvS x.2) x.1 x.2)→∃x j ho,(some (e',erS σ1):Option (jT×St))=some (x.1,erS x.2)∧sU (H.outs.map fun x=>lvS x.2) j ho=some o∧tO H.outs j ho=some x):=by
      intro e' s hs1 hs2;rw[hs1] at hs2
      cases hi:X.injE dE e' σ1 u H.outs with
      | none=>rw[hi] at hs2;cases hs2
      | some x=>
       rw[hi] at hs2;obtain⟨j,ho⟩:=x;obtain⟨t,ht1,ht2⟩:=gV (show (sU (H.outs.map fun x=>lvS x.2) j ho).map Sum.inr=some z from hs2.symm);subst ht2;obtain⟨x,hf,he,hσ⟩:=HZ hi;refine⟨x,j,ho,by rw[he,hσ],?_,hf⟩;have:some t=some o:=hz2;rw[← this];exact ht1
     cases e with
     | normal=>
      have h3:X.onOut dE (X.convS dE H.s σ1 u) (dE.next (lvS H.s) (H.outs.map fun x=>lvS x.2))=some z:=h3
      cases hc:X.convS dE H.s σ1 u with
      | none=>rw[hc] at h3;cases h3
      | some h'=>
       rw[hc] at h3;have h3:some (Sum.inl h')=some z:=h3
       injection h3 with h3
       subst h3;rw[← Am hc];exact ihn h' o hz2 N' (by omega)
     | exit j=>exact other (.exit j) _ h3 rfl
     | ret=>exact other .ret _ h3 rfl
   obtain⟨x,j,ho,r1,hm,hf⟩:=key NN h0 o h1 N hN;rw[ye _ hm hf] at h2;refine⟨x.1,x.2,?_,h2⟩;simp only[runC];rw[← hconv];exact r1
 | exit id=>intro i Y σ k y h;exact⟨.exit id,σ,rfl,h⟩
 | ret=>intro i Y σ k y h;exact⟨.ret,σ,rfl,h⟩
 | pre l a ih=>
  intro i Y σ k y h
  have h:X.shrs dE l σ (fun _ σ'=>if X.okS σ' then X.runC dE C u a i (X.anew σ') k else none)=some y:=by
   unfold X.runC at h;exact h
  obtain⟨_,σ1,r1,_,h1⟩:=D5 l σ _ y h;split at h1
  ·rename_i hok;obtain⟨e,σ2,r2,h2⟩:=ih _ _ k y h1;refine⟨e,σ2,?_,h2⟩;simp only[runC];rw[r1];simp only[oBS];rw[← It hok];exact r2
  ·cases h1
 | post a l ih=>
  intro i Y σ k y h
  have h:X.runC dE C u a i σ (fun e σ'=>X.shrs dE l σ' fun _ σ2=>if X.okS σ2 then k e (X.anew σ2) else none)=some y:=by
   unfold X.runC at h;exact h
  obtain⟨e,σ1,r1,h1⟩:=ih _ _ _ y h;obtain⟨_,σ2,r2,_,h2⟩:=D5 l σ1 _ y h1;split at h2
  ·rename_i hok;refine⟨e,X.anew σ2,?_,h2⟩;simp only[runC];rw[r1];simp only[oBS];rw[r2];simp only[oBS];rw[It hok]
  ·cases h2
end
section
variable {α β γ δ Y:Type}
theorem xP(np:Nat) (t:XV den):Sim (Y:=Y) (X.takeR1 dE np t) (takeR1 np (er t)) er:=by
 have key:Sim (Y:=Y) (X.take1 dE true t) (take1 true (er t)) er:=gK true t
 cases t with
 | pk p vs=>exact gK _ (.pk p vs)
 | d t y=>cases t with
  | row o t=>cases o<;>exact key
  | nilr o=>cases o<;>exact key
  | _=>exact key
 | _=>exact key
theorem E6(np:Nat):∀l:List (XV den),Sim (Y:=Y) (X.takeRL dE np l) (takeRL np (erL l)) erL:=by
 intro l
 induction l with
 | nil=>exact .ret rfl
 | cons t l ih=>exact (xP np t).bind fun t'=>ih.bind fun r'=>.ret rfl
theorem sG(np:Nat) (t:XV den):Sim (Y:=Y) (X.takeRV dE np t) (takeRV np (er t)) fun x=>(erL x.1,x.2):=by
 have one:∀t:XV den,Sim (Y:=Y) (X.bind (X.takeR1 dE np t) fun t'=>X.ret ([t'],RSh.one)) ((takeR1 np (er t)).bind fun t'=>.ret ([t'],.one)) fun x=>(erL x.1,x.2):=fun t=>(xP np t).bind fun t'=>.ret rfl;have key:=one t
 cases t with
 | agg l=>exact (E6 np l).bind fun l'=>.ret (by simp only[fH])
 | d t y=>cases t with
  | row o t=>cases o<;>exact key
  | nilr o=>cases o<;>exact key
  | _=>exact key
 | _=>exact key
theorem IW(np:Nat) (q:TRs):Sim (Y:=Y) (X.res1 dE np q) (res1 np q) fun x=>(erL x.1,x.2):=by
 cases q with
 | tmp t=>exact Sim.rdT fun tv=>sG np tv
 | cell t n=>
  refine Sim.rdT fun tv=>?_
  cases tv with
  | ptr p vs=>
   refine (fJ p _ vs).bind fun _=>?_
   cases n with
   | none=>exact (jG p).bind fun t=>(jF p t).bind fun t'=>sG np t'
   | some n=>exact (AI p n).bind fun l=>sG np (.agg l)
  | d t y=>cases t with
   | row o t=>cases o<;>exact .fail
   | nilr o=>cases o<;>exact .fail
   | _=>exact .fail
  | _=>exact .fail
theorem IU(np:Nat):∀l:List TRs,Sim (Y:=Y) (X.resL dE np l) (resL np l) fun x=>(erL x.1,x.2):=by
 intro l
 induction l with
 | nil=>exact .ret rfl
 | cons q l ih=>exact (IW np q).bind fun x=>ih.bind fun y=>.ret (by simp only[pX])
theorem IV(np:Nat) (l:List TRs):Sim (Y:=Y) (X.resF dE np l) (resF np l) fun x=>(erL x.1,x.2):=by
 have base:=IU (Y:=Y) np l
 cases l with
 | nil=>exact base
 | cons q r=>cases r with
  | cons q2 r=>cases q<;>exact base
  | nil=>cases q with
   | cell t n=>exact base
   | tmp t=>
    refine Sim.rdT fun tv=>?_
    cases tv with
    | ptr p vs=>exact (fJ p _ vs).bind fun _=>.ret rfl
    | d ty y=>cases ty with
     | row o ty=>cases o<;>exact base
     | nilr o=>cases o<;>exact base
     | _=>exact base
    | _=>exact base
theorem HR(t:XV den):(∃p vs,t=.ptr p vs)∨(X.isPtrX t=false∧∀p vs,er t≠.ptr p vs):=by
 cases t with
 | ptr p vs=>exact .inl ⟨p,vs,rfl⟩
 | d t y=>cases t with
  | row o t=>cases o<;>exact .inr ⟨rfl,by simp[er,er1]⟩
  | nilr o=>cases o<;>exact .inr ⟨rfl,by simp[er,er1]⟩
  | _=>exact .inr ⟨rfl,by simp[er,er1]⟩
 | gap t x i o=>exact .inr ⟨rfl,fun p vs h=>by cases h⟩
 | _=>exact .inr ⟨rfl,by simp[er]⟩
theorem JF{t:XV den}(h:X.isShX t=true):∃c,er t=.sl c:=by
 cases t with
 | d t y=>cases t with
  | row o t=>cases o with
   | false=>exact⟨_,rfl⟩
   | true=>cases h
  | nilr o=>cases o with
   | false=>exact⟨_,rfl⟩
   | true=>cases h
  | _=>cases h
 | _=>cases h
theorem Fl{pp:List Nat}:∀{l:List (XV den)}{i:Nat},X.ptrsInX pp i l=true→mQ pp i (erL l)=true:=by
 intro l
 induction l with
 | nil=>intro i _;rfl
 | cons t l ih=>
  intro i h;simp only[X.ptrsInX,Bool.and_eq_true] at h;obtain⟨⟨h0,hs⟩,hr⟩:=h;rcases HR t with ⟨p,vs,rfl⟩ | ⟨h1,h2⟩
  ·show (pp.contains i && mQ pp (i+1) (erL l))=true;rw[ih hr,Bool.and_true];simpa [X.isPtrX] using h0
  ·show mQ pp i (er t :: erL l)=true;rw[h1,Bool.false_or] at hs
   cases hsh:X.isShX t with
   | true=>
    obtain⟨c,hc⟩:=JF hsh;rw[hc];exact ih hr
   | false=>
    rw[hsh,Bool.false_or] at hs
    cases he:er t with
    | ptr p vs=>exact absurd he (h2 p vs)
    | sl c=>exact ih hr
    | _=>show (!pp.contains (1000+i) && mQ pp (i+1) (erL l))=true;rw[hs,ih hr];rfl
theorem CV(l:List (XV den)):∀i,(fR i l).map (fun x=>(x.1,er x.2))=fR i (erL l):=by
 induction l with
 | nil=>intro i;rfl
 | cons t l ih=>intro i;simp only[fR,List.map_cons,erL,ih]
theorem Lu(vals:List (XV den)) (pts:List (Nat×List (XV den))):erS (X.mkSt vals pts)=mkSt (erL vals) (erC pts):=by
 unfold X.mkSt mkSt erS;simp only[CV]
theorem Jl(σ:XS den) (pts:List (Nat×List (XV den))):erC (X.ptsOf σ pts)=(erC pts).map fun x=>(x.1,(ef (erS σ).ce x.1).getD []):=by
 induction pts with
 | nil=>rfl
 | cons x pts ih=>
  show (x.1,erL ((ef σ.ce x.1).getD [])) :: erC (X.ptsOf σ pts)=(x.1,(ef (erS σ).ce x.1).getD []) :: _;rw[ih,yd];cases ef σ.ce x.1<;>rfl
theorem Ld{F:fq}{C:X.Cfg}(hTB:∀c∈C.TB,tg F c) (u:HL den []) {N:Nat}(hN:NN≤N) {tf:TFn}{outs:List XO}{vals:List (XV den)}{pts:List (Nat×List (XV den))}{o:yo (outs.map lvO)}(h:X.runT dE C u tf outs vals pts=some o) :
 ∃x,k9 (outs.map lvO) o (fun i ho=>lJ outs i ho)=some x∧runT C.E F N tf (erL vals) (erC pts)=some (⟨erL x.1,x.2.1⟩,erC x.2.2):=by
 unfold X.runT at h;split at h
 case isFalse=>cases h
 rename_i hc;obtain⟨e,σ1,r1,h1⟩:=IT hTB u hN tf.body 0 _ _ o h
 have key:X.resF dE tf.np tf.res σ1 (fun y σ'=>X.onOut dE (X.injO dE y.1 y.2 (X.ptsOf σ' pts) u outs) fun x=>dE.out (outs.map lvO) x.1 x.2)=some o →
  ∃x,k9 (outs.map lvO) o (fun i ho=>lJ outs i ho)=some x∧(((resF tf.np tf.res).run (erS σ1)).bind fun y=>some ((⟨y.1.1,y.1.2⟩:Gb),(erC pts).map fun x=>(x.1,(ef y.2.ce x.1).getD [])))=some (⟨erL x.1,x.2.1⟩,erC x.2.2):=by
  intro h2;obtain⟨y,σ2,r2,_,h3⟩:=IV tf.np tf.res σ1 _ o h2
  cases hi:X.injO dE y.1 y.2 (X.ptsOf σ2 pts) u outs with
  | none=>rw[hi] at h3;cases h3
  | some z=>
   rw[hi] at h3;obtain⟨i,ho⟩:=z;obtain⟨x,hf,e1,e2,e3⟩:=LA hi;refine⟨x,?_,?_⟩
   ·rw[yf _ (show sU (outs.map lvO) i ho=some o from h3)];exact hf
   ·rw[r2];simp only[oBS];rw[e1,e2,e3,Jl]
 have hcond:(erL vals).length=tf.np∧(mQ tf.pp 0 (erL vals) && (!tf.pp.contains 1000 || (erC pts).isEmpty))=true:=by
  have h2:=hc.2;rw[Bool.and_eq_true] at h2;refine⟨by rw[fH];exact hc.1,?_⟩;rw[Fl h2.1,Bool.true_and];have h3:=h2.2
  cases pts with
  | nil=>simp[erC]
  | cons x pts=>simpa [erC] using h3
 unfold runT;rw[if_pos hcond,← Lu,r1];simp only[oBS]
 cases e with
 | exit j=>cases h1
 | normal=>exact key h1
 | ret=>exact key h1
end
theorem JZ{E:Env}{T:FuncId→Option TFn}{B F:fq}{N:Nat}(hN:NN≤N) {C:X.Cfg}(hE:C.E=E) (hTB:∀c∈C.TB,tg F c) {c:Ctr}{tf:TFn}(hT:T c.f=some tf)
 (hg:∀h,X.runT dE C () tf c.outs (iH c.ins _ h).1 (rL c.pts [] (iH c.ins _ h).2).1=c.g h):tg (E4 E T B F N) c:=by
 intro h o x ho hx;rw[E3 hT];rw[← hg h] at ho;obtain⟨x',h1,h2⟩:=Ld hTB () hN ho;rw[hx] at h1
 injection h1 with h1
 rw[← h1,hE] at h2;exact h2
def Lvl(E:Env) (T:FuncId→Option TFn) (B:fq) (n:Nat) (c:Ctr):Prop:=∀k,n≤k→tg (runF E T B (NN+k)) c
def EV(E:Env) (T:FuncId→Option TFn) (B:fq) (n:Nat):List Ctr→Prop
 | []=>True
 | c :: r=>Lvl E T B n c∧EV E T B n r
theorem Lvl.mono{E:Env}{T:FuncId→Option TFn}{B:fq}{n m:Nat}{c:Ctr}(h:Lvl E T B n c) (hm:n≤m):Lvl E T B m c:=fun k hk=>h k (Nat.le_trans hm hk)
theorem EV.get{E:Env}{T:FuncId→Option TFn}{B:fq}{n:Nat}:∀{l:List Ctr},EV E T B n l→∀c∈l,Lvl E T B n c:=by
 intro l
 induction l with
 | nil=>intro _ c hc;simp at hc
 | cons x l ih=>
  intro h c hc;rcases List.mem_cons.1 hc with rfl | hc
  ·exact h.1
  ·exact ih h.2 c hc
theorem MU{E:Env}{T:FuncId→Option TFn}{B:fq}{n:Nat}{C:X.Cfg}(hE:C.E=E) (hTB:EV E T B n C.TB) {c:Ctr}{tf:TFn}(hT:T c.f=some tf)
 (hg:∀h,X.runT dE C () tf c.outs (iH c.ins _ h).1 (rL c.pts [] (iH c.ins _ h).2).1=c.g h):Lvl E T B (n+1) c:=by
 intro k hk;obtain⟨k,rfl⟩:∃k',k=k'+1:=⟨k - 1,by omega⟩;exact JZ (F:=runF E T B (NN+k)) (N:=NN+k) (Nat.le_add_right _ _) hE (fun c hc=>hTB.get c hc k (by omega)) hT hg
theorem FZ{P:Program}{H:Nat→List (Nat×Option Nat)}{f:FuncId}{tf:TFn}(h:s6 P H f=some tf):∃fn,P.funcs[f]?=some fn∧tf.np=fn.params.size∧tf.nt=fn.ntmps:=by
 unfold s6 at h;split at h
 case h_2=>simp at h
 rename_i fn hf;split at h
 case h_2=>simp at h
 split at h
 ·rename_i tf' hcl
  injection h with h
  subst h;obtain⟨_,g2,g3,_⟩:=tQ hcl;exact⟨fn,hf,g3,g2⟩
 simp only at h;split at h
 ·injection h with h
  subst h;exact⟨fn,hf,rfl,rfl⟩
 ·simp at h
theorem KK{P:Program}(H:FuncId→Nat→List (Nat×Option Nat)) (hall:(P.funcs.all fun fn=>decide (fn.params.size≤fn.ntmps) && !(fn.name=="runtime.NumGoroutine"))=true):Iw P fun f=>s6 P (H f) f:=by
 refine IH fun f tf h=>?_;obtain⟨fn,hf,e1,e2⟩:=FZ h;obtain⟨hlt,he⟩:=Array.getElem?_eq_some_iff.1 hf;have:=Array.all_eq_true.1 hall f hlt;rw[he] at this;simp only[Bool.and_eq_true,decide_eq_true_eq,Bool.not_eq_true'] at this;refine⟨⟨H f,h⟩,by rw[e1,e2];exact this.1,fun fn' hf'=>?_⟩;rw[hf] at hf'
 injection hf' with hf'
 subst hf';exact this.2
def Nq:TFn:=⟨0,[],0,.skip,[]⟩
theorem M3{o:Option TFn}(h:o.isSome=true):o=some (o.getD Nq):=by
 cases o with
 | none=>simp at h
 | some x=>rfl
def Np(P:Program) (f:FuncId):List (Option Nat):=match P.funcs[f]? with
 | some fn=>fn.params.toList.map fun t=>match P.underlying t with | some (.pointer e)=>xL P e | _=>none
 | none=>[]
def noB:fq:=fun _ _ _=>none
theorem noB_ok{P:Program}:kD P noB:=fun f vals pts res pts' h=>by simp[noB] at h
abbrev I64:CT:=.int .i64
def w64(x:Int):Int:=IntKind.wrap .i64 x
def wk(k:IntKind) (x:Int):Int:=IntKind.wrap k x
def yr(s:ByteArray):Int:=(s.size:Int)
def bytes(l:List Nat):ByteArray:=⟨(l.map UInt8.ofNat).toArray⟩
end Go.Proofs.YtdcpgpngdcfhhaaGreat
namespace Go.Proofs.YtdcpgpngdcfhhaaGreat
open Go.RowKit
set_option maxRecDepth 100000
abbrev KCe:CT:=(.pair (.int .u8) (.int .u16))
abbrev KCn:CT:=(.pair (.int .u8) (.pair (.int .u16) (.pair I64 I64)))
abbrev KIn:CT:=(.pair I64 (.pair I64 (.pair I64 (.pair I64 I64))))
abbrev KOp:CT:=(.pair I64 (.pair I64 .bool))
abbrev KA:CT:=(.pair I64 (.pair .bool (.row false KCe)))
abbrev Ke:CT:=(.pair I64 (.pair (.row false KCe) (.pair I64 (.pair I64 (.pair I64 (.pair I64 (.pair I64 (.int .u16))))))))
abbrev NG:CT:=(.pair I64 (.pair I64 (.row false KCn)))
abbrev qb:CT:=(.pair I64 (.pair I64 (.pair I64 (.pair I64 (.pair I64 (.pair I64 (.pair (.int .u16) (.row false KCn))))))))
abbrev rb:CT:=(.pair I64 (.pair I64 (.pair I64 (.pair I64 (.pair I64 (.pair I64 (.pair I64 (.pair I64 (.pair I64 (.pair (.row false KCn) (.pair (.row false KCn) (.pair (.int .u8) (.pair (.int .u16) (.pair I64 (.pair I64 (.pair (.row false KCn) (.pair I64 .bool)))))))))))))))))
abbrev L3:CT:=(.pair I64 (.pair .bool (.row true KCe)))
abbrev L1:CT:=(.pair I64 (.pair (.row true KCe) (.pair I64 (.pair I64 (.pair I64 (.pair I64 (.pair I64 (.int .u16))))))))
abbrev DU:CT:=(.pair I64 (.pair I64 (.row true KCn)))
abbrev EU:CT:=(.pair I64 (.pair I64 (.pair I64 (.pair I64 (.pair I64 (.pair I64 (.pair (.int .u16) (.row true KCn))))))))
abbrev Ix:CT:=(.pair I64 (.pair I64 (.pair I64 (.pair I64 (.pair I64 (.pair I64 (.pair I64 (.pair I64 (.pair I64 (.pair (.row true KCn) (.pair (.row true KCn) (.pair (.int .u8) (.pair (.int .u16) (.pair I64 (.pair I64 (.pair (.row true KCn) (.pair I64 .bool)))))))))))))))))
abbrev eU:CT:=(.row false KIn)
abbrev dY:CT:=(.row false KCn)
abbrev RW:CT:=(.row false (.int .u16))
abbrev RI:CT:=(.row false I64)
abbrev eG:CT:=(.row false KCe)
abbrev eS:CT:=(.row false KA)
abbrev iC:CT:=(.row true L3)
abbrev fB:CT:=(.row false Ke)
abbrev oD:CT:=(.row true L1)
abbrev gh:CT:=(.row false KOp)
abbrev iD:CT:=(.row false NG)
abbrev ER:CT:=(.row false rb)
abbrev DCe:Type:=(Int×Int)
abbrev DCn:Type:=(Int×Int×Int×Int)
abbrev DIn:Type:=(Int×Int×Int×Int×Int)
abbrev DOp:Type:=(Int×Int×Bool)
abbrev DLn:Type:=(Int×Bool×List DCe)
abbrev DTh:Type:=(Int×(List DCe)×Int×Int×Int×Int×Int×Int)
abbrev DOu:Type:=(Int×Int×List DCn)
abbrev DTs:Type:=(Int×Int×Int×Int×Int×Int×Int×List DCn)
abbrev DEn:Type:=(Int×Int×Int×Int×Int×Int×Int×Int×Int×(List DCn)×(List DCn)×Int×Int×Int×Int×(List DCn)×Int×Bool)
def HH(f i:Nat):List (Nat×Option Nat):=if f=102 then (if i=1000011 then [(11,some 27)] else if i=1000005 then [(2,some 27)] else []) else if f=170 then (if i=1000006 then [(8,some 1)] else if i=1000014 then [(8,some 1)] else []) else if f=85 then (if i=0 then [(8,none)] else []) else if f=52 then (if i=2 then [(3,some 1)] else if i=3 then [(3,some 0)] else []) else if f=95 then (if i=0 then [(8,some 0),(8,some 1),(8,some 2),(8,some 3),(8,some 4)] else []) else if f=89 then (if i=0 then [(4,some 0),(4,some 2),(4,some 3)] else []) else if f=53 then (if i=0 then [(6,some 0),(6,some 1),(6,some 2),(6,some 3),(6,some 5),(6,some 6),(6,some 7),(6,some 8),(6,some 9),(6,some 10),(6,some 11),(6,some 12),(6,some 13),(6,some 14),(6,some 15)] else []) else if f=127 then (if i=2000067 then [(2,none),(4,none),(8,none),(11,none),(12,none),(0,some 10),(0,some 18),(0,some 24)] else if i=0 then [(8,some 0)] else []) else if f=100 then (if i=1000012 then [(7,none)] else if i=0 then [(8,some 0),(8,some 2),(8,some 3),(8,some 4),(9,some 6),(9,some 7)] else []) else if f=132 then (if i=3000008 then [(9,some 0),(9,some 1)] else if i=0 then [(6,some 0),(6,some 1)] else []) else if f=154 then (if i=0 then [(4,some 0),(4,some 1),(4,some 2),(4,some 3),(4,some 4),(4,some 5),(5,some 4)] else []) else if f=133 then (if i=0 then [(0,some 14),(0,some 15),(4,some 4)] else []) else if f=134 then (if i=1000007 then [(17,none)] else if i=0 then [(8,some 2),(8,some 3),(8,some 4)] else []) else if f=158 then (if i=0 then [(8,some 2),(8,some 3),(8,some 4)] else []) else if f=135 then (if i=1000002 then [(9,none)] else []) else if f=136 then (if i=1000004 then [(4,some 2)] else if i=3 then [(6,some 0),(6,some 1)] else []) else if f=56 then (if i=1000011 then [(5,none)] else if i=1000014 then [(7,none)] else if i=0 then [(4,some 0),(4,some 1),(4,some 2),(4,some 3),(4,some 5),(4,some 6),(4,some 7),(4,some 8),(4,some 9),(4,some 10),(4,some 11),(4,some 12),(4,some 13),(4,some 14),(4,some 15)] else []) else if f=26 then (if i=0 then [(2,some 16),(2,some 17)] else []) else if f=29 then (if i=0 then [(6,some 0)] else []) else if f=34 then (if i=1000005 then [(8,none)] else []) else []
noncomputable def TT (f:FuncId):Option TFn:=s6 Tryz.prog (HH f) f
noncomputable def E0:Env:=⟨fun f=>if f=7 then some (1,[.arg 0,.val (.int .i64 0)]) else none,fun f=>Np Tryz.prog f⟩
theorem tt_ok:Iw Tryz.prog TT:=KK HH (by kernel_rfl)
abbrev qE:Shs:=⟨[],[],[],([],[])⟩
abbrev qS(s:List (Nat×Sh))(c:List (Nat×List Sh)):Shs:=⟨s,c,[],([],[])⟩
abbrev N1:CT:=.nilr true
abbrev N0:CT:=.nilr false
abbrev CW:CT:=.int .u16
abbrev CB:CT:=.int .u8
abbrev uL(l:List CT):List Sh:=l.map fun c=>.d c ()
abbrev pP(t r:Nat):Nat×Sh:=(t,.ptr ⟨r,0,[]⟩ [0])
abbrev sP(t:Nat)(c:CT):Nat×Sh:=(t,.d c ())
abbrev Lk(n:Nat)(c:Ctr):Prop:=Lvl E0 TT noB n c
theorem aN{m:Nat}:EV E0 TT noB m []:=trivial
theorem aC{n m:Nat}{c:Ctr}{l:List Ctr}(h:Lk n c)(r:EV E0 TT noB m l)(hm:n≤m:=by decide):EV E0 TT noB m (c::l):=⟨h.mono hm,r⟩
abbrev lx(i n:Nat)(s:List (Nat×Sh))(c:List (Nat×List Sh))(b:Nat):Cz:=⟨i,n,⟨s,c,[],([],[])⟩,[(.exit 0,⟨s++[(b,.d .bool ())],c,[],([],[])⟩)]⟩
abbrev LI:Type:=List Int
abbrev LLI:Type:=List (List Int)
abbrev LLLI:Type:=List (List (List Int))
abbrev LDCe:Type:=List DCe
abbrev LDCn:Type:=List DCn
abbrev LDIn:Type:=List DIn
abbrev LDOp:Type:=List DOp
abbrev LDLn:Type:=List DLn
abbrev LDTh:Type:=List DTh
abbrev LDOu:Type:=List DOu
abbrev LDTs:Type:=List DTs
abbrev LDEn:Type:=List DEn
abbrev LLCn:Type:=List (List DCn)
abbrev T00:Type:=Bool×LI×Unit
abbrev T01:Type:=Int×Bool×Unit
abbrev T02:Type:=Int×Int×Unit
abbrev T03:Type:=Int×LI×Unit
abbrev T04:Type:=LDCe×LDLn×Unit
abbrev T05:Type:=LDOp×LDCn×Unit
abbrev T06:Type:=LI×Int×Unit
abbrev T07:Type:=LI×LLI×Unit
abbrev T08:Type:=LLCn×LDOp×Unit
abbrev T09:Type:=LLCn×LDTs×Unit
abbrev T0a:Type:=Unit×Unit×Unit
abbrev T0b:Type:=Bool×T02
abbrev T0c:Type:=Bool×T04
abbrev T0d:Type:=Int×T01
abbrev T0e:Type:=Int×T02
abbrev T0f:Type:=Int×Int×LDLn×Unit
abbrev T0g:Type:=Int×T06
abbrev T0h:Type:=Int×T0a
abbrev T0i:Type:=LDCe×T02
abbrev T0j:Type:=LDCe×LDLn×Int×Unit
abbrev T0k:Type:=LDCn×T02
abbrev T0l:Type:=LDIn×T07
abbrev T0m:Type:=LI×T02
abbrev T0n:Type:=LI×T03
abbrev T0o:Type:=LI×LLI×LI×Unit
abbrev T0p:Type:=Bool×Bool×Bool×Bool×Unit
abbrev T0q:Type:=Int×T0b
abbrev T0r:Type:=Int×Bool×T06
abbrev T0s:Type:=Int×T0e
abbrev T0t:Type:=Int×Int×T04
abbrev T0u:Type:=Int×T0g
abbrev T0v:Type:=Int×Int×T08
abbrev T0w:Type:=Int×T0n
abbrev T0x:Type:=LDCe×T0d
abbrev T0y:Type:=LDCe×LDLn×T04
abbrev T0z:Type:=LDTh×Int×T03
abbrev T0A:Type:=LI×T0d
abbrev T0B:Type:=LI×T0e
abbrev T0C:Type:=LI×T0m
abbrev T0D:Type:=Unit×T0g
abbrev T0E:Type:=Unit×Unit×T04
abbrev T0F:Type:=Unit×Unit×T07
abbrev T0G:Type:=Unit×Unit×T08
abbrev T0H:Type:=Unit×Unit×Unit×LDOp×Unit
abbrev T0I:Type:=Bool×T0G
abbrev T0J:Type:=Int×T0r
abbrev T0K:Type:=Int×Int×Bool×T08
abbrev T0L:Type:=Int×T0s
abbrev T0M:Type:=Int×Int×T0l
abbrev T0N:Type:=Int×T0E
abbrev T0O:Type:=Int×T0G
abbrev T0P:Type:=LDCe×LDLn×LI×Int×LLCn×Unit
abbrev T0Q:Type:=LDIn×LI×LLI×T09
abbrev T0R:Type:=LDLn×T0t
abbrev T0S:Type:=LI×T0u
abbrev T0T:Type:=LI×Int×LDCe×LDLn×LDTh×Unit
abbrev T0U:Type:=LLCn×T0v
abbrev T0V:Type:=Unit×Int×Unit×T0a
abbrev T0W:Type:=Unit×Unit×T0o
abbrev T0X:Type:=Unit×Unit×LLCn×T05
abbrev T0Y:Type:=Bool×T0T
abbrev T0Z:Type:=Bool×T0V
abbrev T10:Type:=Int×Bool×T0F
abbrev T11:Type:=Int×Int×Bool×T0l
abbrev T12:Type:=Int×T0L
abbrev T13:Type:=Int×Int×T0u
abbrev T14:Type:=Int×Int×T0F
abbrev T15:Type:=Int×T0O
abbrev T16:Type:=Int×T0T
abbrev T17:Type:=LDCe×LDLn×LI×Int×LLCn×LDCn×Unit
abbrev T18:Type:=LDCe×LDLn×T0E
abbrev T19:Type:=LDIn×T0M
abbrev T1a:Type:=LDLn×Int×Int×T0c
abbrev T1b:Type:=LI×T0J
abbrev T1c:Type:=LI×Int×LDCe×LDLn×LDTh×Bool×Unit
abbrev T1d:Type:=LI×T0S
abbrev T1e:Type:=LI×LI×LLI×LLCn×LDOp×LDOu×Unit
abbrev T1f:Type:=LI×LLI×T0F
abbrev T1g:Type:=LLCn×LDOp×T0G
abbrev T1h:Type:=Unit×Unit×LLCn×Nat×T05
abbrev T1i:Type:=Int×Int×Bool×T0y
abbrev T1j:Type:=Int×T10
abbrev T1k:Type:=Int×Int×T0I
abbrev T1l:Type:=Int×T12
abbrev T1m:Type:=Int×Int×Int×Int×Unit×T01
abbrev T1n:Type:=Int×T14
abbrev T1o:Type:=Int×Int×LI×Int×Int×LLI×LDCn×Unit
abbrev T1p:Type:=Int×T16
abbrev T1q:Type:=Int×Int×T0W
abbrev T1r:Type:=Int×LI×Int×T0q
abbrev T1s:Type:=LDIn×T11
abbrev T1t:Type:=LLI×T15
abbrev T1u:Type:=LLI×Int×Int×T0H
abbrev T1v:Type:=Int×Int×Bool×T0W
abbrev T1w:Type:=Int×T1k
abbrev T1x:Type:=Int×Int×Int×Int×Int×Int×LDCn×LDCn×Unit
abbrev T1y:Type:=Int×Int×Int×Int×Int×T0h
abbrev T1z:Type:=Int×T1q
abbrev T1A:Type:=Int×Int×T1e
abbrev T1B:Type:=Int×Int×T1f
abbrev T1C:Type:=Int×Int×T1g
abbrev T1D:Type:=Int×LDCe×T12
abbrev T1E:Type:=LDTh×T1p
abbrev T1F:Type:=LI×Int×Unit×Unit×Unit×T0l
abbrev T1G:Type:=LI×Int×Unit×Unit×T0F
abbrev T1H:Type:=LLCn×Int×Int×T0Q
abbrev T1I:Type:=Int×Int×Bool×T1e
abbrev T1J:Type:=Int×Int×Bool×T1f
abbrev T1K:Type:=Int×Int×Bool×T1g
abbrev T1L:Type:=Int×Int×T1l
abbrev T1M:Type:=Int×Int×Int×T15
abbrev T1N:Type:=Int×T1C
abbrev T1O:Type:=Int×LI×Int×Int×Bool×T0B
abbrev T1P:Type:=Int×T1F
abbrev T1Q:Type:=LDIn×LI×LLI×LI×T0N
abbrev T1R:Type:=LDLn×Int×Int×T18
abbrev T1S:Type:=LDOu×T1A
abbrev T1T:Type:=LI×Int×Int×T1b
abbrev T1U:Type:=LI×Int×LI×Int×Int×T0B
abbrev T1V:Type:=LI×LI×Int×Int×T0P
abbrev T1W:Type:=LI×LLCn×Int×Int×LDCn×T0v
abbrev T1X:Type:=LLCn×T1C
abbrev T1Y:Type:=LLI×T1A
abbrev T1Z:Type:=LLI×T1B
abbrev T20:Type:=Int×Bool×T1F
abbrev T21:Type:=Int×Int×Int×Int×Int×Bool×Bool×Bool×T00
abbrev T22:Type:=Int×Int×Int×Int×Int×Int×Int×Int×Int×LDCn×Unit
abbrev T23:Type:=Int×Int×T1x
abbrev T24:Type:=Int×Int×LI×Int×LDCe×LDLn×LDTh×T0n
abbrev T25:Type:=Int×T1P
abbrev T26:Type:=Int×Int×T1G
abbrev T27:Type:=LI×Int×Int×Int×Int×Int×T0D
abbrev T28:Type:=LI×Int×Int×LI×T13
abbrev T29:Type:=LLI×T1J
abbrev T2a:Type:=Unit×Int×Unit×Unit×Unit×T0T
abbrev T2b:Type:=Int×Int×T1Q
abbrev T2c:Type:=Int×Int×LI×Int×LDCe×LDLn×LDTh×LI×Int×LI×LDCe×Unit
abbrev T2d:Type:=Int×Int×T1Z
abbrev T2e:Type:=Int×T2a
abbrev T2f:Type:=LDCe×Int×Int×T1D
abbrev T2g:Type:=LDCn×Nat×Int×Int×Int×T1h
abbrev T2h:Type:=LI×Int×Bool×LI×T1l
abbrev T2i:Type:=LI×Int×Int×LI×Int×Int×T0J
abbrev T2j:Type:=LI×Int×Int×LI×Int×Int×T0S
abbrev T2k:Type:=LI×Int×LDCe×LDLn×LDTh×Int×Int×T0t
abbrev T2l:Type:=LLI×Int×Int×LI×Int×Int×T0X
abbrev T2m:Type:=ByteArray×LDCn×T23
abbrev T2n:Type:=Int×Int×Bool×T1Q
abbrev T2o:Type:=Int×Int×T21
abbrev T2p:Type:=Int×Int×Int×Int×LDCn×Int×T0Z
abbrev T2q:Type:=Int×Int×T24
abbrev T2r:Type:=Int×Int×Int×Int×Nat×T1q
abbrev T2s:Type:=LDIn×LI×LLI×LI×Int×LDCe×LDLn×LDTh×Unit×Unit×T09
abbrev T2t:Type:=LI×Int×Int×T1T
abbrev T2u:Type:=LLI×T2b
abbrev T2v:Type:=Int×Int×Bool×T21
abbrev T2w:Type:=LDIn×LI×LLI×LI×Int×LLCn×LDTs×Unit×Int×Unit×Unit×Unit×LLCn×Unit
abbrev T2x:Type:=LI×Int×LDCe×LDLn×LDTh×T1D
abbrev T2y:Type:=LI×Int×LI×Int×Int×Int×Int×T17
abbrev T2z:Type:=LLI×T2n
abbrev T2A:Type:=Int×Int×LLI×Int×Int×LI×T1B
abbrev T2B:Type:=Int×Int×Int×Int×T2k
abbrev T2C:Type:=Int×Int×T2w
abbrev T2D:Type:=Int×Int×LDIn×LI×LLI×T2a
abbrev T2E:Type:=LDTh×Int×Int×T2s
abbrev T2F:Type:=LI×Int×LDCe×LDLn×LDTh×T2a
abbrev T2G:Type:=Int×Int×Bool×T2w
abbrev T2H:Type:=Int×Int×Int×Int×Bool×T2k
abbrev T2I:Type:=Int×Int×Int×Int×Int×T2c
abbrev T2J:Type:=Int×LLI×Int×Int×LI×T2b
abbrev T2K:Type:=LDIn×LI×LLI×T2x
abbrev T2L:Type:=Nat×LI×Int×LDCe×LDLn×LDTh×Int×Int×Int×Int×Int×Int×LDCn×T0k
abbrev T2M:Type:=LDIn×LI×LLI×LI×Int×LLCn×LDTs×T2a
abbrev T2N:Type:=LDIn×LI×LLI×LI×Int×LLCn×LDTs×Unit×Int×Unit×Unit×Unit×LI×Int×LDCe×LDLn×Unit×Unit
abbrev T2O:Type:=Int×Int×LDCn×T2C
abbrev T2P:Type:=Int×Int×LI×Int×Int×Int×Int×Int×Int×Int×Int×Int×Int×Int×T0p
abbrev T2Q:Type:=LDIn×LI×LLI×LI×Int×LDCe×LDLn×LDTh×LI×LI×LLI×LLCn×LDOp×LDOu×LI×LLI×LDEn×LI×Unit
abbrev T2R:Type:=LDTh×Int×Int×T2F
abbrev T2S:Type:=Int×Int×Int×Int×Int×Int×LDCn×LDCn×Int×Int×Int×Int×LDCn×Int×Bool×T0s
abbrev T2T:Type:=Int×Int×T2N
abbrev T2U:Type:=LDIn×LI×LLI×LI×Int×LDCe×LDLn×LDTh×LI×LI×LLI×LLCn×LDOp×LDOu×LI×LLI×LDEn×LI×LI×Unit
abbrev T2V:Type:=Nat×Int×LI×Int×LDCe×LDLn×LDTh×LDIn×LI×LLI×T1L
abbrev T2W:Type:=Int×Bool×T2Q
abbrev T2X:Type:=Int×ByteArray×Int×Int×T2K
abbrev T2Y:Type:=Int×Int×Bool×T2N
abbrev T2Z:Type:=LDTs×Int×Int×T2M
abbrev T30:Type:=LLCn×T2T
abbrev T31:Type:=Int×Int×Int×T2Q
abbrev T32:Type:=Int×Int×Int×T2U
abbrev T33:Type:=Int×LLCn×Int×Int×LDCn×T2T
abbrev T34:Type:=LDIn×LI×LLI×LI×Int×LDCe×LDLn×LDTh×LI×LI×LLI×LLCn×LDOp×LDOu×LI×LLI×LDEn×LI×T1m
abbrev T35:Type:=LI×Int×LDCe×LDLn×LDTh×LDIn×LI×LLI×Int×Int×Int×Int×Int×Int×LDCn×LDCn×Int×Int×Int×Int×LDCn×T0q
abbrev T36:Type:=Nat×Bool×LI×Int×LDCe×LDLn×LDTh×T2S
abbrev T37:Type:=Nat×T35
abbrev T38:Type:=Unit×Unit×Unit×Unit×Unit×Unit×Int×Int×Int×Int×Unit×Int×Bool×LI×LI×LLI×LLCn×LDOp×LDOu×Int×Int×Int×Int×LDCn×T01
abbrev T39:Type:=Unit×Unit×Unit×Unit×Unit×Unit×Int×Int×Int×Int×Unit×Int×Bool×LI×LI×LLI×LLCn×LDOp×LDOu×T1m
abbrev T3a:Type:=LI×Int×LDCe×LDLn×LDTh×LDIn×LI×LLI×T2S
abbrev T3b:Type:=LDIn×LI×LLI×LI×Int×LDCe×LDLn×LDTh×Unit×Unit×LLCn×LDTs×Int×LDCe×Int×Int×Int×Int×T22
abbrev T3c:Type:=LDTh×Int×Int×T34
abbrev T3d:Type:=Nat×LDCn×Int×Int×T3a
abbrev T3e:Type:=Nat×LDCn×Int×Int×Bool×T3a
abbrev T3f:Type:=LDIn×LI×LLI×LI×Int×LLCn×LDTs×Unit×Int×Unit×Unit×Unit×LI×Int×LDCe×LDLn×LDTh×Int×Int×Int×Int×Int×Int×Int×LDCn×T1D
abbrev T3g:Type:=LI×Int×Unit×Unit×Unit×Unit×Int×Unit×Unit×Unit×LDIn×LI×LLI×LI×Int×LDCe×LDLn×LDTh×LI×LI×LLI×LLCn×LDOp×LDOu×LI×LLI×LDEn×LI×T0T
abbrev T3h:Type:=LDTh×Int×Int×LDCe×Int×Int×T3b
abbrev T3i:Type:=LI×LI×LLI×LLCn×LDOp×LDOu×Int×Int×Int×Int×Int×Int×LDCn×LDCn×Unit×Unit×Unit×Unit×Unit×Unit×Int×Int×Int×Int×Unit×Int×Bool×LI×LI×LLI×LLCn×LDOp×LDOu×LI×Unit
abbrev T3j:Type:=Int×Bool×LDIn×LI×LLI×LI×Int×LDCe×LDLn×LDTh×LI×LI×LLI×LLCn×LDOp×LDOu×LI×LLI×LDEn×LI×Int×Int×Int×Int×Int×Int×LDCn×LDCn×T1m
abbrev T3k:Type:=LI×Int×Unit×Unit×Unit×Unit×Int×Unit×Unit×Unit×LDIn×LI×LLI×LI×Int×LDCe×LDLn×LDTh×LI×LI×LLI×LLCn×LDOp×LDOu×LI×LLI×LDEn×LI×LI×Int×LDCe×LDLn×LDTh×T09
abbrev T3l:Type:=Unit×Unit×Unit×Unit×Int×Unit×Unit×Unit×Unit×Unit×Unit×Unit×Unit×Unit×Unit×Unit×Unit×Unit×T2Q
abbrev T3m:Type:=Unit×Unit×Unit×Unit×Int×Unit×Unit×Unit×Unit×Unit×Unit×Unit×Unit×Unit×Unit×Unit×Unit×Unit×LDIn×LI×LLI×LI×Int×LDCe×LDLn×LDTh×LI×LI×LLI×LLCn×LDOp×LDOu×LI×LLI×Unit×LI×Unit
abbrev T3n:Type:=Int×Int×T3k
abbrev T3o:Type:=Int×T3l
abbrev T3p:Type:=Int×T3m
abbrev T3q:Type:=LDCn×Int×Int×T3i
abbrev T3r:Type:=LDIn×LI×LLI×Unit×Int×Unit×Unit×Unit×Int×Int×Int×Int×Int×Int×Unit×Unit×LI×Int×LDCe×LDLn×LDTh×Int×LDCe×Int×Int×Int×Int×T23
abbrev T3s:Type:=LDIn×LI×LLI×Unit×Int×Unit×Unit×Unit×Int×Int×Int×Int×Int×Int×Unit×Unit×LI×Int×LDCe×LDLn×LDTh×Int×LDCe×Int×Int×Int×Int×Int×Int×Int×Int×Int×Int×Int×Int×LDCn×Unit×Unit
abbrev T3t:Type:=Bool×T3s
abbrev T3u:Type:=Int×Int×Bool×T3k
abbrev T3v:Type:=Int×T3o
abbrev T3w:Type:=LI×T3o
abbrev T3x:Type:=Int×Int×T3r
abbrev T3y:Type:=Int×Int×T3s
abbrev T3z:Type:=Int×T3w
abbrev T3A:Type:=LDTs×Int×Int×LDCn×Int×Int×T3f
abbrev T3B:Type:=Int×Int×Bool×T3r
abbrev T3C:Type:=Int×Int×Int×T3n
abbrev ap1{A0 D R:Type}(f:A0→R)(h:A0×D):R:=f h.1
abbrev ap2{A0 A1 D R:Type}(f:A0→A1→R)(h:A0×A1×D):R:=f h.1 h.2.1
abbrev ap3{A0 A1 A2 D R:Type}(f:A0→A1→A2→R)(h:A0×A1×A2×D):R:=f h.1 h.2.1 h.2.2.1
abbrev ap4{A0 A1 A2 A3 D R:Type}(f:A0→A1→A2→A3→R)(h:A0×A1×A2×A3×D):R:=f h.1 h.2.1 h.2.2.1 h.2.2.2.1
abbrev ap5{A0 A1 A2 A3 A4 D R:Type}(f:A0→A1→A2→A3→A4→R)(h:A0×A1×A2×A3×A4×D):R:=f h.1 h.2.1 h.2.2.1 h.2.2.2.1 h.2.2.2.2.1
abbrev ap6{A0 A1 A2 A3 A4 A5 D R:Type}(f:A0→A1→A2→A3→A4→A5→R)(h:A0×A1×A2×A3×A4×A5×D):R:=f h.1 h.2.1 h.2.2.1 h.2.2.2.1 h.2.2.2.2.1 h.2.2.2.2.2.1
abbrev ap7{A0 A1 A2 A3 A4 A5 A6 D R:Type}(f:A0→A1→A2→A3→A4→A5→A6→R)(h:A0×A1×A2×A3×A4×A5×A6×D):R:=f h.1 h.2.1 h.2.2.1 h.2.2.2.1 h.2.2.2.2.1 h.2.2.2.2.2.1 h.2.2.2.2.2.2.1
abbrev ap8{A0 A1 A2 A3 A4 A5 A6 A7 D R:Type}(f:A0→A1→A2→A3→A4→A5→A6→A7→R)(h:A0×A1×A2×A3×A4×A5×A6×A7×D):R:=f h.1 h.2.1 h.2.2.1 h.2.2.2.1 h.2.2.2.2.1 h.2.2.2.2.2.1 h.2.2.2.2.2.2.1 h.2.2.2.2.2.2.2.1
abbrev ap9{A0 A1 A2 A3 A4 A5 A6 A7 A8 D R:Type}(f:A0→A1→A2→A3→A4→A5→A6→A7→A8→R)(h:A0×A1×A2×A3×A4×A5×A6×A7×A8×D):R:=f h.1 h.2.1 h.2.2.1 h.2.2.2.1 h.2.2.2.2.1 h.2.2.2.2.2.1 h.2.2.2.2.2.2.1 h.2.2.2.2.2.2.2.1 h.2.2.2.2.2.2.2.2.1
abbrev ap10{A0 A1 A2 A3 A4 A5 A6 A7 A8 A9 D R:Type}(f:A0→A1→A2→A3→A4→A5→A6→A7→A8→A9→R)(h:A0×A1×A2×A3×A4×A5×A6×A7×A8×A9×D):R:=f h.1 h.2.1 h.2.2.1 h.2.2.2.1 h.2.2.2.2.1 h.2.2.2.2.2.1 h.2.2.2.2.2.2.1 h.2.2.2.2.2.2.2.1 h.2.2.2.2.2.2.2.2.1 h.2.2.2.2.2.2.2.2.2.1
abbrev ap11{A0 A1 A2 A3 A4 A5 A6 A7 A8 A9 A10 D R:Type}(f:A0→A1→A2→A3→A4→A5→A6→A7→A8→A9→A10→R)(h:A0×A1×A2×A3×A4×A5×A6×A7×A8×A9×A10×D):R:=f h.1 h.2.1 h.2.2.1 h.2.2.2.1 h.2.2.2.2.1 h.2.2.2.2.2.1 h.2.2.2.2.2.2.1 h.2.2.2.2.2.2.2.1 h.2.2.2.2.2.2.2.2.1 h.2.2.2.2.2.2.2.2.2.1 h.2.2.2.2.2.2.2.2.2.2.1
abbrev ap14{A0 A1 A2 A3 A4 A5 A6 A7 A8 A9 A10 A11 A12 A13 D R:Type}(f:A0→A1→A2→A3→A4→A5→A6→A7→A8→A9→A10→A11→A12→A13→R)(h:A0×A1×A2×A3×A4×A5×A6×A7×A8×A9×A10×A11×A12×A13×D):R:=f h.1 h.2.1 h.2.2.1 h.2.2.2.1 h.2.2.2.2.1 h.2.2.2.2.2.1 h.2.2.2.2.2.2.1 h.2.2.2.2.2.2.2.1 h.2.2.2.2.2.2.2.2.1 h.2.2.2.2.2.2.2.2.2.1 h.2.2.2.2.2.2.2.2.2.2.1 h.2.2.2.2.2.2.2.2.2.2.2.1 h.2.2.2.2.2.2.2.2.2.2.2.2.1 h.2.2.2.2.2.2.2.2.2.2.2.2.2.1
abbrev ap16{A0 A1 A2 A3 A4 A5 A6 A7 A8 A9 A10 A11 A12 A13 A14 A15 D R:Type}(f:A0→A1→A2→A3→A4→A5→A6→A7→A8→A9→A10→A11→A12→A13→A14→A15→R)(h:A0×A1×A2×A3×A4×A5×A6×A7×A8×A9×A10×A11×A12×A13×A14×A15×D):R:=f h.1 h.2.1 h.2.2.1 h.2.2.2.1 h.2.2.2.2.1 h.2.2.2.2.2.1 h.2.2.2.2.2.2.1 h.2.2.2.2.2.2.2.1 h.2.2.2.2.2.2.2.2.1 h.2.2.2.2.2.2.2.2.2.1 h.2.2.2.2.2.2.2.2.2.2.1 h.2.2.2.2.2.2.2.2.2.2.2.1 h.2.2.2.2.2.2.2.2.2.2.2.2.1 h.2.2.2.2.2.2.2.2.2.2.2.2.2.1 h.2.2.2.2.2.2.2.2.2.2.2.2.2.2.1 h.2.2.2.2.2.2.2.2.2.2.2.2.2.2.2.1
abbrev ap18{A0 A1 A2 A3 A4 A5 A6 A7 A8 A9 A10 A11 A12 A13 A14 A15 A16 A17 D R:Type}(f:A0→A1→A2→A3→A4→A5→A6→A7→A8→A9→A10→A11→A12→A13→A14→A15→A16→A17→R)(h:A0×A1×A2×A3×A4×A5×A6×A7×A8×A9×A10×A11×A12×A13×A14×A15×A16×A17×D):R:=f h.1 h.2.1 h.2.2.1 h.2.2.2.1 h.2.2.2.2.1 h.2.2.2.2.2.1 h.2.2.2.2.2.2.1 h.2.2.2.2.2.2.2.1 h.2.2.2.2.2.2.2.2.1 h.2.2.2.2.2.2.2.2.2.1 h.2.2.2.2.2.2.2.2.2.2.1 h.2.2.2.2.2.2.2.2.2.2.2.1 h.2.2.2.2.2.2.2.2.2.2.2.2.1 h.2.2.2.2.2.2.2.2.2.2.2.2.2.1 h.2.2.2.2.2.2.2.2.2.2.2.2.2.2.1 h.2.2.2.2.2.2.2.2.2.2.2.2.2.2.2.1 h.2.2.2.2.2.2.2.2.2.2.2.2.2.2.2.2.1 h.2.2.2.2.2.2.2.2.2.2.2.2.2.2.2.2.2.1
abbrev ap19{A0 A1 A2 A3 A4 A5 A6 A7 A8 A9 A10 A11 A12 A13 A14 A15 A16 A17 A18 D R:Type}(f:A0→A1→A2→A3→A4→A5→A6→A7→A8→A9→A10→A11→A12→A13→A14→A15→A16→A17→A18→R)(h:A0×A1×A2×A3×A4×A5×A6×A7×A8×A9×A10×A11×A12×A13×A14×A15×A16×A17×A18×D):R:=f h.1 h.2.1 h.2.2.1 h.2.2.2.1 h.2.2.2.2.1 h.2.2.2.2.2.1 h.2.2.2.2.2.2.1 h.2.2.2.2.2.2.2.1 h.2.2.2.2.2.2.2.2.1 h.2.2.2.2.2.2.2.2.2.1 h.2.2.2.2.2.2.2.2.2.2.1 h.2.2.2.2.2.2.2.2.2.2.2.1 h.2.2.2.2.2.2.2.2.2.2.2.2.1 h.2.2.2.2.2.2.2.2.2.2.2.2.2.1 h.2.2.2.2.2.2.2.2.2.2.2.2.2.2.1 h.2.2.2.2.2.2.2.2.2.2.2.2.2.2.2.1 h.2.2.2.2.2.2.2.2.2.2.2.2.2.2.2.2.1 h.2.2.2.2.2.2.2.2.2.2.2.2.2.2.2.2.2.1 h.2.2.2.2.2.2.2.2.2.2.2.2.2.2.2.2.2.2.1
abbrev ap20{A0 A1 A2 A3 A4 A5 A6 A7 A8 A9 A10 A11 A12 A13 A14 A15 A16 A17 A18 A19 D R:Type}(f:A0→A1→A2→A3→A4→A5→A6→A7→A8→A9→A10→A11→A12→A13→A14→A15→A16→A17→A18→A19→R)(h:A0×A1×A2×A3×A4×A5×A6×A7×A8×A9×A10×A11×A12×A13×A14×A15×A16×A17×A18×A19×D):R:=f h.1 h.2.1 h.2.2.1 h.2.2.2.1 h.2.2.2.2.1 h.2.2.2.2.2.1 h.2.2.2.2.2.2.1 h.2.2.2.2.2.2.2.1 h.2.2.2.2.2.2.2.2.1 h.2.2.2.2.2.2.2.2.2.1 h.2.2.2.2.2.2.2.2.2.2.1 h.2.2.2.2.2.2.2.2.2.2.2.1 h.2.2.2.2.2.2.2.2.2.2.2.2.1 h.2.2.2.2.2.2.2.2.2.2.2.2.2.1 h.2.2.2.2.2.2.2.2.2.2.2.2.2.2.1 h.2.2.2.2.2.2.2.2.2.2.2.2.2.2.2.1 h.2.2.2.2.2.2.2.2.2.2.2.2.2.2.2.2.1 h.2.2.2.2.2.2.2.2.2.2.2.2.2.2.2.2.2.1 h.2.2.2.2.2.2.2.2.2.2.2.2.2.2.2.2.2.2.1 h.2.2.2.2.2.2.2.2.2.2.2.2.2.2.2.2.2.2.2.1
abbrev ap21{A0 A1 A2 A3 A4 A5 A6 A7 A8 A9 A10 A11 A12 A13 A14 A15 A16 A17 A18 A19 A20 D R:Type}(f:A0→A1→A2→A3→A4→A5→A6→A7→A8→A9→A10→A11→A12→A13→A14→A15→A16→A17→A18→A19→A20→R)(h:A0×A1×A2×A3×A4×A5×A6×A7×A8×A9×A10×A11×A12×A13×A14×A15×A16×A17×A18×A19×A20×D):R:=f h.1 h.2.1 h.2.2.1 h.2.2.2.1 h.2.2.2.2.1 h.2.2.2.2.2.1 h.2.2.2.2.2.2.1 h.2.2.2.2.2.2.2.1 h.2.2.2.2.2.2.2.2.1 h.2.2.2.2.2.2.2.2.2.1 h.2.2.2.2.2.2.2.2.2.2.1 h.2.2.2.2.2.2.2.2.2.2.2.1 h.2.2.2.2.2.2.2.2.2.2.2.2.1 h.2.2.2.2.2.2.2.2.2.2.2.2.2.1 h.2.2.2.2.2.2.2.2.2.2.2.2.2.2.1 h.2.2.2.2.2.2.2.2.2.2.2.2.2.2.2.1 h.2.2.2.2.2.2.2.2.2.2.2.2.2.2.2.2.1 h.2.2.2.2.2.2.2.2.2.2.2.2.2.2.2.2.2.1 h.2.2.2.2.2.2.2.2.2.2.2.2.2.2.2.2.2.2.1 h.2.2.2.2.2.2.2.2.2.2.2.2.2.2.2.2.2.2.2.1 h.2.2.2.2.2.2.2.2.2.2.2.2.2.2.2.2.2.2.2.2.1
abbrev ap23{A0 A1 A2 A3 A4 A5 A6 A7 A8 A9 A10 A11 A12 A13 A14 A15 A16 A17 A18 A19 A20 A21 A22 D R:Type}(f:A0→A1→A2→A3→A4→A5→A6→A7→A8→A9→A10→A11→A12→A13→A14→A15→A16→A17→A18→A19→A20→A21→A22→R)(h:A0×A1×A2×A3×A4×A5×A6×A7×A8×A9×A10×A11×A12×A13×A14×A15×A16×A17×A18×A19×A20×A21×A22×D):R:=f h.1 h.2.1 h.2.2.1 h.2.2.2.1 h.2.2.2.2.1 h.2.2.2.2.2.1 h.2.2.2.2.2.2.1 h.2.2.2.2.2.2.2.1 h.2.2.2.2.2.2.2.2.1 h.2.2.2.2.2.2.2.2.2.1 h.2.2.2.2.2.2.2.2.2.2.1 h.2.2.2.2.2.2.2.2.2.2.2.1 h.2.2.2.2.2.2.2.2.2.2.2.2.1 h.2.2.2.2.2.2.2.2.2.2.2.2.2.1 h.2.2.2.2.2.2.2.2.2.2.2.2.2.2.1 h.2.2.2.2.2.2.2.2.2.2.2.2.2.2.2.1 h.2.2.2.2.2.2.2.2.2.2.2.2.2.2.2.2.1 h.2.2.2.2.2.2.2.2.2.2.2.2.2.2.2.2.2.1 h.2.2.2.2.2.2.2.2.2.2.2.2.2.2.2.2.2.2.1 h.2.2.2.2.2.2.2.2.2.2.2.2.2.2.2.2.2.2.2.1 h.2.2.2.2.2.2.2.2.2.2.2.2.2.2.2.2.2.2.2.2.1 h.2.2.2.2.2.2.2.2.2.2.2.2.2.2.2.2.2.2.2.2.2.1 h.2.2.2.2.2.2.2.2.2.2.2.2.2.2.2.2.2.2.2.2.2.2.1
abbrev ap26{A0 A1 A2 A3 A4 A5 A6 A7 A8 A9 A10 A11 A12 A13 A14 A15 A16 A17 A18 A19 A20 A21 A22 A23 A24 A25 D R:Type}(f:A0→A1→A2→A3→A4→A5→A6→A7→A8→A9→A10→A11→A12→A13→A14→A15→A16→A17→A18→A19→A20→A21→A22→A23→A24→A25→R)(h:A0×A1×A2×A3×A4×A5×A6×A7×A8×A9×A10×A11×A12×A13×A14×A15×A16×A17×A18×A19×A20×A21×A22×A23×A24×A25×D):R:=f h.1 h.2.1 h.2.2.1 h.2.2.2.1 h.2.2.2.2.1 h.2.2.2.2.2.1 h.2.2.2.2.2.2.1 h.2.2.2.2.2.2.2.1 h.2.2.2.2.2.2.2.2.1 h.2.2.2.2.2.2.2.2.2.1 h.2.2.2.2.2.2.2.2.2.2.1 h.2.2.2.2.2.2.2.2.2.2.2.1 h.2.2.2.2.2.2.2.2.2.2.2.2.1 h.2.2.2.2.2.2.2.2.2.2.2.2.2.1 h.2.2.2.2.2.2.2.2.2.2.2.2.2.2.1 h.2.2.2.2.2.2.2.2.2.2.2.2.2.2.2.1 h.2.2.2.2.2.2.2.2.2.2.2.2.2.2.2.2.1 h.2.2.2.2.2.2.2.2.2.2.2.2.2.2.2.2.2.1 h.2.2.2.2.2.2.2.2.2.2.2.2.2.2.2.2.2.2.1 h.2.2.2.2.2.2.2.2.2.2.2.2.2.2.2.2.2.2.2.1 h.2.2.2.2.2.2.2.2.2.2.2.2.2.2.2.2.2.2.2.2.1 h.2.2.2.2.2.2.2.2.2.2.2.2.2.2.2.2.2.2.2.2.2.1 h.2.2.2.2.2.2.2.2.2.2.2.2.2.2.2.2.2.2.2.2.2.2.1 h.2.2.2.2.2.2.2.2.2.2.2.2.2.2.2.2.2.2.2.2.2.2.2.1 h.2.2.2.2.2.2.2.2.2.2.2.2.2.2.2.2.2.2.2.2.2.2.2.2.1 h.2.2.2.2.2.2.2.2.2.2.2.2.2.2.2.2.2.2.2.2.2.2.2.2.2.1
theorem ls{n:Nat}{C:X.Cfg}(hE:C.E=E0)(hT:EV E0 TT noB n C.TB){c:Ctr}(h1:(TT c.f).isSome=true)(hg:∀h,X.runT dE C () ((TT c.f).getD Nq) c.outs (iH c.ins _ h).1 (rL c.pts [] (iH c.ins _ h).2).1=c.g h):Lk (n+1) c:=MU (n:=n) (C:=C) hE hT (M3 h1) hg
def gt(a0:Int) (a1:Int):Option (Int×Unit):=
bif (a1 != 0) then let x0:Int:=(Int.tmod a0 a1);
(bif (decide (x0 < 0)) then (let x1:Int:=(w64 (x0+a1));
some (x1,())) else
some (x0,()):Option (Int×Unit)).bind fun(x1,_)=>
some (x1,()) else none
noncomputable def Dq:X.Cfg:=⟨E0,[],[],[⟨2,0,qE,[(.normal,(qS [(sP 5 I64)] []))]⟩]⟩
def q8:Ctr:=⟨30,0,(uL [I64,I64]),[],[⟨(uL [I64]),[.one],[]⟩],ap2 gt⟩
theorem vq:Lk 1 q8:=ls (C:=Dq) rfl aN (by kernel_rfl) fun h=>by kernel_rfl
def lA(a0:Int) (a1:Int):Option (Int×Unit):=
(gt a0 a1).bind fun(x0,_)=>
some (x0,())
noncomputable def JM:X.Cfg:=⟨E0,[q8],[],[]⟩
def uM:Ctr:=⟨9,1,(uL [I64,I64]),[],[⟨(uL [I64]),[.one],[]⟩],ap2 lA⟩
theorem zf:Lk 2 uM:=ls (C:=JM) rfl (aC vq aN) (by kernel_rfl) fun h=>by kernel_rfl
def dG(a0:Int) (a1:List (Int)) (a2:Int):Option (T0g):=
let x0:=(dI (List.length a1));
bif (decide (a2≥x0)) then (some (0,a1,a2,())) else
let x1:=(w64 (a2+1));
let x2:=(w64 (x1 - 1));
(dT x2).bind fun x3=>
(dF a1 x3).bind fun x4=>
(lA x4 a0).bind fun(x5,_)=>
some (x5,a1,x1,())
noncomputable def Dt:X.Cfg:=⟨E0,[uM],[],[]⟩
def eZ:Ctr:=⟨27,2,[.ptr ⟨2,0,[]⟩ [0],shU I64],[(2,(uL [RI,I64]))],[⟨(uL [I64]),[.one],[(2,(uL [RI,I64]))]⟩],ap3 dG⟩
theorem fi:Lk 3 eZ:=ls (C:=Dt) rfl (aC zf aN) (by kernel_rfl) fun h=>by kernel_rfl
def oR:T0w→Option (T0w⊕(Int×Bool×T0n)):=fun(v0,v1,v2,v3,_)=>
bif (decide (v0 > 0)) then (let x0:List (Int):=[6,12,32];
(dG 3 v1 v2).bind fun(x1,x2,x3,_)=>
(dT x1).bind fun x4=>
(dF x0 x4).bind fun x5=>
(dF x0 x4).bind fun x6=>
(dG x6 x2 x3).bind fun(x7,x8,x9,_)=>
let ac:=(w64 (1+x7));
bif (dU 8 (List.length v3) (List.length [ac])) then let ae:List (Int):=(List.append v3 [ac]);
let af:=(w64 (v0 - 1));
some (.inl (af,x8,x9,ae,())) else none) else
some (.inr (v0,false,v1,v2,v3,()))
def mM(a0:List (Int)) (a1:Int):Option (LI×T06):=
(dG 9 a0 a1).bind fun(x0,x1,x2,_)=>
let x3:=(w64 (4+x0));
(dG 4 x1 x2).bind fun(x4,x5,x6,_)=>
(dO oR NN (x4,x5,x6,[x3],())).bind fun(x7,x8,x9,ac,ae,_)=>
some (ae,x9,ac,())
noncomputable def B4:X.Cfg:=⟨E0,[eZ],[],[(lx 4 0 [(pP 0 2),(3,.pk ⟨9,0,[]⟩ [0,0]),(sP 4 I64)] [(2,(uL [RI,I64])),(9,(uL [(.row true I64)]))] 12)]⟩
def uf:Ctr:=⟨83,3,[.ptr ⟨2,0,[]⟩ [0]],[(2,(uL [RI,I64]))],[⟨(uL [(.row true I64)]),[.one],[(2,(uL [RI,I64]))]⟩],ap2 mM⟩
theorem Bn:Lk 4 uf:=ls (C:=B4) rfl (aC fi aN) (by kernel_rfl) fun h=>by kernel_rfl
def gv(a0:List (Int)) (a1:Int):Option (T0g):=
(dG 5 a0 a1).bind fun(x0,x1,x2,_)=>
(bif (x0==0) then (some (x0,true,x1,x2,())) else
bif (x0==1) then (some (x0,true,x1,x2,())) else
some (x0,(x0==2),x1,x2,()):Option (T0r)).bind fun(x3,x4,x5,x6,_)=>
bif x4 then ((dG 8 x5 x6).bind fun(x7,x8,x9,_)=>
let ac:=(wk .u16 x7);
some (ac,x8,x9,())) else
bif (x3==3) then ((dG 3 x5 x6).bind fun(x7,x8,x9,_)=>
let ac:=(w64 (65535 - x7));
let ae:=(wk .u16 ac);
some (ae,x8,x9,())) else
(dG 65536 x5 x6).bind fun(x7,x8,x9,_)=>
let ac:=(wk .u16 x7);
some (ac,x8,x9,())
noncomputable def Ds:X.Cfg:=⟨E0,[eZ],[],[⟨3,0,qE,[(.normal,(qS [(pP 0 2),(sP 4 I64),(sP 5 .bool)] [(2,(uL [RI,I64]))]))]⟩]⟩
def j9:Ctr:=⟨31,4,[.ptr ⟨2,0,[]⟩ [0]],[(2,(uL [RI,I64]))],[⟨(uL [CW]),[.one],[(2,(uL [RI,I64]))]⟩],ap2 gv⟩
theorem mg:Lk 4 j9:=ls (C:=Ds) rfl (aC fi aN) (by kernel_rfl) fun h=>by kernel_rfl
def oQ:T0w→Option (T0w⊕(Int×Bool×T0n)):=fun(v0,v1,v2,v3,_)=>
bif (decide (v0 > 0)) then ((gv v1 v2).bind fun(x0,x1,x2,_)=>
bif (dU 2 (List.length v3) (List.length [x0])) then let x3:List (Int):=(List.append v3 [x0]);
let x4:=(w64 (v0 - 1));
some (.inl (x4,x1,x2,x3,())) else none) else
some (.inr (v0,false,v1,v2,v3,()))
def fw(a0:Int) (a1:List (Int)) (a2:Int):Option (LI×T06):=
let x0:=(w64 (a0+1));
(dG x0 a1 a2).bind fun(x1,x2,x3,_)=>
(dO oQ NN (x1,x2,x3,[],())).bind fun(x4,x5,x6,x7,x8,_)=>
some (x8,x6,x7,())
noncomputable def B3:X.Cfg:=⟨E0,[eZ,j9],[],[(lx 4 0 [(pP 0 2),(5,.pk ⟨13,0,[]⟩ [0,0]),(sP 6 I64)] [(2,(uL [RI,I64])),(13,(uL [(.row true CW)]))] 12)]⟩
def pE:Ctr:=⟨84,5,[.ptr ⟨2,0,[]⟩ [0],shU I64],[(2,(uL [RI,I64]))],[⟨(uL [(.row true CW)]),[.one],[(2,(uL [RI,I64]))]⟩],ap3 fw⟩
theorem tL:Lk 5 pE:=ls (C:=B3) rfl (aC fi (aC mg aN)) (by kernel_rfl) fun h=>by kernel_rfl
def hZ(a0:Int) (a1:Int):Option (T0L):=
some (1,a0,0,0,a1,())
noncomputable def LD:X.Cfg:=⟨E0,[],[],[]⟩
def DP:Ctr:=⟨86,6,(uL [I64,I64]),[],[⟨(uL [I64,I64,I64,I64,I64]),[.agg 5],[]⟩],ap2 hZ⟩
theorem HN:Lk 1 DP:=ls (C:=LD) rfl aN (by kernel_rfl) fun h=>by kernel_rfl
def gu(a0:Int):Option (T0L):=
some (23,0,0,0,a0,())
noncomputable def JK:X.Cfg:=⟨E0,[],[],[]⟩
def Au:Ctr:=⟨87,7,(uL [I64]),[],[⟨(uL [I64,I64,I64,I64,I64]),[.agg 5],[]⟩],ap1 gu⟩
theorem Eo:Lk 1 Au:=ls (C:=JK) rfl aN (by kernel_rfl) fun h=>by kernel_rfl
def lz(a0:Int) (a1:Int):Option (T0L):=
some (2,a0,a1,0,0,())
noncomputable def JL:X.Cfg:=⟨E0,[],[],[]⟩
def EL:Ctr:=⟨117,8,(uL [I64,I64]),[],[⟨(uL [I64,I64,I64,I64,I64]),[.agg 5],[]⟩],ap2 lz⟩
theorem JD:Lk 1 EL:=ls (C:=JL) rfl aN (by kernel_rfl) fun h=>by kernel_rfl
def jc(a0:Int):Option (T0p):=
(bif (a0==1) then (some (a0,true,false,false,false,false,())) else
bif (a0==15) then (some (a0,true,false,false,false,false,())) else
bif (a0==19) then (some (a0,true,false,false,false,false,())) else
bif (a0==20) then (some (a0,true,false,false,false,false,())) else
some (a0,(a0==21),false,false,false,false,()):Option (Int×Bool×T0p)).bind fun(x0,x1,x2,x3,x4,x5,_)=>
bif x1 then (some (true,false,false,true,())) else
bif (x0==2) then (some (true,true,false,false,())) else
bif (x0==16) then (some (true,true,false,true,())) else
bif (x0==17) then (some (true,true,false,true,())) else
bif (x0==18) then (some (false,false,false,true,())) else
bif (x0==23) then (some (false,false,false,true,())) else
bif (x0==22) then (some (true,false,false,false,())) else
bif (x0==0) then (some (false,false,false,false,())) else
bif (x0==24) then (some (false,false,false,false,())) else
some (true,true,true,false,())
noncomputable def BQ:X.Cfg:=⟨E0,[],[],[⟨3,0,qE,[(.normal,(qS [(pP 2 6),(sP 3 I64),(sP 4 .bool)] [(6,(uL [.bool,.bool,.bool,.bool]))]))]⟩]⟩
def pz:Ctr:=⟨144,9,(uL [I64]),[],[⟨(uL [.bool,.bool,.bool,.bool]),[.agg 4],[]⟩],ap1 jc⟩
theorem tI:Lk 1 pz:=ls (C:=BQ) rfl aN (by kernel_rfl) fun h=>by kernel_rfl
def gj(a0:Int):Option (Bool×Unit):=
bif (a0==18) then (some (true,())) else
bif (a0==19) then (some (true,())) else
bif (a0==20) then (some (true,())) else
some ((a0==21),())
noncomputable def BR:X.Cfg:=⟨E0,[],[],[]⟩
def jg:Ctr:=⟨88,10,(uL [I64]),[],[⟨(uL [.bool]),[.one],[]⟩],ap1 gj⟩
theorem kS:Lk 1 jg:=ls (C:=BR) rfl aN (by kernel_rfl) fun h=>by kernel_rfl
def mN(a0:Int) (a1:Int) (a2:List (Int)) (a3:Int):Option (Int×T13):=
(dG 25 a2 a3).bind fun(x0,x1,x2,_)=>
(jc x0).bind fun(x3,x4,x5,x6,_)=>
(bif x3 then ((dG 8 x1 x2).bind fun(x7,x8,x9,_)=>
some (a0,a1,x8,x9,0,0,0,0,0,x0,x7,0,0,0,x3,x4,x5,x6,())) else
some (a0,a1,x1,x2,0,0,0,0,0,x0,0,0,0,0,x3,x4,x5,x6,()):Option (T2P)).bind fun(x7,x8,x9,ac,ae,af,ag,ah,ai,aj,ak,am,an,ap,aq,av,ax,ay,_)=>
(bif av then ((dG 8 x9 ac).bind fun(az,aA,aB,_)=>
some (x7,x8,aA,aB,ae,af,ag,ah,ai,aj,ak,az,an,ap,aq,av,ax,ay,())) else
some (x7,x8,x9,ac,ae,af,ag,ah,ai,aj,ak,am,an,ap,aq,av,ax,ay,()):Option (T2P)).bind fun(az,aA,aB,aD,aE,aF,aG,aH,aI,aJ,aK,aL,aM,aO,aP,aQ,aR,aS,_)=>
(bif aR then ((dG 8 aB aD).bind fun(aT,aU,aV,_)=>
some (az,aA,aU,aV,aE,aF,aG,aH,aI,aJ,aK,aL,aT,aO,aP,aQ,aR,aS,())) else
some (az,aA,aB,aD,aE,aF,aG,aH,aI,aJ,aK,aL,aM,aO,aP,aQ,aR,aS,()):Option (T2P)).bind fun(aT,aU,aV,aW,aY,aZ,ba,bc,bd,be,bf,bg,bh,bi,bj,bk,bl,bm,_)=>
((gj be).bind fun(bn,_)=>
bif bn then ((dG aU aV aW).bind fun(bo,bp,bq,_)=>
some (bp,bq,aY,aZ,ba,bc,bd,be,bf,bg,bh,bo,())) else
bif (be==15) then ((dG aT aV aW).bind fun(bo,bp,bq,_)=>
some (bp,bq,aY,aZ,ba,bc,bd,be,bf,bg,bh,bo,())) else
bif (be==23) then ((dG 16 aV aW).bind fun(bo,bp,bq,_)=>
some (bp,bq,aY,aZ,ba,bc,bd,be,bf,bg,bh,bo,())) else
bif bm then ((gv aV aW).bind fun(bo,bp,bq,_)=>
let bt:=(wk .i64 bo);
some (bp,bq,aY,aZ,ba,bc,bd,be,bf,bg,bh,bt,())) else
some (aV,aW,aY,aZ,ba,bc,bd,be,bf,bg,bh,bi,()):Option (LI×Int×Int×T1L)).bind fun(bn,bo,bp,bq,bt,bv,bx,bA,bB,bC,bD,bE,_)=>
some (bA,bB,bC,bD,bE,bn,bo,())
noncomputable def B5:X.Cfg:=⟨E0,[eZ,pz,jg,j9],[],[⟨3,0,qE,[(.normal,(qS [(pP 0 2),(sP 1 I64),(sP 2 I64),(pP 6 14),(pP 7 16),(pP 8 18)] [(2,(uL [RI,I64])),(14,(uL [I64,I64,I64,I64,I64])),(16,(uL [I64,I64,I64,I64,I64])),(18,(uL [.bool,.bool,.bool,.bool]))]))]⟩,⟨5,1,qE,[(.normal,(qS [(pP 0 2),(sP 1 I64),(sP 2 I64),(pP 6 14),(pP 7 16),(pP 8 18)] [(2,(uL [RI,I64])),(14,(uL [I64,I64,I64,I64,I64])),(16,(uL [I64,I64,I64,I64,I64])),(18,(uL [.bool,.bool,.bool,.bool]))]))]⟩,⟨7,2,qE,[(.normal,(qS [(pP 0 2),(sP 1 I64),(sP 2 I64),(pP 6 14),(pP 7 16),(pP 8 18)] [(2,(uL [RI,I64])),(14,(uL [I64,I64,I64,I64,I64])),(16,(uL [I64,I64,I64,I64,I64])),(18,(uL [.bool,.bool,.bool,.bool]))]))]⟩,⟨9,3,qE,[(.normal,(qS [(pP 0 2),(pP 6 14),(pP 7 16)] [(2,(uL [RI,I64])),(14,(uL [I64,I64,I64,I64,I64])),(16,(uL [I64,I64,I64,I64,I64]))]))]⟩]⟩
def ug:Ctr:=⟨118,11,[.ptr ⟨2,0,[]⟩ [0],shU I64,shU I64],[(2,(uL [RI,I64]))],[⟨(uL [I64,I64,I64,I64,I64]),[.agg 5],[(2,(uL [RI,I64]))]⟩],ap4 mN⟩
theorem Bo:Lk 5 ug:=ls (C:=B5) rfl (aC fi (aC tI (aC kS (aC mg aN)))) (by kernel_rfl) fun h=>by kernel_rfl
def nP(a0:List (Int)) (a1:Int) (a2:Int) (a3:List (Int)) (a4:Int):Option (LDIn×T06):=
let x0:=(dI (List.length a0));
(dG x0 a3 a4).bind fun(x1,x2,x3,_)=>
(dT x1).bind fun x4=>
(dF a0 x4).bind fun x5=>
let x6:=(w64 (x5+1));
let x7:=(mmR false 5 x6);
(dG x7 x2 x3).bind fun(x8,x9,ac,_)=>
(hZ 2 x8).bind fun(ae,af,ag,ah,ai,_)=>
let aj:LDIn:=[(15,(1,(0,(0,x1)))),(ae,(af,(ag,(ah,ai))))];
(dG 20 x9 ac).bind fun(ak,am,an,_)=>
bif (ak==0) then ((dG 3 am an).bind fun(ap,aq,av,_)=>
let ax:=(w64 (3+ap));
(gv aq av).bind fun(ay,az,aA,_)=>
let aB:=(wk .i64 ay);
(hZ ax aB).bind fun(aD,aE,aF,aG,aH,_)=>
let aI:LDIn:=[(aD,(aE,(aF,(aG,aH))))];
some (aI,az,aA,())) else
bif (ak==1) then (let ap:List (Int):=[3,4,5,10,13,14,11,9];
(dG 8 am an).bind fun(aq,av,ax,_)=>
(dT aq).bind fun ay=>
(dF ap ay).bind fun az=>
(dF ap ay).bind fun aA=>
(dG 3 av ax).bind fun(aB,aD,aE,_)=>
let aF:=(w64 (3+aB));
(dG 3 aD aE).bind fun(aG,aH,aI,_)=>
let aJ:=(w64 (3+aG));
(dG 3 aH aI).bind fun(aK,aL,aM,_)=>
let aO:=(w64 (3+aK));
let aP:LDIn:=[(aA,(aF,(aJ,(aO,0))))];
some (aP,aL,aM,())) else
bif (ak==2) then (let ap:LDIn:=[(15,(6,(0,(0,x1))))];
some (ap,am,an,())) else
bif (ak==3) then ((dG 5 am an).bind fun(ap,aq,av,_)=>
let ax:=(w64 (3+ap));
(dT x1).bind fun ay=>
(dF a0 ay).bind fun az=>
(dG az aq av).bind fun(aA,aB,aD,_)=>
let aE:LDIn:=[(15,(6,(0,(0,x1)))),(17,(6,(ax,(0,aA))))];
some (aE,aB,aD,())) else
bif (ak==4) then ((dG 5 am an).bind fun(ap,aq,av,_)=>
let ax:=(w64 (3+ap));
(dT x1).bind fun ay=>
(dF a0 ay).bind fun az=>
(dG az aq av).bind fun(aA,aB,aD,_)=>
let aE:LDIn:=[(15,(6,(0,(0,x1)))),(17,(6,(ax,(0,aA))))];
some (aE,aB,aD,())) else
bif (ak==5) then ((dG 4 am an).bind fun(ap,aq,av,_)=>
let ax:=(w64 (3+ap));
(dT x1).bind fun ay=>
(dF a0 ay).bind fun az=>
(dG az aq av).bind fun(aA,aB,aD,_)=>
let aE:LDIn:=[(15,(6,(0,(0,x1)))),(16,(ax,(6,(0,aA))))];
some (aE,aB,aD,())) else
bif (ak==6) then ((dG 4 am an).bind fun(ap,aq,av,_)=>
let ax:=(w64 (3+ap));
(dT x1).bind fun ay=>
(dF a0 ay).bind fun az=>
(dG az aq av).bind fun(aA,aB,aD,_)=>
let aE:LDIn:=[(15,(6,(0,(0,x1)))),(16,(ax,(6,(0,aA))))];
some (aE,aB,aD,())) else
bif (ak==7) then ((dG 3 am an).bind fun(ap,aq,av,_)=>
(hZ 0 ap).bind fun(ax,ay,az,aA,aB,_)=>
let aD:LDIn:=[(ax,(ay,(az,(aA,aB))))];
bif (dU 40 (List.length aD) (List.length aj)) then let aE:LDIn:=(List.append aD aj);
(gu 13).bind fun(aF,aG,aH,aI,aJ,_)=>
let aK:LDIn:=[(aF,(aG,(aH,(aI,aJ))))];
bif (dU 40 (List.length aE) (List.length aK)) then let aL:LDIn:=(List.append aE aK);
some (aL,aq,av,()) else none else none) else
bif (ak==8) then ((dG 3 am an).bind fun(ap,aq,av,_)=>
(hZ 0 ap).bind fun(ax,ay,az,aA,aB,_)=>
let aD:LDIn:=[(ax,(ay,(az,(aA,aB))))];
bif (dU 40 (List.length aD) (List.length aj)) then let aE:LDIn:=(List.append aD aj);
(gu 13).bind fun(aF,aG,aH,aI,aJ,_)=>
let aK:LDIn:=[(aF,(aG,(aH,(aI,aJ))))];
bif (dU 40 (List.length aE) (List.length aK)) then let aL:LDIn:=(List.append aE aK);
some (aL,aq,av,()) else none else none) else
bif (ak==9) then ((dG 3 am an).bind fun(ap,aq,av,_)=>
(hZ 0 ap).bind fun(ax,ay,az,aA,aB,_)=>
let aD:LDIn:=[(ax,(ay,(az,(aA,aB))))];
bif (dU 40 (List.length aD) (List.length aj)) then let aE:LDIn:=(List.append aD aj);
(gu 14).bind fun(aF,aG,aH,aI,aJ,_)=>
(lz 3 0).bind fun(aK,aL,aM,aO,aP,_)=>
let aQ:LDIn:=[(aF,(aG,(aH,(aI,aJ)))),(aK,(aL,(aM,(aO,aP))))];
bif (dU 40 (List.length aE) (List.length aQ)) then let aR:LDIn:=(List.append aE aQ);
some (aR,aq,av,()) else none else none) else
bif (ak==10) then ((dG 3 am an).bind fun(ap,aq,av,_)=>
(hZ 0 ap).bind fun(ax,ay,az,aA,aB,_)=>
(dG 4 aq av).bind fun(aD,aE,aF,_)=>
(hZ 1 aD).bind fun(aG,aH,aI,aJ,aK,_)=>
(gu 3).bind fun(aL,aM,aO,aP,aQ,_)=>
(lz 7 0).bind fun(aR,aS,aT,aU,aV,_)=>
let aW:LDIn:=[(ax,(ay,(az,(aA,aB)))),(aG,(aH,(aI,(aJ,aK)))),(aL,(aM,(aO,(aP,aQ)))),(aR,(aS,(aT,(aU,aV))))];
some (aW,aE,aF,())) else
bif (ak==11) then ((lz 0 7).bind fun(ap,aq,av,ax,ay,_)=>
let az:LDIn:=[(ap,(aq,(av,(ax,ay))))];
bif (dU 40 (List.length az) (List.length aj)) then let aA:LDIn:=(List.append az aj);
let aB:List (Int):=[1,2];
(dG 2 am an).bind fun(aD,aE,aF,_)=>
(dT aD).bind fun aG=>
(dF aB aG).bind fun aH=>
(dF aB aG).bind fun aI=>
(gu aI).bind fun(aJ,aK,aL,aM,aO,_)=>
let aP:LDIn:=[(aJ,(aK,(aL,(aM,aO))))];
bif (dU 40 (List.length aA) (List.length aP)) then let aQ:LDIn:=(List.append aA aP);
some (aQ,aE,aF,()) else none else none) else
bif (ak==12) then ((lz 0 7).bind fun(ap,aq,av,ax,ay,_)=>
(gu 4).bind fun(az,aA,aB,aD,aE,_)=>
let aF:LDIn:=[(ap,(aq,(av,(ax,ay)))),(az,(aA,(aB,(aD,aE))))];
(lz 0 7).bind fun(aG,aH,aI,aJ,aK,_)=>
(dG 4 am an).bind fun(aL,aM,aO,_)=>
(hZ 1 aL).bind fun(aP,aQ,aR,aS,aT,_)=>
(gu 5).bind fun(aU,aV,aW,aY,aZ,_)=>
let ba:LDIn:=[(aG,(aH,(aI,(aJ,aK)))),(aP,(aQ,(aR,(aS,aT)))),(aU,(aV,(aW,(aY,aZ))))];
let bc:List LDIn:=[aF,ba];
(dG 2 aM aO).bind fun(bd,be,bf,_)=>
(dT bd).bind fun bg=>
(dF bc bg).bind fun bh=>
(dF bc bg).bind fun bi=>
(dF bc bg).bind fun bj=>
some (bj,be,bf,())) else
bif (ak==13) then (let ap:List (Int):=[6,7,15];
(dG 3 am an).bind fun(aq,av,ax,_)=>
(dT aq).bind fun ay=>
(dF ap ay).bind fun az=>
(dF ap ay).bind fun aA=>
(gu aA).bind fun(aB,aD,aE,aF,aG,_)=>
(dG 3 av ax).bind fun(aH,aI,aJ,_)=>
let aK:=(w64 (3+aH));
(lz aK 0).bind fun(aL,aM,aO,aP,aQ,_)=>
let aR:LDIn:=[(aB,(aD,(aE,(aF,aG)))),(aL,(aM,(aO,(aP,aQ))))];
some (aR,aI,aJ,())) else
bif (ak==14) then ((dG 3 am an).bind fun(ap,aq,av,_)=>
(hZ 0 ap).bind fun(ax,ay,az,aA,aB,_)=>
let aD:List (Int):=[8,9];
(dG 2 aq av).bind fun(aE,aF,aG,_)=>
(dT aE).bind fun aH=>
(dF aD aH).bind fun aI=>
(dF aD aH).bind fun aJ=>
(gu aJ).bind fun(aK,aL,aM,aO,aP,_)=>
let aQ:LDIn:=[(ax,(ay,(az,(aA,aB)))),(aK,(aL,(aM,(aO,aP))))];
some (aQ,aF,aG,())) else
bif (ak==15) then ((dG 3 am an).bind fun(ap,aq,av,_)=>
(hZ 0 ap).bind fun(ax,ay,az,aA,aB,_)=>
let aD:List (Int):=[8,9];
(dG 2 aq av).bind fun(aE,aF,aG,_)=>
(dT aE).bind fun aH=>
(dF aD aH).bind fun aI=>
(dF aD aH).bind fun aJ=>
(gu aJ).bind fun(aK,aL,aM,aO,aP,_)=>
let aQ:LDIn:=[(ax,(ay,(az,(aA,aB)))),(aK,(aL,(aM,(aO,aP))))];
some (aQ,aF,aG,())) else
bif (ak==16) then ((dG a1 am an).bind fun(ap,aq,av,_)=>
(hZ 0 ap).bind fun(ax,ay,az,aA,aB,_)=>
(lz 1 3).bind fun(aD,aE,aF,aG,aH,_)=>
(gu 10).bind fun(aI,aJ,aK,aL,aM,_)=>
let aO:LDIn:=[(ax,(ay,(az,(aA,aB)))),(aD,(aE,(aF,(aG,aH)))),(aI,(aJ,(aK,(aL,aM))))];
some (aO,aq,av,())) else
bif (ak==17) then (let ap:List (Int):=[a1,5];
(dG 2 am an).bind fun(aq,av,ax,_)=>
(dT aq).bind fun ay=>
(dF ap ay).bind fun az=>
(dF ap ay).bind fun aA=>
(dG aA av ax).bind fun(aB,aD,aE,_)=>
(hZ 0 aB).bind fun(aF,aG,aH,aI,aJ,_)=>
let aK:List (Int):=[12,11];
(dG 2 aD aE).bind fun(aL,aM,aO,_)=>
(dT aL).bind fun aP=>
(dF aK aP).bind fun aQ=>
(dF aK aP).bind fun aR=>
(gu aR).bind fun(aS,aT,aU,aV,aW,_)=>
let aY:LDIn:=[(aF,(aG,(aH,(aI,aJ)))),(aS,(aT,(aU,(aV,aW))))];
some (aY,aM,aO,())) else
bif (ak==18) then ((dG 4 am an).bind fun(ap,aq,av,_)=>
let ax:=(w64 (1+ap));
(hZ 5 ax).bind fun(ay,az,aA,aB,aD,_)=>
(hZ 4 1).bind fun(aE,aF,aG,aH,aI,_)=>
let aJ:=(w64 (a2+2));
let aK:LDIn:=[(ay,(az,(aA,(aB,aD)))),(aE,(aF,(aG,(aH,aI)))),(4,(5,(5,(4,0)))),(20,(5,(0,(0,aJ))))];
some (aK,aq,av,())) else
let ap:=(dI (List.length a0));
(mN ap a1 am an).bind fun(aq,av,ax,ay,az,aA,aB,_)=>
let aD:LDIn:=[(aq,(av,(ax,(ay,az))))];
some (aD,aA,aB,())
noncomputable def Dr:X.Cfg:=⟨E0,[eZ,DP,j9,Au,EL,ug],[(156,(.row true KIn))],[]⟩
def wv:Ctr:=⟨85,12,[.ptr ⟨2,0,[]⟩ [0],shU RI,shU I64,shU I64],[(2,(uL [RI,I64]))],[⟨(uL [eU]),[.one],[(2,(uL [RI,I64]))]⟩],ap5 nP⟩
theorem Dd:Lk 6 wv:=ls (C:=Dr) rfl (aC fi (aC HN (aC mg (aC Eo (aC JD (aC Bo aN)))))) (by kernel_rfl) fun h=>by kernel_rfl
def ng:T26→Option (T26⊕(Int×Int×Bool×T1G)):=fun(v0,v1,v2,v3,v4,v5,v6,v7,v8,v9,_)=>
bif (decide (v1 < v0)) then ((dT v1).bind fun x0=>
(dF v8 x0).bind fun x1=>
(dF v8 x0).bind fun x2=>
(fw x2 v2 v3).bind fun(x3,x4,x5,_)=>
bif (dU 24 (List.length v9) (List.length [x3])) then let x6:List LI:=(List.append v9 [x3]);
let x7:=(w64 (v1+1));
some (.inl (v0,x7,x4,x5,v4,v5,v6,v7,v8,x6,())) else none) else
some (.inr (v0,v1,false,v2,v3,v4,v5,v6,v7,v8,v9,()))
def ne:T1P→Option (T1P⊕T20):=fun(v0,v1,v2,v3,v4,v5,v6,v7,v8,_)=>
bif (decide (v0 > 0)) then ((let x0:Int:=(dI (List.length v6));
let x1:=(w64 (x0+1));
let x2:=(dI (List.length v6));
(nP v7 x1 x2 v1 v2).bind fun(x3,x4,x5,_)=>
let x6:=(dI (List.length v6));
let x7:=(dI (List.length x3));
let x8:=(w64 (x6+x7));
bif (decide (x8≤62)) then (bif (dU 40 (List.length v6) (List.length x3)) then let x9:LDIn:=(List.append v6 x3);
some (v0,x4,x5,v3,v4,v5,x9,v7,v8,()) else none) else
some (v0,x4,x5,v3,v4,v5,v6,v7,v8,()):Option (T1P)).bind fun(x0,x1,x2,x3,x4,x5,x6,x7,x8,_)=>
let x9:=(w64 (x0 - 1));
some (.inl (x9,x1,x2,x3,x4,x5,x6,x7,x8,()))) else
some (.inr (v0,false,v1,v2,v3,v4,v5,v6,v7,v8,()))
def fA:T25→Option (T25⊕(Int×T20)):=fun(v0,v1,v2,v3,v4,v5,v6,v7,v8,v9,_)=>
bif (decide (v1 < v0)) then (((dT v1).bind fun x0=>
(dF v7 x0).bind fun x1=>
(gj x1.1).bind fun(x2,_)=>
bif x2 then ((dT v1).bind fun x3=>
(dF v7 x3).bind fun x4=>
let x5:=(dI (List.length v7));
bif (decide (x4.2.2.2.2≥x5)) then ((dT v1).bind fun x6=>
(dF v7 x6).bind fun x7=>
none) else
some (v0,v1,v2,v3,v4,v5,v6,v7,v8,v9,())) else
some (v0,v1,v2,v3,v4,v5,v6,v7,v8,v9,()):Option (T25)).bind fun(x0,x1,x2,x3,x4,x5,x6,x7,x8,x9,_)=>
let ac:=(w64 (x1+1));
some (.inl (x0,ac,x2,x3,x4,x5,x6,x7,x8,x9,()))) else
some (.inr (v0,v1,false,v2,v3,v4,v5,v6,v7,v8,v9,()))
def kq(a0:List (Int)) (a1:Int):Option (LDIn×LI×LLI×T06):=
(mM a0 a1).bind fun(x0,x1,x2,_)=>
let x3:=(dI (List.length x0));
(dO ng NN (x3,0,x1,x2,(),(),(),(),x0,[],())).bind fun(x4,x5,x6,x7,x8,x9,ac,ae,af,ag,ah,_)=>
(dG 12 x7 x8).bind fun(ai,aj,ak,_)=>
let am:=(w64 (1+ai));
(dO ne NN (am,aj,ak,x9,ac,ae,[],ag,ah,())).bind fun(an,ap,aq,av,ax,ay,az,aA,aB,aD,_)=>
((dG 4 aq av).bind fun(aE,aF,aG,_)=>
bif (aE==0) then (let aH:Int:=(dI (List.length aA));
let aI:=(w64 (aH+1));
(dG aI aF aG).bind fun(aJ,aK,aL,_)=>
let aM:LDIn:=[(18,(0,(0,(0,aJ))))];
bif (dU 40 (List.length aA) (List.length aM)) then let aO:LDIn:=(List.append aA aM);
some (aK,aL,ax,ay,az,aO,aB,aD,()) else none) else
bif (aE==1) then (let aH:LDIn:=[(24,(0,(0,(0,0))))];
bif (dU 40 (List.length aA) (List.length aH)) then let aI:LDIn:=(List.append aA aH);
some (aF,aG,ax,ay,az,aI,aB,aD,()) else none) else
some (aF,aG,ax,ay,az,aA,aB,aD,()):Option (T1F)).bind fun(aE,aF,aG,aH,aI,aJ,aK,aL,_)=>
(dG 9 aE aF).bind fun(aM,aO,aP,_)=>
(hZ 0 aM).bind fun(aQ,aR,aS,aT,aU,_)=>
(gu 0).bind fun(aV,aW,aY,aZ,ba,_)=>
let bc:LDIn:=[(aQ,(aR,(aS,(aT,aU)))),(aV,(aW,(aY,(aZ,ba))))];
bif (dU 40 (List.length aJ) (List.length bc)) then let bd:LDIn:=(List.append aJ bc);
let be:=(dI (List.length bd));
bif (decide (be > 64)) then (bif (ji 0 64 (List.length bd)) then let bf:LDIn:=(na bd 0 (Nat.sub 64 0));
let bg:=(dI (List.length bf));
(dO fA NN (bg,0,aO,aP,aG,aH,aI,bf,aK,aL,())).bind fun(bh,bi,bj,bk,bl,bm,bn,bo,bp,bq,bt,_)=>
some (bp,bq,bt,bk,bl,()) else none) else
let bf:=(dI (List.length bd));
(dO fA NN (bf,0,aO,aP,aG,aH,aI,bd,aK,aL,())).bind fun(bg,bh,bi,bj,bk,bl,bm,bn,bo,bp,bq,_)=>
some (bo,bp,bq,bj,bk,()) else none
noncomputable def xt:X.Cfg:=⟨E0,[uf,pE,eZ,wv,DP,Au,jg],[(24,(.row true CW)),(25,(.row true CW))],[(lx 4 0 [(pP 0 2),(pP 2 6),(pP 3 8),(13,.pk ⟨8,1,[]⟩ [0,0]),(sP 14 I64),(sP 15 I64)] [(2,(uL [RI,I64])),(6,(uL [N1,N1,N1])),(8,(uL [N1,(.row true I64),(.row true (.row true CW))]))] 16),⟨14,1,qE,[(.normal,(qS [(pP 0 2),(pP 2 6),(pP 3 8),(sP 6 I64)] [(2,(uL [RI,I64])),(6,(uL [N1,N1,N1])),(8,(uL [(.row true KIn),RI,(.row true (.row true CW))]))]))]⟩,⟨11,2,(qS [(pP 0 2),(pP 2 6),(pP 3 8),(sP 6 I64)] [(2,(uL [RI,I64])),(6,(uL [N1,N1,N1])),(8,(uL [(.row true KIn),RI,(.row true (.row true CW))]))]),[(.exit 2,(qS [(pP 0 2),(pP 2 6),(pP 3 8),(sP 6 I64),(sP 32 .bool)] [(2,(uL [RI,I64])),(6,(uL [N1,N1,N1])),(8,(uL [(.row true KIn),RI,(.row true (.row true CW))]))]))]⟩,⟨17,3,qE,[(.normal,(qS [(pP 0 2),(pP 2 6),(pP 3 8)] [(2,(uL [RI,I64])),(6,(uL [N1,N1,N1])),(8,(uL [(.row true KIn),RI,(.row true (.row true CW))]))]))]⟩,⟨29,4,qE,[(.normal,(qS [(pP 0 2),(pP 2 6),(pP 3 8),(sP 101 I64),(sP 102 I64)] [(2,(uL [RI,I64])),(6,(uL [N1,N1,N1])),(8,(uL [eU,RI,(.row true (.row true CW))]))]))]⟩,⟨26,5,(qS [(pP 0 2),(pP 2 6),(pP 3 8),(sP 101 I64),(sP 102 I64)] [(2,(uL [RI,I64])),(6,(uL [N1,N1,N1])),(8,(uL [eU,RI,(.row true (.row true CW))]))]),[(.exit 5,(qS [(pP 0 2),(pP 2 6),(pP 3 8),(sP 101 I64),(sP 102 I64),(sP 103 .bool)] [(2,(uL [RI,I64])),(6,(uL [N1,N1,N1])),(8,(uL [eU,RI,(.row true (.row true CW))]))]))]⟩]⟩
def qF:Ctr:=⟨52,13,[.ptr ⟨2,0,[]⟩ [0]],[(2,(uL [RI,I64]))],[⟨(uL [eU,RI,(.row true (.row true CW))]),[.agg 3],[(2,(uL [RI,I64]))]⟩],ap2 kq⟩
theorem wW:Lk 7 qF:=ls (C:=xt) rfl (aC Bn (aC tL (aC fi (aC Dd (aC HN (aC Eo (aC kS aN))))))) (by kernel_rfl) fun h=>by kernel_rfl
def k8:T0C→Option (T0C⊕((Bool×Unit)⊕(LI×T0A))):=fun(v0,v1,v2,v3,_)=>
bif (decide (v3 < v2)) then ((dT v3).bind fun x0=>
(dF v1 x0).bind fun x1=>
bif (decide (x1 < 1)) then (some (.inr (.inl (false,())))) else
bif (decide (x1 > 32)) then (some (.inr (.inl (false,())))) else
let x2:=(w64 (v3+1));
some (.inl (v0,v1,v2,x2,()))) else
some (.inr (.inr (v0,v1,v2,v3,false,())))
def gr(a0:List (Int)):Option (Bool×Unit):=
let x0:=(dI (List.length a0));
(match dO k8 NN (a0,a0,x0,0,()) with
| none=>none
| some (.inl (x1,_))=>
some (x1,())
| some (.inr (x1,x2,x3,x4,x5,_))=>
let x6:=(dI (List.length x1));
bif (decide (x6≥1)) then (let x7:Int:=(dI (List.length x1));
some ((decide (x7≤4)),())) else
some (false,()))
noncomputable def zW:X.Cfg:=⟨E0,[],[],[⟨3,0,(qS [(sP 0 RI),(sP 5 RI),(sP 6 I64),(sP 7 I64)] []),[(.ret,(qS [(sP 2 .bool)] [])),(.exit 0,(qS [(sP 0 RI),(sP 5 RI),(sP 6 I64),(sP 7 I64),(sP 8 .bool)] []))]⟩]⟩
def lP:Ctr:=⟨106,14,(uL [RI]),[],[⟨(uL [.bool]),[.one],[]⟩],ap1 gr⟩
theorem nZ:Lk 1 lP:=ls (C:=zW) rfl aN (by kernel_rfl) fun h=>by kernel_rfl
def oP:T27→Option (T27⊕(LI×Int×Int×Int×Int×Int×Bool×T0D)):=fun(v0,v1,v2,v3,v4,v5,v6,v7,v8,v9,_)=>
bif (decide (v5 < v4)) then (let x0:Int:=(w64 (v5+v1));
bif (v2 != 0) then let x1:Int:=(Int.tmod x0 v2);
(dT x1).bind fun x2=>
(dF v8 x2).bind fun x3=>
(dF v8 x2).bind fun x4=>
let x5:=(List.modify v8 x2 fun e=>v3);
(dT x1).bind fun x6=>
(dF v0 x6).bind fun x7=>
let x8:=(w64 (x7+1));
let x9:=(w64 (50*v2));
bif (x9 != 0) then let ac:Int:=(w64 (Int.tdiv v1 x9));
let ae:=(Int.tmod ac 40);
let af:=(w64 (x8+ae));
let ag:=(w64 (v3+af));
let ah:=(w64 (v5+1));
some (.inl (v0,v1,v2,ag,v4,ah,v6,v7,x5,v9,())) else none else none) else
some (.inr (v0,v1,v2,v3,v4,v5,false,v6,v7,v8,v9,()))
def mL(a0:List (Int)) (a1:Int):Option (T0m):=
((gr a0).bind fun(x0,_)=>
bif (!x0) then (some (a0,a1,true,(),0,())) else
bif (decide (a1 < 0)) then (some (a0,a1,true,(),0,())) else
some (a0,a1,(decide (a1 > 1073741824)),(),0,()):Option (LI×Int×Bool×Unit×Int×Unit)).bind fun(x0,x1,x2,x3,x4,_)=>
bif x2 then (some ([],0,1,())) else
let x5:=(dI (List.length x0));
(dT x5).bind fun x6=>
(dT x5).bind fun x7=>
bif (qO x6 x7 1) then let x8:List (Int):=(List.replicate x6 0);
let x9:=(w64 (40503*x1));
let ac:=(wk .u16 x9);
bif (x5 != 0) then let ae:Int:=(w64 (Int.tdiv x1 x5));
let af:=(Int.tmod ae 50);
let ag:=(w64 (1+af));
(dO oP NN (x0,x1,x5,ag,x5,0,x3,x4,x8,ac,())).bind fun(ah,ai,aj,ak,am,an,ap,aq,av,ax,ay,_)=>
some (ax,ay,0,()) else none else none
noncomputable def BZ:X.Cfg:=⟨E0,[lP],[],[⟨2,0,qE,[(.normal,(qS [(sP 0 RI),(sP 1 I64),(pP 4 10),(sP 21 .bool)] [(10,(uL [N1,CW]))]))]⟩,(lx 9 1 [(sP 0 RI),(sP 1 I64),(pP 4 10),(sP 6 I64),(pP 7 16),(sP 8 I64),(sP 36 I64),(sP 37 I64)] [(10,(uL [N1,CW])),(16,(uL [(.row true I64),CW]))] 38)]⟩
def ud:Ctr:=⟨94,15,(uL [RI,I64]),[],[⟨(uL [(.row true I64),CW,I64]),[.agg 2,.one],[]⟩],ap2 mL⟩
theorem Bl:Lk 2 ud:=ls (C:=BZ) rfl (aC nZ aN) (by kernel_rfl) fun h=>by kernel_rfl
def lD(a0:List (Int)) (a1:List (Int)) (a2:Int):Option (LI×T0g):=
(dG 1048576 a1 a2).bind fun(x0,x1,x2,_)=>
(mL a0 x0).bind fun(x3,x4,x5,_)=>
some (x3,x4,x1,x2,())
noncomputable def Ae:X.Cfg:=⟨E0,[eZ,ud],[],[]⟩
def sj:Ctr:=⟨54,16,[.ptr ⟨2,0,[]⟩ [0],shU RI],[(2,(uL [RI,I64]))],[⟨(uL [(.row true I64),CW]),[.agg 2],[(2,(uL [RI,I64]))]⟩],ap3 lD⟩
theorem zj:Lk 4 sj:=ls (C:=Ae) rfl (aC fi (aC Bl aN)) (by kernel_rfl) fun h=>by kernel_rfl
def ja(a0:Int) (a1:Int) (a2:Int) (a3:Int):Option (Bool×Unit):=
bif (a0==0) then (bif (a2==0) then (some ((a3==0),())) else
some (false,())) else
bif (a0==2) then (bif (a2==0) then (some ((a3==0),())) else
some (false,())) else
bif (a0==1) then (bif (a2==(-1)) then (bif (a1==0) then (bif (decide (a3≥0)) then (some ((decide (a3≤65535)),())) else
some (false,())) else
some (false,())) else
bif (a1==0) then (bif (decide (a2≥0)) then (bif (decide (a2 < 4)) then (bif (decide (a3≥0)) then (some ((decide (a3 < 32)),())) else
some (false,())) else
some (false,())) else
some (false,())) else
some (false,())) else
some (false,())
noncomputable def BK:X.Cfg:=⟨E0,[],[],[]⟩
def pt:Ctr:=⟨138,17,[.agg (uL [CB,CW,I64,I64])],[],[⟨(uL [.bool]),[.one],[]⟩],ap4 ja⟩
theorem tF:Lk 1 pt:=ls (C:=BK) rfl aN (by kernel_rfl) fun h=>by kernel_rfl
def iQ:LDCn×Int×T0k→Option ((LDCn×Int×T0k)⊕((Bool×Unit)⊕(LDCn×Int×LDCn×T0d))):=fun(v0,v1,v2,v3,v4,_)=>
bif (decide (v4 < v3)) then ((dT v4).bind fun x0=>
(dF v2 x0).bind fun x1=>
(ja x1.1 x1.2.1 x1.2.2.1 x1.2.2.2).bind fun(x2,_)=>
bif (!x2) then (some (.inr (.inl (false,())))) else
let x3:=(w64 (v4+1));
some (.inl (v0,v1,v2,v3,x3,()))) else
some (.inr (.inr (v0,v1,v2,v3,v4,false,())))
def eW(a0:LDCn) (a1:Int):Option (Bool×Unit):=
let x0:=(dI (List.length a0));
(match dO iQ NN (a0,a1,a0,x0,0,()) with
| none=>none
| some (.inl (x1,_))=>
some (x1,())
| some (.inr (x1,x2,x3,x4,x5,x6,_))=>
let x7:=(dI (List.length x1));
some ((decide (x7≤x2)),()))
noncomputable def zG:X.Cfg:=⟨E0,[pt],[],[⟨3,0,(qS [(sP 0 dY),(sP 1 I64),(sP 7 dY),(sP 8 I64),(sP 9 I64)] []),[(.ret,(qS [(sP 4 .bool)] [])),(.exit 0,(qS [(sP 0 dY),(sP 1 I64),(sP 7 dY),(sP 8 I64),(sP 9 I64),(sP 10 .bool)] []))]⟩]⟩
def fT:Ctr:=⟨105,18,(uL [dY,I64]),[],[⟨(uL [.bool]),[.one],[]⟩],ap2 eW⟩
theorem gy:Lk 2 fT:=ls (C:=zG) rfl (aC tF aN) (by kernel_rfl) fun h=>by kernel_rfl
def iP:T0U→Option (T0U⊕((Bool×Unit)⊕(LLCn×T0K))):=fun(v0,v1,v2,v3,v4,_)=>
bif (decide (v2 < v1)) then ((dT v2).bind fun x0=>
(dF v0 x0).bind fun x1=>
(eW x1 64).bind fun(x2,_)=>
bif (!x2) then (some (.inr (.inl (false,())))) else
let x3:=(w64 (v2+1));
some (.inl (v0,v1,x3,v3,v4,()))) else
some (.inr (.inr (v0,v1,v2,false,v3,v4,())))
def kX:LDOp×T0v→Option ((LDOp×T0v)⊕((Bool×Unit)⊕(LDOp×T0K))):=fun(v0,v1,v2,v3,v4,_)=>
bif (decide (v2 < v1)) then ((dT v2).bind fun x0=>
(dF v0 x0).bind fun x1=>
(bif (x1.1==(-1)) then (bif (x1.2.1 != 0) then (some (v0,v1,v2,true,v3,v4,x1.1,x1.2.1,x1.2.2,())) else
bif x1.2.2 then (some (v0,v1,v2,true,v3,v4,x1.1,x1.2.1,x1.2.2,())) else
bif (decide (x1.1 < (-1))) then (some (v0,v1,v2,true,v3,v4,x1.1,x1.2.1,x1.2.2,())) else
let x2:=(dI (List.length v3));
bif (decide (x1.1≥x2)) then (some (v0,v1,v2,true,v3,v4,x1.1,x1.2.1,x1.2.2,())) else
bif (decide (x1.1≥0)) then (bif (decide (x1.2.1 < 0)) then (some (v0,v1,v2,true,v3,v4,x1.1,x1.2.1,x1.2.2,())) else
(dT x1.1).bind fun x3=>
(dF v3 x3).bind fun x4=>
let x5:=(dI (List.length x4));
some (v0,v1,v2,(decide (x1.2.1 > x5)),v3,v4,x1.1,x1.2.1,x1.2.2,())) else
some (v0,v1,v2,false,v3,v4,x1.1,x1.2.1,x1.2.2,())) else
bif (decide (x1.1 < (-1))) then (some (v0,v1,v2,true,v3,v4,x1.1,x1.2.1,x1.2.2,())) else
let x2:=(dI (List.length v3));
bif (decide (x1.1≥x2)) then (some (v0,v1,v2,true,v3,v4,x1.1,x1.2.1,x1.2.2,())) else
bif (decide (x1.1≥0)) then (bif (decide (x1.2.1 < 0)) then (some (v0,v1,v2,true,v3,v4,x1.1,x1.2.1,x1.2.2,())) else
(dT x1.1).bind fun x3=>
(dF v3 x3).bind fun x4=>
let x5:=(dI (List.length x4));
some (v0,v1,v2,(decide (x1.2.1 > x5)),v3,v4,x1.1,x1.2.1,x1.2.2,())) else
some (v0,v1,v2,false,v3,v4,x1.1,x1.2.1,x1.2.2,()):Option (LDOp×Int×Int×Bool×LLCn×LDOp×T0d)).bind fun(x2,x3,x4,x5,x6,x7,x8,x9,ac,_)=>
bif x5 then (some (.inr (.inl (false,())))) else
let ae:=(w64 (x4+1));
some (.inl (x2,x3,ae,x6,x7,()))) else
some (.inr (.inr (v0,v1,v2,false,v3,v4,())))
def jq(a0:List LDCn) (a1:LDOp):Option (Bool×Unit):=
let x0:=(dI (List.length a0));
bif (decide (x0 > 4)) then (some (false,())) else
let x1:=(dI (List.length a1));
bif (x1 != 8) then (some (false,())) else
let x2:=(dI (List.length a0));
(match dO iP NN (a0,x2,0,a0,a1,()) with
| none=>none
| some (.inl (x3,_))=>
some (x3,())
| some (.inr (x3,x4,x5,x6,x7,x8,_))=>
let x9:=(dI (List.length x8));
(match dO kX NN (x8,x9,0,x7,x8,()) with
| none=>none
| some (.inl (ac,_))=>
some (ac,())
| some (.inr (ac,ae,af,ag,ah,ai,_))=>
some (true,())))
noncomputable def zu:X.Cfg:=⟨E0,[fT],[],[⟨6,0,(qS [(pP 1 4),(sP 18 (.row false dY)),(sP 19 I64),(sP 20 I64)] [(4,(uL [(.row false dY),gh]))]),[(.ret,(qS [(sP 2 .bool)] [])),(.exit 0,(qS [(pP 1 4),(sP 18 (.row false dY)),(sP 19 I64),(sP 20 I64),(sP 21 .bool)] [(4,(uL [(.row false dY),gh]))]))]⟩,⟨20,1,qE,[(.normal,(qS [(pP 1 4),(sP 29 gh),(sP 30 I64),(sP 31 I64),(sP 81 .bool)] [(4,(uL [(.row false dY),gh])),(14,(uL [I64,I64,.bool]))]))]⟩,⟨15,2,(qS [(pP 1 4),(sP 29 gh),(sP 30 I64),(sP 31 I64)] [(4,(uL [(.row false dY),gh]))]),[(.ret,(qS [(sP 2 .bool)] [])),(.exit 2,(qS [(pP 1 4),(sP 29 gh),(sP 30 I64),(sP 31 I64),(sP 32 .bool)] [(4,(uL [(.row false dY),gh]))]))]⟩]⟩
def oc:Ctr:=⟨120,19,[.agg (uL [(.row false dY),gh])],[],[⟨(uL [.bool]),[.one],[]⟩],ap2 jq⟩
theorem rz:Lk 3 oc:=ls (C:=zu) rfl (aC gy aN) (by kernel_rfl) fun h=>by kernel_rfl
def qg:T1u→Option (T1u⊕(LLI×Int×Int×Bool×T0H)):=fun(v0,v1,v2,v3,v4,v5,v6,_)=>
bif (decide (v2 < v1)) then ((dT v2).bind fun x0=>
(dF v6 x0).bind fun x1=>
(dF v6 x0).bind fun x2=>
let x3:=(List.modify v6 x0 fun e=>((-1),e.2));
let x4:=(w64 (v2+1));
some (.inl (v0,v1,x4,v3,v4,v5,x3,()))) else
some (.inr (v0,v1,v2,false,v3,v4,v5,v6,()))
def qf:T2l→Option (T2l⊕(LLI×Int×Int×LI×Int×Int×Bool×T0X)):=fun(v0,v1,v2,v3,v4,v5,v6,v7,v8,v9,v10,_)=>
bif (decide (v5 < v4)) then ((dT v5).bind fun x0=>
(dF v3 x0).bind fun x1=>
let x2:LDCn:=[(0,(x1,(0,0)))];
bif (dU 24 (List.length v10) (List.length x2)) then let x3:LDCn:=(List.append v10 x2);
let x4:=(w64 (v5+1));
some (.inl (v0,v1,v2,v3,v4,x4,v6,v7,v8,v9,x3,())) else none) else
some (.inr (v0,v1,v2,v3,v4,v5,false,v6,v7,v8,v9,v10,()))
def qe:T1t→Option (T1t⊕(LLI×T1k)):=fun(v0,v1,v2,v3,v4,v5,v6,_)=>
bif (decide (v2 < v1)) then ((dT v2).bind fun x0=>
(dF v0 x0).bind fun x1=>
let x2:=(dI (List.length x1));
(dO qf NN (v0,v1,v2,x1,x2,0,v3,v4,v5,v6,[],())).bind fun(x3,x4,x5,x6,x7,x8,x9,ac,ae,af,ag,ah,_)=>
bif (dU 24 (List.length af) (List.length [ah])) then let ai:List LDCn:=(List.append af [ah]);
let aj:=(w64 (x5+1));
some (.inl (x3,x4,aj,ac,ae,ai,ag,())) else none) else
some (.inr (v0,v1,v2,false,v3,v4,v5,v6,()))
def nJ(a0:List LI):Option (LLCn×LDOp×Int×Unit):=
bif (qO 8 8 3) then let x0:LDOp:=(List.replicate 8 (0,(0,false)));
let x1:=(dI (List.length x0));
(dO qg NN (a0,x1,0,(),(),(),x0,())).bind fun(x2,x3,x4,x5,x6,x7,x8,x9,_)=>
let ac:=(dI (List.length x2));
(dO qe NN (x2,ac,0,x6,x7,[],x9,())).bind fun(ae,af,ag,ah,ai,aj,ak,am,_)=>
(jq ak am).bind fun(an,_)=>
bif (!an) then (some ([],[],3,())) else
some (ak,am,0,()) else none
noncomputable def Dg:X.Cfg:=⟨E0,[oc],[(46,(.row true KCn)),(47,(.row true KCn))],[(lx 4 0 [(sP 0 (.row false RW)),(pP 2 6),(pP 4 10),(sP 15 I64),(sP 16 I64)] [(6,(uL [N1,N1])),(10,(uL [N1,(.row true KOp)]))] 17),⟨19,1,(qS [(pP 2 6),(pP 4 10),(8,.pk ⟨19,0,[]⟩ [0,0]),(sP 25 (.row false RW)),(sP 26 I64),(sP 27 I64),(sP 31 RW),(sP 32 I64),(sP 33 I64)] [(6,(uL [N1,N1])),(10,(uL [(.row true (.row true KCn)),(.row true KOp)])),(19,(uL [(.row true KCn)]))]),[(.exit 4,(qS [(pP 2 6),(pP 4 10),(8,.pk ⟨19,0,[]⟩ [0,0]),(sP 25 (.row false RW)),(sP 26 I64),(sP 27 I64),(sP 31 RW),(sP 32 I64),(sP 33 I64),(sP 34 .bool)] [(6,(uL [N1,N1])),(10,(uL [(.row true (.row true KCn)),(.row true KOp)])),(19,(uL [(.row true KCn)]))]))]⟩,⟨11,2,(qS [(pP 2 6),(pP 4 10),(sP 25 (.row false RW)),(sP 26 I64),(sP 27 I64)] [(6,(uL [N1,N1])),(10,(uL [(.row true (.row true KCn)),(.row true KOp)]))]),[(.exit 2,(qS [(pP 2 6),(pP 4 10),(sP 25 (.row false RW)),(sP 26 I64),(sP 27 I64),(sP 28 .bool)] [(6,(uL [N1,N1])),(10,(uL [(.row true (.row true KCn)),(.row true KOp)]))]))]⟩]⟩
def wl:Ctr:=⟨125,20,(uL [(.row false RW)]),[],[⟨(uL [(.row true (.row true KCn)),(.row true KOp),I64]),[.agg 2,.one],[]⟩],ap1 nJ⟩
theorem C6:Lk 4 wl:=ls (C:=Dg) rfl (aC rz aN) (by kernel_rfl) fun h=>by kernel_rfl
def fb:LLI×Int×Int×LLI×Unit→Option ((LLI×Int×Int×LLI×Unit)⊕(LLI×Int×Int×Bool×LLI×Unit)):=fun(v0,v1,v2,v3,_)=>
bif (decide (v2 < v1)) then ((dT v2).bind fun x0=>
(dF v0 x0).bind fun x1=>
bif (dU 2 0 (List.length x1)) then let x2:List (Int):=(List.append [] x1);
bif (dU 24 (List.length v3) (List.length [x2])) then let x3:List LI:=(List.append v3 [x2]);
let x4:=(w64 (v2+1));
some (.inl (v0,v1,x4,x3,())) else none else none) else
some (.inr (v0,v1,v2,false,v3,()))
def ff(a0:List LI):Option (LLI×Unit):=
let x0:=(dI (List.length a0));
(dO fb NN (a0,x0,0,[],())).bind fun(x1,x2,x3,x4,x5,_)=>
some (x5,())
noncomputable def rJ:X.Cfg:=⟨E0,[],[(15,(.row true CW)),(16,(.row true CW))],[(lx 4 0 [(3,.pk ⟨9,0,[]⟩ [0,0]),(sP 6 (.row false RW)),(sP 7 I64),(sP 8 I64)] [(9,(uL [(.row true (.row true CW))]))] 9)]⟩
def gS:Ctr:=⟨122,21,(uL [(.row false RW)]),[],[⟨(uL [(.row true (.row true CW))]),[.one],[]⟩],ap1 ff⟩
theorem jJ:Lk 1 gS:=ls (C:=rJ) rfl aN (by kernel_rfl) fun h=>by kernel_rfl
def gQ:LDOu×T02→Option ((LDOu×T02)⊕((Bool×Unit)⊕(LDOu×T0d))):=fun(v0,v1,v2,_)=>
bif (decide (v2 < v1)) then ((dT v2).bind fun x0=>
(dF v0 x0).bind fun x1=>
(bif (x1.1 != v2) then (some (v0,v1,v2,true,())) else
bif (decide (x1.2.1 < 0)) then (some (v0,v1,v2,true,())) else
bif (decide (x1.2.1≥2)) then (some (v0,v1,v2,true,())) else
let x2:=(dI (List.length x1.2.2));
some (v0,v1,v2,(decide (x2 > 16)),()):Option (LDOu×T0d)).bind fun(x2,x3,x4,x5,_)=>
bif x5 then (some (.inr (.inl (false,())))) else
let x6:=(w64 (x4+1));
some (.inl (x2,x3,x6,()))) else
some (.inr (.inr (v0,v1,v2,false,())))
def jp(a0:LDOu):Option (Bool×Unit):=
let x0:=(dI (List.length a0));
(match dO gQ NN (a0,x0,0,()) with
| none=>none
| some (.inl (x1,_))=>
some (x1,())
| some (.inr (x1,x2,x3,x4,_))=>
some (true,()))
noncomputable def vB:X.Cfg:=⟨E0,[],[],[⟨8,0,qE,[(.normal,(qS [(sP 5 iD),(sP 6 I64),(sP 7 I64),(sP 31 .bool)] []))]⟩,⟨3,1,(qS [(sP 5 iD),(sP 6 I64),(sP 7 I64)] []),[(.ret,(qS [(sP 2 .bool)] [])),(.exit 0,(qS [(sP 5 iD),(sP 6 I64),(sP 7 I64),(sP 8 .bool)] []))]⟩]⟩
def pi:Ctr:=⟨121,22,(uL [iD]),[],[⟨(uL [.bool]),[.one],[]⟩],ap1 jp⟩
theorem vi:Lk 1 pi:=ls (C:=vB) rfl aN (by kernel_rfl) fun h=>by kernel_rfl
def iO:T1Y→Option (T1Y⊕((Bool×Unit)⊕(LLI×T1I))):=fun(v0,v1,v2,v3,v4,v5,v6,v7,v8,_)=>
bif (decide (v2 < v1)) then ((dT v2).bind fun x0=>
(dF v0 x0).bind fun x1=>
let x2:=(dI (List.length x1));
bif (decide (x2 > 64)) then (some (.inr (.inl (false,())))) else
let x3:=(w64 (v2+1));
some (.inl (v0,v1,x3,v3,v4,v5,v6,v7,v8,()))) else
some (.inr (.inr (v0,v1,v2,false,v3,v4,v5,v6,v7,v8,())))
def iN:T1S→Option (T1S⊕((Bool×Unit)⊕(LDOu×T1I))):=fun(v0,v1,v2,v3,v4,v5,v6,v7,v8,_)=>
bif (decide (v2 < v1)) then ((dT v2).bind fun x0=>
(dF v0 x0).bind fun x1=>
(eW x1.2.2 16).bind fun(x2,_)=>
bif (!x2) then (some (.inr (.inl (false,())))) else
let x3:=(w64 (v2+1));
some (.inl (v0,v1,x3,v3,v4,v5,v6,v7,v8,()))) else
some (.inr (.inr (v0,v1,v2,false,v3,v4,v5,v6,v7,v8,())))
def im(a0:List (Int)) (a1:List (Int)) (a2:List LI) (a3:List LDCn) (a4:LDOp) (a5:LDOu):Option (Bool×Unit):=
let x0:=(dI (List.length a2));
(match dO iO NN (a2,x0,0,a0,a1,a2,a3,a4,a5,()) with
| none=>none
| some (.inl (x1,_))=>
some (x1,())
| some (.inr (x1,x2,x3,x4,x5,x6,x7,x8,x9,ac,_))=>
let ae:=(dI (List.length ac));
(match dO iN NN (ac,ae,0,x5,x6,x7,x8,x9,ac,()) with
| none=>none
| some (.inl (af,_))=>
some (af,())
| some (.inr (af,ag,ah,ai,aj,ak,am,an,ap,aq,_))=>
let av:=(dI (List.length aj));
bif (decide (av≤64)) then (let ax:Int:=(dI (List.length ak));
bif (decide (ax≤64)) then (let ay:Int:=(dI (List.length am));
bif (decide (ay≤2)) then ((jq an ap).bind fun(az,_)=>
bif az then (let aA:Int:=(dI (List.length aq));
bif (decide (aA≤200)) then ((jp aq).bind fun(aB,_)=>
some (aB,())) else
some (false,())) else
some (false,())) else
some (false,())) else
some (false,())) else
some (false,())))
noncomputable def zq:X.Cfg:=⟨E0,[fT,oc,pi],[],[⟨3,0,(qS [(pP 1 4),(sP 8 (.row false RW)),(sP 9 I64),(sP 10 I64)] [(4,(uL [RW,RW,(.row false RW),(.row false dY),gh,iD]))]),[(.ret,(qS [(sP 2 .bool)] [])),(.exit 0,(qS [(pP 1 4),(sP 8 (.row false RW)),(sP 9 I64),(sP 10 I64),(sP 11 .bool)] [(4,(uL [RW,RW,(.row false RW),(.row false dY),gh,iD]))]))]⟩,⟨12,1,(qS [(pP 1 4),(sP 19 iD),(sP 20 I64),(sP 21 I64)] [(4,(uL [RW,RW,(.row false RW),(.row false dY),gh,iD]))]),[(.ret,(qS [(sP 2 .bool)] [])),(.exit 2,(qS [(pP 1 4),(sP 19 iD),(sP 20 I64),(sP 21 I64),(sP 22 .bool)] [(4,(uL [RW,RW,(.row false RW),(.row false dY),gh,iD]))]))]⟩]⟩
def lK:Ctr:=⟨90,23,[.agg (uL [RW,RW,(.row false RW),(.row false dY),gh,iD])],[],[⟨(uL [.bool]),[.one],[]⟩],ap6 im⟩
theorem nU:Lk 4 lK:=ls (C:=zq) rfl (aC gy (aC rz (aC vi aN))) (by kernel_rfl) fun h=>by kernel_rfl
def nI(a0:List LI) (a1:List LI) (a2:List (Int)) (a3:List (Int)):Option (LI×LI×LLI×LLCn×LDOp×Unit×Int×Unit):=
(nJ a0).bind fun(x0,x1,x2,_)=>
bif (x2 != 0) then (some ([],[],[],[],[],(),x2,())) else
bif (dU 2 0 (List.length a2)) then let x3:List (Int):=(List.append [] a2);
bif (dU 2 0 (List.length a3)) then let x4:List (Int):=(List.append [] a3);
(ff a1).bind fun(x5,_)=>
(im x3 x4 x5 x0 x1 []).bind fun(x6,_)=>
bif (!x6) then (some ([],[],[],[],[],(),3,())) else
some (x3,x4,x5,x0,x1,(),0,()) else none else none
noncomputable def zr:X.Cfg:=⟨E0,[wl,gS,lK],[],[]⟩
def rR:Ctr:=⟨95,24,(uL [(.row false RW),(.row false RW),RW,RW]),[],[⟨(uL [RW,RW,(.row false RW),(.row false dY),gh,N1,I64]),[.agg 6,.one],[]⟩],ap4 nI⟩
theorem yP:Lk 5 rR:=ls (C:=zr) rfl (aC C6 (aC jJ (aC nU aN))) (by kernel_rfl) fun h=>by kernel_rfl
def kt(a0:List (Int)) (a1:Int):Option (LI×LI×LLI×LLCn×LDOp×Unit×T06):=
(fw 5 a0 a1).bind fun(x0,x1,x2,_)=>
(fw 3 x1 x2).bind fun(x3,x4,x5,_)=>
let x6:List LI:=[x0,x3];
(fw 8 x4 x5).bind fun(x7,x8,x9,_)=>
(fw 4 x8 x9).bind fun(ac,ae,af,_)=>
let ag:List LI:=[x7,ac];
(fw 5 ae af).bind fun(ah,ai,aj,_)=>
(fw 5 ai aj).bind fun(ak,am,an,_)=>
(nI x6 ag ah ak).bind fun(ap,aq,av,ax,ay,az,aA,_)=>
some (ap,aq,av,ax,ay,az,am,an,())
noncomputable def xu:X.Cfg:=⟨E0,[pE,rR],[(10,(.row true CW)),(15,(.row true CW))],[]⟩
def qG:Ctr:=⟨55,25,[.ptr ⟨2,0,[]⟩ [0]],[(2,(uL [RI,I64]))],[⟨(uL [RW,RW,(.row false RW),(.row false dY),gh,N1]),[.agg 6],[(2,(uL [RI,I64]))]⟩],ap2 kt⟩
theorem wX:Lk 6 qG:=ls (C:=xu) rfl (aC tL (aC yP aN)) (by kernel_rfl) fun h=>by kernel_rfl
def iV:T2o→Option (T2o⊕((Bool×Unit)⊕T2v)):=fun(v0,v1,v2,v3,v4,v5,v6,v7,v8,v9,v10,v11,_)=>
bif (decide (v1 < v0)) then ((dT v1).bind fun x0=>
(dF v11 x0).bind fun x1=>
(dF v11 x0).bind fun x2=>
(bif (decide (x2 < 0)) then (some (v0,v1,true,v2,v3,v4,v5,v6,v7,v8,v9,v10,v11,())) else
bif (decide (x2≥8)) then (some (v0,v1,true,v2,v3,v4,v5,v6,v7,v8,v9,v10,v11,())) else
(dT v1).bind fun x3=>
bif (Nat.beq x3 0) then (bif (!v7) then (some (v0,v1,(x2 != 0),v2,v3,v4,v5,v6,v7,v8,v9,v10,v11,())) else
some (v0,v1,false,v2,v3,v4,v5,v6,v7,v8,v9,v10,v11,())) else
bif (Nat.beq x3 1) then (bif (!v8) then (some (v0,v1,(x2 != 0),v2,v3,v4,v5,v6,v7,v8,v9,v10,v11,())) else
some (v0,v1,false,v2,v3,v4,v5,v6,v7,v8,v9,v10,v11,())) else
bif (Nat.beq x3 2) then (bif (!v9) then (some (v0,v1,(x2 != 0),v2,v3,v4,v5,v6,v7,v8,v9,v10,v11,())) else
some (v0,v1,false,v2,v3,v4,v5,v6,v7,v8,v9,v10,v11,())) else
bif (Nat.beq x3 3) then bif (!v10) then (some (v0,v1,(x2 != 0),v2,v3,v4,v5,v6,v7,v8,v9,v10,v11,())) else
some (v0,v1,false,v2,v3,v4,v5,v6,v7,v8,v9,v10,v11,()) else none:Option (T2v)).bind fun(x3,x4,x5,x6,x7,x8,x9,ac,ae,af,ag,ah,ai,_)=>
bif x5 then (some (.inr (.inl (false,())))) else
let aj:=(w64 (x4+1));
some (.inl (x3,aj,x6,x7,x8,x9,ac,ae,af,ag,ah,ai,()))) else
some (.inr (.inr (v0,v1,false,v2,v3,v4,v5,v6,v7,v8,v9,v10,v11,())))
def lr(a0:Int) (a1:Int) (a2:Int) (a3:Int) (a4:Int):Option (Bool×Unit):=
bif (decide (a0 < 0)) then (some (false,())) else
bif (decide (a0 > 24)) then (some (false,())) else
(jc a0).bind fun(x0,x1,x2,x3,_)=>
let x4:List (Int):=[a1,a2,a3];
let x5:=(dI (List.length x4));
(match dO iV NN (x5,0,a0,a1,a2,a3,a4,x0,x1,x2,x3,x4,()) with
| none=>none
| some (.inl (x6,_))=>
some (x6,())
| some (.inr (x6,x7,x8,x9,ac,ae,af,ag,ah,ai,aj,ak,am,_))=>
(bif (decide (ag < 0)) then (some (true,x9,ac,ae,af,ag,())) else
bif (decide (ag > 65535)) then (some (true,x9,ac,ae,af,ag,())) else
bif (!ak) then (some ((ag != 0),x9,ac,ae,af,ag,())) else
some (false,x9,ac,ae,af,ag,()):Option (Bool×T0L)).bind fun(an,ap,aq,av,ax,ay,_)=>
bif an then (some (false,())) else
(gj ap).bind fun(az,_)=>
bif az then (some ((decide (ay < 64)),())) else
bif (ap==15) then (some ((decide (ay < 4)),())) else
bif (ap==23) then (some ((decide (ay≤15)),())) else
some (true,()))
noncomputable def zP:X.Cfg:=⟨E0,[pz,jg],[],[⟨12,0,qE,[(.normal,(qS [(pP 1 4),(pP 3 8),(23,.pk ⟨49,0,[]⟩ [0,0]),(sP 24 I64),(sP 25 I64),(sP 45 .bool)] [(4,(uL [I64,I64,I64,I64,I64])),(8,(uL [.bool,.bool,.bool,.bool])),(49,(uL [(.row true I64)]))]))]⟩,⟨7,1,(qS [(pP 1 4),(pP 3 8),(23,.pk ⟨49,0,[]⟩ [0,0]),(sP 24 I64),(sP 25 I64)] [(4,(uL [I64,I64,I64,I64,I64])),(8,(uL [.bool,.bool,.bool,.bool])),(49,(uL [(.row true I64)]))]),[(.ret,(qS [(sP 2 .bool)] [])),(.exit 0,(qS [(pP 1 4),(pP 3 8),(23,.pk ⟨49,0,[]⟩ [0,0]),(sP 24 I64),(sP 25 I64),(sP 26 .bool)] [(4,(uL [I64,I64,I64,I64,I64])),(8,(uL [.bool,.bool,.bool,.bool])),(49,(uL [(.row true I64)]))]))]⟩,⟨15,2,qE,[(.normal,(qS [(pP 1 4),(sP 64 .bool)] [(4,(uL [I64,I64,I64,I64,I64]))]))]⟩]⟩
def sc:Ctr:=⟨137,26,[.agg (uL [I64,I64,I64,I64,I64])],[],[⟨(uL [.bool]),[.one],[]⟩],ap5 lr⟩
theorem zb:Lk 2 sc:=ls (C:=zP) rfl (aC tI (aC kS aN)) (by kernel_rfl) fun h=>by kernel_rfl
def iU:LLI×T0M→Option ((LLI×T0M)⊕((Int×Unit)⊕(LLI×T11))):=fun(v0,v1,v2,v3,v4,v5,_)=>
bif (decide (v2 < v1)) then ((dT v2).bind fun x0=>
(dF v0 x0).bind fun x1=>
let x2:=(dI (List.length x1));
(dT v2).bind fun x3=>
(dF v4 x3).bind fun x4=>
bif (decide (x2 > x4)) then (some (.inr (.inl (1,())))) else
let x5:=(w64 (v2+1));
some (.inl (v0,v1,x5,v3,v4,v5,()))) else
some (.inr (.inr (v0,v1,v2,false,v3,v4,v5,())))
def iT:T19→Option (T19⊕((Int×Unit)⊕T1s)):=fun(v0,v1,v2,v3,v4,v5,_)=>
bif (decide (v2 < v1)) then ((dT v2).bind fun x0=>
(dF v0 x0).bind fun x1=>
(lr x1.1 x1.2.1 x1.2.2.1 x1.2.2.2.1 x1.2.2.2.2).bind fun(x2,_)=>
bif (!x2) then (some (.inr (.inl (5,())))) else
let x3:=(w64 (v2+1));
some (.inl (v0,v1,x3,v3,v4,v5,()))) else
some (.inr (.inr (v0,v1,v2,false,v3,v4,v5,())))
def iS:T19→Option (T19⊕((Int×Unit)⊕T1s)):=fun(v0,v1,v2,v3,v4,v5,_)=>
bif (decide (v2 < v1)) then ((dT v2).bind fun x0=>
(dF v0 x0).bind fun x1=>
((gj x1.1).bind fun(x2,_)=>
bif x2 then (let x3:Int:=(dI (List.length v3));
bif (decide (x1.2.2.2.2≥x3)) then (some (v0,v1,v2,true,v3,v4,v5,())) else
bif (x1.1==15) then (let x4:Int:=(dI (List.length v4));
some (v0,v1,v2,(decide (x1.2.2.2.2≥x4)),v3,v4,v5,())) else
some (v0,v1,v2,false,v3,v4,v5,())) else
bif (x1.1==15) then (let x3:Int:=(dI (List.length v4));
some (v0,v1,v2,(decide (x1.2.2.2.2≥x3)),v3,v4,v5,())) else
some (v0,v1,v2,false,v3,v4,v5,()):Option (T1s)).bind fun(x2,x3,x4,x5,x6,x7,x8,_)=>
bif x5 then (some (.inr (.inl (6,())))) else
let x9:=(w64 (x4+1));
some (.inl (x2,x3,x9,x6,x7,x8,()))) else
some (.inr (.inr (v0,v1,v2,false,v3,v4,v5,())))
def iq(a0:LDIn) (a1:List (Int)) (a2:List LI):Option (Int×Unit):=
(gr a1).bind fun(x0,_)=>
bif (!x0) then (some (1,())) else
let x1:=(dI (List.length a2));
let x2:=(dI (List.length a1));
bif (x1 != x2) then (some (1,())) else
let x3:=(dI (List.length a2));
(match dO iU NN (a2,x3,0,a0,a1,a2,()) with
| none=>none
| some (.inl (x4,_))=>
some (x4,())
| some (.inr (x4,x5,x6,x7,x8,x9,ac,_))=>
let ae:=(dI (List.length x8));
bif (decide (ae < 1)) then (some (3,())) else
let af:=(dI (List.length x8));
bif (decide (af > 64)) then (some (3,())) else
let ag:=(dI (List.length x8));
(match dO iT NN (x8,ag,0,x8,x9,ac,()) with
| none=>none
| some (.inl (ah,_))=>
some (ah,())
| some (.inr (ah,ai,aj,ak,am,an,ap,_))=>
let aq:=(dI (List.length am));
(match dO iS NN (am,aq,0,am,an,ap,()) with
| none=>none
| some (.inl (av,_))=>
some (av,())
| some (.inr (av,ax,ay,az,aA,aB,aD,_))=>
some (0,()))))
noncomputable def zO:X.Cfg:=⟨E0,[lP,sc,jg],[],[⟨6,0,(qS [(pP 1 4),(sP 23 (.row false RW)),(sP 24 I64),(sP 25 I64)] [(4,(uL [eU,RI,(.row false RW)]))]),[(.ret,(qS [(sP 2 I64)] [])),(.exit 0,(qS [(pP 1 4),(sP 23 (.row false RW)),(sP 24 I64),(sP 25 I64),(sP 26 .bool)] [(4,(uL [eU,RI,(.row false RW)]))]))]⟩,⟨18,1,(qS [(pP 1 4),(sP 50 eU),(sP 51 I64),(sP 52 I64)] [(4,(uL [eU,RI,(.row false RW)]))]),[(.ret,(qS [(sP 2 I64)] [])),(.exit 2,(qS [(pP 1 4),(sP 50 eU),(sP 51 I64),(sP 52 I64),(sP 53 .bool)] [(4,(uL [eU,RI,(.row false RW)]))]))]⟩,⟨32,2,qE,[(.normal,(qS [(pP 1 4),(sP 61 eU),(sP 62 I64),(sP 63 I64),(sP 90 .bool)] [(4,(uL [eU,RI,(.row false RW)]))]))]⟩,⟨27,3,(qS [(pP 1 4),(sP 61 eU),(sP 62 I64),(sP 63 I64)] [(4,(uL [eU,RI,(.row false RW)]))]),[(.ret,(qS [(sP 2 I64)] [])),(.exit 4,(qS [(pP 1 4),(sP 61 eU),(sP 62 I64),(sP 63 I64),(sP 64 .bool)] [(4,(uL [eU,RI,(.row false RW)]))]))]⟩]⟩
def lN:Ctr:=⟨103,27,[.agg (uL [eU,RI,(.row false RW)])],[],[⟨(uL [I64]),[.one],[]⟩],ap3 iq⟩
theorem nX:Lk 3 lN:=ls (C:=zO) rfl (aC nZ (aC zb (aC kS aN))) (by kernel_rfl) fun h=>by kernel_rfl
def iY:T2j→Option (T2j⊕((Bool×Unit)⊕T2t)):=fun(v0,v1,v2,v3,v4,v5,v6,v7,v8,v9,v10,_)=>
bif (decide (v8 < v7)) then ((match ((dT v8).bind fun x0=>
(dF v6 x0).bind fun x1=>
(dT v1).bind fun x2=>
(dF v0 x2).bind fun x3=>
let x4:=(w64 (v2+x3));
bif (decide (x4≥x1)) then ((dT v8).bind fun x5=>
(dF v0 x5).bind fun x6=>
let x7:=(w64 (x1+x6));
bif (decide (x7≥v2)) then (some (.inl (false,()))) else
some (.inr (v0,v1,v2,v3,v4,v5,v6,v7,v8,false,v9,v10,()))) else
some (.inr (v0,v1,v2,v3,v4,v5,v6,v7,v8,false,v9,v10,())):Option ((Bool×Unit)⊕T2t)) with
| none=>none
| some (.inl (x0,_))=>
some (.inr (.inl (x0,())))
| some (.inr (x0,x1,x2,x3,x4,x5,x6,x7,x8,x9,ac,ae,_))=>
let af:=(w64 (x8+1));
some (.inl (x0,x1,x2,x3,x4,x5,x6,x7,af,ac,ae,())))) else
some (.inr (.inr (v0,v1,v2,v3,v4,v5,v6,v7,v8,false,v9,v10,())))
def iX:T1d→Option (T1d⊕((Bool×Unit)⊕(LI×T1b))):=fun(v0,v1,v2,v3,v4,v5,_)=>
bif (decide (v3 < v2)) then ((dT v3).bind fun x0=>
(dF v1 x0).bind fun x1=>
bif (decide (x1 < 0)) then (some (.inr (.inl (false,())))) else
(dT v3).bind fun x2=>
(dF v0 x2).bind fun x3=>
let x4:=(w64 (512 - x3));
bif (decide (x1 > x4)) then (some (.inr (.inl (false,())))) else
(dT v3).bind fun x5=>
bif (ji 0 x5 (List.length v4)) then let x6:List (Int):=(na v4 0 (Nat.sub x5 0));
let x7:=(dI (List.length x6));
(match dO iY NN (v0,v3,x1,v1,v2,v3,x6,x7,0,v4,v5,()) with
| none=>none
| some (.inl (x8,_))=>
some (.inr (.inl (x8,())))
| some (.inr (x8,x9,ac,ae,af,ag,ah,ai,aj,ak,am,an,_))=>
let ap:=(w64 (ag+1));
some (.inl (x8,ae,af,ap,am,an,()))) else none) else
some (.inr (.inr (v0,v1,v2,v3,false,v4,v5,())))
def gn(a0:List (Int)) (a1:Int) (a2:List (Int)):Option (Bool×Unit):=
(gr a2).bind fun(x0,_)=>
bif (!x0) then (some (false,())) else
let x1:=(dI (List.length a0));
let x2:=(dI (List.length a2));
bif (x1 != x2) then (some (false,())) else
let x3:=(dI (List.length a0));
(match dO iX NN (a2,a0,x3,0,a0,a1,()) with
| none=>none
| some (.inl (x4,_))=>
some (x4,())
| some (.inr (x4,x5,x6,x7,x8,x9,ac,_))=>
some (true,()))
noncomputable def zU:X.Cfg:=⟨E0,[lP],[],[⟨18,0,qE,[(.ret,(qS [(sP 4 .bool)] [])),(.normal,(qS [(sP 1 RI),(pP 2 6),(sP 5 I64),(sP 6 I64),(sP 21 RI),(sP 22 I64),(sP 23 I64),(sP 42 RI),(sP 43 I64),(sP 44 I64),(sP 66 .bool)] [(6,(uL [RI,CW]))]))]⟩,⟨15,1,(qS [(sP 1 RI),(pP 2 6),(sP 5 I64),(sP 6 I64),(sP 21 RI),(sP 22 I64),(sP 23 I64),(sP 42 RI),(sP 43 I64),(sP 44 I64)] [(6,(uL [RI,CW]))]),[(.ret,(qS [(sP 4 .bool)] [])),(.exit 2,(qS [(sP 1 RI),(pP 2 6),(sP 5 I64),(sP 6 I64),(sP 21 RI),(sP 22 I64),(sP 23 I64),(sP 42 RI),(sP 43 I64),(sP 44 I64),(sP 45 .bool)] [(6,(uL [RI,CW]))]))]⟩,⟨6,2,(qS [(sP 1 RI),(pP 2 6),(sP 21 RI),(sP 22 I64),(sP 23 I64)] [(6,(uL [RI,CW]))]),[(.ret,(qS [(sP 4 .bool)] [])),(.exit 0,(qS [(sP 1 RI),(pP 2 6),(sP 21 RI),(sP 22 I64),(sP 23 I64),(sP 24 .bool)] [(6,(uL [RI,CW]))]))]⟩]⟩
def jR:Ctr:=⟨61,28,[.agg (uL [RI,CW]),shU RI],[],[⟨(uL [.bool]),[.one],[]⟩],ap3 gn⟩
theorem lH:Lk 2 jR:=ls (C:=zU) rfl (aC nZ aN) (by kernel_rfl) fun h=>by kernel_rfl
def uk:T0f→Option (T0f⊕(Int×Int×Bool×LDLn×Unit)):=fun(v0,v1,v2,_)=>
bif (decide (v1 < v0)) then ((dT v1).bind fun x0=>
(dF v2 x0).bind fun x1=>
(dF v2 x0).bind fun x2=>
let x3:=(List.modify v2 x0 fun e=>((-1),e.2));
let x4:=(w64 (v1+1));
some (.inl (v0,x4,x3,()))) else
some (.inr (v0,v1,false,v2,()))
def lw:Option (LDLn×Unit):=
bif (qO 4 4 3) then let x0:LDLn:=(List.replicate 4 (0,(false,[])));
let x1:=(dI (List.length x0));
(dO uk NN (x1,0,x0,())).bind fun(x2,x3,x4,x5,_)=>
some (x5,()) else none
noncomputable def zT:X.Cfg:=⟨E0,[],[(3,L3)],[(lx 4 0 [(1,.pk ⟨5,0,[]⟩ [0,0]),(sP 5 I64),(sP 6 I64)] [(5,(uL [iC]))] 7)]⟩
def oh:Ctr:=⟨48,29,[],[],[⟨(uL [iC]),[.one],[]⟩],fun h=>lw⟩
theorem rE:Lk 1 oh:=ls (C:=zT) rfl aN (by kernel_rfl) fun h=>by kernel_rfl
def oO:T2J→Option (T2J⊕(Int×LLI×Int×Int×LI×T2n)):=fun(v0,v1,v2,v3,v4,v5,v6,v7,v8,v9,v10,v11,v12,v13,v14,v15,_)=>
bif (decide (v6 < v5)) then ((dT v6).bind fun x0=>
(dF v4 x0).bind fun x1=>
(dT v0).bind fun x2=>
(dF v10 x2).bind fun x3=>
let x4:=(w64 (x3+v6));
(dT x4).bind fun x5=>
(dF v14 x5).bind fun x6=>
(dF v14 x5).bind fun x7=>
let x8:=(List.modify v14 x5 fun e=>(e.1,x1));
let x9:=(w64 (v6+1));
some (.inl (v0,v1,v2,v3,v4,v5,x9,v7,v8,v9,v10,v11,v12,v13,x8,v15,()))) else
some (.inr (v0,v1,v2,v3,v4,v5,v6,false,v7,v8,v9,v10,v11,v12,v13,v14,v15,()))
def l8:T2u→Option (T2u⊕(T0h⊕T2z)):=fun(v0,v1,v2,v3,v4,v5,v6,v7,v8,v9,v10,v11,_)=>
bif (decide (v2 < v1)) then ((dT v2).bind fun x0=>
(dF v0 x0).bind fun x1=>
let x2:=(dI (List.length x1));
(dT v2).bind fun x3=>
(dF v4 x3).bind fun x4=>
bif (decide (x2 > x4)) then (some (.inr (.inl (1,(),(),())))) else
let x5:=(dI (List.length x1));
(dO oO NN (v2,v0,v1,v2,x1,x5,0,v3,v4,v5,v6,v7,v8,v9,v10,v11,())).bind fun(x6,x7,x8,x9,ac,ae,af,ag,ah,ai,aj,ak,am,an,ap,aq,av,_)=>
let ax:=(w64 (x9+1));
some (.inl (x7,x8,ax,ah,ai,aj,ak,am,an,ap,aq,av,()))) else
some (.inr (.inr (v0,v1,v2,false,v3,v4,v5,v6,v7,v8,v9,v10,v11,())))
def mK(a0:LDIn) (a1:List (Int)) (a2:List LI) (a3:List (Int)) (a4:Int):Option (T0j):=
(gn a3 a4 a1).bind fun(x0,_)=>
bif (!x0) then (some ([],[],1,())) else
let x1:=(dI (List.length a2));
let x2:=(dI (List.length a1));
bif (x1 != x2) then (some ([],[],1,())) else
bif (qO 512 512 2) then let x3:LDCe:=(List.replicate 512 (0,0));
(lw).bind fun(x4,_)=>
let x5:=(dI (List.length a2));
(match dO l8 NN (a2,x5,0,a0,a1,a2,a3,a4,(),(),x3,x4,()) with
| none=>none
| some (.inl (x6,x7,x8,_))=>
some ([],[],x6,())
| some (.inr (x6,x7,x8,x9,ac,ae,af,ag,ah,ai,aj,ak,am,_))=>
some (ak,am,0,())) else none
noncomputable def BX:X.Cfg:=⟨E0,[jR,oh],[],[⟨16,0,(qS [(pP 2 6),(pP 3 8),(pP 4 10),(pP 6 14),(sP 7 I64),(sP 30 (.row false RW)),(sP 31 I64),(sP 32 I64),(sP 46 RW),(sP 47 I64),(sP 48 I64)] [(6,(uL [eU,RI,(.row false RW)])),(8,(uL [RI,CW])),(10,(uL [N1,N1])),(14,(uL [(.row true KCe),iC]))]),[(.exit 2,(qS [(pP 2 6),(pP 3 8),(pP 4 10),(pP 6 14),(sP 7 I64),(sP 30 (.row false RW)),(sP 31 I64),(sP 32 I64),(sP 46 RW),(sP 47 I64),(sP 48 I64),(sP 49 .bool)] [(6,(uL [eU,RI,(.row false RW)])),(8,(uL [RI,CW])),(10,(uL [N1,N1])),(14,(uL [(.row true KCe),iC]))]))]⟩,⟨7,1,(qS [(pP 2 6),(pP 3 8),(pP 4 10),(pP 6 14),(sP 30 (.row false RW)),(sP 31 I64),(sP 32 I64)] [(6,(uL [eU,RI,(.row false RW)])),(8,(uL [RI,CW])),(10,(uL [N1,N1])),(14,(uL [(.row true KCe),iC]))]),[(.ret,(qS [(pP 4 10),(sP 5 I64)] [(10,(uL [N1,N1]))])),(.exit 0,(qS [(pP 2 6),(pP 3 8),(pP 4 10),(pP 6 14),(sP 30 (.row false RW)),(sP 31 I64),(sP 32 I64),(sP 33 .bool)] [(6,(uL [eU,RI,(.row false RW)])),(8,(uL [RI,CW])),(10,(uL [N1,N1])),(14,(uL [(.row true KCe),iC]))]))]⟩]⟩
def uc:Ctr:=⟨119,30,[.agg (uL [eU,RI,(.row false RW)]),.agg (uL [RI,CW])],[],[⟨(uL [(.row true KCe),iC,I64]),[.agg 2,.one],[]⟩],ap5 mK⟩
theorem Bk:Lk 3 uc:=ls (C:=BX) rfl (aC lH (aC rE aN)) (by kernel_rfl) fun h=>by kernel_rfl
def oy:T2e→Option (T2e⊕(Int×Bool×T2a)):=fun(v0,v1,v2,v3,v4,v5,v6,v7,v8,v9,v10,_)=>
bif (decide (v0 < 4)) then (bif (qO 8 8 2) then let x0:LDCe:=(List.replicate 8 (0,0));
(bif (v0==0) then (some (v0,v1,v2,v3,v4,v5,v6,v7,v8,v9,v10,1,x0,0,0,(-1),(-1),0,0,())) else
some (v0,v1,v2,v3,v4,v5,v6,v7,v8,v9,v10,0,x0,0,0,(-1),(-1),0,0,()):Option (Int×Unit×Int×Unit×Unit×Unit×T2x)).bind fun(x1,x2,x3,x4,x5,x6,x7,x8,x9,ac,ae,af,ag,ah,ai,aj,ak,am,an,_)=>
let ap:LDTh:=[(af,(ag,(ah,(ai,(aj,(ak,(am,an)))))))];
bif (dU 80 (List.length ae) (List.length ap)) then let aq:LDTh:=(List.append ae ap);
let av:=(w64 (x1+1));
some (.inl (av,x2,x3,x4,x5,x6,x7,x8,x9,ac,aq,())) else none else none) else
some (.inr (v0,false,v1,v2,v3,v4,v5,v6,v7,v8,v9,v10,()))
def lq(a0:LDIn) (a1:List (Int)) (a2:List LI) (a3:List (Int)) (a4:Int):Option (LI×Int×LDCe×LDLn×LDTh×Int×Unit):=
(iq a0 a1 a2).bind fun(x0,_)=>
bif (x0 != 0) then (some ([],0,[],[],[],x0,())) else
(gn a3 a4 a1).bind fun(x1,_)=>
bif (!x1) then (some ([],0,[],[],[],1,())) else
(mK a0 a1 a2 a3 a4).bind fun(x2,x3,x4,_)=>
bif (dU 8 0 (List.length a3)) then let x5:List (Int):=(List.append [] a3);
(dO oy NN (0,(),0,(),(),(),x5,a4,x2,x3,[],())).bind fun(x6,x7,x8,x9,ac,ae,af,ag,ah,ai,aj,ak,_)=>
some (ag,ah,ai,aj,ak,0,()) else none
noncomputable def zN:X.Cfg:=⟨E0,[lN,jR,uc],[(49,L1),(50,L1)],[⟨18,0,qE,[(.normal,(qS [(pP 4 10),(pP 9 20),(pP 11 24),(sP 38 I64)] [(10,(uL [N1,CW,N1,N1,N1])),(20,(uL [RI,CW,eG,eS,oD])),(24,(uL [I64,(.row true KCe),I64,I64,I64,I64,I64,CW]))]))]⟩,(lx 12 1 [(pP 4 10),(pP 9 20),(sP 38 I64)] [(10,(uL [N1,CW,N1,N1,N1])),(20,(uL [RI,CW,eG,eS,oD]))] 39)]⟩
def sb:Ctr:=⟨89,31,[.agg (uL [eU,RI,(.row false RW)]),.agg (uL [RI,CW])],[],[⟨(uL [RI,CW,eG,eS,oD,I64]),[.agg 5,.one],[]⟩],ap5 lq⟩
theorem za:Lk 4 sb:=ls (C:=zN) rfl (aC nX (aC lH (aC Bk aN))) (by kernel_rfl) fun h=>by kernel_rfl
def fa(a0:List (Int)) (a1:Int) (a2:Int):Option (Bool×Unit):=
bif (decide (a1≥0)) then (let x0:Int:=(dI (List.length a0));
bif (decide (a1 < x0)) then (bif (decide (a2≥0)) then ((dT a1).bind fun x1=>
(dF a0 x1).bind fun x2=>
some ((decide (a2 < x2)),())) else
some (false,())) else
some (false,())) else
some (false,())
noncomputable def xn:X.Cfg:=⟨E0,[],[],[]⟩
def iK:Ctr:=⟨107,32,[shU RI,.agg (uL [I64,I64])],[],[⟨(uL [.bool]),[.one],[]⟩],ap3 fa⟩
theorem kA:Lk 1 iK:=ls (C:=xn) rfl aN (by kernel_rfl) fun h=>by kernel_rfl
def fW(a0:List (Int)) (a1:Int) (a2:Int) (a3:Int) (a4:Int):Option (Bool×Unit):=
bif (a1==0) then (bif (a3==0) then (some ((a4==0),())) else
some (false,())) else
bif (a1==2) then (bif (a3==0) then (some ((a4==0),())) else
some (false,())) else
bif (a1==1) then (bif (a2==0) then ((fa a0 a3 a4).bind fun(x0,_)=>
some (x0,())) else
some (false,())) else
some (false,())
noncomputable def xm:X.Cfg:=⟨E0,[iK],[],[]⟩
def iJ:Ctr:=⟨63,33,[shU RI,.agg (uL [CB,CW,I64,I64])],[],[⟨(uL [.bool]),[.one],[]⟩],ap5 fW⟩
theorem kz:Lk 2 iJ:=ls (C:=xm) rfl (aC kA aN) (by kernel_rfl) fun h=>by kernel_rfl
def ij:T1W→Option (T1W⊕((Bool×Unit)⊕(LI×LLCn×Int×Int×LDCn×T0K))):=fun(v0,v1,v2,v3,v4,v5,v6,v7,v8,_)=>
bif (decide (v6 < v5)) then ((dT v6).bind fun x0=>
(dF v4 x0).bind fun x1=>
(fW v0 x1.1 x1.2.1 x1.2.2.1 x1.2.2.2).bind fun(x2,_)=>
bif (!x2) then (some (.inr (.inl (false,())))) else
let x3:=(w64 (v6+1));
some (.inl (v0,v1,v2,v3,v4,v5,x3,v7,v8,()))) else
some (.inr (.inr (v0,v1,v2,v3,v4,v5,v6,false,v7,v8,())))
def ii:LI×T0U→Option ((LI×T0U)⊕((Bool×Unit)⊕(LI×LLCn×T0K))):=fun(v0,v1,v2,v3,v4,v5,_)=>
bif (decide (v3 < v2)) then ((dT v3).bind fun x0=>
(dF v1 x0).bind fun x1=>
let x2:=(dI (List.length x1));
(match dO ij NN (v0,v1,v2,v3,x1,x2,0,v4,v5,()) with
| none=>none
| some (.inl (x3,_))=>
some (.inr (.inl (x3,())))
| some (.inr (x3,x4,x5,x6,x7,x8,x9,ac,ae,af,_))=>
let ag:=(w64 (x6+1));
some (.inl (x3,x4,x5,ag,ae,af,())))) else
some (.inr (.inr (v0,v1,v2,v3,false,v4,v5,())))
def kf(a0:List (Int)) (a1:List LDCn) (a2:LDOp):Option (Bool×Unit):=
let x0:=(dI (List.length a1));
(match dO ii NN (a0,a1,x0,0,a1,a2,()) with
| none=>none
| some (.inl (x1,_))=>
some (x1,())
| some (.inr (x1,x2,x3,x4,x5,x6,x7,_))=>
some (true,()))
noncomputable def w8:X.Cfg:=⟨E0,[iJ],[],[⟨9,0,(qS [(sP 0 RI),(sP 10 (.row false dY)),(sP 11 I64),(sP 12 I64),(sP 16 dY),(sP 17 I64),(sP 18 I64)] [(8,(uL [(.row false dY),gh]))]),[(.ret,(qS [(sP 4 .bool)] [])),(.exit 2,(qS [(sP 0 RI),(sP 10 (.row false dY)),(sP 11 I64),(sP 12 I64),(sP 16 dY),(sP 17 I64),(sP 18 I64),(sP 19 .bool)] [(8,(uL [(.row false dY),gh]))]))]⟩,⟨3,1,(qS [(sP 0 RI),(sP 10 (.row false dY)),(sP 11 I64),(sP 12 I64)] [(8,(uL [(.row false dY),gh]))]),[(.ret,(qS [(sP 4 .bool)] [])),(.exit 0,(qS [(sP 0 RI),(sP 10 (.row false dY)),(sP 11 I64),(sP 12 I64),(sP 13 .bool)] [(8,(uL [(.row false dY),gh]))]))]⟩]⟩
def qu:Ctr:=⟨91,34,[shU RI,.agg (uL [(.row false dY),gh])],[],[⟨(uL [.bool]),[.one],[]⟩],ap3 kf⟩
theorem wM:Lk 3 qu:=ls (C:=w8) rfl (aC kz aN) (by kernel_rfl) fun h=>by kernel_rfl
def gX:T1X→Option (T1X⊕(LLCn×T1K)):=fun(v0,v1,v2,v3,v4,v5,v6,v7,v8,_)=>
bif (decide (v2 < v1)) then ((dT v2).bind fun x0=>
(dF v0 x0).bind fun x1=>
bif (dU 24 0 (List.length x1)) then let x2:LDCn:=(List.append [] x1);
bif (dU 24 (List.length v7) (List.length [x2])) then let x3:List LDCn:=(List.append v7 [x2]);
let x4:=(w64 (v2+1));
some (.inl (v0,v1,x4,v3,v4,v5,v6,x3,v8,())) else none else none) else
some (.inr (v0,v1,v2,false,v3,v4,v5,v6,v7,v8,()))
def fv(a0:List LDCn) (a1:LDOp):Option (T08):=
bif (dU 24 0 (List.length a1)) then let x0:LDOp:=(List.append [] a1);
let x1:=(dI (List.length a0));
(dO gX NN (a0,x1,0,a0,a1,(),(),[],x0,())).bind fun(x2,x3,x4,x5,x6,x7,x8,x9,ac,ae,_)=>
some (ac,ae,()) else none
noncomputable def BC:X.Cfg:=⟨E0,[],[(21,(.row true KCn)),(22,(.row true KCn))],[(lx 4 0 [(pP 2 6),(pP 3 8),(sP 11 (.row false dY)),(sP 12 I64),(sP 13 I64)] [(4,(uL [(.row false dY),gh])),(6,(uL [N1,N1])),(8,(uL [(.row true (.row true KCn)),(.row true KOp)]))] 14)]⟩
def ib:Ctr:=⟨123,35,[.agg (uL [(.row false dY),gh])],[],[⟨(uL [(.row true (.row true KCn)),(.row true KOp)]),[.agg 2],[]⟩],ap2 fv⟩
theorem je:Lk 1 ib:=ls (C:=BC) rfl aN (by kernel_rfl) fun h=>by kernel_rfl
def gW:LDOu×Int×Int×LDOu×Unit→Option ((LDOu×Int×Int×LDOu×Unit)⊕(LDOu×Int×Int×Bool×LDOu×Unit)):=fun(v0,v1,v2,v3,_)=>
bif (decide (v2 < v1)) then ((dT v2).bind fun x0=>
(dF v0 x0).bind fun x1=>
bif (dU 24 0 (List.length x1.2.2)) then let x2:LDCn:=(List.append [] x1.2.2);
let x3:LDOu:=[(x1.1,(x1.2.1,x2))];
bif (dU 40 (List.length v3) (List.length x3)) then let x4:LDOu:=(List.append v3 x3);
let x5:=(w64 (v2+1));
some (.inl (v0,v1,x5,x4,())) else none else none) else
some (.inr (v0,v1,v2,false,v3,()))
def i7(a0:LDOu):Option (LDOu×Unit):=
let x0:=(dI (List.length a0));
(dO gW NN (a0,x0,0,[],())).bind fun(x1,x2,x3,x4,x5,_)=>
some (x5,())
noncomputable def Bx:X.Cfg:=⟨E0,[],[(18,DU),(19,DU)],[(lx 4 0 [(3,.pk ⟨9,0,[]⟩ [0,0]),(sP 6 iD),(sP 7 I64),(sP 8 I64)] [(9,(uL [(.row true DU)]))] 9)]⟩
def pj:Ctr:=⟨124,36,(uL [iD]),[],[⟨(uL [(.row true DU)]),[.one],[]⟩],ap1 i7⟩
theorem tC:Lk 1 pj:=ls (C:=Bx) rfl aN (by kernel_rfl) fun h=>by kernel_rfl
def kH(a0:List (Int)) (a1:List (Int)) (a2:List LI) (a3:List LDCn) (a4:LDOp) (a5:LDOu):Option (T1e):=
bif (dU 2 0 (List.length a0)) then let x0:List (Int):=(List.append [] a0);
bif (dU 2 0 (List.length a1)) then let x1:List (Int):=(List.append [] a1);
(ff a2).bind fun(x2,_)=>
(fv a3 a4).bind fun(x3,x4,_)=>
(i7 a5).bind fun(x5,_)=>
some (x0,x1,x2,x3,x4,x5,()) else none else none
noncomputable def Bu:X.Cfg:=⟨E0,[gS,ib,pj],[],[]⟩
def pf:Ctr:=⟨92,37,[.agg (uL [RW,RW,(.row false RW),(.row false dY),gh,iD])],[],[⟨(uL [(.row true CW),(.row true CW),(.row true (.row true CW)),(.row true (.row true KCn)),(.row true KOp),(.row true DU)]),[.agg 6],[]⟩],ap6 kH⟩
theorem tB:Lk 2 pf:=ls (C:=Bu) rfl (aC jJ (aC je (aC tC aN))) (by kernel_rfl) fun h=>by kernel_rfl
def wF:T14→Option (T14⊕T1j):=fun(v0,v1,v2,v3,v4,v5,_)=>
bif (decide (v1 < v0)) then ((dT v1).bind fun x0=>
(dF v4 x0).bind fun x1=>
(dF v4 x0).bind fun x2=>
let x3:=(List.modify v4 x0 fun e=>(-1));
let x4:=(w64 (v1+1));
some (.inl (v0,x4,v2,v3,x3,v5,()))) else
some (.inr (v0,v1,false,v2,v3,v4,v5,()))
def qJ:Option (T07):=
bif (qO 4 4 1) then let x0:List (Int):=(List.replicate 4 0);
bif (qO 4 4 1) then let x1:List LI:=(List.replicate 4 []);
let x2:=(dI (List.length x0));
(dO wF NN (x2,0,(),(),x0,x1,())).bind fun(x3,x4,x5,x6,x7,x8,x9,_)=>
some (x8,x9,()) else none else none
noncomputable def Di:X.Cfg:=⟨E0,[],[(4,(.row true I64))],[(lx 4 0 [(pP 0 2),(pP 1 4),(sP 8 I64),(sP 9 I64)] [(2,(uL [N1,N1])),(4,(uL [(.row true I64),(.row true (.row true I64))]))] 10)]⟩
def wm:Ctr:=⟨93,38,[],[],[⟨(uL [(.row true I64),(.row true (.row true I64))]),[.agg 2],[]⟩],fun h=>qJ⟩
theorem C7:Lk 1 wm:=ls (C:=Di) rfl aN (by kernel_rfl) fun h=>by kernel_rfl
def ou:T3p→Option (T3p⊕(Int×Bool×T3m)):=fun(v0,v1,v2,v3,v4,v5,v6,v7,v8,v9,v10,v11,v12,v13,v14,v15,v16,v17,v18,v19,v20,v21,v22,v23,v24,v25,v26,v27,v28,v29,v30,v31,v32,v33,v34,v35,v36,_)=>
bif (decide (v0 < 4)) then (bif (dU 8 (List.length v36) (List.length [(-1)])) then let x0:List (Int):=(List.append v36 [(-1)]);
let x1:=(w64 (v0+1));
some (.inl (x1,v1,v2,v3,v4,v5,v6,v7,v8,v9,v10,v11,v12,v13,v14,v15,v16,v17,v18,v19,v20,v21,v22,v23,v24,v25,v26,v27,v28,v29,v30,v31,v32,v33,v34,v35,x0,())) else none) else
some (.inr (v0,false,v1,v2,v3,v4,v5,v6,v7,v8,v9,v10,v11,v12,v13,v14,v15,v16,v17,v18,v19,v20,v21,v22,v23,v24,v25,v26,v27,v28,v29,v30,v31,v32,v33,v34,v35,v36,()))
def lc(a0:LDIn) (a1:List (Int)) (a2:List LI) (a3:List (Int)) (a4:Int) (a5:List (Int)) (a6:List (Int)) (a7:List LI) (a8:List LDCn) (a9:LDOp) (a10:LDOu):Option (LDIn×LI×LLI×LI×Int×LDCe×LDLn×LDTh×LI×LI×LLI×LLCn×LDOp×LDOu×LI×LLI×Unit×T06):=
(lq a0 a1 a2 a3 a4).bind fun(x0,x1,x2,x3,x4,x5,_)=>
bif (x5 != 0) then (some ([],[],[],[],0,[],[],[],[],[],[],[],[],[],[],[],(),[],x5,())) else
(im a5 a6 a7 a8 a9 a10).bind fun(x6,_)=>
bif (!x6) then (some ([],[],[],[],0,[],[],[],[],[],[],[],[],[],[],[],(),[],1,())) else
(kf a1 a8 a9).bind fun(x7,_)=>
bif (!x7) then (some ([],[],[],[],0,[],[],[],[],[],[],[],[],[],[],[],(),[],1,())) else
(kH a5 a6 a7 a8 a9 a10).bind fun(x8,x9,ac,ae,af,ag,_)=>
(qJ).bind fun(ah,ai,_)=>
(dO ou NN (0,(),(),(),(),0,(),(),(),(),(),(),(),(),(),(),(),(),(),a0,a1,a2,x0,x1,x2,x3,x4,x8,x9,ac,ae,af,ag,ah,ai,(),[],())).bind fun(aj,ak,am,an,ap,aq,av,ax,ay,az,aA,aB,aD,aE,aF,aG,aH,aI,aJ,aK,aL,aM,aO,aP,aQ,aR,aS,aT,aU,aV,aW,aY,aZ,ba,bc,bd,be,bf,_)=>
some (aL,aM,aO,aP,aQ,aR,aS,aT,aU,aV,aW,aY,aZ,ba,bc,bd,be,bf,0,())
noncomputable def zo:X.Cfg:=⟨E0,[sb,lK,qu,pf,wm],[],[(lx 11 0 [(pP 6 14),(pP 10 22),(sP 39 I64)] [(14,(uL [N1,N1,N1,N1,CW,N1,N1,N1,N1,N1,N1,N1,N1,N1,N1,N1,N1,N1])),(22,(uL [eU,RI,(.row false RW),RI,CW,eG,eS,fB,RW,RW,(.row false RW),(.row false dY),gh,iD,RI,(.row false RI),N1,(.row true I64)]))] 40)]⟩
def rQ:Ctr:=⟨53,39,[.agg (uL [eU,RI,(.row false RW)]),.agg (uL [RI,CW]),.agg (uL [RW,RW,(.row false RW),(.row false dY),gh,iD])],[],[⟨(uL [eU,RI,(.row false RW),RI,CW,eG,eS,fB,RW,RW,(.row false RW),(.row false dY),gh,iD,RI,(.row false RI),N1,(.row true I64),I64]),[.agg 18,.one],[]⟩],ap11 lc⟩
theorem yO:Lk 5 rQ:=ls (C:=zo) rfl (aC za (aC nU (aC wM (aC tB (aC C7 aN))))) (by kernel_rfl) fun h=>by kernel_rfl
def lE(a0:List (Int)) (a1:Int):Option (T0J):=
(dG 4 a0 a1).bind fun(x0,x1,x2,_)=>
let x3:List (Int):=[0,1,2,3,7,63];
(dG 6 x1 x2).bind fun(x4,x5,x6,_)=>
(dT x4).bind fun x7=>
(dF x3 x7).bind fun x8=>
(dF x3 x7).bind fun x9=>
(dG 4 x5 x6).bind fun(ac,ae,af,_)=>
some (x0,x9,(ac==0),ae,af,())
noncomputable def Af:X.Cfg:=⟨E0,[eZ],[],[]⟩
def sm:Ctr:=⟨57,40,[.ptr ⟨2,0,[]⟩ [0]],[(2,(uL [RI,I64]))],[⟨(uL [I64,I64,.bool]),[.agg 3],[(2,(uL [RI,I64]))]⟩],ap2 lE⟩
theorem zk:Lk 4 sm:=ls (C:=Af) rfl (aC fi aN) (by kernel_rfl) fun h=>by kernel_rfl
def gI:T0z→Option (T0z⊕(LDTh×Int×Int×T00)):=fun(v0,v1,v2,v3,_)=>
bif (decide (v2 < v1)) then (((dT v2).bind fun x0=>
(dF v0 x0).bind fun x1=>
bif (x1.1==1) then (bif (dU 8 (List.length v3) (List.length [v2])) then let x2:List (Int):=(List.append v3 [v2]);
some (v0,v1,v2,x2,()) else none) else
some (v0,v1,v2,v3,()):Option (T0z)).bind fun(x0,x1,x2,x3,_)=>
let x4:=(w64 (x2+1));
some (.inl (x0,x1,x4,x3,()))) else
some (.inr (v0,v1,v2,false,v3,()))
def lp(a0:LDTh):Option (LI×Unit):=
let x0:=(dI (List.length a0));
(dO gI NN (a0,x0,0,[],())).bind fun(x1,x2,x3,x4,x5,_)=>
some (x5,())
noncomputable def zK:X.Cfg:=⟨E0,[],[],[⟨7,0,qE,[(.normal,(qS [(3,.pk ⟨9,0,[]⟩ [0,0]),(sP 6 fB),(sP 7 I64),(sP 8 I64)] [(9,(uL [(.row true I64)]))]))]⟩,(lx 4 1 [(3,.pk ⟨9,0,[]⟩ [0,0]),(sP 6 fB),(sP 7 I64),(sP 8 I64)] [(9,(uL [(.row true I64)]))] 9)]⟩
def r7:Ctr:=⟨96,41,(uL [fB]),[],[⟨(uL [(.row true I64)]),[.one],[]⟩],ap1 lp⟩
theorem yZ:Lk 1 r7:=ls (C:=zK) rfl aN (by kernel_rfl) fun h=>by kernel_rfl
def kg(a0:LDIn) (a1:List (Int)) (a2:List LI) (a3:List (Int)) (a4:Int) (a5:LDCe) (a6:LDLn) (a7:LDTh) (a8:List (Int)) (a9:List (Int)) (a10:List LI) (a11:List LDCn) (a12:LDOp) (a13:LDOu) (a14:List (Int)) (a15:List LI) (a16:LDEn) (a17:List (Int)):Option (T2Q):=
bif (dU 8 0 (List.length a17)) then let x0:List (Int):=(List.append [] a17);
bif (dU 184 0 (List.length a16)) then let x1:LDEn:=(List.append [] a16);
some (a0,a1,a2,a3,a4,a5,a6,a7,a8,a9,a10,a11,a12,a13,a14,a15,x1,x0,()) else none else none
noncomputable def w9:X.Cfg:=⟨E0,[],[(9,Ix)],[]⟩
def qv:Ctr:=⟨97,42,[.agg (uL [eU,RI,(.row false RW),RI,CW,eG,eS,fB,RW,RW,(.row false RW),(.row false dY),gh,iD,RI,(.row false RI),ER,RI])],[],[⟨(uL [eU,RI,(.row false RW),RI,CW,eG,eS,fB,RW,RW,(.row false RW),(.row false dY),gh,iD,RI,(.row false RI),(.row true rb),(.row true I64)]),[.agg 18],[]⟩],ap18 kg⟩
theorem wN:Lk 1 qv:=ls (C:=w9) rfl aN (by kernel_rfl) fun h=>by kernel_rfl
def lX(a0:List (Int)) (a1:Int) (a2:LDCe) (a3:LDLn) (a4:LDTh) (a5:Int):Option (Bool×Unit):=
bif (decide (a5 < 0)) then (some (false,())) else
let x0:=(dI (List.length a4));
bif (decide (a5≥x0)) then (some (false,())) else
(dT a5).bind fun x1=>
(dF a4 x1).bind fun x2=>
bif (x2.1==1) then (bif (x2.2.2.2.2.1 != (-1)) then (some ((x2.2.2.2.2.2.1==(-1)),())) else
some (false,())) else
some (false,())
noncomputable def Dh:X.Cfg:=⟨E0,[],[],[]⟩
def qZ:Ctr:=⟨98,43,[.agg (uL [RI,CW,eG,eS,fB]),shU I64],[],[⟨(uL [.bool]),[.one],[]⟩],ap6 lX⟩
theorem vk:Lk 1 qZ:=ls (C:=Dh) rfl aN (by kernel_rfl) fun h=>by kernel_rfl
def hY:T1R→Option (T1R⊕(LDLn×Int×Int×Bool×T18)):=fun(v0,v1,v2,v3,v4,v5,v6,v7,v8,_)=>
bif (decide (v2 < v1)) then ((dT v2).bind fun x0=>
(dF v0 x0).bind fun x1=>
bif (dU 4 0 (List.length x1.2.2)) then let x2:LDCe:=(List.append [] x1.2.2);
let x3:LDLn:=[(x1.1,(x1.2.1,x2))];
bif (dU 40 (List.length v8) (List.length x3)) then let x4:LDLn:=(List.append v8 x3);
let x5:=(w64 (v2+1));
some (.inl (v0,v1,x5,v3,v4,v5,v6,v7,x4,())) else none else none) else
some (.inr (v0,v1,v2,false,v3,v4,v5,v6,v7,v8,()))
def kO(a0:LDCe) (a1:LDLn):Option (T04):=
bif (dU 4 0 (List.length a0)) then let x0:LDCe:=(List.append [] a0);
let x1:=(dI (List.length a1));
(dO hY NN (a1,x1,0,a0,a1,(),(),x0,[],())).bind fun(x2,x3,x4,x5,x6,x7,x8,x9,ac,ae,_)=>
some (ac,ae,()) else none
noncomputable def BY:X.Cfg:=⟨E0,[],[(24,L3),(25,L3)],[(lx 4 0 [(pP 2 6),(pP 3 8),(sP 11 eS),(sP 12 I64),(sP 13 I64)] [(4,(uL [eG,eS])),(6,(uL [N1,N1])),(8,(uL [(.row true KCe),iC]))] 14)]⟩
def pC:Ctr:=⟨36,44,[.agg (uL [eG,eS])],[],[⟨(uL [(.row true KCe),iC]),[.agg 2],[]⟩],ap2 kO⟩
theorem tK:Lk 1 pC:=ls (C:=BY) rfl aN (by kernel_rfl) fun h=>by kernel_rfl
def g8:T2R→Option (T2R⊕(LDTh×Int×Int×Bool×T2F)):=fun(v0,v1,v2,v3,v4,v5,v6,v7,v8,v9,v10,v11,v12,v13,v14,v15,v16,v17,_)=>
bif (decide (v2 < v1)) then ((dT v2).bind fun x0=>
(dF v0 x0).bind fun x1=>
bif (dU 4 0 (List.length x1.2.1)) then let x2:LDCe:=(List.append [] x1.2.1);
let x3:LDTh:=[(x1.1,(x2,(x1.2.2.1,(x1.2.2.2.1,(x1.2.2.2.2.1,(x1.2.2.2.2.2.1,(x1.2.2.2.2.2.2.1,x1.2.2.2.2.2.2.2)))))))];
bif (dU 80 (List.length v17) (List.length x3)) then let x4:LDTh:=(List.append v17 x3);
let x5:=(w64 (v2+1));
some (.inl (v0,v1,x5,v3,v4,v5,v6,v7,v8,v9,v10,v11,v12,v13,v14,v15,v16,x4,())) else none else none) else
some (.inr (v0,v1,v2,false,v3,v4,v5,v6,v7,v8,v9,v10,v11,v12,v13,v14,v15,v16,v17,()))
def g9(a0:List (Int)) (a1:Int) (a2:LDCe) (a3:LDLn) (a4:LDTh):Option (T0T):=
bif (dU 8 0 (List.length a0)) then let x0:List (Int):=(List.append [] a0);
(kO a2 a3).bind fun(x1,x2,_)=>
let x3:=(dI (List.length a4));
(dO g8 NN (a4,x3,0,a0,a1,a2,a3,a4,(),0,(),(),(),x0,a1,x1,x2,[],())).bind fun(x4,x5,x6,x7,x8,x9,ac,ae,af,ag,ah,ai,aj,ak,am,an,ap,aq,av,_)=>
some (am,an,ap,aq,av,()) else none
noncomputable def BO:X.Cfg:=⟨E0,[pC],[(32,L1),(33,L1)],[(lx 4 0 [(pP 2 6),(pP 3 8),(sP 19 fB),(sP 20 I64),(sP 21 I64)] [(4,(uL [RI,CW,eG,eS,fB])),(6,(uL [N1,CW,N1,N1,N1])),(8,(uL [RI,CW,(.row true KCe),iC,oD]))] 22)]⟩
def kV:Ctr:=⟨126,45,[.agg (uL [RI,CW,eG,eS,fB])],[],[⟨(uL [RI,CW,(.row true KCe),iC,oD]),[.agg 5],[]⟩],ap5 g9⟩
theorem mT:Lk 2 kV:=ls (C:=BO) rfl (aC tK aN) (by kernel_rfl) fun h=>by kernel_rfl
def jt(a0:List (Int)) (a1:Int) (a2:LDCe) (a3:LDLn) (a4:LDTh) (a5:Int):Option (T1c):=
(g9 a0 a1 a2 a3 a4).bind fun(x0,x1,x2,x3,x4,_)=>
(lX a0 a1 a2 a3 a4 a5).bind fun(x5,_)=>
bif (!x5) then (some (x0,x1,x2,x3,x4,false,())) else
(dT a5).bind fun x6=>
(dF x4 x6).bind fun x7=>
(dF x4 x6).bind fun x8=>
(dF x4 x6).bind fun x9=>
(dF x4 x6).bind fun ac=>
let ae:=(List.modify x4 x6 fun e=>(e.1,(e.2.1,(e.2.2.1,(e.2.2.2.1,(e.2.2.2.2.1,(x8.2.2.1,e.2.2.2.2.2.2)))))));
(dF ae x6).bind fun af=>
let ag:=(List.modify ae x6 fun e=>(e.1,(e.2.1,(x9.2.2.2.2.1,e.2.2.2))));
some (x0,x1,x2,x3,ag,true,())
noncomputable def vC:X.Cfg:=⟨E0,[kV,qZ],[],[]⟩
def pm:Ctr:=⟨99,46,[.agg (uL [RI,CW,eG,eS,fB]),shU I64],[],[⟨(uL [RI,CW,(.row true KCe),iC,oD,.bool]),[.agg 5,.one],[]⟩],ap6 jt⟩
theorem vj:Lk 3 pm:=ls (C:=vC) rfl (aC mT (aC vk aN)) (by kernel_rfl) fun h=>by kernel_rfl
def fQ(a0:Int) (a1:Int):Option (Bool×Unit):=
some ((decide (a0≤2)),())
noncomputable def zY:X.Cfg:=⟨E0,[],[],[]⟩
def lQ:Ctr:=⟨35,47,[.agg (uL [CB,CW])],[],[⟨(uL [.bool]),[.one],[]⟩],ap2 fQ⟩
theorem n5:Lk 1 lQ:=ls (C:=zY) rfl aN (by kernel_rfl) fun h=>by kernel_rfl
def kp:T0i→Option (T0i⊕((Bool×Unit)⊕T0x)):=fun(v0,v1,v2,_)=>
bif (decide (v2 < v1)) then ((dT v2).bind fun x0=>
(dF v0 x0).bind fun x1=>
(fQ x1.1 x1.2).bind fun(x2,_)=>
bif (!x2) then (some (.inr (.inl (false,())))) else
let x3:=(w64 (v2+1));
some (.inl (v0,v1,x3,()))) else
some (.inr (.inr (v0,v1,v2,false,())))
def l7(a0:LDCe):Option (Bool×Unit):=
let x0:=(dI (List.length a0));
(match dO kp NN (a0,x0,0,()) with
| none=>none
| some (.inl (x1,_))=>
some (x1,())
| some (.inr (x1,x2,x3,x4,_))=>
some (true,()))
noncomputable def Do:X.Cfg:=⟨E0,[lQ],[],[⟨3,0,(qS [(sP 5 eG),(sP 6 I64),(sP 7 I64)] []),[(.ret,(qS [(sP 2 .bool)] [])),(.exit 0,(qS [(sP 5 eG),(sP 6 I64),(sP 7 I64),(sP 8 .bool)] []))]⟩]⟩
def wu:Ctr:=⟨179,48,(uL [eG]),[],[⟨(uL [.bool]),[.one],[]⟩],ap1 l7⟩
theorem Dc:Lk 2 wu:=ls (C:=Do) rfl (aC n5 aN) (by kernel_rfl) fun h=>by kernel_rfl
def iW:T0R→Option (T0R⊕((Bool×Unit)⊕T1a)):=fun(v0,v1,v2,v3,v4,_)=>
bif (decide (v2 < v1)) then ((dT v2).bind fun x0=>
(dF v0 x0).bind fun x1=>
bif (x1.1==(-1)) then (bif x1.2.1 then (some (.inr (.inl (false,())))) else
let x2:=(dI (List.length x1.2.2));
bif (decide (x2 > 0)) then (some (.inr (.inl (false,())))) else
let x3:=(w64 (v2+1));
some (.inl (v0,v1,x3,v3,v4,()))) else
(bif (decide (x1.1 < 0)) then (some (v0,v1,v2,true,v3,v4,())) else
bif (decide (x1.1≥128)) then (some (v0,v1,v2,true,v3,v4,())) else
let x2:=(Int.tmod x1.1 4);
bif (x2 != v2) then (some (v0,v1,v2,true,v3,v4,())) else
let x3:=(dI (List.length x1.2.2));
bif (x3 != 4) then (some (v0,v1,v2,true,v3,v4,())) else
(l7 x1.2.2).bind fun(x4,_)=>
some (v0,v1,v2,(!x4),v3,v4,()):Option (T1a)).bind fun(x2,x3,x4,x5,x6,x7,_)=>
bif x5 then (some (.inr (.inl (false,())))) else
let x8:=(w64 (x4+1));
some (.inl (x2,x3,x8,x6,x7,()))) else
some (.inr (.inr (v0,v1,v2,false,v3,v4,())))
def lu(a0:LDCe) (a1:LDLn):Option (Bool×Unit):=
(let x0:=(dI (List.length a0));
bif (x0 != 512) then (some (true,a0,a1,())) else
let x1:=(dI (List.length a1));
bif (x1 != 4) then (some (true,a0,a1,())) else
(l7 a0).bind fun(x2,_)=>
some ((!x2),a0,a1,()):Option (T0c)).bind fun(x0,x1,x2,_)=>
bif x0 then (some (false,())) else
let x3:=(dI (List.length x2));
(match dO iW NN (x2,x3,0,x1,x2,()) with
| none=>none
| some (.inl (x4,_))=>
some (x4,())
| some (.inr (x4,x5,x6,x7,x8,x9,_))=>
some (true,()))
noncomputable def zS:X.Cfg:=⟨E0,[wu],[],[⟨2,0,qE,[(.normal,(qS [(pP 1 4),(sP 20 .bool)] [(4,(uL [eG,eS]))]))]⟩,⟨16,1,qE,[(.normal,(qS [(sP 22 eS),(sP 23 I64),(sP 24 I64),(sP 66 .bool)] [(4,(uL [eG,eS]))]))]⟩,⟨6,2,(qS [(sP 22 eS),(sP 23 I64),(sP 24 I64)] [(4,(uL [eG,eS]))]),[(.ret,(qS [(sP 2 .bool)] [])),(.exit 0,(qS [(sP 22 eS),(sP 23 I64),(sP 24 I64),(sP 25 .bool)] [(4,(uL [eG,eS]))]))]⟩]⟩
def sd:Ctr:=⟨160,49,[.agg (uL [eG,eS])],[],[⟨(uL [.bool]),[.one],[]⟩],ap2 lu⟩
theorem zd:Lk 3 sd:=ls (C:=zS) rfl (aC Dc aN) (by kernel_rfl) fun h=>by kernel_rfl
def iR:T2f→Option (T2f⊕((Bool×Unit)⊕(LDCe×Int×Int×Bool×T1D))):=fun(v0,v1,v2,v3,v4,v5,v6,v7,v8,v9,v10,_)=>
bif (decide (v2 < v1)) then ((dT v2).bind fun x0=>
(dF v0 x0).bind fun x1=>
(fQ x1.1 x1.2).bind fun(x2,_)=>
bif (!x2) then (some (.inr (.inl (false,())))) else
let x3:=(w64 (v2+1));
some (.inl (v0,v1,x3,v3,v4,v5,v6,v7,v8,v9,v10,()))) else
some (.inr (.inr (v0,v1,v2,false,v3,v4,v5,v6,v7,v8,v9,v10,())))
def ln(a0:Int) (a1:LDCe) (a2:Int) (a3:Int) (a4:Int) (a5:Int) (a6:Int) (a7:Int):Option (Bool×Unit):=
let x0:=(dI (List.length a1));
(match dO iR NN (a1,x0,0,a0,a1,a2,a3,a4,a5,a6,a7,()) with
| none=>none
| some (.inl (x1,_))=>
some (x1,())
| some (.inr (x1,x2,x3,x4,x5,x6,x7,x8,x9,ac,ae,af,_))=>
bif (decide (x5≥0)) then (bif (decide (x5≤4)) then (let ag:Int:=(dI (List.length x6));
bif (ag==8) then (bif (decide (x7≥0)) then (bif (decide (x7≤255)) then (bif (decide (x8≥0)) then (bif (decide (x8≤1099511627776)) then (bif (decide (x9≥(-1))) then (bif (decide (x9≤255)) then (bif (decide (ac≥(-1))) then (bif (decide (ac≤255)) then (bif (decide (ae≥0)) then (some ((decide (ae≤6)),())) else
some (false,())) else
some (false,())) else
some (false,())) else
some (false,())) else
some (false,())) else
some (false,())) else
some (false,())) else
some (false,())) else
some (false,())) else
some (false,())) else
some (false,())) else
some (false,()))
noncomputable def zJ:X.Cfg:=⟨E0,[lQ],[],[⟨3,0,(qS [(pP 1 4),(sP 6 eG),(sP 7 I64),(sP 8 I64)] [(4,(uL [I64,eG,I64,I64,I64,I64,I64,CW]))]),[(.ret,(qS [(sP 2 .bool)] [])),(.exit 0,(qS [(pP 1 4),(sP 6 eG),(sP 7 I64),(sP 8 I64),(sP 9 .bool)] [(4,(uL [I64,eG,I64,I64,I64,I64,I64,CW]))]))]⟩]⟩
def r6:Ctr:=⟨161,50,[.agg (uL [I64,eG,I64,I64,I64,I64,I64,CW])],[],[⟨(uL [.bool]),[.one],[]⟩],ap8 ln⟩
theorem yY:Lk 2 r6:=ls (C:=zJ) rfl (aC n5 aN) (by kernel_rfl) fun h=>by kernel_rfl
def kZ:T1E→Option (T1E⊕((Bool×Unit)⊕(LDTh×Int×Int×T0Y))):=fun(v0,v1,v2,v3,v4,v5,v6,v7,_)=>
bif (decide (v2 < v1)) then ((dT v2).bind fun x0=>
(dF v0 x0).bind fun x1=>
(ln x1.1 x1.2.1 x1.2.2.1 x1.2.2.2.1 x1.2.2.2.2.1 x1.2.2.2.2.2.1 x1.2.2.2.2.2.2.1 x1.2.2.2.2.2.2.2).bind fun(x2,_)=>
bif (!x2) then (some (.inr (.inl (false,())))) else
let x3:=(w64 (v2+1));
some (.inl (v0,v1,x3,v3,v4,v5,v6,v7,()))) else
some (.inr (.inr (v0,v1,v2,false,v3,v4,v5,v6,v7,())))
def io(a0:LDIn) (a1:List (Int)) (a2:List LI) (a3:List (Int)) (a4:Int) (a5:LDCe) (a6:LDLn) (a7:LDTh):Option (Bool×Unit):=
((iq a0 a1 a2).bind fun(x0,_)=>
bif (x0 != 0) then (some (true,a3,a4,a5,a6,a7,())) else
(gn a3 a4 a1).bind fun(x1,_)=>
bif (!x1) then (some (true,a3,a4,a5,a6,a7,())) else
(lu a5 a6).bind fun(x2,_)=>
bif (!x2) then (some (true,a3,a4,a5,a6,a7,())) else
let x3:=(dI (List.length a7));
some ((x3 != 4),a3,a4,a5,a6,a7,()):Option (T0Y)).bind fun(x0,x1,x2,x3,x4,x5,_)=>
bif x0 then (some (false,())) else
let x6:=(dI (List.length x5));
(match dO kZ NN (x5,x6,0,x1,x2,x3,x4,x5,()) with
| none=>none
| some (.inl (x7,_))=>
some (x7,())
| some (.inr (x7,x8,x9,ac,ae,af,ag,ah,ai,_))=>
some (true,()))
noncomputable def zH:X.Cfg:=⟨E0,[lN,jR,sd,r6],[],[⟨2,0,qE,[(.normal,(qS [(pP 3 8),(sP 29 .bool)] [(8,(uL [RI,CW,eG,eS,fB]))]))]⟩,⟨6,1,(qS [(sP 31 fB),(sP 32 I64),(sP 33 I64)] [(8,(uL [RI,CW,eG,eS,fB]))]),[(.ret,(qS [(sP 4 .bool)] [])),(.exit 0,(qS [(sP 31 fB),(sP 32 I64),(sP 33 I64),(sP 34 .bool)] [(8,(uL [RI,CW,eG,eS,fB]))]))]⟩]⟩
def lM:Ctr:=⟨145,51,[.agg (uL [eU,RI,(.row false RW)]),.agg (uL [RI,CW,eG,eS,fB])],[],[⟨(uL [.bool]),[.one],[]⟩],ap8 io⟩
theorem nW:Lk 4 lM:=ls (C:=zH) rfl (aC nX (aC lH (aC zd (aC yY aN)))) (by kernel_rfl) fun h=>by kernel_rfl
def eQ(a0:Nat) (a1:Int) (a2:LDTh):Option (Int×LDTh×Unit):=
(dF a2 a0).bind fun x0=>
let x1:=(List.modify a2 a0 fun e=>(4,e.2));
(dF x1 a0).bind fun x2=>
let x3:=(List.modify x1 a0 fun e=>(e.1,(e.2.1,(e.2.2.1,(e.2.2.2.1,(e.2.2.2.2.1,(e.2.2.2.2.2.1,(a1,e.2.2.2.2.2.2.2))))))));
(dF x3 a0).bind fun x4=>
let x5:=(List.modify x3 a0 fun e=>(e.1,(e.2.1,(e.2.2.1,(e.2.2.2.1,(e.2.2.2.2.1,(e.2.2.2.2.2.1,(e.2.2.2.2.2.2.1,0))))))));
some (2,x5,())
noncomputable def BL:X.Cfg:=⟨E0,[],[],[]⟩
def t7:Ctr:=⟨162,52,[.ptr ⟨2,0,[((),(8,0))]⟩ [0,0],shU I64],[(2,(uL [oD]))],[⟨(uL [I64]),[.one],[(2,(uL [oD]))]⟩],ap3 eQ⟩
theorem Bf:Lk 1 t7:=ls (C:=BL) rfl aN (by kernel_rfl) fun h=>by kernel_rfl
def eu:T1U→Option (T1U⊕(T0b⊕(LI×T1O))):=fun(v0,v1,v2,v3,v4,v5,v6,v7,v8,_)=>
bif (decide (v4 < v3)) then ((match ((dT v4).bind fun x0=>
(dF v2 x0).bind fun x1=>
bif (decide (v1≥x1)) then ((dT v4).bind fun x2=>
(dF v0 x2).bind fun x3=>
let x4:=(w64 (x1+x3));
bif (decide (v1 < x4)) then (let x5:Int:=(w64 (v1 - x1));
some (.inl (true,v4,x5,()))) else
some (.inr (v0,v1,v4,x1,v2,v3,v4,false,v5,v6,v7,v8,()))) else
some (.inr (v0,v1,v4,x1,v2,v3,v4,false,v5,v6,v7,v8,())):Option (T0b⊕(LI×Int×Int×T1O))) with
| none=>none
| some (.inl (x0,x1,x2,_))=>
some (.inr (.inl (x0,x1,x2,())))
| some (.inr (x0,x1,x2,x3,x4,x5,x6,x7,x8,x9,ac,ae,_))=>
let af:=(w64 (x6+1));
some (.inl (x0,x1,x4,x5,af,x8,x9,ac,ae,())))) else
some (.inr (.inr (v0,v1,v2,v3,v4,false,v5,v6,v7,v8,())))
def eO(a0:List (Int)) (a1:Int) (a2:List (Int)) (a3:Int):Option (T0d):=
let x0:=(dI (List.length a0));
(match dO eu NN (a2,a3,a0,x0,0,a0,a1,0,0,()) with
| none=>none
| some (.inl (x1,x2,x3,_))=>
some (x2,x3,x1,())
| some (.inr (x1,x2,x3,x4,x5,x6,x7,x8,x9,ac,_))=>
some (0,0,false,()))
noncomputable def vG:X.Cfg:=⟨E0,[],[],[⟨6,0,qE,[(.ret,(qS [(pP 6 14),(sP 7 .bool)] [(14,(uL [I64,I64]))])),(.normal,(qS [(sP 1 RI),(sP 2 I64),(pP 6 14),(sP 8 I64),(sP 9 I64),(sP 11 RI),(sP 12 I64),(sP 13 I64),(sP 30 .bool)] [(8,(uL [RI,CW])),(14,(uL [I64,I64]))]))]⟩,⟨3,1,(qS [(sP 1 RI),(sP 2 I64),(pP 6 14),(sP 11 RI),(sP 12 I64),(sP 13 I64)] [(8,(uL [RI,CW])),(14,(uL [I64,I64]))]),[(.ret,(qS [(pP 6 14),(sP 7 .bool)] [(14,(uL [I64,I64]))])),(.exit 0,(qS [(sP 1 RI),(sP 2 I64),(pP 6 14),(sP 11 RI),(sP 12 I64),(sP 13 I64),(sP 14 .bool)] [(8,(uL [RI,CW])),(14,(uL [I64,I64]))]))]⟩]⟩
def ic:Ctr:=⟨74,53,[.agg (uL [RI,CW]),shU RI,shU I64],[],[⟨(uL [I64,I64,.bool]),[.agg 2,.one],[]⟩],ap4 eO⟩
theorem jK:Lk 1 ic:=ls (C:=vG) rfl aN (by kernel_rfl) fun h=>by kernel_rfl
def fc(a0:List (Int)) (a1:Int) (a2:List (Int)) (a3:Int) (a4:Int) (a5:Int) (a6:Bool):Option (T0e):=
bif (a3 != 1) then (some (0,0,3,())) else
let x0:=(wk .i64 a4);
(eO a0 a1 a2 x0).bind fun(x1,x2,x3,_)=>
bif (!x3) then (some (0,0,4,())) else
(bif a6 then (let x4:Int:=(wk .i64 a5);
let x5:=(w64 (x2 - x4));
some (a2,a0,a1,0,0,x1,x5,())) else
let x4:=(wk .i64 a5);
let x5:=(w64 (x2+x4));
some (a2,a0,a1,0,0,x1,x5,()):Option (LI×LI×T0L)).bind fun(x4,x5,x6,x7,x8,x9,ac,_)=>
(fa x4 x9 ac).bind fun(ae,_)=>
bif (!ae) then (some (0,0,4,())) else
(dT x9).bind fun af=>
(dF x5 af).bind fun ag=>
let ah:=(w64 (ag+ac));
let ai:=(wk .u16 ah);
some (1,ai,0,())
noncomputable def BN:X.Cfg:=⟨E0,[ic,iK],[],[⟨8,0,qE,[(.normal,(qS [(sP 1 RI),(pP 5 12),(pP 10 22),(pP 12 26)] [(12,(uL [RI,CW])),(22,(uL [CB,CW])),(26,(uL [I64,I64]))]))]⟩]⟩
def py:Ctr:=⟨163,54,[.agg (uL [RI,CW]),shU RI,.agg (uL [CB,CW]),shU CW,shU .bool],[],[⟨(uL [CB,CW,I64]),[.agg 2,.one],[]⟩],ap7 fc⟩
theorem tH:Lk 2 py:=ls (C:=BN) rfl (aC jK (aC kA aN)) (by kernel_rfl) fun h=>by kernel_rfl
def jB(a0:Int) (a1:LDCe) (a2:LDLn):Option (Nat×T04):=
let x0:=(w64 (Int.tdiv a0 4));
let x1:=(Int.tmod x0 4);
(dT x1).bind fun x2=>
(dF a2 x2).bind fun x3=>
(dF a2 x2).bind fun x4=>
bif (x4.1==x0) then (some (x2,a1,a2,())) else
((dF a2 x2).bind fun x5=>
bif x5.2.1 then ((dF a2 x2).bind fun x6=>
let x7:=(w64 (x6.1*4));
(dT x7).bind fun x8=>
bif (ji x8 (List.length a1) (List.length a1)) then (dF a2 x2).bind fun x9=>
(dF a2 x2).bind fun ac=>
bif (ji x8 (Nat.add x8 (Nat.min (List.length ac.2.2) (Nat.sub (List.length a1) x8))) (List.length a1)) then bif (Nat.blt 0 (Nat.min (List.length ac.2.2) (Nat.sub (List.length a1) x8))) then (let ae:LDCe:=(nR a1 x8 (Nat.min (List.length ac.2.2) (Nat.sub (List.length a1) x8)) ac.2.2);
let af:=(dI (Nat.min (List.length ac.2.2) (Nat.sub (List.length a1) x8)));
some (x0,x2,ae,a2,())) else
let ae:=(dI (Nat.min (List.length ac.2.2) (Nat.sub (List.length a1) x8)));
some (x0,x2,a1,a2,()) else none else none) else
some (x0,x2,a1,a2,()):Option (Int×Nat×T04)).bind fun(x5,x6,x7,x8,_)=>
(dF x8 x6).bind fun x9=>
let ac:=(List.modify x8 x6 fun e=>(x5,e.2));
(dF ac x6).bind fun ae=>
let af:=(List.modify ac x6 fun e=>(e.1,(false,e.2.2)));
let ag:=(w64 (x5*4));
let ah:=(w64 (x5+1));
let ai:=(w64 (ah*4));
(dT ag).bind fun aj=>
(dT ai).bind fun ak=>
bif (ji aj ak (List.length x7)) then bif (dU 4 0 (List.length (na x7 aj (Nat.sub ak aj)))) then let am:LDCe:=(List.append [] (na x7 aj (Nat.sub ak aj)));
(dF af x6).bind fun an=>
let ap:=(List.modify af x6 fun e=>(e.1,(e.2.1,am)));
some (x6,x7,ap,()) else none else none
noncomputable def zR:X.Cfg:=⟨E0,[],[],[⟨6,0,qE,[(.normal,(qS [(pP 0 2),(sP 5 I64),(6,.ptr ⟨2,1,[((),(3,0))]⟩ [0,0])] [(2,(uL [(.row true KCe),iC]))]))]⟩]⟩
def og:Ctr:=⟨180,55,[.ptr ⟨2,0,[]⟩ [0],shU I64],[(2,(uL [(.row true KCe),iC]))],[⟨[.ptr ⟨2,1,[((),(3,0))]⟩ [0,0]],[.ptr],[(2,(uL [(.row true KCe),iC]))]⟩],ap3 jB⟩
theorem rD:Lk 1 og:=ls (C:=zR) rfl aN (by kernel_rfl) fun h=>by kernel_rfl
def kM(a0:Int) (a1:LDCe) (a2:LDLn):Option (T0t):=
(jB a0 a1 a2).bind fun(x0,x1,x2,_)=>
(dF x2 x0).bind fun x3=>
let x4:=(Int.tmod a0 4);
(dT x4).bind fun x5=>
(dF x2 x0).bind fun x6=>
(dF x6.2.2 x5).bind fun x7=>
(dF x2 x0).bind fun x8=>
(dF x8.2.2 x5).bind fun x9=>
some (x9.1,x9.2,x1,x2,())
noncomputable def BT:X.Cfg:=⟨E0,[og],[],[]⟩
def t8:Ctr:=⟨164,56,[.ptr ⟨2,0,[]⟩ [0],shU I64],[(2,(uL [(.row true KCe),iC]))],[⟨(uL [CB,CW]),[.agg 2],[(2,(uL [(.row true KCe),iC]))]⟩],ap3 kM⟩
theorem Bg:Lk 2 t8:=ls (C:=BT) rfl (aC rD aN) (by kernel_rfl) fun h=>by kernel_rfl
def ir(a0:Int) (a1:Int) (a2:Int) (a3:LDCe) (a4:LDLn):Option (T04):=
(jB a0 a3 a4).bind fun(x0,x1,x2,_)=>
(dF x2 x0).bind fun x3=>
let x4:=(Int.tmod a0 4);
(dT x4).bind fun x5=>
(dF x2 x0).bind fun x6=>
(dF x6.2.2 x5).bind fun x7=>
(dF x2 x0).bind fun x8=>
(dF x8.2.2 x5).bind fun x9=>
let ac:=(List.modify x2 x0 fun e=>(e.1,(e.2.1,(List.modify e.2.2 x5 fun e=>(a1,a2)))));
(dF ac x0).bind fun ae=>
let af:=(List.modify ac x0 fun e=>(e.1,(true,e.2.2)));
some (x1,af,())
noncomputable def zQ:X.Cfg:=⟨E0,[og],[],[]⟩
def of:Ctr:=⟨165,57,[.ptr ⟨2,0,[]⟩ [0],shU I64,.agg (uL [CB,CW])],[(2,(uL [(.row true KCe),iC]))],[⟨[],[],[(2,(uL [(.row true KCe),iC]))]⟩],ap5 ir⟩
theorem rC:Lk 2 of:=ls (C:=zQ) rfl (aC rD aN) (by kernel_rfl) fun h=>by kernel_rfl
def jb(a0:Bool):Option (T02):=
bif a0 then (some (0,1,())) else
some (0,0,())
noncomputable def BM:X.Cfg:=⟨E0,[],[],[]⟩
def px:Ctr:=⟨181,58,(uL [.bool]),[],[⟨(uL [CB,CW]),[.agg 2],[]⟩],ap1 jb⟩
theorem tG:Lk 1 px:=ls (C:=BM) rfl aN (by kernel_rfl) fun h=>by kernel_rfl
def jy(a0:Int) (a1:Int) (a2:Int):Option (T0e):=
bif (a0==3) then (let x0:Int:=(wk .u16 (a1+a2));
some (0,x0,0,())) else
bif (a0==4) then (let x0:Int:=(wk .u16 (a1 - a2));
some (0,x0,0,())) else
bif (a0==5) then (let x0:Int:=(wk .u16 (a1*a2));
some (0,x0,0,())) else
bif (a0==6) then (bif (a2==0) then (some (0,0,5,())) else
bif (a0==6) then (bif (a2 != 0) then let x0:Int:=(wk .u16 (Int.tdiv a1 a2));
some (0,x0,0,()) else none) else
bif (a2 != 0) then let x0:Int:=(Int.tmod a1 a2);
some (0,x0,0,()) else none) else
bif (a0==7) then (bif (a2==0) then (some (0,0,5,())) else
bif (a0==6) then (bif (a2 != 0) then let x0:Int:=(wk .u16 (Int.tdiv a1 a2));
some (0,x0,0,()) else none) else
bif (a2 != 0) then let x0:Int:=(Int.tmod a1 a2);
some (0,x0,0,()) else none) else
bif (a0==8) then (let x0:Int:=(arR .and .u16 a1 a2);
some (0,x0,0,())) else
bif (a0==9) then (let x0:Int:=(arR .or .u16 a1 a2);
some (0,x0,0,())) else
bif (a0==10) then (let x0:Int:=(arR .xor .u16 a1 a2);
some (0,x0,0,())) else
bif (a0==11) then (let x0:Int:=(Int.tmod a2 16);
(dT x0).bind fun x1=>
let x2:Int:=(shR .shl .u16 a1 x1);
some (0,x2,0,())) else
bif (a0==12) then (let x0:Int:=(Int.tmod a2 16);
(dT x0).bind fun x1=>
let x2:Int:=(shR .shr .u16 a1 x1);
some (0,x2,0,())) else
(jb (decide (a1 < a2))).bind fun(x0,x1,_)=>
some (x0,x1,0,())
noncomputable def vE:X.Cfg:=⟨E0,[px],[],[]⟩
def pu:Ctr:=⟨182,59,(uL [I64,CW,CW]),[],[⟨(uL [CB,CW,I64]),[.agg 2,.one],[]⟩],ap3 jy⟩
theorem vn:Lk 2 pu:=ls (C:=vE) rfl (aC tG aN) (by kernel_rfl) fun h=>by kernel_rfl
def jz(a0:List (Int)) (a1:Int) (a2:List (Int)) (a3:Int) (a4:Int) (a5:Int) (a6:Int):Option (Int×Int×T0d):=
let x0:=(wk .i64 a4);
(eO a0 a1 a2 x0).bind fun(x1,x2,x3,_)=>
let x4:=(wk .i64 a6);
(eO a0 a1 a2 x4).bind fun(x5,x6,x7,_)=>
bif x3 then (bif x7 then (some (x1,x2,x5,x6,(x1==x5),())) else
some (x1,x2,x5,x6,false,())) else
some (x1,x2,x5,x6,false,())
noncomputable def zM:X.Cfg:=⟨E0,[ic],[],[]⟩
def r9:Ctr:=⟨183,60,[.agg (uL [RI,CW]),shU RI,.agg (uL [CB,CW]),.agg (uL [CB,CW])],[],[⟨(uL [I64,I64,I64,I64,.bool]),[.agg 2,.agg 2,.one],[]⟩],ap7 jz⟩
theorem y9:Lk 2 r9:=ls (C:=zM) rfl (aC jK aN) (by kernel_rfl) fun h=>by kernel_rfl
def pM(a0:List (Int)) (a1:Int) (a2:List (Int)) (a3:Int) (a4:Int) (a5:Int) (a6:Int) (a7:Int):Option (T0e):=
bif (decide (a3 < 3)) then (some (0,0,1,())) else
bif (decide (a3 > 14)) then (some (0,0,1,())) else
(match (bif (a3==14) then ((jb ((a4==a6) && ((a5==a7) && true))).bind fun(x0,x1,_)=>
some (.inl (0,x0,x1,()))) else
bif (a4==0) then (bif (a6==0) then ((jy a3 a5 a7).bind fun(x0,x1,x2,_)=>
some (.inl (x2,x0,x1,()))) else
(bif (a3==3) then (bif (a4==1) then (some (a2,a3,(a6==0),a0,a1,a4,a5,a6,a7,0,0,())) else
some (a2,a3,false,a0,a1,a4,a5,a6,a7,0,0,())) else
some (a2,a3,false,a0,a1,a4,a5,a6,a7,0,0,()):Option (T2h)).bind fun(x0,x1,x2,x3,x4,x5,x6,x7,x8,x9,ac,_)=>
bif x2 then ((fc x3 x4 x0 x5 x6 x8 false).bind fun(ae,af,ag,_)=>
some (.inl (ag,ae,af,()))) else
(bif (x1==3) then (bif (x5==0) then (some (x0,x1,(x7==1),x3,x4,x5,x6,x7,x8,x9,ac,())) else
some (x0,x1,false,x3,x4,x5,x6,x7,x8,x9,ac,())) else
some (x0,x1,false,x3,x4,x5,x6,x7,x8,x9,ac,()):Option (T2h)).bind fun(ae,af,ag,ah,ai,aj,ak,am,an,ap,aq,_)=>
bif ag then ((fc ah ai ae am an ak false).bind fun(av,ax,ay,_)=>
some (.inl (ay,av,ax,()))) else
(bif (af==4) then (bif (aj==1) then (some (ae,af,(am==0),ah,ai,aj,ak,am,an,ap,aq,())) else
some (ae,af,false,ah,ai,aj,ak,am,an,ap,aq,())) else
some (ae,af,false,ah,ai,aj,ak,am,an,ap,aq,()):Option (T2h)).bind fun(av,ax,ay,az,aA,aB,aD,aE,aF,aG,aH,_)=>
bif ay then ((fc az aA av aB aD aF true).bind fun(aI,aJ,aK,_)=>
some (.inl (aK,aI,aJ,()))) else
(bif (ax==4) then (bif (aB==1) then (some (av,ax,(aE==1),az,aA,aB,aD,aE,aF,aG,aH,())) else
some (av,ax,false,az,aA,aB,aD,aE,aF,aG,aH,())) else
bif (ax==13) then (bif (aB==1) then (some (av,ax,(aE==1),az,aA,aB,aD,aE,aF,aG,aH,())) else
some (av,ax,false,az,aA,aB,aD,aE,aF,aG,aH,())) else
some (av,ax,false,az,aA,aB,aD,aE,aF,aG,aH,()):Option (T2h)).bind fun(aI,aJ,aK,aL,aM,aO,aP,aQ,aR,aS,aT,_)=>
bif aK then ((jz aL aM aI aO aP aQ aR).bind fun(aU,aV,aW,aY,aZ,_)=>
bif (!aZ) then (some (.inl (4,0,0,()))) else
bif (aJ==13) then ((jb (decide (aV < aY))).bind fun(ba,bc,_)=>
some (.inl (0,ba,bc,()))) else
let ba:=(w64 (aV - aY));
let bc:=(wk .u16 ba);
some (.inl (0,0,bc,()))) else
some (.inr (aI,aJ,false,aL,aM,aO,aP,aQ,aR,aS,aT,()))) else
(bif (a3==3) then (bif (a4==1) then (some (a2,a3,(a6==0),a0,a1,a4,a5,a6,a7,0,0,())) else
some (a2,a3,false,a0,a1,a4,a5,a6,a7,0,0,())) else
some (a2,a3,false,a0,a1,a4,a5,a6,a7,0,0,()):Option (T2h)).bind fun(x0,x1,x2,x3,x4,x5,x6,x7,x8,x9,ac,_)=>
bif x2 then ((fc x3 x4 x0 x5 x6 x8 false).bind fun(ae,af,ag,_)=>
some (.inl (ag,ae,af,()))) else
(bif (x1==3) then (bif (x5==0) then (some (x0,x1,(x7==1),x3,x4,x5,x6,x7,x8,x9,ac,())) else
some (x0,x1,false,x3,x4,x5,x6,x7,x8,x9,ac,())) else
some (x0,x1,false,x3,x4,x5,x6,x7,x8,x9,ac,()):Option (T2h)).bind fun(ae,af,ag,ah,ai,aj,ak,am,an,ap,aq,_)=>
bif ag then ((fc ah ai ae am an ak false).bind fun(av,ax,ay,_)=>
some (.inl (ay,av,ax,()))) else
(bif (af==4) then (bif (aj==1) then (some (ae,af,(am==0),ah,ai,aj,ak,am,an,ap,aq,())) else
some (ae,af,false,ah,ai,aj,ak,am,an,ap,aq,())) else
some (ae,af,false,ah,ai,aj,ak,am,an,ap,aq,()):Option (T2h)).bind fun(av,ax,ay,az,aA,aB,aD,aE,aF,aG,aH,_)=>
bif ay then ((fc az aA av aB aD aF true).bind fun(aI,aJ,aK,_)=>
some (.inl (aK,aI,aJ,()))) else
(bif (ax==4) then (bif (aB==1) then (some (av,ax,(aE==1),az,aA,aB,aD,aE,aF,aG,aH,())) else
some (av,ax,false,az,aA,aB,aD,aE,aF,aG,aH,())) else
bif (ax==13) then (bif (aB==1) then (some (av,ax,(aE==1),az,aA,aB,aD,aE,aF,aG,aH,())) else
some (av,ax,false,az,aA,aB,aD,aE,aF,aG,aH,())) else
some (av,ax,false,az,aA,aB,aD,aE,aF,aG,aH,()):Option (T2h)).bind fun(aI,aJ,aK,aL,aM,aO,aP,aQ,aR,aS,aT,_)=>
bif aK then ((jz aL aM aI aO aP aQ aR).bind fun(aU,aV,aW,aY,aZ,_)=>
bif (!aZ) then (some (.inl (4,0,0,()))) else
bif (aJ==13) then ((jb (decide (aV < aY))).bind fun(ba,bc,_)=>
some (.inl (0,ba,bc,()))) else
let ba:=(w64 (aV - aY));
let bc:=(wk .u16 ba);
some (.inl (0,0,bc,()))) else
some (.inr (aI,aJ,false,aL,aM,aO,aP,aQ,aR,aS,aT,())):Option (T0e⊕T2h)) with
| none=>none
| some (.inl (x0,x1,x2,_))=>
some (x1,x2,x0,())
| some (.inr (x0,x1,x2,x3,x4,x5,x6,x7,x8,x9,ac,_))=>
some (0,0,3,()))
noncomputable def FN:X.Cfg:=⟨E0,[px,pu,py,r9],[],[⟨9,0,qE,[(.normal,(qS [(sP 1 RI),(sP 2 I64),(pP 5 12),(pP 8 18),(pP 9 20),(pP 10 22),(sP 46 .bool)] [(12,(uL [RI,CW])),(18,(uL [CB,CW])),(20,(uL [CB,CW])),(22,(uL [CB,CW]))]))]⟩,⟨11,1,qE,[(.normal,(qS [(sP 1 RI),(sP 2 I64),(pP 5 12),(pP 8 18),(pP 9 20),(pP 10 22),(sP 67 .bool)] [(12,(uL [RI,CW])),(18,(uL [CB,CW])),(20,(uL [CB,CW])),(22,(uL [CB,CW]))]))]⟩,⟨13,2,qE,[(.normal,(qS [(sP 1 RI),(sP 2 I64),(pP 5 12),(pP 8 18),(pP 9 20),(pP 10 22),(sP 88 .bool)] [(12,(uL [RI,CW])),(18,(uL [CB,CW])),(20,(uL [CB,CW])),(22,(uL [CB,CW]))]))]⟩,⟨15,3,qE,[(.normal,(qS [(sP 1 RI),(sP 2 I64),(pP 5 12),(pP 8 18),(pP 9 20),(pP 10 22),(sP 109 .bool)] [(12,(uL [RI,CW])),(18,(uL [CB,CW])),(20,(uL [CB,CW])),(22,(uL [CB,CW]))]))]⟩,⟨4,4,qE,[(.ret,(qS [(pP 10 22),(sP 11 I64)] [(22,(uL [CB,CW]))])),(.normal,(qS [(sP 1 RI),(sP 2 I64),(pP 5 12),(pP 8 18),(pP 9 20),(pP 10 22),(sP 109 .bool)] [(12,(uL [RI,CW])),(18,(uL [CB,CW])),(20,(uL [CB,CW])),(22,(uL [CB,CW]))]))]⟩]⟩
def yk:Ctr:=⟨166,61,[.agg (uL [RI,CW]),shU RI,shU I64,.agg (uL [CB,CW]),.agg (uL [CB,CW])],[],[⟨(uL [CB,CW,I64]),[.agg 2,.one],[]⟩],ap8 pM⟩
theorem FF:Lk 3 yk:=ls (C:=FN) rfl (aC tG (aC vn (aC tH (aC y9 aN)))) (by kernel_rfl) fun h=>by kernel_rfl
def ko(a0:Int):Option (Bool×Unit):=
(gj a0).bind fun(x0,_)=>
bif x0 then (some (true,())) else
bif (a0==22) then (some (true,())) else
some ((a0==24),())
noncomputable def xk:X.Cfg:=⟨E0,[jg],[],[]⟩
def qA:Ctr:=⟨167,62,(uL [I64]),[],[⟨(uL [.bool]),[.one],[]⟩],ap1 ko⟩
theorem wS:Lk 2 qA:=ls (C:=xk) rfl (aC kS aN) (by kernel_rfl) fun h=>by kernel_rfl
end Go.Proofs.YtdcpgpngdcfhhaaGreat
