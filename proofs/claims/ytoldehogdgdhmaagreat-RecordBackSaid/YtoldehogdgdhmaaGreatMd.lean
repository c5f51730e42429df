/- Part of the proof; no condition. -/
import Derived.Test.YtoldehogdgdhmaaGreatMc
import Derived.Test.YtoldehogdgdhmaaGreatProg
import Derived.KernelRfl
set_option linter.unusedVariables false
set_option linter.unusedSimpArgs false
namespace Go.Proofs.YtoldehogdgdhmaaGreat
open Go.RowKit
section
variable {α β γ δ Y:Type}
theorem Lw(x:Option Nat×Opd):Sim (Y:=Y) (X.argV dH x) (argV x) er:=by
 refine dN λt=>?_
 have VT:∀t:XV den,Sim (Y:=Y) (X.bind (X.takeV dH false t) λl=>X.bind (X.optM dH (X.immXL dH l.1)) λl'=>X.ret (X.shapedX l.2 l')) ((takeV false (er t)).bind λl=>.ret (pQ l.2 (l.1.map TV.imm))) er:=λt=>
  (qq false t).bind λl=>Sim.opt λl' hl=>.ret (by rw[zY,Bh hl])
 have nil:∀{s:SP TV}(t:CT)(y:den (.row true t)),Sim (Y:=Y) (X.bind (X.takeV dH false (.d (.row true t) y)) λl=>X.bind (X.optM dH (X.immXL dH l.1)) λl'=>X.ret (X.shapedX l.2 l')) s er:=λt y σ k o hk=>by cases hk
 refine Sim.ite (λh=>?_) λh=>?_
 ·have h2:(x.1==some 0&&PX (er t))=true:=by
   simp only[oBA]at h⊢;refine⟨h.1,?_⟩;have h3:=h.2
   cases t with
   |pk p vs=>rfl
   |d t y=>cases t with
    |nilr o=>cases o with
     |true=>rfl
     |false=>simp[X.isNmX]at h3
    |_=>simp[X.isNmX]at h3
   |_=>simp[X.isNmX]at h3
  rw[oIP h2]
  have h3:X.isNmX t=true:=by
   simp only[oBA]at h;exact h.2
  cases t with
  |pk p vs=>exact .ret rfl
  |d t y=>cases t with
   |nilr o=>cases o with
    |true=>exact(qt 1000000 [.d (.nilr true) y]).bind λl=>.ret (by cases l<;>rfl)
    |false=>simp[X.isNmX]at h3
   |_=>simp[X.isNmX]at h3
  |_=>simp[X.isNmX]at h3
 ·have keep:∀{s:SP TV},PX (er t)=X.isNmX t->Qd (er t)=X.isPkX t->Sim (Y:=Y) (X.argV0 dH t) s er->Sim (Y:=Y) (if(x.1.isSome&&X.isPkX t)=true then X.ret t else X.argV0 dH t) (if(x.1==some 0&&PX (er t))=true then Ah (er t)else if(x.1.isSome&&Qd (er t))=true then .ret (er t)else s) er:=λhe hp hs=>by
   rw[he,oIN h,hp];split
   ·exact .ret rfl
   ·exact hs
  have nk:∀{t:XV den}{s:SP TV},X.isPkX t=false->(∀ σ k (o:Y),X.argV0 dH t σ k≠some o)->Sim (Y:=Y) (if(x.1.isSome&&X.isPkX t)=true then X.ret t else X.argV0 dH t) s er:=λhp hn=>by
   rw[hp,Bool.and_false,oIN (by simp)];exact fun σ k o hk=>absurd hk (hn σ k o)
  cases t with
  |ip cs=>exact keep rfl rfl (.ret rfl)
  |fn f cap=>exact keep rfl rfl (.ret rfl)
  |ptr p vs=>exact keep rfl rfl (.ret rfl)
  |d t y=>cases t with
   |row o t=>cases o with
    |true=>exact nk rfl fun σ k o hk=>by cases hk
    |false=>exact keep rfl rfl (VT _)
   |nilr o=>cases o<;>exact keep rfl rfl (VT _)
   |nat=>exact nk rfl fun σ k o hk=>by cases hk
   |pair a b=>exact nk rfl fun σ k o hk=>by cases hk
   |_=>exact keep rfl rfl (VT _)
  |gap t y i o=>exact nk rfl fun σ k o hk=>by cases hk
  |_=>exact keep rfl rfl (VT _)
theorem Cu:∀l:List (Option Nat×Opd),Sim (Y:=Y) (X.argVs dH l) (argVs l) erL:=by
 intro l
 induction l with
 |nil=>exact .ret rfl
 |cons x r ih=>exact(Lw x).bind λt=>ih.bind λl=>.ret rfl
theorem Cp:∀(l:List (Option Nat×XV den))(i:Nat),Sim (Y:=Y) (X.takeOwns dH i l) (takeOwns i (l.map λx=>(x.1,er x.2))) (List.map λx=>(x.1,er x.2)):=by
 intro l
 induction l with
 |nil=>intro i;exact .ret rfl
 |cons x l ih=>
  intro i;have ⟨n,t⟩:=x
  cases n with
  |none=>cases t with
   |d t y=>cases t with
    |row o t=>cases o<;>exact ih (i+1)
    |nilr o=>cases o<;>exact ih (i+1)
    |nat=>exact ih (i+1)
    |pair a b=>exact ih (i+1)
    |_=>exact ih (i+1)
   |_=>exact ih (i+1)
  |some n=>cases n with
   |zero=>cases t with
    |pk p vs=>
     refine(gj true (.pk p vs)).bind λt=>Sim.ite (λh=>?_) λ_=>.fail;have ⟨c,hc⟩:=mu h
     have h2:mG (er t)=true:=by rw[hc];rfl
     rw[oIP h2];exact(ih (i+1)).bind λq=>.ret rfl
    |d t y=>cases t with
     |row o t=>cases o<;>exact ih (i+1)
     |nilr o=>cases o<;>exact ih (i+1)
     |nat=>exact ih (i+1)
     |pair a b=>exact ih (i+1)
     |_=>exact ih (i+1)
    |_=>exact ih (i+1)
   |succ n=>cases t with
    |d t y=>cases t with
     |row o t=>cases o<;>exact ih (i+1)
     |nilr o=>cases o<;>exact ih (i+1)
     |nat=>exact ih (i+1)
     |pair a b=>exact ih (i+1)
     |_=>exact ih (i+1)
    |_=>exact ih (i+1)
theorem I4(r:Nat):∀(n o:Nat),Sim (Y:=Y) (X.grabB dH r o n) (DT ⟨r,o,[]⟩ n) erL:=by
 intro n
 induction n with
 |zero=>intro o;exact .ret rfl
 |succ n ih=>
  intro o
  cases n with
  |zero=>
   refine Sim.rdC λt=>(kv ⟨r,o,[]⟩ t).bind λt'=>(gj true t').bind λt2=>?_;exact(Sim.ret (f:=erL) rfl).bind (h:=λl=>.ret (er t2::l)) λl=>.ret rfl
  |succ n=>
   exact Sim.rdC λt=>(kv ⟨r,o,[]⟩ t).bind λt'=>(gj true t').bind λt2=>(ih (o+1)).bind λl=>.ret rfl
theorem Hf(p:XP den):Sim (Y:=Y) (X.rooted dH p) (rooted (erP p)) id:=by
 have ⟨r,off,hops⟩:=p
 cases hops with
 |nil=>exact .ret rfl
 |cons h hs=>
  refine Sim.rdT λt=>?_
  cases t with
  |ptr q ws=>
   refine Sim.ite (λhc=>?_) λ_=>.fail;show Sim _ (if(erP q).root==r&&(erP q).hops.isEmpty then chk (erP q) 0 ws else .fail) id
   have:((erP q).root==r&&(erP q).hops.isEmpty)=true:=by
    simpa[erP]using hc
   rw[oIP this];exact fM q 0 ws
  |_=>exact .fail
def erG(g:XGP den):GP:=⟨g.i,erP g.p,g.vs,erL g.cells⟩
theorem Kd{t:XV den}(h:X.isArgX t=true):rL (er t)=true:=by
 cases t with
 |ip cs=>rfl
 |fn f cap=>exact Bj h
 |agg l=>
  simp only[X.isArgX]at h;simp only[er,rL,kI,List.all_map];rw[List.all_eq_true]at h⊢;intro x hx;have:=h x hx;simp at this;simp
  rcases oj this.1 this.2 with⟨y,hy⟩|⟨c,hc⟩
  ·rw[hy]
  ·rw[hc]
 |d t x=>
  by_cases hn:t=.nilr true
  ·subst hn;rfl
  ·have:X.okCellX (.d t x:XV den)=true/\X.isOwX (.d t x:XV den)=false:=by
    cases t with
    |nilr o=>cases o with
     |true=>simp_all
     |false=>simpa[X.isArgX]using h
    |_=>simpa[X.isArgX]using h
   rcases oj this.1 this.2 with⟨y,hy⟩|⟨c,hc⟩
   ·rw[hy];rfl
   ·rw[hc];rfl
 |k x=>rfl
 |_=>simp[X.isArgX,X.okCellX]at h
theorem I3:∀(l:List (Option Nat×XV den))(i:Nat),Sim (Y:=Y) (X.grabs dH i l) (grabs i (l.map λx=>(x.1,er x.2))) (List.map erG):=by
 intro l
 induction l with
 |nil=>intro i;exact .ret rfl
 |cons x l ih=>
  intro i;obtain⟨n,t⟩:=x
  have Za:(∀m p vs,(n,er t)≠(some m,TV.ptr p vs))->(∀p vs,(n,er t)≠(some 0,TV.pk p vs))->Sim (Y:=Y) (if X.isArgX t then X.grabs dH (i+1) l else X.fail dH) (grabs i (((n,t)::l).map λx=>(x.1,er x.2))) (List.map erG):=by
   intro hne UO;refine Sim.ite (λh=>?_) λ_=>.fail
   have e:grabs i (((n,t)::l).map λx=>(x.1,er x.2))=if rL (er t)then grabs (i+1) (l.map λx=>(x.1,er x.2))else .fail:=by
    show grabs i ((n,er t)::_)=_
    cases n with
    |none=>rfl
    |some m=>cases he:er t with
     |ptr p vs=>simp_all
     |pk p vs=>cases m with
      |zero=>exact absurd (by rw[he]) (UO p vs)
      |succ m=>rfl
     |_=>cases m<;>rfl
   rw[e,oIP (Kd h)];exact ih (i+1)
  cases n with
  |none=>exact Za (by intro m p vs h;cases h) (by intro p vs h;cases h)
  |some m=>cases t with
   |pk p vs=>cases m with
    |zero=>exact ih (i+1)
    |succ m=>exact Za (by intro m p vs h;cases h) (by intro p vs h;cases h)
   |ptr p vs=>exact(fM p _ vs).bind λ_=>(Hf p).bind λ_=>Sim.bind (by have:=I4 (Y:=Y) p.root (X.baseXN p m) p.off;have e:Ox (erP p) m=X.baseXN p m:=(by have ⟨r,o,hs⟩:=p;cases hs<;>rfl);show Sim _ (DT (erP p).base (Ox (erP p) m)) _;rw[e];exact this) λl1=>(ih (i+1)).bind λq=>.ret rfl
   |d t y=>cases t with
    |row o t=>cases m<;>cases o<;>exact Za (by intro m p vs h;cases h) (by intro p vs h;cases h)
    |nilr o=>cases m<;>cases o<;>exact Za (by intro m p vs h;cases h) (by intro p vs h;cases h)
    |_=>cases m<;>exact Za (by intro m p vs h;cases h) (by intro p vs h;cases h)
   |_=>cases m<;>exact Za (by intro m p vs h;cases h) (by intro p vs h;cases h)
theorem IK(p:XP den):Sim (Y:=Y) (X.touch dH p) (touch (erP p)) id:=Sim.rdC λtv=>IJ p.root p.off tv
theorem IN:∀q:List (XGP den),Sim (Y:=Y) (X.rechk dH q) (rechk (q.map erG)) id:=by
 intro q
 induction q with
 |nil=>exact .ret rfl
 |cons g q ih=>exact(fM g.p _ g.vs).bind λ_=>(IK g.p).bind λ_=>ih
theorem OC(i:Nat)(t:XV den):er (X.argT i t)=argT i (er t):=by
 cases t with
 |d t y=>cases t with
  |row o t=>cases o<;>rfl
  |nilr o=>cases o<;>rfl
  |_=>rfl
 |_=>rfl
theorem MB:∀(l:List (XV den))(i:Nat),erL (X.argTs i l)=argTs i (erL l):=by
 intro l
 induction l with
 |nil=>intro i;rfl
 |cons t l ih=>intro i;simp[X.argTs,erL,argTs,ih,OC]
theorem HW{t:XV den}(h:X.isDeadX t=false):Gr (er t)=false:=by
 cases t with
 |d t y=>cases t with
  |row o t=>cases o<;>rfl
  |nilr o=>cases o<;>rfl
  |nat=>simp[X.isDeadX,X.oneT]at h
  |pair a b=>simp[X.isDeadX,X.oneT]at h
  |_=>rfl
 |dead=>simp[X.isDeadX]at h
 |_=>rfl
theorem Et:∀q:List (XGP den×List (XV den)),Sim (Y:=Y) (X.putBack dH q) (putBack (q.map λx=>(erG x.1,erL x.2))) id:=by
 intro q
 induction q with
 |nil=>exact .ret rfl
 |cons x q ih=>
  have ⟨g,l⟩:=x;refine ih.bind λ_=>Sim.ite (λh=>?_) λ_=>.fail;have ⟨h1,h2,h3⟩:=h;show Sim _ (if(erL l).length=(erL g.cells).length&&(erL l).all λt=>!Gr t then putL (erP g.p) (erL l)else .fail) id;rw[oIP]
  ·exact F1 g.p l
  ·simp only[oBA,oDE,fT];refine⟨h1,?_⟩;rw[kI,List.all_map,List.all_eq_true];intro t ht;have:=List.all_eq_true.1 h3 t ht;simp at this;simp[HW this]
theorem Jf:∀(sh:List RSh)(l:List (XV den)),erL (X.shapeRX sh l)=jL sh (erL l):=by
 intro sh
 induction sh with
 |nil=>intro l;rfl
 |cons s sh ih=>
  intro l
  cases s with
  |one=>
   simp only[X.shapeRX,erL];rw[ih,D2];cases l<;>rfl
  |agg n=>
   simp only[X.shapeRX,erL,jL,er];rw[ih,rA,tT]
  |ptr=>
   simp[X.shapeRX,erL,jL,er];rw[ih]
theorem Cx(sh:List RSh)(l:List (XV den)):er (X.shapeTX sh l)=s7 sh (erL l):=by
 unfold X.shapeTX s7;rw[<- Jf]
 cases X.shapeRX sh l with
 |nil=>rfl
 |cons x r=>cases r<;>rfl
theorem IY(dst:Option Nat)(cells:List (XV den))(sh:List RSh):Sim (Y:=Y) (X.landR dH dst cells sh) (landR dst ⟨erL cells,sh⟩) id:=by
 cases dst with
 |none=>exact .ret rfl
 |some d=>exact(qt d cells).bind λl=>eO d (Cx sh l)
theorem Kc(sh:List RSh)(cells:List (XV den)):isP ⟨erL cells,sh⟩=X.isPX sh cells:=by
 unfold isP X.isPX
 cases sh with
 |nil=>simp_all
 |cons s sh=>cases s with
  |ptr=>cases cells with
   |nil=>rfl
   |cons t r=>cases t with
    |d t y=>cases t with
     |row o t=>cases o<;>rfl
     |nilr o=>cases o<;>rfl
     |_=>rfl
    |_=>rfl
  |_=>rfl
theorem Hl(t:XV den)(l:List (XV den)):er (X.shapePX t l)=F9 (er t) (erL l):=by
 cases l<;>rfl
theorem IZ(dst:Option Nat)(q:List (XGP den))(cells:List (XV den)):Sim (Y:=Y) (X.landP dH dst q cells) (landP dst (q.map erG) (erL cells)) id:=by
 cases dst with
 |none=>exact .ret rfl
 |some d=>
  unfold X.landP;simp only;split
  ·rename_i pl vs l g;refine Sim.ite (λhc=>?_) λ_=>.fail;show Sim _ (if pl.root==2*g.i+2&&(erP g.p).hops.isEmpty then(rdVs (qC g.p.root (g.p.off+pl.off) (erP pl).hops.length)).bind λvs=>wr d (F9 (.ptr ⟨g.p.root,g.p.off+pl.off,(erP pl).hops⟩ vs) (erL l))else .fail) id;rw[oIP (by simpa[erP]using hc)];exact(wQ _).bind λvs=>eO d (Hl _ l)
  ·exact .fail
theorem OU(q:List (XGP den))(l:List (Nat×List (XV den))):(q.zip (l.map (·.2))).map (λx=>(erG x.1,erL x.2))=(q.map erG).zip ((erC l).map (·.2)):=by
 induction q generalizing l with
 |nil=>rfl
 |cons g q ih=>
  cases l with
  |nil=>rfl
  |cons x l=>simp[erC,ih]
theorem J1(z:List (Option Nat×XV den))(i:Nat):lentTo (z.map λx=>(x.1,er x.2)) i=X.lentTo z i:=by
 unfold lentTo X.lentTo;rw[List.getElem?_map]
 cases z[i]? with
 |none=>rfl
 |some x=>
  obtain⟨n,t⟩:=x
  cases n with
  |none=>rfl
  |some n=>cases n with
   |zero=>rfl
   |succ n=>cases t with
    |d t y=>cases t with
     |row o t=>cases o<;>rfl
     |nilr o=>cases o<;>rfl
     |_=>rfl
    |_=>rfl
theorem LU(x:Option Nat×XV den):normA (x.1,er x.2)=((X.normA x).1,er (X.normA x).2):=by
 obtain⟨n,t⟩:=x
 cases n with
 |none=>rfl
 |some n=>cases t with
  |d t y=>cases t with
   |row o t=>cases o<;>rfl
   |nilr o=>cases o<;>rfl
   |_=>rfl
  |_=>rfl
theorem Eu:∀z:List (Option Nat×XV den),Sim (Y:=Y) (X.lendChk dH z) (lendChk (z.map λx=>(x.1,er x.2))) id:=by
 intro z
 induction z with
 |nil=>exact .ret rfl
 |cons x z ih=>
  obtain⟨n,t⟩:=x
  cases n with
  |none=>exact ih
  |some n=>cases n with
   |zero=>exact ih
   |succ k=>cases t with
    |pk p vs=>
     refine(fM p _ vs).bind λ_=>Sim.rdT λt=>?_
     cases t with
     |pk q ws=>
      refine Sim.ite (λhc=>?_) λ_=>.fail;show Sim _ (if p.root=2*k+3/\p.off=0/\(erP p).hops.isEmpty=true/\q.root=2*k+3/\q.off=0/\(erP q).hops.isEmpty=true/\vs=ws then _ else _) id;rw[oIP (by simpa[erP]using hc)];exact ih
     |d t y=>cases t with
      |row o t=>cases o<;>exact .fail
      |nilr o=>cases o<;>exact .fail
      |_=>exact .fail
     |_=>exact .fail
    |d t y=>cases t with
     |row o t=>cases o<;>exact ih
     |nilr o=>cases o<;>exact ih
     |_=>exact ih
    |_=>exact ih
theorem Cr(z:List (Option Nat×XV den))(ks:List Nat):∀(ow:List (Nat×XV den))(rs:List (List (XV den))),Sim (Y:=Y) (X.giveBack dH z ks ow rs) (giveBack (z.map λx=>(x.1,er x.2)) ks (ow.map λx=>(x.1,er x.2)) (rs.map erL)) id:=by
 intro ow
 induction ow with
 |nil=>intro rs;exact .ret rfl
 |cons x ow ih=>
  intro rs
  cases rs with
  |nil=>exact .fail
  |cons y rs=>
   refine(ih rs).bind λ_=>?_;show Sim _ (match lentTo (z.map λx=>(x.1,er x.2)) x.1 with|none=>_|some k=>_) id;rw[J1]
   cases X.lentTo z x.1 with
   |none=>exact .ret rfl
   |some k=>
    cases y with
    |nil=>exact .fail
    |cons v y=>
     cases y with
     |cons v2 y=>exact .fail
     |nil=>
      refine Sim.ite (λhc=>?_) λ_=>.fail;obtain⟨c,hv⟩:=mu hc.1;show Sim _ (match[er v]with | [.ow c]=>if ks.contains (1000000+x.1)=true/\x.1≠1000000 then(names k [.ow c]).bind λl=>.wrT k (l.headD .dead) (.ret ())else .fail|_=>.fail) id;rw[hv];simp only;rw[oIP hc.2];have h:=qt (Y:=Y) k [v];rw[show erL [v]=[.ow c] by simp[erL,hv]]at h;refine h.bind λl=>?_;rw[show(erL l).headD .dead=er (l.headD .dead) by cases l<;>rfl];exact uD k _
theorem Hk{F:fQ}(dst:Option Nat)(f:FuncId)(vals:List (XV den))(q:List (XGP den))(ow:List (Nat×XV den))(z:List (Option Nat×XV den))(u:HL den []):∀(TB:List Ctr),(∀c∈TB,vk F c)->Sim (Y:=Y) (X.callTB dH dst f vals q ow z u TB) ((jR (F f (erL vals) ((q.map erG).map (λg=>(2*g.i+2,g.cells))++(ow.map λx=>(x.1,er x.2)).map λx=>(2*x.1+3,[x.2])))).bind λr=>
 if(r.2.map (·.1)).take ((q.map erG).length+(ow.map λx=>(x.1,er x.2)).length)=(q.map erG).map (λg=>2*g.i+2)++(ow.map λx=>(x.1,er x.2)).map (λx=>2*x.1+3)&&(isP r.1||qx r.1.sh r.1.cells.length)then(putBack ((q.map erG).zip (r.2.map (·.2)))).bind λ_=>(giveBack (z.map λx=>(x.1,er x.2)) ((r.2.drop ((q.map erG).length+(ow.map λx=>(x.1,er x.2)).length)).map (·.1)) (ow.map λx=>(x.1,er x.2)) ((r.2.drop (q.map erG).length).map (·.2))).bind λ_=>if isP r.1 then(if(ow.map λx=>(x.1,er x.2)).isEmpty then landP dst (q.map erG) r.1.cells else .fail)else landR dst r.1 else .fail) id:=by
 intro TB
 induction TB with
 |nil=>intro _;exact .fail
 |cons c TB ih=>
  intro YT;have ZN:=ih λc' XC=>YT c' (by simp[XC]);unfold X.callTB
  cases hsel:(if c.f=f then X.convIn dH c vals (q.map (λg=>(2*g.i+2,g.cells))++ow.map λy=>(2*y.1+3,[y.2])) u else none)with
  |none=>exact ZN
  |some h=>
   by_cases hf:c.f=f
   ·rw[oIP hf]at hsel;obtain⟨e1,e2⟩:=D7 hsel;intro σ k y hk;obtain⟨o,ho,hk⟩:=dS (show(c.g h).bind _=some y from hk);rw[yv (λr=>X.onOut dH r λx=>X.afterC dH dst q ow z x σ k)]at hk
    cases hx:lV (c.outs.map lvO) o (λi ho=>mw c.outs i ho)with
    |none=>rw[hx]at hk;cases hk
    |some x=>
     rw[hx]at hk;have hk:X.afterC dH dst q ow z x σ k=some y:=hk;have hF:=YT c (by simp) h o x ho hx
     have e3:erC (q.map (λg=>(2*g.i+2,g.cells))++ow.map λy=>(2*y.1+3,[y.2]))=(q.map erG).map (λg=>(2*g.i+2,g.cells))++(ow.map λx=>(x.1,er x.2)).map λx=>(2*x.1+3,[x.2]):=by
      unfold erC;rw[List.map_append,List.map_map,List.map_map,List.map_map,List.map_map];congr 1
     rw[e1,e2,e3,hf]at hF;rw[hF]
     have hE:∀m,(erC x.2.2).drop m=erC (x.2.2.drop m):=λm=>by unfold erC;rw[List.map_drop]
     have hK:∀l:List (Nat×List (XV den)),(erC l).map (·.1)=l.map (·.1):=λl=>by unfold erC;rw[List.map_map];exact List.map_congr_left λ_ _=>rfl
     have hV:∀l:List (Nat×List (XV den)),(erC l).map (·.2)=(l.map (·.2)).map erL:=λl=>by unfold erC;rw[List.map_map,List.map_map];exact List.map_congr_left λ_ _=>rfl
     have key:Sim (Y:=Y) (X.afterC dH dst q ow z x) (if((erC x.2.2).map (·.1)).take ((q.map erG).length+(ow.map λx=>(x.1,er x.2)).length)=(q.map erG).map (λg=>2*g.i+2)++(ow.map λx=>(x.1,er x.2)).map (λx=>2*x.1+3)&&(isP ⟨erL x.1,x.2.1⟩||qx x.2.1 (erL x.1).length)then(putBack ((q.map erG).zip ((erC x.2.2).map (·.2)))).bind λ_=>(giveBack (z.map λx=>(x.1,er x.2)) (((erC x.2.2).drop ((q.map erG).length+(ow.map λx=>(x.1,er x.2)).length)).map (·.1)) (ow.map λx=>(x.1,er x.2)) (((erC x.2.2).drop (q.map erG).length).map (·.2))).bind λ_=>if isP ⟨erL x.1,x.2.1⟩then(if(ow.map λx=>(x.1,er x.2)).isEmpty then landP dst (q.map erG) (erL x.1)else .fail)else landR dst ⟨erL x.1,x.2.1⟩else .fail) id:=by
      unfold X.afterC;refine Sim.ite (λhc=>?_) λ_=>.fail
      have h6:(q.map erG).map (λg=>2*g.i+2)=q.map (λg=>2*g.i+2):=by rw[List.map_map];exact List.map_congr_left λ_ _=>rfl
      have h7:(ow.map λx=>(x.1,er x.2)).map (λx=>2*x.1+3)=ow.map (λy=>2*y.1+3):=by rw[List.map_map];exact List.map_congr_left λ_ _=>rfl
      have hC:(decide (((erC x.2.2).map (·.1)).take ((q.map erG).length+(ow.map λx=>(x.1,er x.2)).length)=(q.map erG).map (λg=>2*g.i+2)++(ow.map λx=>(x.1,er x.2)).map (λx=>2*x.1+3))&&(isP ⟨erL x.1,x.2.1⟩||qx x.2.1 (erL x.1).length))=true:=by
       rw[Kc,hK,h6,h7,List.length_map,List.length_map,fT,oDT hc.1,Bool.true_and];exact hc.2
      rw[oIP hC,<- OU,Kc,hE,hE,hK,hV,List.length_map,List.length_map];refine(Et _).bind λ_=>(Cr z _ ow _).bind λ_=>?_
      cases X.isPX x.2.1 x.1 with
      |true=>
       show Sim (if ow.isEmpty=true then _ else _) (if(ow.map λx=>(x.1,er x.2)).isEmpty=true then _ else _) id;rw[List.isEmpty_map];refine Sim.ite (λh=>?_) λh=>?_
       ·rw[oIP h];exact IZ dst q x.1
       ·rw[oIN h];exact .fail
      |false=>exact IY dst x.1 x.2.1
     exact key σ k y hk
   ·rw[oIN hf]at hsel;cases hsel
end
section
variable {α β γ δ Y:Type}
theorem Ct{F:fQ}{TB:List Ctr}(YT:∀c∈TB,vk F c)(u:HL den [])(dst:Option Nat)(f:FuncId)(ns:List (Option Nat))(vals:List (XV den)):Sim (Y:=Y) (X.callV dH TB u dst f ns vals) (callV F dst f ns (erL vals)) id:=by
 have ez:∀(ns:List (Option Nat))(vals:List (XV den)),(ns.zip vals).map (λx=>(x.1,er x.2))=ns.zip (erL vals):=by
  intro ns
  induction ns with
  |nil=>intro vals;rfl
  |cons n ns ih=>
   intro vals
   cases vals with
   |nil=>rfl
   |cons v vals=>simp only[List.zip_cons_cons,List.map_cons,erL,ih]
 unfold callV
 have en:(ns.zip (erL vals)).map normA=((ns.zip vals).map X.normA).map λx=>(x.1,er x.2):=by
  rw[<- ez,List.map_map,List.map_map];exact List.map_congr_left λx _=>LU x
 rw[en,<- ez];refine(Eu _).bind λ_=>(Cp _ 0).bind λow=>(I3 _ 0).bind λq=>(IN q).bind λ_=>Sim.ite (λh=>?_) λ_=>.fail;rw[oIP]
 ·rw[<- MB];exact Hk dst f _ q ow (ns.zip vals) u TB YT
 ·rw[List.map_map,List.all_map];simp only[oBA]at h⊢;refine⟨h.1,?_⟩;rw[List.all_eq_true]at h⊢;intro g hg;have:=h.2 g hg;simpa[erG,fT]using this
theorem I6(dst:Option Nat)(tm:List BxC)(vals:List (XV den))(hok:tm.all X.boxOk=true):Sim (Y:=Y) (X.evBox dH dst tm vals) (evBox dst tm (erL vals)) id:=by
 cases dst with
 |none=>exact .fail
 |some d=>
  have e:erL (tm.map (X.bxX dH vals))=tm.map (bxT (erL vals)):=by
   rw[kI,List.map_map];refine List.map_congr_left λb hb=>?_;have:=List.all_eq_true.1 hok b hb
   cases b with
   |arg i=>exact wZ vals i
   |val x=>
    show er (X.cellX dH x)=.v x;rw[w9];simp[X.boxOk]at this;unfold eF;split
    all_goals simp_all
  show Sim _ ((takeL false (tm.map (bxT (erL vals)))).bind _) id;rw[<- e];exact(od false _).bind λl=>Sim.new rfl (Sim.rdV λg=>eO d rfl)
theorem F0(x:XV den):Sim (Y:=Y) (X.see1 dH x) (see1 (er x)) er:=by
 cases x with
 |d t y=>cases t with
  |int k=>exact .ret rfl
  |bool=>exact .ret rfl
  |str=>exact .ret rfl
  |nat=>exact .fail
  |row o t=>cases o<;>first|exact .fail|exact .ret rfl
  |nilr o=>cases o<;>exact .ret rfl
  |pair a b=>exact .fail
 |k y=>exact .ret rfl
 |pk p vs=>
  refine(fM p _ vs).bind λ_=>Sim.rdC λtv=>wR λv hv=>?_;refine Sim.ite (λho=>?_) λ_=>.fail;have ⟨c,hc⟩:=mu ho
  have YK:ek (er tv) (erP p).hops=some (.ow c):=by rw[<- hc];exact hv
  simp[YK];intro σ k y hk
  cases hi:X.immX dH v with
  |none=>rw[hi]at hk;cases hk
  |some v'=>
   rw[hi]at hk;exact Sim.ret (by rw[xU hi,hc]) σ k y hk
 |_=>exact .fail
theorem Lf:∀l:List (XV den),Sim (Y:=Y) (X.seeL dH l) (seeL (erL l)) erL:=by
 intro l
 induction l with
 |nil=>exact .ret rfl
 |cons t r ih=>exact(F0 t).bind λt'=>ih.bind λr'=>.ret rfl
theorem Lg(t:XV den):Sim (Y:=Y) (X.seeA dH t) (seeA (er t)) er:=by
 have key:=F0 (Y:=Y) t
 cases t with
 |agg l=>exact(Lf l).bind λl'=>.ret rfl
 |ip cs=>exact .ret rfl
 |fn f cap=>
  refine Sim.ite (λh=>?_) λ_=>.fail;show Sim _ (if(erL cap).all Df then .ret (.fn f (erL cap))else .fail) er;rw[oIP (Bj h)];exact .ret rfl
 |d t y=>cases t with
  |row o t=>cases o<;>exact key
  |nilr o=>cases o<;>exact key
  |_=>exact key
 |_=>exact key
theorem IM:∀l:List Opd,Sim (Y:=Y) (X.seeAs dH l) (seeAs l) erL:=by
 intro l
 induction l with
 |nil=>exact .ret rfl
 |cons x r ih=>exact dN λt=>(Lg t).bind λt'=>ih.bind λl=>.ret rfl
theorem Gy{l:List (XV den)}(h:l.all X.flatX=true):(erL l).all Em=true:=by
 rw[kI,List.all_map,List.all_eq_true];intro x hx;have:=List.all_eq_true.1 h x hx
 cases x with
 |d t y=>cases t<;>first|rfl|simp[X.flatX]at this
 |k y=>exact this
 |_=>simp[X.flatX]at this
theorem Ja{F:fQ}(dst:Option Nat)(f:FuncId)(vals:List (XV den))(u:HL den []):∀(TB:List Ctr),(∀c∈TB,vk F c)->Sim (Y:=Y) (X.callB dH dst f vals u TB) (callB F dst f (erL vals)) id:=by
 intro TB
 induction TB with
 |nil=>intro _;exact .fail
 |cons c TB ih=>
  intro YT;have ZN:=ih λc' XC=>YT c' (by simp[XC]);unfold X.callB
  cases hsel:(if c.f=f then X.convIn dH c vals [] u else none)with
  |none=>exact ZN
  |some h=>
   by_cases hf:c.f=f
   ·rw[oIP hf]at hsel;obtain⟨e1,e2⟩:=D7 hsel;intro σ k y hk;have ⟨o,ho,hk⟩:=dS (show(c.g h).bind _=some y from hk);rw[yv (λz=>X.onOut dH z λx=>X.afterB dH dst x σ k)]at hk
    cases hx:lV (c.outs.map lvO) o (λi ho=>mw c.outs i ho)with
    |none=>rw[hx]at hk;cases hk
    |some x=>
     rw[hx]at hk;have hk:X.afterB dH dst x σ k=some y:=hk;unfold X.afterB at hk;have hF:=YT c (by simp) h o x ho hx;rw[e1,e2,hf]at hF;have hF:F f (erL vals) []=some (⟨erL x.1,x.2.1⟩,erC x.2.2):=hF;unfold callB;rw[hF];show ∃a σ',(if(erC x.2.2).length=0&&(erL x.1).all Em&&qx x.2.1 (erL x.1).length then _ else _:SP Unit).run (erS σ)=_/\oI σ σ' ((if(erC x.2.2).length=0&&(erL x.1).all Em&&qx x.2.1 (erL x.1).length then _ else _:SP Unit).foot (erS σ))/\_;split at hk
     ·rename_i hc;rw[oIP]
      ·cases dst with
       |none=>exact Sim.ret (a:=()) (f:=id) rfl σ k y hk
       |some d=>exact eO d (Cx x.2.1 x.1) σ k y hk
      ·simp only[oBA,fT];refine⟨⟨?_,Gy hc.2.1⟩,hc.2.2⟩;unfold erC
       simp_all
     ·cases hk
   ·simp_all
theorem HX(zs:List Int):tP (zs.map sF)=some zs:=by
 induction zs with
 |nil=>rfl
 |cons z zs ih=>simp only[List.map_cons,sF,tP]at ih⊢;rw[ih];rfl
theorem xr(dst:Option Nat)(k:Nat)(p:XP den)(vs:List Nat)(m:Nat):Sim (Y:=Y) (X.rowLand dH dst k p vs m) (rowLand dst k (erP p) vs m) id:=by
 cases dst with
 |none=>exact .ret rfl
 |some d=>
  refine Sim.ite (λh=>?_) λh=>?_
  ·show Sim _ (if k=1 then wr d (.tup [])else wr d (.pw (erP p) vs 1 0 m)) id;rw[oIP h];exact eO d rfl
  ·show Sim _ (if k=1 then wr d (.tup [])else wr d (.pw (erP p) vs 1 0 m)) id;rw[oIN h];exact eO d rfl
theorem I5(dst:Option Nat)(k:Nat)(t:XV den):Sim (Y:=Y) (X.evRow dH dst k t) (evRow dst k (er t)) id:=by
 cases t with
 |pk p vs=>
  refine(fM p 1 vs).bind λ_=>?_;obtain⟨r,o,hs⟩:=p
  cases hs with
  |cons h hs=>exact .fail
  |nil=>
   refine Sim.rdC λtv=>?_
   cases tv with
   |d t y=>cases t with
    |row o t=>cases o with
     |false=>exact .fail
     |true=>cases t with
      |int kk=>cases kk with
       |i64=>
        show Sim _ (match tP (List.map sF y)with|some zs=>_|none=>_) id;rw[HX];refine Sim.br λh=>?_;have h:y.length<4611686018427387904:=Nat.le_of_ble_eq_true h;show Sim _ (if y.length<4611686018427387904 then _ else _) id;rw[oIP h];exact Sim.wrC rfl (xr dst k _ vs _)
       |_=>exact .fail
      |_=>exact .fail
    |nilr o=>cases o with
     |false=>exact .fail
     |true=>
      have h:=xr (Y:=Y) dst k ⟨r,o,[]⟩ vs 0;rw[<- tg]at h;exact Sim.wrC (by rw[Gb];rfl) h
    |_=>exact .fail
   |_=>exact .fail
 |d t y=>cases t with
  |row o t=>cases o<;>exact .fail
  |nilr o=>cases o<;>exact .fail
  |_=>exact .fail
 |_=>exact .fail
theorem Hi(dst:Option Nat)(k:Nat)(args:List (Option Nat×Opd)):Sim (Y:=Y) (X.evRowA dH dst k args) (evRowA dst k args) id:=by
 cases args with
 |nil=>exact .fail
 |cons x args=>
  cases args with
  |nil=>exact(sr x.2).bind λt=>I5 dst k t
  |cons y args=>exact .fail
theorem Hj{F:fQ}{TB:List Ctr}(YT:∀c∈TB,vk F c)(E:Env)(u:HL den [])(dst:Option Nat)(op:TOp):Sim (Y:=Y) (X.evCall dH E TB u dst op) (evCall E F dst op) id:=by
 cases op with
 |call k f args=>
  cases f with
  |f f=>
   by_cases hrow:E.row f≠0
   ·have e1:X.evCall (X:=Y) dH E TB u dst (.call k (.f f) args)=X.evRowA dH dst (E.row f) args:=oIP hrow;have e2:evCall E F dst (.call k (.f f) args)=evRowA dst (E.row f) args:=oIP hrow;rw[e1,e2];exact Hi dst _ args
   have e1:X.evCall (X:=Y) dH E TB u dst (.call k (.f f) args)=if k then X.bind (X.argVs dH args) λvals=>(match E.box f with
    |some x=>if vals.length=x.1/\x.2.all X.boxOk=true then X.evBox dH dst x.2 vals else X.fail dH
    |none=>X.callV dH TB u dst f (args.map (·.1)) vals)else X.bind (X.seeAs dH (args.map (·.2))) λvals=>X.callB dH dst f vals u TB:=oIN hrow
   have e2:evCall E F dst (.call k (.f f) args)=if k then(argVs args).bind λvals=>(match E.box f with
    |some x=>if vals.length=x.1 then evBox dst x.2 vals else .fail
    |none=>callV F dst f (args.map (·.1)) vals)else(seeAs (args.map (·.2))).bind λvals=>callB F dst f vals:=oIN hrow
   rw[e1,e2]
   cases k with
   |false=>exact(IM _).bind λvals=>Ja dst f vals u TB YT
   |true=>
   refine(Cu _).bind λvals=>?_
   cases hb:E.box f with
   |none=>exact Ct YT u dst f _ vals
   |some x=>
    refine Sim.ite (λh=>?_) λ_=>.fail;show Sim _ (if(erL vals).length=x.1 then evBox dst x.2 (erL vals)else .fail) id;rw[oIP (by rw[fT];exact h.1)];exact I6 dst x.2 vals h.2
  |t i=>
   refine Sim.rdT λt=>?_
   cases t with
   |fn f caps=>
    refine(Cu _).bind λvals=>?_;have:=Ct (Y:=Y) YT u dst f (args.map (·.1)++KI E f args.length caps.length) (vals++caps);rw[rB]at this;show Sim _ (callV F dst f (args.map (·.1)++KI E f args.length (erL caps).length) (erL vals++erL caps)) id;rw[fT];exact this
   |d t y=>cases t with
    |row o t=>cases o<;>exact .fail
    |nilr o=>cases o<;>exact .fail
    |_=>exact .fail
   |_=>exact .fail
  |c x=>exact .fail
 |_=>exact .fail
theorem IV{F:fQ}{C:X.Cfg}(YT:∀c∈C.TB,vk F c)(u:HL den [])(dst:Option Nat)(op:TOp):Sim (Y:=Y) (X.evop dH C u dst op) (evop (evCall C.E F) dst op) id:=by
 have key:∀d,Sim (Y:=Y) (X.ev1 dH C.HT d op) (ev1 d op) id:=λd=>OW C.HT d op;have kc:=Hj (Y:=Y) YT C.E u dst op
 cases op with
 |call k f args=>exact kc
 |store n mv a x=>cases dst with
  |none=>exact key 0
  |some d=>exact .fail
 |_=>cases dst with
  |none=>exact .fail
  |some d=>exact key d
theorem xq(dst:Option Nat):Sim (Y:=Y) (X.setNo dH dst) (setNo dst) id:=by
 cases dst with
 |none=>exact .ret rfl
 |some d=>exact uD d (.tup [])
theorem Gn{σ:XS den}{j:Nat}{b:Bool}(h:X.tOf σ j=.d .bool b):erS (X.known dH j b σ)=erS σ:=by
 have h1:ew σ.tm j=some (.d .bool b):=by
  unfold X.tOf at h
  cases hg:ew σ.tm j with
  |none=>simp_all
  |some t=>simp_all
 have:=uu h1;show(⟨(fF σ.tm j (.d .bool b)).map _,erC σ.ce,σ.vr⟩:St)=_;rw[this];rfl
theorem FY{F:fQ}{C:X.Cfg}(YT:∀c∈C.TB,vk F c)(u:HL den [])(o:ja):Sim (Y:=Y) (X.spOp dH C u o) (spOp (evCall C.E F) o) id:=by
 unfold X.spOp spOp
 cases hg:o.guard with
 |none=>exact IV YT u o.dst o.op
 |some g=>
  obtain⟨j,want⟩:=g;intro σ k y hk
  cases ht:X.tOf σ j with
  |d t b=>cases t with
   |bool=>
    have hk:(bif b then((if want then X.evop dH C u o.dst o.op else X.setNo dH o.dst) (X.known dH j true (X.lgR (.t j) σ)) k)else((if want then X.setNo dH o.dst else X.evop dH C u o.dst o.op) (X.known dH j false (X.lgR (.t j) σ)) k))=some y:=by
     have hk:X.guardX dH j want (X.evop dH C u o.dst o.op) (X.setNo dH o.dst) (X.tOf σ j) (X.lgR (.t j) σ) k=some y:=hk;rw[ht]at hk;exact hk
    have key:∀(m:XM den Option Y Unit)(s:SP Unit),Sim m s id->m (X.known dH j b (X.lgR (.t j) σ)) k=some y->∃a σ',s.run (erS σ)=some (id a,erS σ')/\oI σ σ' (.t j::(s.foot (erS σ)).1,(s.foot (erS σ)).2)/\k a σ'=some y:=by
     intro m s hm h;have e:erS (X.known dH j b (X.lgR (.t j) σ))=erS σ:=Gn (σ:=X.lgR (.t j) σ) ht;obtain⟨a,σ',r1,n1,k1⟩:=hm _ k y h;rw[e]at r1 n1;refine⟨a,σ',r1,⟨λx hx=>?_,λx hx=>n1.w x hx,λx hx=>n1.r0 x (by simp[X.known,X.lgR,hx]),λx hx=>n1.w0 x (by simpa[X.known,X.lgR]using hx)⟩,k1⟩;rcases List.mem_cons.1 hx with h|h
     ·exact n1.r0 x (by simp[X.known,X.lgR,h])
     ·exact n1.r x h
    have hst:(erS σ).t j=.v (.bool b):=by rw[Mo,ht];rfl
    have res:∀(s:SP Unit),(if b=want then evop (evCall C.E F) o.dst o.op else setNo o.dst)=s->(∃a σ',s.run (erS σ)=some (id a,erS σ')/\oI σ σ' (.t j::(s.foot (erS σ)).1,(s.foot (erS σ)).2)/\k a σ'=some y)->∃a σ',(SP.rdT j λt=>match t with|.v (.bool b)=>if b=want then evop (evCall C.E F) o.dst o.op else setNo o.dst|.tup []=>setNo o.dst|_=>.fail).run (erS σ)=some (id a,erS σ')/\oI σ σ' ((SP.rdT j λt=>match t with|.v (.bool b)=>if b=want then evop (evCall C.E F) o.dst o.op else setNo o.dst|.tup []=>setNo o.dst|_=>.fail).foot (erS σ))/\k a σ'=some y:=by
     rintro s hs ⟨a,σ',r1,n1,k1⟩;refine⟨a,σ',?_,?_,k1⟩
     ·simp only[SP.run,hst,hs];exact r1
     ·simp only[SP.foot,hst,hs];exact n1
    cases b with
    |true=>
     cases want with
     |true=>exact res _ (oIP rfl) (key _ _ (IV YT u o.dst o.op) hk)
     |false=>exact res _ (oIN (by simp)) (key _ _ (xq o.dst) hk)
    |false=>
     cases want with
     |true=>exact res _ (oIN (by simp)) (key _ _ (xq o.dst) hk)
     |false=>exact res _ (oIP rfl) (key _ _ (IV YT u o.dst o.op) hk)
   |_=>
    have hk:X.guardX dH j want (X.evop dH C u o.dst o.op) (X.setNo dH o.dst) (X.tOf σ j) (X.lgR (.t j) σ) k=some y:=hk;rw[ht]at hk;cases hk
  |tup l=>
   have hk:X.guardX dH j want (X.evop dH C u o.dst o.op) (X.setNo dH o.dst) (X.tOf σ j) (X.lgR (.t j) σ) k=some y:=hk;rw[ht]at hk
   cases l with
   |cons=>cases hk
   |nil=>
    have hst:(erS σ).t j=.tup []:=by rw[Mo,ht];rfl
    obtain⟨a,σ',r1,n1,k1⟩:=xq o.dst (X.lgR (.t j) σ) k y hk;refine⟨a,σ',?_,?_,k1⟩
    ·simp only[SP.run,hst];exact r1
    ·simp only[SP.foot,hst];refine⟨λx hx=>?_,n1.w,λx hx=>n1.r0 x (by simp[X.lgR,hx]),λx hx=>n1.w0 x hx⟩;rcases List.mem_cons.1 hx with h|h
     ·exact n1.r0 x (by simp[X.lgR,h])
     ·exact n1.r x h
  |_=>
   have hk:X.guardX dH j want (X.evop dH C u o.dst o.op) (X.setNo dH o.dst) (X.tOf σ j) (X.lgR (.t j) σ) k=some y:=hk;rw[ht]at hk;cases hk
end
section
variable {α β γ δ Y:Type}
theorem La{F:fQ}{C:X.Cfg}(YT:∀c∈C.TB,vk F c)(u:HL den []):∀(ops:List ja){σ:XS den}{k:Unit->XS den->Option Y}{y:Y},X.spOps dH C u ops σ k=some y->∃ σ',te (evCall C.E F) ops (erS σ)=some (erS σ')/\k () σ'=some y:=by
 intro ops
 induction ops with
 |nil=>intro σ k y h;exact⟨σ,rfl,h⟩
 |cons o ops ih=>
  intro σ k y h;have ⟨a,σ1,r1,_,h1⟩:=FY YT u o σ _ y h;have ⟨σ',r2,h2⟩:=ih h1;refine⟨σ',?_,h2⟩;simp[te];rw[FW r1];exact r2
def Gw(f g:rH):Prop:=(∀x∈f.1,x∈g.1)/\∀x∈f.2,x∈g.2
inductive OS:List (Nat×rH)->List (Nat×rH)->Prop
 |nil:OS [] []
 |cons {i:Nat} {f g:rH} {l r:List (Nat×rH)} (h:Gw f g) (t:OS l r):OS ((i,f)::l) ((i,g)::r)
theorem tB{a a' b b':List Loc}(ha:∀x∈a,x∈a')(hb:∀x∈b,x∈b')(h:HN a' b'=false):HN a b=false:=by
 unfold HN at h⊢
 simp_all
theorem Ik{f f' g g':rH}(h1:Gw f f')(h2:Gw g g')(h:pj f' g'=false):pj f g=false:=by
 unfold pj at h⊢;simp at h⊢;have ⟨⟨⟨a,b⟩,c⟩,d⟩:=h;exact⟨⟨⟨tB h1.2 h2.1 a,tB h1.2 h2.2 b⟩,tB h2.2 h1.1 c⟩,tB h2.2 h1.2 d⟩
theorem JO{deps:List (List Nat)}{j:Nat}{f f':rH}(hf:Gw f f'){l r:List (Nat×rH)}(h:OS l r):(r.all λy=>!pj f' y.2||(deps.getD y.1 []).contains j)=true->(l.all λy=>!pj f y.2||(deps.getD y.1 []).contains j)=true:=by
 induction h with
 |nil=>exact id
 |cons h t ih=>
  intro hr;simp only[List.all_cons,oBA]at hr⊢;refine⟨?_,ih hr.2⟩;simp at hr⊢;rcases hr.1 with h3|h3
  ·exact .inl (Ik hf h h3)
  ·simp_all
theorem CI{deps:List (List Nat)}{l r:List (Nat×rH)}(h:OS l r):i9 deps r=true->i9 deps l=true:=by
 induction h with
 |nil=>exact id
 |cons h t ih=>
  intro hr;simp only[i9,oBA]at hr⊢;exact⟨JO h t hr.1,ih hr.2⟩
theorem Nm{F:fQ}{C:X.Cfg}(YT:∀c∈C.TB,vk F c)(u:HL den [])(ops:List ja):∀(L:List Nat){σ:XS den}{k:List (Nat×rH)->XS den->Option Y}{y:Y},X.spFL dH C u ops L σ k=some y ->
 ∃fs gs σ',rI (λi=>spOp (evCall C.E F) (ops.getD i El)) L (erS σ)=some (fs,erS σ')/\OS fs gs/\k gs σ'=some y:=by
 intro L
 induction L with
 |nil=>intro σ k y h;exact⟨[],[],σ,rfl,.nil,h⟩
 |cons i L ih=>
  intro σ k y h;have ⟨a,σ1,r1,n1,h1⟩:=FY YT u _ _ _ y h;have r1:(spOp (evCall C.E F) (ops.getD i El)).run (erS σ)=some (a,erS σ1):=r1;have ⟨fs,gs,σ',r2,le,h2⟩:=ih h1;refine⟨(i,(spOp (evCall C.E F) (ops.getD i El)).foot (erS σ))::fs,(i,σ1.lg)::gs,σ',?_,.cons ⟨n1.r,n1.w⟩ le,h2⟩;simp[rI]
  simp_all
theorem uM(L:List Nat)(σ:XS den){t:XV den}(h:X.okN0 t=true):er (X.renorm0 L σ t)=renorm0 L (erS σ) (er t):=by
 cases t with
 |d t x=>cases t with
  |row o t=>cases o<;>first|rfl|simp[X.okN0]at h
  |nilr o=>cases o<;>rfl
  |nat=>simp[X.okN0]at h
  |pair a b=>simp[X.okN0]at h
  |_=>rfl
 |ptr p vs=>
  show er (if _ then _ else _)=(if _ then _ else _);by_cases hc:(L.contains p.root&&vs==jy (so σ.vr) p.root p.off p.hops.length)=true
  ·rw[oIP hc,oIP (by exact hc)];rfl
  ·rw[oIN hc,oIN (by exact hc)];rfl
 |pk p vs=>
  show er (if _ then _ else _)=(if _ then _ else _);by_cases hc:(L.contains p.root&&vs==jy (so σ.vr) p.root p.off (p.hops.length+1))=true
  ·rw[oIP hc,oIP (by exact hc)];rfl
  ·rw[oIN hc,oIN (by exact hc)];rfl
 |pw p vs sz lo n=>
  show er (if _ then _ else _)=(if _ then _ else _);by_cases hc:(L.contains p.root&&vs==jy (so σ.vr) p.root p.off (p.hops.length+1))=true
  ·rw[oIP hc,oIP (by exact hc)];rfl
  ·rw[oIN hc,oIN (by exact hc)];rfl
 |tup l=>cases l<;>rfl
 |gap=>simp[X.okN0]at h
 |_=>rfl
theorem Jw(L:List Nat)(σ:XS den){t:XV den}(h:X.okN t=true):er (X.renorm L σ t)=renorm L (erS σ) (er t):=by
 have key:X.okN0 t=true->er (X.renorm0 L σ t)=renorm0 L (erS σ) (er t):=λh=>uM L σ h
 cases t with
 |agg l=>
  simp only[X.renorm,er,renorm,kI,List.map_map];congr 1;refine List.map_congr_left λx hx=>uM L σ (List.all_eq_true.1 h x hx)
 |fn f l=>
  simp only[X.renorm,er,renorm,kI,List.map_map];congr 1;refine List.map_congr_left λx hx=>uM L σ (List.all_eq_true.1 h x hx)
 |d t x=>
  have:=key h
  cases t with
  |row o t=>cases o<;>exact this
  |nilr o=>cases o<;>exact this
  |_=>exact this
 |_=>exact key h
theorem MF{α:Type}{P:α->Bool}:∀{l:List (Nat×α)}{i:Nat}{t:α},(l.all λx=>P x.2)=true->ew l i=some t->P t=true:=by
 intro l
 induction l with
 |nil=>intro i t _ h;simp[ew]at h
 |cons x l ih=>
  intro i t ha h;simp only[List.all_cons,oBA]at ha;simp[ew]at h;split at h
  ·simp_all
  ·exact ih ha.2 h
theorem LS(L:List Nat)(σ:XS den)(hok:X.okS σ=true):∀l:List Nat,(X.normT L σ l).map (λx=>(x.1,er x.2))=normT L (erS σ) l:=by
 intro l
 induction l with
 |nil=>rfl
 |cons i l ih=>
  simp[X.normT,normT];have e:ew (erS σ).tm i=(ew σ.tm i).map er:=xd _ _ _;rw[e]
  cases h:ew σ.tm i with
  |none=>exact ih
  |some t=>
   have ht:=MF hok h;simp only[oMS,List.map_cons];rw[Jw L σ ht,ih]
theorem LT(σ:XS den):∀l:List Nat,erC (X.normC σ l)=normC (erS σ) l:=by
 intro l
 induction l with
 |nil=>rfl
 |cons r l ih=>
  simp[X.normC,normC];rw[Am]
  cases h:ew σ.ce r with
  |none=>exact ih
  |some c=>
   simp;show(r,erL c)::erC _=_;rw[ih]
theorem AQ{σ:XS den}(hok:X.okS σ=true)(pers:Prs):erS (X.norm σ pers)=(erS σ).norm pers:=by
 unfold X.norm St.norm;show(⟨(X.normT pers.2 σ pers.1).map _,erC (X.normC σ pers.2),[]⟩:St)=_;rw[LS _ σ hok,LT]
theorem FI{σ:XS den}(hok:X.okS σ=true):erS (X.anew σ)=(erS σ).anew:=by
 unfold X.anew St.anew;rw[AQ hok];congr 1;congr 1
 ·show _=(σ.tm.map λx=>(x.1,er x.2)).map (·.1)
  simp_all
 ·show _=(erC σ.ce).map (·.1);unfold erC
  simp_all
theorem Le(x:Nat×Option Nat):Sim (Y:=Y) (X.shr1 dH x) (shr1 x) id:=by
 obtain⟨i,off⟩:=x;refine Sim.rdT λt=>?_
 cases off with
 |none=>cases t with
  |pk p vs=>
   refine(gj false (.pk p vs)).bind λt'=>Sim.opt λt2 h2=>?_;rw[<- xU h2];exact uD i t2
  |d t y=>cases t with
   |row o t=>cases o<;>exact .ret rfl
   |nilr o=>cases o<;>exact .ret rfl
   |_=>exact .ret rfl
  |agg l=>exact Sim.ite (λ_=>.fail) λ_=>.ret rfl
  |_=>exact .fail
 |some off=>cases t with
  |ptr p vs=>
   refine(fM p _ vs).bind λ_=>Sim.ite (λh=>?_) λ_=>.fail;rw[oIP (by rw[<- BY];exact h),<- Fr];refine(kz _).bind λt=>Sim.ite (λho=>?_) λho=>?_
   ·obtain⟨c,hc⟩:=mu ho;have Uf:=kv (Y:=Y) (X.addP p off) t;rw[hc]at Uf;rw[hc];exact Uf.bind λt'=>(gj false t').bind λ_=>.ret rfl
   ·cases t with
    |d t y=>
     cases t with
     |row o t=>cases o<;>first|exact .ret rfl|simp[X.isOwX,X.isOwT]at ho
     |nilr o=>cases o<;>first|exact .ret rfl|simp[X.isOwX,X.isOwT]at ho
     |_=>exact .ret rfl
    |_=>exact .fail
  |d t y=>cases t with
   |row o t=>cases o<;>exact .fail
   |nilr o=>cases o<;>exact .fail
   |_=>exact .fail
  |_=>exact .fail
theorem FZ:∀l:List (Nat×Option Nat),Sim (Y:=Y) (X.shrs dH l) (shrs l) id:=by
 intro l
 induction l with
 |nil=>exact .ret rfl
 |cons x l ih=>exact(Le x).bind λ_=>ih
theorem IR(r:Nat):∀n o:Nat,Sim (Y:=Y) (X.rdImmM dH r n o) (Hs r n o) erL:=by
 intro n
 induction n with
 |zero=>intro o;exact .ret rfl
 |succ n ih=>
  intro o;refine Sim.rdC λt=>Sim.ite (λh=>?_) λh=>.fail;rw[oIP (Bi h)];exact(ih (o+1)).bind λl=>.ret rfl
theorem Ny(i n:Nat):Sim (Y:=Y) (X.frzM dH i n) (PY i n) id:=by
 refine Sim.rdT λt=>?_
 cases t with
 |ptr p vs=>
  refine Sim.ite (λh=>?_) λh=>.fail;show Sim _ (if(erP p).root=2*i+2/\(erP p).off=0/\(erP p).hops=[]then _ else _) id;rw[oIP (by unfold erP;exact h)];refine(fM p 0 vs).bind λ_=>(IR _ n 0).bind λl=>?_;exact Sim.new rfl (uD i (.ip l))
 |_=>exact .fail
theorem NO{i:Nat}{σ:XS den}{u:HL den []}:∀{L:List Ei}{H:Ei}{h:HL den (lvS H.s)},X.selH dH i σ u L=some ⟨H,h⟩->X.convS dH H.s σ u=some h:=by
 intro L
 induction L with
 |nil=>intro H h hs;cases hs
 |cons H0 L ih=>
  intro H h hs;unfold X.selH at hs
  grind
theorem An{Z:Type}{outs:List (kQ×Shs)}{i:Nat}{h:HL den (AP (outs.map λx=>lvS x.2) i)}{o:Aw (outs.map λx=>lvS x.2)}{x:kQ×XS den}(K:kQ×XS den->Option Z)(hm:uR (outs.map λx=>lvS x.2) i h=some o)(hf:vJ outs i h=some x):(lV (outs.map λx=>lvS x.2) o λj ho=>X.onOut dH (vJ outs j ho) K)=K x:=by
 rw[Ao _ hm,hf];rfl
theorem Lh{F:fQ}{C:X.Cfg}(YT:∀c∈C.TB,vk F c)(u:HL den []){N:Nat}(hN:NN<=N):∀(tc:jb)(i:Nat){Y:Type}(σ:XS den)(k:kQ->XS den->Option Y)(y:Y),X.runC dH C u tc i σ k=some y->∃e σ',runC (evCall C.E F) N tc (erS σ)=some (e,erS σ')/\k e σ'=some y:=by
 intro tc
 induction tc with
 |skip=>intro i Y σ k y h;exact⟨.normal,σ,rfl,h⟩
 |frz j n a ih=>
  intro i Y σ k y h
  have h:X.frzM dH j n σ (λ_ σ'=>if X.okS σ' then X.runC dH C u a i (X.anew σ') k else none)=some y:=by
   unfold X.runC at h;exact h
  obtain⟨_,σ1,r1,_,h1⟩:=Ny j n σ _ y h;split at h1
  ·rename_i hok;obtain⟨e,σ2,r2,h2⟩:=ih _ _ k y h1;refine⟨e,σ2,?_,h2⟩;simp only[runC];rw[r1];simp only[oBS];rw[<- FI hok];exact r2
  ·cases h1
 |nrm pers=>
  intro i Y σ k y h;have h:(if X.okS σ then k .normal (X.norm σ pers)else none)=some y:=h;split at h
  ·rename_i hok;exact⟨.normal,X.norm σ pers,by rw[AQ hok];rfl,h⟩
  ·cases h
 |reg id draw ops pers=>
  intro i Y σ k y h
  cases draw with
  |none=>
   have h:X.spOps dH C u ops σ (λ_ σ'=>if X.okS σ' then k .normal (X.norm σ' pers)else none)=some y:=h;obtain⟨σ1,r1,h1⟩:=La YT u ops h;split at h1
   ·rename_i hok;refine⟨.normal,X.norm σ1 pers,?_,h1⟩;simp only[runC];rw[r1,AQ hok];rfl
   ·cases h1
  |some deps=>
   have h:X.spFL dH C u ops (List.range ops.length) σ (λfs σ'=>if tw deps fs&&X.okS σ' then k .normal (X.norm σ' pers)else none)=some y:=h;obtain⟨fs,gs,σ1,r1,le,h1⟩:=Nm YT u ops _ h;split at h1
   ·rename_i hok;simp only[oBA]at hok;rw[EJ]at hok;refine⟨.normal,X.norm σ1 pers,?_,h1⟩;simp only[runC];rw[r1,AQ hok.2];simp only[oBS];rw[oIP (CI le hok.1)]
   ·cases h1
 |seq a b Y' Y4=>
  intro i Y σ k y h
  have ZV:∀(e:kQ)(σ1:XS den),runC (evCall C.E F) N a (erS σ)=some (e,erS σ1)->(match e with|.normal=>X.runC dH C u b (i+1+X.marks a) σ1 k|e=>k e σ1)=some y->∃e σ',runC (evCall C.E F) N (.seq a b) (erS σ)=some (e,erS σ')/\k e σ'=some y:=by
   intro e σ1 r1 h1;simp only[runC];rw[r1];simp only[oBS]
   cases e with
   |normal=>exact Y4 _ σ1 k y h1
   |exit j=>exact⟨_,σ1,rfl,h1⟩
   |ret=>exact⟨_,σ1,rfl,h1⟩
  unfold X.runC at h
  cases hs:X.selJ i C.HL with
  |none=>
   rw[hs]at h;obtain⟨e,σ1,r1,h1⟩:=Y' _ σ _ y h;exact ZV e σ1 r1 h1
  |some H=>
   rw[hs]at h;obtain⟨o,h1,h2⟩:=dS (show(X.runC dH C u a (i+1) σ _:Option _).bind _=some y from h);obtain⟨e,σ1,r1,h3⟩:=Y' _ σ _ o h1
   cases hi:X.injE dH e σ1 u H.outs with
   |none=>rw[hi]at h3;cases h3
   |some x=>
    rw[hi]at h3;obtain⟨j,ho⟩:=x;have h3:uR (H.outs.map λx=>lvS x.2) j ho=some o:=h3;obtain⟨x,hf,he,hσ⟩:=Kh hi;rw[An _ h3 hf]at h2;rw[<- hσ]at r1;rw[<- he]at r1;exact ZV x.1 x.2 r1 h2
 |cond c a b Y' Y4=>
  intro i Y σ k y h
  have h:X.opd dH c σ (λt _=>X.condX dH (X.runC dH C u a i (X.knownO dH c true σ) k) (X.runC dH C u b (i+X.marks a) (X.knownO dH c false σ) k) t)=some y:=by
   unfold X.runC at h;exact h
  obtain⟨t,σ1,r1,e1,_,h1⟩:=wV h
  cases t with
  |d t x=>cases t with
   |bool=>
    have Rf:erS (X.knownO dH c x σ)=erS σ:=by
     cases c with
     |t j=>
      have hj:X.tOf σ j=.d .bool x:=by
       have h9:X.condX dH (X.runC dH C u a i (X.knownO dH (.t j) true σ) k) (X.runC dH C u b (i+X.marks a) (X.knownO dH (.t j) false σ) k) (X.tOf σ j)=some y:=h;have r1:(some ((erS σ).t j,erS σ):Option (TV×St))=some (er (.d .bool x),erS σ):=r1
       injection r1 with r1
       injection r1 with r1 _
       rw[Mo]at r1
       cases ht:X.tOf σ j with
       |d t2 z=>cases t2 with
        |bool=>rw[ht]at r1;injection r1 with r1;injection r1 with r1;rw[show z=x from r1]
        |_=>rw[ht]at h9;cases h9
       |_=>rw[ht]at h9;cases h9
      exact Gn hj
     |_=>rfl
    have r1:(opd c).run (erS σ)=some (.v (.bool x),erS σ):=r1;simp only[runC];rw[r1];simp only[oBS]
    cases x with
    |true=>
     rw[<- Rf];exact Y' _ _ k y h1
    |false=>
     rw[<- Rf];exact Y4 _ _ k y h1
   |_=>cases h1
  |_=>cases h1
 |sc b ih=>
  intro i Y σ k y h;unfold X.runC at h;exact ih i σ k y h
 |block id b ih=>
  intro i Y σ k y h;unfold X.runC at h;obtain⟨e,σ1,r1,h1⟩:=ih _ σ _ y h;simp only[runC];rw[r1];simp only[oBS]
  cases e with
  |normal=>exact⟨_,σ1,rfl,h1⟩
  |ret=>exact⟨_,σ1,rfl,h1⟩
  |exit j=>
   dsimp only at h1;by_cases hj:j=id
   ·rw[oIP hj]at h1;exact⟨.normal,σ1,by dsimp only;rw[oIP hj],h1⟩
   ·rw[oIN hj]at h1;exact⟨.exit j,σ1,by dsimp only;rw[oIN hj],h1⟩
 |loop b ih=>
  intro i Y σ k y h;unfold X.runC at h
  cases hs:X.selH dH i σ u C.HL with
  |none=>rw[hs]at h;cases h
  |some x=>
   obtain⟨H,h0⟩:=x;rw[hs]at h;have SV:=B5 (NO hs);obtain⟨o,h1,h2⟩:=dS (show(dX _ NN h0).bind _=some y from h)
   have key:∀(n:Nat)(hd:HL den (lvS H.s))(o:Aw (H.outs.map λx=>lvS x.2)),dX (λh=>X.runC dH C u b (i+1) (Fp H.s h) (X.roundK dH H u)) n hd=some o->∀N',n<=N'->∃x j ho,Od (runC (evCall C.E F) N b) N' (erS (Fp H.s hd))=some (x.1,erS x.2)/\uR (H.outs.map λx=>lvS x.2) j ho=some o/\vJ H.outs j ho=some x:=by
    intro n
    induction n with
    |zero=>intro hd o h;cases h
    |succ n ihn=>
     intro hd o h N' Ym;obtain⟨N',rfl⟩:∃N'',N'=N''+1:=⟨N'-1,by omega⟩;obtain⟨z,hz,Xc⟩:=dS (show(X.runC dH C u b (i+1) (Fp H.s hd) _:Option _).bind _=some o from h);obtain⟨e,σ1,r1,h3⟩:=ih _ _ _ z hz;simp only[Od];rw[r1];simp only[oBS]
     have Za:∀e':kQ,(∀s:Option (HL den (lvS H.s)⊕Aw (H.outs.map λx=>lvS x.2)),s=some z->s=X.onOut dH (X.injE dH e' σ1 u H.outs) (λx=>dH.exitL (lvS H.s) (H.outs.map λx=>lvS x.2) x.1 x.2)->∃x j ho,(some (e',erS σ1):Option (kQ×St))=some (x.1,erS x.2)/\uR (H.outs.map λx=>lvS x.2) j ho=some o/\vJ H.outs j ho=some x):=by
      intro e' s hs1 Y8;rw[hs1]at Y8
      cases hi:X.injE dH e' σ1 u H.outs with
      |none=>rw[hi]at Y8;cases Y8
      |some x=>
       rw[hi]at Y8;obtain⟨j,ho⟩:=x;obtain⟨t,XY,Y9⟩:=ia (show(uR (H.outs.map λx=>lvS x.2) j ho).map Sum.inr=some z from Y8.symm);subst Y9;obtain⟨x,hf,he,hσ⟩:=Kh hi;refine⟨x,j,ho,by rw[he,hσ],?_,hf⟩;have:some t=some o:=Xc;rw[<- this];exact XY
     cases e with
     |normal=>
      have h3:X.onOut dH (X.convS dH H.s σ1 u) (dH.next (lvS H.s) (H.outs.map λx=>lvS x.2))=some z:=h3
      cases hc:X.convS dH H.s σ1 u with
      |none=>rw[hc]at h3;cases h3
      |some h'=>
       rw[hc]at h3;have h3:some (Sum.inl h')=some z:=h3
       injection h3 with h3
       subst h3;rw[<- B5 hc];exact ihn h' o Xc N' (by omega)
     |exit j=>exact Za (.exit j) _ h3 rfl
     |ret=>exact Za .ret _ h3 rfl
   obtain⟨x,j,ho,r1,hm,hf⟩:=key NN h0 o h1 N hN;rw[An _ hm hf]at h2;refine⟨x.1,x.2,?_,h2⟩;simp only[runC];rw[<- SV];exact r1
 |exit id=>intro i Y σ k y h;exact⟨.exit id,σ,rfl,h⟩
 |ret=>intro i Y σ k y h;exact⟨.ret,σ,rfl,h⟩
 |pre l a ih=>
  intro i Y σ k y h
  have h:X.shrs dH l σ (λ_ σ'=>if X.okS σ' then X.runC dH C u a i (X.anew σ') k else none)=some y:=by
   unfold X.runC at h;exact h
  obtain⟨_,σ1,r1,_,h1⟩:=FZ l σ _ y h;split at h1
  ·rename_i hok;obtain⟨e,σ2,r2,h2⟩:=ih _ _ k y h1;refine⟨e,σ2,?_,h2⟩;simp only[runC];rw[r1];simp only[oBS];rw[<- FI hok];exact r2
  ·cases h1
 |post a l ih=>
  intro i Y σ k y h
  have h:X.runC dH C u a i σ (λe σ'=>X.shrs dH l σ' λ_ σ2=>if X.okS σ2 then k e (X.anew σ2)else none)=some y:=by
   unfold X.runC at h;exact h
  obtain⟨e,σ1,r1,h1⟩:=ih _ _ _ y h;obtain⟨_,σ2,r2,_,h2⟩:=FZ l σ1 _ y h1;split at h2
  ·rename_i hok;refine⟨e,X.anew σ2,?_,h2⟩;simp only[runC];rw[r1];simp only[oBS];rw[r2];simp only[oBS];rw[FI hok]
  ·cases h2
end
section
variable {α β γ δ Y:Type}
theorem zW(np:Nat)(t:XV den):Sim (Y:=Y) (X.takeR1 dH np t) (takeR1 np (er t)) er:=by
 have key:Sim (Y:=Y) (X.take1 dH true t) (take1 true (er t)) er:=gj true t
 cases t with
 |pk p vs=>exact gj _ (.pk p vs)
 |d t y=>cases t with
  |row o t=>cases o<;>exact key
  |nilr o=>cases o<;>exact key
  |_=>exact key
 |_=>exact key
theorem He(np:Nat):∀l:List (XV den),Sim (Y:=Y) (X.takeRL dH np l) (takeRL np (erL l)) erL:=by
 intro l
 induction l with
 |nil=>exact .ret rfl
 |cons t l ih=>exact(zW np t).bind λt'=>ih.bind λr'=>.ret rfl
theorem uE(np:Nat)(t:XV den):Sim (Y:=Y) (X.takeRV dH np t) (takeRV np (er t)) λx=>(erL x.1,x.2):=by
 have one:∀t:XV den,Sim (Y:=Y) (X.bind (X.takeR1 dH np t) λt'=>X.ret ([t'],RSh.one)) ((takeR1 np (er t)).bind λt'=>.ret ([t'],.one)) λx=>(erL x.1,x.2):=λt=>(zW np t).bind λt'=>.ret rfl;have key:=one t
 cases t with
 |agg l=>exact(He np l).bind λl'=>.ret (by simp[fT])
 |d t y=>cases t with
  |row o t=>cases o<;>exact key
  |nilr o=>cases o<;>exact key
  |_=>exact key
 |_=>exact key
theorem Ll(np:Nat)(q:TRs):Sim (Y:=Y) (X.res1 dH np q) (res1 np q) λx=>(erL x.1,x.2):=by
 cases q with
 |tmp t=>exact Sim.rdT λtv=>uE np tv
 |cell t n=>
  refine Sim.rdT λtv=>?_
  cases tv with
  |ptr p vs=>
   refine(fM p _ vs).bind λ_=>?_
   cases n with
   |none=>exact(kz p).bind λt=>(kv p t).bind λt'=>uE np t'
   |some n=>exact(Cq p n).bind λl=>uE np (.agg l)
  |d t y=>cases t with
   |row o t=>cases o<;>exact .fail
   |nilr o=>cases o<;>exact .fail
   |_=>exact .fail
  |_=>exact .fail
theorem Li(np:Nat):∀l:List TRs,Sim (Y:=Y) (X.resL dH np l) (resL np l) λx=>(erL x.1,x.2):=by
 intro l
 induction l with
 |nil=>exact .ret rfl
 |cons q l ih=>exact(Ll np q).bind λx=>ih.bind λy=>.ret (by simp[rB])
theorem JP(l:List (XV den)):onesOf (erL l)=X.onesOf l:=by
 induction l with
 |nil=>rfl
 |cons t l ih=>simp[erL,onesOf,X.onesOf,ih]
theorem Hh:∀l:List TRs,Sim (Y:=Y) (X.flatsR dH l) (flatsR l) erL:=by
 intro l
 induction l with
 |nil=>exact .ret rfl
 |cons q l ih=>cases q with
  |cell t n=>exact .fail
  |tmp t=>
   refine Sim.rdT λtv=>Sim.ite (λhc=>?_) λ_=>.fail
   have h1:Em (er tv)=true:=by
    have:=Gy (l:=[tv]) (by simp_all);simpa[erL]using this
   rw[oIP h1];exact ih.bind λl=>.ret rfl
theorem Lj(np:Nat)(l:List TRs):Sim (Y:=Y) (X.resF dH np l) (resF np l) λx=>(erL x.1,x.2):=by
 have base:=Li (Y:=Y) np l
 cases l with
 |nil=>exact base
 |cons q r=>cases q with
  |cell t n=>exact base
  |tmp t=>
   refine Sim.rdT λtv=>?_
   cases tv with
   |ptr p vs=>exact(fM p _ vs).bind λ_=>(Hh r).bind λl=>.ret (by simp[JP];rfl)
   |d ty y=>cases ty with
    |row o ty=>cases o<;>exact base
    |nilr o=>cases o<;>exact base
    |_=>exact base
   |_=>exact base
theorem Ka(t:XV den):(∃p vs,t=.ptr p vs)\/(X.isPtrX t=false/\∀p vs,er t≠.ptr p vs):=by
 cases t with
 |ptr p vs=>simp_all
 |d t y=>cases t with
  |row o t=>cases o<;>exact .inr ⟨rfl,by simp[er,er1]⟩
  |nilr o=>cases o<;>exact .inr ⟨rfl,by simp[er,er1]⟩
  |_=>exact .inr ⟨rfl,by simp[er,er1]⟩
 |gap t x i o=>exact .inr ⟨rfl,λp vs h=>by cases h⟩
 |_=>exact .inr ⟨rfl,by simp[er]⟩
theorem L8{t:XV den}(h:X.isShX t=true):∃c,er t=.sl c:=by
 cases t with
 |d t y=>cases t with
  |row o t=>cases o with
   |false=>exact⟨_,rfl⟩
   |true=>cases h
  |nilr o=>cases o with
   |false=>exact⟨_,rfl⟩
   |true=>cases h
  |_=>cases h
 |_=>cases h
theorem Hv{pp:List Nat}:∀{l:List (XV den)}{i:Nat},X.ptrsInX pp i l=true->nL pp i (erL l)=true:=by
 intro l
 induction l with
 |nil=>intro i _;rfl
 |cons t l ih=>
  intro i h;simp only[X.ptrsInX,oBA]at h;have ⟨⟨h0,hs⟩,hr⟩:=h
  rcases Ka t with⟨p,vs,rfl⟩|⟨h1,h2⟩
  ·show(pp.contains i&&nL pp (i+1) (erL l))=true;rw[ih hr,Bool.and_true];simpa[X.isPtrX]using h0
  ·show nL pp i (er t::erL l)=true;rw[h1,Bool.false_or]at hs
   cases hsh:X.isShX t with
   |true=>
    have ⟨c,hc⟩:=L8 hsh;rw[hc];exact ih hr
   |false=>
    rw[hsh,Bool.false_or]at hs
    cases he:er t with
    |ptr p vs=>simp_all
    |sl c=>exact ih hr
    |_=>show(!pp.contains (1000+i)&&nL pp (i+1) (erL l))=true;rw[hs,ih hr];rfl
theorem EK(l:List (XV den)):∀i,(gl i l).map (λx=>(x.1,er x.2))=gl i (erL l):=by
 induction l with
 |nil=>intro i;rfl
 |cons t l ih=>intro i;simp[gl,erL,ih]
theorem N8(vals:List (XV den))(pts:List (Nat×List (XV den))):erS (X.mkSt vals pts)=mkSt (erL vals) (erC pts):=by
 unfold X.mkSt mkSt erS;simp[EK]
theorem LK(σ:XS den)(pts:List (Nat×List (XV den))):erC (X.ptsOf σ pts)=(erC pts).map λx=>(x.1,(ew (erS σ).ce x.1).getD []):=by
 induction pts with
 |nil=>rfl
 |cons x pts ih=>
  show(x.1,erL ((ew σ.ce x.1).getD []))::erC (X.ptsOf σ pts)=(x.1,(ew (erS σ).ce x.1).getD [])::_;rw[ih,Am];cases ew σ.ce x.1<;>rfl
theorem Oo(a b:List (Nat×List (XV den))):erC (a++b)=erC a++erC b:=by unfold erC;rw[List.map_append]
theorem Pn(pp:List Nat):erC (X.kpX (D:=den) pp)=kpE pp:=by
 unfold erC X.kpX kpE;rw[List.map_map];rfl
theorem NS{F:fQ}{C:X.Cfg}(YT:∀c∈C.TB,vk F c)(u:HL den []){N:Nat}(hN:NN<=N){tf:TFn}{outs:List XO}{vals:List (XV den)}{pts:List (Nat×List (XV den))}{o:Aw (outs.map lvO)}(h:X.runT dH C u tf outs vals pts=some o):
 ∃x,lV (outs.map lvO) o (λi ho=>mw outs i ho)=some x/\runT C.E F N tf (erL vals) (erC pts)=some (⟨erL x.1,x.2.1⟩,erC x.2.2):=by
 unfold X.runT at h;split at h
 case isFalse=>cases h
 rename_i hc;obtain⟨e,σ1,r1,h1⟩:=Lh YT u hN tf.body 0 _ _ o h
 have key:X.resF dH tf.np tf.res σ1 (λy σ'=>X.onOut dH (X.injO dH y.1 y.2 (X.ptsOf σ' pts++X.kpX tf.pp) u outs) λx=>dH.out (outs.map lvO) x.1 x.2)=some o ->
  ∃x,lV (outs.map lvO) o (λi ho=>mw outs i ho)=some x/\(((resF tf.np tf.res).run (erS σ1)).bind λy=>some ((⟨y.1.1,y.1.2⟩:It),((erC pts).map λx=>(x.1,(ew y.2.ce x.1).getD []))++kpE tf.pp))=some (⟨erL x.1,x.2.1⟩,erC x.2.2):=by
  intro h2;obtain⟨y,σ2,r2,_,h3⟩:=Lj tf.np tf.res σ1 _ o h2
  cases hi:X.injO dH y.1 y.2 (X.ptsOf σ2 pts++X.kpX tf.pp) u outs with
  |none=>rw[hi]at h3;cases h3
  |some z=>
   rw[hi]at h3;obtain⟨i,ho⟩:=z;obtain⟨x,hf,e1,e2,e3⟩:=Of hi;refine⟨x,?_,?_⟩
   ·rw[Ao _ (show uR (outs.map lvO) i ho=some o from h3)];exact hf
   ·rw[r2];simp only[oBS];rw[e1,e2,e3,Oo,LK,Pn]
 have Z7:(erL vals).length=tf.np/\(nL tf.pp 0 (erL vals)&&(!tf.pp.contains 1000||(erC pts).isEmpty))=true:=by
  have h2:=hc.2;rw[oBA]at h2;refine⟨by rw[fT];exact hc.1,?_⟩;rw[Hv h2.1,Bool.true_and];have h3:=h2.2
  cases pts with
  |nil=>simp[erC]
  |cons x pts=>simpa[erC]using h3
 unfold runT;rw[oIP Z7,<- N8,r1];simp only[oBS]
 cases e with
 |exit j=>cases h1
 |normal=>exact key h1
 |ret=>exact key h1
end
theorem Ms{E:Env}{T:FuncId->Option TFn}{B F:fQ}{N:Nat}(hN:NN<=N){C:X.Cfg}(hE:C.E=E)(YT:∀c∈C.TB,vk F c){c:Ctr}{tf:TFn}(hT:T c.f=some tf)
 (hg:∀h,X.runT dH C () tf c.outs (jg c.ins _ h).1 (tS c.pts [] (jg c.ins _ h).2).1=c.g h):vk (Hb E T B F N) c:=by
 intro h o x ho hx;rw[Ha hT];rw[<- hg h]at ho;have ⟨x',h1,h2⟩:=NS YT () hN ho
 simp_all
def Lvl(E:Env)(T:FuncId->Option TFn)(B:fQ)(n:Nat)(c:Ctr):Prop:=∀k,n<=k->vk (runF E T B (NN+k)) c
def GV(E:Env)(T:FuncId->Option TFn)(B:fQ)(n:Nat):List Ctr->Prop
 | []=>True
 |c::r=>Lvl E T B n c/\GV E T B n r
theorem Lvl.mono{E:Env}{T:FuncId->Option TFn}{B:fQ}{n m:Nat}{c:Ctr}(h:Lvl E T B n c)(hm:n<=m):Lvl E T B m c:=λk hk=>h k (Nat.le_trans hm hk)
theorem GV.get{E:Env}{T:FuncId->Option TFn}{B:fQ}{n:Nat}:∀{l:List Ctr},GV E T B n l->∀c∈l,Lvl E T B n c:=by
 intro l
 induction l with
 |nil=>simp_all
 |cons x l ih=>
  intro h c hc;rcases List.mem_cons.1 hc with rfl|hc
  ·exact h.1
  ·exact ih h.2 c hc
theorem PW{E:Env}{T:FuncId->Option TFn}{B:fQ}{n:Nat}{C:X.Cfg}(hE:C.E=E)(YT:GV E T B n C.TB){c:Ctr}{tf:TFn}(hT:T c.f=some tf)
 (hg:∀h,X.runT dH C () tf c.outs (jg c.ins _ h).1 (tS c.pts [] (jg c.ins _ h).2).1=c.g h):Lvl E T B (n+1) c:=by
 intro k hk;obtain⟨k,rfl⟩:∃k',k=k'+1:=⟨k-1,by omega⟩;exact Ms (F:=runF E T B (NN+k)) (Nat.le_add_right _ _) hE (λc hc=>YT.get c hc k (by omega)) hT hg
theorem Ih{P:Program}{H:Nat->List (Nat×Option Nat)}{f:FuncId}{tf:TFn}(h:u9 P H f=some tf):∃fn,P.funcs[f]?=some fn/\tf.np<=fn.params.size+fn.nfree/\tf.nt=fn.ntmps:=by
 unfold u9 at h;split at h
 case h_2=>simp at h
 split at h
 case h_2=>simp at h
 split at h
 ·rename_i tf' Zm;have ⟨_,g2,g3,_⟩:=vL Zm
  simp_all
 simp only at h;split at h
 ·injection h with h
  subst h
  simp_all
 ·simp at h
theorem Nk{P:Program}(H:FuncId->Nat->List (Nat×Option Nat))(ZM:(P.funcs.all λfn=>decide (fn.params.size+fn.nfree<=fn.ntmps) && !(fn.name=="runtime.NumGoroutine"))=true):KW P λf=>u9 P (H f) f:=by
 refine K6 λf tf h=>?_;have ⟨fn,hf,e1,e2⟩:=Ih h;have ⟨hlt,he⟩:=Array.getElem?_eq_some_iff.1 hf;have:=Array.all_eq_true.1 ZM f hlt;rw[he]at this;simp at this;refine⟨⟨H f,h⟩,by omega,λfn' R'=>?_⟩
 simp_all
def Qx:TFn:=⟨0,[],0,.skip,[]⟩
theorem P6{o:Option TFn}(h:o.isSome=true):o=some (o.getD Qx):=by
 cases o with
 |none=>simp at h
 |some x=>rfl
def Qw(P:Program)(f:FuncId):List (Option Nat):=match P.funcs[f]? with
 |some fn=>fn.params.toList.map λt=>match P.underlying t with|some (.pointer e)=>zS P e|_=>none
 |none=>[]
def noB:fQ:=λ_ _ _=>none
theorem noB_ok{P:Program}:lB P noB:=λf vals pts res Zk h=>by simp[noB]at h
abbrev I64:CT:=.int .i64
def w64(x:Int):Int:=IntKind.wrap .i64 x
def wk(k:IntKind)(x:Int):Int:=IntKind.wrap k x
def AA(s:ByteArray):Int:=(s.size:Int)
def bytes(l:List Nat):ByteArray:=⟨(l.map UInt8.ofNat).toArray⟩
end Go.Proofs.YtoldehogdgdhmaaGreat
namespace Go.Proofs.YtoldehogdgdhmaaGreat
open Go.RowKit
set_option maxRecDepth 100000
noncomputable section
abbrev KCe:CT:=(.pair (.int .u8) (.int .u16))
abbrev KCn:CT:=(.pair (.int .u8) (.pair (.int .u16) (.pair I64 I64)))
abbrev KIn:CT:=(.pair I64 (.pair I64 (.pair I64 (.pair I64 I64))))
abbrev KOp:CT:=(.pair I64 (.pair I64 .bool))
abbrev QP:CT:=(.pair I64 (.pair .bool (.row false KCe)))
abbrev MJ:CT:=(.pair I64 (.pair (.row false KCe) (.pair I64 (.pair I64 (.pair I64 (.pair I64 (.pair I64 (.int .u16))))))))
abbrev QO:CT:=(.pair I64 (.pair I64 (.row false KCn)))
abbrev sQ:CT:=(.pair I64 (.pair I64 (.pair I64 (.pair I64 (.pair I64 (.pair I64 (.pair I64 (.pair I64 (.pair I64 (.pair (.row false KCn) (.pair (.row false KCn) (.pair (.int .u8) (.pair (.int .u16) (.pair I64 (.pair I64 (.pair (.row false KCn) (.pair I64 .bool)))))))))))))))))
abbrev P3:CT:=(.pair I64 (.pair .bool (.row true KCe)))
abbrev PQ:CT:=(.pair I64 (.pair (.row true KCe) (.pair I64 (.pair I64 (.pair I64 (.pair I64 (.pair I64 (.int .u16))))))))
abbrev FN:CT:=(.pair I64 (.pair I64 (.row true KCn)))
abbrev FO:CT:=(.pair I64 (.pair I64 (.pair I64 (.pair I64 (.pair I64 (.pair I64 (.pair I64 (.pair I64 (.pair I64 (.pair (.row true KCn) (.pair (.row true KCn) (.pair (.int .u8) (.pair (.int .u16) (.pair I64 (.pair I64 (.pair (.row true KCn) (.pair I64 .bool)))))))))))))))))
abbrev gt:CT:=(.row false KIn)
abbrev d7:CT:=(.row false KCn)
abbrev RW:CT:=(.row false (.int .u16))
abbrev RI:CT:=(.row false I64)
abbrev gw:CT:=(.row false KCe)
abbrev iS:CT:=(.row false QP)
abbrev l9:CT:=(.row true P3)
abbrev jE:CT:=(.row false MJ)
abbrev sO:CT:=(.row true PQ)
abbrev iu:CT:=(.row false KOp)
abbrev kW:CT:=(.row false QO)
abbrev xe:CT:=(.row false sQ)
abbrev DCe:Type:=(Int×Int)
abbrev DCn:Type:=(Int×Int×Int×Int)
abbrev DIn:Type:=(Int×Int×Int×Int×Int)
abbrev DOp:Type:=(Int×Int×Bool)
abbrev DLn:Type:=(Int×Bool×List DCe)
abbrev DTh:Type:=(Int×(List DCe)×Int×Int×Int×Int×Int×Int)
abbrev DOu:Type:=(Int×Int×List DCn)
abbrev DEn:Type:=(Int×Int×Int×Int×Int×Int×Int×Int×Int×(List DCn)×(List DCn)×Int×Int×Int×Int×(List DCn)×Int×Bool)
def HH(f i:Nat):List (Nat×Option Nat):=if f=97 then(if i=1000011 then[(11,some 27)]else if i=1000005 then[(2,some 27)]else[])else if f=162 then(if i=1000006 then[(8,some 1)]else if i=1000014 then[(8,some 1)]else[])else if f=65 then(if i=5000000 then[(0,none),(1,none)]else[])else if f=32 then(if i=5000000 then[(0,none),(1,none)]else if i=1000013 then[(3,some 100002001)]else[])else if f=12 then(if i=1000007 then[(7,some 100006005)]else if i=1000003 then[(0,some 5)]else[])else if f=6 then(if i=3000004 then[(7,none)]else[])else if f=81 then(if i=0 then[(8,none)]else[])else if f=51 then(if i=2 then[(3,some 1)]else if i=3 then[(3,some 0)]else[])else if f=91 then(if i=0 then[(8,some 0),(8,some 1),(8,some 2),(8,some 3),(8,some 4)]else[])else if f=85 then(if i=0 then[(4,some 0),(4,some 2),(4,some 3)]else[])else if f=52 then(if i=0 then[(6,some 0),(6,some 1),(6,some 2),(6,some 3),(6,some 5),(6,some 6),(6,some 7),(6,some 8),(6,some 9),(6,some 10),(6,some 11),(6,some 12),(6,some 13),(6,some 14),(6,some 15)]else[])else if f=121 then(if i=2000067 then[(2,none),(4,none),(8,none),(11,none),(12,none),(0,some 10),(0,some 18),(0,some 24)]else if i=0 then[(8,some 0)]else[])else if f=95 then(if i=1000012 then[(7,none)]else if i=0 then[(8,some 0),(8,some 2),(8,some 3),(8,some 4),(9,some 6),(9,some 7)]else[])else if f=128 then(if i=3000008 then[(9,some 0),(9,some 1)]else if i=0 then[(6,some 0),(6,some 1)]else[])else if f=149 then(if i=0 then[(4,some 0),(4,some 1),(4,some 2),(4,some 3),(4,some 4),(4,some 5),(5,some 4)]else[])else if f=129 then(if i=0 then[(0,some 14),(0,some 15),(4,some 4)]else[])else if f=130 then(if i=1000007 then[(17,none)]else if i=0 then[(8,some 2),(8,some 3),(8,some 4)]else[])else if f=151 then(if i=0 then[(8,some 2),(8,some 3),(8,some 4)]else[])else if f=131 then(if i=1000002 then[(9,none)]else[])else if f=132 then(if i=1000004 then[(4,some 2)]else if i=3 then[(6,some 0),(6,some 1)]else[])else if f=55 then(if i=1000011 then[(5,none)]else if i=1000014 then[(7,none)]else if i=0 then[(4,some 0),(4,some 1),(4,some 2),(4,some 3),(4,some 5),(4,some 6),(4,some 7),(4,some 8),(4,some 9),(4,some 10),(4,some 11),(4,some 12),(4,some 13),(4,some 14),(4,some 15)]else[])else if f=23 then(if i=0 then[(2,some 16),(2,some 17)]else[])else if f=101 then(if i=0 then[(4,none)]else[])else if f=102 then(if i=0 then[(2,some 6),(2,some 7)]else[])else if f=59 then(if i=0 then[(2,some 9),(2,some 10)]else[])else if f=27 then(if i=3000012 then[(5,none)]else if i=0 then[(2,none)]else[])else[]
noncomputable def TT (f:FuncId):Option TFn:=u9 Tryz.prog (HH f) f
noncomputable def E0:Env:={ box:=λf=>if f=8 then some (1,[.arg 0,.val (.int .i64 0)])else none,ps:=λf=>Qw Tryz.prog f }
theorem tt_ok:KW Tryz.prog TT:=Nk HH (by kernel_rfl)
abbrev qE:Shs:=⟨[],[],[],([],[])⟩
abbrev qS(s:List (Nat×Sh))(c:List (Nat×List Sh)):Shs:=⟨s,c,[],([],[])⟩
abbrev N1:CT:=.nilr true
abbrev N0:CT:=.nilr false
abbrev CW:CT:=.int .u16
abbrev CB:CT:=.int .u8
abbrev uL(l:List CT):List Sh:=l.map fun c=>.d c ()
abbrev pP(t r:Nat):Nat×Sh:=(t,.ptr ⟨r,0,[]⟩ [0])
abbrev sP(t:Nat)(c:CT):Nat×Sh:=(t,.d c ())
abbrev Lk(n:Nat)(c:Ctr):Prop:=Lvl E0 TT noB n c
theorem aN{m:Nat}:GV E0 TT noB m []:=trivial
theorem aC{n m:Nat}{c:Ctr}{l:List Ctr}(h:Lk n c)(r:GV E0 TT noB m l)(hm:n≤m:=by decide):GV E0 TT noB m (c::l):=⟨h.mono hm,r⟩
abbrev lx(i n:Nat)(s:List (Nat×Sh))(c:List (Nat×List Sh))(b:Nat):Ei:=⟨i,n,⟨s,c,[],([],[])⟩,[(.exit 0,⟨s++[(b,.d .bool ())],c,[],([],[])⟩)]⟩
abbrev LI:Type:=List Int
abbrev LLI:Type:=List (List Int)
abbrev LDCe:Type:=List DCe
abbrev LDCn:Type:=List DCn
abbrev LDIn:Type:=List DIn
abbrev LDOp:Type:=List DOp
abbrev LDLn:Type:=List DLn
abbrev LDTh:Type:=List DTh
abbrev LDOu:Type:=List DOu
abbrev LDEn:Type:=List DEn
abbrev LLCn:Type:=List (List DCn)
abbrev T00:Type:=Bool×LI×Unit
abbrev T01:Type:=Int×Bool×Unit
abbrev T02:Type:=Int×Int×Unit
abbrev T03:Type:=Int×LI×Unit
abbrev T04:Type:=LDCe×LDLn×Unit
abbrev T05:Type:=LDOp×LDCn×Unit
abbrev T06:Type:=LI×Bool×Unit
abbrev T07:Type:=LI×Int×Unit
abbrev T08:Type:=LI×LLI×Unit
abbrev T09:Type:=LLCn×LDOp×Unit
abbrev T0a:Type:=Unit×Unit×Unit
abbrev T0b:Type:=Bool×T02
abbrev T0c:Type:=Int×T01
abbrev T0d:Type:=Int×T02
abbrev T0e:Type:=Int×T03
abbrev T0f:Type:=Int×T06
abbrev T0g:Type:=Int×T07
abbrev T0h:Type:=LDCn×T02
abbrev T0i:Type:=LDEn×T02
abbrev T0j:Type:=LDIn×T08
abbrev T0k:Type:=LI×T03
abbrev T0l:Type:=LI×LLI×LI×Unit
abbrev T0m:Type:=Bool×Bool×Bool×Bool×Unit
abbrev T0n:Type:=Bool×LDEn×T06
abbrev T0o:Type:=Int×Bool×T07
abbrev T0p:Type:=Int×Int×T00
abbrev T0q:Type:=Int×T0d
abbrev T0r:Type:=Int×Int×T04
abbrev T0s:Type:=Int×T0f
abbrev T0t:Type:=Int×T0g
abbrev T0u:Type:=Int×Int×T09
abbrev T0v:Type:=Int×T0k
abbrev T0w:Type:=LDCn×T0c
abbrev T0x:Type:=LDCn×T0h
abbrev T0y:Type:=LDEn×T0c
abbrev T0z:Type:=LDTh×T0e
abbrev T0A:Type:=LI×T0d
abbrev T0B:Type:=Unit×T0g
abbrev T0C:Type:=Unit×Unit×T04
abbrev T0D:Type:=Unit×Unit×T08
abbrev T0E:Type:=Unit×Unit×T09
abbrev T0F:Type:=Unit×Unit×Unit×LDOp×Unit
abbrev T0G:Type:=Bool×T0q
abbrev T0H:Type:=Bool×T0E
abbrev T0I:Type:=Int×T0o
abbrev T0J:Type:=Int×Int×Bool×T09
abbrev T0K:Type:=Int×T0q
abbrev T0L:Type:=Int×Int×T0j
abbrev T0M:Type:=Int×T0E
abbrev T0N:Type:=LI×T0t
abbrev T0O:Type:=LI×Int×LDCe×LDLn×LDTh×Unit
abbrev T0P:Type:=LLCn×T0u
abbrev T0Q:Type:=Unit×Int×Unit×T0a
abbrev T0R:Type:=Unit×Unit×T0l
abbrev T0S:Type:=Unit×Unit×LLCn×T05
abbrev T0T:Type:=Bool×T0O
abbrev T0U:Type:=Int×Bool×T0D
abbrev T0V:Type:=Int×Int×Bool×T0j
abbrev T0W:Type:=Int×T0K
abbrev T0X:Type:=Int×Int×T0D
abbrev T0Y:Type:=Int×T0M
abbrev T0Z:Type:=Int×T0O
abbrev T10:Type:=LDCe×LDLn×T0C
abbrev T11:Type:=LDIn×T0L
abbrev T12:Type:=LI×T0I
abbrev T13:Type:=LI×Int×LDCe×LDLn×LDTh×Bool×Unit
abbrev T14:Type:=LI×LI×LLI×LLCn×LDOp×LDOu×Unit
abbrev T15:Type:=LI×LLI×T0D
abbrev T16:Type:=LLCn×LDOp×T0E
abbrev T17:Type:=Unit×Unit×LLCn×Nat×T05
abbrev T18:Type:=Int×T0U
abbrev T19:Type:=Int×Int×T0H
abbrev T1a:Type:=Int×T0W
abbrev T1b:Type:=Int×Int×Int×Int×LDCn×T01
abbrev T1c:Type:=Int×Int×Int×Int×Unit×T01
abbrev T1d:Type:=Int×T0X
abbrev T1e:Type:=Int×Int×LI×Int×Int×LLI×LDCn×Unit
abbrev T1f:Type:=Int×T0Z
abbrev T1g:Type:=Int×Int×T0R
abbrev T1h:Type:=LDIn×T0V
abbrev T1i:Type:=LLI×T0Y
abbrev T1j:Type:=LLI×Int×Int×T0F
abbrev T1k:Type:=Int×Int×Bool×T0R
abbrev T1l:Type:=Int×T19
abbrev T1m:Type:=Int×Int×Int×Int×Int×Int×LDCn×LDCn×Unit
abbrev T1n:Type:=Int×Int×Int×Int×Int×Int×T0a
abbrev T1o:Type:=Int×T1g
abbrev T1p:Type:=Int×Int×T14
abbrev T1q:Type:=Int×Int×T15
abbrev T1r:Type:=Int×Int×T16
abbrev T1s:Type:=Int×LDCe×T0W
abbrev T1t:Type:=LDTh×T1f
abbrev T1u:Type:=LI×Int×Unit×Unit×Unit×T0j
abbrev T1v:Type:=LI×Int×Unit×Unit×T0D
abbrev T1w:Type:=Int×Int×Bool×T14
abbrev T1x:Type:=Int×Int×Bool×T15
abbrev T1y:Type:=Int×Int×Bool×T16
abbrev T1z:Type:=Int×Int×T1a
abbrev T1A:Type:=Int×Int×Int×Int×Int×Int×LDCn×LDCn×Int×Unit
abbrev T1B:Type:=Int×Int×Int×T0Y
abbrev T1C:Type:=Int×T1r
abbrev T1D:Type:=Int×LI×Int×Int×Bool×T0A
abbrev T1E:Type:=Int×T1u
abbrev T1F:Type:=LDIn×LI×LLI×LI×Int×T0C
abbrev T1G:Type:=LDLn×Int×Int×T10
abbrev T1H:Type:=LDOu×T1p
abbrev T1I:Type:=LI×(List (Int×Int×Int×Int×Int×Int×LDCn×LDCn))×Unit
abbrev T1J:Type:=LI×Int×LI×Int×Int×T0A
abbrev T1K:Type:=LI×LLCn×Int×Int×LDCn×T0u
abbrev T1L:Type:=LLCn×T1r
abbrev T1M:Type:=LLI×T1p
abbrev T1N:Type:=LLI×T1q
abbrev T1O:Type:=Bool×T1I
abbrev T1P:Type:=Int×Bool×T1u
abbrev T1Q:Type:=Int×Int×Int×Int×Int×Bool×Bool×Bool×T00
abbrev T1R:Type:=Int×Int×T1m
abbrev T1S:Type:=Int×T1E
abbrev T1T:Type:=Int×Int×T1v
abbrev T1U:Type:=Int×T1I
abbrev T1V:Type:=LI×Int×Int×Int×Int×Int×T0B
abbrev T1W:Type:=LLI×T1x
abbrev T1X:Type:=Unit×Int×Unit×Unit×Unit×T0O
abbrev T1Y:Type:=Int×Int×T1F
abbrev T1Z:Type:=Int×Int×T1N
abbrev T20:Type:=Int×T1X
abbrev T21:Type:=LDCe×Int×Int×T1s
abbrev T22:Type:=LDCn×Nat×Int×Int×Int×T17
abbrev T23:Type:=LI×Int×Bool×LI×T1a
abbrev T24:Type:=LI×Int×Int×LI×Int×Int×T0N
abbrev T25:Type:=LLI×Int×Int×LI×Int×Int×T0S
abbrev T26:Type:=ByteArray×LDCn×T1R
abbrev T27:Type:=Int×Int×Bool×T1F
abbrev T28:Type:=Int×Int×T1Q
abbrev T29:Type:=Int×Int×Int×Int×LDCn×Int×Bool×T0Q
abbrev T2a:Type:=Int×Int×Int×Int×Nat×T1g
abbrev T2b:Type:=LDEn×Int×T1U
abbrev T2c:Type:=LI×Int×Int×LI×Int×Int×T12
abbrev T2d:Type:=LLI×T1Y
abbrev T2e:Type:=Int×Int×Bool×T1Q
abbrev T2f:Type:=LI×Int×LDCe×LDLn×LDTh×T1s
abbrev T2g:Type:=Int×Int×LLI×Int×Int×LI×T1q
abbrev T2h:Type:=Int×Int×LDIn×LI×LLI×T1X
abbrev T2i:Type:=LI×Int×LDCe×LDLn×LDTh×T1X
abbrev T2j:Type:=Int×LLI×Int×Int×LI×T1Y
abbrev T2k:Type:=LDIn×LI×LLI×T2f
abbrev T2l:Type:=Nat×LI×Int×LDCe×LDLn×LDTh×Int×Int×Int×Int×Int×Int×T0x
abbrev T2m:Type:=Int×Int×Int×Int×Int×Int×Int×Int×Int×LDCn×LDCn×T1b
abbrev T2n:Type:=Int×Int×LI×Int×Int×Int×Int×Int×Int×Int×Int×Int×Int×Int×T0m
abbrev T2o:Type:=LDIn×LI×LLI×LI×Int×LDCe×LDLn×LDTh×LI×LI×LLI×LLCn×LDOp×LDOu×LI×LLI×LDEn×LI×Unit
abbrev T2p:Type:=LDTh×Int×Int×T2i
abbrev T2q:Type:=Int×Int×Int×Int×Int×Int×LDCn×LDCn×Int×Int×Int×Int×LDCn×Int×T0G
abbrev T2r:Type:=LDIn×LI×LLI×LI×Int×LDCe×LDLn×LDTh×LI×LI×LLI×LLCn×LDOp×LDOu×LI×LLI×LDEn×LI×LI×Unit
abbrev T2s:Type:=LI×T2m
abbrev T2t:Type:=Nat×Int×LI×Int×LDCe×LDLn×LDTh×LDIn×LI×LLI×T1z
abbrev T2u:Type:=Int×Bool×T2o
abbrev T2v:Type:=Int×ByteArray×Int×Int×T2k
abbrev T2w:Type:=Int×Int×Int×T2o
abbrev T2x:Type:=Int×Int×Int×T2r
abbrev T2y:Type:=LDIn×LI×LLI×LI×Int×LDCe×LDLn×LDTh×LI×LI×LLI×LLCn×LDOp×LDOu×LI×LLI×LDEn×LI×T1c
abbrev T2z:Type:=LI×Int×LDCe×LDLn×LDTh×LDIn×LI×LLI×Int×Int×Int×Int×Int×Int×LDCn×LDCn×Int×Int×Int×Int×LDCn×Int×T0b
abbrev T2A:Type:=Nat×Bool×LI×Int×LDCe×LDLn×LDTh×T2q
abbrev T2B:Type:=Nat×T2z
abbrev T2C:Type:=Unit×Unit×Unit×Unit×Unit×Unit×Int×Int×Int×Int×Unit×Int×Bool×LI×LI×LLI×LLCn×LDOp×LDOu×T1b
abbrev T2D:Type:=Unit×Unit×Unit×Unit×Unit×Unit×Int×Int×Int×Int×Unit×Int×Bool×LI×LI×LLI×LLCn×LDOp×LDOu×T1c
abbrev T2E:Type:=LI×Int×LDCe×LDLn×LDTh×LDIn×LI×LLI×T2q
abbrev T2F:Type:=LDTh×Int×Int×T2y
abbrev T2G:Type:=Nat×LDCn×Int×Int×T2E
abbrev T2H:Type:=Nat×LDCn×Int×Int×Bool×T2E
abbrev T2I:Type:=LI×LI×LLI×LLCn×LDOp×LDOu×Int×Int×Int×Int×Int×Int×LDCn×LDCn×Unit×Unit×Unit×Unit×Unit×Unit×Int×Int×Int×Int×Unit×Int×Bool×LI×LI×LLI×LLCn×LDOp×LDOu×LI×Unit
abbrev T2J:Type:=Int×Bool×LDIn×LI×LLI×LI×Int×LDCe×LDLn×LDTh×LI×LI×LLI×LLCn×LDOp×LDOu×LI×LLI×LDEn×LI×Int×Int×Int×Int×Int×Int×LDCn×LDCn×T1c
abbrev T2K:Type:=Unit×Unit×Unit×Unit×Int×Unit×Unit×Unit×Unit×Unit×Unit×Unit×Unit×Unit×Unit×Unit×Unit×Unit×T2o
abbrev T2L:Type:=Unit×Unit×Unit×Unit×Int×Unit×Unit×Unit×Unit×Unit×Unit×Unit×Unit×Unit×Unit×Unit×Unit×Unit×LDIn×LI×LLI×LI×Int×LDCe×LDLn×LDTh×LI×LI×LLI×LLCn×LDOp×LDOu×LI×LLI×Unit×LI×Unit
abbrev T2M:Type:=Int×T2K
abbrev T2N:Type:=Int×T2L
abbrev T2O:Type:=LDCn×Int×Int×T2I
abbrev T2P:Type:=LDIn×LI×LLI×Unit×Int×Unit×Unit×Unit×Int×Int×Int×Int×Int×Int×Unit×Unit×LI×Int×LDCe×LDLn×LDTh×Int×LDCe×Int×Int×Int×Int×T1R
abbrev T2Q:Type:=LDIn×LI×LLI×Unit×Int×Unit×Unit×Unit×Int×Int×Int×Int×Int×Int×Unit×Unit×LI×Int×LDCe×LDLn×LDTh×Int×LDCe×Int×Int×Int×Int×Int×Int×Int×Int×Int×Int×Int×Int×LDCn×Unit×Unit
abbrev T2R:Type:=Bool×T2Q
abbrev T2S:Type:=Int×T2M
abbrev T2T:Type:=LI×T2M
abbrev T2U:Type:=Int×Int×T2P
abbrev T2V:Type:=Int×Int×T2Q
abbrev T2W:Type:=Int×T2T
abbrev T2X:Type:=Int×Int×Bool×T2P
noncomputable abbrev ap1{A0 D R:Type}(f:A0→R)(h:A0×D):R:=f h.1
noncomputable abbrev ap2{A0 A1 D R:Type}(f:A0→A1→R)(h:A0×A1×D):R:=f h.1 h.2.1
noncomputable abbrev ap3{A0 A1 A2 D R:Type}(f:A0→A1→A2→R)(h:A0×A1×A2×D):R:=f h.1 h.2.1 h.2.2.1
noncomputable abbrev ap4{A0 A1 A2 A3 D R:Type}(f:A0→A1→A2→A3→R)(h:A0×A1×A2×A3×D):R:=f h.1 h.2.1 h.2.2.1 h.2.2.2.1
noncomputable abbrev ap5{A0 A1 A2 A3 A4 D R:Type}(f:A0→A1→A2→A3→A4→R)(h:A0×A1×A2×A3×A4×D):R:=f h.1 h.2.1 h.2.2.1 h.2.2.2.1 h.2.2.2.2.1
noncomputable abbrev ap6{A0 A1 A2 A3 A4 A5 D R:Type}(f:A0→A1→A2→A3→A4→A5→R)(h:A0×A1×A2×A3×A4×A5×D):R:=f h.1 h.2.1 h.2.2.1 h.2.2.2.1 h.2.2.2.2.1 h.2.2.2.2.2.1
noncomputable abbrev ap7{A0 A1 A2 A3 A4 A5 A6 D R:Type}(f:A0→A1→A2→A3→A4→A5→A6→R)(h:A0×A1×A2×A3×A4×A5×A6×D):R:=f h.1 h.2.1 h.2.2.1 h.2.2.2.1 h.2.2.2.2.1 h.2.2.2.2.2.1 h.2.2.2.2.2.2.1
noncomputable abbrev ap8{A0 A1 A2 A3 A4 A5 A6 A7 D R:Type}(f:A0→A1→A2→A3→A4→A5→A6→A7→R)(h:A0×A1×A2×A3×A4×A5×A6×A7×D):R:=f h.1 h.2.1 h.2.2.1 h.2.2.2.1 h.2.2.2.2.1 h.2.2.2.2.2.1 h.2.2.2.2.2.2.1 h.2.2.2.2.2.2.2.1
noncomputable abbrev ap9{A0 A1 A2 A3 A4 A5 A6 A7 A8 D R:Type}(f:A0→A1→A2→A3→A4→A5→A6→A7→A8→R)(h:A0×A1×A2×A3×A4×A5×A6×A7×A8×D):R:=f h.1 h.2.1 h.2.2.1 h.2.2.2.1 h.2.2.2.2.1 h.2.2.2.2.2.1 h.2.2.2.2.2.2.1 h.2.2.2.2.2.2.2.1 h.2.2.2.2.2.2.2.2.1
noncomputable abbrev ap10{A0 A1 A2 A3 A4 A5 A6 A7 A8 A9 D R:Type}(f:A0→A1→A2→A3→A4→A5→A6→A7→A8→A9→R)(h:A0×A1×A2×A3×A4×A5×A6×A7×A8×A9×D):R:=f h.1 h.2.1 h.2.2.1 h.2.2.2.1 h.2.2.2.2.1 h.2.2.2.2.2.1 h.2.2.2.2.2.2.1 h.2.2.2.2.2.2.2.1 h.2.2.2.2.2.2.2.2.1 h.2.2.2.2.2.2.2.2.2.1
noncomputable abbrev ap11{A0 A1 A2 A3 A4 A5 A6 A7 A8 A9 A10 D R:Type}(f:A0→A1→A2→A3→A4→A5→A6→A7→A8→A9→A10→R)(h:A0×A1×A2×A3×A4×A5×A6×A7×A8×A9×A10×D):R:=f h.1 h.2.1 h.2.2.1 h.2.2.2.1 h.2.2.2.2.1 h.2.2.2.2.2.1 h.2.2.2.2.2.2.1 h.2.2.2.2.2.2.2.1 h.2.2.2.2.2.2.2.2.1 h.2.2.2.2.2.2.2.2.2.1 h.2.2.2.2.2.2.2.2.2.2.1
noncomputable abbrev ap14{A0 A1 A2 A3 A4 A5 A6 A7 A8 A9 A10 A11 A12 A13 D R:Type}(f:A0→A1→A2→A3→A4→A5→A6→A7→A8→A9→A10→A11→A12→A13→R)(h:A0×A1×A2×A3×A4×A5×A6×A7×A8×A9×A10×A11×A12×A13×D):R:=f h.1 h.2.1 h.2.2.1 h.2.2.2.1 h.2.2.2.2.1 h.2.2.2.2.2.1 h.2.2.2.2.2.2.1 h.2.2.2.2.2.2.2.1 h.2.2.2.2.2.2.2.2.1 h.2.2.2.2.2.2.2.2.2.1 h.2.2.2.2.2.2.2.2.2.2.1 h.2.2.2.2.2.2.2.2.2.2.2.1 h.2.2.2.2.2.2.2.2.2.2.2.2.1 h.2.2.2.2.2.2.2.2.2.2.2.2.2.1
noncomputable abbrev ap16{A0 A1 A2 A3 A4 A5 A6 A7 A8 A9 A10 A11 A12 A13 A14 A15 D R:Type}(f:A0→A1→A2→A3→A4→A5→A6→A7→A8→A9→A10→A11→A12→A13→A14→A15→R)(h:A0×A1×A2×A3×A4×A5×A6×A7×A8×A9×A10×A11×A12×A13×A14×A15×D):R:=f h.1 h.2.1 h.2.2.1 h.2.2.2.1 h.2.2.2.2.1 h.2.2.2.2.2.1 h.2.2.2.2.2.2.1 h.2.2.2.2.2.2.2.1 h.2.2.2.2.2.2.2.2.1 h.2.2.2.2.2.2.2.2.2.1 h.2.2.2.2.2.2.2.2.2.2.1 h.2.2.2.2.2.2.2.2.2.2.2.1 h.2.2.2.2.2.2.2.2.2.2.2.2.1 h.2.2.2.2.2.2.2.2.2.2.2.2.2.1 h.2.2.2.2.2.2.2.2.2.2.2.2.2.2.1 h.2.2.2.2.2.2.2.2.2.2.2.2.2.2.2.1
noncomputable abbrev ap18{A0 A1 A2 A3 A4 A5 A6 A7 A8 A9 A10 A11 A12 A13 A14 A15 A16 A17 D R:Type}(f:A0→A1→A2→A3→A4→A5→A6→A7→A8→A9→A10→A11→A12→A13→A14→A15→A16→A17→R)(h:A0×A1×A2×A3×A4×A5×A6×A7×A8×A9×A10×A11×A12×A13×A14×A15×A16×A17×D):R:=f h.1 h.2.1 h.2.2.1 h.2.2.2.1 h.2.2.2.2.1 h.2.2.2.2.2.1 h.2.2.2.2.2.2.1 h.2.2.2.2.2.2.2.1 h.2.2.2.2.2.2.2.2.1 h.2.2.2.2.2.2.2.2.2.1 h.2.2.2.2.2.2.2.2.2.2.1 h.2.2.2.2.2.2.2.2.2.2.2.1 h.2.2.2.2.2.2.2.2.2.2.2.2.1 h.2.2.2.2.2.2.2.2.2.2.2.2.2.1 h.2.2.2.2.2.2.2.2.2.2.2.2.2.2.1 h.2.2.2.2.2.2.2.2.2.2.2.2.2.2.2.1 h.2.2.2.2.2.2.2.2.2.2.2.2.2.2.2.2.1 h.2.2.2.2.2.2.2.2.2.2.2.2.2.2.2.2.2.1
noncomputable abbrev ap19{A0 A1 A2 A3 A4 A5 A6 A7 A8 A9 A10 A11 A12 A13 A14 A15 A16 A17 A18 D R:Type}(f:A0→A1→A2→A3→A4→A5→A6→A7→A8→A9→A10→A11→A12→A13→A14→A15→A16→A17→A18→R)(h:A0×A1×A2×A3×A4×A5×A6×A7×A8×A9×A10×A11×A12×A13×A14×A15×A16×A17×A18×D):R:=f h.1 h.2.1 h.2.2.1 h.2.2.2.1 h.2.2.2.2.1 h.2.2.2.2.2.1 h.2.2.2.2.2.2.1 h.2.2.2.2.2.2.2.1 h.2.2.2.2.2.2.2.2.1 h.2.2.2.2.2.2.2.2.2.1 h.2.2.2.2.2.2.2.2.2.2.1 h.2.2.2.2.2.2.2.2.2.2.2.1 h.2.2.2.2.2.2.2.2.2.2.2.2.1 h.2.2.2.2.2.2.2.2.2.2.2.2.2.1 h.2.2.2.2.2.2.2.2.2.2.2.2.2.2.1 h.2.2.2.2.2.2.2.2.2.2.2.2.2.2.2.1 h.2.2.2.2.2.2.2.2.2.2.2.2.2.2.2.2.1 h.2.2.2.2.2.2.2.2.2.2.2.2.2.2.2.2.2.1 h.2.2.2.2.2.2.2.2.2.2.2.2.2.2.2.2.2.2.1
noncomputable abbrev ap20{A0 A1 A2 A3 A4 A5 A6 A7 A8 A9 A10 A11 A12 A13 A14 A15 A16 A17 A18 A19 D R:Type}(f:A0→A1→A2→A3→A4→A5→A6→A7→A8→A9→A10→A11→A12→A13→A14→A15→A16→A17→A18→A19→R)(h:A0×A1×A2×A3×A4×A5×A6×A7×A8×A9×A10×A11×A12×A13×A14×A15×A16×A17×A18×A19×D):R:=f h.1 h.2.1 h.2.2.1 h.2.2.2.1 h.2.2.2.2.1 h.2.2.2.2.2.1 h.2.2.2.2.2.2.1 h.2.2.2.2.2.2.2.1 h.2.2.2.2.2.2.2.2.1 h.2.2.2.2.2.2.2.2.2.1 h.2.2.2.2.2.2.2.2.2.2.1 h.2.2.2.2.2.2.2.2.2.2.2.1 h.2.2.2.2.2.2.2.2.2.2.2.2.1 h.2.2.2.2.2.2.2.2.2.2.2.2.2.1 h.2.2.2.2.2.2.2.2.2.2.2.2.2.2.1 h.2.2.2.2.2.2.2.2.2.2.2.2.2.2.2.1 h.2.2.2.2.2.2.2.2.2.2.2.2.2.2.2.2.1 h.2.2.2.2.2.2.2.2.2.2.2.2.2.2.2.2.2.1 h.2.2.2.2.2.2.2.2.2.2.2.2.2.2.2.2.2.2.1 h.2.2.2.2.2.2.2.2.2.2.2.2.2.2.2.2.2.2.2.1
noncomputable abbrev ap21{A0 A1 A2 A3 A4 A5 A6 A7 A8 A9 A10 A11 A12 A13 A14 A15 A16 A17 A18 A19 A20 D R:Type}(f:A0→A1→A2→A3→A4→A5→A6→A7→A8→A9→A10→A11→A12→A13→A14→A15→A16→A17→A18→A19→A20→R)(h:A0×A1×A2×A3×A4×A5×A6×A7×A8×A9×A10×A11×A12×A13×A14×A15×A16×A17×A18×A19×A20×D):R:=f h.1 h.2.1 h.2.2.1 h.2.2.2.1 h.2.2.2.2.1 h.2.2.2.2.2.1 h.2.2.2.2.2.2.1 h.2.2.2.2.2.2.2.1 h.2.2.2.2.2.2.2.2.1 h.2.2.2.2.2.2.2.2.2.1 h.2.2.2.2.2.2.2.2.2.2.1 h.2.2.2.2.2.2.2.2.2.2.2.1 h.2.2.2.2.2.2.2.2.2.2.2.2.1 h.2.2.2.2.2.2.2.2.2.2.2.2.2.1 h.2.2.2.2.2.2.2.2.2.2.2.2.2.2.1 h.2.2.2.2.2.2.2.2.2.2.2.2.2.2.2.1 h.2.2.2.2.2.2.2.2.2.2.2.2.2.2.2.2.1 h.2.2.2.2.2.2.2.2.2.2.2.2.2.2.2.2.2.1 h.2.2.2.2.2.2.2.2.2.2.2.2.2.2.2.2.2.2.1 h.2.2.2.2.2.2.2.2.2.2.2.2.2.2.2.2.2.2.2.1 h.2.2.2.2.2.2.2.2.2.2.2.2.2.2.2.2.2.2.2.2.1
noncomputable abbrev ap23{A0 A1 A2 A3 A4 A5 A6 A7 A8 A9 A10 A11 A12 A13 A14 A15 A16 A17 A18 A19 A20 A21 A22 D R:Type}(f:A0→A1→A2→A3→A4→A5→A6→A7→A8→A9→A10→A11→A12→A13→A14→A15→A16→A17→A18→A19→A20→A21→A22→R)(h:A0×A1×A2×A3×A4×A5×A6×A7×A8×A9×A10×A11×A12×A13×A14×A15×A16×A17×A18×A19×A20×A21×A22×D):R:=f h.1 h.2.1 h.2.2.1 h.2.2.2.1 h.2.2.2.2.1 h.2.2.2.2.2.1 h.2.2.2.2.2.2.1 h.2.2.2.2.2.2.2.1 h.2.2.2.2.2.2.2.2.1 h.2.2.2.2.2.2.2.2.2.1 h.2.2.2.2.2.2.2.2.2.2.1 h.2.2.2.2.2.2.2.2.2.2.2.1 h.2.2.2.2.2.2.2.2.2.2.2.2.1 h.2.2.2.2.2.2.2.2.2.2.2.2.2.1 h.2.2.2.2.2.2.2.2.2.2.2.2.2.2.1 h.2.2.2.2.2.2.2.2.2.2.2.2.2.2.2.1 h.2.2.2.2.2.2.2.2.2.2.2.2.2.2.2.2.1 h.2.2.2.2.2.2.2.2.2.2.2.2.2.2.2.2.2.1 h.2.2.2.2.2.2.2.2.2.2.2.2.2.2.2.2.2.2.1 h.2.2.2.2.2.2.2.2.2.2.2.2.2.2.2.2.2.2.2.1 h.2.2.2.2.2.2.2.2.2.2.2.2.2.2.2.2.2.2.2.2.1 h.2.2.2.2.2.2.2.2.2.2.2.2.2.2.2.2.2.2.2.2.2.1 h.2.2.2.2.2.2.2.2.2.2.2.2.2.2.2.2.2.2.2.2.2.2.1
noncomputable abbrev ap26{A0 A1 A2 A3 A4 A5 A6 A7 A8 A9 A10 A11 A12 A13 A14 A15 A16 A17 A18 A19 A20 A21 A22 A23 A24 A25 D R:Type}(f:A0→A1→A2→A3→A4→A5→A6→A7→A8→A9→A10→A11→A12→A13→A14→A15→A16→A17→A18→A19→A20→A21→A22→A23→A24→A25→R)(h:A0×A1×A2×A3×A4×A5×A6×A7×A8×A9×A10×A11×A12×A13×A14×A15×A16×A17×A18×A19×A20×A21×A22×A23×A24×A25×D):R:=f h.1 h.2.1 h.2.2.1 h.2.2.2.1 h.2.2.2.2.1 h.2.2.2.2.2.1 h.2.2.2.2.2.2.1 h.2.2.2.2.2.2.2.1 h.2.2.2.2.2.2.2.2.1 h.2.2.2.2.2.2.2.2.2.1 h.2.2.2.2.2.2.2.2.2.2.1 h.2.2.2.2.2.2.2.2.2.2.2.1 h.2.2.2.2.2.2.2.2.2.2.2.2.1 h.2.2.2.2.2.2.2.2.2.2.2.2.2.1 h.2.2.2.2.2.2.2.2.2.2.2.2.2.2.1 h.2.2.2.2.2.2.2.2.2.2.2.2.2.2.2.1 h.2.2.2.2.2.2.2.2.2.2.2.2.2.2.2.2.1 h.2.2.2.2.2.2.2.2.2.2.2.2.2.2.2.2.2.1 h.2.2.2.2.2.2.2.2.2.2.2.2.2.2.2.2.2.2.1 h.2.2.2.2.2.2.2.2.2.2.2.2.2.2.2.2.2.2.2.1 h.2.2.2.2.2.2.2.2.2.2.2.2.2.2.2.2.2.2.2.2.1 h.2.2.2.2.2.2.2.2.2.2.2.2.2.2.2.2.2.2.2.2.2.1 h.2.2.2.2.2.2.2.2.2.2.2.2.2.2.2.2.2.2.2.2.2.2.1 h.2.2.2.2.2.2.2.2.2.2.2.2.2.2.2.2.2.2.2.2.2.2.2.1 h.2.2.2.2.2.2.2.2.2.2.2.2.2.2.2.2.2.2.2.2.2.2.2.2.1 h.2.2.2.2.2.2.2.2.2.2.2.2.2.2.2.2.2.2.2.2.2.2.2.2.2.1
theorem ls{n:Nat}(C:X.Cfg)(hT:GV E0 TT noB n C.TB){c:Ctr}(hE:C.E=E0:=by rfl)(h1:(TT c.f).isSome=true:=by kernel_rfl)(hg:∀h,X.runT dH C () ((TT c.f).getD Qx) c.outs (jg c.ins _ h).1 (tS c.pts [] (jg c.ins _ h).2).1=c.g h:=by intro h;kernel_rfl):Lk (n+1) c:=PW (n:=n) (C:=C) hE hT (P6 h1) hg
abbrev Uaa(t:Nat):Nat×Sh:=sP t I64
abbrev Xaa(t:Nat):Nat×Sh:=sP t .bool
abbrev Zaa(t r:Nat):Nat×Sh:=(t,.pk ⟨r,0,[]⟩ [0,0])
abbrev uaa(t:CT):CT:=.row true t
abbrev yaa(t:CT):CT:=.row false t
abbrev zaa(t:Nat):Nat×Sh:=pP t (2*t+2)
abbrev uab:List Sh:=uL [.bool]
abbrev yab:List Sh:=uL [RI,I64]
abbrev zab:List Sh:=uL [gt,RI,(yaa RW)]
abbrev Uab:List Sh:=uL [CB,CW]
abbrev Xab:List Sh:=uL [N1,N1]
abbrev Zab:List Sh:=uL [RI,CW]
abbrev uac:List Sh:=uL [I64,I64,I64,I64,I64,I64,d7,d7]
abbrev yac:List Sh:=uL [(uaa I64)]
abbrev zac:List Sh:=uL [gt,RI,(yaa RW),RI,CW,gw,iS,jE,RW,RW,(yaa RW),(yaa d7),iu,kW,RI,(yaa RI),(uaa sQ),(uaa I64)]
abbrev Uac:List Sh:=uL [RI,CW,(uaa KCe),l9,sO]
abbrev Xac:List Sh:=uL [I64]
abbrev Zac:List Sh:=uL [(yaa d7),iu]
abbrev uad:List Sh:=uL [I64,I64,I64,I64,I64]
abbrev yad:List Sh:=uL [RI,CW,gw,iS,jE]
abbrev zad:List Sh:=uL [I64,I64]
abbrev Uad:List Sh:=uL [CB,CW,I64,I64,N1,I64,.bool]
abbrev Xad:List Sh:=uL [CB,CW,I64,I64,d7,I64,.bool]
abbrev Zad:List Sh:=uL [(uaa I64),(uaa (uaa I64))]
abbrev uae:List Sh:=uL [(uaa (uaa KCn)),(uaa KOp)]
abbrev yae:List Sh:=uL [N1,CW,N1,N1,N1]
abbrev zae:List Sh:=uL [I64,gw,I64,I64,I64,I64,I64,CW]
abbrev Uae:List Sh:=uL [RI,(yaa RI)]
abbrev Xae:List Sh:=uL [(uaa KCe),l9]
abbrev Zae:List Sh:=uL [(yaa CB),.bool]
abbrev uaf:List Sh:=uL [(uaa CB)]
abbrev yaf:List Sh:=uL [I64,I64,I64,I64,I64,I64,N1,N1]
abbrev zaf:List Sh:=uL [RW,RW,(yaa RW),(yaa d7),iu,kW]
abbrev Uaf:List Sh:=uL [CB,CW,I64,I64]
abbrev Xaf:List Sh:=uL [.bool,.bool,.bool,.bool]
abbrev Zaf:List Sh:=uL [N1,N1,N1]
abbrev uag:List Sh:=uL [N1,N1,N1,N1,CW,N1,N1,N1,N1,N1,N1,N1,N1,N1,N1,N1,N1,N1]
abbrev yag:List Sh:=uL [gw,iS]
abbrev zag:List Sh:=uL [RI,CW,(uaa KCe),l9,(uaa MJ)]
abbrev Uag:List Sh:=uL [(uaa KCn)]
abbrev Xag:List Sh:=uL [N1,N1,N1,N1,N1,N1]
abbrev Zag:List Sh:=uL [I64,I64,I64,I64,I64,I64,I64,I64,I64,d7,d7,CB,CW,I64,I64,d7,I64,.bool]
abbrev uah:List Sh:=uL [I64,(uaa KCe),I64,I64,I64,I64,I64,CW]
abbrev yah:List Sh:=uL [(uaa KIn),RI,(uaa (uaa CW))]
abbrev zah:List Sh:=uL [gt,RI,(uaa (uaa CW))]
abbrev Uah:List Sh:=uL [I64,I64,.bool]
abbrev Xah:List Sh:=uL [(uaa (uaa CW))]
abbrev Zah:List Sh:=uL [gt,RI,(yaa RW),RI,CW,gw,iS,jE,RW,RW,(yaa RW),(yaa d7),iu,kW,RI,(yaa RI),xe,RI]
abbrev uai:List Sh:=uL [CB,CW,I64]
abbrev yai:List Sh:=uL [(uaa FN)]
abbrev zai:List Sh:=uL [(uaa CW),(uaa CW),(uaa (uaa CW)),(uaa (uaa KCn)),(uaa KOp),(uaa FN)]
abbrev Uai:List Sh:=uL [I64,I64,I64,I64,I64,I64,(uaa KCn),N1]
abbrev Xai:List Sh:=uL [I64,I64,I64,I64,I64,I64,(uaa KCn),(uaa KCn)]
abbrev Zai:List Sh:=uL [(yaa CB)]
abbrev uaj:List Sh:=uL [(uaa (uaa KCn)),(uaa KOp),I64]
abbrev yaj:List Sh:=uL [RI,CW,gw,iS,sO]
abbrev zaj:List Sh:=uL [(uaa (uaa KCn)),(uaa KOp),.bool]
abbrev Uaj:List Sh:=uL [CB,CW,I64,I64,(uaa KCn),I64,.bool]
abbrev Xaj:List Sh:=uL [RI,CW,gw,iS,jE,.bool]
abbrev Zaj:List Sh:=uL [gt,RI,(yaa RW),RI,CW,gw,iS,jE,RW,RW,(yaa RW),(yaa d7),iu,kW,RI,(yaa RI),(uaa sQ)]
def jz(a0:Int)(a1:Int):Option (Int×Unit):=
bif(a1 != 0)then let x0:Int:=(Int.tmod a0 a1);
(bif(decide (x0<0))then(let x1:Int:=(w64 (x0+a1));
some (x1,()))else
some (x0,()):Option (Int×Unit)).bind λ(x1,_)=>
some (x1,())else none
def Fe:X.Cfg:=⟨E0,[],[],[⟨2,0,qE,[(.normal,qS [Uaa 5] [])]⟩]⟩
def sM:Ctr:=⟨33,0,zad,[],[⟨Xac,[.one],[]⟩],ap2 jz⟩
theorem xR:Lk 1 sM:=ls Fe aN
def rr(a0:Int)(a1:Int):Option (Int×Unit):=
(jz a0 a1).bind λ(x0,_)=>
some (x0,())
def Mf:X.Cfg:=⟨E0,[sM],[],[]⟩
def Cc:Ctr:=⟨13,1,zad,[],[⟨Xac,[.one],[]⟩],ap2 rr⟩
theorem Gq:Lk 2 Cc:=ls Mf (aC xR aN)
def dL(a0:Int)(a1:List (Int))(a2:Int):Option (T0g):=
let x0:=dO a1.length;
bif(decide (a2>=x0))then(some (0,a1,a2,()))else
let x1:=w64 (a2+1);
let x2:=w64 (x1-1);
(d9 x2).bind λx3=>
(dJ a1 x3).bind λx4=>
(rr x4 a0).bind λ(x5,_)=>
some (x5,a1,x1,())
def Fi:X.Cfg:=⟨E0,[Cc],[],[]⟩
def gr:Ctr:=⟨22,2,[.ptr ⟨2,0,[]⟩ [0],shU I64],[(2,yab)],[⟨Xac,[.one],[(2,yab)]⟩],ap3 dL⟩
theorem gV:Lk 3 gr:=ls Fi (aC Gq aN)
def qn:T0v->Option (T0v⊕(Int×Bool×T0k)):=λ(v0,v1,v2,v3,_)=>
bif(decide (v0>0))then(let x0:List (Int):=[6,12,32];
(dL 3 v1 v2).bind λ(x1,x2,x3,_)=>
(d9 x1).bind λx4=>
(dJ x0 x4).bind λx5=>
(dJ x0 x4).bind λx6=>
(dL x6 x2 x3).bind λ(x7,x8,x9,_)=>
let ac:=w64 (1+x7);
bif(dV 8 v3.length (List.length [ac]))then let ae:List (Int):=(List.append v3 [ac]);
let af:=w64 (v0-1);
some (.inl (af,x8,x9,ae,()))else none)else
some (.inr (v0,false,v1,v2,v3,()))
def nH(a0:List (Int))(a1:Int):Option (LI×T07):=
(dL 9 a0 a1).bind λ(x0,x1,x2,_)=>
let x3:=w64 (4+x0);
(dL 4 x1 x2).bind λ(x4,x5,x6,_)=>
(dX qn NN (x4,x5,x6,[x3],())).bind λ(x7,x8,x9,ac,ae,_)=>
some (ae,x9,ac,())
def DR:X.Cfg:=⟨E0,[gr],[],[(lx 4 0 [zaa 0,Zaa 3 9,Uaa 4] [(2,yab),(9,yac)] 12)]⟩
def wn:Ctr:=⟨79,3,[.ptr ⟨2,0,[]⟩ [0]],[(2,yab)],[⟨yac,[.one],[(2,yab)]⟩],ap2 nH⟩
theorem Dc:Lk 4 wn:=ls DR (aC gV aN)
def jB(a0:List (Int))(a1:Int):Option (T0g):=
(dL 5 a0 a1).bind λ(x0,x1)=>
(bif(x0==0)then(some (x0,true,x1))else
bif(x0==1)then(some (x0,true,x1))else
some (x0,(x0==2),x1):Option (T0o)).bind λ(x3,x4,x5,x6,_)=>
bif x4 then((dL 8 x5 x6).bind λ(x7,x8,x9,_)=>
let ac:=wk .u16 x7;
some (ac,x8,x9,()))else
bif(x3==3)then((dL 3 x5 x6).bind λ(x7,x8,x9,_)=>
let ac:=w64 (65535-x7);
let ae:=wk .u16 ac;
some (ae,x8,x9,()))else
(dL 65536 x5 x6).bind λ(x7,x8,x9,_)=>
let ac:=wk .u16 x7;
some (ac,x8,x9,())
def Fh:X.Cfg:=⟨E0,[gr],[],[⟨3,0,qE,[(.normal,qS [zaa 0,Uaa 4,Xaa 5] [(2,yab)])]⟩]⟩
def pD:Ctr:=⟨64,4,[.ptr ⟨2,0,[]⟩ [0]],[(2,yab)],[⟨uL [CW],[.one],[(2,yab)]⟩],ap2 jB⟩
theorem sD:Lk 4 pD:=ls Fh (aC gV aN)
def qm:T0v->Option (T0v⊕(Int×Bool×T0k)):=λ(v0,v1,v2,v3,_)=>
bif(decide (v0>0))then((jB v1 v2).bind λ(x0,x1,x2,_)=>
bif(dV 2 v3.length (List.length [x0]))then let x3:List (Int):=(List.append v3 [x0]);
let x4:=w64 (v0-1);
some (.inl (x4,x1,x2,x3,()))else none)else
some (.inr (v0,false,v1,v2,v3,()))
def fW(a0:Int)(a1:List (Int))(a2:Int):Option (LI×T07):=
let x0:=w64 (a0+1);
(dL x0 a1 a2).bind λ(x1,x2,x3,_)=>
(dX qm NN (x1,x2,x3,[],())).bind λ(x4,x5,x6,x7,x8,_)=>
some (x8,x6,x7,())
def DQ:X.Cfg:=⟨E0,[gr,pD],[],[(lx 4 0 [zaa 0,Zaa 5 13,Uaa 6] [(2,yab),(13,uL [(uaa CW)])] 12)]⟩
def rj:Ctr:=⟨80,5,[.ptr ⟨2,0,[]⟩ [0],shU I64],[(2,yab)],[⟨uL [(uaa CW)],[.one],[(2,yab)]⟩],ap3 fW⟩
theorem vG:Lk 5 rj:=ls DQ (aC gV (aC sD aN))
def iH(a0:Int)(a1:Int):Option (T0K):=
some (1,a0,0,0,a1,())
def Oj:X.Cfg:=⟨E0,[],[],[]⟩
def FF:Ctr:=⟨82,6,zad,[],[⟨uad,[.agg 5],[]⟩],ap2 iH⟩
theorem J6:Lk 1 FF:=ls Oj aN
def gU(a0:Int):Option (T0K):=
some (23,0,0,0,a0,())
def Md:X.Cfg:=⟨E0,[],[],[]⟩
def Cb:Ctr:=⟨83,7,Xac,[],[⟨uad,[.agg 5],[]⟩],ap1 gU⟩
theorem Gp:Lk 1 Cb:=ls Md aN
def ml(a0:Int)(a1:Int):Option (T0K):=
some (2,a0,a1,0,0,())
def Me:X.Cfg:=⟨E0,[],[],[]⟩
def GM:Ctr:=⟨107,8,zad,[],[⟨uad,[.agg 5],[]⟩],ap2 ml⟩
theorem L6:Lk 1 GM:=ls Me aN
def jK(a0:Int):Option (T0m):=
(bif(a0==1)then(some (a0,true,false,false,false,false,()))else
bif(a0==15)then(some (a0,true,false,false,false,false,()))else
bif(a0==19)then(some (a0,true,false,false,false,false,()))else
bif(a0==20)then(some (a0,true,false,false,false,false,()))else
some (a0,(a0==21),false,false,false,false,()):Option (Int×Bool×T0m)).bind λ(x0,x1,_)=>
bif x1 then(some (true,false,false,true,()))else
bif(x0==2)then(some (true,true,false,false,()))else
bif(x0==16)then(some (true,true,false,true,()))else
bif(x0==17)then(some (true,true,false,true,()))else
bif(x0==18)then(some (false,false,false,true,()))else
bif(x0==23)then(some (false,false,false,true,()))else
bif(x0==22)then(some (true,false,false,false,()))else
bif(x0==0)then(some (false,false,false,false,()))else
bif(x0==24)then(some (false,false,false,false,()))else
some (true,true,true,false,())
def DH:X.Cfg:=⟨E0,[],[],[⟨3,0,qE,[(.normal,qS [zaa 2,Uaa 3,Xaa 4] [(6,Xaf)])]⟩]⟩
def rd:Ctr:=⟨134,9,Xac,[],[⟨Xaf,[.agg 4],[]⟩],ap1 jK⟩
theorem vD:Lk 1 rd:=ls DH aN
def gO(a0:Int):Option (Bool×Unit):=
bif(a0==18)then(some (true,()))else
bif(a0==19)then(some (true,()))else
bif(a0==20)then(some (true,()))else
some ((a0==21),())
def DI:X.Cfg:=⟨E0,[],[],[]⟩
def jQ:Ctr:=⟨84,10,Xac,[],[⟨uab,[.one],[]⟩],ap1 gO⟩
theorem lJ:Lk 1 jQ:=ls DI aN
def nI(a0:Int)(a1:Int)(a2:List (Int))(a3:Int):Option (Int×Int×Int×T0t):=
(dL 25 a2 a3).bind λ(x0,x1,x2,_)=>
(jK x0).bind λ(x3,x4)=>
(bif x3 then((dL 8 x1 x2).bind λ(x7,x8,x9,_)=>
some (a0,a1,x8,x9,0,0,0,0,0,x0,x7,0,0,0,x3,x4))else
some (a0,a1,x1,x2,0,0,0,0,0,x0,0,0,0,0,x3,x4):Option (T2n)).bind λ(x7,x8,x9,ac,ae,af,ag,ah,ai,aj,ak,am,an,ap,aq,av,ax)=>
(bif av then((dL 8 x9 ac).bind λ(az,aA,aB,_)=>
some (x7,x8,aA,aB,ae,af,ag,ah,ai,aj,ak,az,an,ap,aq,av,ax))else
some (x7,x8,x9,ac,ae,af,ag,ah,ai,aj,ak,am,an,ap,aq,av,ax):Option (T2n)).bind λ(az,aA,aB,aD,aE,aF,aG,aH,aI,aJ,aK,aL,aM,aO,aP,aQ,aR,aS,_)=>
(bif aR then((dL 8 aB aD).bind λ(aT,aU,aV,_)=>
some (az,aA,aU,aV,aE,aF,aG,aH,aI,aJ,aK,aL,aT,aO,aP,aQ,aR,aS,()))else
some (az,aA,aB,aD,aE,aF,aG,aH,aI,aJ,aK,aL,aM,aO,aP,aQ,aR,aS,()):Option (T2n)).bind λ(aT,aU,aV,aW,aY,aZ,ba,bc,bd,bf,bg,bh,bi,bj,bk,bl,bm,bn,_)=>
((gO bf).bind λ(bo,_)=>
bif bo then((dL aU aV aW).bind λ(bp,bq,bt,_)=>
some (bq,bt,aY,aZ,ba,bc,bd,bf,bg,bh,bi,bp,()))else
bif(bf==15)then((dL aT aV aW).bind λ(bp,bq,bt,_)=>
some (bq,bt,aY,aZ,ba,bc,bd,bf,bg,bh,bi,bp,()))else
bif(bf==23)then((dL 16 aV aW).bind λ(bp,bq,bt,_)=>
some (bq,bt,aY,aZ,ba,bc,bd,bf,bg,bh,bi,bp,()))else
bif bn then((jB aV aW).bind λ(bp,bq,bt,_)=>
let bv:=wk .i64 bp;
some (bq,bt,aY,aZ,ba,bc,bd,bf,bg,bh,bi,bv,()))else
some (aV,aW,aY,aZ,ba,bc,bd,bf,bg,bh,bi,bj,()):Option (LI×Int×Int×T1z)).bind λ(bo,bp,bq,bt,bv,bx,bz,bA,bB,bC,bD,bE,_)=>
some (bA,bB,bC,bD,bE,bo,bp,())
def DS:X.Cfg:=⟨E0,[gr,rd,jQ,pD],[],[⟨3,0,qE,[(.normal,qS [zaa 0,Uaa 1,Uaa 2,zaa 6,zaa 7,zaa 8] [(2,yab),(14,uad),(16,uad),(18,Xaf)])]⟩,⟨5,1,qE,[(.normal,qS [zaa 0,Uaa 1,Uaa 2,zaa 6,zaa 7,zaa 8] [(2,yab),(14,uad),(16,uad),(18,Xaf)])]⟩,⟨7,2,qE,[(.normal,qS [zaa 0,Uaa 1,Uaa 2,zaa 6,zaa 7,zaa 8] [(2,yab),(14,uad),(16,uad),(18,Xaf)])]⟩,⟨9,3,qE,[(.normal,qS [zaa 0,zaa 6,zaa 7] [(2,yab),(14,uad),(16,uad)])]⟩]⟩
def wo:Ctr:=⟨108,11,[.ptr ⟨2,0,[]⟩ [0],shU I64,shU I64],[(2,yab)],[⟨uad,[.agg 5],[(2,yab)]⟩],ap4 nI⟩
theorem Dd:Lk 5 wo:=ls DS (aC gV (aC vD (aC lJ (aC sD aN))))
def oZ(a0:List (Int))(a1:Int)(a2:Int)(a3:List (Int))(a4:Int):Option (LDIn×T07):=
let x0:=dO a0.length;
(dL x0 a3 a4).bind λ(x1,x2,x3,_)=>
(d9 x1).bind λx4=>
(dJ a0 x4).bind λx5=>
let x6:=w64 (x5+1);
let x7:=mmR false 5 x6;
(dL x7 x2 x3).bind λ(x8,x9,ac,_)=>
(iH 2 x8).bind λ(ae,af,ag,ah,ai,_)=>
let aj:LDIn:=[(15,(1,(0,(0,x1)))),(ae,(af,(ag,(ah,ai))))];
(dL 20 x9 ac).bind λ(ak,am,an,_)=>
bif(ak==0)then((dL 3 am an).bind λ(ap,aq,av,_)=>
let ax:=w64 (3+ap);
(jB aq av).bind λ(ay,az,aA,_)=>
let aB:=wk .i64 ay;
(iH ax aB).bind λ(aD,aE,aF,aG,aH,_)=>
let aI:LDIn:=[(aD,(aE,(aF,(aG,aH))))];
some (aI,az,aA,()))else
bif(ak==1)then(let ap:List (Int):=[3,4,5,10,13,14,11,9];
(dL 8 am an).bind λ(aq,av,ax,_)=>
(d9 aq).bind λay=>
(dJ ap ay).bind λaz=>
(dJ ap ay).bind λaA=>
(dL 3 av ax).bind λ(aB,aD,aE,_)=>
let aF:=w64 (3+aB);
(dL 3 aD aE).bind λ(aG,aH,aI,_)=>
let aJ:=w64 (3+aG);
(dL 3 aH aI).bind λ(aK,aL,aM,_)=>
let aO:=w64 (3+aK);
let aP:LDIn:=[(aA,(aF,(aJ,(aO,0))))];
some (aP,aL,aM,()))else
bif(ak==2)then(let ap:LDIn:=[(15,(6,(0,(0,x1))))];
some (ap,am,an,()))else
bif(ak==3)then((dL 5 am an).bind λ(ap,aq,av,_)=>
let ax:=w64 (3+ap);
(d9 x1).bind λay=>
(dJ a0 ay).bind λaz=>
(dL az aq av).bind λ(aA,aB,aD,_)=>
let aE:LDIn:=[(15,(6,(0,(0,x1)))),(17,(6,(ax,(0,aA))))];
some (aE,aB,aD,()))else
bif(ak==4)then((dL 5 am an).bind λ(ap,aq,av,_)=>
let ax:=w64 (3+ap);
(d9 x1).bind λay=>
(dJ a0 ay).bind λaz=>
(dL az aq av).bind λ(aA,aB,aD,_)=>
let aE:LDIn:=[(15,(6,(0,(0,x1)))),(17,(6,(ax,(0,aA))))];
some (aE,aB,aD,()))else
bif(ak==5)then((dL 4 am an).bind λ(ap,aq,av,_)=>
let ax:=w64 (3+ap);
(d9 x1).bind λay=>
(dJ a0 ay).bind λaz=>
(dL az aq av).bind λ(aA,aB,aD,_)=>
let aE:LDIn:=[(15,(6,(0,(0,x1)))),(16,(ax,(6,(0,aA))))];
some (aE,aB,aD,()))else
bif(ak==6)then((dL 4 am an).bind λ(ap,aq,av,_)=>
let ax:=w64 (3+ap);
(d9 x1).bind λay=>
(dJ a0 ay).bind λaz=>
(dL az aq av).bind λ(aA,aB,aD,_)=>
let aE:LDIn:=[(15,(6,(0,(0,x1)))),(16,(ax,(6,(0,aA))))];
some (aE,aB,aD,()))else
bif(ak==7)then((dL 3 am an).bind λ(ap,aq,av,_)=>
(iH 0 ap).bind λ(ax,ay,az,aA,aB,_)=>
let aD:LDIn:=[(ax,(ay,(az,(aA,aB))))];
bif(dV 40 aD.length aj.length)then let aE:LDIn:=(List.append aD aj);
(gU 13).bind λ(aF,aG,aH,aI,aJ,_)=>
let aK:LDIn:=[(aF,(aG,(aH,(aI,aJ))))];
bif(dV 40 aE.length aK.length)then let aL:LDIn:=(List.append aE aK);
some (aL,aq,av,())else none else none)else
bif(ak==8)then((dL 3 am an).bind λ(ap,aq,av,_)=>
(iH 0 ap).bind λ(ax,ay,az,aA,aB,_)=>
let aD:LDIn:=[(ax,(ay,(az,(aA,aB))))];
bif(dV 40 aD.length aj.length)then let aE:LDIn:=(List.append aD aj);
(gU 13).bind λ(aF,aG,aH,aI,aJ,_)=>
let aK:LDIn:=[(aF,(aG,(aH,(aI,aJ))))];
bif(dV 40 aE.length aK.length)then let aL:LDIn:=(List.append aE aK);
some (aL,aq,av,())else none else none)else
bif(ak==9)then((dL 3 am an).bind λ(ap,aq,av,_)=>
(iH 0 ap).bind λ(ax,ay,az,aA,aB,_)=>
let aD:LDIn:=[(ax,(ay,(az,(aA,aB))))];
bif(dV 40 aD.length aj.length)then let aE:LDIn:=(List.append aD aj);
(gU 14).bind λ(aF,aG,aH,aI,aJ,_)=>
(ml 3 0).bind λ(aK,aL,aM,aO,aP,_)=>
let aQ:LDIn:=[(aF,(aG,(aH,(aI,aJ)))),(aK,(aL,(aM,(aO,aP))))];
bif(dV 40 aE.length aQ.length)then let aR:LDIn:=(List.append aE aQ);
some (aR,aq,av,())else none else none)else
bif(ak==10)then((dL 3 am an).bind λ(ap,aq,av,_)=>
(iH 0 ap).bind λ(ax,ay,az,aA,aB,_)=>
(dL 4 aq av).bind λ(aD,aE,aF,_)=>
(iH 1 aD).bind λ(aG,aH,aI,aJ,aK,_)=>
(gU 3).bind λ(aL,aM,aO,aP,aQ,_)=>
(ml 7 0).bind λ(aR,aS,aT,aU,aV,_)=>
let aW:LDIn:=[(ax,(ay,(az,(aA,aB)))),(aG,(aH,(aI,(aJ,aK)))),(aL,(aM,(aO,(aP,aQ)))),(aR,(aS,(aT,(aU,aV))))];
some (aW,aE,aF,()))else
bif(ak==11)then((ml 0 7).bind λ(ap,aq,av,ax,ay,_)=>
let az:LDIn:=[(ap,(aq,(av,(ax,ay))))];
bif(dV 40 az.length aj.length)then let aA:LDIn:=(List.append az aj);
let aB:List (Int):=[1,2];
(dL 2 am an).bind λ(aD,aE,aF,_)=>
(d9 aD).bind λaG=>
(dJ aB aG).bind λaH=>
(dJ aB aG).bind λaI=>
(gU aI).bind λ(aJ,aK,aL,aM,aO,_)=>
let aP:LDIn:=[(aJ,(aK,(aL,(aM,aO))))];
bif(dV 40 aA.length aP.length)then let aQ:LDIn:=(List.append aA aP);
some (aQ,aE,aF,())else none else none)else
bif(ak==12)then((ml 0 7).bind λ(ap,aq,av,ax,ay,_)=>
(gU 4).bind λ(az,aA,aB,aD,aE,_)=>
let aF:LDIn:=[(ap,(aq,(av,(ax,ay)))),(az,(aA,(aB,(aD,aE))))];
(ml 0 7).bind λ(aG,aH,aI,aJ,aK,_)=>
(dL 4 am an).bind λ(aL,aM,aO,_)=>
(iH 1 aL).bind λ(aP,aQ,aR,aS,aT,_)=>
(gU 5).bind λ(aU,aV,aW,aY,aZ,_)=>
let ba:LDIn:=[(aG,(aH,(aI,(aJ,aK)))),(aP,(aQ,(aR,(aS,aT)))),(aU,(aV,(aW,(aY,aZ))))];
let bc:List LDIn:=[aF,ba];
(dL 2 aM aO).bind λ(bd,bf)=>
(d9 bd).bind λbh=>
(dJ bc bh).bind λbi=>
(dJ bc bh).bind λbj=>
(dJ bc bh).bind λbk=>
some (bk,bf))else
bif(ak==13)then(let ap:List (Int):=[6,7,15];
(dL 3 am an).bind λ(aq,av,ax,_)=>
(d9 aq).bind λay=>
(dJ ap ay).bind λaz=>
(dJ ap ay).bind λaA=>
(gU aA).bind λ(aB,aD,aE,aF,aG,_)=>
(dL 3 av ax).bind λ(aH,aI,aJ,_)=>
let aK:=w64 (3+aH);
(ml aK 0).bind λ(aL,aM,aO,aP,aQ,_)=>
let aR:LDIn:=[(aB,(aD,(aE,(aF,aG)))),(aL,(aM,(aO,(aP,aQ))))];
some (aR,aI,aJ,()))else
bif(ak==14)then((dL 3 am an).bind λ(ap,aq,av,_)=>
(iH 0 ap).bind λ(ax,ay,az,aA,aB,_)=>
let aD:List (Int):=[8,9];
(dL 2 aq av).bind λ(aE,aF,aG,_)=>
(d9 aE).bind λaH=>
(dJ aD aH).bind λaI=>
(dJ aD aH).bind λaJ=>
(gU aJ).bind λ(aK,aL,aM,aO,aP,_)=>
let aQ:LDIn:=[(ax,(ay,(az,(aA,aB)))),(aK,(aL,(aM,(aO,aP))))];
some (aQ,aF,aG,()))else
bif(ak==15)then((dL 3 am an).bind λ(ap,aq,av,_)=>
(iH 0 ap).bind λ(ax,ay,az,aA,aB,_)=>
let aD:List (Int):=[8,9];
(dL 2 aq av).bind λ(aE,aF,aG,_)=>
(d9 aE).bind λaH=>
(dJ aD aH).bind λaI=>
(dJ aD aH).bind λaJ=>
(gU aJ).bind λ(aK,aL,aM,aO,aP,_)=>
let aQ:LDIn:=[(ax,(ay,(az,(aA,aB)))),(aK,(aL,(aM,(aO,aP))))];
some (aQ,aF,aG,()))else
bif(ak==16)then((dL a1 am an).bind λ(ap,aq,av,_)=>
(iH 0 ap).bind λ(ax,ay,az,aA,aB,_)=>
(ml 1 3).bind λ(aD,aE,aF,aG,aH,_)=>
(gU 10).bind λ(aI,aJ,aK,aL,aM,_)=>
let aO:LDIn:=[(ax,(ay,(az,(aA,aB)))),(aD,(aE,(aF,(aG,aH)))),(aI,(aJ,(aK,(aL,aM))))];
some (aO,aq,av,()))else
bif(ak==17)then(let ap:List (Int):=[a1,5];
(dL 2 am an).bind λ(aq,av,ax,_)=>
(d9 aq).bind λay=>
(dJ ap ay).bind λaz=>
(dJ ap ay).bind λaA=>
(dL aA av ax).bind λ(aB,aD,aE,_)=>
(iH 0 aB).bind λ(aF,aG,aH,aI,aJ,_)=>
let aK:List (Int):=[12,11];
(dL 2 aD aE).bind λ(aL,aM,aO,_)=>
(d9 aL).bind λaP=>
(dJ aK aP).bind λaQ=>
(dJ aK aP).bind λaR=>
(gU aR).bind λ(aS,aT,aU,aV,aW,_)=>
let aY:LDIn:=[(aF,(aG,(aH,(aI,aJ)))),(aS,(aT,(aU,(aV,aW))))];
some (aY,aM,aO,()))else
bif(ak==18)then((dL 4 am an).bind λ(ap,aq,av,_)=>
let ax:=w64 (1+ap);
(iH 5 ax).bind λ(ay,az,aA,aB,aD,_)=>
(iH 4 1).bind λ(aE,aF,aG,aH,aI,_)=>
let aJ:=w64 (a2+2);
let aK:LDIn:=[(ay,(az,(aA,(aB,aD)))),(aE,(aF,(aG,(aH,aI)))),(4,(5,(5,(4,0)))),(20,(5,(0,(0,aJ))))];
some (aK,aq,av,()))else
let ap:=dO a0.length;
(nI ap a1 am an).bind λ(aq,av,ax,ay,az,aA,aB,_)=>
let aD:LDIn:=[(aq,(av,(ax,(ay,az))))];
some (aD,aA,aB,())
def Fg:X.Cfg:=⟨E0,[gr,FF,pD,Cb,GM,wo],[(156,(uaa KIn))],[]⟩
def yM:Ctr:=⟨81,12,[.ptr ⟨2,0,[]⟩ [0],shU RI,shU I64,shU I64],[(2,yab)],[⟨uL [gt],[.one],[(2,yab)]⟩],ap5 oZ⟩
theorem E1:Lk 6 yM:=ls Fg (aC gV (aC J6 (aC sD (aC Gp (aC L6 (aC Dd aN))))))
def oc:T1T->Option (T1T⊕(Int×Int×Bool×T1v)):=λ(v0,v1,v2,v3,v4,v5,v6,v7,v8,v9,_)=>
bif(decide (v1<v0))then((d9 v1).bind λx0=>
(dJ v8 x0).bind λx1=>
(dJ v8 x0).bind λx2=>
(fW x2 v2 v3).bind λ(x3,x4,x5,_)=>
bif(dV 24 v9.length (List.length [x3]))then let x6:List LI:=(List.append v9 [x3]);
let x7:=w64 (v1+1);
some (.inl (v0,x7,x4,x5,v4,v5,v6,v7,v8,x6,()))else none)else
some (.inr (v0,v1,false,v2,v3,v4,v5,v6,v7,v8,v9,()))
def oa:T1E->Option (T1E⊕T1P):=λ(v0,v1,v2,v3,v4,v5,v6,v7,v8,_)=>
bif(decide (v0>0))then((let x0:Int:=(dO v6.length);
let x1:=w64 (x0+1);
let x2:=dO v6.length;
(oZ v7 x1 x2 v1 v2).bind λ(x3,x4,x5,_)=>
let x6:=dO v6.length;
let x7:=dO x3.length;
let x8:=w64 (x6+x7);
bif(decide (x8<=62))then(bif(dV 40 v6.length x3.length)then let x9:LDIn:=(List.append v6 x3);
some (v0,x4,x5,v3,v4,v5,x9,v7,v8,())else none)else
some (v0,x4,x5,v3,v4,v5,v6,v7,v8,()):Option (T1E)).bind λ(x0,x1,x2,x3,x4,x5,x6,x7,x8,_)=>
let x9:=w64 (x0-1);
some (.inl (x9,x1,x2,x3,x4,x5,x6,x7,x8,())))else
some (.inr (v0,false,v1,v2,v3,v4,v5,v6,v7,v8,()))
def gH:T1S->Option (T1S⊕(Int×T1P)):=λ(v0,v1,v2,v3,v4,v5,v6,v7,v8)=>
bif(decide (v1<v0))then(((d9 v1).bind λx0=>
(dJ v7 x0).bind λx1=>
(gO x1.1).bind λ(x2,_)=>
bif x2 then((d9 v1).bind λx3=>
(dJ v7 x3).bind λx4=>
let x5:=dO v7.length;
bif(decide (x4.2.2.2.2>=x5))then((d9 v1).bind λx6=>
(dJ v7 x6).bind λx7=>
none)else
some (v0,v1,v2,v3,v4,v5,v6,v7,v8))else
some (v0,v1,v2,v3,v4,v5,v6,v7,v8):Option (T1S)).bind λ(x0,x1,x2,x3,x4,x5,x6,x7,x8)=>
let ac:=w64 (x1+1);
some (.inl (x0,ac,x2,x3,x4,x5,x6,x7,x8)))else
some (.inr (v0,v1,false,v2,v3,v4,v5,v6,v7,v8))
def lp(a0:List (Int))(a1:Int):Option (LDIn×LI×LLI×T07):=
(nH a0 a1).bind λ(x0,x1,x2,_)=>
let x3:=dO x0.length;
(dX oc NN (x3,0,x1,x2,(),(),(),(),x0,[],())).bind λ(x4,x5,x6,x7,x8,x9,ac,ae,af,ag)=>
(dL 12 x7 x8).bind λ(ai,aj,ak,_)=>
let am:=w64 (1+ai);
(dX oa NN (am,aj,ak,x9,ac,ae,[],ag)).bind λ(an,ap,aq,av,ax,ay,az,aA,aB)=>
((dL 4 aq av).bind λ(aE,aF,aG,_)=>
bif(aE==0)then(let aH:Int:=(dO aA.length);
let aI:=w64 (aH+1);
(dL aI aF aG).bind λ(aJ,aK,aL,_)=>
let aM:LDIn:=[(18,(0,(0,(0,aJ))))];
bif(dV 40 aA.length aM.length)then let aO:LDIn:=(List.append aA aM);
some (aK,aL,ax,ay,az,aO,aB)else none)else
bif(aE==1)then(let aH:LDIn:=[(24,(0,(0,(0,0))))];
bif(dV 40 aA.length aH.length)then let aI:LDIn:=(List.append aA aH);
some (aF,aG,ax,ay,az,aI,aB)else none)else
some (aF,aG,ax,ay,az,aA,aB):Option (T1u)).bind λ(aE,aF,aG,aH,aI,aJ,aK,aL,_)=>
(dL 9 aE aF).bind λ(aM,aO,aP,_)=>
(iH 0 aM).bind λ(aQ,aR,aS,aT,aU,_)=>
(gU 0).bind λ(aV,aW,aY,aZ,ba,_)=>
let bc:LDIn:=[(aQ,(aR,(aS,(aT,aU)))),(aV,(aW,(aY,(aZ,ba))))];
bif(dV 40 aJ.length bc.length)then let bd:LDIn:=(List.append aJ bc);
let bf:=dO bd.length;
bif(decide (bf>64))then(bif(gi 0 64 bd.length)then let bg:LDIn:=(lO bd 0 (Nat.sub 64 0));
let bh:=dO bg.length;
(dX gH NN (bh,0,aO,aP,aG,aH,aI,bg,aK,aL,())).bind λ(bi,bj,bk,bl,bm,bn,bo,bp,bq,bt,bv,_)=>
some (bq,bt,bv,bl,bm,())else none)else
let bg:=dO bd.length;
(dX gH NN (bg,0,aO,aP,aG,aH,aI,bd,aK,aL,())).bind λ(bh,bi,bj,bk,bl,bm,bn,bo,bp,bq,bt,_)=>
some (bp,bq,bt,bk,bl,())else none
def zB:X.Cfg:=⟨E0,[wn,rj,gr,yM,FF,Cb,jQ],[(24,(uaa CW)),(25,(uaa CW))],[(lx 4 0 [zaa 0,zaa 2,zaa 3,(13,.pk ⟨8,1,[]⟩ [0,0]),Uaa 14,Uaa 15] [(2,yab),(6,Zaf),(8,uL [N1,(uaa I64),(uaa (uaa CW))])] 16),⟨14,1,qE,[(.normal,qS [zaa 0,zaa 2,zaa 3,Uaa 6] [(2,yab),(6,Zaf),(8,yah)])]⟩,⟨11,2,qS [zaa 0,zaa 2,zaa 3,Uaa 6] [(2,yab),(6,Zaf),(8,yah)],[(.exit 2,qS [zaa 0,zaa 2,zaa 3,Uaa 6,Xaa 32] [(2,yab),(6,Zaf),(8,yah)])]⟩,⟨17,3,qE,[(.normal,qS [zaa 0,zaa 2,zaa 3] [(2,yab),(6,Zaf),(8,yah)])]⟩,⟨29,4,qE,[(.normal,qS [zaa 0,zaa 2,zaa 3,Uaa 101,Uaa 102] [(2,yab),(6,Zaf),(8,zah)])]⟩,⟨26,5,qS [zaa 0,zaa 2,zaa 3,Uaa 101,Uaa 102] [(2,yab),(6,Zaf),(8,zah)],[(.exit 5,qS [zaa 0,zaa 2,zaa 3,Uaa 101,Uaa 102,Xaa 103] [(2,yab),(6,Zaf),(8,zah)])]⟩]⟩
def sj:Ctr:=⟨51,13,[.ptr ⟨2,0,[]⟩ [0]],[(2,yab)],[⟨zah,[.agg 3],[(2,yab)]⟩],ap2 lp⟩
theorem zh:Lk 7 sj:=ls zB (aC Dc (aC vG (aC gV (aC E1 (aC J6 (aC Gp (aC lJ aN)))))))
def lS:LI×LI×T02->Option ((LI×LI×T02)⊕((Bool×Unit)⊕(LI×LI×T0c))):=λ(v0,v1,v2,v3,_)=>
bif(decide (v3<v2))then((d9 v3).bind λx0=>
(dJ v1 x0).bind λx1=>
bif(decide (x1<1))then(some (.inr (.inl (false,()))))else
bif(decide (x1>32))then(some (.inr (.inl (false,()))))else
let x2:=w64 (v3+1);
some (.inl (v0,v1,v2,x2,())))else
some (.inr (.inr (v0,v1,v2,v3,false,())))
def gS(a0:List (Int)):Option (Bool×Unit):=
let x0:=dO a0.length;
(match dX lS NN (a0,a0,x0,0,())with
|none=>none
|some (.inl (x1,_))=>
some (x1,())
|some (.inr (x1,_))=>
let x6:=dO x1.length;
bif(decide (x6>=1))then(let x7:Int:=(dO x1.length);
some ((decide (x7<=4)),()))else
some (false,()))
def BO:X.Cfg:=⟨E0,[],[],[⟨3,0,qS [sP 0 RI,sP 5 RI,Uaa 6,Uaa 7] [],[(.ret,qS [Xaa 2] []),(.exit 0,qS [sP 0 RI,sP 5 RI,Uaa 6,Uaa 7,Xaa 8] [])]⟩]⟩
def mC:Ctr:=⟨118,14,uL [RI],[],[⟨uab,[.one],[]⟩],ap1 gS⟩
theorem pe:Lk 1 mC:=ls BO aN
def qk:T1V->Option (T1V⊕(LI×Int×Int×Int×Int×Int×Bool×T0B)):=λ(v0,v1,v2,v3,v4,v5,v6,v7,v8,v9,_)=>
bif(decide (v5<v4))then(let x0:Int:=(w64 (v5+v1));
bif(v2 != 0)then let x1:Int:=(Int.tmod x0 v2);
(d9 x1).bind λx2=>
(dJ v8 x2).bind λx3=>
(dJ v8 x2).bind λx4=>
let x5:=List.modify v8 x2 λe=>v3;
(d9 x1).bind λx6=>
(dJ v0 x6).bind λx7=>
let x8:=w64 (x7+1);
let x9:=w64 (50*v2);
bif(x9 != 0)then let ac:Int:=(w64 (Int.tdiv v1 x9));
let ae:=Int.tmod ac 40;
let af:=w64 (x8+ae);
let ag:=w64 (v3+af);
let ah:=w64 (v5+1);
some (.inl (v0,v1,v2,ag,v4,ah,v6,v7,x5,v9,()))else none else none)else
some (.inr (v0,v1,v2,v3,v4,v5,false,v6,v7,v8,v9,()))
def nG(a0:List (Int))(a1:Int):Option (LI×T02):=
((gS a0).bind λ(x0,_)=>
bif(!x0)then(some (a0,a1,true,(),0,()))else
bif(decide (a1<0))then(some (a0,a1,true,(),0,()))else
some (a0,a1,(decide (a1>1073741824)),(),0,()):Option (LI×Int×Bool×Unit×Int×Unit)).bind λ(x0,x1,x2,x3,x4,_)=>
bif x2 then(some ([],0,1,()))else
let x5:=dO x0.length;
(d9 x5).bind λx6=>
(d9 x5).bind λx7=>
bif(rJ x6 x7 1)then let x8:List (Int):=(List.replicate x6 0);
let x9:=w64 (40503*x1);
let ac:=wk .u16 x9;
bif(x5 != 0)then let ae:Int:=(w64 (Int.tdiv x1 x5));
let af:=Int.tmod ae 50;
let ag:=w64 (1+af);
(dX qk NN (x0,x1,x5,ag,x5,0,x3,x4,x8,ac,())).bind λ(ah,ai,aj,ak,am,an,ap,aq,av,ax,ay,_)=>
some (ax,ay,0,())else none else none
def DN:X.Cfg:=⟨E0,[mC],[],[⟨2,0,qE,[(.normal,(qS [sP 0 RI,Uaa 1,zaa 4,Xaa 21] [(10,uL [N1,CW])]))]⟩,(lx 9 1 [sP 0 RI,Uaa 1,zaa 4,Uaa 6,zaa 7,Uaa 8,Uaa 36,Uaa 37] [(10,uL [N1,CW]),(16,uL [(uaa I64),CW])] 38)]⟩
def wm:Ctr:=⟨90,15,yab,[],[⟨uL [(uaa I64),CW,I64],[.agg 2,.one],[]⟩],ap2 nG⟩
theorem Db:Lk 2 wm:=ls DN (aC pe aN)
def mo(a0:List (Int))(a1:List (Int))(a2:Int):Option (LI×T0g):=
(dL 1048576 a1 a2).bind λ(x0,x1)=>
(nG a0 x0).bind λ(x3,x4,x5,_)=>
some (x3,x4,x1)
def BV:X.Cfg:=⟨E0,[gr,wm],[],[]⟩
def up:Ctr:=⟨53,16,[.ptr ⟨2,0,[]⟩ [0],shU RI],[(2,yab)],[⟨uL [(uaa I64),CW],[.agg 2],[(2,yab)]⟩],ap3 mo⟩
theorem Be:Lk 4 up:=ls BV (aC gV (aC Db aN))
def jI(a0:Int)(a1:Int)(a2:Int)(a3:Int):Option (Bool×Unit):=
bif(a0==0)then(bif(a2==0)then(some ((a3==0),()))else
some (false,()))else
bif(a0==2)then(bif(a2==0)then(some ((a3==0),()))else
some (false,()))else
bif(a0==1)then(bif(a2==(-1))then(bif(a1==0)then(bif(decide (a3>=0))then(some ((decide (a3<=65535)),()))else
some (false,()))else
some (false,()))else
bif(a1==0)then(bif(decide (a2>=0))then(bif(decide (a2<4))then(bif(decide (a3>=0))then(some ((decide (a3<32)),()))else
some (false,()))else
some (false,()))else
some (false,()))else
some (false,()))else
some (false,())
def DC:X.Cfg:=⟨E0,[],[],[]⟩
def q7:Ctr:=⟨70,17,[.agg Uaf],[],[⟨uab,[.one],[]⟩],ap4 jI⟩
theorem vA:Lk 1 q7:=ls DC aN
def jm:LDCn×Int×T0h->Option ((LDCn×Int×T0h)⊕((Bool×Unit)⊕(LDCn×Int×T0w))):=λ(v0,v1,v2,v3,v4,_)=>
bif(decide (v4<v3))then((d9 v4).bind λx0=>
(dJ v2 x0).bind λx1=>
(jI x1.1 x1.2.1 x1.2.2.1 x1.2.2.2).bind λ(x2,_)=>
bif(!x2)then(some (.inr (.inl (false,()))))else
let x3:=w64 (v4+1);
some (.inl (v0,v1,v2,v3,x3,())))else
some (.inr (.inr (v0,v1,v2,v3,v4,false,())))
def fR(a0:LDCn)(a1:Int):Option (Bool×Unit):=
let x0:=dO a0.length;
(match dX jm NN (a0,a1,a0,x0,0,())with
|none=>none
|some (.inl (x1,_))=>
some (x1,())
|some (.inr (x1,x2,_))=>
let x7:=dO x1.length;
some ((decide (x7<=x2)),()))
def By:X.Cfg:=⟨E0,[q7],[],[⟨3,0,qS [sP 0 d7,Uaa 1,sP 7 d7,Uaa 8,Uaa 9] [],[(.ret,qS [Xaa 4] []),(.exit 0,qS [sP 0 d7,Uaa 1,sP 7 d7,Uaa 8,Uaa 9,Xaa 10] [])]⟩]⟩
def i7:Ctr:=⟨69,18,uL [d7,I64],[],[⟨uab,[.one],[]⟩],ap2 fR⟩
theorem kF:Lk 2 i7:=ls By (aC vA aN)
def jl:T0P->Option (T0P⊕((Bool×Unit)⊕(LLCn×T0J))):=λ(v0,v1,v2,v3)=>
bif(decide (v2<v1))then((d9 v2).bind λx0=>
(dJ v0 x0).bind λx1=>
(fR x1 64).bind λ(x2,_)=>
bif(!x2)then(some (.inr (.inl (false,()))))else
let x3:=w64 (v2+1);
some (.inl (v0,v1,x3,v3)))else
some (.inr (.inr (v0,v1,v2,false,v3)))
def lP:LDOp×T0u->Option ((LDOp×T0u)⊕((Bool×Unit)⊕(LDOp×T0J))):=λ(v0,v1,v2,v3,v4,_)=>
bif(decide (v2<v1))then((d9 v2).bind λx0=>
(dJ v0 x0).bind λx1=>
(bif(x1.1==(-1))then(bif(x1.2.1 != 0)then(some (v0,v1,v2,true,v3,v4,x1.1,x1.2.1,x1.2.2,()))else
bif x1.2.2 then(some (v0,v1,v2,true,v3,v4,x1.1,x1.2.1,x1.2.2,()))else
bif(decide (x1.1<(-1)))then(some (v0,v1,v2,true,v3,v4,x1.1,x1.2.1,x1.2.2,()))else
let x2:=dO v3.length;
bif(decide (x1.1>=x2))then(some (v0,v1,v2,true,v3,v4,x1.1,x1.2.1,x1.2.2,()))else
bif(decide (x1.1>=0))then(bif(decide (x1.2.1<0))then(some (v0,v1,v2,true,v3,v4,x1.1,x1.2.1,x1.2.2,()))else
(d9 x1.1).bind λx3=>
(dJ v3 x3).bind λx4=>
let x5:=dO x4.length;
some (v0,v1,v2,(decide (x1.2.1>x5)),v3,v4,x1.1,x1.2.1,x1.2.2,()))else
some (v0,v1,v2,false,v3,v4,x1.1,x1.2.1,x1.2.2,()))else
bif(decide (x1.1<(-1)))then(some (v0,v1,v2,true,v3,v4,x1.1,x1.2.1,x1.2.2,()))else
let x2:=dO v3.length;
bif(decide (x1.1>=x2))then(some (v0,v1,v2,true,v3,v4,x1.1,x1.2.1,x1.2.2,()))else
bif(decide (x1.1>=0))then(bif(decide (x1.2.1<0))then(some (v0,v1,v2,true,v3,v4,x1.1,x1.2.1,x1.2.2,()))else
(d9 x1.1).bind λx3=>
(dJ v3 x3).bind λx4=>
let x5:=dO x4.length;
some (v0,v1,v2,(decide (x1.2.1>x5)),v3,v4,x1.1,x1.2.1,x1.2.2,()))else
some (v0,v1,v2,false,v3,v4,x1.1,x1.2.1,x1.2.2,()):Option (LDOp×Int×Int×Bool×LLCn×LDOp×T0c)).bind λ(x2,x3,x4,x5,x6,x7,_)=>
bif x5 then(some (.inr (.inl (false,()))))else
let ae:=w64 (x4+1);
some (.inl (x2,x3,ae,x6,x7,())))else
some (.inr (.inr (v0,v1,v2,false,v3,v4,())))
def jZ(a0:List LDCn)(a1:LDOp):Option (Bool×Unit):=
let x0:=dO a0.length;
bif(decide (x0>4))then(some (false,()))else
let x1:=dO a1.length;
bif(x1 != 8)then(some (false,()))else
let x2:=dO a0.length;
(match dX jl NN (a0,x2,0,a0,a1,())with
|none=>none
|some (.inl (x3,_))=>
some (x3,())
|some (.inr (x3,x4,x5,x6,x7,x8,_))=>
let x9:=dO x8.length;
(match dX lP NN (x8,x9,0,x7,x8,())with
|none=>none
|some (.inl (ac,_))=>
some (ac,())
|some (.inr (ac,_))=>
some (true,())))
def Br:X.Cfg:=⟨E0,[i7],[],[⟨6,0,qS [zaa 1,sP 18 (yaa d7),Uaa 19,Uaa 20] [(4,Zac)],[(.ret,qS [Xaa 2] []),(.exit 0,qS [zaa 1,sP 18 (yaa d7),Uaa 19,Uaa 20,Xaa 21] [(4,Zac)])]⟩,⟨20,1,qE,[(.normal,qS [zaa 1,sP 29 iu,Uaa 30,Uaa 31,Xaa 81] [(4,Zac),(14,Uah)])]⟩,⟨15,2,qS [zaa 1,sP 29 iu,Uaa 30,Uaa 31] [(4,Zac)],[(.ret,qS [Xaa 2] []),(.exit 2,qS [zaa 1,sP 29 iu,Uaa 30,Uaa 31,Xaa 32] [(4,Zac)])]⟩]⟩
def pm:Ctr:=⟨112,19,[.agg Zac],[],[⟨uab,[.one],[]⟩],ap2 jZ⟩
theorem tE:Lk 3 pm:=ls Br (aC kF aN)
def rS:T1j->Option (T1j⊕(LLI×Int×Int×Bool×T0F)):=λ(v0,v1,v2,v3,v4,v5,v6,_)=>
bif(decide (v2<v1))then((d9 v2).bind λx0=>
(dJ v6 x0).bind λx1=>
(dJ v6 x0).bind λx2=>
let x3:=(List.modify v6 x0 λe=>((-1),e.2));
let x4:=w64 (v2+1);
some (.inl (v0,v1,x4,v3,v4,v5,x3,())))else
some (.inr (v0,v1,v2,false,v3,v4,v5,v6,()))
def rR:T25->Option (T25⊕(LLI×Int×Int×LI×Int×Int×Bool×T0S)):=λ(v0,v1,v2,v3,v4,v5,v6,v7,v8,v9,v10,_)=>
bif(decide (v5<v4))then((d9 v5).bind λx0=>
(dJ v3 x0).bind λx1=>
let x2:LDCn:=[(0,(x1,(0,0)))];
bif(dV 24 v10.length x2.length)then let x3:LDCn:=(List.append v10 x2);
let x4:=w64 (v5+1);
some (.inl (v0,v1,v2,v3,v4,x4,v6,v7,v8,v9,x3,()))else none)else
some (.inr (v0,v1,v2,v3,v4,v5,false,v6,v7,v8,v9,v10,()))
def rQ:T1i->Option (T1i⊕(LLI×T19)):=λ(v0,v1,v2,v3,v4,v5,v6,_)=>
bif(decide (v2<v1))then((d9 v2).bind λx0=>
(dJ v0 x0).bind λx1=>
let x2:=dO x1.length;
(dX rR NN (v0,v1,v2,x1,x2,0,v3,v4,v5,v6,[],())).bind λ(x3,x4,x5,x6,x7,x8,x9,ac,ae,af,ag,ah,_)=>
bif(dV 24 af.length (List.length [ah]))then let ai:List LDCn:=(List.append af [ah]);
let aj:=w64 (x5+1);
some (.inl (x3,x4,aj,ac,ae,ai,ag,()))else none)else
some (.inr (v0,v1,v2,false,v3,v4,v5,v6,()))
def oS(a0:List LI):Option (LLCn×LDOp×Int×Unit):=
bif(rJ 8 8 3)then let x0:LDOp:=(List.replicate 8 (0,(0,false)));
let x1:=dO x0.length;
(dX rS NN (a0,x1,0,(),(),(),x0,())).bind λ(x2,x3,x4,x5,x6,x7,x8,x9,_)=>
let ac:=dO x2.length;
(dX rQ NN (x2,ac,0,x6,x7,[],x9,())).bind λ(ae,af,ag,ah,ai,aj,ak,am,_)=>
(jZ ak am).bind λ(an,_)=>
bif(!an)then(some ([],[],3,()))else
some (ak,am,0,())else none
def E4:X.Cfg:=⟨E0,[pm],[(46,(uaa KCn)),(47,(uaa KCn))],[(lx 4 0 [sP 0 (yaa RW),zaa 2,zaa 4,Uaa 15,Uaa 16] [(6,Xab),(10,uL [N1,(uaa KOp)])] 17),⟨19,1,qS [zaa 2,zaa 4,Zaa 8 19,sP 25 (yaa RW),Uaa 26,Uaa 27,sP 31 RW,Uaa 32,Uaa 33] [(6,Xab),(10,uae),(19,Uag)],[(.exit 4,qS [zaa 2,zaa 4,Zaa 8 19,sP 25 (yaa RW),Uaa 26,Uaa 27,sP 31 RW,Uaa 32,Uaa 33,Xaa 34] [(6,Xab),(10,uae),(19,Uag)])]⟩,⟨11,2,qS [zaa 2,zaa 4,sP 25 (yaa RW),Uaa 26,Uaa 27] [(6,Xab),(10,uae)],[(.exit 2,qS [zaa 2,zaa 4,sP 25 (yaa RW),Uaa 26,Uaa 27,Xaa 28] [(6,Xab),(10,uae)])]⟩]⟩
def yF:Ctr:=⟨119,20,uL [(yaa RW)],[],[⟨uaj,[.agg 2,.one],[]⟩],ap1 oS⟩
theorem ET:Lk 4 yF:=ls E4 (aC tE aN)
def fB:LLI×Int×Int×LLI×Unit->Option ((LLI×Int×Int×LLI×Unit)⊕(LLI×Int×Int×Bool×LLI×Unit)):=λ(v0,v1,v2,v3,_)=>
bif(decide (v2<v1))then((d9 v2).bind λx0=>
(dJ v0 x0).bind λx1=>
bif(dV 2 0 x1.length)then let x2:List (Int):=(List.append [] x1);
bif(dV 24 v3.length (List.length [x2]))then let x3:List LI:=(List.append v3 [x2]);
let x4:=w64 (v2+1);
some (.inl (v0,v1,x4,x3,()))else none else none)else
some (.inr (v0,v1,v2,false,v3,()))
def fI(a0:List LI):Option (LLI×Unit):=
let x0:=dO a0.length;
(dX fB NN (a0,x0,0,[],())).bind λ(x1,x2,x3,x4,x5,_)=>
some (x5,())
def tQ:X.Cfg:=⟨E0,[],[(15,(uaa CW)),(16,(uaa CW))],[(lx 4 0 [Zaa 3 9,sP 6 (yaa RW),Uaa 7,Uaa 8] [(9,Xah)] 9)]⟩
def ir:Ctr:=⟨115,21,uL [(yaa RW)],[],[⟨Xah,[.one],[]⟩],ap1 fI⟩
theorem kE:Lk 1 ir:=ls tQ aN
def io:LDOu×T02->Option ((LDOu×T02)⊕((Bool×Unit)⊕(LDOu×T0c))):=λ(v0,v1,v2,_)=>
bif(decide (v2<v1))then((d9 v2).bind λx0=>
(dJ v0 x0).bind λx1=>
(bif(x1.1 != v2)then(some (v0,v1,v2,true,()))else
bif(decide (x1.2.1<0))then(some (v0,v1,v2,true,()))else
bif(decide (x1.2.1>=2))then(some (v0,v1,v2,true,()))else
let x2:=dO x1.2.2.length;
some (v0,v1,v2,(decide (x2>16)),()):Option (LDOu×T0c)).bind λ(x2,x3,x4,x5,_)=>
bif x5 then(some (.inr (.inl (false,()))))else
let x6:=w64 (x4+1);
some (.inl (x2,x3,x6,())))else
some (.inr (.inr (v0,v1,v2,false,())))
def jY(a0:LDOu):Option (Bool×Unit):=
let x0:=dO a0.length;
(match dX io NN (a0,x0,0,())with
|none=>none
|some (.inl (x1,_))=>
some (x1,())
|some (.inr (x1,_))=>
some (true,()))
def ya:X.Cfg:=⟨E0,[],[],[⟨8,0,qE,[(.normal,qS [sP 5 kW,Uaa 6,Uaa 7,Xaa 31] [])]⟩,⟨3,1,qS [sP 5 kW,Uaa 6,Uaa 7] [],[(.ret,qS [Xaa 2] []),(.exit 0,qS [sP 5 kW,Uaa 6,Uaa 7,Xaa 8] [])]⟩]⟩
def qV:Ctr:=⟨113,22,uL [kW],[],[⟨uab,[.one],[]⟩],ap1 jY⟩
theorem xK:Lk 1 qV:=ls ya aN
def jk:T1M->Option (T1M⊕((Bool×Unit)⊕(LLI×T1w))):=λ(v0,v1,v2,v3)=>
bif(decide (v2<v1))then((d9 v2).bind λx0=>
(dJ v0 x0).bind λx1=>
let x2:=dO x1.length;
bif(decide (x2>64))then(some (.inr (.inl (false,()))))else
let x3:=w64 (v2+1);
some (.inl (v0,v1,x3,v3)))else
some (.inr (.inr (v0,v1,v2,false,v3)))
def jj:T1H->Option (T1H⊕((Bool×Unit)⊕(LDOu×T1w))):=λ(v0,v1,v2,v3)=>
bif(decide (v2<v1))then((d9 v2).bind λx0=>
(dJ v0 x0).bind λx1=>
(fR x1.2.2 16).bind λ(x2,_)=>
bif(!x2)then(some (.inr (.inl (false,()))))else
let x3:=w64 (v2+1);
some (.inl (v0,v1,x3,v3)))else
some (.inr (.inr (v0,v1,v2,false,v3)))
def iW(a0:List (Int))(a1:List (Int))(a2:List LI)(a3:List LDCn)(a4:LDOp)(a5:LDOu):Option (Bool×Unit):=
let x0:=dO a2.length;
(match dX jk NN (a2,x0,0,a0,a1,a2,a3,a4,a5,())with
|none=>none
|some (.inl (x1,_))=>
some (x1,())
|some (.inr (x1,x2,x3,x4,x5,x6,x7,x8,x9,ac,_))=>
let ae:=dO ac.length;
(match dX jj NN (ac,ae,0,x5,x6,x7,x8,x9,ac,())with
|none=>none
|some (.inl (af,_))=>
some (af,())
|some (.inr (af,ag,ah,ai,aj,ak,am,an,ap,aq,_))=>
let av:=dO aj.length;
bif(decide (av<=64))then(let ax:Int:=(dO ak.length);
bif(decide (ax<=64))then(let ay:Int:=(dO am.length);
bif(decide (ay<=2))then((jZ an ap).bind λ(az,_)=>
bif az then(let aA:Int:=(dO aq.length);
bif(decide (aA<=200))then((jY aq).bind λ(aB,_)=>
some (aB,()))else
some (false,()))else
some (false,()))else
some (false,()))else
some (false,()))else
some (false,())))
def Bo:X.Cfg:=⟨E0,[i7,pm,qV],[],[⟨3,0,qS [zaa 1,sP 8 (yaa RW),Uaa 9,Uaa 10] [(4,zaf)],[(.ret,qS [Xaa 2] []),(.exit 0,qS [zaa 1,sP 8 (yaa RW),Uaa 9,Uaa 10,Xaa 11] [(4,zaf)])]⟩,⟨12,1,qS [zaa 1,sP 19 kW,Uaa 20,Uaa 21] [(4,zaf)],[(.ret,qS [Xaa 2] []),(.exit 2,qS [zaa 1,sP 19 kW,Uaa 20,Uaa 21,Xaa 22] [(4,zaf)])]⟩]⟩
def my:Ctr:=⟨86,23,[.agg zaf],[],[⟨uab,[.one],[]⟩],ap6 iW⟩
theorem o9:Lk 4 my:=ls Bo (aC kF (aC tE (aC xK aN)))
def oR(a0:List LI)(a1:List LI)(a2:List (Int))(a3:List (Int)):Option (LI×LI×LLI×LLCn×LDOp×Unit×Int×Unit):=
(oS a0).bind λ(x0,x1,x2,_)=>
bif(x2 != 0)then(some ([],[],[],[],[],(),x2,()))else
bif(dV 2 0 a2.length)then let x3:List (Int):=(List.append [] a2);
bif(dV 2 0 a3.length)then let x4:List (Int):=(List.append [] a3);
(fI a1).bind λ(x5,_)=>
(iW x3 x4 x5 x0 x1 []).bind λ(x6,_)=>
bif(!x6)then(some ([],[],[],[],[],(),3,()))else
some (x3,x4,x5,x0,x1,(),0,())else none else none
def Bp:X.Cfg:=⟨E0,[yF,ir,my],[],[]⟩
def t7:Ctr:=⟨91,24,uL [(yaa RW),(yaa RW),RW,RW],[],[⟨uL [RW,RW,(yaa RW),(yaa d7),iu,N1,I64],[.agg 6,.one],[]⟩],ap4 oR⟩
theorem AV:Lk 5 t7:=ls Bp (aC ET (aC kE (aC o9 aN)))
def lq(a0:List (Int))(a1:Int):Option (LI×LI×LLI×LLCn×LDOp×Unit×T07):=
(fW 5 a0 a1).bind λ(x0,x1,x2,_)=>
(fW 3 x1 x2).bind λ(x3,x4,x5,_)=>
let x6:List LI:=[x0,x3];
(fW 8 x4 x5).bind λ(x7,x8,x9,_)=>
(fW 4 x8 x9).bind λ(ac,ae,af,_)=>
let ag:List LI:=[x7,ac];
(fW 5 ae af).bind λ(ah,ai,aj,_)=>
(fW 5 ai aj).bind λ(ak,am)=>
(oR x6 ag ah ak).bind λ(ap,aq,av,ax,ay,az,aA,_)=>
some (ap,aq,av,ax,ay,az,am)
def zC:X.Cfg:=⟨E0,[rj,t7],[(10,(uaa CW)),(15,(uaa CW))],[]⟩
def sm:Ctr:=⟨54,25,[.ptr ⟨2,0,[]⟩ [0]],[(2,yab)],[⟨uL [RW,RW,(yaa RW),(yaa d7),iu,N1],[.agg 6],[(2,yab)]⟩],ap2 lq⟩
theorem zi:Lk 6 sm:=ls zC (aC vG (aC AV aN))
def jt:T28->Option (T28⊕((Bool×Unit)⊕T2e)):=λ(v0,v1,v2,v3,v4,v5,v6,v7,v8,v9,v10,v11,_)=>
bif(decide (v1<v0))then((d9 v1).bind λx0=>
(dJ v11 x0).bind λx1=>
(dJ v11 x0).bind λx2=>
(bif(decide (x2<0))then(some (v0,v1,true,v2,v3,v4,v5,v6,v7,v8,v9,v10,v11,()))else
bif(decide (x2>=8))then(some (v0,v1,true,v2,v3,v4,v5,v6,v7,v8,v9,v10,v11,()))else
(d9 v1).bind λx3=>
bif(Nat.beq x3 0)then(bif(!v7)then(some (v0,v1,(x2 != 0),v2,v3,v4,v5,v6,v7,v8,v9,v10,v11,()))else
some (v0,v1,false,v2,v3,v4,v5,v6,v7,v8,v9,v10,v11,()))else
bif(Nat.beq x3 1)then(bif(!v8)then(some (v0,v1,(x2 != 0),v2,v3,v4,v5,v6,v7,v8,v9,v10,v11,()))else
some (v0,v1,false,v2,v3,v4,v5,v6,v7,v8,v9,v10,v11,()))else
bif(Nat.beq x3 2)then(bif(!v9)then(some (v0,v1,(x2 != 0),v2,v3,v4,v5,v6,v7,v8,v9,v10,v11,()))else
some (v0,v1,false,v2,v3,v4,v5,v6,v7,v8,v9,v10,v11,()))else
bif(Nat.beq x3 3)then bif(!v10)then(some (v0,v1,(x2 != 0),v2,v3,v4,v5,v6,v7,v8,v9,v10,v11,()))else
some (v0,v1,false,v2,v3,v4,v5,v6,v7,v8,v9,v10,v11,())else none:Option (T2e)).bind λ(x3,x4,x5,x6)=>
bif x5 then(some (.inr (.inl (false,()))))else
let aj:=w64 (x4+1);
some (.inl (x3,aj,x6)))else
some (.inr (.inr (v0,v1,false,v2,v3,v4,v5,v6,v7,v8,v9,v10,v11,())))
def mi(a0:Int)(a1:Int)(a2:Int)(a3:Int)(a4:Int):Option (Bool×Unit):=
bif(decide (a0<0))then(some (false,()))else
bif(decide (a0>24))then(some (false,()))else
(jK a0).bind λ(x0,x1,x2,x3,_)=>
let x4:List (Int):=[a1,a2,a3];
let x5:=dO x4.length;
(match dX jt NN (x5,0,a0,a1,a2,a3,a4,x0,x1,x2,x3,x4,())with
|none=>none
|some (.inl (x6,_))=>
some (x6,())
|some (.inr (x6,x7,x8,x9,ac,ae,af,ag,ah,ai,aj,ak,am,_))=>
(bif(decide (ag<0))then(some (true,x9,ac,ae,af,ag,()))else
bif(decide (ag>65535))then(some (true,x9,ac,ae,af,ag,()))else
bif(!ak)then(some ((ag != 0),x9,ac,ae,af,ag,()))else
some (false,x9,ac,ae,af,ag,()):Option (Bool×T0K)).bind λ(an,ap,aq,av,ax,ay,_)=>
bif an then(some (false,()))else
(gO ap).bind λ(az,_)=>
bif az then(some ((decide (ay<64)),()))else
bif(ap==15)then(some ((decide (ay<4)),()))else
bif(ap==23)then(some ((decide (ay<=15)),()))else
some (true,()))
def BH:X.Cfg:=⟨E0,[rd,jQ],[],[⟨12,0,qE,[(.normal,qS [zaa 1,zaa 3,Zaa 23 49,Uaa 24,Uaa 25,Xaa 45] [(4,uad),(8,Xaf),(49,yac)])]⟩,⟨7,1,qS [zaa 1,zaa 3,Zaa 23 49,Uaa 24,Uaa 25] [(4,uad),(8,Xaf),(49,yac)],[(.ret,qS [Xaa 2] []),(.exit 0,qS [zaa 1,zaa 3,Zaa 23 49,Uaa 24,Uaa 25,Xaa 26] [(4,uad),(8,Xaf),(49,yac)])]⟩,⟨15,2,qE,[(.normal,qS [zaa 1,Xaa 64] [(4,uad)])]⟩]⟩
def ui:Ctr:=⟨135,26,[.agg uad],[],[⟨uab,[.one],[]⟩],ap5 mi⟩
theorem A8:Lk 2 ui:=ls BH (aC vD (aC lJ aN))
def jq:LLI×T0L->Option ((LLI×T0L)⊕((Int×Unit)⊕(LLI×T0V))):=λ(v0,v1,v2,v3,v4,v5,_)=>
bif(decide (v2<v1))then((d9 v2).bind λx0=>
(dJ v0 x0).bind λx1=>
let x2:=dO x1.length;
(d9 v2).bind λx3=>
(dJ v4 x3).bind λx4=>
bif(decide (x2>x4))then(some (.inr (.inl (1,()))))else
let x5:=w64 (v2+1);
some (.inl (v0,v1,x5,v3,v4,v5,())))else
some (.inr (.inr (v0,v1,v2,false,v3,v4,v5,())))
def jp:T11->Option (T11⊕((Int×Unit)⊕T1h)):=λ(v0,v1,v2,v3)=>
bif(decide (v2<v1))then((d9 v2).bind λx0=>
(dJ v0 x0).bind λx1=>
(mi x1.1 x1.2.1 x1.2.2.1 x1.2.2.2.1 x1.2.2.2.2).bind λ(x2,_)=>
bif(!x2)then(some (.inr (.inl (5,()))))else
let x3:=w64 (v2+1);
some (.inl (v0,v1,x3,v3)))else
some (.inr (.inr (v0,v1,v2,false,v3)))
def jo:T11->Option (T11⊕((Int×Unit)⊕T1h)):=λ(v0,v1,v2,v3,v4,v5,_)=>
bif(decide (v2<v1))then((d9 v2).bind λx0=>
(dJ v0 x0).bind λx1=>
((gO x1.1).bind λ(x2,_)=>
bif x2 then(let x3:Int:=(dO v3.length);
bif(decide (x1.2.2.2.2>=x3))then(some (v0,v1,v2,true,v3,v4,v5,()))else
bif(x1.1==15)then(let x4:Int:=(dO v4.length);
some (v0,v1,v2,(decide (x1.2.2.2.2>=x4)),v3,v4,v5,()))else
some (v0,v1,v2,false,v3,v4,v5,()))else
bif(x1.1==15)then(let x3:Int:=(dO v4.length);
some (v0,v1,v2,(decide (x1.2.2.2.2>=x3)),v3,v4,v5,()))else
some (v0,v1,v2,false,v3,v4,v5,()):Option (T1h)).bind λ(x2,x3,x4,x5,x6)=>
bif x5 then(some (.inr (.inl (6,()))))else
let x9:=w64 (x4+1);
some (.inl (x2,x3,x9,x6)))else
some (.inr (.inr (v0,v1,v2,false,v3,v4,v5,())))
def j8(a0:LDIn)(a1:List (Int))(a2:List LI):Option (Int×Unit):=
(gS a1).bind λ(x0,_)=>
bif(!x0)then(some (1,()))else
let x1:=dO a2.length;
let x2:=dO a1.length;
bif(x1 != x2)then(some (1,()))else
let x3:=dO a2.length;
(match dX jq NN (a2,x3,0,a0,a1,a2,())with
|none=>none
|some (.inl (x4,_))=>
some (x4,())
|some (.inr (x4,x5,x6,x7,x8,x9))=>
let ae:=dO x8.length;
bif(decide (ae<1))then(some (3,()))else
let af:=dO x8.length;
bif(decide (af>64))then(some (3,()))else
let ag:=dO x8.length;
(match dX jp NN (x8,ag,0,x8,x9)with
|none=>none
|some (.inl (ah,_))=>
some (ah,())
|some (.inr (ah,ai,aj,ak,am,an))=>
let aq:=dO am.length;
(match dX jo NN (am,aq,0,am,an)with
|none=>none
|some (.inl (av,_))=>
some (av,())
|some (.inr (av,_))=>
some (0,()))))
def BG:X.Cfg:=⟨E0,[mC,ui,jQ],[],[⟨6,0,qS [zaa 1,sP 23 (yaa RW),Uaa 24,Uaa 25] [(4,zab)],[(.ret,qS [Uaa 2] []),(.exit 0,qS [zaa 1,sP 23 (yaa RW),Uaa 24,Uaa 25,Xaa 26] [(4,zab)])]⟩,⟨18,1,qS [zaa 1,sP 50 gt,Uaa 51,Uaa 52] [(4,zab)],[(.ret,qS [Uaa 2] []),(.exit 2,qS [zaa 1,sP 50 gt,Uaa 51,Uaa 52,Xaa 53] [(4,zab)])]⟩,⟨32,2,qE,[(.normal,qS [zaa 1,sP 61 gt,Uaa 62,Uaa 63,Xaa 90] [(4,zab)])]⟩,⟨27,3,qS [zaa 1,sP 61 gt,Uaa 62,Uaa 63] [(4,zab)],[(.ret,qS [Uaa 2] []),(.exit 4,qS [zaa 1,sP 61 gt,Uaa 62,Uaa 63,Xaa 64] [(4,zab)])]⟩]⟩
def pu:Ctr:=⟨109,27,[.agg zab],[],[⟨Xac,[.one],[]⟩],ap3 j8⟩
theorem tH:Lk 3 pu:=ls BG (aC pe (aC A8 (aC lJ aN)))
def jw:T24->Option (T24⊕((Bool×Unit)⊕T2c)):=λ(v0,v1,v2,v3,v4,v5,v6,v7,v8,v9)=>
bif(decide (v8<v7))then((match((d9 v8).bind λx0=>
(dJ v6 x0).bind λx1=>
(d9 v1).bind λx2=>
(dJ v0 x2).bind λx3=>
let x4:=w64 (v2+x3);
bif(decide (x4>=x1))then((d9 v8).bind λx5=>
(dJ v0 x5).bind λx6=>
let x7:=w64 (x1+x6);
bif(decide (x7>=v2))then(some (.inl (false,())))else
some (.inr (v0,v1,v2,v3,v4,v5,v6,v7,v8,false,v9)))else
some (.inr (v0,v1,v2,v3,v4,v5,v6,v7,v8,false,v9)):Option ((Bool×Unit)⊕T2c))with
|none=>none
|some (.inl (x0,_))=>
some (.inr (.inl (x0,())))
|some (.inr (x0,x1,x2,x3,x4,x5,x6,x7,x8,x9,ac))=>
let af:=w64 (x8+1);
some (.inl (x0,x1,x2,x3,x4,x5,x6,x7,af,ac))))else
some (.inr (.inr (v0,v1,v2,v3,v4,v5,v6,v7,v8,false,v9)))
def jv:LI×T0N->Option ((LI×T0N)⊕((Bool×Unit)⊕(LI×T12))):=λ(v0,v1,v2,v3,v4,v5,_)=>
bif(decide (v3<v2))then((d9 v3).bind λx0=>
(dJ v1 x0).bind λx1=>
bif(decide (x1<0))then(some (.inr (.inl (false,()))))else
(d9 v3).bind λx2=>
(dJ v0 x2).bind λx3=>
let x4:=w64 (512-x3);
bif(decide (x1>x4))then(some (.inr (.inl (false,()))))else
(d9 v3).bind λx5=>
bif(gi 0 x5 v4.length)then let x6:List (Int):=(lO v4 0 (Nat.sub x5 0));
let x7:=dO x6.length;
(match dX jw NN (v0,v3,x1,v1,v2,v3,x6,x7,0,v4,v5,())with
|none=>none
|some (.inl (x8,_))=>
some (.inr (.inl (x8,())))
|some (.inr (x8,x9,ac,ae,af,ag,ah,ai,aj,ak,am))=>
let ap:=w64 (ag+1);
some (.inl (x8,ae,af,ap,am)))else none)else
some (.inr (.inr (v0,v1,v2,v3,false,v4,v5,())))
def iY(a0:List (Int))(a1:Int)(a2:List (Int)):Option (Bool×Unit):=
(gS a2).bind λ(x0,_)=>
bif(!x0)then(some (false,()))else
let x1:=dO a0.length;
let x2:=dO a2.length;
bif(x1 != x2)then(some (false,()))else
let x3:=dO a0.length;
(match dX jv NN (a2,a0,x3,0,a0,a1,())with
|none=>none
|some (.inl (x4,_))=>
some (x4,())
|some (.inr (x4,_))=>
some (true,()))
def BM:X.Cfg:=⟨E0,[mC],[],[⟨18,0,qE,[(.ret,qS [Xaa 4] []),(.normal,qS [sP 1 RI,zaa 2,Uaa 5,Uaa 6,sP 21 RI,Uaa 22,Uaa 23,sP 42 RI,Uaa 43,Uaa 44,Xaa 66] [(6,Zab)])]⟩,⟨15,1,qS [sP 1 RI,zaa 2,Uaa 5,Uaa 6,sP 21 RI,Uaa 22,Uaa 23,sP 42 RI,Uaa 43,Uaa 44] [(6,Zab)],[(.ret,qS [Xaa 4] []),(.exit 2,qS [sP 1 RI,zaa 2,Uaa 5,Uaa 6,sP 21 RI,Uaa 22,Uaa 23,sP 42 RI,Uaa 43,Uaa 44,Xaa 45] [(6,Zab)])]⟩,⟨6,2,qS [sP 1 RI,zaa 2,sP 21 RI,Uaa 22,Uaa 23] [(6,Zab)],[(.ret,qS [Xaa 4] []),(.exit 0,qS [sP 1 RI,zaa 2,sP 21 RI,Uaa 22,Uaa 23,Xaa 24] [(6,Zab)])]⟩]⟩
def mB:Ctr:=⟨110,28,[.agg Zab,shU RI],[],[⟨uab,[.one],[]⟩],ap3 iY⟩
theorem pd:Lk 2 mB:=ls BM (aC pe aN)
def wA:Int×Int×LDLn×Unit->Option ((Int×Int×LDLn×Unit)⊕(Int×Int×Bool×LDLn×Unit)):=λ(v0,v1,v2,_)=>
bif(decide (v1<v0))then((d9 v1).bind λx0=>
(dJ v2 x0).bind λx1=>
(dJ v2 x0).bind λx2=>
let x3:=(List.modify v2 x0 λe=>((-1),e.2));
let x4:=w64 (v1+1);
some (.inl (v0,x4,x3,())))else
some (.inr (v0,v1,false,v2,()))
def oY:Option (LDLn×Unit):=
bif(rJ 4 4 3)then let x0:LDLn:=(List.replicate 4 (0,(false,[])));
let x1:=dO x0.length;
(dX wA NN (x1,0,x0,())).bind λ(x2,x3,x4,x5,_)=>
some (x5,())else none
def BL:X.Cfg:=⟨E0,[],[(3,P3)],[(lx 4 0 [Zaa 1 5,Uaa 5,Uaa 6] [(5,uL [l9])] 7)]⟩
def uk:Ctr:=⟨136,29,[],[],[⟨uL [l9],[.one],[]⟩],λh=>oY⟩
theorem Ba:Lk 1 uk:=ls BL aN
def qj:T2j->Option (T2j⊕(Int×LLI×Int×Int×LI×T27)):=λ(v0,v1,v2,v3,v4,v5,v6,v7,v8,v9,v10,v11,v12,v13,v14,v15,_)=>
bif(decide (v6<v5))then((d9 v6).bind λx0=>
(dJ v4 x0).bind λx1=>
(d9 v0).bind λx2=>
(dJ v10 x2).bind λx3=>
let x4:=w64 (x3+v6);
(d9 x4).bind λx5=>
(dJ v14 x5).bind λx6=>
(dJ v14 x5).bind λx7=>
let x8:=List.modify v14 x5 λe=>(e.1,x1);
let x9:=w64 (v6+1);
some (.inl (v0,v1,v2,v3,v4,v5,x9,v7,v8,v9,v10,v11,v12,v13,x8,v15,())))else
some (.inr (v0,v1,v2,v3,v4,v5,v6,false,v7,v8,v9,v10,v11,v12,v13,v14,v15,()))
def mS:T2d->Option (T2d⊕((Int×T0a)⊕(LLI×T27))):=λ(v0,v1,v2,v3,v4,v5)=>
bif(decide (v2<v1))then((d9 v2).bind λx0=>
(dJ v0 x0).bind λx1=>
let x2:=dO x1.length;
(d9 v2).bind λx3=>
(dJ v4 x3).bind λx4=>
bif(decide (x2>x4))then(some (.inr (.inl (1,(),(),()))))else
let x5:=dO x1.length;
(dX qj NN (v2,v0,v1,v2,x1,x5,0,v3,v4,v5)).bind λ(x6,x7,x8,x9,ac,ae,af,ag,ah)=>
let ax:=w64 (x9+1);
some (.inl (x7,x8,ax,ah)))else
some (.inr (.inr (v0,v1,v2,false,v3,v4,v5)))
def nE(a0:LDIn)(a1:List (Int))(a2:List LI)(a3:List (Int))(a4:Int):Option (LDCe×LDLn×Int×Unit):=
(iY a3 a4 a1).bind λ(x0,_)=>
bif(!x0)then(some ([],[],1,()))else
let x1:=dO a2.length;
let x2:=dO a1.length;
bif(x1 != x2)then(some ([],[],1,()))else
bif(rJ 512 512 2)then let x3:LDCe:=(List.replicate 512 (0,0));
(oY).bind λ(x4,_)=>
let x5:=dO a2.length;
(match dX mS NN (a2,x5,0,a0,a1,a2,a3,a4,(),(),x3,x4,())with
|none=>none
|some (.inl (x6,x7,x8,_))=>
some ([],[],x6,())
|some (.inr (x6,x7,x8,x9,ac,ae,af,ag,ah,ai,aj,ak,am,_))=>
some (ak,am,0,()))else none
def DL:X.Cfg:=⟨E0,[mB,uk],[],[⟨16,0,qS [zaa 2,zaa 3,zaa 4,zaa 6,Uaa 7,sP 30 (yaa RW),Uaa 31,Uaa 32,sP 46 RW,Uaa 47,Uaa 48] [(6,zab),(8,Zab),(10,Xab),(14,Xae)],[(.exit 2,qS [zaa 2,zaa 3,zaa 4,zaa 6,Uaa 7,sP 30 (yaa RW),Uaa 31,Uaa 32,sP 46 RW,Uaa 47,Uaa 48,Xaa 49] [(6,zab),(8,Zab),(10,Xab),(14,Xae)])]⟩,⟨7,1,qS [zaa 2,zaa 3,zaa 4,zaa 6,sP 30 (yaa RW),Uaa 31,Uaa 32] [(6,zab),(8,Zab),(10,Xab),(14,Xae)],[(.ret,qS [zaa 4,Uaa 5] [(10,Xab)]),(.exit 0,qS [zaa 2,zaa 3,zaa 4,zaa 6,sP 30 (yaa RW),Uaa 31,Uaa 32,Xaa 33] [(6,zab),(8,Zab),(10,Xab),(14,Xae)])]⟩]⟩
def wi:Ctr:=⟨111,30,[.agg zab,.agg Zab],[],[⟨uL [(uaa KCe),l9,I64],[.agg 2,.one],[]⟩],ap5 nE⟩
theorem C9:Lk 3 wi:=ls DL (aC pd (aC Ba aN))
def pN:T20->Option (T20⊕(Int×Bool×T1X)):=λ(v0,v1,v2,v3,v4,v5,v6,v7,v8,v9,v10,_)=>
bif(decide (v0<4))then(bif(rJ 8 8 2)then let x0:LDCe:=(List.replicate 8 (0,0));
(bif(v0==0)then(some (v0,v1,v2,v3,v4,v5,v6,v7,v8,v9,v10,1,x0,0,0,(-1),(-1),0,0,()))else
some (v0,v1,v2,v3,v4,v5,v6,v7,v8,v9,v10,0,x0,0,0,(-1),(-1),0,0,()):Option (Int×Unit×Int×Unit×Unit×Unit×T2f)).bind λ(x1,x2,x3,x4,x5,x6,x7,x8,x9,ac,ae,af,ag,ah,ai,aj,ak,am,an,_)=>
let ap:LDTh:=[(af,(ag,(ah,(ai,(aj,(ak,(am,an)))))))];
bif(dV 80 ae.length ap.length)then let aq:LDTh:=(List.append ae ap);
let av:=w64 (x1+1);
some (.inl (av,x2,x3,x4,x5,x6,x7,x8,x9,ac,aq,()))else none else none)else
some (.inr (v0,false,v1,v2,v3,v4,v5,v6,v7,v8,v9,v10,()))
def mh(a0:LDIn)(a1:List (Int))(a2:List LI)(a3:List (Int))(a4:Int):Option (LI×Int×LDCe×LDLn×LDTh×Int×Unit):=
(j8 a0 a1 a2).bind λ(x0,_)=>
bif(x0 != 0)then(some ([],0,[],[],[],x0,()))else
(iY a3 a4 a1).bind λ(x1,_)=>
bif(!x1)then(some ([],0,[],[],[],1,()))else
(nE a0 a1 a2 a3 a4).bind λ(x2,x3,x4,_)=>
bif(dV 8 0 a3.length)then let x5:List (Int):=(List.append [] a3);
(dX pN NN (0,(),0,(),(),(),x5,a4,x2,x3,[],())).bind λ(x6,x7,x8,x9,ac,ae,af,ag,ah,ai,aj,ak,_)=>
some (ag,ah,ai,aj,ak,0,())else none
def BF:X.Cfg:=⟨E0,[pu,mB,wi],[(49,PQ),(50,PQ)],[⟨18,0,qE,[(.normal,qS [zaa 4,zaa 9,zaa 11,Uaa 38] [(10,yae),(20,yaj),(24,uah)])]⟩,(lx 12 1 [zaa 4,zaa 9,Uaa 38] [(10,yae),(20,yaj)] 39)]⟩
def uh:Ctr:=⟨85,31,[.agg zab,.agg Zab],[],[⟨uL [RI,CW,gw,iS,sO,I64],[.agg 5,.one],[]⟩],ap5 mh⟩
theorem A7:Lk 4 uh:=ls BF (aC tH (aC pd (aC C9 aN)))
def fV(a0:List (Int))(a1:Int)(a2:Int):Option (Bool×Unit):=
bif(decide (a1>=0))then(let x0:Int:=(dO a0.length);
bif(decide (a1<x0))then(bif(decide (a2>=0))then((d9 a1).bind λx1=>
(dJ a0 x1).bind λx2=>
some ((decide (a2<x2)),()))else
some (false,()))else
some (false,()))else
some (false,())
def zw:X.Cfg:=⟨E0,[],[],[]⟩
def ji:Ctr:=⟨137,32,[shU RI,.agg zad],[],[⟨uab,[.one],[]⟩],ap3 fV⟩
theorem lw:Lk 1 ji:=ls zw aN
def hJ(a0:List (Int))(a1:Int)(a2:Int)(a3:Int)(a4:Int):Option (Bool×Unit):=
bif(a1==0)then(bif(a3==0)then(some ((a4==0),()))else
some (false,()))else
bif(a1==2)then(bif(a3==0)then(some ((a4==0),()))else
some (false,()))else
bif(a1==1)then(bif(a2==0)then((fV a0 a3 a4).bind λ(x0,_)=>
some (x0,()))else
some (false,()))else
some (false,())
def zu:X.Cfg:=⟨E0,[ji],[],[]⟩
def ly:Ctr:=⟨114,33,[shU RI,.agg Uaf],[],[⟨uab,[.one],[]⟩],ap5 hJ⟩
theorem nX:Lk 2 ly:=ls zu (aC lw aN)
def iV:T1K->Option (T1K⊕((Bool×Unit)⊕(LI×LLCn×Int×Int×LDCn×T0J))):=λ(v0,v1,v2,v3,v4,v5,v6,v7)=>
bif(decide (v6<v5))then((d9 v6).bind λx0=>
(dJ v4 x0).bind λx1=>
(hJ v0 x1.1 x1.2.1 x1.2.2.1 x1.2.2.2).bind λ(x2,_)=>
bif(!x2)then(some (.inr (.inl (false,()))))else
let x3:=w64 (v6+1);
some (.inl (v0,v1,v2,v3,v4,v5,x3,v7)))else
some (.inr (.inr (v0,v1,v2,v3,v4,v5,v6,false,v7)))
def iU:LI×T0P->Option ((LI×T0P)⊕((Bool×Unit)⊕(LI×LLCn×T0J))):=λ(v0,v1,v2,v3,v4)=>
bif(decide (v3<v2))then((d9 v3).bind λx0=>
(dJ v1 x0).bind λx1=>
let x2:=dO x1.length;
(match dX iV NN (v0,v1,v2,v3,x1,x2,0,v4)with
|none=>none
|some (.inl (x3,_))=>
some (.inr (.inl (x3,())))
|some (.inr (x3,x4,x5,x6,x7,x8,x9,ac,ae))=>
let ag:=w64 (x6+1);
some (.inl (x3,x4,x5,ag,ae))))else
some (.inr (.inr (v0,v1,v2,v3,false,v4)))
def lh(a0:List (Int))(a1:List LDCn)(a2:LDOp):Option (Bool×Unit):=
let x0:=dO a1.length;
(match dX iU NN (a0,a1,x0,0,a1,a2,())with
|none=>none
|some (.inl (x1,_))=>
some (x1,())
|some (.inr (x1,_))=>
some (true,()))
def zm:X.Cfg:=⟨E0,[ly],[],[⟨9,0,qS [sP 0 RI,sP 10 (yaa d7),Uaa 11,Uaa 12,sP 16 d7,Uaa 17,Uaa 18] [(8,Zac)],[(.ret,qS [Xaa 4] []),(.exit 2,qS [sP 0 RI,sP 10 (yaa d7),Uaa 11,Uaa 12,sP 16 d7,Uaa 17,Uaa 18,Xaa 19] [(8,Zac)])]⟩,⟨3,1,qS [sP 0 RI,sP 10 (yaa d7),Uaa 11,Uaa 12] [(8,Zac)],[(.ret,qS [Xaa 4] []),(.exit 0,qS [sP 0 RI,sP 10 (yaa d7),Uaa 11,Uaa 12,Xaa 13] [(8,Zac)])]⟩]⟩
def r8:Ctr:=⟨87,34,[shU RI,.agg Zac],[],[⟨uab,[.one],[]⟩],ap3 lh⟩
theorem yY:Lk 3 r8:=ls zm (aC nX aN)
def iy:T1L->Option (T1L⊕(LLCn×T1y)):=λ(v0,v1,v2,v3,v4,v5,v6,v7,v8,_)=>
bif(decide (v2<v1))then((d9 v2).bind λx0=>
(dJ v0 x0).bind λx1=>
bif(dV 24 0 x1.length)then let x2:LDCn:=(List.append [] x1);
bif(dV 24 v7.length (List.length [x2]))then let x3:List LDCn:=(List.append v7 [x2]);
let x4:=w64 (v2+1);
some (.inl (v0,v1,x4,v3,v4,v5,v6,x3,v8,()))else none else none)else
some (.inr (v0,v1,v2,false,v3,v4,v5,v6,v7,v8,()))
def gh(a0:List LDCn)(a1:LDOp):Option (T09):=
bif(dV 24 0 a1.length)then let x0:LDOp:=(List.append [] a1);
let x1:=dO a0.length;
(dX iy NN (a0,x1,0,a0,a1,(),(),[],x0,())).bind λ(x2,x3,x4,x5,x6,x7,x8,x9,ac)=>
some (ac)else none
def Ds:X.Cfg:=⟨E0,[],[(21,(uaa KCn)),(22,(uaa KCn))],[(lx 4 0 [zaa 2,zaa 3,sP 11 (yaa d7),Uaa 12,Uaa 13] [(4,Zac),(6,Xab),(8,uae)] 14)]⟩
def iN:Ctr:=⟨116,35,[.agg Zac],[],[⟨uae,[.agg 2],[]⟩],ap2 gh⟩
theorem jN:Lk 1 iN:=ls Ds aN
def iw:LDOu×Int×Int×LDOu×Unit->Option ((LDOu×Int×Int×LDOu×Unit)⊕(LDOu×Int×Int×Bool×LDOu×Unit)):=λ(v0,v1,v2,v3,_)=>
bif(decide (v2<v1))then((d9 v2).bind λx0=>
(dJ v0 x0).bind λx1=>
bif(dV 24 0 x1.2.2.length)then let x2:LDCn:=(List.append [] x1.2.2);
let x3:LDOu:=[(x1.1,(x1.2.1,x2))];
bif(dV 40 v3.length x3.length)then let x4:LDOu:=(List.append v3 x3);
let x5:=w64 (v2+1);
some (.inl (v0,v1,x5,x4,()))else none else none)else
some (.inr (v0,v1,v2,false,v3,()))
def jG(a0:LDOu):Option (LDOu×Unit):=
let x0:=dO a0.length;
(dX iw NN (a0,x0,0,[],())).bind λ(x1,x2,x3,x4,x5,_)=>
some (x5,())
def Dn:X.Cfg:=⟨E0,[],[(18,FN),(19,FN)],[(lx 4 0 [Zaa 3 9,sP 6 kW,Uaa 7,Uaa 8] [(9,yai)] 9)]⟩
def qW:Ctr:=⟨117,36,uL [kW],[],[⟨yai,[.one],[]⟩],ap1 jG⟩
theorem vx:Lk 1 qW:=ls Dn aN
def nn(a0:List (Int))(a1:List (Int))(a2:List LI)(a3:List LDCn)(a4:LDOp)(a5:LDOu):Option (T14):=
bif(dV 2 0 a0.length)then let x0:List (Int):=(List.append [] a0);
bif(dV 2 0 a1.length)then let x1:List (Int):=(List.append [] a1);
(fI a2).bind λ(x2,_)=>
(gh a3 a4).bind λ(x3,x4,_)=>
(jG a5).bind λ(x5,_)=>
some (x0,x1,x2,x3,x4,x5,())else none else none
def Dk:X.Cfg:=⟨E0,[ir,iN,qW],[],[]⟩
def qT:Ctr:=⟨88,37,[.agg zaf],[],[⟨zai,[.agg 6],[]⟩],ap6 nn⟩
theorem vv:Lk 2 qT:=ls Dk (aC kE (aC jN (aC vx aN)))
def yT:T0X->Option (T0X⊕T18):=λ(v0,v1,v2,v3,v4,v5,_)=>
bif(decide (v1<v0))then((d9 v1).bind λx0=>
(dJ v4 x0).bind λx1=>
(dJ v4 x0).bind λx2=>
let x3:=List.modify v4 x0 λe=>(-1);
let x4:=w64 (v1+1);
some (.inl (v0,x4,v2,v3,x3,v5,())))else
some (.inr (v0,v1,false,v2,v3,v4,v5,()))
def sq:Option (T08):=
bif(rJ 4 4 1)then let x0:List (Int):=(List.replicate 4 0);
bif(rJ 4 4 1)then let x1:List LI:=(List.replicate 4 []);
let x2:=dO x0.length;
(dX yT NN (x2,0,(),(),x0,x1,())).bind λ(x3,x4,x5,x6,x7,x8)=>
some (x8)else none else none
def E6:X.Cfg:=⟨E0,[],[(4,(uaa I64))],[(lx 4 0 [zaa 0,zaa 1,Uaa 8,Uaa 9] [(2,Xab),(4,Zad)] 10)]⟩
def yG:Ctr:=⟨89,38,[],[],[⟨Zad,[.agg 2],[]⟩],λh=>sq⟩
theorem EU:Lk 1 yG:=ls E6 aN
def wz:T2N->Option (T2N⊕(Int×Bool×T2L)):=λ(v0,v1,v2,v3,v4,v5,v6,v7,v8,v9,v10,v11,v12,v13,v14,v15,v16,v17,v18,v19,v20,v21,v22,v23,v24,v25,v26,v27,v28,v29,v30,v31,v32,v33,v34,v35,v36,_)=>
bif(decide (v0<4))then(bif(dV 8 v36.length (List.length [(-1)]))then let x0:List (Int):=(List.append v36 [(-1)]);
let x1:=w64 (v0+1);
some (.inl (x1,v1,v2,v3,v4,v5,v6,v7,v8,v9,v10,v11,v12,v13,v14,v15,v16,v17,v18,v19,v20,v21,v22,v23,v24,v25,v26,v27,v28,v29,v30,v31,v32,v33,v34,v35,x0,()))else none)else
some (.inr (v0,false,v1,v2,v3,v4,v5,v6,v7,v8,v9,v10,v11,v12,v13,v14,v15,v16,v17,v18,v19,v20,v21,v22,v23,v24,v25,v26,v27,v28,v29,v30,v31,v32,v33,v34,v35,v36,()))
def oQ(a0:LDIn)(a1:List (Int))(a2:List LI)(a3:List (Int))(a4:Int)(a5:List (Int))(a6:List (Int))(a7:List LI)(a8:List LDCn)(a9:LDOp)(a10:LDOu):Option (LDIn×LI×LLI×LI×Int×LDCe×LDLn×LDTh×LI×LI×LLI×LLCn×LDOp×LDOu×LI×LLI×Unit×T07):=
(mh a0 a1 a2 a3 a4).bind λ(x0,x1,x2,x3,x4,x5,_)=>
bif(x5 != 0)then(some ([],[],[],[],0,[],[],[],[],[],[],[],[],[],[],[],(),[],x5,()))else
(iW a5 a6 a7 a8 a9 a10).bind λ(x6,_)=>
bif(!x6)then(some ([],[],[],[],0,[],[],[],[],[],[],[],[],[],[],[],(),[],1,()))else
(lh a1 a8 a9).bind λ(x7,_)=>
bif(!x7)then(some ([],[],[],[],0,[],[],[],[],[],[],[],[],[],[],[],(),[],1,()))else
(nn a5 a6 a7 a8 a9 a10).bind λ(x8,x9,ac,ae,af,ag,_)=>
(sq).bind λ(ah,ai,_)=>
(dX wz NN (0,(),(),(),(),0,(),(),(),(),(),(),(),(),(),(),(),(),(),a0,a1,a2,x0,x1,x2,x3,x4,x8,x9,ac,ae,af,ag,ah,ai,(),[],())).bind λ(aj,ak,am,an,ap,aq,av,ax,ay,az,aA,aB,aD,aE,aF,aG,aH,aI,aJ,aK,aL,aM,aO,aP,aQ,aR,aS,aT,aU,aV,aW,aY,aZ,ba,bc,bd,bf,bg,_)=>
some (aL,aM,aO,aP,aQ,aR,aS,aT,aU,aV,aW,aY,aZ,ba,bc,bd,bf,bg,0,())
def Bm:X.Cfg:=⟨E0,[uh,my,r8,qT,yG],[],[(lx 11 0 [zaa 6,zaa 10,Uaa 39] [(14,uag),(22,uL [gt,RI,(yaa RW),RI,CW,gw,iS,jE,RW,RW,(yaa RW),(yaa d7),iu,kW,RI,(yaa RI),N1,(uaa I64)])] 40)]⟩
def t6:Ctr:=⟨52,39,[.agg zab,.agg Zab,.agg zaf],[],[⟨uL [gt,RI,(yaa RW),RI,CW,gw,iS,jE,RW,RW,(yaa RW),(yaa d7),iu,kW,RI,(yaa RI),N1,(uaa I64),I64],[.agg 18,.one],[]⟩],ap11 oQ⟩
theorem AU:Lk 5 t6:=ls Bm (aC A7 (aC o9 (aC yY (aC vv (aC EU aN)))))
def mp(a0:List (Int))(a1:Int):Option (T0I):=
(dL 4 a0 a1).bind λ(x0,x1,x2,_)=>
let x3:List (Int):=[0,1,2,3,7,63];
(dL 6 x1 x2).bind λ(x4,x5,x6,_)=>
(d9 x4).bind λx7=>
(dJ x3 x7).bind λx8=>
(dJ x3 x7).bind λx9=>
(dL 4 x5 x6).bind λ(ac,ae)=>
some (x0,x9,(ac==0),ae)
def BW:X.Cfg:=⟨E0,[gr],[],[]⟩
def uq:Ctr:=⟨56,40,[.ptr ⟨2,0,[]⟩ [0]],[(2,yab)],[⟨Uah,[.agg 3],[(2,yab)]⟩],ap2 mp⟩
theorem Bf:Lk 4 uq:=ls BW (aC gV aN)
def gX:T0z->Option (T0z⊕(LDTh×T0p)):=λ(v0,v1,v2,v3,_)=>
bif(decide (v2<v1))then(((d9 v2).bind λx0=>
(dJ v0 x0).bind λx1=>
bif(x1.1==1)then(bif(dV 8 v3.length (List.length [v2]))then let x2:List (Int):=(List.append v3 [v2]);
some (v0,v1,v2,x2,())else none)else
some (v0,v1,v2,v3,()):Option (T0z)).bind λ(x0,x1,x2,x3,_)=>
let x4:=w64 (x2+1);
some (.inl (x0,x1,x4,x3,())))else
some (.inr (v0,v1,v2,false,v3,()))
def mg(a0:LDTh):Option (LI×Unit):=
let x0:=dO a0.length;
(dX gX NN (a0,x0,0,[],())).bind λ(x1,x2,x3,x4,x5,_)=>
some (x5,())
def BC:X.Cfg:=⟨E0,[],[],[⟨7,0,qE,[(.normal,qS [Zaa 3 9,sP 6 jE,Uaa 7,Uaa 8] [(9,yac)])]⟩,(lx 4 1 [Zaa 3 9,sP 6 jE,Uaa 7,Uaa 8] [(9,yac)] 9)]⟩
def ue:Ctr:=⟨26,41,uL [jE],[],[⟨yac,[.one],[]⟩],ap1 mg⟩
theorem A4:Lk 1 ue:=ls BC aN
def li(a0:LDIn)(a1:List (Int))(a2:List LI)(a3:List (Int))(a4:Int)(a5:LDCe)(a6:LDLn)(a7:LDTh)(a8:List (Int))(a9:List (Int))(a10:List LI)(a11:List LDCn)(a12:LDOp)(a13:LDOu)(a14:List (Int))(a15:List LI)(a16:LDEn)(a17:List (Int)):Option (T2o):=
bif(dV 8 0 a17.length)then let x0:List (Int):=(List.append [] a17);
bif(dV 184 0 a16.length)then let x1:LDEn:=(List.append [] a16);
some (a0,a1,a2,a3,a4,a5,a6,a7,a8,a9,a10,a11,a12,a13,a14,a15,x1,x0,())else none else none
def zn:X.Cfg:=⟨E0,[],[(9,FO)],[]⟩
def r9:Ctr:=⟨92,42,[.agg Zah],[],[⟨zac,[.agg 18],[]⟩],ap18 li⟩
theorem yZ:Lk 1 r9:=ls zn aN
def mN(a0:List (Int))(a1:Int)(a2:LDCe)(a3:LDLn)(a4:LDTh)(a5:Int):Option (Bool×Unit):=
bif(decide (a5<0))then(some (false,()))else
let x0:=dO a4.length;
bif(decide (a5>=x0))then(some (false,()))else
(d9 a5).bind λx1=>
(dJ a4 x1).bind λx2=>
bif(x2.1==1)then(bif(x2.2.2.2.2.1 != (-1))then(some ((x2.2.2.2.2.2.1==(-1)),()))else
some (false,()))else
some (false,())
def E5:X.Cfg:=⟨E0,[],[],[]⟩
def sJ:Ctr:=⟨93,43,[.agg yad,shU I64],[],[⟨uab,[.one],[]⟩],ap6 mN⟩
theorem xM:Lk 1 sJ:=ls E5 aN
def iE:T1G->Option (T1G⊕(LDLn×Int×Int×Bool×T10)):=λ(v0,v1,v2,v3,v4,v5,v6,v7,v8,_)=>
bif(decide (v2<v1))then((d9 v2).bind λx0=>
(dJ v0 x0).bind λx1=>
bif(dV 4 0 x1.2.2.length)then let x2:LDCe:=(List.append [] x1.2.2);
let x3:LDLn:=[(x1.1,(x1.2.1,x2))];
bif(dV 40 v8.length x3.length)then let x4:LDLn:=(List.append v8 x3);
let x5:=w64 (v2+1);
some (.inl (v0,v1,x5,v3,v4,v5,v6,v7,x4,()))else none else none)else
some (.inr (v0,v1,v2,false,v3,v4,v5,v6,v7,v8,()))
def nF(a0:LDCe)(a1:LDLn):Option (T04):=
bif(dV 4 0 a0.length)then let x0:LDCe:=(List.append [] a0);
let x1:=dO a1.length;
(dX iE NN (a1,x1,0,a0,a1,(),(),x0,[],())).bind λ(x2,x3,x4,x5,x6,x7,x8,x9,ac)=>
some (ac)else none
def DM:X.Cfg:=⟨E0,[],[(24,P3),(25,P3)],[(lx 4 0 [zaa 2,zaa 3,sP 11 iS,Uaa 12,Uaa 13] [(4,yag),(6,Xab),(8,Xae)] 14)]⟩
def wl:Ctr:=⟨138,44,[.agg yag],[],[⟨Xae,[.agg 2],[]⟩],ap2 nF⟩
theorem Da:Lk 1 wl:=ls DM aN
def iC:T2p->Option (T2p⊕(LDTh×Int×Int×Bool×T2i)):=λ(v0,v1,v2,v3,v4,v5,v6,v7,v8,v9,v10,v11,v12,v13,v14,v15,v16,v17,_)=>
bif(decide (v2<v1))then((d9 v2).bind λx0=>
(dJ v0 x0).bind λx1=>
bif(dV 4 0 x1.2.1.length)then let x2:LDCe:=(List.append [] x1.2.1);
let x3:LDTh:=[(x1.1,(x2,(x1.2.2.1,(x1.2.2.2.1,(x1.2.2.2.2.1,(x1.2.2.2.2.2.1,(x1.2.2.2.2.2.2.1,x1.2.2.2.2.2.2.2)))))))];
bif(dV 80 v17.length x3.length)then let x4:LDTh:=(List.append v17 x3);
let x5:=w64 (v2+1);
some (.inl (v0,v1,x5,v3,v4,v5,v6,v7,v8,v9,v10,v11,v12,v13,v14,v15,v16,x4,()))else none else none)else
some (.inr (v0,v1,v2,false,v3,v4,v5,v6,v7,v8,v9,v10,v11,v12,v13,v14,v15,v16,v17,()))
def iD(a0:List (Int))(a1:Int)(a2:LDCe)(a3:LDLn)(a4:LDTh):Option (T0O):=
bif(dV 8 0 a0.length)then let x0:List (Int):=(List.append [] a0);
(nF a2 a3).bind λ(x1,x2,_)=>
let x3:=dO a4.length;
(dX iC NN (a4,x3,0,a0,a1,a2,a3,a4,(),0,(),(),(),x0,a1,x1,x2,[],())).bind λ(x4,x5,x6,x7,x8,x9,ac,ae,af,ag,ah,ai,aj,ak,am)=>
some (am)else none
def DG:X.Cfg:=⟨E0,[wl],[(32,PQ),(33,PQ)],[(lx 4 0 [zaa 2,zaa 3,sP 19 jE,Uaa 20,Uaa 21] [(4,yad),(6,yae),(8,Uac)] 22)]⟩
def lM:Ctr:=⟨120,45,[.agg yad],[],[⟨Uac,[.agg 5],[]⟩],ap5 iD⟩
theorem nO:Lk 2 lM:=ls DG (aC Da aN)
def j0(a0:List (Int))(a1:Int)(a2:LDCe)(a3:LDLn)(a4:LDTh)(a5:Int):Option (T13):=
(iD a0 a1 a2 a3 a4).bind λ(x0,x1,x2,x3,x4,_)=>
(mN a0 a1 a2 a3 a4 a5).bind λ(x5,_)=>
bif(!x5)then(some (x0,x1,x2,x3,x4,false,()))else
(d9 a5).bind λx6=>
(dJ x4 x6).bind λx7=>
(dJ x4 x6).bind λx8=>
(dJ x4 x6).bind λx9=>
(dJ x4 x6).bind λac=>
let ae:=(List.modify x4 x6 λe=>(e.1,(e.2.1,(e.2.2.1,(e.2.2.2.1,(e.2.2.2.2.1,(x8.2.2.1,e.2.2.2.2.2.2)))))));
(dJ ae x6).bind λaf=>
let ag:=(List.modify ae x6 λe=>(e.1,(e.2.1,(x9.2.2.2.2.1,e.2.2.2))));
some (x0,x1,x2,x3,ag,true,())
def yb:X.Cfg:=⟨E0,[lM,sJ],[],[]⟩
def qX:Ctr:=⟨94,46,[.agg yad,shU I64],[],[⟨uL [RI,CW,(uaa KCe),l9,sO,.bool],[.agg 5,.one],[]⟩],ap6 j0⟩
theorem xL:Lk 3 qX:=ls yb (aC nO (aC xM aN))
def ki(a0:Int)(a1:Int):Option (Bool×Unit):=
some ((decide (a0<=2)),())
def BQ:X.Cfg:=⟨E0,[],[],[]⟩
def pz:Ctr:=⟨173,47,[.agg Uab],[],[⟨uab,[.one],[]⟩],ap2 ki⟩
theorem tK:Lk 1 pz:=ls BQ aN
def ln:LDCe×T02->Option ((LDCe×T02)⊕((Bool×Unit)⊕(LDCe×T0c))):=λ(v0,v1,v2,_)=>
bif(decide (v2<v1))then((d9 v2).bind λx0=>
(dJ v0 x0).bind λx1=>
(ki x1.1 x1.2).bind λ(x2,_)=>
bif(!x2)then(some (.inr (.inl (false,()))))else
let x3:=w64 (v2+1);
some (.inl (v0,v1,x3,())))else
some (.inr (.inr (v0,v1,v2,false,())))
def mR(a0:LDCe):Option (Bool×Unit):=
let x0:=dO a0.length;
(match dX ln NN (a0,x0,0,())with
|none=>none
|some (.inl (x1,_))=>
some (x1,())
|some (.inr (x1,_))=>
some (true,()))
def Fc:X.Cfg:=⟨E0,[pz],[],[⟨3,0,qS [sP 5 gw,Uaa 6,Uaa 7] [],[(.ret,qS [Xaa 2] []),(.exit 0,qS [sP 5 gw,Uaa 6,Uaa 7,Xaa 8] [])]⟩]⟩
def yL:Ctr:=⟨172,48,uL [gw],[],[⟨uab,[.one],[]⟩],ap1 mR⟩
theorem EZ:Lk 2 yL:=ls Fc (aC tK aN)
def ju:LDLn×T0r->Option ((LDLn×T0r)⊕((Bool×Unit)⊕(LDLn×Int×Int×Bool×T04))):=λ(v0,v1,v2,v3)=>
bif(decide (v2<v1))then((d9 v2).bind λx0=>
(dJ v0 x0).bind λx1=>
bif(x1.1==(-1))then(bif x1.2.1 then(some (.inr (.inl (false,()))))else
let x2:=dO x1.2.2.length;
bif(decide (x2>0))then(some (.inr (.inl (false,()))))else
let x3:=w64 (v2+1);
some (.inl (v0,v1,x3,v3)))else
(bif(decide (x1.1<0))then(some (v0,v1,v2,true,v3))else
bif(decide (x1.1>=128))then(some (v0,v1,v2,true,v3))else
let x2:=Int.tmod x1.1 4;
bif(x2 != v2)then(some (v0,v1,v2,true,v3))else
let x3:=dO x1.2.2.length;
bif(x3 != 4)then(some (v0,v1,v2,true,v3))else
(mR x1.2.2).bind λ(x4,_)=>
some (v0,v1,v2,(!x4),v3):Option (LDLn×Int×Int×Bool×T04)).bind λ(x2,x3,x4,x5,x6)=>
bif x5 then(some (.inr (.inl (false,()))))else
let x8:=w64 (x4+1);
some (.inl (x2,x3,x8,x6)))else
some (.inr (.inr (v0,v1,v2,false,v3)))
def mj(a0:LDCe)(a1:LDLn):Option (Bool×Unit):=
(let x0:=dO a0.length;
bif(x0 != 512)then(some (true,a0,a1,()))else
let x1:=dO a1.length;
bif(x1 != 4)then(some (true,a0,a1,()))else
(mR a0).bind λ(x2,_)=>
some ((!x2),a0,a1,()):Option (Bool×T04)).bind λ(x0,x1,x2,_)=>
bif x0 then(some (false,()))else
let x3:=dO x2.length;
(match dX ju NN (x2,x3,0,x1,x2,())with
|none=>none
|some (.inl (x4,_))=>
some (x4,())
|some (.inr (x4,_))=>
some (true,()))
def BK:X.Cfg:=⟨E0,[yL],[],[⟨2,0,qE,[(.normal,qS [zaa 1,Xaa 20] [(4,yag)])]⟩,⟨16,1,qE,[(.normal,qS [sP 22 iS,Uaa 23,Uaa 24,Xaa 66] [(4,yag)])]⟩,⟨6,2,qS [sP 22 iS,Uaa 23,Uaa 24] [(4,yag)],[(.ret,qS [Xaa 2] []),(.exit 0,qS [sP 22 iS,Uaa 23,Uaa 24,Xaa 25] [(4,yag)])]⟩]⟩
def uj:Ctr:=⟨152,49,[.agg yag],[],[⟨uab,[.one],[]⟩],ap2 mj⟩
theorem A9:Lk 3 uj:=ls BK (aC EZ aN)
def jn:T21->Option (T21⊕((Bool×Unit)⊕(LDCe×Int×Int×Bool×T1s))):=λ(v0,v1,v2,v3)=>
bif(decide (v2<v1))then((d9 v2).bind λx0=>
(dJ v0 x0).bind λx1=>
(ki x1.1 x1.2).bind λ(x2,_)=>
bif(!x2)then(some (.inr (.inl (false,()))))else
let x3:=w64 (v2+1);
some (.inl (v0,v1,x3,v3)))else
some (.inr (.inr (v0,v1,v2,false,v3)))
def mf(a0:Int)(a1:LDCe)(a2:Int)(a3:Int)(a4:Int)(a5:Int)(a6:Int)(a7:Int):Option (Bool×Unit):=
let x0:=dO a1.length;
(match dX jn NN (a1,x0,0,a0,a1,a2,a3,a4,a5,a6,a7,())with
|none=>none
|some (.inl (x1,_))=>
some (x1,())
|some (.inr (x1,x2,x3,x4,x5,x6,x7,x8,x9,ac,ae,af,_))=>
bif(decide (x5>=0))then(bif(decide (x5<=4))then(let ag:Int:=(dO x6.length);
bif(ag==8)then(bif(decide (x7>=0))then(bif(decide (x7<=255))then(bif(decide (x8>=0))then(bif(decide (x8<=1099511627776))then(bif(decide (x9>=(-1)))then(bif(decide (x9<=255))then(bif(decide (ac>=(-1)))then(bif(decide (ac<=255))then(bif(decide (ae>=0))then(some ((decide (ae<=6)),()))else
some (false,()))else
some (false,()))else
some (false,()))else
some (false,()))else
some (false,()))else
some (false,()))else
some (false,()))else
some (false,()))else
some (false,()))else
some (false,()))else
some (false,()))else
some (false,()))
def BB:X.Cfg:=⟨E0,[pz],[],[⟨3,0,qS [zaa 1,sP 6 gw,Uaa 7,Uaa 8] [(4,zae)],[(.ret,qS [Xaa 2] []),(.exit 0,qS [zaa 1,sP 6 gw,Uaa 7,Uaa 8,Xaa 9] [(4,zae)])]⟩]⟩
def ud:Ctr:=⟨153,50,[.agg zae],[],[⟨uab,[.one],[]⟩],ap8 mf⟩
theorem A3:Lk 2 ud:=ls BB (aC tK aN)
def lR:T1t->Option (T1t⊕((Bool×Unit)⊕(LDTh×Int×Int×T0T))):=λ(v0,v1,v2,v3)=>
bif(decide (v2<v1))then((d9 v2).bind λx0=>
(dJ v0 x0).bind λx1=>
(mf x1.1 x1.2.1 x1.2.2.1 x1.2.2.2.1 x1.2.2.2.2.1 x1.2.2.2.2.2.1 x1.2.2.2.2.2.2.1 x1.2.2.2.2.2.2.2).bind λ(x2,_)=>
bif(!x2)then(some (.inr (.inl (false,()))))else
let x3:=w64 (v2+1);
some (.inl (v0,v1,x3,v3)))else
some (.inr (.inr (v0,v1,v2,false,v3)))
def iX(a0:LDIn)(a1:List (Int))(a2:List LI)(a3:List (Int))(a4:Int)(a5:LDCe)(a6:LDLn)(a7:LDTh):Option (Bool×Unit):=
((j8 a0 a1 a2).bind λ(x0,_)=>
bif(x0 != 0)then(some (true,a3,a4,a5,a6,a7,()))else
(iY a3 a4 a1).bind λ(x1,_)=>
bif(!x1)then(some (true,a3,a4,a5,a6,a7,()))else
(mj a5 a6).bind λ(x2,_)=>
bif(!x2)then(some (true,a3,a4,a5,a6,a7,()))else
let x3:=dO a7.length;
some ((x3 != 4),a3,a4,a5,a6,a7,()):Option (T0T)).bind λ(x0,x1,x2,x3,x4,x5,_)=>
bif x0 then(some (false,()))else
let x6:=dO x5.length;
(match dX lR NN (x5,x6,0,x1,x2,x3,x4,x5,())with
|none=>none
|some (.inl (x7,_))=>
some (x7,())
|some (.inr (x7,_))=>
some (true,()))
def Bz:X.Cfg:=⟨E0,[pu,mB,uj,ud],[],[⟨2,0,qE,[(.normal,qS [zaa 3,Xaa 29] [(8,yad)])]⟩,⟨6,1,qS [sP 31 jE,Uaa 32,Uaa 33] [(8,yad)],[(.ret,qS [Xaa 4] []),(.exit 0,qS [sP 31 jE,Uaa 32,Uaa 33,Xaa 34] [(8,yad)])]⟩]⟩
def mA:Ctr:=⟨139,51,[.agg zab,.agg yad],[],[⟨uab,[.one],[]⟩],ap8 iX⟩
theorem pb:Lk 4 mA:=ls Bz (aC tH (aC pd (aC A9 (aC A3 aN))))
def fv(a0:Nat)(a1:Int)(a2:LDTh):Option (Int×LDTh×Unit):=
(dJ a2 a0).bind λx0=>
let x1:=List.modify a2 a0 λe=>(4,e.2);
(dJ x1 a0).bind λx2=>
let x3:=(List.modify x1 a0 λe=>(e.1,(e.2.1,(e.2.2.1,(e.2.2.2.1,(e.2.2.2.2.1,(e.2.2.2.2.2.1,(a1,e.2.2.2.2.2.2.2))))))));
(dJ x3 a0).bind λx4=>
let x5:=(List.modify x3 a0 λe=>(e.1,(e.2.1,(e.2.2.1,(e.2.2.2.1,(e.2.2.2.2.1,(e.2.2.2.2.2.1,(e.2.2.2.2.2.2.1,0))))))));
some (2,x5,())
def DD:X.Cfg:=⟨E0,[],[],[]⟩
def we:Ctr:=⟨154,52,[.ptr ⟨2,0,[((),(8,0))]⟩ [0,0],shU I64],[(2,uL [sO])],[⟨Xac,[.one],[(2,uL [sO])]⟩],ap3 fv⟩
theorem C6:Lk 1 we:=ls DD aN
def eK:T1J->Option (T1J⊕(T0b⊕(LI×T1D))):=λ(v0,v1,v2,v3,v4,v5)=>
bif(decide (v4<v3))then((match((d9 v4).bind λx0=>
(dJ v2 x0).bind λx1=>
bif(decide (v1>=x1))then((d9 v4).bind λx2=>
(dJ v0 x2).bind λx3=>
let x4:=w64 (x1+x3);
bif(decide (v1<x4))then(let x5:Int:=(w64 (v1-x1));
some (.inl (true,v4,x5,())))else
some (.inr (v0,v1,v4,x1,v2,v3,v4,false,v5)))else
some (.inr (v0,v1,v4,x1,v2,v3,v4,false,v5)):Option (T0b⊕(LI×Int×Int×T1D)))with
|none=>none
|some (.inl (x0,x1,x2,_))=>
some (.inr (.inl (x0,x1,x2,())))
|some (.inr (x0,x1,x2,x3,x4,x5,x6,x7,x8))=>
let af:=w64 (x6+1);
some (.inl (x0,x1,x4,x5,af,x8))))else
some (.inr (.inr (v0,v1,v2,v3,v4,false,v5)))
def fi(a0:List (Int))(a1:Int)(a2:List (Int))(a3:Int):Option (T0c):=
let x0:=dO a0.length;
(match dX eK NN (a2,a3,a0,x0,0,a0,a1,0,0,())with
|none=>none
|some (.inl (x1,x2,x3,_))=>
some (x2,x3,x1,())
|some (.inr (x1,x2,x3,_))=>
some (0,0,false,()))
def yd:X.Cfg:=⟨E0,[],[],[⟨6,0,qE,[(.ret,qS [zaa 6,Xaa 7] [(14,zad)]),(.normal,qS [sP 1 RI,Uaa 2,zaa 6,Uaa 8,Uaa 9,sP 11 RI,Uaa 12,Uaa 13,Xaa 30] [(8,Zab),(14,zad)])]⟩,⟨3,1,qS [sP 1 RI,Uaa 2,zaa 6,sP 11 RI,Uaa 12,Uaa 13] [(8,Zab),(14,zad)],[(.ret,qS [zaa 6,Xaa 7] [(14,zad)]),(.exit 0,qS [sP 1 RI,Uaa 2,zaa 6,sP 11 RI,Uaa 12,Uaa 13,Xaa 14] [(8,Zab),(14,zad)])]⟩]⟩
def iO:Ctr:=⟨145,53,[.agg Zab,shU RI,shU I64],[],[⟨Uah,[.agg 2,.one],[]⟩],ap4 fi⟩
theorem kG:Lk 1 iO:=ls yd aN
def fC(a0:List (Int))(a1:Int)(a2:List (Int))(a3:Int)(a4:Int)(a5:Int)(a6:Bool):Option (T0d):=
bif(a3 != 1)then(some (0,0,3,()))else
let x0:=wk .i64 a4;
(fi a0 a1 a2 x0).bind λ(x1,x2,x3,_)=>
bif(!x3)then(some (0,0,4,()))else
(bif a6 then(let x4:Int:=(wk .i64 a5);
let x5:=w64 (x2-x4);
some (a2,a0,a1,0,0,x1,x5,()))else
let x4:=wk .i64 a5;
let x5:=w64 (x2+x4);
some (a2,a0,a1,0,0,x1,x5,()):Option (LI×LI×T0K)).bind λ(x4,x5,x6,x7,x8,x9,ac,_)=>
(fV x4 x9 ac).bind λ(ae,_)=>
bif(!ae)then(some (0,0,4,()))else
(d9 x9).bind λaf=>
(dJ x5 af).bind λag=>
let ah:=w64 (ag+ac);
let ai:=wk .u16 ah;
some (1,ai,0,())
def DF:X.Cfg:=⟨E0,[iO,ji],[],[⟨8,0,qE,[(.normal,qS [sP 1 RI,zaa 5,zaa 10,zaa 12] [(12,Zab),(22,Uab),(26,zad)])]⟩]⟩
def ra:Ctr:=⟨155,54,[.agg Zab,shU RI,.agg Uab,shU CW,shU .bool],[],[⟨uai,[.agg 2,.one],[]⟩],ap7 fC⟩
theorem vC:Lk 2 ra:=ls DF (aC kG (aC lw aN))
def ke(a0:Int)(a1:LDCe)(a2:LDLn):Option (Nat×T04):=
let x0:=w64 (Int.tdiv a0 4);
let x1:=Int.tmod x0 4;
(d9 x1).bind λx2=>
(dJ a2 x2).bind λx3=>
(dJ a2 x2).bind λx4=>
bif(x4.1==x0)then(some (x2,a1,a2,()))else
((dJ a2 x2).bind λx5=>
bif x5.2.1 then((dJ a2 x2).bind λx6=>
let x7:=w64 (x6.1*4);
(d9 x7).bind λx8=>
bif(gi x8 a1.length a1.length)then(dJ a2 x2).bind λx9=>
(dJ a2 x2).bind λac=>
bif(gi x8 (Nat.add x8 (Nat.min ac.2.2.length (Nat.sub a1.length x8))) a1.length)then bif(Nat.blt 0 (Nat.min ac.2.2.length (Nat.sub a1.length x8)))then(let ae:LDCe:=(qp a1 x8 (Nat.min ac.2.2.length (Nat.sub a1.length x8)) ac.2.2);
let af:=(dO (Nat.min ac.2.2.length (Nat.sub a1.length x8)));
some (x0,x2,ae,a2,()))else
let ae:=(dO (Nat.min ac.2.2.length (Nat.sub a1.length x8)));
some (x0,x2,a1,a2,())else none else none)else
some (x0,x2,a1,a2,()):Option (Int×Nat×T04)).bind λ(x5,x6,x7,x8,_)=>
(dJ x8 x6).bind λx9=>
let ac:=List.modify x8 x6 λe=>(x5,e.2);
(dJ ac x6).bind λae=>
let af:=(List.modify ac x6 λe=>(e.1,(false,e.2.2)));
let ag:=w64 (x5*4);
let ah:=w64 (x5+1);
let ai:=w64 (ah*4);
(d9 ag).bind λaj=>
(d9 ai).bind λak=>
bif(gi aj ak x7.length)then bif(dV 4 0 (List.length (lO x7 aj (Nat.sub ak aj))))then let am:LDCe:=(List.append [] (lO x7 aj (Nat.sub ak aj)));
(dJ af x6).bind λan=>
let ap:=(List.modify af x6 λe=>(e.1,(e.2.1,am)));
some (x6,x7,ap,())else none else none
def BJ:X.Cfg:=⟨E0,[],[],[⟨6,0,qE,[(.normal,(qS [zaa 0,Uaa 5,(6,.ptr ⟨2,1,[((),(3,0))]⟩ [0,0])] [(2,Xae)]))]⟩]⟩
def py:Ctr:=⟨174,55,[.ptr ⟨2,0,[]⟩ [0],shU I64],[(2,Xae)],[⟨[.ptr ⟨2,1,[((),(3,0))]⟩ [0,0]],[.ptr],[(2,Xae)]⟩],ap3 ke⟩
theorem tJ:Lk 1 py:=ls BJ aN
def nD(a0:Int)(a1:LDCe)(a2:LDLn):Option (T0r):=
(ke a0 a1 a2).bind λ(x0,x1,x2,_)=>
(dJ x2 x0).bind λx3=>
let x4:=Int.tmod a0 4;
(d9 x4).bind λx5=>
(dJ x2 x0).bind λx6=>
(dJ x6.2.2 x5).bind λx7=>
(dJ x2 x0).bind λx8=>
(dJ x8.2.2 x5).bind λx9=>
some (x9.1,x9.2,x1,x2,())
def DK:X.Cfg:=⟨E0,[py],[],[]⟩
def wh:Ctr:=⟨156,56,[.ptr ⟨2,0,[]⟩ [0],shU I64],[(2,Xae)],[⟨Uab,[.agg 2],[(2,Xae)]⟩],ap3 nD⟩
theorem C8:Lk 2 wh:=ls DK (aC tJ aN)
def j9(a0:Int)(a1:Int)(a2:Int)(a3:LDCe)(a4:LDLn):Option (T04):=
(ke a0 a3 a4).bind λ(x0,x1,x2,_)=>
(dJ x2 x0).bind λx3=>
let x4:=Int.tmod a0 4;
(d9 x4).bind λx5=>
(dJ x2 x0).bind λx6=>
(dJ x6.2.2 x5).bind λx7=>
(dJ x2 x0).bind λx8=>
(dJ x8.2.2 x5).bind λx9=>
let ac:=(List.modify x2 x0 λe=>(e.1,(e.2.1,(List.modify e.2.2 x5 λe=>(a1,a2)))));
(dJ ac x0).bind λae=>
let af:=(List.modify ac x0 λe=>(e.1,(true,e.2.2)));
some (x1,af,())
def BI:X.Cfg:=⟨E0,[py],[],[]⟩
def px:Ctr:=⟨157,57,[.ptr ⟨2,0,[]⟩ [0],shU I64,.agg Uab],[(2,Xae)],[⟨[],[],[(2,Xae)]⟩],ap5 j9⟩
theorem tI:Lk 2 px:=ls BI (aC tJ aN)
def jJ(a0:Bool):Option (T02):=
bif a0 then(some (0,1,()))else
some (0,0,())
def DE:X.Cfg:=⟨E0,[],[],[]⟩
def q9:Ctr:=⟨175,58,uab,[],[⟨Uab,[.agg 2],[]⟩],ap1 jJ⟩
theorem vB:Lk 1 q9:=ls DE aN
def j6(a0:Int)(a1:Int)(a2:Int):Option (T0d):=
bif(a0==3)then(let x0:Int:=(wk .u16 (a1+a2));
some (0,x0,0,()))else
bif(a0==4)then(let x0:Int:=(wk .u16 (a1-a2));
some (0,x0,0,()))else
bif(a0==5)then(let x0:Int:=(wk .u16 (a1*a2));
some (0,x0,0,()))else
bif(a0==6)then(bif(a2==0)then(some (0,0,5,()))else
bif(a0==6)then(bif(a2 != 0)then let x0:Int:=(wk .u16 (Int.tdiv a1 a2));
some (0,x0,0,())else none)else
bif(a2 != 0)then let x0:Int:=(Int.tmod a1 a2);
some (0,x0,0,())else none)else
bif(a0==7)then(bif(a2==0)then(some (0,0,5,()))else
bif(a0==6)then(bif(a2 != 0)then let x0:Int:=(wk .u16 (Int.tdiv a1 a2));
some (0,x0,0,())else none)else
bif(a2 != 0)then let x0:Int:=(Int.tmod a1 a2);
some (0,x0,0,())else none)else
bif(a0==8)then(let x0:Int:=(arR .and .u16 a1 a2);
some (0,x0,0,()))else
bif(a0==9)then(let x0:Int:=(arR .or .u16 a1 a2);
some (0,x0,0,()))else
bif(a0==10)then(let x0:Int:=(arR .xor .u16 a1 a2);
some (0,x0,0,()))else
bif(a0==11)then(let x0:Int:=(Int.tmod a2 16);
(d9 x0).bind λx1=>
let x2:Int:=(shR .shl .u16 a1 x1);
some (0,x2,0,()))else
bif(a0==12)then(let x0:Int:=(Int.tmod a2 16);
(d9 x0).bind λx1=>
let x2:Int:=(shR .shr .u16 a1 x1);
some (0,x2,0,()))else
(jJ (decide (a1<a2))).bind λ(x0,x1,_)=>
some (x0,x1,0,())
def yc:X.Cfg:=⟨E0,[q9],[],[]⟩
def q8:Ctr:=⟨176,59,uL [I64,CW,CW],[],[⟨uai,[.agg 2,.one],[]⟩],ap3 j6⟩
theorem xO:Lk 2 q8:=ls yc (aC vB aN)
def j7(a0:List (Int))(a1:Int)(a2:List (Int))(a3:Int)(a4:Int)(a5:Int)(a6:Int):Option (Int×Int×T0c):=
let x0:=wk .i64 a4;
(fi a0 a1 a2 x0).bind λ(x1,x2,x3,_)=>
let x4:=wk .i64 a6;
(fi a0 a1 a2 x4).bind λ(x5,x6,x7,_)=>
bif x3 then(bif x7 then(some (x1,x2,x5,x6,(x1==x5),()))else
some (x1,x2,x5,x6,false,()))else
some (x1,x2,x5,x6,false,())
def BE:X.Cfg:=⟨E0,[iO],[],[]⟩
def ug:Ctr:=⟨177,60,[.agg Zab,shU RI,.agg Uab,.agg Uab],[],[⟨uL [I64,I64,I64,I64,.bool],[.agg 2,.agg 2,.one],[]⟩],ap7 j7⟩
theorem A6:Lk 2 ug:=ls BE (aC kG aN)
def rq(a0:List (Int))(a1:Int)(a2:List (Int))(a3:Int)(a4:Int)(a5:Int)(a6:Int)(a7:Int):Option (T0d):=
bif(decide (a3<3))then(some (0,0,1,()))else
bif(decide (a3>14))then(some (0,0,1,()))else
(match(bif(a3==14)then((jJ ((a4==a6)&&((a5==a7)&&true))).bind λ(x0,x1,_)=>
some (.inl (0,x0,x1,())))else
bif(a4==0)then(bif(a6==0)then((j6 a3 a5 a7).bind λ(x0,x1,x2,_)=>
some (.inl (x2,x0,x1,())))else
(bif(a3==3)then(bif(a4==1)then(some (a2,a3,(a6==0),a0,a1,a4,a5,a6,a7,0,0,()))else
some (a2,a3,false,a0,a1,a4,a5,a6,a7,0,0,()))else
some (a2,a3,false,a0,a1,a4,a5,a6,a7,0,0,()):Option (T23)).bind λ(x0,x1,x2,x3,x4,x5,x6,x7,x8,x9,ac,_)=>
bif x2 then((fC x3 x4 x0 x5 x6 x8 false).bind λ(ae,af,ag,_)=>
some (.inl (ag,ae,af,())))else
(bif(x1==3)then(bif(x5==0)then(some (x0,x1,(x7==1),x3,x4,x5,x6,x7,x8,x9,ac,()))else
some (x0,x1,false,x3,x4,x5,x6,x7,x8,x9,ac,()))else
some (x0,x1,false,x3,x4,x5,x6,x7,x8,x9,ac,()):Option (T23)).bind λ(ae,af,ag,ah,ai,aj,ak,am,an,ap,aq,_)=>
bif ag then((fC ah ai ae am an ak false).bind λ(av,ax,ay,_)=>
some (.inl (ay,av,ax,())))else
(bif(af==4)then(bif(aj==1)then(some (ae,af,(am==0),ah,ai,aj,ak,am,an,ap,aq,()))else
some (ae,af,false,ah,ai,aj,ak,am,an,ap,aq,()))else
some (ae,af,false,ah,ai,aj,ak,am,an,ap,aq,()):Option (T23)).bind λ(av,ax,ay,az,aA,aB,aD,aE,aF,aG,aH,_)=>
bif ay then((fC az aA av aB aD aF true).bind λ(aI,aJ,aK,_)=>
some (.inl (aK,aI,aJ,())))else
(bif(ax==4)then(bif(aB==1)then(some (av,ax,(aE==1),az,aA,aB,aD,aE,aF,aG,aH,()))else
some (av,ax,false,az,aA,aB,aD,aE,aF,aG,aH,()))else
bif(ax==13)then(bif(aB==1)then(some (av,ax,(aE==1),az,aA,aB,aD,aE,aF,aG,aH,()))else
some (av,ax,false,az,aA,aB,aD,aE,aF,aG,aH,()))else
some (av,ax,false,az,aA,aB,aD,aE,aF,aG,aH,()):Option (T23)).bind λ(aI,aJ,aK,aL,aM,aO,aP,aQ,aR,aS,aT,_)=>
bif aK then((j7 aL aM aI aO aP aQ aR).bind λ(aU,aV,aW,aY,aZ,_)=>
bif(!aZ)then(some (.inl (4,0,0,())))else
bif(aJ==13)then((jJ (decide (aV<aY))).bind λ(ba,bc,_)=>
some (.inl (0,ba,bc,())))else
let ba:=w64 (aV-aY);
let bc:=wk .u16 ba;
some (.inl (0,0,bc,())))else
some (.inr (aI,aJ,false,aL,aM,aO,aP,aQ,aR,aS,aT,())))else
(bif(a3==3)then(bif(a4==1)then(some (a2,a3,(a6==0),a0,a1,a4,a5,a6,a7,0,0,()))else
some (a2,a3,false,a0,a1,a4,a5,a6,a7,0,0,()))else
some (a2,a3,false,a0,a1,a4,a5,a6,a7,0,0,()):Option (T23)).bind λ(x0,x1,x2,x3,x4,x5,x6,x7,x8,x9,ac,_)=>
bif x2 then((fC x3 x4 x0 x5 x6 x8 false).bind λ(ae,af,ag,_)=>
some (.inl (ag,ae,af,())))else
(bif(x1==3)then(bif(x5==0)then(some (x0,x1,(x7==1),x3,x4,x5,x6,x7,x8,x9,ac,()))else
some (x0,x1,false,x3,x4,x5,x6,x7,x8,x9,ac,()))else
some (x0,x1,false,x3,x4,x5,x6,x7,x8,x9,ac,()):Option (T23)).bind λ(ae,af,ag,ah,ai,aj,ak,am,an,ap,aq,_)=>
bif ag then((fC ah ai ae am an ak false).bind λ(av,ax,ay,_)=>
some (.inl (ay,av,ax,())))else
(bif(af==4)then(bif(aj==1)then(some (ae,af,(am==0),ah,ai,aj,ak,am,an,ap,aq,()))else
some (ae,af,false,ah,ai,aj,ak,am,an,ap,aq,()))else
some (ae,af,false,ah,ai,aj,ak,am,an,ap,aq,()):Option (T23)).bind λ(av,ax,ay,az,aA,aB,aD,aE,aF,aG,aH,_)=>
bif ay then((fC az aA av aB aD aF true).bind λ(aI,aJ,aK,_)=>
some (.inl (aK,aI,aJ,())))else
(bif(ax==4)then(bif(aB==1)then(some (av,ax,(aE==1),az,aA,aB,aD,aE,aF,aG,aH,()))else
some (av,ax,false,az,aA,aB,aD,aE,aF,aG,aH,()))else
bif(ax==13)then(bif(aB==1)then(some (av,ax,(aE==1),az,aA,aB,aD,aE,aF,aG,aH,()))else
some (av,ax,false,az,aA,aB,aD,aE,aF,aG,aH,()))else
some (av,ax,false,az,aA,aB,aD,aE,aF,aG,aH,()):Option (T23)).bind λ(aI,aJ,aK,aL,aM,aO,aP,aQ,aR,aS,aT,_)=>
bif aK then((j7 aL aM aI aO aP aQ aR).bind λ(aU,aV,aW,aY,aZ,_)=>
bif(!aZ)then(some (.inl (4,0,0,())))else
bif(aJ==13)then((jJ (decide (aV<aY))).bind λ(ba,bc,_)=>
some (.inl (0,ba,bc,())))else
let ba:=w64 (aV-aY);
let bc:=wk .u16 ba;
some (.inl (0,0,bc,())))else
some (.inr (aI,aJ,false,aL,aM,aO,aP,aQ,aR,aS,aT,())):Option (T0d⊕T23))with
|none=>none
|some (.inl (x0,x1,x2,_))=>
some (x1,x2,x0,())
|some (.inr (x0,x1,x2,x3,x4,x5,x6,x7,x8,x9,ac,_))=>
some (0,0,3,()))
def H3:X.Cfg:=⟨E0,[q9,q8,ra,ug],[],[⟨9,0,qE,[(.normal,qS [sP 1 RI,Uaa 2,zaa 5,zaa 8,zaa 9,zaa 10,Xaa 46] [(12,Zab),(18,Uab),(20,Uab),(22,Uab)])]⟩,⟨11,1,qE,[(.normal,qS [sP 1 RI,Uaa 2,zaa 5,zaa 8,zaa 9,zaa 10,Xaa 67] [(12,Zab),(18,Uab),(20,Uab),(22,Uab)])]⟩,⟨13,2,qE,[(.normal,qS [sP 1 RI,Uaa 2,zaa 5,zaa 8,zaa 9,zaa 10,Xaa 88] [(12,Zab),(18,Uab),(20,Uab),(22,Uab)])]⟩,⟨15,3,qE,[(.normal,qS [sP 1 RI,Uaa 2,zaa 5,zaa 8,zaa 9,zaa 10,Xaa 109] [(12,Zab),(18,Uab),(20,Uab),(22,Uab)])]⟩,⟨4,4,qE,[(.ret,qS [zaa 10,Uaa 11] [(22,Uab)]),(.normal,qS [sP 1 RI,Uaa 2,zaa 5,zaa 8,zaa 9,zaa 10,Xaa 109] [(12,Zab),(18,Uab),(20,Uab),(22,Uab)])]⟩]⟩
def Av:Ctr:=⟨158,61,[.agg Zab,shU RI,shU I64,.agg Uab,.agg Uab],[],[⟨uai,[.agg 2,.one],[]⟩],ap8 rq⟩
theorem HU:Lk 3 Av:=ls H3 (aC vB (aC xO (aC vC (aC A6 aN))))
def lm(a0:Int):Option (Bool×Unit):=
(gO a0).bind λ(x0,_)=>
bif x0 then(some (true,()))else
bif(a0==22)then(some (true,()))else
some ((a0==24),())
def zt:X.Cfg:=⟨E0,[jQ],[],[]⟩
def sf:Ctr:=⟨159,62,Xac,[],[⟨uab,[.one],[]⟩],ap1 lm⟩
theorem ze:Lk 2 sf:=ls zt (aC lJ aN)
def oV(a0:LDIn)(a1:List (Int))(a2:List LI)(a3:Int)(a4:List (Int))(a5:Int)(a6:LDCe)(a7:LDLn)(a8:LDTh):Option (T0Z):=
(d9 a3).bind λx0=>
(dJ a8 x0).bind λx1=>
(dJ a8 x0).bind λx2=>
let x3:=dO a0.length;
bif(decide (x2.2.2.1>=x3))then((fv x0 2 a8).bind λ(x4,x5,_)=>
some (x4,a4,a5,a6,a7,x5,()))else
(dJ a8 x0).bind λx4=>
(d9 x4.2.2.1).bind λx5=>
(dJ a0 x5).bind λx6=>
(dJ a8 x0).bind λx7=>
let x8:=w64 (x7.2.2.1+1);
(dJ a8 x0).bind λx9=>
(d9 x6.2.1).bind λac=>
(dJ a8 x0).bind λae=>
(dJ ae.2.1 ac).bind λaf=>
(dJ a8 x0).bind λag=>
(dJ ag.2.1 ac).bind λah=>
(dJ a8 x0).bind λai=>
(d9 x6.2.2.1).bind λaj=>
(dJ a8 x0).bind λak=>
(dJ ak.2.1 aj).bind λam=>
(dJ a8 x0).bind λan=>
(dJ an.2.1 aj).bind λap=>
(match(bif(x6.1==0)then(some (.inl (x0,x8,a4,a5,a6,a7,a8,x6.1,x6.2.1,x6.2.2.1,x6.2.2.2.1,x6.2.2.2.2,())))else
bif(x6.1==1)then((dJ a8 x0).bind λaq=>
let av:=wk .u16 x6.2.2.2.2;
(d9 x6.2.1).bind λax=>
(dJ a8 x0).bind λay=>
(dJ ay.2.1 ax).bind λaz=>
(dJ a8 x0).bind λaA=>
(dJ aA.2.1 ax).bind λaB=>
let aD:=(List.modify a8 x0 λe=>(e.1,((List.modify e.2.1 ax λe=>(0,av)),e.2.2)));
some (.inl (x0,x8,a4,a5,a6,a7,aD,x6.1,x6.2.1,x6.2.2.1,x6.2.2.2.1,x6.2.2.2.2,())))else
bif(x6.1==2)then((dJ a8 x0).bind λaq=>
(d9 x6.2.1).bind λav=>
(dJ a8 x0).bind λax=>
(dJ ax.2.1 av).bind λay=>
(dJ a8 x0).bind λaz=>
(dJ az.2.1 av).bind λaA=>
let aB:=(List.modify a8 x0 λe=>(e.1,((List.modify e.2.1 av λe=>(ap.1,ap.2)),e.2.2)));
some (.inl (x0,x8,a4,a5,a6,a7,aB,x6.1,x6.2.1,x6.2.2.1,x6.2.2.2.1,x6.2.2.2.2,())))else
bif(x6.1==15)then((dJ a8 x0).bind λaq=>
(d9 x6.2.2.2.2).bind λav=>
(dJ a4 av).bind λax=>
let ay:=wk .u16 ax;
(d9 x6.2.1).bind λaz=>
(dJ a8 x0).bind λaA=>
(dJ aA.2.1 az).bind λaB=>
(dJ a8 x0).bind λaD=>
(dJ aD.2.1 az).bind λaE=>
let aF:=(List.modify a8 x0 λe=>(e.1,((List.modify e.2.1 az λe=>(1,ay)),e.2.2)));
some (.inl (x0,x8,a4,a5,a6,a7,aF,x6.1,x6.2.1,x6.2.2.1,x6.2.2.2.1,x6.2.2.2.2,())))else
bif(x6.1==16)then((bif(x6.1==17)then(some (x0,x8,a4,a5,a6,a7,a8,a0,a1,a2,x6.1,x6.2.1,x6.2.2.1,x6.2.2.2.1,x6.2.2.2.2,ap.1,ap.2,ah.1,ah.2,()))else
some (x0,x8,a4,a5,a6,a7,a8,a0,a1,a2,x6.1,x6.2.1,x6.2.2.1,x6.2.2.2.1,x6.2.2.2.2,ap.1,ap.2,ap.1,ap.2,()):Option (T2t)).bind λ(aq,av,ax,ay,az,aA,aB,aD,aE,aF,aG,aH,aI,aJ,aK,aL,aM,aO,aP,_)=>
let aQ:=wk .u16 aK;
(fC ax ay aE aO aP aQ false).bind λ(aR,aS,aT,_)=>
bif(aT != 0)then((fv aq aT aB).bind λ(aU,aV,_)=>
some (.inr (aU,ax,ay,az,aA,aV,())))else
bif(aG==16)then((dJ aB aq).bind λaU=>
let aV:=wk .i64 aS;
(nD aV az aA).bind λ(aW,aY,aZ,ba,_)=>
(d9 aH).bind λbc=>
(dJ aB aq).bind λbd=>
(dJ bd.2.1 bc).bind λbf=>
(dJ aB aq).bind λbg=>
(dJ bg.2.1 bc).bind λbh=>
let bi:=(List.modify aB aq λe=>(e.1,((List.modify e.2.1 bc λe=>(aW,aY)),e.2.2)));
some (.inl (aq,av,ax,ay,aZ,ba,bi,aG,aH,aI,aJ,aK,())))else
let aU:=wk .i64 aS;
(j9 aU aL aM az aA).bind λ(aV,aW,_)=>
some (.inl (aq,av,ax,ay,aV,aW,aB,aG,aH,aI,aJ,aK,())))else
bif(x6.1==17)then((bif(x6.1==17)then(some (x0,x8,a4,a5,a6,a7,a8,a0,a1,a2,x6.1,x6.2.1,x6.2.2.1,x6.2.2.2.1,x6.2.2.2.2,ap.1,ap.2,ah.1,ah.2,()))else
some (x0,x8,a4,a5,a6,a7,a8,a0,a1,a2,x6.1,x6.2.1,x6.2.2.1,x6.2.2.2.1,x6.2.2.2.2,ap.1,ap.2,ap.1,ap.2,()):Option (T2t)).bind λ(aq,av,ax,ay,az,aA,aB,aD,aE,aF,aG,aH,aI,aJ,aK,aL,aM,aO,aP,_)=>
let aQ:=wk .u16 aK;
(fC ax ay aE aO aP aQ false).bind λ(aR,aS,aT,_)=>
bif(aT != 0)then((fv aq aT aB).bind λ(aU,aV,_)=>
some (.inr (aU,ax,ay,az,aA,aV,())))else
bif(aG==16)then((dJ aB aq).bind λaU=>
let aV:=wk .i64 aS;
(nD aV az aA).bind λ(aW,aY,aZ,ba,_)=>
(d9 aH).bind λbc=>
(dJ aB aq).bind λbd=>
(dJ bd.2.1 bc).bind λbf=>
(dJ aB aq).bind λbg=>
(dJ bg.2.1 bc).bind λbh=>
let bi:=(List.modify aB aq λe=>(e.1,((List.modify e.2.1 bc λe=>(aW,aY)),e.2.2)));
some (.inl (aq,av,ax,ay,aZ,ba,bi,aG,aH,aI,aJ,aK,())))else
let aU:=wk .i64 aS;
(j9 aU aL aM az aA).bind λ(aV,aW,_)=>
some (.inl (aq,av,ax,ay,aV,aW,aB,aG,aH,aI,aJ,aK,())))else
bif(x6.1==18)then(some (.inl (x0,x6.2.2.2.2,a4,a5,a6,a7,a8,x6.1,x6.2.1,x6.2.2.1,x6.2.2.2.1,x6.2.2.2.2,())))else
bif(x6.1==19)then(bif(ah.1 != 0)then((fv x0 3 a8).bind λ(aq,av,_)=>
some (.inr (aq,a4,a5,a6,a7,av,())))else
bif((ah.2==0)==(x6.1==19))then(some (.inl (x0,x6.2.2.2.2,a4,a5,a6,a7,a8,x6.1,x6.2.1,x6.2.2.1,x6.2.2.2.1,x6.2.2.2.2,())))else
some (.inl (x0,x8,a4,a5,a6,a7,a8,x6.1,x6.2.1,x6.2.2.1,x6.2.2.2.1,x6.2.2.2.2,())))else
bif(x6.1==20)then(bif(ah.1 != 0)then((fv x0 3 a8).bind λ(aq,av,_)=>
some (.inr (aq,a4,a5,a6,a7,av,())))else
bif((ah.2==0)==(x6.1==19))then(some (.inl (x0,x6.2.2.2.2,a4,a5,a6,a7,a8,x6.1,x6.2.1,x6.2.2.1,x6.2.2.2.1,x6.2.2.2.2,())))else
some (.inl (x0,x8,a4,a5,a6,a7,a8,x6.1,x6.2.1,x6.2.2.1,x6.2.2.2.1,x6.2.2.2.2,())))else
bif(x6.1==21)then((dJ a8 x0).bind λaq=>
let av:=wk .u16 x8;
(d9 x6.2.1).bind λax=>
(dJ a8 x0).bind λay=>
(dJ ay.2.1 ax).bind λaz=>
(dJ a8 x0).bind λaA=>
(dJ aA.2.1 ax).bind λaB=>
let aD:=(List.modify a8 x0 λe=>(e.1,((List.modify e.2.1 ax λe=>(0,av)),e.2.2)));
some (.inl (x0,x6.2.2.2.2,a4,a5,a6,a7,aD,x6.1,x6.2.1,x6.2.2.1,x6.2.2.2.1,x6.2.2.2.2,())))else
bif(x6.1==22)then(bif(ah.1 != 0)then((fv x0 3 a8).bind λ(aq,av,_)=>
some (.inr (aq,a4,a5,a6,a7,av,())))else
bif(decide (ah.2>255))then((fv x0 2 a8).bind λ(aq,av,_)=>
some (.inr (aq,a4,a5,a6,a7,av,())))else
let aq:=wk .i64 ah.2;
some (.inl (x0,aq,a4,a5,a6,a7,a8,x6.1,x6.2.1,x6.2.2.1,x6.2.2.2.1,x6.2.2.2.2,())))else
bif(x6.1==24)then((dJ a8 x0).bind λaq=>
bif(aq.2.2.2.2.2.1==(-1))then((fv x0 1 a8).bind λ(av,ax,_)=>
some (.inr (av,a4,a5,a6,a7,ax,())))else
(dJ a8 x0).bind λav=>
(dJ a8 x0).bind λax=>
let ay:=(List.modify a8 x0 λe=>(e.1,(e.2.1,(e.2.2.1,(e.2.2.2.1,(e.2.2.2.2.1,((-1),e.2.2.2.2.2.2)))))));
some (.inl (x0,av.2.2.2.2.2.1,a4,a5,a6,a7,ay,x6.1,x6.2.1,x6.2.2.1,x6.2.2.2.1,x6.2.2.2.2,())))else
bif(x6.1==23)then((dJ a8 x0).bind λaq=>
let av:=List.modify a8 x0 λe=>(2,e.2);
(dJ av x0).bind λax=>
let ay:=(List.modify av x0 λe=>(e.1,(e.2.1,(x8,e.2.2.2))));
some (.inr (1,a4,a5,a6,a7,ay,())))else
(dJ a8 x0).bind λaq=>
(d9 x6.2.2.2.1).bind λav=>
(dJ a8 x0).bind λax=>
(dJ ax.2.1 av).bind λay=>
(dJ a8 x0).bind λaz=>
(dJ az.2.1 av).bind λaA=>
(rq a4 a5 a1 x6.1 ap.1 ap.2 aA.1 aA.2).bind λ(aB,aD,aE,_)=>
bif(aE != 0)then((fv x0 aE a8).bind λ(aF,aG,_)=>
some (.inr (aF,a4,a5,a6,a7,aG,())))else
(dJ a8 x0).bind λaF=>
(d9 x6.2.1).bind λaG=>
(dJ a8 x0).bind λaH=>
(dJ aH.2.1 aG).bind λaI=>
(dJ a8 x0).bind λaJ=>
(dJ aJ.2.1 aG).bind λaK=>
let aL:=(List.modify a8 x0 λe=>(e.1,((List.modify e.2.1 aG λe=>(aB,aD)),e.2.2)));
some (.inl (x0,x8,a4,a5,a6,a7,aL,x6.1,x6.2.1,x6.2.2.1,x6.2.2.2.1,x6.2.2.2.2,())):Option ((Nat×Int×LI×Int×LDCe×LDLn×LDTh×T0K)⊕T0Z))with
|none=>none
|some (.inl (aq,av,ax,ay,az,aA,aB,aD,aE,aF,aG,aH,_))=>
(dJ aB aq).bind λaI=>
let aJ:=(List.modify aB aq λe=>(e.1,(e.2.1,(av,e.2.2.2))));
((lm aD).bind λ(aK,_)=>
bif aK then((dJ aJ aq).bind λaL=>
let aM:=w64 (aL.2.2.2.1+1);
(dJ aJ aq).bind λaO=>
let aP:=(List.modify aJ aq λe=>(e.1,(e.2.1,(e.2.2.1,(aM,e.2.2.2.2)))));
some (ax,ay,az,aA,aP,()))else
some (ax,ay,az,aA,aJ,()):Option (T0O)).bind λ(aK,aL,aM,aO,aP,_)=>
some ((-1),aK,aL,aM,aO,aP,())
|some (.inr (aq,av,ax,ay,az,aA,_))=>
some (aq,av,ax,ay,az,aA,()))
def E9:X.Cfg:=⟨E0,[we,ra,wh,px,Av,sf],[],[⟨17,0,qE,[(.normal,(qS [zaa 1,zaa 3,(7,.ptr ⟨4,4,[((),(8,0))]⟩ [0,0]),zaa 8,Uaa 9,zaa 11,zaa 12] [(4,Uac),(8,zab),(18,uad),(24,Uab),(26,Uab)]))]⟩,⟨8,1,qE,[(.normal,(qS [zaa 1,(7,.ptr ⟨4,4,[((),(8,0))]⟩ [0,0]),zaa 8,Uaa 9] [(4,Uac),(18,uad)])),(.ret,qS [zaa 1,Uaa 6] [(4,Uac)])]⟩,⟨52,2,qE,[(.normal,qS [zaa 1] [(4,Uac)])]⟩]⟩
def yJ:Ctr:=⟨140,63,[.agg zab,.ptr ⟨4,0,[]⟩ [0],shU I64],[(4,Uac)],[⟨Xac,[.one],[(4,Uac)]⟩],ap9 oV⟩
theorem EX:Lk 4 yJ:=ls E9 (aC C6 (aC vC (aC C8 (aC tI (aC HU (aC ze aN))))))
def pM:T2h->Option (T2h⊕T1f):=λ(v0,v1,v2,v3,v4,v5,v6,v7,v8,v9,v10,v11,v12,v13,v14,_)=>
(oV v2 v3 v4 v0 v10 v11 v12 v13 v14).bind λ(x0,x1,x2,x3,x4,x5,_)=>
bif(x0 != (-1))then(some (.inr (x0,0,x1,x2,x3,x4,x5,())))else
(d9 v0).bind λx6=>
(dJ x5 x6).bind λx7=>
(dJ x5 x6).bind λx8=>
bif(x8.2.2.2.1==v1)then(some (.inr (0,0,x1,x2,x3,x4,x5,())))else
some (.inl (v0,v1,v2,v3,v4,v5,v6,v7,v8,v9,x1,x2,x3,x4,x5,()))
def me(a0:LDIn)(a1:List (Int))(a2:List LI)(a3:List (Int))(a4:Int)(a5:LDCe)(a6:LDLn)(a7:LDTh)(a8:Int)(a9:Int):Option (LI×Int×LDCe×LDLn×LDTh×T02):=
((iX a0 a1 a2 a3 a4 a5 a6 a7).bind λ(x0,_)=>
bif(!x0)then(some (a8,a9,true,a0,a1,a2,a3,a4,a5,a6,a7,(),0,(),(),(),()))else
bif(decide (a8<0))then(some (a8,a9,true,a0,a1,a2,a3,a4,a5,a6,a7,(),0,(),(),(),()))else
bif(decide (a8>=4))then(some (a8,a9,true,a0,a1,a2,a3,a4,a5,a6,a7,(),0,(),(),(),()))else
bif(decide (a9<1))then(some (a8,a9,true,a0,a1,a2,a3,a4,a5,a6,a7,(),0,(),(),(),()))else
some (a8,a9,(decide (a9>64)),a0,a1,a2,a3,a4,a5,a6,a7,(),0,(),(),(),()):Option (Int×Int×Bool×LDIn×LI×LLI×LI×Int×LDCe×LDLn×LDTh×T0Q)).bind λ(x0,x1,x2,x3,x4,x5,x6,x7,x8,x9,ac,ae,af,ag,ah,ai,_)=>
bif x2 then(some ([],0,[],[],[],0,1,()))else
(iD x6 x7 x8 x9 ac).bind λ(aj,ak,am,an,ap,_)=>
(d9 x0).bind λaq=>
(dJ ac aq).bind λav=>
bif(av.1 != 1)then(some (aj,ak,am,an,ap,3,0,()))else
(d9 x0).bind λax=>
(dJ ap ax).bind λay=>
(dJ ap ax).bind λaz=>
let aA:=w64 (az.2.2.2.1+x1);
(dX pM NN (x0,aA,x3,x4,x5,ae,af,ag,ah,ai,aj,ak,am,an,ap,())).bind λ(aB,aD,aE,aF,aG,aH,aI,_)=>
some (aE,aF,aG,aH,aI,aB,aD,())
def BA:X.Cfg:=⟨E0,[mA,lM,yJ],[],[⟨2,0,qE,[(.normal,qS [Uaa 2,Uaa 3,zaa 4,zaa 5,zaa 8,Xaa 33] [(10,zab),(12,yad),(18,yae)])]⟩,⟨9,1,qS [Uaa 2,zaa 4,zaa 8,zaa 11,Uaa 12] [(10,zab),(18,yae),(24,Uac)],[(.ret,qS [zaa 8,Uaa 9,Uaa 10] [(18,Uac)])]⟩]⟩
def uc:Ctr:=⟨121,64,[.agg zab,.agg yad,shU I64,shU I64],[],[⟨uL [RI,CW,(uaa KCe),l9,sO,I64,I64],[.agg 5,.one,.one],[]⟩],ap10 me⟩
theorem A2:Lk 5 uc:=ls BA (aC pb (aC nO (aC EX aN)))
def j4(a0:Int):Option (ByteArray×Unit):=
let x0:ByteArray:=(bytes []);
(bif(a0==0)then(some (a0,true,()))else
bif(a0==8)then(some (a0,true,()))else
bif(a0==9)then(some (a0,true,()))else
bif(a0==11)then(some (a0,true,()))else
some (a0,(a0==12),()):Option (T01)).bind λ(x1,x2,_)=>
bif x2 then(let x3:ByteArray:=(bytes [78]);
some (x3,()))else
bif(x1==1)then(let x3:ByteArray:=(bytes [72,80,78]);
some (x3,()))else
bif(x1==2)then(let x3:ByteArray:=(bytes [72,80,78]);
some (x3,()))else
bif(x1==3)then(let x3:ByteArray:=(bytes [78,78]);
some (x3,()))else
bif(x1==4)then(let x3:ByteArray:=(bytes [72]);
some (x3,()))else
bif(x1==5)then(let x3:ByteArray:=(bytes [72,78]);
some (x3,()))else
bif(x1==10)then(let x3:ByteArray:=(bytes [78,88]);
some (x3,()))else
bif(x1==13)then(let x3:ByteArray:=(bytes [78,80,78]);
some (x3,()))else
bif(x1==14)then(let x3:ByteArray:=(bytes [78,80,78]);
some (x3,()))else
let x3:ByteArray:=(bytes []);
some (x3,())
def Bu:X.Cfg:=⟨E0,[],[],[⟨3,0,qE,[(.normal,qS [Uaa 3,Xaa 4] [])]⟩]⟩
def mz:Ctr:=⟨141,65,Xac,[],[⟨uL [.str],[.one],[]⟩],ap1 j4⟩
theorem pa:Lk 1 mz:=ls Bu aN
def lG(a0:Int)(a1:Int):Option (Bool×Unit):=
bif(a0==78)then(some ((a1==0),()))else
bif(a0==72)then(some ((a1==2),()))else
bif(a0==80)then(some ((a1==1),()))else
some (true,())
def Dz:X.Cfg:=⟨E0,[],[],[]⟩
def qZ:Ctr:=⟨142,66,uL [CB,CB],[],[⟨uab,[.one],[]⟩],ap2 lG⟩
theorem vz:Lk 1 qZ:=ls Dz aN
def g9(a0:Int):Option (Int×Unit):=
bif(decide (a0<0))then(some ((-1),()))else
bif(decide (a0>15))then(some ((-1),()))else
bif(a0==1)then(some (1,()))else
bif(a0==13)then(some (1,()))else
bif(a0==2)then(some (2,()))else
bif(a0==14)then(some (2,()))else
some (0,())
def zp:X.Cfg:=⟨E0,[],[],[]⟩
def jh:Ctr:=⟨126,67,Xac,[],[⟨Xac,[.one],[]⟩],ap1 g9⟩
theorem lu:Lk 1 jh:=ls zp aN
def ll(a0:List (Int))(a1:Int)(a2:List (Int))(a3:Int)(a4:Int)(a5:Int):Option (T02):=
bif(a3 != 1)then(some (0,3,()))else
let x0:=wk .i64 a4;
(fi a0 a1 a2 x0).bind λ(x1,x2,x3,_)=>
(bif(!x3)then(some (true,a3,a4,()))else
bif(decide (a5<0))then(some (true,a3,a4,()))else
(d9 x1).bind λx4=>
(dJ a2 x4).bind λx5=>
let x6:=w64 (x5-x2);
some ((decide (a5>x6)),a3,a4,()):Option (T0b)).bind λ(x4,x5,x6,_)=>
bif x4 then(some (0,4,()))else
let x7:=wk .i64 x6;
some (x7,0,())
def zr:X.Cfg:=⟨E0,[iO],[],[⟨6,0,qE,[(.normal,qS [zaa 6,Xaa 41] [(14,Uab)])]⟩]⟩
def se:Ctr:=⟨143,68,[.agg Zab,shU RI,.agg Uab,shU I64],[],[⟨zad,[.one,.one],[]⟩],ap6 ll⟩
theorem zd:Lk 2 se:=ls zr (aC kG aN)
def lQ:T2v->Option (T2v⊕((Int×Unit)⊕(Int×ByteArray×Int×Int×Bool×T2k))):=λ(v0,v1,v2,v3,v4,v5,v6,v7,v8,v9,v10,v11,v12,v13,v14)=>
bif(decide (v3<v2))then((d9 v3).bind λx0=>
(zT v1 x0).bind λx1=>
(d9 v3).bind λx2=>
(dJ v13 x2).bind λx3=>
(lG x1 x3.1).bind λ(x4,_)=>
bif(!x4)then(some (.inr (.inl (6,()))))else
let x5:=w64 (v3+1);
some (.inl (v0,v1,v2,x5,v4,v5,v6,v7,v8,v9,v10,v11,v12,v13,v14)))else
some (.inr (.inr (v0,v1,v2,v3,false,v4,v5,v6,v7,v8,v9,v10,v11,v12,v13,v14)))
def md(a0:LDIn)(a1:List (Int))(a2:List LI)(a3:List (Int))(a4:Int)(a5:LDCe)(a6:LDLn)(a7:LDTh)(a8:Int):Option (Int×Unit):=
(d9 a8).bind λx0=>
(dJ a7 x0).bind λx1=>
let x2:=w64 (x1.2.2.1-1);
(d9 x2).bind λx3=>
(dJ a0 x3).bind λx4=>
(j4 x4.2.2.2.2).bind λ(x5,_)=>
let x6:=AA x5;
(match dX lQ NN (x4.2.2.2.2,x5,x6,0,a0,a1,a2,a3,a4,a5,a6,a7,x1.1,x1.2.1,x1.2.2.1,x1.2.2.2.1,x1.2.2.2.2.1,x1.2.2.2.2.2.1,x1.2.2.2.2.2.2.1,x1.2.2.2.2.2.2.2,())with
|none=>none
|some (.inl (x7,_))=>
some (x7,())
|some (.inr (x7,x8,x9,ac,ae,af,ag,ah,ai,aj,ak,am,an,ap,aq,_))=>
(g9 x7).bind λ(aD,_)=>
bif(decide (aD>0))then((dJ aq 1).bind λaE=>
(dJ aq 2).bind λaF=>
let aG:=wk .i64 aF.2;
(ll ai aj ag aE.1 aE.2 aG).bind λ(aH,aI,_)=>
bif(aI != 0)then(some (6,()))else
(dJ aq 2).bind λaJ=>
bif(decide (aJ.2>16))then(some (6,()))else
(bif(x7==10)then((dJ aq 0).bind λaK=>
let aL:=wk .i64 aK.2;
let aM:=dO af.length;
some ((decide (aL>=aM)),()))else
bif(x7==12)then((dJ aq 0).bind λaK=>
let aL:=wk .i64 aK.2;
let aM:=dO af.length;
some ((decide (aL>=aM)),()))else
some (false,()):Option (Bool×Unit)).bind λ(aK,_)=>
bif aK then(some (6,()))else
some (0,()))else
(bif(x7==10)then((dJ aq 0).bind λaE=>
let aF:=wk .i64 aE.2;
let aG:=dO af.length;
some ((decide (aF>=aG)),()))else
bif(x7==12)then((dJ aq 0).bind λaE=>
let aF:=wk .i64 aE.2;
let aG:=dO af.length;
some ((decide (aF>=aG)),()))else
some (false,()):Option (Bool×Unit)).bind λ(aE,_)=>
bif aE then(some (6,()))else
some (0,()))
def Bx:X.Cfg:=⟨E0,[mz,qZ,jh,se],[],[⟨6,0,qS [zaa 3,zaa 4,zaa 7,Uaa 8,sP 9 .str,Uaa 29,Uaa 30] [(8,zab),(10,yad),(16,zae)],[(.ret,qS [Uaa 6] []),(.exit 0,qS [zaa 3,zaa 4,zaa 7,Uaa 8,sP 9 .str,Uaa 29,Uaa 30,Xaa 31] [(8,zab),(10,yad),(16,zae)])]⟩,⟨19,1,qE,[(.normal,qS [Xaa 93] [])]⟩]⟩
def ub:Ctr:=⟨122,69,[.agg zab,.agg yad,shU I64],[],[⟨Xac,[.one],[]⟩],ap9 md⟩
theorem AZ:Lk 3 ub:=ls Bx (aC pa (aC vz (aC lu (aC zd aN))))
def lk(a0:Int)(a1:LDCe)(a2:Int)(a3:Int)(a4:Int)(a5:Int)(a6:Int)(a7:Int):Option (T1s):=
bif(dV 4 0 a1.length)then let x0:LDCe:=(List.append [] a1);
some (a0,x0,a2,a3,a4,a5,a6,a7,())else none
def zq:X.Cfg:=⟨E0,[],[],[]⟩
def sd:Ctr:=⟨144,70,[.agg zae],[],[⟨uah,[.agg 8],[]⟩],ap8 lk⟩
theorem zb:Lk 1 sd:=ls zq aN
def mQ(a0:Int)(a1:LDCe)(a2:Int)(a3:Int)(a4:Int)(a5:Int)(a6:Int)(a7:Int)(a8:Int)(a9:Int):Option (T1s):=
(lk a0 a1 a2 a3 a4 a5 a6 a7).bind λ(x0,x1,x2,x3,x4,x5,_)=>
some (4,x1,x2,x3,x4,x5,a8,a9,())
def Fb:X.Cfg:=⟨E0,[sd],[],[]⟩
def sK:Ctr:=⟨123,71,[.agg zae,shU I64,shU CW],[],[⟨uah,[.agg 8],[]⟩],ap10 mQ⟩
theorem xN:Lk 2 sK:=ls Fb (aC zb aN)
def gF(a0:Int):Option (Int×Unit):=
bif(decide (a0<0))then(some ((-1),()))else
bif(decide (a0>15))then(some ((-1),()))else
(j4 a0).bind λ(x0,_)=>
let x1:=AA x0;
some (x1,())
def uY:X.Cfg:=⟨E0,[mz],[],[]⟩
def la:Ctr:=⟨124,72,Xac,[],[⟨Xac,[.one],[]⟩],ap1 gF⟩
theorem ov:Lk 2 la:=ls uY (aC pa aN)
def kf(a0:List (Int))(a1:Int)(a2:List (Int))(a3:Int)(a4:Int):Option (T0q):=
bif(a3==0)then(some (0,a4,0,0,()))else
bif(a3==2)then(let x0:Int:=(wk .u16 (a4-a1));
some (2,x0,0,0,()))else
let x0:=wk .i64 a4;
(fi a0 a1 a2 x0).bind λ(x1,x2,x3,_)=>
bif x3 then(some (1,0,x1,x2,()))else
let x4:=wk .i64 a4;
some (1,0,(-1),x4,())
def BN:X.Cfg:=⟨E0,[iO],[],[]⟩
def ul:Ctr:=⟨125,73,[.agg Zab,shU RI,.agg Uab],[],[⟨Uaf,[.agg 4],[]⟩],ap5 kf⟩
theorem Bb:Lk 2 ul:=ls BN (aC kG aN)
def nC(a0:LDCe)(a1:LDLn)(a2:Int):Option (T02):=
let x0:=w64 (Int.tdiv a2 4);
let x1:=Int.tmod x0 4;
(d9 x1).bind λx2=>
(dJ a1 x2).bind λx3=>
bif(x3.1==x0)then(let x4:Int:=(Int.tmod a2 4);
(d9 x4).bind λx5=>
(dJ x3.2.2 x5).bind λx6=>
some (x6.1,x6.2,()))else
(d9 a2).bind λx4=>
(dJ a0 x4).bind λx5=>
some (x5.1,x5.2,())
def DJ:X.Cfg:=⟨E0,[],[],[]⟩
def wg:Ctr:=⟨127,74,[.agg yag,shU I64],[],[⟨Uab,[.agg 2],[]⟩],ap3 nC⟩
theorem C7:Lk 1 wg:=ls DJ aN
def iB:T2V->Option (T2V⊕(Int×Int×T2R)):=λ(v0,v1,v2,v3,v4,v5,v6,v7,v8,v9,v10,v11,v12,v13,v14,v15,v16,v17,v18,v19,v20,v21,v22,v23,v24,v25,v26,v27,v28,v29,v30,v31,v32,v33,v34,v35,v36,v37,v38,_)=>
bif(decide (v1<v0))then((d9 v1).bind λx0=>
(dJ v24 x0).bind λx1=>
(kf v18 v19 v3 x1.1 x1.2).bind λ(x2,x3,x4,x5,_)=>
let x6:LDCn:=[(x2,(x3,(x4,x5)))];
bif(dV 24 v37.length x6.length)then let x7:LDCn:=(List.append v37 x6);
let x8:=w64 (v1+1);
some (.inl (v0,x8,v2,v3,v4,v5,v6,v7,v8,v9,v10,v11,v12,v13,v14,v15,v16,v17,v18,v19,v20,v21,v22,v23,v24,v25,v26,v27,v28,v29,v30,v31,v32,v33,v34,v35,v36,x7,v38,()))else none)else
some (.inr (v0,v1,false,v2,v3,v4,v5,v6,v7,v8,v9,v10,v11,v12,v13,v14,v15,v16,v17,v18,v19,v20,v21,v22,v23,v24,v25,v26,v27,v28,v29,v30,v31,v32,v33,v34,v35,v36,v37,v38,()))
def iA:T2U->Option (T2U⊕T2X):=λ(v0,v1,v2,v3,v4,v5,v6,v7,v8,v9,v10,v11,v12,v13,v14,v15,v16,v17,v18,v19,v20,v21,v22,v23,v24,v25,v26,v27,v28,v29,v30,v31,v32,v33,v34,v35,v36,v37,v38,_)=>
bif(decide (v1<v0))then((dJ v24 1).bind λx0=>
let x1:=wk .i64 x0.2;
let x2:=w64 (x1+v1);
(nC v20 v21 x2).bind λ(x3,x4,_)=>
(kf v18 v19 v3 x3 x4).bind λ(x5,x6,x7,x8,_)=>
let x9:LDCn:=[(x5,(x6,(x7,x8)))];
bif(dV 24 v38.length x9.length)then let ac:LDCn:=(List.append v38 x9);
let ae:=w64 (v1+1);
some (.inl (v0,ae,v2,v3,v4,v5,v6,v7,v8,v9,v10,v11,v12,v13,v14,v15,v16,v17,v18,v19,v20,v21,v22,v23,v24,v25,v26,v27,v28,v29,v30,v31,v32,v33,v34,v35,v36,v37,ac,()))else none)else
some (.inr (v0,v1,false,v2,v3,v4,v5,v6,v7,v8,v9,v10,v11,v12,v13,v14,v15,v16,v17,v18,v19,v20,v21,v22,v23,v24,v25,v26,v27,v28,v29,v30,v31,v32,v33,v34,v35,v36,v37,v38,()))
def lH(a0:LDIn)(a1:List (Int))(a2:List LI)(a3:List (Int))(a4:Int)(a5:LDCe)(a6:LDLn)(a7:LDTh)(a8:Int)(a9:Int):Option (LI×Int×LDCe×LDLn×LDTh×T1A):=
(me a0 a1 a2 a3 a4 a5 a6 a7 a8 a9).bind λ(x0,x1,x2,x3,x4,x5,x6,_)=>
bif(x6 != 0)then(some ([],0,[],[],[],0,0,0,0,0,0,[],[],x6,()))else
(d9 a8).bind λx7=>
(dJ x4 x7).bind λx8=>
(dJ x4 x7).bind λx9=>
(dJ x4 x7).bind λac=>
(match(bif(x5==2)then(some (.inl ((),0,(),(),(),0,0,0,0,0,0,(),(),x0,x1,x2,x3,x4,a8,x5,x9.2.2.2.2.2.2.1,x9.2.2.2.1,x9.2.2.1,0,(),(),())))else
bif(x5==1)then((md a0 a1 a2 x0 x1 x2 x3 x4 a8).bind λ(ae,_)=>
bif(ae != 0)then((mQ x9.1 ac.2.1 x9.2.2.1 x9.2.2.2.1 x9.2.2.2.2.1 x9.2.2.2.2.2.1 x9.2.2.2.2.2.2.1 x9.2.2.2.2.2.2.2 ae 0).bind λ(af,ag,ah,ai,aj,ak,am,an,_)=>
(d9 a8).bind λap=>
(dJ x4 ap).bind λaq=>
(dJ x4 ap).bind λav=>
let ax:=(List.modify x4 ap λe=>(af,(ag,(ah,(ai,(aj,(ak,(am,an))))))));
some (.inl ((),0,(),(),(),0,0,0,0,0,0,(),(),x0,x1,x2,x3,ax,a8,2,ae,x9.2.2.2.1,x9.2.2.1,0,(),(),())))else
let af:=w64 (x9.2.2.1-1);
(d9 af).bind λag=>
(dJ a0 ag).bind λah=>
(gF ah.2.2.2.2).bind λ(ai,_)=>
(dX iB NN (ai,0,a0,a1,a2,(),0,(),(),(),0,0,0,0,0,0,(),(),x0,x1,x2,x3,x4,x9.1,ac.2.1,x9.2.2.1,x9.2.2.2.1,x9.2.2.2.2.1,x9.2.2.2.2.2.1,x9.2.2.2.2.2.2.1,x9.2.2.2.2.2.2.2,a8,x5,0,x9.2.2.2.1,x9.2.2.1,ah.2.2.2.2,[],(),())).bind λ(aj,ak,am,an,ap,aq,av,ax,ay,az,aA,aB,aD,aE,aF,aG,aH,aI,aJ,aK,aL,aM,aO,aP,aQ,aR,aS,aT,aU,aV,aW,aY,aZ,ba,bc,bd,bf,bg,bh,bi,_)=>
(g9 bg).bind λ(bj,_)=>
bif(bj==1)then((dJ aR 2).bind λbk=>
let bl:=wk .i64 bk.2;
(dX iA NN (bl,0,an,ap,aq,av,ax,ay,az,aA,aB,aD,aE,aF,aG,aH,aI,aJ,aK,aL,aM,aO,aP,aQ,aR,aS,aT,aU,aV,aW,aY,aZ,ba,bc,bd,bf,bg,bh,[],())).bind λ(bm)=>
some (.inr (.inl (bm))))else
some (.inr (.inr (.inl (false,an,ap,aq,av,ax,ay,az,aA,aB,aD,aE,aF,aG,aH,aI,aJ,aK,aL,aM,aO,aP,aQ,aR,aS,aT,aU,aV,aW,aY,aZ,ba,bc,bd,bf,bg,bh,bi,())))))else
some (.inr (.inr (.inr (a8,false,a0,a1,a2,(),0,(),(),(),0,0,0,0,0,0,(),(),x0,x1,x2,x3,x4,x9.1,ac.2.1,x9.2.2.1,x9.2.2.2.1,x9.2.2.2.2.1,x9.2.2.2.2.2.1,x9.2.2.2.2.2.2.1,x9.2.2.2.2.2.2.2,a8,x5,0,x9.2.2.2.1,x9.2.2.1,0,(),(),())))):Option ((Unit×Int×Unit×Unit×Unit×Int×Int×Int×Int×Int×Int×Unit×Unit×LI×Int×LDCe×LDLn×LDTh×T1n)⊕(T2X⊕(T2R⊕(Int×Bool×LDIn×LI×LLI×Unit×Int×Unit×Unit×Unit×Int×Int×Int×Int×Int×Int×Unit×Unit×LI×Int×LDCe×LDLn×LDTh×Int×LDCe×Int×Int×Int×Int×Int×Int×T1n)))))with
|none=>none
|some (.inl (ae,af,ag,ah,ai,aj,ak,am,an,ap,aq,av,ax,ay,az,aA,aB,aD,aE,aF,aG,aH,aI,aJ,aK,aL,_))=>
some (ay,az,aA,aB,aD,aE,aF,aG,aH,aI,aJ,[],[],0,())
|some (.inr (.inl (ae,af,ag,ah,ai,aj,ak,am,an,ap,aq,av,ax,ay,az,aA,aB,aD,aE,aF,aG,aH,aI,aJ,aK,aL,aM,aO,aP,aQ,aR,aS,aT,aU,aV,aW,aY,aZ,ba,bc,_)))=>
some (aF,aG,aH,aI,aJ,aT,aU,aV,aW,aY,aZ,ba,bc,0,())
|some (.inr (.inr (.inl (ae,af,ag,ah,ai,aj,ak,am,an,ap,aq,av,ax,ay,az,aA,aB,aD,aE,aF,aG,aH,aI,aJ,aK,aL,aM,aO,aP,aQ,aR,aS,aT,aU,aV,aW,aY,aZ,_))))=>
some (aD,aE,aF,aG,aH,aR,aS,aT,aU,aV,aW,aY,[],0,())
|some (.inr (.inr (.inr (ae,af,ag,ah,ai,aj,ak,am,an,ap,aq,av,ax,ay,az,aA,aB,aD,aE,aF,aG,aH,aI,aJ,aK,aL,aM,aO,aP,aQ,aR,aS,aT,aU,aV,aW,aY,aZ,ba,_))))=>
some (aE,aF,aG,aH,aI,aS,aT,aU,aV,aW,aY,[],[],0,()))
def DA:X.Cfg:=⟨E0,[uc,ub,sK,la,ul,jh,wg],[],[⟨19,0,qS [zaa 4,zaa 8,zaa 9,zaa 11,zaa 14,zaa 15,Uaa 80,Uaa 81] [(10,zab),(18,yae),(20,yaf),(24,zag),(30,zae),(32,Uai)],[(.exit 1,qS [zaa 4,zaa 8,zaa 9,zaa 11,zaa 14,zaa 15,Uaa 80,Uaa 81,Xaa 82] [(10,zab),(18,yae),(20,yaf),(24,zag),(30,zae),(32,Uai)])]⟩,⟨26,1,qS [zaa 4,zaa 8,zaa 9,zaa 11,zaa 14,zaa 15,Uaa 109,Uaa 110] [(10,zab),(18,yae),(20,yaf),(24,zag),(30,zae),(32,Xai)],[(.exit 3,qS [zaa 4,zaa 8,zaa 9,zaa 11,zaa 14,zaa 15,Uaa 109,Uaa 110,Xaa 111] [(10,zab),(18,yae),(20,yaf),(24,zag),(30,zae),(32,Xai)])]⟩,⟨7,2,qE,[(.normal,qS [zaa 8,zaa 9,zaa 11,zaa 15] [(18,yae),(20,yaf),(24,zag),(32,yaf)]),(.normal,qS [zaa 4,zaa 8,zaa 9,zaa 11,zaa 14,zaa 15,Uaa 109,Uaa 110,Xaa 111] [(10,zab),(18,yae),(20,yaf),(24,zag),(30,zae),(32,Xai)]),(.normal,qS [zaa 4,zaa 8,zaa 9,zaa 11,zaa 14,zaa 15,Xaa 103] [(10,zab),(18,yae),(20,yaf),(24,zag),(30,zae),(32,Uai)]),(.normal,qS [Uaa 2,zaa 4,zaa 8,zaa 9,zaa 11,zaa 14,zaa 15,Xaa 51] [(10,zab),(18,yae),(20,yaf),(24,zag),(30,zae),(32,yaf)])]⟩]⟩
def vZ:Ctr:=⟨95,75,[.agg zab,.agg yad,shU I64,shU I64],[],[⟨uL [RI,CW,gw,iS,jE,I64,I64,I64,I64,I64,I64,d7,d7,I64],[.agg 5,.agg 8,.one],[]⟩],ap10 lH⟩
theorem C4:Lk 6 vZ:=ls DA (aC A2 (aC AZ (aC xN (aC ov (aC Bb (aC lu (aC C7 aN)))))))
def iz:T1N->Option (T1N⊕T1W):=λ(v0,v1,v2,v3,v4,v5,v6,v7,v8,_)=>
bif(decide (v2<v1))then((d9 v2).bind λx0=>
(dJ v0 x0).bind λx1=>
bif(dV 8 0 x1.length)then let x2:List (Int):=(List.append [] x1);
bif(dV 24 v8.length (List.length [x2]))then let x3:List LI:=(List.append v8 [x2]);
let x4:=w64 (v2+1);
some (.inl (v0,v1,x4,v3,v4,v5,v6,v7,x3,()))else none else none)else
some (.inr (v0,v1,v2,false,v3,v4,v5,v6,v7,v8,()))
def lE(a0:List (Int))(a1:List LI):Option (T08):=
bif(dV 8 0 a0.length)then let x0:List (Int):=(List.append [] a0);
let x1:=dO a1.length;
(dX iz NN (a1,x1,0,a0,a1,(),(),x0,[],())).bind λ(x2,x3,x4,x5,x6,x7,x8,x9,ac)=>
some (ac)else none
def Dw:X.Cfg:=⟨E0,[],[(21,(uaa I64)),(22,(uaa I64))],[(lx 4 0 [zaa 2,zaa 3,sP 11 (yaa RI),Uaa 12,Uaa 13] [(4,Uae),(6,Xab),(8,Zad)] 14)]⟩
def nS:Ctr:=⟨146,76,[.agg Uae],[],[⟨Zad,[.agg 2],[]⟩],ap2 lE⟩
theorem qH:Lk 1 nS:=ls Dw aN
def jH(a0:List (Int))(a1:List LI)(a2:Int)(a3:Int):Option (LI×LLI×T01):=
(lE a0 a1).bind λ(x0,x1,_)=>
(bif(decide (a2<0))then(some (a2,true,(),(),x0,x1,()))else
bif(decide (a2>=4))then(some (a2,true,(),(),x0,x1,()))else
(d9 a2).bind λx2=>
(dJ a0 x2).bind λx3=>
some (a2,(x3 != a3),(),(),x0,x1,()):Option (T0U)).bind λ(x2,x3,x4,x5,x6,x7,_)=>
bif x3 then(some (x6,x7,(-1),false,()))else
(d9 x2).bind λx8=>
(dJ x6 x8).bind λx9=>
(dJ x6 x8).bind λac=>
let ae:=List.modify x6 x8 λe=>(-1);
(d9 x2).bind λaf=>
(dJ x7 af).bind λag=>
(dJ x7 af).bind λah=>
(dJ x7 af).bind λai=>
let aj:=dO ai.length;
bif(decide (aj>0))then((d9 x2).bind λak=>
(dJ x7 ak).bind λam=>
(dJ x7 ak).bind λan=>
(dJ x7 ak).bind λap=>
(dJ ap 0).bind λaq=>
(dJ x7 ak).bind λav=>
(dJ av 0).bind λax=>
(d9 x2).bind λay=>
(dJ ae ay).bind λaz=>
(dJ ae ay).bind λaA=>
let aB:=List.modify ae ay λe=>ax;
(d9 x2).bind λaD=>
(dJ x7 aD).bind λaE=>
(dJ x7 aD).bind λaF=>
(dJ x7 aD).bind λaG=>
bif(gi 1 aG.length aG.length)then(dJ x7 aD).bind λaH=>
(d9 x2).bind λaI=>
(dJ x7 aI).bind λaJ=>
(dJ x7 aD).bind λaK=>
(dJ x7 aI).bind λaL=>
let aM:=(List.modify x7 aI λe=>(lO aK 1 (Nat.sub aG.length 1)));
(d9 x2).bind λaO=>
(dJ aB aO).bind λaP=>
some (aB,aM,aP,true,())else none)else
(d9 x2).bind λak=>
(dJ ae ak).bind λam=>
some (ae,x7,am,true,())
def Du:X.Cfg:=⟨E0,[nS],[],[⟨3,0,qE,[(.normal,qS [Uaa 1,zaa 6,zaa 9,Xaa 26] [(14,Xab),(20,Zad)])]⟩]⟩
def nR:Ctr:=⟨128,77,[.agg Uae,shU I64,shU I64],[],[⟨uL [RI,(yaa RI),I64,.bool],[.agg 2,.one,.one],[]⟩],ap4 jH⟩
theorem qG:Lk 2 nR:=ls Du (aC qH aN)
def d8(a0:Int)(a1:Bool):Option (T1c):=
(bif(!a1)then(some (65535,0,0,0,0,(),0,false,()))else
some (a0,0,0,0,0,(),0,false,()):Option (Int×T1c)).bind λ(x0,_)=>
let x8:=wk .u16 x0;
some (0,x8,0,0,(),(-1),false,())
def Bn:X.Cfg:=⟨E0,[],[],[⟨1,0,qE,[(.normal,qS [Uaa 0,zaa 4] [(10,Uad)])]⟩]⟩
def kM:Ctr:=⟨147,78,uL [I64,.bool],[],[⟨Uad,[.agg 7],[]⟩],ap2 d8⟩
theorem mt:Lk 1 kM:=ls Bn aN
def mP:T2g->Option (T2g⊕((Int×T08)⊕(Int×Int×LLI×Int×Int×LI×T1x))):=λ(v0,v1,v2,v3,v4,v5,v6,v7,v8,v9,v10,v11,v12)=>
bif(decide (v7<v6))then((d9 v7).bind λx0=>
(dJ v5 x0).bind λx1=>
bif(x1==v1)then(some (.inr (.inl (2,v12))))else
let x2:=w64 (v7+1);
some (.inl (v0,v1,v2,v3,v4,v5,v6,x2,v8,v9,v10,v11,v12)))else
some (.inr (.inr (v0,v1,v2,v3,v4,v5,v6,v7,false,v8,v9,v10,v11,v12)))
def mO:T1Z->Option (T1Z⊕((Int×T08)⊕(Int×Int×T1W))):=λ(v0,v1,v2,v3,v4,v5)=>
bif(decide (v4<v3))then((d9 v4).bind λx0=>
(dJ v2 x0).bind λx1=>
let x2:=dO x1.length;
(match dX mP NN (v0,v1,v2,v3,v4,x1,x2,0,v5)with
|none=>none
|some (.inl (x3,x4,x5,_))=>
some (.inr (.inl (x3,x4,x5,())))
|some (.inr (x3,x4,x5,x6,x7,x8,x9,ac,ae,af))=>
let am:=w64 (x7+1);
some (.inl (x3,x4,x5,x6,am,af))))else
some (.inr (.inr (v0,v1,v2,v3,v4,false,v5)))
def ny(a0:List (Int))(a1:List LI)(a2:Int)(a3:Int):Option (LI×LLI×Int×Unit):=
(lE a0 a1).bind λ(x0,x1,_)=>
(bif(decide (a2<0))then(some (a2,a3,true,a0,a1,(),(),x0,x1,()))else
bif(decide (a2>=4))then(some (a2,a3,true,a0,a1,(),(),x0,x1,()))else
(d9 a2).bind λx2=>
(dJ a0 x2).bind λx3=>
some (a2,a3,(x3==a3),a0,a1,(),(),x0,x1,()):Option (T1x)).bind λ(x2,x3,x4,x5,x6,x7,x8,x9,ac,_)=>
bif x4 then(some (x9,ac,2,()))else
let ae:=dO x6.length;
(match dX mO NN (x2,x3,x6,ae,0,x5,x6,x7,x8,x9,ac,())with
|none=>none
|some (.inl (af,ag,ah,_))=>
some (ag,ah,af,())
|some (.inr (af,ag,ah,ai,aj,ak,am,an,ap,aq,av,ax,_))=>
(d9 af).bind λay=>
(dJ am ay).bind λaz=>
bif(az==(-1))then((d9 af).bind λaA=>
(dJ av aA).bind λaB=>
(dJ av aA).bind λaD=>
let aE:=List.modify av aA λe=>ag;
some (aE,ax,0,()))else
(d9 af).bind λaA=>
(dJ ax aA).bind λaB=>
(dJ ax aA).bind λaD=>
(dJ ax aA).bind λaE=>
bif(dV 8 aE.length (List.length [ag]))then let aF:List (Int):=(List.append aE [ag]);
(d9 af).bind λaG=>
(dJ ax aG).bind λaH=>
(dJ ax aG).bind λaI=>
bif(Nat.beq aG aA)then let aJ:List LI:=(List.modify ax aG λe=>aF);
some (av,aJ,1,())else none else none)
def Dt:X.Cfg:=⟨E0,[nS],[],[⟨3,0,qE,[(.normal,qS [Uaa 1,Uaa 2,zaa 3,zaa 6,zaa 8,Xaa 29] [(8,Uae),(14,Xab),(18,Zad)])]⟩,⟨13,1,qS [Uaa 1,Uaa 2,zaa 3,zaa 6,zaa 8,sP 32 (yaa RI),Uaa 33,Uaa 34,sP 38 RI,Uaa 39,Uaa 40] [(8,Uae),(14,Xab),(18,Zad)],[(.ret,qS [zaa 6,Uaa 7] [(14,Zad)]),(.exit 2,qS [Uaa 1,Uaa 2,zaa 3,zaa 6,zaa 8,sP 32 (yaa RI),Uaa 33,Uaa 34,sP 38 RI,Uaa 39,Uaa 40,Xaa 41] [(8,Uae),(14,Xab),(18,Zad)])]⟩,⟨7,2,qS [Uaa 1,Uaa 2,zaa 3,zaa 6,zaa 8,sP 32 (yaa RI),Uaa 33,Uaa 34] [(8,Uae),(14,Xab),(18,Zad)],[(.ret,qS [zaa 6,Uaa 7] [(14,Zad)]),(.exit 0,qS [Uaa 1,Uaa 2,zaa 3,zaa 6,zaa 8,sP 32 (yaa RI),Uaa 33,Uaa 34,Xaa 35] [(8,Uae),(14,Xab),(18,Zad)])]⟩]⟩
def vV:Ctr:=⟨148,79,[.agg Uae,shU I64,shU I64],[],[⟨uL [(uaa I64),(uaa (uaa I64)),I64],[.agg 2,.one],[]⟩],ap4 ny⟩
theorem CY:Lk 2 vV:=ls Dt (aC qH aN)
def j5(a0:Int)(a1:Int)(a2:Int)(a3:Int)(a4:Int)(a5:Int)(a6:LDCn)(a7:LDCn):Option (Bool×Unit):=
bif(decide (a0>=0))then(bif(decide (a0<4))then(bif(decide (a1>=0))then(bif(decide (a1<=3))then(bif(decide (a2>=0))then(bif(decide (a2<=6))then(bif(decide (a3>=0))then(bif(decide (a3<=1099511627776))then(bif(decide (a4>=0))then(bif(decide (a4<=255))then(bif(decide (a5>=0))then(bif(decide (a5<=15))then((fR a6 3).bind λ(x0,_)=>
bif x0 then((fR a7 16).bind λ(x1,_)=>
some (x1,()))else
some (false,()))else
some (false,()))else
some (false,()))else
some (false,()))else
some (false,()))else
some (false,()))else
some (false,()))else
some (false,()))else
some (false,()))else
some (false,()))else
some (false,()))else
some (false,()))else
some (false,())
def Bv:X.Cfg:=⟨E0,[i7],[],[]⟩
def pt:Ctr:=⟨38,80,[.agg uac],[],[⟨uab,[.one],[]⟩],ap8 j5⟩
theorem tG:Lk 3 pt:=ls Bv (aC kF aN)
def qc(a0:Int):Option (Bool×Unit):=
bif(decide (a0>=1))then(bif(decide (a0<=7))then(some (true,()))else
bif(a0==13)then(some (true,()))else
some ((a0==14),()))else
bif(a0==13)then(some (true,()))else
some ((a0==14),())
def Dl:X.Cfg:=⟨E0,[],[],[]⟩
def vP:Ctr:=⟨160,81,Xac,[],[⟨uab,[.one],[]⟩],ap1 qc⟩
theorem CR:Lk 1 vP:=ls Dl aN
def gW:T26->Option (T26⊕((Bool×Unit)⊕(ByteArray×LDCn×Int×Int×Bool×T1m))):=λ(v0,v1,v2,v3,v4)=>
bif(decide (v3<v2))then((d9 v3).bind λx0=>
(dJ v1 x0).bind λx1=>
(d9 v3).bind λx2=>
(zT v0 x2).bind λx3=>
(lG x3 x1.1).bind λ(x4,_)=>
bif(!x4)then(some (.inr (.inl (false,()))))else
let x5:=w64 (v3+1);
some (.inl (v0,v1,v2,x5,v4)))else
some (.inr (.inr (v0,v1,v2,v3,false,v4)))
def mc(a0:Int)(a1:Int)(a2:Int)(a3:Int)(a4:Int)(a5:Int)(a6:LDCn)(a7:LDCn):Option (Bool×Unit):=
(j4 a5).bind λ(x0,_)=>
let x1:=AA x0;
let x2:=dO a6.length;
bif(x1 != x2)then(some (false,()))else
let x3:=dO a6.length;
(match dX gW NN (x0,a6,x3,0,a0,a1,a2,a3,a4,a5,a6,a7,())with
|none=>none
|some (.inl (x4,_))=>
some (x4,())
|some (.inr (x4,_))=>
some (true,()))
def Bw:X.Cfg:=⟨E0,[mz,qZ],[],[⟨7,0,qS [sP 3 .str,sP 16 d7,Uaa 17,Uaa 18] [(4,uac)],[(.ret,qS [Xaa 2] []),(.exit 0,qS [sP 3 .str,sP 16 d7,Uaa 17,Uaa 18,Xaa 19] [(4,uac)])]⟩]⟩
def ua:Ctr:=⟨161,82,[.agg uac],[],[⟨uab,[.one],[]⟩],ap8 mc⟩
theorem AY:Lk 2 ua:=ls Bw (aC pa (aC vz aN))
def gN(a0:List LDCn)(a1:LDOp)(a2:Int):Option (Bool×Unit):=
bif(decide (a2>=0))then(let x0:Int:=(dO a1.length);
bif(decide (a2<x0))then((d9 a2).bind λx1=>
(dJ a1 x1).bind λx2=>
some ((x2.1 != (-1)),()))else
some (false,()))else
some (false,())
def Do:X.Cfg:=⟨E0,[],[],[]⟩
def lL:Ctr:=⟨178,83,[.agg Zac,shU I64],[],[⟨uab,[.one],[]⟩],ap3 gN⟩
theorem nN:Lk 1 lL:=ls Do aN
def pL:T22->Option (T22⊕(LDCn×Nat×Int×Int×Int×Bool×T17)):=λ(v0,v1,v2,v3,v4,v5,v6,v7,v8,v9,v10,_)=>
bif(decide (v4<v3))then(((dJ v9 v1).bind λx0=>
let x1:=w64 (x0.2.1+v4);
let x2:=dO v10.length;
bif(decide (x1<x2))then((dJ v9 v1).bind λx3=>
let x4:=w64 (x3.2.1+v4);
(d9 v4).bind λx5=>
(dJ v0 x5).bind λx6=>
(d9 x4).bind λx7=>
(dJ v10 x7).bind λx8=>
(dJ v10 x7).bind λx9=>
let ac:=(List.modify v10 x7 λe=>(x6.1,(x6.2.1,(x6.2.2.1,x6.2.2.2))));
some (v0,v1,v2,v3,v4,v5,v6,v7,v8,v9,ac,()))else
(d9 v4).bind λx3=>
(dJ v0 x3).bind λx4=>
let x5:LDCn:=[(x4.1,(x4.2.1,(x4.2.2.1,x4.2.2.2)))];
bif(dV 24 v10.length x5.length)then let x6:LDCn:=(List.append v10 x5);
some (v0,v1,v2,v3,v4,v5,v6,v7,v8,v9,x6,())else none:Option (T22)).bind λ(x0,x1,x2,x3,x4,x5,x6,x7,x8,x9,ac,_)=>
let ae:=w64 (x4+1);
some (.inl (x0,x1,x2,x3,ae,x5,x6,x7,x8,x9,ac,())))else
some (.inr (v0,v1,v2,v3,v4,false,v5,v6,v7,v8,v9,v10,()))
def ma(a0:List LDCn)(a1:LDOp)(a2:Int)(a3:LDCn):Option (LLCn×LDOp×T01):=
(gh a0 a1).bind λ(x0,x1,_)=>
((gN a0 a1 a2).bind λ(x2,_)=>
bif(!x2)then(some (a2,a3,true,(),(),x0,x1,()))else
(d9 a2).bind λx3=>
(dJ a1 x3).bind λx4=>
bif(!x4.2.2)then(some (a2,a3,true,(),(),x0,x1,()))else
let x5:=dO a3.length;
(fR a3 x5).bind λ(x6,_)=>
some (a2,a3,(!x6),(),(),x0,x1,()):Option (Int×LDCn×T0H)).bind λ(x2,x3,x4,x5,x6,x7,x8,_)=>
bif x4 then(some (x7,x8,0,false,()))else
(d9 x2).bind λx9=>
(dJ x8 x9).bind λac=>
let ae:=dO x3.length;
(dJ x8 x9).bind λaf=>
let ag:=w64 (64-af.2.1);
let ah:=mmR false ae ag;
(dJ x8 x9).bind λai=>
(d9 ai.1).bind λaj=>
(dJ x7 aj).bind λak=>
(dJ x7 aj).bind λam=>
(dJ x7 aj).bind λan=>
(dX pL NN (x3,x9,ah,ah,0,x5,x6,x7,aj,x8,an,())).bind λ(ap,aq,av,ax,ay,az,aA,aB,aD,aE,aF,aG,_)=>
(dJ aF aq).bind λaH=>
(d9 aH.1).bind λaI=>
(dJ aD aI).bind λaJ=>
(dJ aD aI).bind λaK=>
bif(Nat.beq aI aE)then let aL:List LDCn:=(List.modify aD aI λe=>aG);
(dJ aF aq).bind λaM=>
let aO:=w64 (aM.2.1+av);
(dJ aF aq).bind λaP=>
let aQ:=(List.modify aF aq λe=>(e.1,(aO,e.2.2)));
some (aL,aQ,av,true,())else none
def Bq:X.Cfg:=⟨E0,[iN,lL,i7],[],[⟨3,0,qE,[(.normal,qS [Uaa 1,sP 2 d7,zaa 6,zaa 9,Xaa 35] [(14,Xab),(20,uae)])]⟩,⟨13,1,qE,[(.normal,(qS [sP 2 d7,zaa 6,zaa 9,(10,.ptr ⟨20,1,[((),(3,0))]⟩ [0,0]),Uaa 11,Zaa 12 27,Uaa 57,Uaa 58] [(14,Xab),(20,[.gap (uaa KCn) () () 0,shU (uaa KOp)]),(27,Uag)]))]⟩,(lx 10 2 [sP 2 d7,zaa 6,zaa 9,(10,.ptr ⟨20,1,[((),(3,0))]⟩ [0,0]),Uaa 11,Zaa 12 27,Uaa 57,Uaa 58] [(14,Xab),(20,[.gap (uaa KCn) () () 0,shU (uaa KOp)]),(27,Uag)] 59)]⟩
def t8:Ctr:=⟨162,84,[.agg Zac,shU I64,shU d7],[],[⟨uL [(uaa (uaa KCn)),(uaa KOp),I64,.bool],[.agg 2,.one,.one],[]⟩],ap4 ma⟩
theorem AW:Lk 3 t8:=ls Bq (aC jN (aC nN (aC kF aN)))
def nv(a0:List LDCn)(a1:LDOp)(a2:Int)(a3:Int):Option ((LLCn×LDOp×Unit×Bool×Unit)⊕(LLCn×LDOp×LDCn×Bool×Unit)):=
(gh a0 a1).bind λ(x0,x1,_)=>
((gN a0 a1 a2).bind λ(x2,_)=>
bif(!x2)then(some (a2,a3,true,a0,a1,(),(),x0,x1,()))else
bif(decide (a3<0))then(some (a2,a3,true,a0,a1,(),(),x0,x1,()))else
(d9 a2).bind λx3=>
(dJ a1 x3).bind λx4=>
some (a2,a3,x4.2.2,a0,a1,(),(),x0,x1,()):Option (T1y)).bind λ(x2,x3,x4,x5,x6,x7,x8,x9,ac,_)=>
bif x4 then(some (.inl (x9,ac,(),false,())))else
(d9 x2).bind λae=>
(dJ ac ae).bind λaf=>
(dJ ac ae).bind λag=>
(d9 ag.1).bind λah=>
(dJ x9 ah).bind λai=>
(dJ x9 ah).bind λaj=>
(dJ x9 ah).bind λak=>
let am:=dO ak.length;
(dJ ac ae).bind λan=>
let ap:=w64 (am-an.2.1);
let aq:=mmR false x3 ap;
(dJ ac ae).bind λav=>
(dJ ac ae).bind λax=>
let ay:=w64 (ax.2.1+aq);
(d9 av.2.1).bind λaz=>
(d9 ay).bind λaA=>
bif(gi az aA ak.length)then let aB:LDCn:=(lO ak az (Nat.sub aA az));
bif(dV 24 0 aB.length)then let aD:LDCn:=(List.append [] aB);
(dJ ac ae).bind λaE=>
let aF:=w64 (aE.2.1+aq);
(dJ ac ae).bind λaG=>
let aH:=(List.modify ac ae λe=>(e.1,(aF,e.2.2)));
some (.inr (x9,aH,aD,true,()))else none else none
def Dq:X.Cfg:=⟨E0,[iN,lL],[],[⟨3,0,qE,[(.normal,qS [Uaa 1,Uaa 2,zaa 6,zaa 9,Xaa 31] [(8,Zac),(14,Xab),(20,uae)])]⟩]⟩
def vT:Ctr:=⟨163,85,[.agg Zac,shU I64,shU I64],[],[⟨uL [(uaa (uaa KCn)),(uaa KOp),N1,.bool],[.agg 2,.one,.one],[]⟩,⟨uL [(uaa d7),(uaa KOp),(uaa KCn),.bool],[.agg 2,.one,.one],[]⟩],ap4 nv⟩
theorem CV:Lk 2 vT:=ls Dq (aC jN (aC nN aN))
def qe:T1C->Option (T1C⊕(Int×T1y)):=λ(v0,v1,v2,v3,v4,v5)=>
let x0:=dO v4.length;
bif(decide (v2<x0))then((d9 v2).bind λx1=>
(dJ v4 x1).bind λx2=>
bif(x2.1 != (-1))then(let x3:Int:=(w64 (v2+1));
some (.inl (v0,v1,x3,v3,v4,v5)))else
some (.inr (v0,v1,v2,false,v3,v4,v5)))else
some (.inr (v0,v1,v2,false,v3,v4,v5))
def qd:T1B->Option (T1B⊕(Int×Int×T1l)):=λ(v0,v1,v2,v3,v4,v5,v6,v7,v8,_)=>
bif(decide (v4<v3))then(((d9 v4).bind λx0=>
(dJ v8 x0).bind λx1=>
(dJ v8 x0).bind λx2=>
bif(x2.1==v0)then((d9 v4).bind λx3=>
(dJ v8 x3).bind λx4=>
(dJ v8 x3).bind λx5=>
let x6:=(List.modify v8 x3 λe=>(e.1,(0,e.2.2)));
some (v0,v1,v2,v3,v4,v5,v6,v7,x6,()))else
some (v0,v1,v2,v3,v4,v5,v6,v7,v8,()):Option (T1B)).bind λ(x0,x1,x2,x3,x4,x5,x6,x7)=>
let x9:=w64 (x4+1);
some (.inl (x0,x1,x2,x3,x9,x5,x6,x7)))else
some (.inr (v0,v1,v2,v3,v4,false,v5,v6,v7,v8,()))
def nw(a0:List LDCn)(a1:LDOp)(a2:Int)(a3:Int):Option (LLCn×LDOp×Int×Unit):=
(gh a0 a1).bind λ(x0,x1,_)=>
(dX qe NN (a2,a3,0,a0,a1,(),(),x0,x1,())).bind λ(x2,x3,x4,x5,x6,x7,x8)=>
(bif(decide (x2<0))then(some (x2,x3,x4,true,x8))else
let af:=dO x6.length;
bif(decide (x2>=af))then(some (x2,x3,x4,true,x8))else
bif(decide (x3<0))then(some (x2,x3,x4,true,x8))else
bif(decide (x3>2))then(some (x2,x3,x4,true,x8))else
let ag:=dO x7.length;
some (x2,x3,x4,(x4==ag),x8):Option (T1l)).bind λ(af,ag,ah,ai,aj,ak,am,an,_)=>
bif ai then(some (am,an,(-1),()))else
bif(ag==1)then((d9 af).bind λap=>
(dJ am ap).bind λaq=>
(dJ am ap).bind λav=>
let ax:=List.modify am ap λe=>[];
let ay:=dO an.length;
(dX qd NN (af,ag,ah,ay,0,aj,ak,ax,an,())).bind λ(az,aA,aB,aD,aE,aF,aG,aH,aI,aJ,_)=>
(d9 aB).bind λaK=>
(dJ aJ aK).bind λaL=>
(dJ aJ aK).bind λaM=>
let aO:=(List.modify aJ aK λe=>(az,(0,(decide (aA>0)))));
(bif(aA==2)then((d9 az).bind λaP=>
(dJ aI aP).bind λaQ=>
(dJ aI aP).bind λaR=>
(dJ aI aP).bind λaS=>
let aT:=dO aS.length;
(d9 aB).bind λaU=>
(dJ aO aU).bind λaV=>
(dJ aO aU).bind λaW=>
let aY:=(List.modify aO aU λe=>(e.1,(aT,e.2.2)));
some (aB,aG,aH,aI,aY,()))else
some (aB,aG,aH,aI,aO,()):Option (T0M)).bind λ(aP,aQ,aR,aS,aT,_)=>
some (aS,aT,aP,()))else
(d9 ah).bind λap=>
(dJ an ap).bind λaq=>
(dJ an ap).bind λav=>
let ax:=(List.modify an ap λe=>(af,(0,(decide (ag>0)))));
(bif(ag==2)then((d9 af).bind λay=>
(dJ am ay).bind λaz=>
(dJ am ay).bind λaA=>
(dJ am ay).bind λaB=>
let aD:=dO aB.length;
(d9 ah).bind λaE=>
(dJ ax aE).bind λaF=>
(dJ ax aE).bind λaG=>
let aH:=(List.modify ax aE λe=>(e.1,(aD,e.2.2)));
some (ah,aj,ak,am,aH,()))else
some (ah,aj,ak,am,ax,()):Option (T0M)).bind λ(ay,az,aA,aB,aD,_)=>
some (aB,aD,ay,())
def Dr:X.Cfg:=⟨E0,[iN],[],[(lx 4 0 [Uaa 1,Uaa 2,zaa 3,zaa 6,zaa 8,Uaa 9] [(8,Zac),(14,Xab),(18,uae)] 26),⟨8,1,qE,[(.normal,qS [Uaa 1,Uaa 2,zaa 6,zaa 8,Uaa 9,Xaa 52] [(14,Xab),(18,uae)])]⟩,⟨17,2,qE,[(.normal,qS [Uaa 1,Uaa 2,zaa 6,zaa 8,Uaa 9,Uaa 62,Uaa 63] [(14,Xab),(18,uae)])]⟩,⟨14,3,qS [Uaa 1,Uaa 2,zaa 6,zaa 8,Uaa 9,Uaa 62,Uaa 63] [(14,Xab),(18,uae)],[(.exit 2,qS [Uaa 1,Uaa 2,zaa 6,zaa 8,Uaa 9,Uaa 62,Uaa 63,Xaa 64] [(14,Xab),(18,uae)])]⟩,⟨21,4,qE,[(.normal,qS [zaa 6,zaa 8,Uaa 9] [(14,Xab),(18,uae)])]⟩]⟩
def vU:Ctr:=⟨164,86,[.agg Zac,shU I64,shU I64],[],[⟨uaj,[.agg 2,.one],[]⟩],ap4 nw⟩
theorem CX:Lk 2 vU:=ls Dr (aC jN aN)
def mb(a0:List LDCn)(a1:LDOp)(a2:Int):Option (LLCn×LDOp×Bool×Unit):=
(gh a0 a1).bind λ(x0,x1,_)=>
(gN a0 a1 a2).bind λ(x2,_)=>
bif(!x2)then(some (x0,x1,false,()))else
(d9 a2).bind λx3=>
(dJ x1 x3).bind λx4=>
(dJ x1 x3).bind λx5=>
let x6:=(List.modify x1 x3 λe=>((-1),(0,false)));
some (x0,x6,true,())
def Bs:X.Cfg:=⟨E0,[iN,lL],[],[]⟩
def t9:Ctr:=⟨165,87,[.agg Zac,shU I64],[],[⟨zaj,[.agg 2,.one],[]⟩],ap3 mb⟩
theorem AX:Lk 2 t9:=ls Bs (aC jN (aC nN aN))
def nu(a0:List LDCn)(a1:LDOp)(a2:Int)(a3:Int):Option (LLCn×LDOp×Bool×Unit):=
(gh a0 a1).bind λ(x0,x1,_)=>
((gN a0 a1 a2).bind λ(x2,_)=>
bif(!x2)then(some (a2,a3,true,(),(),x0,x1,()))else
bif(decide (a3<0))then(some (a2,a3,true,(),(),x0,x1,()))else
(d9 a2).bind λx3=>
(dJ a1 x3).bind λx4=>
(d9 x4.1).bind λx5=>
(dJ a0 x5).bind λx6=>
let x7:=dO x6.length;
some (a2,a3,(decide (a3>x7)),(),(),x0,x1,()):Option (T19)).bind λ(x2,x3,x4,x5,x6,x7,x8,_)=>
bif x4 then(some (x7,x8,false,()))else
(d9 x2).bind λx9=>
(dJ x8 x9).bind λac=>
(dJ x8 x9).bind λae=>
let af:=(List.modify x8 x9 λe=>(e.1,(x3,e.2.2)));
some (x7,af,true,())
def Dp:X.Cfg:=⟨E0,[iN,lL],[],[⟨3,0,qE,[(.normal,qS [Uaa 1,Uaa 2,zaa 6,zaa 8,Xaa 33] [(14,Xab),(18,uae)])]⟩]⟩
def vR:Ctr:=⟨166,88,[.agg Zac,shU I64,shU I64],[],[⟨zaj,[.agg 2,.one],[]⟩],ap4 nu⟩
theorem CU:Lk 2 vR:=ls Dp (aC jN (aC nN aN))
def nq(a0:LDOu)(a1:Int)(a2:LDCn):Option (LDOu×T01):=
(jG a0).bind λ(x0,_)=>
(bif(decide (a1<0))then(some (a0,a1,a2,true,x0,()))else
bif(decide (a1>=2))then(some (a0,a1,a2,true,x0,()))else
let x1:=dO a0.length;
bif(decide (x1>=200))then(some (a0,a1,a2,true,x0,()))else
let x2:=dO a2.length;
some (a0,a1,a2,(decide (x2>16)),x0,()):Option (LDOu×Int×LDCn×Bool×LDOu×Unit)).bind λ(x1,x2,x3,x4,x5,_)=>
bif x4 then(some (x5,0,false,()))else
let x6:=dO x1.length;
bif(dV 24 0 x3.length)then let x7:LDCn:=(List.append [] x3);
let x8:LDOu:=[(x6,(x2,x7))];
bif(dV 40 x5.length x8.length)then let x9:LDOu:=(List.append x5 x8);
let ac:=dO x3.length;
some (x9,ac,true,())else none else none
def Dm:X.Cfg:=⟨E0,[qW],[(36,FN),(37,FN)],[⟨3,0,qE,[(.normal,qS [sP 0 kW,Uaa 1,sP 2 d7,Zaa 9 21,Xaa 27] [(21,yai)])]⟩]⟩
def vQ:Ctr:=⟨167,89,uL [kW,I64,d7],[],[⟨uL [(uaa FN),I64,.bool],[.one,.one,.one],[]⟩],ap3 nq⟩
theorem CS:Lk 2 vQ:=ls Dm (aC vx aN)
def gg:T1e->Option (T1e⊕(Int×Int×LI×Int×Int×Bool×LLI×LDCn×Unit)):=λ(v0,v1,v2,v3,v4,v5,v6,_)=>
bif(decide (v4<v3))then((d9 v4).bind λx0=>
(dJ v2 x0).bind λx1=>
let x2:LDCn:=[(0,(x1,(0,0)))];
bif(dV 24 v6.length x2.length)then let x3:LDCn:=(List.append v6 x2);
let x4:=w64 (v4+1);
some (.inl (v0,v1,v2,v3,x4,v5,x3,()))else none)else
some (.inr (v0,v1,v2,v3,v4,false,v5,v6,()))
def jX(a0:List LI)(a1:Int)(a2:Int):Option ((LLI×Unit×Bool×Unit)⊕(LLI×LDCn×Bool×Unit)):=
(fI a0).bind λ(x0,_)=>
(bif(decide (a1<0))then(some (a0,a1,a2,true,x0,()))else
let x1:=dO a0.length;
bif(decide (a1>=x1))then(some (a0,a1,a2,true,x0,()))else
some (a0,a1,a2,(decide (a2<0)),x0,()):Option (LLI×Int×Int×Bool×LLI×Unit)).bind λ(x1,x2,x3,x4,x5,_)=>
bif x4 then(some (.inl (x5,(),false,())))else
(d9 x2).bind λx6=>
(dJ x1 x6).bind λx7=>
let x8:=dO x7.length;
let x9:=mmR false x3 x8;
(d9 x2).bind λac=>
(dJ x1 ac).bind λae=>
(d9 x9).bind λaf=>
bif(gi 0 af ae.length)then let ag:List (Int):=(lO ae 0 (Nat.sub af 0));
let ah:=dO ag.length;
(dX gg NN (x2,x9,ag,ah,0,x5,[],())).bind λ(ai,aj,ak,am,an,ap,aq,av,_)=>
(d9 ai).bind λax=>
(dJ aq ax).bind λay=>
(dJ aq ax).bind λaz=>
(dJ aq ax).bind λaA=>
(d9 aj).bind λaB=>
bif(gi aB aA.length aA.length)then(dJ aq ax).bind λaD=>
(d9 ai).bind λaE=>
(dJ aq aE).bind λaF=>
(dJ aq ax).bind λaG=>
(dJ aq aE).bind λaH=>
let aI:=(List.modify aq aE λe=>(lO aG aB (Nat.sub aA.length aB)));
some (.inr (aI,av,true,()))else none else none
def xZ:X.Cfg:=⟨E0,[ir],[],[⟨3,0,qE,[(.normal,qS [sP 0 (yaa RW),Uaa 1,Uaa 2,Zaa 9 21,Xaa 27] [(21,Xah)])]⟩,(lx 9 1 [Uaa 1,Zaa 9 21,Uaa 10,Zaa 11 25,sP 41 RW,Uaa 42,Uaa 43] [(21,Xah),(25,Uag)] 44)]⟩
def qU:Ctr:=⟨168,90,uL [(yaa RW),I64,I64],[],[⟨uL [(uaa (uaa CW)),N1,.bool],[.one,.one,.one],[]⟩,⟨uL [(uaa RW),(uaa KCn),.bool],[.one,.one,.one],[]⟩],ap3 jX⟩
theorem xJ:Lk 2 qU:=ls xZ (aC kE aN)
def sV:T2O->Option (T2O⊕(LDCn×Int×Int×Bool×T2I)):=λ(v0,v1,v2,v3,v4,v5,v6,v7,v8,v9,v10,v11,v12,v13,v14,v15,v16,v17,v18,v19,v20,v21,v22,v23,v24,v25,v26,v27,v28,v29,v30,v31,v32,v33,v34,v35,v36,_)=>
bif(decide (v2<v1))then((d9 v2).bind λx0=>
(dJ v0 x0).bind λx1=>
let x2:=wk .i64 x1.2.1;
(d9 v2).bind λx3=>
(dJ v36 x3).bind λx4=>
(dJ v36 x3).bind λx5=>
let x6:=List.modify v36 x3 λe=>x2;
let x7:=w64 (v2+1);
some (.inl (v0,v1,x7,v3,v4,v5,v6,v7,v8,v9,v10,v11,v12,v13,v14,v15,v16,v17,v18,v19,v20,v21,v22,v23,v24,v25,v26,v27,v28,v29,v30,v31,v32,v33,v34,v35,x6,())))else
some (.inr (v0,v1,v2,false,v3,v4,v5,v6,v7,v8,v9,v10,v11,v12,v13,v14,v15,v16,v17,v18,v19,v20,v21,v22,v23,v24,v25,v26,v27,v28,v29,v30,v31,v32,v33,v34,v35,v36,()))
def n8(a0:List (Int))(a1:List (Int))(a2:List LI)(a3:List LDCn)(a4:LDOp)(a5:LDOu)(a6:Int)(a7:Int)(a8:Int)(a9:Int)(a10:Int)(a11:Int)(a12:LDCn)(a13:LDCn):Option (LI×LI×LLI×LLCn×LDOp×LDOu×Int×Int×Int×Int×LDCn×Int×Bool×Int×Unit):=
((iW a0 a1 a2 a3 a4 a5).bind λ(x0,_)=>
bif(!x0)then(some (true,a0,a1,a2,a3,a4,a5,a6,a7,a8,a9,a10,a11,a12,a13,(),(),(),(),(),(),0,0,0,0,(),0,false,()))else
(j5 a6 a7 a8 a9 a10 a11 a12 a13).bind λ(x1,_)=>
bif(!x1)then(some (true,a0,a1,a2,a3,a4,a5,a6,a7,a8,a9,a10,a11,a12,a13,(),(),(),(),(),(),0,0,0,0,(),0,false,()))else
bif(a7 != 1)then(some (true,a0,a1,a2,a3,a4,a5,a6,a7,a8,a9,a10,a11,a12,a13,(),(),(),(),(),(),0,0,0,0,(),0,false,()))else
(qc a11).bind λ(x2,_)=>
bif(!x2)then(some (true,a0,a1,a2,a3,a4,a5,a6,a7,a8,a9,a10,a11,a12,a13,(),(),(),(),(),(),0,0,0,0,(),0,false,()))else
(mc a6 a7 a8 a9 a10 a11 a12 a13).bind λ(x3,_)=>
bif(!x3)then(some (true,a0,a1,a2,a3,a4,a5,a6,a7,a8,a9,a10,a11,a12,a13,(),(),(),(),(),(),0,0,0,0,(),0,false,()))else
(g9 a11).bind λ(x4,_)=>
bif(x4==2)then((dJ a12 2).bind λx5=>
some ((decide (x5.2.1>16)),a0,a1,a2,a3,a4,a5,a6,a7,a8,a9,a10,a11,a12,a13,(),(),(),(),(),(),0,0,0,0,(),0,false,()))else
some (false,a0,a1,a2,a3,a4,a5,a6,a7,a8,a9,a10,a11,a12,a13,(),(),(),(),(),(),0,0,0,0,(),0,false,()):Option (Bool×LI×LI×LLI×LLCn×LDOp×LDOu×Int×Int×Int×Int×Int×Int×LDCn×LDCn×Unit×Unit×Unit×Unit×Unit×Unit×T1c)).bind λ(x0,x1,x2,x3,x4,x5,x6,x7,x8,x9,ac,ae,af,ag,ah,ai,aj,ak,am,an,ap,aq,av,ax,ay,az,aA,aB,_)=>
bif x0 then(some ([],[],[],[],[],[],0,0,0,0,[],0,false,1,()))else
(nn x1 x2 x3 x4 x5 x6).bind λ(aD,aE,aF,aG,aH,aI,_)=>
let aJ:List (Int):=[0,0,0];
let aK:=dO ag.length;
(dX sV NN (ag,aK,0,x1,x2,x3,x4,x5,x6,x7,x8,x9,ac,ae,af,ag,ah,ai,aj,ak,am,an,ap,aq,av,ax,ay,az,aA,aB,aD,aE,aF,aG,aH,aI,aJ,())).bind λ(aL,aM,aO,aP,aQ,aR,aS,aT,aU,aV,aW,aY,aZ,ba,bc,bd,bf,bg,bh,bi,bj,bk,bl,bm,bn,bo,bp,bq,bt,bv,bx,bz,bA,bB,bC,bD,bE,bF,_)=>
(d8 0 false).bind λ(bG,bH,bI,bJ,bK)=>
(match(bif(bd==1)then((dJ bF 0).bind λbN=>
(dJ bF 0).bind λbO=>
(ma aT aU bO bg).bind λ(bP,bQ,bR,bS,_)=>
(d8 bR bS).bind λ(bT,bU,bV,bW,bY,bZ,b8,_)=>
some (.inl (bh,bi,bj,bk,bl,bm,bn,bo,bp,bq,bt,bv,bx,bz,bA,bB,bP,bQ,bE,bT,bU,bV,bW,[],bZ,b8,())))else
bif(bd==2)then((dJ bF 0).bind λbN=>
(dJ bF 0).bind λbO=>
(dJ bF 2).bind λbP=>
(dJ bF 2).bind λbQ=>
(match nv aT aU bO bQ with
|none=>none
|some (.inl (bR,bS,bT,bU,_))=>
(d8 0 bU).bind λ(bV,bW,bY,bZ,b8,b9,ca,_)=>
some (.inl (bh,bi,bj,bk,bl,bm,bn,bo,bp,bq,bt,bv,bx,bz,bA,bB,bR,bS,bE,bV,bW,bY,bZ,[],b9,ca,()))
|some (.inr (bR,bS,bT,bU,_))=>
let bV:=dO bT.length;
(d8 bV bU).bind λ(bW,bY,bZ,b8,b9,ca,cc,_)=>
some (.inl (bh,bi,bj,bk,bl,bm,bn,bo,bp,bq,bt,bv,bx,bz,bA,bB,bR,bS,bE,bW,bY,bZ,b8,bT,ca,cc,()))))else
bif(bd==3)then((dJ bF 0).bind λbN=>
(dJ bF 0).bind λbO=>
(dJ bF 1).bind λbP=>
(dJ bF 1).bind λbQ=>
(nw aT aU bO bQ).bind λ(bR,bS,bT,_)=>
bif(decide (bT>=0))then(let bU:Int:=(wk .u16 bT);
some (.inr (.inl (bh,bi,bj,bk,bl,bm,bn,bo,bp,bq,bt,bv,bx,bz,bA,bB,bR,bS,bE,2,bU,0,0,bK))))else
some (.inr (.inl (bh,bi,bj,bk,bl,bm,bn,bo,bp,bq,bt,bv,bx,bz,bA,bB,bR,bS,bE,bG,bH,bI,bJ,bK))))else
bif(bd==4)then((dJ bF 0).bind λbN=>
(dJ bF 0).bind λbO=>
(mb aT aU bO).bind λ(bP,bQ,bR,_)=>
(d8 0 bR).bind λ(bS,bT,bU,bV,bW,bY,bZ,_)=>
some (.inl (bh,bi,bj,bk,bl,bm,bn,bo,bp,bq,bt,bv,bx,bz,bA,bB,bP,bQ,bE,bS,bT,bU,bV,[],bY,bZ,())))else
bif(bd==5)then((dJ bF 0).bind λbN=>
(dJ bF 0).bind λbO=>
(dJ bF 1).bind λbP=>
(dJ bF 1).bind λbQ=>
(nu aT aU bO bQ).bind λ(bR,bS,bT,_)=>
(d8 0 bT).bind λ(bU,bV,bW,bY,bZ,b8,b9,_)=>
some (.inl (bh,bi,bj,bk,bl,bm,bn,bo,bp,bq,bt,bv,bx,bz,bA,bB,bR,bS,bE,bU,bV,bW,bY,[],b8,b9,())))else
bif(bd==6)then(let bN:Int:=(dO aQ.length);
bif(decide (bN>0))then((dJ aQ 0).bind λbO=>
let bP:=wk .i64 bO;
(d8 bP true).bind λ(bQ,bR,bS,bT,bU,bV,bW,_)=>
bif(gi 1 bz.length bz.length)then let bY:List (Int):=(lO bz 1 (Nat.sub bz.length 1));
some (.inr (.inr (.inl (bh,bi,bj,bk,bl,bm,bn,bo,bp,bq,bt,bv,bx,bY,bA,bB,bC,bD,bE,bQ,bR,bS,bT,bU,bV,bW,()))))else none)else
some (.inr (.inl (bh,bi,bj,bk,bl,bm,bn,bo,bp,bq,bt,bv,bx,bz,bA,bB,bC,bD,bE,bG,bH,bI,bJ,bK))))else
bif(bd==7)then(let bN:Int:=(dO aR.length);
bif(decide (bN>0))then((dJ aR 0).bind λbO=>
let bP:=wk .i64 bO;
(d8 bP true).bind λ(bQ,bR,bS,bT,bU,bV,bW,_)=>
bif(gi 1 bA.length bA.length)then let bY:List (Int):=(lO bA 1 (Nat.sub bA.length 1));
some (.inr (.inr (.inr (.inl (bh,bi,bj,bk,bl,bm,bn,bo,bp,bq,bt,bv,bx,bz,bY,bB,bC,bD,bE,bQ,bR,bS,bT,bU,bV,bW,())))))else none)else
some (.inr (.inl (bh,bi,bj,bk,bl,bm,bn,bo,bp,bq,bt,bv,bx,bz,bA,bB,bC,bD,bE,bG,bH,bI,bJ,bK))))else
bif(bd==13)then((dJ bF 0).bind λbN=>
(dJ bF 0).bind λbO=>
(nq aV bO bg).bind λ(bP,bQ,bR,_)=>
(d8 bQ bR).bind λ(bS,bT,bU,bV,bW,bY,bZ,_)=>
some (.inr (.inl (bh,bi,bj,bk,bl,bm,bn,bo,bp,bq,bt,bv,bx,bz,bA,bB,bC,bD,bP,bS,bT,bU,bV,bW,bY,bZ,()))))else
bif(bd==14)then((dJ bF 0).bind λbN=>
(dJ bF 0).bind λbO=>
(dJ bF 2).bind λbP=>
(dJ bF 2).bind λbQ=>
(match jX aS bO bQ with
|none=>none
|some (.inl (bR,bS,bT,_))=>
(d8 0 bT).bind λ(bU,bV,bW,bY,bZ,b8,b9,_)=>
some (.inr (.inl (bh,bi,bj,bk,bl,bm,bn,bo,bp,bq,bt,bv,bx,bz,bA,bR,bC,bD,bE,bU,bV,bW,bY,bS,b8,b9,())))
|some (.inr (bR,bS,bT,_))=>
let bU:=dO bS.length;
(d8 bU bT).bind λ(bV,bW,bY,bZ,b8,b9,ca,_)=>
some (.inr (.inr (.inr (.inr (bh,bi,bj,bk,bl,bm,bn,bo,bp,bq,bt,bv,bx,bz,bA,bR,bC,bD,bE,bV,bW,bY,bZ,bS,b9,ca,())))))))else
some (.inr (.inl (bh,bi,bj,bk,bl,bm,bn,bo,bp,bq,bt,bv,bx,bz,bA,bB,bC,bD,bE,bG,bH,bI,bJ,bK))):Option (T2C⊕(T2D⊕(T2D⊕(T2D⊕T2C)))))with
|none=>none
|some (.inl (bN,bO,bP,bQ,bR,bS,bT,bU,bV,bW,bY,bZ,b8,b9,ca,cc,cd,cf,cg,ch,ci,cj,cl,cn,cq,cr,_))=>
some (b9,ca,cc,cd,cf,cg,ch,ci,cj,cl,cn,cq,cr,0,())
|some (.inr (.inl (bN,bO,bP,bQ,bR,bS,bT,bU,bV,bW,bY,bZ,b8,b9,ca,cc,cd,cf,cg,ch,ci,cj,cl,cn,cq,cr,_)))=>
some (b9,ca,cc,cd,cf,cg,ch,ci,cj,cl,[],cq,cr,0,())
|some (.inr (.inr (.inl (bN,bO,bP,bQ,bR,bS,bT,bU,bV,bW,bY,bZ,b8,b9,ca,cc,cd,cf,cg,ch,ci,cj,cl,cn,cq,cr,_))))=>
some (b9,ca,cc,cd,cf,cg,ch,ci,cj,cl,[],cq,cr,0,())
|some (.inr (.inr (.inr (.inl (bN,bO,bP,bQ,bR,bS,bT,bU,bV,bW,bY,bZ,b8,b9,ca,cc,cd,cf,cg,ch,ci,cj,cl,cn,cq,cr,_)))))=>
some (b9,ca,cc,cd,cf,cg,ch,ci,cj,cl,[],cq,cr,0,())
|some (.inr (.inr (.inr (.inr (bN,bO,bP,bQ,bR,bS,bT,bU,bV,bW,bY,bZ,b8,b9,ca,cc,cd,cf,cg,ch,ci,cj,cl,cn,cq,cr,_)))))=>
some (b9,ca,cc,cd,cf,cg,ch,ci,cj,cl,cn,cq,cr,0,()))
def HZ:X.Cfg:=⟨E0,[my,pt,vP,ua,jh,qT,kM,t8,vT,vU,t9,vR,vQ,qU],[],[⟨2,0,qE,[(.normal,qS [zaa 2,zaa 3,zaa 4,zaa 5,Xaa 67] [(6,zaf),(8,uac),(10,Xag),(12,Uad)])]⟩,(lx 8 1 [zaa 2,zaa 3,zaa 4,zaa 5,zaa 7,Zaa 8 19,sP 74 d7,Uaa 75,Uaa 76] [(6,zaf),(8,uac),(10,Xag),(12,Uad),(16,zai),(19,yac)] 77),⟨14,2,qE,[(.normal,(qS [zaa 4,zaa 5,zaa 7,zaa 11] [(10,Xag),(12,Uad),(16,uL [(uaa CW),(uaa CW),(uaa (uaa CW)),(yaa d7),iu,(uaa FN)]),(24,Uaj)])),(.normal,qS [zaa 4,zaa 5,zaa 7,zaa 11] [(10,Xag),(12,Uad),(16,zai),(24,Uad)]),(.normal,(qS [zaa 4,zaa 5,zaa 7,zaa 11] [(10,Xag),(12,Uad),(16,uL [RW,(uaa CW),(uaa (uaa CW)),(uaa (uaa KCn)),(uaa KOp),(uaa FN)]),(24,Uad)])),(.normal,(qS [zaa 4,zaa 5,zaa 7,zaa 11] [(10,Xag),(12,Uad),(16,uL [(uaa CW),RW,(uaa (uaa CW)),(uaa (uaa KCn)),(uaa KOp),(uaa FN)]),(24,Uad)])),(.normal,(qS [zaa 4,zaa 5,zaa 7,zaa 11] [(10,Xag),(12,Uad),(16,uL [(uaa CW),(uaa CW),(uaa RW),(uaa (uaa KCn)),(uaa KOp),(uaa FN)]),(24,Uaj)]))]⟩]⟩
def Au:Ctr:=⟨149,91,[.agg zaf,.agg uac],[],[⟨uL [RW,RW,(yaa RW),(yaa d7),iu,kW,CB,CW,I64,I64,d7,I64,.bool,I64],[.agg 6,.agg 7,.one],[]⟩],ap14 n8⟩
theorem HS:Lk 5 Au:=ls HZ (aC o9 (aC tG (aC CR (aC AY (aC lu (aC vv (aC mt (aC AW (aC CV (aC CX (aC AX (aC CU (aC CS (aC xJ aN))))))))))))))
def jU:T2F->Option (T2F⊕(T2y⊕(LDTh×Int×Int×Bool×T2y))):=λ(v0,v1,v2,v3,v4,v5,v6,v7,v8,v9,v10,v11,v12,v13,v14,v15,v16,v17,v18,v19,v20,v21)=>
bif(decide (v2<v1))then((d9 v2).bind λx0=>
(dJ v0 x0).bind λx1=>
bif(x1.1==0)then((d8 v2 true).bind λ(x2,x3,x4,x5,x6,x7,x8,_)=>
some (.inr (.inl (v3,v4,v5,v6,v7,v8,v9,v10,v11,v12,v13,v14,v15,v16,v17,v18,v19,v20,x2,x3,x4,x5,x6,v2,x8,()))))else
let x2:=w64 (v2+1);
some (.inl (v0,v1,x2,v3,v4,v5,v6,v7,v8,v9,v10,v11,v12,v13,v14,v15,v16,v17,v18,v19,v20,v21)))else
some (.inr (.inr (v0,v1,v2,false,v3,v4,v5,v6,v7,v8,v9,v10,v11,v12,v13,v14,v15,v16,v17,v18,v19,v20,v21)))
def jV(a0:Int)(a1:Int)(a2:Int)(a3:Int)(a4:Int)(a5:Int)(a6:LDCn)(a7:LDCn)(a8:LDIn)(a9:List (Int))(a10:List LI)(a11:List (Int))(a12:Int)(a13:LDCe)(a14:LDLn)(a15:LDTh)(a16:List (Int))(a17:List (Int))(a18:List LI)(a19:List LDCn)(a20:LDOp)(a21:LDOu)(a22:List (Int))(a23:List LI)(a24:LDEn)(a25:List (Int)):Option (Int×Int×Int×Int×LDCn×T2u):=
(bif(a5==0)then(some (a5,true,a8,a9,a10,a11,a12,a13,a14,a15,a16,a17,a18,a19,a20,a21,a22,a23,a24,a25,a0,a1,a2,a3,a4,a5,a6,a7,0,0,0,0,(),0,false,()))else
bif(a5==12)then(some (a5,true,a8,a9,a10,a11,a12,a13,a14,a15,a16,a17,a18,a19,a20,a21,a22,a23,a24,a25,a0,a1,a2,a3,a4,a5,a6,a7,0,0,0,0,(),0,false,()))else
some (a5,(a5==15),a8,a9,a10,a11,a12,a13,a14,a15,a16,a17,a18,a19,a20,a21,a22,a23,a24,a25,a0,a1,a2,a3,a4,a5,a6,a7,0,0,0,0,(),0,false,()):Option (T2J)).bind λ(x0,x1,x2,x3,x4,x5,x6,x7,x8,x9,ac,ae,af,ag,ah,ai,aj,ak,am,an,ap,aq,av,ax,ay,az,aA,aB,aD)=>
bif x1 then((d8 0 true).bind λ(aK,aL,aM,aO,aP,aQ,aR,_)=>
some (aK,aL,aM,aO,[],aQ,aR,x2,x3,x4,x5,x6,x7,x8,x9,ac,ae,af,ag,ah,ai,aj,ak,am,an,()))else
bif(x0==8)then((dJ aA 0).bind λaK=>
let aL:=wk .i64 aK.2.1;
(ny aj ak aL ap).bind λ(aM,aO,aP,_)=>
(d8 0 (aP != 2)).bind λ(aQ,aR,aS,aT,aU,aV,aW,_)=>
some (aQ,aR,aS,aT,[],aV,(aP==1),x2,x3,x4,x5,x6,x7,x8,x9,ac,ae,af,ag,ah,ai,aM,aO,am,an,()))else
bif(x0==9)then((dJ aA 0).bind λaK=>
let aL:=wk .i64 aK.2.1;
(jH aj ak aL ap).bind λ(aM,aO,aP,aQ,_)=>
(d8 0 aQ).bind λ(aR,aS,aT,aU,aV,aW,aY,_)=>
some (aR,aS,aT,aU,[],aW,aY,x2,x3,x4,x5,x6,x7,x8,x9,ac,ae,af,ag,ah,ai,aM,aO,am,an,()))else
bif(x0==10)then(let aK:Int:=(dO x9.length);
(match dX jU NN (x9,aK,0,x2,x3,x4,x5,x6,x7,x8,x9,ac,ae,af,ag,ah,ai,aj,ak,am,an,aD)with
|none=>none
|some (.inl (aL,aM,aO,aP,aQ,aR,aS,aT,aU,aV,aW,aY,aZ,ba,bc,bd,bf,bg,bh,bi,bj,bk,bl,bm,bn,_))=>
some (bh,bi,bj,bk,[],bm,bn,aL,aM,aO,aP,aQ,aR,aS,aT,aU,aV,aW,aY,aZ,ba,bc,bd,bf,bg,())
|some (.inr (aL,aM,aO,aP,aQ,aR,aS,aT,aU,aV,aW,aY,aZ,ba,bc,bd,bf,bg,bh,bi,bj,bk,bl,bm,bn,bo,bp,bq,bt,_))=>
(d8 0 false).bind λ(bv,bx,bz,bA,bB,bC,bD,_)=>
some (bv,bx,bz,bA,[],bC,bD,aQ,aR,aS,aT,aU,aV,aW,aY,aZ,ba,bc,bd,bf,bg,bh,bi,bj,bk,())))else
bif(x0==11)then((dJ aA 0).bind λaK=>
let aL:=wk .i64 aK.2.1;
(bif(aL==ap)then(some (aL,true,x2,x3,x4,x5,x6,x7,x8,x9,ac,ae,af,ag,ah,ai,aj,ak,am,an,ap,aq,av,ax,ay,az,aA,aB,aD))else
bif(decide (aL>=4))then(some (aL,true,x2,x3,x4,x5,x6,x7,x8,x9,ac,ae,af,ag,ah,ai,aj,ak,am,an,ap,aq,av,ax,ay,az,aA,aB,aD))else
(d9 aL).bind λaM=>
(dJ x9 aM).bind λaO=>
some (aL,(aO.1==0),x2,x3,x4,x5,x6,x7,x8,x9,ac,ae,af,ag,ah,ai,aj,ak,am,an,ap,aq,av,ax,ay,az,aA,aB,aD):Option (T2J)).bind λ(aM,aO,aP,aQ,aR,aS,aT,aU,aV,aW,aY,aZ,ba,bc,bd,bf,bg,bh,bi,bj,bk,bl,bm,bn,bo,bp,bq,bt,bv,bx,bz,bA,bB,bC,bD,_)=>
bif aO then((d8 0 false).bind λ(bE,bF,bG,bH,bI,bJ,bK,_)=>
some (bE,bF,bG,bH,[],bJ,bK,aP,aQ,aR,aS,aT,aU,aV,aW,aY,aZ,ba,bc,bd,bf,bg,bh,bi,bj,()))else
(d9 aM).bind λbE=>
(dJ aW bE).bind λbF=>
bif(bF.1==4)then(let bG:Int:=(wk .i64 bF.2.2.2.2.2.2.2);
(d8 bG true).bind λ(bH,bI,bJ,bK,bL,bM,bN,_)=>
some (bH,bI,bJ,bK,[],bM,bN,aP,aQ,aR,aS,aT,aU,aV,aW,aY,aZ,ba,bc,bd,bf,bg,bh,bi,bj,()))else
(d9 bk).bind λbG=>
(dJ bj bG).bind λbH=>
(dJ bj bG).bind λbI=>
let bJ:=List.modify bj bG λe=>aM;
(d8 0 true).bind λ(bK,bL,bM,bN,bO,bP,bQ,_)=>
some (bK,bL,bM,bN,[],bP,true,aP,aQ,aR,aS,aT,aU,aV,aW,aY,aZ,ba,bc,bd,bf,bg,bh,bi,bJ,()))else
(n8 ac ae af ag ah ai ap aq av ax ay az aA aB).bind λ(aK,aL,aM,aO,aP,aQ,aR,aS,aT,aU,aV,aW,aY,aZ,_)=>
some (aR,aS,aT,aU,aV,aW,aY,x2,x3,x4,x5,x6,x7,x8,x9,aK,aL,aM,aO,aP,aQ,aj,ak,am,an,())
def xY:X.Cfg:=⟨E0,[kM,vV,nR,Au],[],[⟨3,0,qE,[(.normal,qS [zaa 0,zaa 3,zaa 4,Uaa 21,Xaa 22] [(2,zac),(8,uac),(10,Uad)])]⟩,⟨20,1,qS [zaa 0,zaa 4,sP 87 jE,Uaa 88,Uaa 89] [(2,zac),(10,Uad)],[(.ret,qS [zaa 0,zaa 4] [(2,zac),(10,Uad)]),(.exit 1,qS [zaa 0,zaa 4,sP 87 jE,Uaa 88,Uaa 89,Xaa 90] [(2,zac),(10,Uad)])]⟩,⟨33,2,qE,[(.normal,qS [zaa 0,zaa 3,zaa 4,Uaa 14,Xaa 131] [(2,zac),(8,uac),(10,Uad)])]⟩]⟩
def qQ:Ctr:=⟨129,92,[.ptr ⟨2,0,[]⟩ [0],.agg uac],[(2,zac)],[⟨Xad,[.agg 7],[(2,zac)]⟩],ap26 jV⟩
theorem xI:Lk 6 qQ:=ls xY (aC mt (aC CY (aC qG (aC HS aN))))
def j3(a0:Int)(a1:Int)(a2:Int)(a3:Int)(a4:LDCn)(a5:Int)(a6:Bool):Option (Bool×Unit):=
(jI a0 a1 a2 a3).bind λ(x0,_)=>
bif x0 then((fR a4 16).bind λ(x1,_)=>
bif x1 then(bif(decide (a5>=(-1)))then(some ((decide (a5<4)),()))else
some (false,()))else
some (false,()))else
some (false,())
def Bt:X.Cfg:=⟨E0,[q7,i7],[],[]⟩
def pn:Ctr:=⟨40,93,[.agg Xad],[],[⟨uab,[.one],[]⟩],ap7 j3⟩
theorem tF:Lk 3 pn:=ls Bt (aC vA (aC kF aN))
def iF(a0:List (Int))(a1:Int)(a2:List (Int))(a3:Int)(a4:Int)(a5:Int)(a6:Int):Option (T0d):=
(hJ a2 a3 a4 a5 a6).bind λ(x0,_)=>
bif(!x0)then(some (0,0,1,()))else
bif(a3==0)then(some (0,a4,0,()))else
bif(a3==2)then(let x1:Int:=(wk .u16 (a4+a1));
some (2,x1,0,()))else
(d9 a5).bind λx1=>
(dJ a0 x1).bind λx2=>
let x3:=w64 (x2+a6);
let x4:=wk .u16 x3;
some (1,x4,0,())
def Fd:X.Cfg:=⟨E0,[ly],[],[]⟩
def sL:Ctr:=⟨169,94,[.agg Zab,shU RI,.agg Uaf],[],[⟨uai,[.agg 2,.one],[]⟩],ap7 iF⟩
theorem xP:Lk 3 sL:=ls Fd (aC nX aN)
def kg(a0:List (Int))(a1:Int)(a2:List (Int))(a3:Int)(a4:Int):Option (T02):=
(fV a2 a3 a4).bind λ(x0,_)=>
bif(!x0)then(some (0,6,()))else
(d9 a3).bind λx1=>
(dJ a0 x1).bind λx2=>
let x3:=w64 (x2+a4);
some (x3,0,())
def ye:X.Cfg:=⟨E0,[ji],[],[]⟩
def re:Ctr:=⟨170,95,[.agg Zab,shU RI,.agg zad],[],[⟨zad,[.one,.one],[]⟩],ap5 kg⟩
theorem xQ:Lk 2 re:=ls ye (aC lw aN)
def sW:Option (T1s):=
bif(rJ 8 8 2)then let x0:LDCe:=(List.replicate 8 (0,0));
some (0,x0,0,0,(-1),(-1),0,0,())else none
def BD:X.Cfg:=⟨E0,[],[],[]⟩
def uf:Ctr:=⟨179,96,[],[],[⟨uah,[.agg 8],[]⟩],λh=>sW⟩
theorem A5:Lk 1 uf:=ls BD aN
def oW(a0:Int)(a1:Int)(a2:Int):Option (T1s):=
(sW).bind λ(x0,x1,x2,x3)=>
(dJ x1 0).bind λx8=>
(dJ x1 0).bind λx9=>
let ac:=List.modify x1 0 λe=>(a1,a2);
some (1,ac,a0,x3)
def Fa:X.Cfg:=⟨E0,[uf],[],[]⟩
def yK:Ctr:=⟨171,97,[shU I64,.agg Uab],[],[⟨uah,[.agg 8],[]⟩],ap3 oW⟩
theorem EY:Lk 2 yK:=ls Fa (aC A5 aN)
def lj:T2G->Option (T2G⊕(T0T⊕T2H)):=λ(v0,v1,v2,v3,v4,v5,v6,v7,v8,v9,v10,v11,v12,v13,v14,v15,v16,v17,v18,v19,v20,v21,v22,v23,v24,v25,v26,v27,v28,v29,v30,_)=>
bif(decide (v3<v2))then((d9 v3).bind λx0=>
(dJ v1 x0).bind λx1=>
(iF v4 v5 v10 x1.1 x1.2.1 x1.2.2.1 x1.2.2.2).bind λ(x2,x3,x4,_)=>
bif(x4 != 0)then(some (.inr (.inl (false,v4,v5,v6,v7,v8,()))))else
(fV v10 v29 v30).bind λ(x5,_)=>
bif(!x5)then(some (.inr (.inl (false,v4,v5,v6,v7,v8,()))))else
(kg v4 v5 v10 v29 v30).bind λ(x6,x7,_)=>
(j9 x6 x2 x3 v6 v7).bind λ(x8,x9,_)=>
let ac:=w64 (v30+1);
let ae:=w64 (v3+1);
some (.inl (v0,v1,v2,ae,v4,v5,x8,x9,v8,v9,v10,v11,v12,v13,v14,v15,v16,v17,v18,v19,v20,v21,v22,v23,v24,v25,v26,v27,v28,v29,ac,())))else
some (.inr (.inr (v0,v1,v2,v3,false,v4,v5,v6,v7,v8,v9,v10,v11,v12,v13,v14,v15,v16,v17,v18,v19,v20,v21,v22,v23,v24,v25,v26,v27,v28,v29,v30,())))
def oT(a0:LDIn)(a1:List (Int))(a2:List LI)(a3:Int)(a4:Int)(a5:Int)(a6:Int)(a7:Int)(a8:Int)(a9:LDCn)(a10:LDCn)(a11:Int)(a12:Int)(a13:Int)(a14:Int)(a15:LDCn)(a16:Int)(a17:Bool)(a18:List (Int))(a19:Int)(a20:LDCe)(a21:LDLn)(a22:LDTh):Option (T0T):=
(d9 a3).bind λx0=>
(dJ a22 x0).bind λx1=>
(iF a18 a19 a1 a11 a12 a13 a14).bind λ(x2,x3,x4,_)=>
bif(x4 != 0)then(some (false,a18,a19,a20,a21,a22,()))else
(match((g9 a8).bind λ(x5,_)=>
bif(x5==2)then(let x6:Int:=(dO a15.length);
bif(decide (x6>0))then((dJ a9 1).bind λx7=>
(dJ a9 1).bind λx8=>
(dJ a9 1).bind λx9=>
(hJ a1 x9.1 x9.2.1 x9.2.2.1 x9.2.2.2).bind λ(ac,_)=>
bif(!ac)then(some (.inl (false,a18,a19,a20,a21,a22,())))else
(dJ a9 1).bind λae=>
bif(ae.1 != 1)then(some (.inl (false,a18,a19,a20,a21,a22,())))else
let af:=dO a15.length;
(match dX lj NN (x0,a15,af,0,a18,a19,a20,a21,a22,a0,a1,a2,a3,a4,a5,a6,a7,a8,a9,a10,a11,a12,a13,a14,a15,a16,a17,x2,x3,x7.2.2.1,x8.2.2.2,())with
|none=>none
|some (.inl (ag,ah,ai,aj,ak,am,_))=>
some (.inl (ag,ah,ai,aj,ak,am,()))
|some (.inr (ag,ah,ai,aj,ak,am,an,ap,aq,av,ax,ay,az,aA,aB,aD,aE,aF,aG,aH,aI,aJ,aK,aL,aM,aO,aP,aQ,aR,aS,aT,aU,_))=>
some (.inr (.inl (ag,ah,ai,aj,ak,am,an,ap,aq,av,ax,ay,az,aA,aB,aD,aE,aF,aG,aH,aI,aJ,aK,aL,aM,aO,aP,aQ,aR,aS,aT,aU,())))))else
some (.inr (.inr (x0,false,a18,a19,a20,a21,a22,a0,a1,a2,a3,a4,a5,a6,a7,a8,a9,a10,a11,a12,a13,a14,a15,a16,a17,x2,x3,()))))else
some (.inr (.inr (x0,false,a18,a19,a20,a21,a22,a0,a1,a2,a3,a4,a5,a6,a7,a8,a9,a10,a11,a12,a13,a14,a15,a16,a17,x2,x3,()))):Option (T0T⊕(T2H⊕(Nat×Bool×T2z))))with
|none=>none
|some (.inl (x5,x6,x7,x8,x9,ac,_))=>
some (x5,x6,x7,x8,x9,ac,())
|some (.inr (.inl (x5,x6,x7,x8,x9,ac,ae,af,ag,ah,ai,aj,ak,am,an,ap,aq,av,ax,ay,az,aA,aB,aD,aE,aF,aG,aH,aI,aJ,aK,aL,_)))=>
(match(bif(ax==12)then((dJ ay 0).bind λaM=>
let aO:=wk .i64 aM.2.1;
bif(decide (aO>255))then(some (.inl (false,ac,ae,af,ag,ah,())))else
(dJ ay 0).bind λaP=>
bif(aP.1 != 0)then(some (.inl (false,ac,ae,af,ag,ah,())))else
(dJ ay 0).bind λaQ=>
let aR:=wk .i64 aQ.2.1;
(dJ ah x5).bind λaS=>
let aT:=(List.modify ah x5 λe=>(e.1,(e.2.1,(e.2.2.1,(e.2.2.2.1,(aR,e.2.2.2.2.2))))));
some (.inr (x5,ac,ae,af,ag,aT,ai,aj,ak,am,an,ap,aq,av,ax,ay,az,aA,aB,aD,aE,aF,aG,aH,aI,aJ,())))else
some (.inr (x5,ac,ae,af,ag,ah,ai,aj,ak,am,an,ap,aq,av,ax,ay,az,aA,aB,aD,aE,aF,aG,aH,aI,aJ,())):Option (T0T⊕T2B))with
|none=>none
|some (.inl (aM,aO,aP,aQ,aR,aS,_))=>
some (aM,aO,aP,aQ,aR,aS,())
|some (.inr (aM,aO,aP,aQ,aR,aS,aT,aU,aV,aW,aY,aZ,ba,bc,bd,bf,bg,bh,bi,bj,bk,bl,bm,bn,bo,bp,_))=>
(match(bif(bd==10)then(bif(decide (bm>=0))then((dJ bf 1).bind λbq=>
(iF aO aP aU bq.1 bq.2.1 bq.2.2.1 bq.2.2.2).bind λ(bt,bv,bx,_)=>
(bif(bx != 0)then(some (aM,true,aO,aP,aQ,aR,aS,aW,aY,aZ,ba,bc,bd,bf,bg,bh,bi,bj,bk,bl,bm,bn,bo,bp,bt,bv,()))else
(d9 bm).bind λbz=>
(dJ aS bz).bind λbA=>
(dJ aS bz).bind λbB=>
bif(bB.1 != 0)then(some (aM,true,aO,aP,aQ,aR,aS,aW,aY,aZ,ba,bc,bd,bf,bg,bh,bi,bj,bk,bl,bm,bn,bo,bp,bt,bv,()))else
(dJ bf 0).bind λbC=>
let bD:=wk .i64 bC.2.1;
bif(decide (bD>255))then(some (aM,true,aO,aP,aQ,aR,aS,aW,aY,aZ,ba,bc,bd,bf,bg,bh,bi,bj,bk,bl,bm,bn,bo,bp,bt,bv,()))else
(dJ bf 0).bind λbE=>
some (aM,(bE.1 != 0),aO,aP,aQ,aR,aS,aW,aY,aZ,ba,bc,bd,bf,bg,bh,bi,bj,bk,bl,bm,bn,bo,bp,bt,bv,()):Option (T2A)).bind λ(bz,bA,bB,bC,bD,bE,bF,bG,bH,bI,bJ,bK,bL,bM,bN,bO,bP,bQ,bR,bS,bT,bU,bV,bW,bY,bZ,_)=>
bif bA then(some (.inl (false,bB,bC,bD,bE,bF,())))else
(dJ bM 0).bind λb8=>
let b9:=wk .i64 b8.2.1;
(oW b9 bY bZ).bind λ(ca,cc,cd,cf,cg,ch,ci,cj,_)=>
(d9 bT).bind λcl=>
(dJ bF cl).bind λcn=>
(dJ bF cl).bind λcq=>
let cr:=(List.modify bF cl λe=>(ca,(cc,(cd,(cf,(cg,(ch,(ci,cj))))))));
some (.inr (bz,bB,bC,bD,bE,cr,bG,bH,bI,bJ,bK,bL,bM,bN,bV,bW,())))else
some (.inr (aM,aO,aP,aQ,aR,aS,aW,aY,aZ,ba,bc,bd,bf,bg,bo,bp,())))else
some (.inr (aM,aO,aP,aQ,aR,aS,aW,aY,aZ,ba,bc,bd,bf,bg,bo,bp,())):Option (T0T⊕T2l))with
|none=>none
|some (.inl (bq,bt,bv,bx,bz,bA,_))=>
some (bq,bt,bv,bx,bz,bA,())
|some (.inr (bq,bt,bv,bx,bz,bA,bB,bC,bD,bE,bF,bG,bH,bI,bJ,bK,_))=>
(dJ bA bq).bind λbL=>
(dJ bA bq).bind λbM=>
(dJ bM.2.1 0).bind λbN=>
(dJ bA bq).bind λbO=>
(dJ bO.2.1 0).bind λbP=>
let bQ:=(List.modify bA bq λe=>(e.1,((List.modify e.2.1 0 λe=>(bJ,bK)),e.2.2)));
(dJ bQ bq).bind λbR=>
let bS:=List.modify bQ bq λe=>(1,e.2);
some (true,bt,bv,bx,bz,bS,())))
|some (.inr (.inr (x5,x6,x7,x8,x9,ac,ae,af,ag,ah,ai,aj,ak,am,an,ap,aq,av,ax,ay,az,aA,aB,aD,aE,aF,aG,_)))=>
(match(bif(ap==12)then((dJ aq 0).bind λaH=>
let aI:=wk .i64 aH.2.1;
bif(decide (aI>255))then(some (.inl (false,x7,x8,x9,ac,ae,())))else
(dJ aq 0).bind λaJ=>
bif(aJ.1 != 0)then(some (.inl (false,x7,x8,x9,ac,ae,())))else
(dJ aq 0).bind λaK=>
let aL:=wk .i64 aK.2.1;
(dJ ae x5).bind λaM=>
let aO:=(List.modify ae x5 λe=>(e.1,(e.2.1,(e.2.2.1,(e.2.2.2.1,(aL,e.2.2.2.2.2))))));
some (.inr (x5,x7,x8,x9,ac,aO,af,ag,ah,ai,aj,ak,am,an,ap,aq,av,ax,ay,az,aA,aB,aD,aE,aF,aG,())))else
some (.inr (x5,x7,x8,x9,ac,ae,af,ag,ah,ai,aj,ak,am,an,ap,aq,av,ax,ay,az,aA,aB,aD,aE,aF,aG,())):Option (T0T⊕T2B))with
|none=>none
|some (.inl (aH,aI,aJ,aK,aL,aM,_))=>
some (aH,aI,aJ,aK,aL,aM,())
|some (.inr (aH,aI,aJ,aK,aL,aM,aO,aP,aQ,aR,aS,aT,aU,aV,aW,aY,aZ,ba,bc,bd,bf,bg,bh,bi,bj,bk,_))=>
(match(bif(aW==10)then(bif(decide (bh>=0))then((dJ aY 1).bind λbl=>
(iF aI aJ aP bl.1 bl.2.1 bl.2.2.1 bl.2.2.2).bind λ(bm,bn,bo,_)=>
(bif(bo != 0)then(some (aH,true,aI,aJ,aK,aL,aM,aR,aS,aT,aU,aV,aW,aY,aZ,ba,bc,bd,bf,bg,bh,bi,bj,bk,bm,bn,()))else
(d9 bh).bind λbp=>
(dJ aM bp).bind λbq=>
(dJ aM bp).bind λbt=>
bif(bt.1 != 0)then(some (aH,true,aI,aJ,aK,aL,aM,aR,aS,aT,aU,aV,aW,aY,aZ,ba,bc,bd,bf,bg,bh,bi,bj,bk,bm,bn,()))else
(dJ aY 0).bind λbv=>
let bx:=wk .i64 bv.2.1;
bif(decide (bx>255))then(some (aH,true,aI,aJ,aK,aL,aM,aR,aS,aT,aU,aV,aW,aY,aZ,ba,bc,bd,bf,bg,bh,bi,bj,bk,bm,bn,()))else
(dJ aY 0).bind λbz=>
some (aH,(bz.1 != 0),aI,aJ,aK,aL,aM,aR,aS,aT,aU,aV,aW,aY,aZ,ba,bc,bd,bf,bg,bh,bi,bj,bk,bm,bn,()):Option (T2A)).bind λ(bp,bq,bt,bv,bx,bz,bA,bB,bC,bD,bE,bF,bG,bH,bI,bJ,bK,bL,bM,bN,bO,bP,bQ,bR,bS,bT,_)=>
bif bq then(some (.inl (false,bt,bv,bx,bz,bA,())))else
(dJ bH 0).bind λbU=>
let bV:=wk .i64 bU.2.1;
(oW bV bS bT).bind λ(bW,bY,bZ,b8,b9,ca,cc,cd,_)=>
(d9 bO).bind λcf=>
(dJ bA cf).bind λcg=>
(dJ bA cf).bind λch=>
let ci:=(List.modify bA cf λe=>(bW,(bY,(bZ,(b8,(b9,(ca,(cc,cd))))))));
some (.inr (bp,bt,bv,bx,bz,ci,bB,bC,bD,bE,bF,bG,bH,bI,bQ,bR,())))else
some (.inr (aH,aI,aJ,aK,aL,aM,aR,aS,aT,aU,aV,aW,aY,aZ,bj,bk,())))else
some (.inr (aH,aI,aJ,aK,aL,aM,aR,aS,aT,aU,aV,aW,aY,aZ,bj,bk,())):Option (T0T⊕T2l))with
|none=>none
|some (.inl (bl,bm,bn,bo,bp,bq,_))=>
some (bl,bm,bn,bo,bp,bq,())
|some (.inr (bl,bm,bn,bo,bp,bq,bt,bv,bx,bz,bA,bB,bC,bD,bE,bF,_))=>
(dJ bq bl).bind λbG=>
(dJ bq bl).bind λbH=>
(dJ bH.2.1 0).bind λbI=>
(dJ bq bl).bind λbJ=>
(dJ bJ.2.1 0).bind λbK=>
let bL:=(List.modify bq bl λe=>(e.1,((List.modify e.2.1 0 λe=>(bE,bF)),e.2.2)));
(dJ bL bl).bind λbM=>
let bN:=List.modify bL bl λe=>(1,e.2);
some (true,bm,bn,bo,bp,bN,()))))
def E7:X.Cfg:=⟨E0,[sL,jh,ly,ji,re,px,yK],[],[⟨13,0,(qS [zaa 1,zaa 4,zaa 6,zaa 7,(9,.ptr ⟨4,4,[((),(8,0))]⟩ [0,0]),zaa 10,zaa 12,sP 80 d7,Uaa 81,Uaa 82] [(4,Uac),(10,zab),(14,uac),(16,Xad),(22,Uab),(26,zad)]),[(.ret,qS [zaa 1,Xaa 8] [(4,Uac)]),(.exit 0,(qS [zaa 1,zaa 4,zaa 6,zaa 7,(9,.ptr ⟨4,4,[((),(8,0))]⟩ [0,0]),zaa 10,zaa 12,sP 80 d7,Uaa 81,Uaa 82,Xaa 83] [(4,Uac),(10,zab),(14,uac),(16,Xad),(22,Uab),(26,zad)]))]⟩,⟨6,1,qE,[(.ret,qS [zaa 1,Xaa 8] [(4,Uac)]),(.normal,(qS [zaa 1,zaa 4,zaa 6,zaa 7,(9,.ptr ⟨4,4,[((),(8,0))]⟩ [0,0]),zaa 10,zaa 12,sP 80 d7,Uaa 81,Uaa 82,Xaa 83] [(4,Uac),(10,zab),(14,uac),(16,Xad),(22,Uab),(26,zad)])),(.normal,(qS [zaa 1,zaa 4,zaa 6,zaa 7,(9,.ptr ⟨4,4,[((),(8,0))]⟩ [0,0]),zaa 10,Xaa 51] [(4,Uac),(10,zab),(14,uac),(16,Xad),(22,Uab)]))]⟩,⟨24,2,qE,[(.ret,qS [zaa 1,Xaa 8] [(4,Uac)]),(.normal,(qS [zaa 1,zaa 4,zaa 6,zaa 7,(9,.ptr ⟨4,4,[((),(8,0))]⟩ [0,0]),zaa 10] [(4,Uac),(10,zab),(14,uac),(16,Xad),(22,Uab)]))]⟩,⟨33,3,qE,[(.normal,(qS [zaa 1,zaa 6,zaa 7,(9,.ptr ⟨4,4,[((),(8,0))]⟩ [0,0]),zaa 10,zaa 19,Xaa 207] [(4,Uac),(14,uac),(16,Xad),(22,Uab),(40,Uab)]))]⟩,⟨29,4,qE,[(.ret,qS [zaa 1,Xaa 8] [(4,Uac)]),(.normal,(qS [zaa 1,(9,.ptr ⟨4,4,[((),(8,0))]⟩ [0,0]),zaa 10] [(4,Uac),(14,uac),(22,Uab)]))]⟩]⟩
def yH:Ctr:=⟨150,98,[.agg zab,.ptr ⟨4,0,[]⟩ [0],.agg uac,.agg Xad],[(4,Uac)],[⟨uab,[.one],[(4,Uac)]⟩],ap23 oT⟩
theorem EV:Lk 4 yH:=ls E7 (aC xP (aC lu (aC nX (aC lw (aC xQ (aC tI (aC EY aN)))))))
def oU(a0:LDIn)(a1:List (Int))(a2:List LI)(a3:List (Int))(a4:Int)(a5:LDCe)(a6:LDLn)(a7:LDTh)(a8:Int)(a9:Int)(a10:Int)(a11:Int)(a12:Int)(a13:Int)(a14:LDCn)(a15:LDCn)(a16:Int)(a17:Int)(a18:Int)(a19:Int)(a20:LDCn)(a21:Int)(a22:Bool):Option (T13):=
((iX a0 a1 a2 a3 a4 a5 a6 a7).bind λ(x0,_)=>
bif(!x0)then(some (true,a0,a1,a2,a3,a4,a5,a6,a7,a8,a9,a10,a11,a12,a13,a14,a15,a16,a17,a18,a19,a20,a21,a22,(),0,(),(),(),()))else
(j5 a8 a9 a10 a11 a12 a13 a14 a15).bind λ(x1,_)=>
bif(!x1)then(some (true,a0,a1,a2,a3,a4,a5,a6,a7,a8,a9,a10,a11,a12,a13,a14,a15,a16,a17,a18,a19,a20,a21,a22,(),0,(),(),(),()))else
bif(a9 != 1)then(some (true,a0,a1,a2,a3,a4,a5,a6,a7,a8,a9,a10,a11,a12,a13,a14,a15,a16,a17,a18,a19,a20,a21,a22,(),0,(),(),(),()))else
let x2:=dO a14.length;
(gF a13).bind λ(x3,_)=>
bif(x2 != x3)then(some (true,a0,a1,a2,a3,a4,a5,a6,a7,a8,a9,a10,a11,a12,a13,a14,a15,a16,a17,a18,a19,a20,a21,a22,(),0,(),(),(),()))else
(j3 a16 a17 a18 a19 a20 a21 a22).bind λ(x4,_)=>
bif(!x4)then(some (true,a0,a1,a2,a3,a4,a5,a6,a7,a8,a9,a10,a11,a12,a13,a14,a15,a16,a17,a18,a19,a20,a21,a22,(),0,(),(),(),()))else
(d9 a8).bind λx5=>
(dJ a7 x5).bind λx6=>
some ((x6.1 != 2),a0,a1,a2,a3,a4,a5,a6,a7,a8,a9,a10,a11,a12,a13,a14,a15,a16,a17,a18,a19,a20,a21,a22,(),0,(),(),(),()):Option (Bool×LDIn×LI×LLI×LI×Int×LDCe×LDLn×LDTh×Int×Int×Int×Int×Int×Int×LDCn×LDCn×T29)).bind λ(x0,x1,x2,x3,x4,x5,x6,x7,x8,x9,ac,ae,af,ag,ah,ai,aj,ak,am,an,ap,aq,av,ax,_)=>
bif x0 then(some (x4,x5,x6,x7,x8,false,()))else
(iD x4 x5 x6 x7 x8).bind λ(aE,aF,aG,aH,aI,_)=>
bif(ah==0)then((d9 x9).bind λaJ=>
(dJ aI aJ).bind λaK=>
(dJ aI aJ).bind λaL=>
(dJ ai 0).bind λaM=>
(dJ aI aJ).bind λaO=>
(mQ aL.1 aO.2.1 aL.2.2.1 aL.2.2.2.1 aL.2.2.2.2.1 aL.2.2.2.2.2.1 aL.2.2.2.2.2.2.1 aL.2.2.2.2.2.2.2 0 aM.2.1).bind λ(aP,aQ,aR,aS,aT,aU,aV,aW,_)=>
(d9 x9).bind λaY=>
(dJ aI aY).bind λaZ=>
(dJ aI aY).bind λba=>
let bc:=(List.modify aI aY λe=>(aP,(aQ,(aR,(aS,(aT,(aU,(aV,aW))))))));
some (aE,aF,aG,aH,bc,true,()))else
bif ax then((d9 x9).bind λaJ=>
(dJ aI aJ).bind λaK=>
(dJ aI aJ).bind λaL=>
let aM:=List.modify aI aJ λe=>(3,e.2);
some (aE,aF,aG,aH,aM,true,()))else
(oT x1 x2 x3 x9 ac ae af ag ah ai aj ak am an ap aq av ax aE aF aG aH aI).bind λ(aJ,aK,aL,aM,aO,aP,_)=>
bif(!aJ)then(some (x4,x5,x6,x7,x8,false,()))else
some (aK,aL,aM,aO,aP,true,())
def E8:X.Cfg:=⟨E0,[mA,pt,la,pn,lM,sK,yH],[],[⟨2,0,qE,[(.normal,qS [zaa 4,zaa 5,zaa 6,zaa 7,zaa 8,Xaa 48] [(10,zab),(12,yad),(14,uac),(16,Xad),(18,yae)])]⟩]⟩
def yI:Ctr:=⟨130,99,[.agg zab,.agg yad,.agg uac,.agg Xad],[],[⟨Xaj,[.agg 5,.one],[]⟩],ap23 oU⟩
theorem EW:Lk 5 yI:=ls E8 (aC pb (aC tG (aC ov (aC tF (aC nO (aC xN (aC EV aN)))))))
def lF(a0:LDIn)(a1:List (Int))(a2:List LI)(a3:List (Int))(a4:Int)(a5:LDCe)(a6:LDLn)(a7:LDTh)(a8:Int)(a9:Int)(a10:Int)(a11:Int)(a12:Int)(a13:LDCn)(a14:Int)(a15:Bool):Option (T13):=
((iX a0 a1 a2 a3 a4 a5 a6 a7).bind λ(x0,_)=>
bif(!x0)then(some (a8,true,a0,a1,a2,a3,a4,a5,a6,a7,a9,a10,a11,a12,a13,a14,a15,(),0,(),(),(),()))else
(j3 a9 a10 a11 a12 a13 a14 a15).bind λ(x1,_)=>
bif(!x1)then(some (a8,true,a0,a1,a2,a3,a4,a5,a6,a7,a9,a10,a11,a12,a13,a14,a15,(),0,(),(),(),()))else
bif(decide (a8<0))then(some (a8,true,a0,a1,a2,a3,a4,a5,a6,a7,a9,a10,a11,a12,a13,a14,a15,(),0,(),(),(),()))else
bif(decide (a8>=4))then(some (a8,true,a0,a1,a2,a3,a4,a5,a6,a7,a9,a10,a11,a12,a13,a14,a15,(),0,(),(),(),()))else
(d9 a8).bind λx2=>
(dJ a7 x2).bind λx3=>
some (a8,(x3.1 != 3),a0,a1,a2,a3,a4,a5,a6,a7,a9,a10,a11,a12,a13,a14,a15,(),0,(),(),(),()):Option (Int×Bool×LDIn×LI×LLI×LI×Int×LDCe×LDLn×LDTh×T29)).bind λ(x0,x1,x2,x3,x4,x5,x6,x7,x8,x9,ac,ae,af,ag,_)=>
bif x1 then(some (x5,x6,x7,x8,x9,false,()))else
(iF x5 x6 x3 ac ae af ag).bind λ(av,ax,ay,_)=>
bif(ay != 0)then(some (x5,x6,x7,x8,x9,false,()))else
(iD x5 x6 x7 x8 x9).bind λ(az,aA,aB,aD,aE,_)=>
(d9 x0).bind λaF=>
(dJ aE aF).bind λaG=>
(dJ aE aF).bind λaH=>
(dJ aE aF).bind λaI=>
(dJ aI.2.1 0).bind λaJ=>
(dJ aE aF).bind λaK=>
(dJ aK.2.1 0).bind λaL=>
let aM:=(List.modify aE aF λe=>(e.1,((List.modify e.2.1 0 λe=>(av,ax)),e.2.2)));
(d9 x0).bind λaO=>
(dJ aM aO).bind λaP=>
(dJ aM aO).bind λaQ=>
let aR:=List.modify aM aO λe=>(1,e.2);
some (az,aA,aB,aD,aR,true,())
def Dx:X.Cfg:=⟨E0,[mA,pn,sL,lM],[],[⟨2,0,qE,[(.normal,qS [Uaa 2,zaa 4,zaa 5,zaa 7,zaa 8,Xaa 38] [(10,zab),(12,yad),(16,Xad),(18,yae)])]⟩]⟩
def qY:Ctr:=⟨151,100,[.agg zab,.agg yad,shU I64,.agg Xad],[],[⟨Xaj,[.agg 5,.one],[]⟩],ap16 lF⟩
theorem vy:Lk 5 qY:=ls Dx (aC pb (aC tF (aC xP (aC nO aN))))
def ni(a0:Int)(a1:Int)(a2:LDIn)(a3:List (Int))(a4:List LI)(a5:List (Int))(a6:Int)(a7:LDCe)(a8:LDLn)(a9:LDTh)(a10:List (Int))(a11:List (Int))(a12:List LI)(a13:List LDCn)(a14:LDOp)(a15:LDOu)(a16:List (Int))(a17:List LI)(a18:LDEn)(a19:List (Int)):Option (T2o):=
let x0:=wk .i64 a1;
(d8 x0 true).bind λ(x1,x2,x3,x4,x5,x6,x7,_)=>
(lF a2 a3 a4 a5 a6 a7 a8 a9 a0 x1 x2 x3 x4 [] x6 x7).bind λ(x8,x9,ac,ae,af,ag,_)=>
let ah:LDEn:=[(4,(a0,(0,(0,(0,(0,(0,(0,(0,([],([],(x1,(x2,(x3,(x4,([],(x6,x7)))))))))))))))))];
bif(dV 184 a18.length ah.length)then let ai:LDEn:=(List.append a18 ah);
some (a2,a3,a4,x8,x9,ac,ae,af,a10,a11,a12,a13,a14,a15,a16,a17,ai,a19,())else none
def Dh:X.Cfg:=⟨E0,[kM,qY],[(35,FO),(36,FO)],[]⟩
def vN:Ctr:=⟨131,101,[.ptr ⟨2,0,[]⟩ [0],shU I64,shU CW],[(2,zac)],[⟨[],[],[(2,zac)]⟩],ap20 ni⟩
theorem CP:Lk 6 vN:=ls Dh (aC mt (aC vy aN))
def je(a0:Int)(a1:Int)(a2:Int)(a3:Int)(a4:Int)(a5:Int)(a6:LDCn)(a7:LDCn)(a8:LDIn)(a9:List (Int))(a10:List LI)(a11:List (Int))(a12:Int)(a13:LDCe)(a14:LDLn)(a15:LDTh)(a16:List (Int))(a17:List (Int))(a18:List LI)(a19:List LDCn)(a20:LDOp)(a21:LDOu)(a22:List (Int))(a23:List LI)(a24:LDEn)(a25:List (Int)):Option (T2o):=
(bif(a5==9)then((dJ a6 0).bind λx0=>
let x1:=wk .i64 x0.2.1;
(jH a22 a23 x1 a0).bind λ(x2,x3,x4,x5,_)=>
some (x4,a8,a9,a10,a11,a12,a13,a14,a15,a16,a17,a18,a19,a20,a21,a22,a23,a24,a25,a0,a1,a2,a3,a4,a5,a6,a7,()))else
some ((-1),a8,a9,a10,a11,a12,a13,a14,a15,a16,a17,a18,a19,a20,a21,a22,a23,a24,a25,a0,a1,a2,a3,a4,a5,a6,a7,()):Option (Int×LDIn×LI×LLI×LI×Int×LDCe×LDLn×LDTh×LI×LI×LLI×LLCn×LDOp×LDOu×LI×LLI×LDEn×LI×T1m)).bind λ(x0,x1,x2,x3,x4,x5,x6,x7,x8,x9,ac,ae,af,ag,ah,ai,aj,ak,am,an,ap,aq,av,ax,ay,az,aA,_)=>
(jV an ap aq av ax ay az aA x1 x2 x3 x4 x5 x6 x7 x8 x9 ac ae af ag ah ai aj ak am).bind λ(aB,aD,aE,aF,aG,aH,aI,aJ,aK,aL,aM,aO,aP,aQ,aR,aS,aT,aU,aV,aW,aY,aZ,ba,bc,bd,_)=>
(oU aJ aK aL aM aO aP aQ aR an ap aq av ax ay az aA aB aD aE aF aG aH aI).bind λ(bf,bg,bh,bi,bj,bk,_)=>
let bl:LDEn:=[(2,(an,(0,(an,(ap,(aq,(av,(ax,(ay,(az,(aA,(aB,(aD,(aE,(aF,(aG,(aH,aI)))))))))))))))))];
bif(dV 184 bc.length bl.length)then let bm:LDEn:=(List.append bc bl);
bif(decide (x0>=0))then((ni x0 0 aJ aK aL bf bg bh bi bj aS aT aU aV aW aY aZ ba bm bd).bind λ(bn)=>
some (bn))else
some (aJ,aK,aL,bf,bg,bh,bi,bj,aS,aT,aU,aV,aW,aY,aZ,ba,bm,bd,())else none
def zo:X.Cfg:=⟨E0,[nR,qQ,yI,vN],[(56,FO),(57,FO)],[⟨2,0,qE,[(.normal,qS [zaa 0,zaa 3,Uaa 4] [(2,zac),(8,uac)])]⟩]⟩
def sb:Ctr:=⟨96,102,[.ptr ⟨2,0,[]⟩ [0],.agg uac],[(2,zac)],[⟨[],[],[(2,zac)]⟩],ap26 je⟩
theorem za:Lk 7 sb:=ls zo (aC qG (aC xI (aC EW (aC CP aN))))
def qi:T2a->Option (T2a⊕(Int×Int×Int×Int×Nat×T1k)):=λ(v0,v1,v2,v3,v4,v5,v6,v7,v8,v9,v10,v11,_)=>
bif(decide (v6<v5))then(((d9 v6).bind λx0=>
(dJ v10 v4).bind λx1=>
(dJ x1 x0).bind λx2=>
(dJ v10 v4).bind λx3=>
(dJ x3 x0).bind λx4=>
bif(x4 != v0)then(bif(dV 8 v11.length (List.length [x4]))then let x5:List (Int):=(List.append v11 [x4]);
some (v0,v1,v2,v3,v4,v5,v6,v7,v8,v9,v10,x5,())else none)else
some (v0,v1,v2,v3,v4,v5,v6,v7,v8,v9,v10,v11,()):Option (T2a)).bind λ(x0,x1,x2,x3,x4,x5,x6,x7)=>
let af:=w64 (x6+1);
some (.inl (x0,x1,x2,x3,x4,x5,af,x7)))else
some (.inr (v0,v1,v2,v3,v4,v5,v6,false,v7,v8,v9,v10,v11,()))
def qg:T1d->Option (T1d⊕(Int×T18)):=λ(v0,v1,v2,v3,v4,v5,v6,_)=>
bif(decide (v2<v1))then((d9 v2).bind λx0=>
(dJ v6 x0).bind λx1=>
(dJ v6 x0).bind λx2=>
(dJ v6 x0).bind λx3=>
let x4:=dO x3.length;
(dX qi NN (v0,v2,v1,v2,x0,x4,0,v3,v4,v5,v6,[],())).bind λ(x5,x6,x7,x8,x9,ac,ae,af,ag,ah,ai,aj,ak,_)=>
(d9 x6).bind λam=>
(dJ aj am).bind λan=>
(dJ aj am).bind λap=>
let aq:=List.modify aj am λe=>ak;
let av:=w64 (x8+1);
some (.inl (x5,x7,av,ag,ah,ai,aq,())))else
some (.inr (v0,v1,v2,false,v3,v4,v5,v6,()))
def qf:T1o->Option (T1o⊕(Int×T1k)):=λ(v0,v1,v2,v3,v4,v5,v6,v7,_)=>
bif(decide (v2<v1))then((jH v5 v6 v2 v0).bind λ(x0,x1,x2,x3,_)=>
(bif x3 then(bif(decide (x2>=0))then(bif(dV 8 v7.length (List.length [x2]))then let x4:List (Int):=(List.append v7 [x2]);
some (v0,v1,v2,v3,v4,v5,v6,x4,x0,x1,())else none)else
some (v0,v1,v2,v3,v4,v5,v6,v7,x0,x1,()))else
some (v0,v1,v2,v3,v4,v5,v6,v7,x0,x1,()):Option (Int×Int×Int×Unit×Unit×LI×LLI×LI×T08)).bind λ(x4,x5,x6,x7,x8,x9,ac,ae,af,ag,_)=>
let ah:=w64 (x6+1);
some (.inl (x4,x5,ah,x7,x8,af,ag,ae,())))else
some (.inr (v0,v1,v2,false,v3,v4,v5,v6,v7,()))
def nz(a0:List (Int))(a1:List LI)(a2:Int):Option (T0l):=
(lE a0 a1).bind λ(x0,x1,_)=>
let x2:=dO x1.length;
(dX qg NN (a2,x2,0,(),(),x0,x1,())).bind λ(x3,x4,x5,x6,x7,x8,x9,ac,_)=>
let ae:=dO x9.length;
(dX qf NN (x3,ae,0,x7,x8,x9,ac,[],())).bind λ(af,ag,ah,ai,aj,ak,am)=>
some (am)
def Dv:X.Cfg:=⟨E0,[nS,nR],[],[⟨15,0,qE,[(.normal,(qS [Uaa 1,zaa 4,zaa 6,Uaa 7,Zaa 9 21,(20,.pk ⟨14,1,[]⟩ [0,0]),Uaa 21,Uaa 22,(27,.pk ⟨14,1,[((),(1,0))]⟩ [0,0,0]),Uaa 28,Uaa 29] [(10,Xab),(14,Zad),(21,yac)]))]⟩,⟨12,1,(qS [Uaa 1,zaa 4,zaa 6,Uaa 7,Zaa 9 21,(20,.pk ⟨14,1,[]⟩ [0,0]),Uaa 21,Uaa 22,(27,.pk ⟨14,1,[((),(1,0))]⟩ [0,0,0]),Uaa 28,Uaa 29] [(10,Xab),(14,Zad),(21,yac)]),[(.exit 2,(qS [Uaa 1,zaa 4,zaa 6,Uaa 7,Zaa 9 21,(20,.pk ⟨14,1,[]⟩ [0,0]),Uaa 21,Uaa 22,(27,.pk ⟨14,1,[((),(1,0))]⟩ [0,0,0]),Uaa 28,Uaa 29,Xaa 30] [(10,Xab),(14,Zad),(21,yac)]))]⟩,(lx 4 2 [Uaa 1,zaa 4,zaa 6,(20,.pk ⟨14,1,[]⟩ [0,0]),Uaa 21,Uaa 22] [(10,Xab),(14,Zad)] 23),⟨27,3,qE,[(.normal,qS [Uaa 1,zaa 4,zaa 6,Zaa 12 27,zaa 14,Uaa 49,Uaa 50] [(10,Xab),(14,Uae),(27,yac),(30,Uae)])]⟩,⟨21,4,qS [Uaa 1,zaa 4,zaa 6,Zaa 12 27,Uaa 49,Uaa 50] [(10,Xab),(14,Uae),(27,yac)],[(.exit 4,qS [Uaa 1,zaa 4,zaa 6,Zaa 12 27,Uaa 49,Uaa 50,Xaa 51] [(10,Xab),(14,Uae),(27,yac)])]⟩]⟩
def vW:Ctr:=⟨132,103,[.agg Uae,shU I64],[],[⟨uL [RI,(yaa RI),(uaa I64)],[.agg 2,.one],[]⟩],ap3 nz⟩
theorem CZ:Lk 3 vW:=ls Dv (aC qH (aC qG aN))
def jd(a0:Int)(a1:Int)(a2:LDIn)(a3:List (Int))(a4:List LI)(a5:List (Int))(a6:Int)(a7:LDCe)(a8:LDLn)(a9:LDTh)(a10:List (Int))(a11:List (Int))(a12:List LI)(a13:List LDCn)(a14:LDOp)(a15:LDOu)(a16:List (Int))(a17:List LI)(a18:LDEn):Option (LDIn×LI×LLI×LI×Int×LDCe×LDLn×LDTh×LI×LI×LLI×LLCn×LDOp×LDOu×LI×LLI×LDEn×Unit):=
let x0:=wk .i64 a1;
(d8 x0 true).bind λ(x1,x2,x3,x4,x5,x6,x7,_)=>
(lF a2 a3 a4 a5 a6 a7 a8 a9 a0 x1 x2 x3 x4 [] x6 x7).bind λ(x8,x9,ac,ae,af,ag,_)=>
let ah:LDEn:=[(4,(a0,(0,(0,(0,(0,(0,(0,(0,([],([],(x1,(x2,(x3,(x4,([],(x6,x7)))))))))))))))))];
bif(dV 184 a18.length ah.length)then let ai:LDEn:=(List.append a18 ah);
some (a2,a3,a4,x8,x9,ac,ae,af,a10,a11,a12,a13,a14,a15,a16,a17,ai,())else none
def zl:X.Cfg:=⟨E0,[kM,qY],[(35,FO),(36,FO)],[]⟩
def r7:Ctr:=⟨131,104,[.ptr ⟨2,0,[]⟩ [0],shU I64,shU CW],[(2,Zaj)],[⟨[],[],[(2,Zaj)]⟩],ap19 jd⟩
theorem yX:Lk 6 r7:=ls zl (aC mt (aC vy aN))
def pK:T2x->Option (T2x⊕(Int×Int×Int×Bool×T2r)):=λ(v0,v1,v2,v3,v4,v5,v6,v7,v8,v9,v10,v11,v12,v13,v14,v15,v16,v17,v18,v19,v20,v21,_)=>
bif(decide (v2<v1))then((d9 v2).bind λx0=>
(dJ v21 x0).bind λx1=>
(dJ v21 x0).bind λx2=>
(jd x2 0 v3 v4 v5 v6 v7 v8 v9 v10 v11 v12 v13 v14 v15 v16 v17 v18 v19).bind λ(x3,x4,x5,x6,x7,x8,x9,ac,ae,af,ag,ah,ai,aj,ak,am,an,_)=>
let ap:=w64 (v2+1);
some (.inl (v0,v1,ap,x3,x4,x5,x6,x7,x8,x9,ac,ae,af,ag,ah,ai,aj,ak,am,an,v20,v21,())))else
some (.inr (v0,v1,v2,false,v3,v4,v5,v6,v7,v8,v9,v10,v11,v12,v13,v14,v15,v16,v17,v18,v19,v20,v21,()))
def pJ:T2w->Option (T2w⊕(Int×Int×T2u)):=λ(v0,v1,v2,v3,v4,v5,v6,v7,v8,v9,v10,v11,v12,v13,v14,v15,v16,v17,v18,v19,v20,_)=>
bif(decide (v2<v1))then(((d9 v2).bind λx0=>
(dJ v20 x0).bind λx1=>
(dJ v20 x0).bind λx2=>
bif(x2==v0)then((d9 v0).bind λx3=>
(dJ v10 x3).bind λx4=>
(jd v2 x4.2.2.2.2.2.2.2 v3 v4 v5 v6 v7 v8 v9 v10 v11 v12 v13 v14 v15 v16 v17 v18 v19).bind λ(x5,x6,x7,x8,x9,ac,ae,af,ag,ah,ai,aj,ak,am,an,ap,aq,_)=>
(d9 v2).bind λav=>
(dJ v20 av).bind λax=>
(dJ v20 av).bind λay=>
let az:=List.modify v20 av λe=>(-1);
some (v0,v1,v2,x5,x6,x7,x8,x9,ac,ae,af,ag,ah,ai,aj,ak,am,an,ap,aq,az,()))else
some (v0,v1,v2,v3,v4,v5,v6,v7,v8,v9,v10,v11,v12,v13,v14,v15,v16,v17,v18,v19,v20,()):Option (T2w)).bind λ(x0,x1,x2,x3,x4,x5,x6,x7,x8,x9,ac,ae,af,ag,ah,ai,aj,ak,am,an,ap,_)=>
let aq:=w64 (x2+1);
some (.inl (x0,x1,aq,x3,x4,x5,x6,x7,x8,x9,ac,ae,af,ag,ah,ai,aj,ak,am,an,ap,())))else
some (.inr (v0,v1,v2,false,v3,v4,v5,v6,v7,v8,v9,v10,v11,v12,v13,v14,v15,v16,v17,v18,v19,v20,()))
def jW(a0:Int)(a1:LDIn)(a2:List (Int))(a3:List LI)(a4:List (Int))(a5:Int)(a6:LDCe)(a7:LDLn)(a8:LDTh)(a9:List (Int))(a10:List (Int))(a11:List LI)(a12:List LDCn)(a13:LDOp)(a14:LDOu)(a15:List (Int))(a16:List LI)(a17:LDEn)(a18:List (Int)):Option (T2o):=
(nz a15 a16 a0).bind λ(x0,x1,x2,_)=>
let x3:=dO x2.length;
(dX pK NN (a0,x3,0,a1,a2,a3,a4,a5,a6,a7,a8,a9,a10,a11,a12,a13,a14,x0,x1,a17,a18,x2,())).bind λ(x4,x5,x6,x7,x8,x9,ac,ae,af,ag,ah,ai,aj,ak,am,an,ap,aq,av,ax,ay,az,aA,_)=>
let aB:=dO az.length;
(dX pJ NN (x4,aB,0,x8,x9,ac,ae,af,ag,ah,ai,aj,ak,am,an,ap,aq,av,ax,ay,az,())).bind λ(aD,aE,aF,aG,aH)=>
some (aH)
def Bl:X.Cfg:=⟨E0,[vW,r7],[],[(lx 4 0 [zaa 0,Uaa 1,Zaa 23 13,Uaa 24,Uaa 25] [(2,zac),(13,yac)] 26),⟨13,1,qE,[(.normal,(qS [zaa 0,Uaa 1,(36,.pk ⟨2,17,[]⟩ [0,0]),Uaa 37,Uaa 38] [(2,zac)]))]⟩,⟨10,2,(qS [zaa 0,Uaa 1,(36,.pk ⟨2,17,[]⟩ [0,0]),Uaa 37,Uaa 38] [(2,zac)]),[(.exit 2,(qS [zaa 0,Uaa 1,(36,.pk ⟨2,17,[]⟩ [0,0]),Uaa 37,Uaa 38,Xaa 39] [(2,zac)]))]⟩]⟩
def tZ:Ctr:=⟨97,105,[.ptr ⟨2,0,[]⟩ [0],shU I64],[(2,zac)],[⟨[],[],[(2,zac)]⟩],ap19 jW⟩
theorem AT:Lk 7 tZ:=ls Bl (aC CZ (aC yX aN))
def nj(a0:LDIn)(a1:List (Int))(a2:List LI)(a3:List (Int))(a4:Int)(a5:LDCe)(a6:LDLn)(a7:LDTh)(a8:List (Int))(a9:List (Int))(a10:List LI)(a11:List LDCn)(a12:LDOp)(a13:LDOu)(a14:List (Int))(a15:List LI)(a16:LDEn)(a17:List (Int))(a18:Int)(a19:Int)(a20:Bool):Option (LDIn×LI×LLI×LI×Int×LDCe×LDLn×LDTh×LI×LI×LLI×LLCn×LDOp×LDOu×LI×LLI×LDEn×T07):=
(mg a7).bind λ(x0,_)=>
let x1:=dO x0.length;
bif(x1==0)then(some ([],[],[],[],0,[],[],[],[],[],[],[],[],[],[],[],[],[],15,()))else
let x2:=dO a16.length;
bif(decide (x2>192))then(some ([],[],[],[],0,[],[],[],[],[],[],[],[],[],[],[],[],[],3,()))else
let x3:=dO x0.length;
(jz a18 x3).bind λ(x4,_)=>
(d9 x4).bind λx5=>
(dJ x0 x5).bind λx6=>
(dJ x0 x5).bind λx7=>
(jz a19 64).bind λ(x8,_)=>
let x9:=w64 (1+x8);
(li a0 a1 a2 a3 a4 a5 a6 a7 a8 a9 a10 a11 a12 a13 a14 a15 a16 a17).bind λ(ac,ae,af,ag,ah,ai,aj,ak,am,an,ap,aq,av,ax,ay,az,aA,aB,_)=>
(match(bif a20 then((mN ag ah ai aj ak x7).bind λ(aD,_)=>
bif aD then((j0 ag ah ai aj ak x7).bind λ(aE,aF,aG,aH,aI,aJ,_)=>
let aK:LDEn:=[(3,(x7,(0,(0,(0,(0,(0,(0,(0,([],([],(0,(0,(0,(0,([],(0,false)))))))))))))))))];
bif(dV 184 aA.length aK.length)then let aL:LDEn:=(List.append aA aK);
some (.inl (x7,x9,(),(),(),(),0,(),(),(),(),(),(),(),(),(),(),(),(),(),ac,ae,af,aE,aF,aG,aH,aI,am,an,ap,aq,av,ax,ay,az,aL,aB,()))else none)else
some (.inr (x7,x9,(),(),(),(),0,(),(),(),(),(),(),(),(),(),(),(),(),(),ac,ae,af,ag,ah,ai,aj,ak,am,an,ap,aq,av,ax,ay,az,aA,aB,())))else
some (.inr (x7,x9,(),(),(),(),0,(),(),(),(),(),(),(),(),(),(),(),(),(),ac,ae,af,ag,ah,ai,aj,ak,am,an,ap,aq,av,ax,ay,az,aA,aB,())):Option (T2S⊕T2S))with
|none=>none
|some (.inl (aD,aE,aF,aG,aH,aI,aJ,aK,aL,aM,aO,aP,aQ,aR,aS,aT,aU,aV,aW,aY,aZ,ba,bc,bd,bf,bg,bh,bi,bj,bk,bl,bm,bn,bo,bp,bq,bt,bv,_))=>
(lH aZ ba bc bd bf bg bh bi aD aE).bind λ(bx,bz,bA,bB,bC,bD,bE,bF,bG,bH,bI,bJ,bK,bL,_)=>
let bM:LDEn:=[(1,(aD,(aE,(bD,(bE,(bF,(bG,(bH,(bI,(bJ,(bK,(0,(0,(0,(0,([],(0,false)))))))))))))))))];
bif(dV 184 bt.length bM.length)then let bN:LDEn:=(List.append bt bM);
(bif(bE==1)then((je bD bE bF bG bH bI bJ bK aZ ba bc bx bz bA bB bC bj bk bl bm bn bo bp bq bN bv).bind λ(bO,bP,bQ,bR,bS,bT,bU,bV,bW,bY,bZ,b8,b9,ca,cc,cd,cf,cg,_)=>
some (aD,aF,aG,aH,aI,aJ,aK,aL,aM,aO,aP,aQ,aR,aS,aT,aU,aV,aW,aY,bO,bP,bQ,bR,bS,bT,bU,bV,bW,bY,bZ,b8,b9,ca,cc,cd,cf,cg,()))else
some (aD,aF,aG,aH,aI,aJ,aK,aL,aM,aO,aP,aQ,aR,aS,aT,aU,aV,aW,aY,aZ,ba,bc,bx,bz,bA,bB,bC,bj,bk,bl,bm,bn,bo,bp,bq,bN,bv,()):Option (T2M)).bind λ(bO,bP,bQ,bR,bS,bT,bU,bV,bW,bY,bZ,b8,b9,ca,cc,cd,cf,cg,ch,ci,cj,cl,cn,cq,cr,cu,cw,cx,cy,cz,cD,cE,cF,cG,cH,cI,cJ,_)=>
((d9 bO).bind λcK=>
(dJ cw cK).bind λcL=>
bif(cL.1==4)then((jW bO ci cj cl cn cq cr cu cw cx cy cz cD cE cF cG cH cI cJ).bind λ(cM,cN,cO,cP,cQ,cR,cS,cT,cU,cV,cW,cX,cY,cZ,c7,c8,c9,dc,_)=>
some (bP,bQ,bR,bS,bT,bU,bV,bW,bY,bZ,b8,b9,ca,cc,cd,cf,cg,ch,cM,cN,cO,cP,cQ,cR,cS,cT,cU,cV,cW,cX,cY,cZ,c7,c8,c9,dc,()))else
some (bP,bQ,bR,bS,bT,bU,bV,bW,bY,bZ,b8,b9,ca,cc,cd,cf,cg,ch,ci,cj,cl,cn,cq,cr,cu,cw,cx,cy,cz,cD,cE,cF,cG,cH,cI,cJ,()):Option (T2K)).bind λ(cK,cL,cM,cN,cO,cP,cQ,cR,cS,cT,cU,cV,cW,cX,cY,cZ,c7,c8,c9,dc,de,df,dg,dh,dk,dl,dm,dn,dp,dq,dx,dy,dz,dA,dB,dC,_)=>
some (c9,dc,de,df,dg,dh,dk,dl,dm,dn,dp,dq,dx,dy,dz,dA,dB,dC,0,())else none
|some (.inr (aD,aE,aF,aG,aH,aI,aJ,aK,aL,aM,aO,aP,aQ,aR,aS,aT,aU,aV,aW,aY,aZ,ba,bc,bd,bf,bg,bh,bi,bj,bk,bl,bm,bn,bo,bp,bq,bt,bv,_))=>
(lH aZ ba bc bd bf bg bh bi aD aE).bind λ(bx,bz,bA,bB,bC,bD,bE,bF,bG,bH,bI,bJ,bK,bL,_)=>
let bM:LDEn:=[(1,(aD,(aE,(bD,(bE,(bF,(bG,(bH,(bI,(bJ,(bK,(0,(0,(0,(0,([],(0,false)))))))))))))))))];
bif(dV 184 bt.length bM.length)then let bN:LDEn:=(List.append bt bM);
(bif(bE==1)then((je bD bE bF bG bH bI bJ bK aZ ba bc bx bz bA bB bC bj bk bl bm bn bo bp bq bN bv).bind λ(bO,bP,bQ,bR,bS,bT,bU,bV,bW,bY,bZ,b8,b9,ca,cc,cd,cf,cg,_)=>
some (aD,aF,aG,aH,aI,aJ,aK,aL,aM,aO,aP,aQ,aR,aS,aT,aU,aV,aW,aY,bO,bP,bQ,bR,bS,bT,bU,bV,bW,bY,bZ,b8,b9,ca,cc,cd,cf,cg,()))else
some (aD,aF,aG,aH,aI,aJ,aK,aL,aM,aO,aP,aQ,aR,aS,aT,aU,aV,aW,aY,aZ,ba,bc,bx,bz,bA,bB,bC,bj,bk,bl,bm,bn,bo,bp,bq,bN,bv,()):Option (T2M)).bind λ(bO,bP,bQ,bR,bS,bT,bU,bV,bW,bY,bZ,b8,b9,ca,cc,cd,cf,cg,ch,ci,cj,cl,cn,cq,cr,cu,cw,cx,cy,cz,cD,cE,cF,cG,cH,cI,cJ,_)=>
((d9 bO).bind λcK=>
(dJ cw cK).bind λcL=>
bif(cL.1==4)then((jW bO ci cj cl cn cq cr cu cw cx cy cz cD cE cF cG cH cI cJ).bind λ(cM,cN,cO,cP,cQ,cR,cS,cT,cU,cV,cW,cX,cY,cZ,c7,c8,c9,dc,_)=>
some (bP,bQ,bR,bS,bT,bU,bV,bW,bY,bZ,b8,b9,ca,cc,cd,cf,cg,ch,cM,cN,cO,cP,cQ,cR,cS,cT,cU,cV,cW,cX,cY,cZ,c7,c8,c9,dc,()))else
some (bP,bQ,bR,bS,bT,bU,bV,bW,bY,bZ,b8,b9,ca,cc,cd,cf,cg,ch,ci,cj,cl,cn,cq,cr,cu,cw,cx,cy,cz,cD,cE,cF,cG,cH,cI,cJ,()):Option (T2K)).bind λ(cK,cL,cM,cN,cO,cP,cQ,cR,cS,cT,cU,cV,cW,cX,cY,cZ,c7,c8,c9,dc,de,df,dg,dh,dk,dl,dm,dn,dp,dq,dx,dy,dz,dA,dB,dC,_)=>
some (c9,dc,de,df,dg,dh,dk,dl,dm,dn,dp,dq,dx,dy,dz,dA,dB,dC,0,())else none)
def Di:X.Cfg:=⟨E0,[ue,sM,r9,sJ,qX,vZ,sb,tZ],[(60,FO),(61,FO),(82,FO),(83,FO)],[⟨11,0,qE,[(.normal,(qS [zaa 4,Uaa 7,Uaa 8,zaa 9] [(10,uag),(20,uL [gt,RI,(yaa RW),RI,CW,(uaa KCe),l9,sO,RW,RW,(yaa RW),(yaa d7),iu,kW,RI,(yaa RI),(uaa sQ),(uaa I64)])])),(.normal,qS [zaa 4,Uaa 7,Uaa 8,zaa 9] [(10,uag),(20,zac)])]⟩,⟨17,1,qE,[(.normal,qS [zaa 4,Uaa 7,zaa 9] [(10,uag),(20,zac)])]⟩,⟨19,2,qE,[(.normal,qS [zaa 4,zaa 9] [(10,uag),(20,zac)])]⟩]⟩
def vO:Ctr:=⟨55,106,[.agg Zah,.agg Uah],[],[⟨uL [gt,RI,(yaa RW),RI,CW,gw,iS,jE,RW,RW,(yaa RW),(yaa d7),iu,kW,RI,(yaa RI),(uaa sQ),(uaa I64),I64],[.agg 18,.one],[]⟩],ap21 nj⟩
theorem CQ:Lk 8 vO:=ls Di (aC A4 (aC xR (aC yZ (aC xM (aC xL (aC C4 (aC za (aC AT aN))))))))
def o4:T2W->Option (T2W⊕((Int×Bool×LI×Int×Unit×Unit×Unit×Unit×Int×Unit×Unit×Unit×Unit×Unit×Unit×Unit×Unit×Unit×Unit×Unit×Unit×Unit×LDIn×LI×LLI×LI×Int×LDCe×LDLn×LDTh×LI×LI×LLI×LLCn×LDOp×LDOu×LI×LLI×LDEn×LI×T2o)⊕(Int×Bool×T2T))):=λ(v0,v1,v2,v3,v4,v5,v6,v7,v8,v9,v10,v11,v12,v13,v14,v15,v16,v17,v18,v19,v20,v21,v22,v23,v24,v25,v26,v27,v28,v29,v30,v31,v32,v33,v34,v35,v36,v37,v38,_)=>
bif(decide (v0>0))then((mp v1 v2).bind λ(x0,x1,x2,x3,x4,_)=>
(nj v21 v22 v23 v24 v25 v26 v27 v28 v29 v30 v31 v32 v33 v34 v35 v36 v37 v38 x0 x1 x2).bind λ(x5,x6,x7,x8,x9,ac,ae,af,ag,ah,ai,aj,ak,am,an,ap,aq,av,ax,_)=>
bif(ax != 0)then(some (.inr (.inl (v0,true,x3,x4,v3,v4,v5,v6,v7,v8,v9,v10,v11,v12,v13,v14,v15,v16,v17,v18,v19,v20,v21,v22,v23,v24,v25,v26,v27,v28,v29,v30,v31,v32,v33,v34,v35,v36,v37,v38,x5,x6,x7,x8,x9,ac,ae,af,ag,ah,ai,aj,ak,am,an,ap,aq,av,()))))else
let ay:=w64 (v0-1);
some (.inl (ay,x3,x4,v3,v4,v5,v6,v7,v8,v9,v10,v11,v12,v13,v14,v15,v16,v17,v18,v19,v20,x5,x6,x7,x8,x9,ac,ae,af,ag,ah,ai,aj,ak,am,an,ap,aq,av,())))else
some (.inr (.inr (v0,false,v1,v2,v3,v4,v5,v6,v7,v8,v9,v10,v11,v12,v13,v14,v15,v16,v17,v18,v19,v20,v21,v22,v23,v24,v25,v26,v27,v28,v29,v30,v31,v32,v33,v34,v35,v36,v37,v38,())))
def mF(a0:List (Int))(a1:Int):Option (LDIn×LI×LLI×LI×Int×LDCe×LDLn×LDTh×LI×LI×LLI×LLCn×LDOp×LDOu×LI×LLI×LDEn×LI×T07):=
(lp a0 a1).bind λ(x0,x1,x2,x3,x4,_)=>
(mo x1 x3 x4).bind λ(x5,x6,x7,x8,_)=>
(lq x7 x8).bind λ(x9,ac,ae,af,ag,ah,ai,aj,_)=>
(oQ x0 x1 x2 x5 x6 x9 ac ae af ag []).bind λ(ak,am,an,ap,aq,av,ax,ay,az,aA,aB,aD,aE,aF,aG,aH,aI,aJ,aK,_)=>
(dL 16 ai aj).bind λ(aL,aM,aO,_)=>
let aP:=w64 (3+aL);
(match dX o4 NN (aP,aM,aO,(),(),(),(),0,(),(),(),(),(),(),(),(),(),(),(),(),(),ak,am,an,ap,aq,av,ax,ay,az,aA,aB,aD,aE,aF,aG,aH,[],aJ,())with
|none=>none
|some (.inl (aQ,aR,aS,aT,aU,aV,aW,aY,aZ,ba,bc,bd,bf,bg,bh,bi,bj,bk,bl,bm,bn,bo,bp,bq,bt,bv,bx,bz,bA,bB,bC,bD,bE,bF,bG,bH,bI,bJ,bK,bL,_))=>
some (bp,bq,bt,bv,bx,bz,bA,bB,bC,bD,bE,bF,bG,bH,bI,bJ,bK,bL,aS,aT,())
|some (.inr (aQ,aR,aS,aT,aU,aV,aW,aY,aZ,ba,bc,bd,bf,bg,bh,bi,bj,bk,bl,bm,bn,bo,bp,bq,bt,bv,bx,bz,bA,bB,bC,bD,bE,bF,bG,bH,bI,bJ,bK,bL,_))=>
some (bp,bq,bt,bv,bx,bz,bA,bB,bC,bD,bE,bF,bG,bH,bI,bJ,bK,bL,aS,aT,()))
def H4:X.Cfg:=⟨E0,[sj,up,sm,t6,gr,uq,vO],[],[⟨5,0,qS [zaa 0,zaa 2,zaa 4,Uaa 6] [(2,yab),(6,uag),(10,zac)],[(.exit 0,qS [zaa 0,zaa 2,zaa 4,Uaa 6,zaa 7,Xaa 37] [(2,yab),(6,uag),(10,Zah),(16,zac)]),(.exit 0,qS [zaa 0,zaa 2,zaa 4,Uaa 6,Xaa 26] [(2,yab),(6,uag),(10,zac)])]⟩]⟩
def vf:Ctr:=⟨23,107,[.ptr ⟨2,0,[]⟩ [0]],[(2,yab)],[⟨Zah,[.agg 18],[(2,yab)]⟩],ap2 mF⟩
theorem Ai:Lk 9 vf:=ls H4 (aC zh (aC Be (aC zi (aC AU (aC gV (aC Bf (aC CQ aN)))))))
def ff(a0:Int)(a1:Int)(a2:Int):Option (Bool×Unit):=
bif(decide (a0>=a1))then(some ((decide (a0<=a2)),()))else
some (false,())
def uW:X.Cfg:=⟨E0,[],[],[]⟩
def oE:Ctr:=⟨66,108,uL [I64,I64,I64],[],[⟨uab,[.one],[]⟩],ap3 ff⟩
theorem uS:Lk 1 oE:=ls uW aN
def g8(a0:Int)(a1:Int)(a2:Int)(a3:Int):Option (Bool×Unit):=
bif(a0==0)then(bif(a2==0)then(some ((a3==0),()))else
some (false,()))else
bif(a0==2)then(bif(a2==0)then(some ((a3==0),()))else
some (false,()))else
bif(a0==1)then((bif(a2==(-1))then(bif(decide (a3>=0))then(some ((decide (a3<=65535)),a0,a1,a2,a3,()))else
some (false,a0,a1,a2,a3,()))else
some (false,a0,a1,a2,a3,()):Option (T0G)).bind λ(x0,x1,x2,x3,x4,_)=>
bif(x2==0)then(bif x0 then(some (true,()))else
bif(decide (x3>=0))then(bif(decide (x3<4))then(bif(decide (x4>=0))then(some ((decide (x4<32)),()))else
some (false,()))else
some (false,()))else
some (false,()))else
some (false,()))else
some (false,())
def zk:X.Cfg:=⟨E0,[],[],[⟨7,0,qE,[(.normal,qS [zaa 1,Xaa 3] [(4,Uaf)])]⟩]⟩
def n5:Ctr:=⟨68,109,[.agg Uaf],[],[⟨uab,[.one],[]⟩],ap4 g8⟩
theorem rW:Lk 1 n5:=ls zk aN
def kZ(a0:Int)(a1:Int)(a2:Int)(a3:Int):Option (Bool×Unit):=
(g8 a0 a1 a2 a3).bind λ(x0,_)=>
some ((!x0),())
def uX:X.Cfg:=⟨E0,[n5],[],[]⟩
def oF:Ctr:=⟨106,110,[.agg Uaf],[],[⟨uab,[.one],[]⟩],ap4 kZ⟩
theorem uT:Lk 2 oF:=ls uX (aC rW aN)
def fZ:T0h->Option (T0h⊕((Int×Unit)⊕T0w)):=λ(v0,v1,v2,_)=>
bif(decide (v2<v1))then((d9 v2).bind λx0=>
(dJ v0 x0).bind λx1=>
(kZ x1.1 x1.2.1 x1.2.2.1 x1.2.2.2).bind λ(x2,_)=>
bif x2 then(some (.inr (.inl (v2,()))))else
let x3:=w64 (v2+1);
some (.inl (v0,v1,x3,())))else
some (.inr (.inr (v0,v1,v2,false,())))
def fH(a0:LDCn):Option (Int×Unit):=
let x0:=dO a0.length;
(match dX fZ NN (a0,x0,0,())with
|none=>none
|some (.inl (x1,_))=>
some (x1,())
|some (.inr (x1,_))=>
some ((-1),()))
def oA:X.Cfg:=⟨E0,[oF],[],[⟨3,0,(qS [sP 0 d7,(1,.fn 106 []),Uaa 7,Uaa 8] []),[(.ret,qS [Uaa 4] []),(.exit 0,(qS [sP 0 d7,(1,.fn 106 []),Uaa 7,Uaa 8,Xaa 9] []))]⟩]⟩
def jP:Ctr:=⟨133,111,[shU d7,.fn 106 []],[],[⟨Xac,[.one],[]⟩],ap1 fH⟩
theorem ou:Lk 3 jP:=ls oA (aC uT aN)
def f8(a0:LDCn):Option (Bool×Unit):=
(fH a0).bind λ(x0,_)=>
some ((decide (x0>=0)),())
def m6:X.Cfg:=⟨E0,[jP],[],[]⟩
def iM:Ctr:=⟨105,112,[shU d7,.fn 106 []],[],[⟨uab,[.one],[]⟩],ap1 f8⟩
theorem mZ:Lk 4 iM:=ls m6 (aC ou aN)
def gE(a0:LDCn)(a1:Int):Option (Bool×Unit):=
let x0:=dO a0.length;
bif(decide (x0<=a1))then((f8 a0).bind λ(x1,_)=>
some ((!x1),()))else
some (false,())
def xX:X.Cfg:=⟨E0,[iM],[],[]⟩
def nb:Ctr:=⟨67,113,uL [d7,I64],[],[⟨uab,[.one],[]⟩],ap2 gE⟩
theorem qF:Lk 5 nb:=ls xX (aC mZ aN)
def iv(a0:Int)(a1:Int)(a2:Int)(a3:Int)(a4:Int)(a5:Int)(a6:LDCn)(a7:LDCn):Option (Bool×Unit):=
(ff a0 0 3).bind λ(x0,_)=>
bif x0 then((ff a1 0 3).bind λ(x1,_)=>
bif x1 then((ff a2 0 6).bind λ(x2,_)=>
bif x2 then((ff a3 0 1099511627776).bind λ(x3,_)=>
bif x3 then((ff a4 0 255).bind λ(x4,_)=>
bif x4 then((ff a5 0 15).bind λ(x5,_)=>
bif x5 then((gE a6 3).bind λ(x6,_)=>
bif x6 then((gE a7 16).bind λ(x7,_)=>
some (x7,()))else
some (false,()))else
some (false,()))else
some (false,()))else
some (false,()))else
some (false,()))else
some (false,()))else
some (false,())
def xW:X.Cfg:=⟨E0,[oE,nb],[],[]⟩
def na:Ctr:=⟨34,114,[.agg uac],[],[⟨uab,[.one],[]⟩],ap8 iv⟩
theorem qD:Lk 6 na:=ls xW (aC uS (aC qF aN))
def oP:T0x->Option (T0x⊕((Bool×Unit)⊕(LDCn×T0w))):=λ(v0,v1,v2,v3,_)=>
bif(decide (v3<v2))then((d9 v3).bind λx0=>
(dJ v0 x0).bind λx1=>
(d9 v3).bind λx2=>
(dJ v1 x2).bind λx3=>
let x4:Bool:=(!((x1.1==x3.1)&&((x1.2.1==x3.2.1)&&((x1.2.2.1==x3.2.2.1)&&((x1.2.2.2==x3.2.2.2)&&true)))));
bif x4 then(some (.inr (.inl (false,()))))else
let x5:=w64 (v3+1);
some (.inl (v0,v1,v2,x5,())))else
some (.inr (.inr (v0,v1,v2,v3,false,())))
def fu(a0:LDCn)(a1:LDCn):Option (Bool×Unit):=
let x0:=dO a0.length;
let x1:=dO a1.length;
bif(x0 != x1)then(some (false,()))else
let x2:=dO a0.length;
(match dX oP NN (a0,a1,x2,0,())with
|none=>none
|some (.inl (x3,_))=>
some (x3,())
|some (.inr (x3,_))=>
some (true,()))
def rM:X.Cfg:=⟨E0,[],[],[⟨6,0,qS [sP 0 d7,sP 1 d7,Uaa 12,Uaa 13] [],[(.ret,qS [Xaa 4] []),(.exit 0,qS [sP 0 d7,sP 1 d7,Uaa 12,Uaa 13,Xaa 14] [])]⟩]⟩
def l8:Ctr:=⟨49,115,uL [d7,d7],[],[⟨uab,[.one],[]⟩],ap2 fu⟩
theorem rK:Lk 1 l8:=ls rM aN
def fU(a0:Int)(a1:Int)(a2:Int)(a3:Int)(a4:Int)(a5:Int)(a6:LDCn)(a7:LDCn)(a8:Int)(a9:Int)(a10:Int)(a11:Int)(a12:Int)(a13:Int)(a14:LDCn)(a15:LDCn):Option (Bool×Unit):=
bif(a0==a8)then(bif(a1==a9)then(bif(a2==a10)then(bif(a3==a11)then(bif(a4==a12)then(bif(a5==a13)then((fu a6 a14).bind λ(x0,_)=>
bif x0 then((fu a7 a15).bind λ(x1,_)=>
some (x1,()))else
some (false,()))else
some (false,()))else
some (false,()))else
some (false,()))else
some (false,()))else
some (false,()))else
some (false,())
def zj:X.Cfg:=⟨E0,[l8],[],[]⟩
def nZ:Ctr:=⟨35,116,[.agg uac,.agg uac],[],[⟨uab,[.one],[]⟩],ap16 fU⟩
theorem rV:Lk 2 nZ:=ls zj (aC rK aN)
def gY(a0:Int)(a1:Int)(a2:Int)(a3:Int)(a4:LDCn)(a5:Int)(a6:Bool):Option (Bool×Unit):=
let x0:Bool:=((a0==0)&&((a1==0)&&((a2==0)&&((a3==0)&&true))));
bif x0 then(let x1:Int:=(dO a4.length);
bif(x1==0)then(bif(a5==0)then(some ((!a6),()))else
some (false,()))else
some (false,()))else
some (false,())
def wH:X.Cfg:=⟨E0,[],[],[]⟩
def pS:Ctr:=⟨36,117,[.agg Xad],[],[⟨uab,[.one],[]⟩],ap7 gY⟩
theorem wE:Lk 1 pS:=ls wH aN
def hU(a0:Int)(a1:Int)(a2:Int)(a3:Int)(a4:LDCn)(a5:Int)(a6:Bool):Option (Bool×Unit):=
(g8 a0 a1 a2 a3).bind λ(x0,_)=>
bif x0 then((gE a4 16).bind λ(x1,_)=>
bif x1 then(bif(decide (a5>=(-1)))then(some ((decide (a5<4)),()))else
some (false,()))else
some (false,()))else
some (false,())
def zA:X.Cfg:=⟨E0,[n5,nb],[],[]⟩
def si:Ctr:=⟨37,118,[.agg Xad],[],[⟨uab,[.one],[]⟩],ap7 hU⟩
theorem zg:Lk 6 si:=ls zA (aC rW (aC qF aN))
def eZ(a0:Int)(a1:Int)(a2:Int)(a3:Int)(a4:Int)(a5:Int)(a6:Int)(a7:Int)(a8:Int)(a9:LDCn)(a10:LDCn)(a11:Int)(a12:Int)(a13:Int)(a14:Int)(a15:LDCn)(a16:Int)(a17:Bool):Option (Bool×Unit):=
bif(decide (a1<0))then(some (false,()))else
bif(decide (a1>=4))then(some (false,()))else
(iv a3 a4 a5 a6 a7 a8 a9 a10).bind λ(x0,_)=>
bif x0 then((fU a3 a4 a5 a6 a7 a8 a9 a10 0 0 0 0 0 0 [] []).bind λ(x1,_)=>
bif(a0==1)then(bif(decide (a2>=1))then(bif(decide (a2<=64))then(bif(a3==a1)then(bif(a4 != 3)then((gY a11 a12 a13 a14 a15 a16 a17).bind λ(x2,_)=>
some (x2,()))else
some (false,()))else
some (false,()))else
some (false,()))else
some (false,()))else
bif(a0==2)then(bif(a2==0)then(bif(a3==a1)then(bif(a4==1)then((hU a11 a12 a13 a14 a15 a16 a17).bind λ(x2,_)=>
some (x2,()))else
some (false,()))else
some (false,()))else
some (false,()))else
bif(a0==3)then(bif(a2==0)then(bif x1 then((gY a11 a12 a13 a14 a15 a16 a17).bind λ(x2,_)=>
some (x2,()))else
some (false,()))else
some (false,()))else
bif(a0==4)then(bif(a2==0)then(bif x1 then((hU a11 a12 a13 a14 a15 a16 a17).bind λ(x2,_)=>
bif x2 then(bif(a16==(-1))then(bif(!a17)then(let x3:Int:=(dO a15.length);
some ((x3==0),()))else
some (false,()))else
some (false,()))else
some (false,()))else
some (false,()))else
some (false,()))else
some (false,()))else
(fU a3 a4 a5 a6 a7 a8 a9 a10 0 0 0 0 0 0 [] []).bind λ(x1,_)=>
bif(a0==1)then(bif(decide (a2>=1))then(bif(decide (a2<=64))then(some (false,()))else
some (false,()))else
some (false,()))else
bif(a0==2)then(bif(a2==0)then(some (false,()))else
some (false,()))else
bif(a0==3)then(bif(a2==0)then(bif x1 then((gY a11 a12 a13 a14 a15 a16 a17).bind λ(x2,_)=>
some (x2,()))else
some (false,()))else
some (false,()))else
bif(a0==4)then(bif(a2==0)then(bif x1 then((hU a11 a12 a13 a14 a15 a16 a17).bind λ(x2,_)=>
bif x2 then(bif(a16==(-1))then(bif(!a17)then(let x3:Int:=(dO a15.length);
some ((x3==0),()))else
some (false,()))else
some (false,()))else
some (false,()))else
some (false,()))else
some (false,()))else
some (false,())
def zy:X.Cfg:=⟨E0,[na,nZ,pS,si],[],[]⟩
def lz:Ctr:=⟨16,119,[.agg Zag],[],[⟨uab,[.one],[]⟩],ap18 eZ⟩
theorem nY:Lk 7 lz:=ls zy (aC qD (aC rV (aC wE (aC zg aN))))
def i3(a0:Int)(a1:Int)(a2:Int)(a3:Int)(a4:Int)(a5:Int)(a6:Int)(a7:Int)(a8:Int)(a9:LDCn)(a10:LDCn)(a11:Int)(a12:Int)(a13:Int)(a14:Int)(a15:LDCn)(a16:Int)(a17:Bool):Option (Bool×Unit):=
(eZ a0 a1 a2 a3 a4 a5 a6 a7 a8 a9 a10 a11 a12 a13 a14 a15 a16 a17).bind λ(x0,_)=>
some ((!x0),())
def u4:X.Cfg:=⟨E0,[lz],[],[]⟩
def oH:Ctr:=⟨43,120,[.agg Zag],[],[⟨uab,[.one],[]⟩],ap18 i3⟩
theorem uV:Lk 8 oH:=ls u4 (aC nY aN)
def fY:T0i->Option (T0i⊕((Int×Unit)⊕T0y)):=λ(v0,v1,v2,_)=>
bif(decide (v2<v1))then((d9 v2).bind λx0=>
(dJ v0 x0).bind λx1=>
(i3 x1.1 x1.2.1 x1.2.2.1 x1.2.2.2.1 x1.2.2.2.2.1 x1.2.2.2.2.2.1 x1.2.2.2.2.2.2.1 x1.2.2.2.2.2.2.2.1 x1.2.2.2.2.2.2.2.2.1 x1.2.2.2.2.2.2.2.2.2.1 x1.2.2.2.2.2.2.2.2.2.2.1 x1.2.2.2.2.2.2.2.2.2.2.2.1 x1.2.2.2.2.2.2.2.2.2.2.2.2.1 x1.2.2.2.2.2.2.2.2.2.2.2.2.2.1 x1.2.2.2.2.2.2.2.2.2.2.2.2.2.2.1 x1.2.2.2.2.2.2.2.2.2.2.2.2.2.2.2.1 x1.2.2.2.2.2.2.2.2.2.2.2.2.2.2.2.2.1 x1.2.2.2.2.2.2.2.2.2.2.2.2.2.2.2.2.2).bind λ(x2,_)=>
bif x2 then(some (.inr (.inl (v2,()))))else
let x3:=w64 (v2+1);
some (.inl (v0,v1,x3,())))else
some (.inr (.inr (v0,v1,v2,false,())))
def fG(a0:LDEn):Option (Int×Unit):=
let x0:=dO a0.length;
(match dX fY NN (a0,x0,0,())with
|none=>none
|some (.inl (x1,_))=>
some (x1,())
|some (.inr (x1,_))=>
some ((-1),()))
def oz:X.Cfg:=⟨E0,[oH],[],[⟨3,0,(qS [sP 0 xe,(1,.fn 43 []),Uaa 7,Uaa 8] []),[(.ret,qS [Uaa 4] []),(.exit 0,(qS [sP 0 xe,(1,.fn 43 []),Uaa 7,Uaa 8,Xaa 9] []))]⟩]⟩
def jO:Ctr:=⟨71,121,[shU xe,.fn 43 []],[],[⟨Xac,[.one],[]⟩],ap1 fG⟩
theorem ot:Lk 9 jO:=ls oz (aC uV aN)
def fr(a0:LDEn):Option (Bool×Unit):=
(fG a0).bind λ(x0,_)=>
some ((decide (x0>=0)),())
def m0:X.Cfg:=⟨E0,[jO],[],[]⟩
def iL:Ctr:=⟨42,122,[shU xe,.fn 43 []],[],[⟨uab,[.one],[]⟩],ap1 fr⟩
theorem mY:Lk 10 iL:=ls m0 (aC ot aN)
def iZ(a0:Int):Option (Bool×Unit):=
bif(a0==1)then(some (true,()))else
some ((a0==2),())
def BS:X.Cfg:=⟨E0,[],[],[]⟩
def uo:Ctr:=⟨72,123,Xac,[],[⟨uab,[.one],[]⟩],ap1 iZ⟩
theorem Bd:Lk 1 uo:=ls BS aN
def jf:T0e->Option (T0e⊕T0p):=λ(v0,v1,v2,_)=>
bif(decide (v0>=0))then(let x0:Int:=(w64 (8*v0));
(d9 x0).bind λx1=>
let x2:Int:=(shR .shr .i64 v1 x1);
let x3:=wk .u8 x2;
bif(dV 1 v2.length (List.length [x3]))then let x4:List (Int):=(List.append v2 [x3]);
let x5:=w64 (v0-1);
some (.inl (x5,v1,x4,()))else none)else
some (.inr (v0,v1,false,v2,()))
def fL(a0:Int)(a1:Int)(a2:List (Int)):Option (LI×Unit):=
let x0:=w64 (a0-1);
(dX jf NN (x0,a1,a2,())).bind λ(x1,x2,x3,x4,_)=>
some (x4,())
def Ff:X.Cfg:=⟨E0,[],[],[(lx 3 0 [Zaa 0 3,Uaa 1,Uaa 2] [(3,uaf)] 10)]⟩
def pB:Ctr:=⟨74,124,[.pk ⟨3,0,[]⟩ [0,0],shU I64,shU I64],[(3,uaf)],[⟨uaf,[.one],[(3,[])]⟩],ap3 fL⟩
theorem sC:Lk 1 pB:=ls Ff aN
def iI(a0:Int)(a1:Int)(a2:Int)(a3:Int)(a4:List (Int)):Option (LI×Unit):=
bif(a0==1)then(let x0:Int:=(w64 (a2+1));
let x1:=wk .u8 x0;
let x2:List (Int):=[a0,x1];
bif(dV 1 a4.length x2.length)then let x3:List (Int):=(List.append a4 x2);
(fL 2 a3 x3).bind λ(x4,_)=>
some (x4,())else none)else
let x0:List (Int):=[a0,0];
bif(dV 1 a4.length x0.length)then let x1:List (Int):=(List.append a4 x0);
let x2:=wk .i64 a1;
(fL 2 x2 x1).bind λ(x3,_)=>
some (x3,())else none
def DP:X.Cfg:=⟨E0,[pB],[],[]⟩
def ri:Ctr:=⟨76,125,[.pk ⟨3,0,[]⟩ [0,0],.agg Uaf],[(3,uaf)],[⟨uaf,[.one],[(3,[])]⟩],ap5 iI⟩
theorem vF:Lk 2 ri:=ls DP (aC sC aN)
def mT:LDCn×T0e->Option ((LDCn×T0e)⊕(LDCn×T0p)):=λ(v0,v1,v2,v3,_)=>
bif(decide (v2<v1))then((d9 v2).bind λx0=>
(dJ v0 x0).bind λx1=>
(iI x1.1 x1.2.1 x1.2.2.1 x1.2.2.2 v3).bind λ(x2,_)=>
let x3:=w64 (v2+1);
some (.inl (v0,v1,x3,x2,())))else
some (.inr (v0,v1,v2,false,v3,()))
def gP(a0:LDCn)(a1:List (Int)):Option (LI×Unit):=
let x0:=dO a0.length;
let x1:=wk .u8 x0;
bif(dV 1 a1.length (List.length [x1]))then let x2:List (Int):=(List.append a1 [x1]);
let x3:=dO a0.length;
(dX mT NN (a0,x3,0,x2,())).bind λ(x4,x5,x6,x7,x8,_)=>
some (x8,())else none
def DO:X.Cfg:=⟨E0,[ri],[],[(lx 4 0 [Zaa 0 3,sP 13 d7,Uaa 14,Uaa 15] [(3,uaf)] 16)]⟩
def rh:Ctr:=⟨77,126,[.pk ⟨3,0,[]⟩ [0,0],shU d7],[(3,uaf)],[⟨uaf,[.one],[(3,[])]⟩],ap2 gP⟩
theorem vE:Lk 3 rh:=ls DO (aC vF aN)
def gG(a0:Int)(a1:Int)(a2:Int)(a3:Int)(a4:Int)(a5:Int)(a6:LDCn)(a7:LDCn):Option (T07):=
(iv a0 a1 a2 a3 a4 a5 a6 a7).bind λ(x0,_)=>
bif(!x0)then(some ([],1,()))else
let x1:=wk .u8 a0;
let x2:=wk .u8 a1;
let x3:=wk .u8 a2;
let x4:List (Int):=[x1,x2,x3];
(fL 6 a3 x4).bind λ(x5,_)=>
let x6:=wk .u8 a4;
let x7:=wk .u8 a5;
let x8:List (Int):=[x6,x7];
bif(dV 1 x5.length x8.length)then let x9:List (Int):=(List.append x5 x8);
(gP a6 x9).bind λ(ac,_)=>
(gP a7 ac).bind λ(ae,_)=>
some (ae,0,())else none
def u5:X.Cfg:=⟨E0,[na,pB,rh],[],[]⟩
def ld:Ctr:=⟨73,127,[.agg uac],[],[⟨uL [(uaa CB),I64],[.one,.one],[]⟩],ap8 gG⟩
theorem oy:Lk 7 ld:=ls u5 (aC qD (aC sC (aC vE aN)))
def eI(a0:Int):Option (Bool×Unit):=
bif(a0==2)then(some (true,()))else
some ((a0==4),())
def wK:X.Cfg:=⟨E0,[],[],[]⟩
def lW:Ctr:=⟨75,128,Xac,[],[⟨uab,[.one],[]⟩],ap1 eI⟩
theorem pR:Lk 1 lW:=ls wK aN
def fj(a0:Int)(a1:Int)(a2:Int)(a3:Int)(a4:Int)(a5:Int)(a6:Int)(a7:Int)(a8:Int)(a9:LDCn)(a10:LDCn)(a11:Int)(a12:Int)(a13:Int)(a14:Int)(a15:LDCn)(a16:Int)(a17:Bool)(a18:List (Int)):Option (LI×Unit):=
(iZ a0).bind λ(x0,_)=>
bif x0 then((gG a3 a4 a5 a6 a7 a8 a9 a10).bind λ(x1,x2,_)=>
let x3:=wk .u8 a0;
let x4:=wk .u8 a1;
let x5:=wk .u8 a2;
let x6:List (Int):=[x3,x4,x5];
bif(dV 1 a18.length x6.length)then let x7:List (Int):=(List.append a18 x6);
let x8:=dO x1.length;
(fL 2 x8 x7).bind λ(x9,_)=>
bif(dV 1 x9.length x1.length)then let ac:List (Int):=(List.append x9 x1);
(eI a0).bind λ(ae,_)=>
bif(!ae)then(some (ac,()))else
(iI a11 a12 a13 a14 ac).bind λ(af,_)=>
let ag:=w64 (a16+1);
let ah:=wk .u8 ag;
bif(dV 1 af.length (List.length [ah]))then let ai:List (Int):=(List.append af [ah]);
(bif a17 then(bif(dV 1 ai.length (List.length [1]))then let aj:List (Int):=(List.append ai [1]);
some (aj,a0,a1,a2,a3,a4,a5,a6,a7,a8,a9,a10,a11,a12,a13,a14,a15,a16,a17,())else none)else
bif(dV 1 ai.length (List.length [0]))then let aj:List (Int):=(List.append ai [0]);
some (aj,a0,a1,a2,a3,a4,a5,a6,a7,a8,a9,a10,a11,a12,a13,a14,a15,a16,a17,())else none:Option (T2s)).bind λ(aj,ak,am,an,ap,aq,av,ax,ay,az,aA,aB,aD,aE,aF,aG,aH,_)=>
(gP aH aj).bind λ(aK,_)=>
some (aK,())else none else none else none)else
let x1:=wk .u8 a0;
let x2:=wk .u8 a1;
let x3:=wk .u8 a2;
let x4:List (Int):=[x1,x2,x3];
bif(dV 1 a18.length x4.length)then let x5:List (Int):=(List.append a18 x4);
(fL 2 0 x5).bind λ(x6,_)=>
bif(dV 1 x6.length 0)then(eI a0).bind λ(x7,_)=>
bif(!x7)then(some (x6,()))else
(iI a11 a12 a13 a14 x6).bind λ(x8,_)=>
let x9:=w64 (a16+1);
let ac:=wk .u8 x9;
bif(dV 1 x8.length (List.length [ac]))then let ae:List (Int):=(List.append x8 [ac]);
(bif a17 then(bif(dV 1 ae.length (List.length [1]))then let af:List (Int):=(List.append ae [1]);
some (af,a0,a1,a2,a3,a4,a5,a6,a7,a8,a9,a10,a11,a12,a13,a14,a15,a16,a17,())else none)else
bif(dV 1 ae.length (List.length [0]))then let af:List (Int):=(List.append ae [0]);
some (af,a0,a1,a2,a3,a4,a5,a6,a7,a8,a9,a10,a11,a12,a13,a14,a15,a16,a17,())else none:Option (T2s)).bind λ(af,ag,ah,ai,aj,ak,am,an,ap,aq,av,ax,ay,az,aA,aB,aD,aE,aF,_)=>
(gP aD af).bind λ(aG,_)=>
some (aG,())else none else none else none
def zx:X.Cfg:=⟨E0,[uo,ld,pB,lW,ri,rh],[],[⟨10,0,qE,[(.normal,qS [Zaa 0 3,zaa 3] [(3,uaf),(8,Zag)])]⟩]⟩
def sg:Ctr:=⟨44,129,[.pk ⟨3,0,[]⟩ [0,0],.agg Zag],[(3,uaf)],[⟨uaf,[.one],[(3,[])]⟩],ap19 fj⟩
theorem zf:Lk 8 sg:=ls zx (aC Bd (aC oy (aC sC (aC pR (aC vF (aC vE aN))))))
def kj:LDEn×T0e->Option ((LDEn×T0e)⊕(LDEn×T0p)):=λ(v0,v1,v2,v3,_)=>
bif(decide (v2<v1))then((d9 v2).bind λx0=>
(dJ v0 x0).bind λx1=>
(fj x1.1 x1.2.1 x1.2.2.1 x1.2.2.2.1 x1.2.2.2.2.1 x1.2.2.2.2.2.1 x1.2.2.2.2.2.2.1 x1.2.2.2.2.2.2.2.1 x1.2.2.2.2.2.2.2.2.1 x1.2.2.2.2.2.2.2.2.2.1 x1.2.2.2.2.2.2.2.2.2.2.1 x1.2.2.2.2.2.2.2.2.2.2.2.1 x1.2.2.2.2.2.2.2.2.2.2.2.2.1 x1.2.2.2.2.2.2.2.2.2.2.2.2.2.1 x1.2.2.2.2.2.2.2.2.2.2.2.2.2.2.1 x1.2.2.2.2.2.2.2.2.2.2.2.2.2.2.2.1 x1.2.2.2.2.2.2.2.2.2.2.2.2.2.2.2.2.1 x1.2.2.2.2.2.2.2.2.2.2.2.2.2.2.2.2.2 v3).bind λ(x2,_)=>
let x3:=w64 (v2+1);
some (.inl (v0,v1,x3,x2,())))else
some (.inr (v0,v1,v2,false,v3,()))
def fk(a0:LDEn):Option (T07):=
(fr a0).bind λ(x0,_)=>
bif x0 then(some ([],1,()))else
let x1:=dO a0.length;
bif(decide (x1>200))then(some ([],3,()))else
let x2:=dO a0.length;
(dX kj NN (a0,x2,0,[],())).bind λ(x3,x4,x5,x6,x7,_)=>
some (x7,0,())
def yg:X.Cfg:=⟨E0,[iL,sg],[],[(lx 10 0 [Zaa 4 11,sP 12 xe,Uaa 13,Uaa 14] [(11,uaf)] 15)]⟩
def iP:Ctr:=⟨18,130,uL [xe],[],[⟨uL [(uaa CB),I64],[.one,.one],[]⟩],ap1 fk⟩
theorem kH:Lk 11 iP:=ls yg (aC mY (aC zf aN))
def eS(a0:Int)(a1:List (Int))(a2:Bool):Option (LI×T06):=
bif a2 then(some ([],a1,true,()))else
let x0:=dO a1.length;
bif(decide (a0>x0))then(some ([],a1,true,()))else
(d9 a0).bind λx1=>
bif(gi 0 x1 a1.length)then let x2:List (Int):=(lO a1 0 (Nat.sub x1 0));
(d9 a0).bind λx3=>
bif(gi x3 a1.length a1.length)then let x4:List (Int):=(lO a1 x3 (Nat.sub a1.length x3));
some (x2,x4,a2,())else none else none
def pZ:X.Cfg:=⟨E0,[],[],[]⟩
def ic:Ctr:=⟨101,131,[.ptr ⟨2,0,[]⟩ [0],shU I64],[(2,Zae)],[⟨Zai,[.one],[(2,Zae)]⟩],ap3 eS⟩
theorem kT:Lk 1 ic:=ls pZ aN
def f9:Int×LI×T0s->Option ((Int×LI×T0s)⊕(Int×LI×Int×Int×Bool×T06)):=λ(v0,v1,v2,v3,v4)=>
bif(decide (v3<v2))then((d9 v3).bind λx0=>
(dJ v1 x0).bind λx1=>
let x2:Int:=(shR .shl .i64 v0 8);
let x3:=wk .i64 x1;
let x4:Int:=(arR .or .i64 x2 x3);
let x5:=w64 (v3+1);
some (.inl (x4,v1,v2,x5,v4)))else
some (.inr (v0,v1,v2,v3,false,v4))
def dI(a0:Int)(a1:List (Int))(a2:Bool):Option (T0f):=
(eS a0 a1 a2).bind λ(x0,x1)=>
let x3:=dO x0.length;
(dX f9 NN (0,x0,x3,0,x1)).bind λ(x4,x5,x6,x7,x8,x9)=>
some (x4,x9)
def oB:X.Cfg:=⟨E0,[ic],[],[(lx 4 0 [zaa 0,Uaa 5,sP 10 (yaa CB),Uaa 11,Uaa 12] [(2,Zae)] 13)]⟩
def fm:Ctr:=⟨100,132,[.ptr ⟨2,0,[]⟩ [0],shU I64],[(2,Zae)],[⟨Xac,[.one],[(2,Zae)]⟩],ap3 dI⟩
theorem fJ:Lk 2 fm:=ls oB (aC kT aN)
def fb(a0:List (Int))(a1:Bool):Option (Int×Int×T0s):=
(dI 1 a0 a1).bind λ(x0,x1,x2,_)=>
let x3:=wk .u8 x0;
(dI 1 x1 x2).bind λ(x4,x5,x6,_)=>
(dI 2 x5 x6).bind λ(x7,x8)=>
bif(x3==1)then(let ac:Int:=(w64 (x4-1));
some (x3,0,ac,x7,x8))else
let ac:=wk .u16 x7;
some (x3,ac,x4,0,x8)
def p6:X.Cfg:=⟨E0,[fm],[],[]⟩
def ig:Ctr:=⟨103,133,[.ptr ⟨2,0,[]⟩ [0]],[(2,Zae)],[⟨Uaf,[.agg 4],[(2,Zae)]⟩],ap2 fb⟩
theorem kV:Lk 3 ig:=ls p6 (aC fJ aN)
def gp:Int×LI×Bool×LDCn×Unit->Option ((Int×LI×Bool×LDCn×Unit)⊕(Int×Bool×LI×Bool×LDCn×Unit)):=λ(v0,v1,v2,v3,_)=>
bif(decide (v0>0))then(bif(!v2)then((fb v1 v2).bind λ(x0,x1,x2,x3,x4,x5,_)=>
let x6:LDCn:=[(x0,(x1,(x2,x3)))];
bif(dV 24 v3.length x6.length)then let x7:LDCn:=(List.append v3 x6);
let x8:=w64 (v0-1);
some (.inl (x8,x4,x5,x7,()))else none)else
some (.inr (v0,false,v1,v2,v3,())))else
some (.inr (v0,false,v1,v2,v3,()))
def eU(a0:List (Int))(a1:Bool):Option (LDCn×T06):=
(dI 1 a0 a1).bind λ(x0,x1,x2,_)=>
(dX gp NN (x0,x1,x2,[],())).bind λ(x3,x4,x5,x6,x7,_)=>
some (x7,x5,x6,())
def p5:X.Cfg:=⟨E0,[fm,ig],[],[(lx 4 0 [zaa 0,Zaa 3 9,Uaa 4] [(2,Zae),(9,Uag)] 15)]⟩
def ie:Ctr:=⟨104,134,[.ptr ⟨2,0,[]⟩ [0]],[(2,Zae)],[⟨Uag,[.one],[(2,Zae)]⟩],ap2 eU⟩
theorem kU:Lk 4 ie:=ls p5 (aC fJ (aC kV aN))
def kt(a0:List (Int))(a1:List (Int)):Option (Bool×Unit):=
let x0:ByteArray:=(lX a0);
let x1:ByteArray:=(lX a1);
some ((Ix x0 x1),())
def BU:X.Cfg:=⟨E0,[],[],[]⟩
def pC:Ctr:=⟨60,135,uL [(yaa CB),(yaa CB)],[],[⟨uab,[.one],[]⟩],ap2 kt⟩
theorem tM:Lk 1 pC:=ls BU aN
def jx(a0:List (Int)):Option (T1A):=
(dI 1 a0 false).bind λ(x0,x1,x2,_)=>
(dI 1 x1 x2).bind λ(x3,x4,x5,_)=>
(dI 1 x4 x5).bind λ(x6,x7,x8,_)=>
(dI 6 x7 x8).bind λ(x9,ac,ae,_)=>
(dI 1 ac ae).bind λ(af,ag,ah,_)=>
(dI 1 ag ah).bind λ(ai,aj,ak,_)=>
(eU aj ak).bind λ(am,an,ap,_)=>
(eU an ap).bind λ(aq,av,ax,_)=>
bif ax then(some (0,0,0,0,0,0,[],[],4,()))else
(gG x0 x3 x6 x9 af ai am aq).bind λ(ay,az,_)=>
(let aA:=dO av.length;
bif(decide (aA>0))then(some (true,0,0,0,0,0,0,(),(),x0,x3,x6,x9,af,ai,am,aq,()))else
bif(az != 0)then(some (true,0,0,0,0,0,0,(),(),x0,x3,x6,x9,af,ai,am,aq,()))else
(kt ay a0).bind λ(aB,_)=>
some ((!aB),0,0,0,0,0,0,(),(),x0,x3,x6,x9,af,ai,am,aq,()):Option (Bool×Int×Int×Int×Int×Int×Int×Unit×Unit×T1m)).bind λ(aA,aB,aD,aE,aF,aG,aH,aI,aJ,aK,aL,aM,aO,aP,aQ,aR,aS,_)=>
bif aA then(some (0,0,0,0,0,0,[],[],5,()))else
some (aK,aL,aM,aO,aP,aQ,aR,aS,0,())
def wL:X.Cfg:=⟨E0,[fm,ie,ld,pC],[],[⟨10,0,qE,[(.normal,qS [zaa 2,zaa 5,Xaa 55] [(6,yaf),(12,uac)])]⟩]⟩
def pU:Ctr:=⟨102,136,Zai,[],[⟨uL [I64,I64,I64,I64,I64,I64,d7,d7,I64],[.agg 8,.one],[]⟩],ap1 jx⟩
theorem wG:Lk 8 pU:=ls wL (aC fJ (aC kU (aC oy (aC tM aN))))
def gT(a0:List (Int))(a1:Bool):Option (Int×Int×Int×Int×Int×Int×Int×Int×Int×LDCn×LDCn×Int×Int×Int×Int×LDCn×Int×Bool×Bool×T06):=
(dI 1 a0 a1).bind λ(x0,x1,x2,_)=>
(dI 1 x1 x2).bind λ(x3,x4,x5,_)=>
(dI 1 x4 x5).bind λ(x6,x7,x8,_)=>
(dI 2 x7 x8).bind λ(x9,ac,ae,_)=>
(eS x9 ac ae).bind λ(af,ag,ah,_)=>
let ai:=dO af.length;
bif(decide (ai>0))then((jx af).bind λ(aj,ak,am,an,ap,aq,av,ax,ay,_)=>
(eI x0).bind λ(az,_)=>
bif az then((fb ag ah).bind λ(aA,aB,aD,aE,aF,aG,_)=>
(dI 1 aF aG).bind λ(aH,aI,aJ,_)=>
let aK:=w64 (aH-1);
(dI 1 aI aJ).bind λ(aL,aM,aO,_)=>
(eU aM aO).bind λ(aP,aQ)=>
some (x0,x3,x6,aj,ak,am,an,ap,aq,av,ax,aA,aB,aD,aE,aP,aK,(aL==1),(ay==0),aQ))else
some (x0,x3,x6,aj,ak,am,an,ap,aq,av,ax,0,0,0,0,[],0,false,(ay==0),ag,ah,()))else
(eI x0).bind λ(aj,_)=>
bif aj then((fb ag ah).bind λ(ak,am,an,ap,aq,av,_)=>
(dI 1 aq av).bind λ(ax,ay,az,_)=>
let aA:=w64 (ax-1);
(dI 1 ay az).bind λ(aB,aD,aE,_)=>
(eU aD aE).bind λ(aF,aG,aH,_)=>
some (x0,x3,x6,0,0,0,0,0,0,[],[],ak,am,an,ap,aF,aA,(aB==1),true,aG,aH,()))else
some (x0,x3,x6,0,0,0,0,0,0,[],[],0,0,0,0,[],0,false,true,ag,ah,())
def BR:X.Cfg:=⟨E0,[fm,ic,pU,lW,ig,ie],[],[]⟩
def um:Ctr:=⟨59,137,[.ptr ⟨2,0,[]⟩ [0]],[(2,Zae)],[⟨uL [I64,I64,I64,I64,I64,I64,I64,I64,I64,d7,d7,CB,CW,I64,I64,(uaa KCn),I64,.bool,.bool],[.agg 18,.one],[(2,Zae)]⟩],ap2 gT⟩
theorem Bc:Lk 9 um:=ls BR (aC fJ (aC kT (aC wG (aC pR (aC kV (aC kU aN))))))
def km:LI×T0n->Option ((LI×T0n)⊕(LI×Bool×T0n)):=λ(v0,v1,v2,v3,v4,_)=>
let x0:=dO v3.length;
bif(decide (x0>0))then(bif(!v4)then((gT v3 v4).bind λ(x1,x2,x3,x4,x5,x6,x7,x8,x9,ac,ae,af,ag,ah,ai,aj,ak,am,an,ap)=>
bif v1 then(let av:LDEn:=[(x1,(x2,(x3,(x4,(x5,(x6,(x7,(x8,(x9,(ac,(ae,(af,(ag,(ah,(ai,(aj,(ak,am)))))))))))))))))];
bif(dV 184 v2.length av.length)then let ax:LDEn:=(List.append v2 av);
some (.inl (v0,an,ax,ap))else none)else
let av:LDEn:=[(x1,(x2,(x3,(x4,(x5,(x6,(x7,(x8,(x9,(ac,(ae,(af,(ag,(ah,(ai,(aj,(ak,am)))))))))))))))))];
bif(dV 184 v2.length av.length)then let ax:LDEn:=(List.append v2 av);
some (.inl (v0,false,ax,ap))else none)else
some (.inr (v0,v1,false,v2,v3,v4,())))else
some (.inr (v0,v1,false,v2,v3,v4,()))
def iG(a0:List (Int)):Option (LDEn×Int×Unit):=
let x0:=dO a0.length;
bif(decide (x0>65536))then(some ([],3,()))else
(dX km NN (a0,true,[],a0,false,())).bind λ(x1,x2,x3,x4,x5,x6,_)=>
bif x6 then(some ([],4,()))else
(fk x4).bind λ(x7,x8,_)=>
(bif(!x2)then(some (x4,true,x4,()))else
bif(x8 != 0)then(some (x4,true,x4,()))else
(kt x7 x1).bind λ(x9,_)=>
some (x4,(!x9),x4,()):Option (LDEn×Bool×LDEn×Unit)).bind λ(x9,ac,ae,_)=>
bif ac then(some ([],5,()))else
some (x9,0,())
def yh:X.Cfg:=⟨E0,[um,iP,pC],[(41,FO),(42,FO)],[(lx 8 0 [sP 0 (yaa CB),pP 4 34,Zaa 5 13,Xaa 6] [(13,[shU (uaa (.pair I64 (.pair I64 (.pair I64 (.pair I64 (.pair I64 (.pair I64 (.pair I64 (.pair I64 (.pair I64 (.pair d7 (.pair d7 (.pair CB (.pair CW (.pair I64 (.pair I64 (.pair (uaa KCn) (.pair I64 .bool))))))))))))))))))]),(34,Zae)] 29),⟨18,1,qE,[(.normal,(qS [sP 5 xe,Xaa 63] [(13,uL [xe])]))]⟩]⟩
def nc:Ctr:=⟨27,138,Zai,[],[⟨uL [xe,I64],[.one,.one],[]⟩],ap1 iG⟩
theorem qI:Lk 12 nc:=ls yh (aC Bc (aC kH (aC tM aN)))
def i8:T0x->Option (T0x⊕((Bool×Unit)⊕(LDCn×T0w))):=λ(v0,v1,v2,v3,_)=>
bif(decide (v3<v2))then((d9 v3).bind λx0=>
(dJ v0 x0).bind λx1=>
(d9 v3).bind λx2=>
(dJ v1 x2).bind λx3=>
let x4:Bool:=(!((x1.1==x3.1)&&((x1.2.1==x3.2.1)&&((x1.2.2.1==x3.2.2.1)&&((x1.2.2.2==x3.2.2.2)&&true)))));
bif x4 then(some (.inr (.inl (false,()))))else
let x5:=w64 (v3+1);
some (.inl (v0,v1,v2,x5,())))else
some (.inr (.inr (v0,v1,v2,v3,false,())))
def fX(a0:LDCn)(a1:LDCn):Option (Bool×Unit):=
let x0:=dO a0.length;
let x1:=dO a1.length;
bif(x0 != x1)then(some (false,()))else
let x2:=dO a0.length;
(match dX i8 NN (a0,a1,x2,0,())with
|none=>none
|some (.inl (x3,_))=>
some (x3,())
|some (.inr (x3,_))=>
some (true,()))
def uZ:X.Cfg:=⟨E0,[],[],[⟨6,0,qS [sP 0 d7,sP 1 d7,Uaa 12,Uaa 13] [],[(.ret,qS [Xaa 4] []),(.exit 0,qS [sP 0 d7,sP 1 d7,Uaa 12,Uaa 13,Xaa 14] [])]⟩]⟩
def lc:Ctr:=⟨57,139,uL [d7,d7],[],[⟨uab,[.one],[]⟩],ap2 fX⟩
theorem ox:Lk 1 lc:=ls uZ aN
end
end Go.Proofs.YtoldehogdgdhmaaGreat
