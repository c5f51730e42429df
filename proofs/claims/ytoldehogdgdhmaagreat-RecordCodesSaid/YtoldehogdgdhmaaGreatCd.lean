/- Part of the proof; no condition. -/
import Derived.Test.YtoldehogdgdhmaaGreatCc
import Derived.Test.YtoldehogdgdhmaaGreatProg
import Derived.KernelRfl
set_option linter.unusedVariables false
set_option linter.unusedSimpArgs false
namespace Go.Proofs.YtoldehogdgdhmaaGreat
open Go.RowKit
section
variable {α β γ δ Y:Type}
theorem MD(x:Option Nat×Opd):Sim (Y:=Y) (X.argV dN x) (argV x) er:=by
 refine dS λt=>?_
 have VU:∀t:XV den,Sim (Y:=Y) (X.bind (X.takeV dN false t) λl=>X.bind (X.optM dN (X.immXL dN l.1)) λl'=>X.ret (X.shapedX l.2 l')) ((takeV false (er t)).bind λl=>.ret (ql l.2 (l.1.map TV.imm))) er:=λt=>
  (qR false t).bind λl=>Sim.opt λl' hl=>.ret (by rw[AH,B8 hl])
 have nil:∀{s:SP TV}(t:CT)(y:den (.row true t)),Sim (Y:=Y) (X.bind (X.takeV dN false (.d (.row true t) y)) λl=>X.bind (X.optM dN (X.immXL dN l.1)) λl'=>X.ret (X.shapedX l.2 l')) s er:=λt y σ k o hk=>by cases hk
 refine Sim.ite (λh=>?_) λh=>?_
 ·have h2:(x.1==some 0&&Ra (er t))=true:=by
   simp only[oBA]at h⊢;refine⟨h.1,?_⟩;have h3:=h.2
   cases t with
   |pk p vs=>rfl
   |d t y=>cases t with
    |nilr o=>cases o with
     |true=>rfl
     |false=>simp[X.isNmX]at h3
    |_=>simp[X.isNmX]at h3
   |_=>simp[X.isNmX]at h3
  rw[oIP h2]
  have h3:X.isNmX t=true:=by
   simp only[oBA]at h;exact h.2
  cases t with
  |pk p vs=>exact .ret rfl
  |d t y=>cases t with
   |nilr o=>cases o with
    |true=>exact(qT 1000000 [.d (.nilr true) y]).bind λl=>.ret (by cases l<;>rfl)
    |false=>simp[X.isNmX]at h3
   |_=>simp[X.isNmX]at h3
  |_=>simp[X.isNmX]at h3
 ·have keep:∀{s:SP TV},Ra (er t)=X.isNmX t->Rn (er t)=X.isPkX t->Sim (Y:=Y) (X.argV0 dN t) s er->Sim (Y:=Y) (if(x.1.isSome&&X.isPkX t)=true then X.ret t else X.argV0 dN t) (if(x.1==some 0&&Ra (er t))=true then AV (er t)else if(x.1.isSome&&Rn (er t))=true then .ret (er t)else s) er:=λhe hp hs=>by
   rw[he,oIN h,hp];split
   ·exact .ret rfl
   ·exact hs
  have nk:∀{t:XV den}{s:SP TV},X.isPkX t=false->(∀ σ k (o:Y),X.argV0 dN t σ k≠some o)->Sim (Y:=Y) (if(x.1.isSome&&X.isPkX t)=true then X.ret t else X.argV0 dN t) s er:=λhp hn=>by
   rw[hp,Bool.and_false,oIN (by simp)];exact fun σ k o hk=>absurd hk (hn σ k o)
  cases t with
  |ip cs=>exact keep rfl rfl (.ret rfl)
  |fn f cap=>exact keep rfl rfl (.ret rfl)
  |ptr p vs=>exact keep rfl rfl (.ret rfl)
  |d t y=>cases t with
   |row o t=>cases o with
    |true=>exact nk rfl fun σ k o hk=>by cases hk
    |false=>exact keep rfl rfl (VU _)
   |nilr o=>cases o<;>exact keep rfl rfl (VU _)
   |nat=>exact nk rfl fun σ k o hk=>by cases hk
   |pair a b=>exact nk rfl fun σ k o hk=>by cases hk
   |_=>exact keep rfl rfl (VU _)
  |gap t y i o=>exact nk rfl fun σ k o hk=>by cases hk
  |_=>exact keep rfl rfl (VU _)
theorem Dt:∀l:List (Option Nat×Opd),Sim (Y:=Y) (X.argVs dN l) (argVs l) erL:=by
 intro l
 induction l with
 |nil=>exact .ret rfl
 |cons x r ih=>exact(MD x).bind λt=>ih.bind λl=>.ret rfl
theorem Do:∀(l:List (Option Nat×XV den))(i:Nat),Sim (Y:=Y) (X.takeOwns dN i l) (takeOwns i (l.map λx=>(x.1,er x.2))) (List.map λx=>(x.1,er x.2)):=by
 intro l
 induction l with
 |nil=>intro i;exact .ret rfl
 |cons x l ih=>
  intro i;have ⟨n,t⟩:=x
  cases n with
  |none=>cases t with
   |d t y=>cases t with
    |row o t=>cases o<;>exact ih (i+1)
    |nilr o=>cases o<;>exact ih (i+1)
    |nat=>exact ih (i+1)
    |pair a b=>exact ih (i+1)
    |_=>exact ih (i+1)
   |_=>exact ih (i+1)
  |some n=>cases n with
   |zero=>cases t with
    |pk p vs=>
     refine(gL true (.pk p vs)).bind λt=>Sim.ite (λh=>?_) λ_=>.fail;have ⟨c,hc⟩:=mS h
     have h2:m8 (er t)=true:=by rw[hc];rfl
     rw[oIP h2];exact(ih (i+1)).bind λq=>.ret rfl
    |d t y=>cases t with
     |row o t=>cases o<;>exact ih (i+1)
     |nilr o=>cases o<;>exact ih (i+1)
     |nat=>exact ih (i+1)
     |pair a b=>exact ih (i+1)
     |_=>exact ih (i+1)
    |_=>exact ih (i+1)
   |succ n=>cases t with
    |d t y=>cases t with
     |row o t=>cases o<;>exact ih (i+1)
     |nilr o=>cases o<;>exact ih (i+1)
     |nat=>exact ih (i+1)
     |pair a b=>exact ih (i+1)
     |_=>exact ih (i+1)
    |_=>exact ih (i+1)
theorem J5(r:Nat):∀(n o:Nat),Sim (Y:=Y) (X.grabB dN r o n) (EW ⟨r,o,[]⟩ n) erL:=by
 intro n
 induction n with
 |zero=>intro o;exact .ret rfl
 |succ n ih=>
  intro o
  cases n with
  |zero=>
   refine Sim.rdC λt=>(kN ⟨r,o,[]⟩ t).bind λt'=>(gL true t').bind λt2=>?_;exact(Sim.ret (f:=erL) rfl).bind (h:=λl=>.ret (er t2::l)) λl=>.ret rfl
  |succ n=>
   exact Sim.rdC λt=>(kN ⟨r,o,[]⟩ t).bind λt'=>(gL true t').bind λt2=>(ih (o+1)).bind λl=>.ret rfl
theorem In(p:XP den):Sim (Y:=Y) (X.rooted dN p) (rooted (erP p)) id:=by
 have ⟨r,off,hops⟩:=p
 cases hops with
 |nil=>exact .ret rfl
 |cons h hs=>
  refine Sim.rdT λt=>?_
  cases t with
  |ptr q ws=>
   refine Sim.ite (λhc=>?_) λ_=>.fail;show Sim _ (if(erP q).root==r&&(erP q).hops.isEmpty then chk (erP q) 0 ws else .fail) id
   have:((erP q).root==r&&(erP q).hops.isEmpty)=true:=by
    simpa[erP]using hc
   rw[oIP this];exact gy q 0 ws
  |_=>exact .fail
def erG(g:XGP den):GP:=⟨g.i,erP g.p,g.vs,erL g.cells⟩
theorem Lh{t:XV den}(h:X.isArgX t=true):sn (er t)=true:=by
 cases t with
 |ip cs=>rfl
 |fn f cap=>exact B9 h
 |agg l=>
  simp only[X.isArgX]at h;simp only[er,sn,kW,List.all_map];rw[List.all_eq_true]at h⊢;intro x hx;have:=h x hx;simp at this;simp
  rcases oS this.1 this.2 with⟨y,hy⟩|⟨c,hc⟩
  ·rw[hy]
  ·rw[hc]
 |d t x=>
  by_cases hn:t=.nilr true
  ·subst hn;rfl
  ·have:X.okCellX (.d t x:XV den)=true/\X.isOwX (.d t x:XV den)=false:=by
    cases t with
    |nilr o=>cases o with
     |true=>simp_all
     |false=>simpa[X.isArgX]using h
    |_=>simpa[X.isArgX]using h
   rcases oS this.1 this.2 with⟨y,hy⟩|⟨c,hc⟩
   ·rw[hy];rfl
   ·rw[hc];rfl
 |k x=>rfl
 |_=>simp[X.isArgX,X.okCellX]at h
theorem J4:∀(l:List (Option Nat×XV den))(i:Nat),Sim (Y:=Y) (X.grabs dN i l) (grabs i (l.map λx=>(x.1,er x.2))) (List.map erG):=by
 intro l
 induction l with
 |nil=>intro i;exact .ret rfl
 |cons x l ih=>
  intro i;obtain⟨n,t⟩:=x
  have Za:(∀m p vs,(n,er t)≠(some m,TV.ptr p vs))->(∀p vs,(n,er t)≠(some 0,TV.pk p vs))->Sim (Y:=Y) (if X.isArgX t then X.grabs dN (i+1) l else X.fail dN) (grabs i (((n,t)::l).map λx=>(x.1,er x.2))) (List.map erG):=by
   intro hne UM;refine Sim.ite (λh=>?_) λ_=>.fail
   have e:grabs i (((n,t)::l).map λx=>(x.1,er x.2))=if sn (er t)then grabs (i+1) (l.map λx=>(x.1,er x.2))else .fail:=by
    show grabs i ((n,er t)::_)=_
    cases n with
    |none=>rfl
    |some m=>cases he:er t with
     |ptr p vs=>simp_all
     |pk p vs=>cases m with
      |zero=>exact absurd (by rw[he]) (UM p vs)
      |succ m=>rfl
     |_=>cases m<;>rfl
   rw[e,oIP (Lh h)];exact ih (i+1)
  cases n with
  |none=>exact Za (by intro m p vs h;cases h) (by intro p vs h;cases h)
  |some m=>cases t with
   |pk p vs=>cases m with
    |zero=>exact ih (i+1)
    |succ m=>exact Za (by intro m p vs h;cases h) (by intro p vs h;cases h)
   |ptr p vs=>exact(gy p _ vs).bind λ_=>(In p).bind λ_=>Sim.bind (by have:=J5 (Y:=Y) p.root (X.baseXN p m) p.off;have e:PJ (erP p) m=X.baseXN p m:=(by have ⟨r,o,hs⟩:=p;cases hs<;>rfl);show Sim _ (EW (erP p).base (PJ (erP p) m)) _;rw[e];exact this) λl1=>(ih (i+1)).bind λq=>.ret rfl
   |d t y=>cases t with
    |row o t=>cases m<;>cases o<;>exact Za (by intro m p vs h;cases h) (by intro p vs h;cases h)
    |nilr o=>cases m<;>cases o<;>exact Za (by intro m p vs h;cases h) (by intro p vs h;cases h)
    |_=>cases m<;>exact Za (by intro m p vs h;cases h) (by intro p vs h;cases h)
   |_=>cases m<;>exact Za (by intro m p vs h;cases h) (by intro p vs h;cases h)
theorem JO(p:XP den):Sim (Y:=Y) (X.touch dN p) (touch (erP p)) id:=Sim.rdC λtv=>JN p.root p.off tv
theorem JR:∀q:List (XGP den),Sim (Y:=Y) (X.rechk dN q) (rechk (q.map erG)) id:=by
 intro q
 induction q with
 |nil=>exact .ret rfl
 |cons g q ih=>exact(gy g.p _ g.vs).bind λ_=>(JO g.p).bind λ_=>ih
theorem PO(i:Nat)(t:XV den):er (X.argT i t)=argT i (er t):=by
 cases t with
 |d t y=>cases t with
  |row o t=>cases o<;>rfl
  |nilr o=>cases o<;>rfl
  |_=>rfl
 |_=>rfl
theorem NM:∀(l:List (XV den))(i:Nat),erL (X.argTs i l)=argTs i (erL l):=by
 intro l
 induction l with
 |nil=>intro i;rfl
 |cons t l ih=>intro i;simp[X.argTs,erL,argTs,ih,PO]
theorem I4{t:XV den}(h:X.isDeadX t=false):Hy (er t)=false:=by
 cases t with
 |d t y=>cases t with
  |row o t=>cases o<;>rfl
  |nilr o=>cases o<;>rfl
  |nat=>simp[X.isDeadX,X.oneT]at h
  |pair a b=>simp[X.isDeadX,X.oneT]at h
  |_=>rfl
 |dead=>simp[X.isDeadX]at h
 |_=>rfl
theorem Fy:∀q:List (XGP den×List (XV den)),Sim (Y:=Y) (X.putBack dN q) (putBack (q.map λx=>(erG x.1,erL x.2))) id:=by
 intro q
 induction q with
 |nil=>exact .ret rfl
 |cons x q ih=>
  have ⟨g,l⟩:=x;refine ih.bind λ_=>Sim.ite (λh=>?_) λ_=>.fail;have ⟨h1,h2,h3⟩:=h;show Sim _ (if(erL l).length=(erL g.cells).length&&(erL l).all λt=>!Hy t then putL (erP g.p) (erL l)else .fail) id;rw[oIP]
  ·exact Ha g.p l
  ·simp only[oBA,oDE,ge];refine⟨h1,?_⟩;rw[kW,List.all_map,List.all_eq_true];intro t ht;have:=List.all_eq_true.1 h3 t ht;simp at this;simp[I4 this]
theorem Kh:∀(sh:List RSh)(l:List (XV den)),erL (X.shapeRX sh l)=j4 sh (erL l):=by
 intro sh
 induction sh with
 |nil=>intro l;rfl
 |cons s sh ih=>
  intro l
  cases s with
  |one=>
   simp only[X.shapeRX,erL];rw[ih,E7];cases l<;>rfl
  |agg n=>
   simp only[X.shapeRX,erL,j4,er];rw[ih,sb,uf]
  |ptr=>
   simp[X.shapeRX,erL,j4,er];rw[ih]
theorem Dw(sh:List RSh)(l:List (XV den)):er (X.shapeTX sh l)=tL sh (erL l):=by
 unfold X.shapeTX tL;rw[<- Kh]
 cases X.shapeRX sh l with
 |nil=>rfl
 |cons x r=>cases r<;>rfl
theorem J1(dst:Option Nat)(cells:List (XV den))(sh:List RSh):Sim (Y:=Y) (X.landR dN dst cells sh) (landR dst ⟨erL cells,sh⟩) id:=by
 cases dst with
 |none=>exact .ret rfl
 |some d=>exact(qT d cells).bind λl=>eU d (Dw sh l)
theorem Lg(sh:List RSh)(cells:List (XV den)):isP ⟨erL cells,sh⟩=X.isPX sh cells:=by
 unfold isP X.isPX
 cases sh with
 |nil=>simp_all
 |cons s sh=>cases s with
  |ptr=>cases cells with
   |nil=>rfl
   |cons t r=>cases t with
    |d t y=>cases t with
     |row o t=>cases o<;>rfl
     |nilr o=>cases o<;>rfl
     |_=>rfl
    |_=>rfl
  |_=>rfl
theorem Is(t:XV den)(l:List (XV den)):er (X.shapePX t l)=Hj (er t) (erL l):=by
 cases l<;>rfl
theorem J2(dst:Option Nat)(q:List (XGP den))(cells:List (XV den)):Sim (Y:=Y) (X.landP dN dst q cells) (landP dst (q.map erG) (erL cells)) id:=by
 cases dst with
 |none=>exact .ret rfl
 |some d=>
  unfold X.landP;simp only;split
  ·rename_i pl vs l g;refine Sim.ite (λhc=>?_) λ_=>.fail;show Sim _ (if pl.root==2*g.i+2&&(erP g.p).hops.isEmpty then(rdVs (qZ g.p.root (g.p.off+pl.off) (erP pl).hops.length)).bind λvs=>wr d (Hj (.ptr ⟨g.p.root,g.p.off+pl.off,(erP pl).hops⟩ vs) (erL l))else .fail) id;rw[oIP (by simpa[erP]using hc)];exact(xu _).bind λvs=>eU d (Is _ l)
  ·exact .fail
theorem P8(q:List (XGP den))(l:List (Nat×List (XV den))):(q.zip (l.map (·.2))).map (λx=>(erG x.1,erL x.2))=(q.map erG).zip ((erC l).map (·.2)):=by
 induction q generalizing l with
 |nil=>rfl
 |cons g q ih=>
  cases l with
  |nil=>rfl
  |cons x l=>simp[erC,ih]
theorem K5(z:List (Option Nat×XV den))(i:Nat):lentTo (z.map λx=>(x.1,er x.2)) i=X.lentTo z i:=by
 unfold lentTo X.lentTo;rw[List.getElem?_map]
 cases z[i]? with
 |none=>rfl
 |some x=>
  obtain⟨n,t⟩:=x
  cases n with
  |none=>rfl
  |some n=>cases n with
   |zero=>rfl
   |succ n=>cases t with
    |d t y=>cases t with
     |row o t=>cases o<;>rfl
     |nilr o=>cases o<;>rfl
     |_=>rfl
    |_=>rfl
theorem MZ(x:Option Nat×XV den):normA (x.1,er x.2)=((X.normA x).1,er (X.normA x).2):=by
 obtain⟨n,t⟩:=x
 cases n with
 |none=>rfl
 |some n=>cases t with
  |d t y=>cases t with
   |row o t=>cases o<;>rfl
   |nilr o=>cases o<;>rfl
   |_=>rfl
  |_=>rfl
theorem Fz:∀z:List (Option Nat×XV den),Sim (Y:=Y) (X.lendChk dN z) (lendChk (z.map λx=>(x.1,er x.2))) id:=by
 intro z
 induction z with
 |nil=>exact .ret rfl
 |cons x z ih=>
  obtain⟨n,t⟩:=x
  cases n with
  |none=>exact ih
  |some n=>cases n with
   |zero=>exact ih
   |succ k=>cases t with
    |pk p vs=>
     refine(gy p _ vs).bind λ_=>Sim.rdT λt=>?_
     cases t with
     |pk q ws=>
      refine Sim.ite (λhc=>?_) λ_=>.fail;show Sim _ (if p.root=2*k+3/\p.off=0/\(erP p).hops.isEmpty=true/\q.root=2*k+3/\q.off=0/\(erP q).hops.isEmpty=true/\vs=ws then _ else _) id;rw[oIP (by simpa[erP]using hc)];exact ih
     |d t y=>cases t with
      |row o t=>cases o<;>exact .fail
      |nilr o=>cases o<;>exact .fail
      |_=>exact .fail
     |_=>exact .fail
    |d t y=>cases t with
     |row o t=>cases o<;>exact ih
     |nilr o=>cases o<;>exact ih
     |_=>exact ih
    |_=>exact ih
theorem Dr(z:List (Option Nat×XV den))(ks:List Nat):∀(ow:List (Nat×XV den))(rs:List (List (XV den))),Sim (Y:=Y) (X.giveBack dN z ks ow rs) (giveBack (z.map λx=>(x.1,er x.2)) ks (ow.map λx=>(x.1,er x.2)) (rs.map erL)) id:=by
 intro ow
 induction ow with
 |nil=>intro rs;exact .ret rfl
 |cons x ow ih=>
  intro rs
  cases rs with
  |nil=>exact .fail
  |cons y rs=>
   refine(ih rs).bind λ_=>?_;show Sim _ (match lentTo (z.map λx=>(x.1,er x.2)) x.1 with|none=>_|some k=>_) id;rw[K5]
   cases X.lentTo z x.1 with
   |none=>exact .ret rfl
   |some k=>
    cases y with
    |nil=>exact .fail
    |cons v y=>
     cases y with
     |cons v2 y=>exact .fail
     |nil=>
      refine Sim.ite (λhc=>?_) λ_=>.fail;obtain⟨c,hv⟩:=mS hc.1;show Sim _ (match[er v]with | [.ow c]=>if ks.contains (1000000+x.1)=true/\x.1≠1000000 then(names k [.ow c]).bind λl=>.wrT k (l.headD .dead) (.ret ())else .fail|_=>.fail) id;rw[hv];simp only;rw[oIP hc.2];have h:=qT (Y:=Y) k [v];rw[show erL [v]=[.ow c] by simp[erL,hv]]at h;refine h.bind λl=>?_;rw[show(erL l).headD .dead=er (l.headD .dead) by cases l<;>rfl];exact xT k _
theorem Ir{F:f8}(dst:Option Nat)(f:FuncId)(vals:List (XV den))(q:List (XGP den))(ow:List (Nat×XV den))(z:List (Option Nat×XV den))(u:HL den []):∀(TB:List Ctr),(∀c∈TB,vL F c)->Sim (Y:=Y) (X.callTB dN dst f vals q ow z u TB) ((kf (F f (erL vals) ((q.map erG).map (λg=>(2*g.i+2,g.cells))++(ow.map λx=>(x.1,er x.2)).map λx=>(2*x.1+3,[x.2])))).bind λr=>
 if(r.2.map (·.1)).take ((q.map erG).length+(ow.map λx=>(x.1,er x.2)).length)=(q.map erG).map (λg=>2*g.i+2)++(ow.map λx=>(x.1,er x.2)).map (λx=>2*x.1+3)&&(isP r.1||qV r.1.sh r.1.cells.length)then(putBack ((q.map erG).zip (r.2.map (·.2)))).bind λ_=>(giveBack (z.map λx=>(x.1,er x.2)) ((r.2.drop ((q.map erG).length+(ow.map λx=>(x.1,er x.2)).length)).map (·.1)) (ow.map λx=>(x.1,er x.2)) ((r.2.drop (q.map erG).length).map (·.2))).bind λ_=>if isP r.1 then(if(ow.map λx=>(x.1,er x.2)).isEmpty then landP dst (q.map erG) r.1.cells else .fail)else landR dst r.1 else .fail) id:=by
 intro TB
 induction TB with
 |nil=>intro _;exact .fail
 |cons c TB ih=>
  intro YQ;have ZP:=ih λc' X0=>YQ c' (by simp[X0]);unfold X.callTB
  cases hsel:(if c.f=f then X.convIn dN c vals (q.map (λg=>(2*g.i+2,g.cells))++ow.map λy=>(2*y.1+3,[y.2])) u else none)with
  |none=>exact ZP
  |some h=>
   by_cases hf:c.f=f
   ·rw[oIP hf]at hsel;obtain⟨e1,e2⟩:=Fd hsel;intro σ k y hk;obtain⟨o,ho,hk⟩:=dX (show(c.g h).bind _=some y from hk);rw[yV (λr=>X.onOut dN r λx=>X.afterC dN dst q ow z x σ k)]at hk
    cases hx:mo (c.outs.map lvO) o (λi ho=>mT c.outs i ho)with
    |none=>rw[hx]at hk;cases hk
    |some x=>
     rw[hx]at hk;have hk:X.afterC dN dst q ow z x σ k=some y:=hk;have hF:=YQ c (by simp) h o x ho hx
     have e3:erC (q.map (λg=>(2*g.i+2,g.cells))++ow.map λy=>(2*y.1+3,[y.2]))=(q.map erG).map (λg=>(2*g.i+2,g.cells))++(ow.map λx=>(x.1,er x.2)).map λx=>(2*x.1+3,[x.2]):=by
      unfold erC;rw[List.map_append,List.map_map,List.map_map,List.map_map,List.map_map];congr 1
     rw[e1,e2,e3,hf]at hF;rw[hF]
     have hE:∀m,(erC x.2.2).drop m=erC (x.2.2.drop m):=λm=>by unfold erC;rw[List.map_drop]
     have hK:∀l:List (Nat×List (XV den)),(erC l).map (·.1)=l.map (·.1):=λl=>by unfold erC;rw[List.map_map];exact List.map_congr_left λ_ _=>rfl
     have hV:∀l:List (Nat×List (XV den)),(erC l).map (·.2)=(l.map (·.2)).map erL:=λl=>by unfold erC;rw[List.map_map,List.map_map];exact List.map_congr_left λ_ _=>rfl
     have key:Sim (Y:=Y) (X.afterC dN dst q ow z x) (if((erC x.2.2).map (·.1)).take ((q.map erG).length+(ow.map λx=>(x.1,er x.2)).length)=(q.map erG).map (λg=>2*g.i+2)++(ow.map λx=>(x.1,er x.2)).map (λx=>2*x.1+3)&&(isP ⟨erL x.1,x.2.1⟩||qV x.2.1 (erL x.1).length)then(putBack ((q.map erG).zip ((erC x.2.2).map (·.2)))).bind λ_=>(giveBack (z.map λx=>(x.1,er x.2)) (((erC x.2.2).drop ((q.map erG).length+(ow.map λx=>(x.1,er x.2)).length)).map (·.1)) (ow.map λx=>(x.1,er x.2)) (((erC x.2.2).drop (q.map erG).length).map (·.2))).bind λ_=>if isP ⟨erL x.1,x.2.1⟩then(if(ow.map λx=>(x.1,er x.2)).isEmpty then landP dst (q.map erG) (erL x.1)else .fail)else landR dst ⟨erL x.1,x.2.1⟩else .fail) id:=by
      unfold X.afterC;refine Sim.ite (λhc=>?_) λ_=>.fail
      have h6:(q.map erG).map (λg=>2*g.i+2)=q.map (λg=>2*g.i+2):=by rw[List.map_map];exact List.map_congr_left λ_ _=>rfl
      have h7:(ow.map λx=>(x.1,er x.2)).map (λx=>2*x.1+3)=ow.map (λy=>2*y.1+3):=by rw[List.map_map];exact List.map_congr_left λ_ _=>rfl
      have hC:(decide (((erC x.2.2).map (·.1)).take ((q.map erG).length+(ow.map λx=>(x.1,er x.2)).length)=(q.map erG).map (λg=>2*g.i+2)++(ow.map λx=>(x.1,er x.2)).map (λx=>2*x.1+3))&&(isP ⟨erL x.1,x.2.1⟩||qV x.2.1 (erL x.1).length))=true:=by
       rw[Lg,hK,h6,h7,List.length_map,List.length_map,ge,oDT hc.1,Bool.true_and];exact hc.2
      rw[oIP hC,<- P8,Lg,hE,hE,hK,hV,List.length_map,List.length_map];refine(Fy _).bind λ_=>(Dr z _ ow _).bind λ_=>?_
      cases X.isPX x.2.1 x.1 with
      |true=>
       show Sim (if ow.isEmpty=true then _ else _) (if(ow.map λx=>(x.1,er x.2)).isEmpty=true then _ else _) id;rw[List.isEmpty_map];refine Sim.ite (λh=>?_) λh=>?_
       ·rw[oIP h];exact J2 dst q x.1
       ·rw[oIN h];exact .fail
      |false=>exact J1 dst x.1 x.2.1
     exact key σ k y hk
   ·rw[oIN hf]at hsel;cases hsel
end
section
variable {α β γ δ Y:Type}
theorem Ds{F:f8}{TB:List Ctr}(YQ:∀c∈TB,vL F c)(u:HL den [])(dst:Option Nat)(f:FuncId)(ns:List (Option Nat))(vals:List (XV den)):Sim (Y:=Y) (X.callV dN TB u dst f ns vals) (callV F dst f ns (erL vals)) id:=by
 have ez:∀(ns:List (Option Nat))(vals:List (XV den)),(ns.zip vals).map (λx=>(x.1,er x.2))=ns.zip (erL vals):=by
  intro ns
  induction ns with
  |nil=>intro vals;rfl
  |cons n ns ih=>
   intro vals
   cases vals with
   |nil=>rfl
   |cons v vals=>simp only[List.zip_cons_cons,List.map_cons,erL,ih]
 unfold callV
 have en:(ns.zip (erL vals)).map normA=((ns.zip vals).map X.normA).map λx=>(x.1,er x.2):=by
  rw[<- ez,List.map_map,List.map_map];exact List.map_congr_left λx _=>MZ x
 rw[en,<- ez];refine(Fz _).bind λ_=>(Do _ 0).bind λow=>(J4 _ 0).bind λq=>(JR q).bind λ_=>Sim.ite (λh=>?_) λ_=>.fail;rw[oIP]
 ·rw[<- NM];exact Ir dst f _ q ow (ns.zip vals) u TB YQ
 ·rw[List.map_map,List.all_map];simp only[oBA]at h⊢;refine⟨h.1,?_⟩;rw[List.all_eq_true]at h⊢;intro g hg;have:=h.2 g hg;simpa[erG,ge]using this
theorem J6(dst:Option Nat)(tm:List BxC)(vals:List (XV den))(hok:tm.all X.boxOk=true):Sim (Y:=Y) (X.evBox dN dst tm vals) (evBox dst tm (erL vals)) id:=by
 cases dst with
 |none=>exact .fail
 |some d=>
  have e:erL (tm.map (X.bxX dN vals))=tm.map (bxT (erL vals)):=by
   rw[kW,List.map_map];refine List.map_congr_left λb hb=>?_;have:=List.all_eq_true.1 hok b hb
   cases b with
   |arg i=>exact xF vals i
   |val x=>
    show er (X.cellX dN x)=.v x;rw[xI];simp[X.boxOk]at this;unfold fe;split
    all_goals simp_all
  show Sim _ ((takeL false (tm.map (bxT (erL vals)))).bind _) id;rw[<- e];exact(oM false _).bind λl=>Sim.new rfl (Sim.rdV λg=>eU d rfl)
theorem G9(x:XV den):Sim (Y:=Y) (X.see1 dN x) (see1 (er x)) er:=by
 cases x with
 |d t y=>cases t with
  |int k=>exact .ret rfl
  |bool=>exact .ret rfl
  |str=>exact .ret rfl
  |nat=>exact .fail
  |row o t=>cases o<;>first|exact .fail|exact .ret rfl
  |nilr o=>cases o<;>exact .ret rfl
  |pair a b=>exact .fail
 |k y=>exact .ret rfl
 |pk p vs=>
  refine(gy p _ vs).bind λ_=>Sim.rdC λtv=>xw λv hv=>?_;refine Sim.ite (λho=>?_) λ_=>.fail;have ⟨c,hc⟩:=mS ho
  have YJ:eI (er tv) (erP p).hops=some (.ow c):=by rw[<- hc];exact hv
  simp[YJ];intro σ k y hk
  cases hi:X.immX dN v with
  |none=>rw[hi]at hk;cases hk
  |some v'=>
   rw[hi]at hk;exact Sim.ret (by rw[vv hi,hc]) σ k y hk
 |_=>exact .fail
theorem Mn:∀l:List (XV den),Sim (Y:=Y) (X.seeL dN l) (seeL (erL l)) erL:=by
 intro l
 induction l with
 |nil=>exact .ret rfl
 |cons t r ih=>exact(G9 t).bind λt'=>ih.bind λr'=>.ret rfl
theorem Mo(t:XV den):Sim (Y:=Y) (X.seeA dN t) (seeA (er t)) er:=by
 have key:=G9 (Y:=Y) t
 cases t with
 |agg l=>exact(Mn l).bind λl'=>.ret rfl
 |ip cs=>exact .ret rfl
 |fn f cap=>
  refine Sim.ite (λh=>?_) λ_=>.fail;show Sim _ (if(erL cap).all F8 then .ret (.fn f (erL cap))else .fail) er;rw[oIP (B9 h)];exact .ret rfl
 |d t y=>cases t with
  |row o t=>cases o<;>exact key
  |nilr o=>cases o<;>exact key
  |_=>exact key
 |_=>exact key
theorem JQ:∀l:List Opd,Sim (Y:=Y) (X.seeAs dN l) (seeAs l) erL:=by
 intro l
 induction l with
 |nil=>exact .ret rfl
 |cons x r ih=>exact dS λt=>(Mo t).bind λt'=>ih.bind λl=>.ret rfl
theorem HI{l:List (XV den)}(h:l.all X.flatX=true):(erL l).all Fs=true:=by
 rw[kW,List.all_map,List.all_eq_true];intro x hx;have:=List.all_eq_true.1 h x hx
 cases x with
 |d t y=>cases t<;>first|rfl|simp[X.flatX]at this
 |k y=>exact this
 |_=>simp[X.flatX]at this
theorem Ka{F:f8}(dst:Option Nat)(f:FuncId)(vals:List (XV den))(u:HL den []):∀(TB:List Ctr),(∀c∈TB,vL F c)->Sim (Y:=Y) (X.callB dN dst f vals u TB) (callB F dst f (erL vals)) id:=by
 intro TB
 induction TB with
 |nil=>intro _;exact .fail
 |cons c TB ih=>
  intro YQ;have ZP:=ih λc' X0=>YQ c' (by simp[X0]);unfold X.callB
  cases hsel:(if c.f=f then X.convIn dN c vals [] u else none)with
  |none=>exact ZP
  |some h=>
   by_cases hf:c.f=f
   ·rw[oIP hf]at hsel;obtain⟨e1,e2⟩:=Fd hsel;intro σ k y hk;have ⟨o,ho,hk⟩:=dX (show(c.g h).bind _=some y from hk);rw[yV (λz=>X.onOut dN z λx=>X.afterB dN dst x σ k)]at hk
    cases hx:mo (c.outs.map lvO) o (λi ho=>mT c.outs i ho)with
    |none=>rw[hx]at hk;cases hk
    |some x=>
     rw[hx]at hk;have hk:X.afterB dN dst x σ k=some y:=hk;unfold X.afterB at hk;have hF:=YQ c (by simp) h o x ho hx;rw[e1,e2,hf]at hF;have hF:F f (erL vals) []=some (⟨erL x.1,x.2.1⟩,erC x.2.2):=hF;unfold callB;rw[hF];show ∃a σ',(if(erC x.2.2).length=0&&(erL x.1).all Fs&&qV x.2.1 (erL x.1).length then _ else _:SP Unit).run (erS σ)=_/\pi σ σ' ((if(erC x.2.2).length=0&&(erL x.1).all Fs&&qV x.2.1 (erL x.1).length then _ else _:SP Unit).foot (erS σ))/\_;split at hk
     ·rename_i hc;rw[oIP]
      ·cases dst with
       |none=>exact Sim.ret (a:=()) (f:=id) rfl σ k y hk
       |some d=>exact eU d (Dw x.2.1 x.1) σ k y hk
      ·simp only[oBA,ge];refine⟨⟨?_,HI hc.2.1⟩,hc.2.2⟩;unfold erC
       simp_all
     ·cases hk
   ·simp_all
theorem Iq{F:f8}{TB:List Ctr}(YQ:∀c∈TB,vL F c)(E:Env)(u:HL den [])(dst:Option Nat)(op:TOp):Sim (Y:=Y) (X.evCall dN E TB u dst op) (evCall E F dst op) id:=by
 cases op with
 |call k f args=>
  cases f with
  |f f=>
   cases k with
   |false=>exact(JQ _).bind λvals=>Ka dst f vals u TB YQ
   |true=>
   refine(Dt _).bind λvals=>?_
   cases hb:E.box f with
   |none=>exact Ds YQ u dst f _ vals
   |some x=>
    refine Sim.ite (λh=>?_) λ_=>.fail;show Sim _ (if(erL vals).length=x.1 then evBox dst x.2 (erL vals)else .fail) id;rw[oIP (by rw[ge];exact h.1)];exact J6 dst x.2 vals h.2
  |t i=>
   refine Sim.rdT λt=>?_
   cases t with
   |fn f caps=>
    refine(Dt _).bind λvals=>?_;have:=Ds (Y:=Y) YQ u dst f (args.map (·.1)++NI E f args.length caps.length) (vals++caps);rw[sc]at this;rw[ge];exact this
   |d t y=>cases t with
    |row o t=>cases o<;>exact .fail
    |nilr o=>cases o<;>exact .fail
    |_=>exact .fail
   |_=>exact .fail
  |c x=>exact .fail
 |_=>exact .fail
theorem JY{F:f8}{C:X.Cfg}(YQ:∀c∈C.TB,vL F c)(u:HL den [])(dst:Option Nat)(op:TOp):Sim (Y:=Y) (X.evop dN C u dst op) (evop (evCall C.E F) dst op) id:=by
 have key:∀d,Sim (Y:=Y) (X.ev1 dN C.HT d op) (ev1 d op) id:=λd=>Qa C.HT d op;have kc:=Iq (Y:=Y) YQ C.E u dst op
 cases op with
 |call k f args=>exact kc
 |store n mv a x=>cases dst with
  |none=>exact key 0
  |some d=>exact .fail
 |_=>cases dst with
  |none=>exact .fail
  |some d=>exact key d
theorem xU(dst:Option Nat):Sim (Y:=Y) (X.setNo dN dst) (setNo dst) id:=by
 cases dst with
 |none=>exact .ret rfl
 |some d=>exact xT d (.tup [])
theorem Hw{σ:XS den}{j:Nat}{b:Bool}(h:X.tOf σ j=.d .bool b):erS (X.known dN j b σ)=erS σ:=by
 have h1:eK σ.tm j=some (.d .bool b):=by
  unfold X.tOf at h
  cases hg:eK σ.tm j with
  |none=>simp_all
  |some t=>simp_all
 have:=Fk h1;show(⟨(gu σ.tm j (.d .bool b)).map _,erC σ.ce,σ.vr⟩:St)=_;rw[this];rfl
theorem G7{F:f8}{C:X.Cfg}(YQ:∀c∈C.TB,vL F c)(u:HL den [])(o:jv):Sim (Y:=Y) (X.spOp dN C u o) (spOp (evCall C.E F) o) id:=by
 unfold X.spOp spOp
 cases hg:o.guard with
 |none=>exact JY YQ u o.dst o.op
 |some g=>
  obtain⟨j,want⟩:=g;intro σ k y hk
  cases ht:X.tOf σ j with
  |d t b=>cases t with
   |bool=>
    have hk:(bif b then((if want then X.evop dN C u o.dst o.op else X.setNo dN o.dst) (X.known dN j true (X.lgR (.t j) σ)) k)else((if want then X.setNo dN o.dst else X.evop dN C u o.dst o.op) (X.known dN j false (X.lgR (.t j) σ)) k))=some y:=by
     have hk:X.guardX dN j want (X.evop dN C u o.dst o.op) (X.setNo dN o.dst) (X.tOf σ j) (X.lgR (.t j) σ) k=some y:=hk;rw[ht]at hk;exact hk
    have key:∀(m:XM den Option Y Unit)(s:SP Unit),Sim m s id->m (X.known dN j b (X.lgR (.t j) σ)) k=some y->∃a σ',s.run (erS σ)=some (id a,erS σ')/\pi σ σ' (.t j::(s.foot (erS σ)).1,(s.foot (erS σ)).2)/\k a σ'=some y:=by
     intro m s hm h;have e:erS (X.known dN j b (X.lgR (.t j) σ))=erS σ:=Hw (σ:=X.lgR (.t j) σ) ht;obtain⟨a,σ',r1,n1,k1⟩:=hm _ k y h;rw[e]at r1 n1;refine⟨a,σ',r1,⟨λx hx=>?_,λx hx=>n1.w x hx,λx hx=>n1.r0 x (by simp[X.known,X.lgR,hx]),λx hx=>n1.w0 x (by simpa[X.known,X.lgR]using hx)⟩,k1⟩;rcases List.mem_cons.1 hx with h|h
     ·exact n1.r0 x (by simp[X.known,X.lgR,h])
     ·exact n1.r x h
    have hst:(erS σ).t j=.v (.bool b):=by rw[Nv,ht];rfl
    have res:∀(s:SP Unit),(if b=want then evop (evCall C.E F) o.dst o.op else setNo o.dst)=s->(∃a σ',s.run (erS σ)=some (id a,erS σ')/\pi σ σ' (.t j::(s.foot (erS σ)).1,(s.foot (erS σ)).2)/\k a σ'=some y)->∃a σ',(SP.rdT j λt=>match t with|.v (.bool b)=>if b=want then evop (evCall C.E F) o.dst o.op else setNo o.dst|.tup []=>setNo o.dst|_=>.fail).run (erS σ)=some (id a,erS σ')/\pi σ σ' ((SP.rdT j λt=>match t with|.v (.bool b)=>if b=want then evop (evCall C.E F) o.dst o.op else setNo o.dst|.tup []=>setNo o.dst|_=>.fail).foot (erS σ))/\k a σ'=some y:=by
     rintro s hs ⟨a,σ',r1,n1,k1⟩;refine⟨a,σ',?_,?_,k1⟩
     ·simp only[SP.run,hst,hs];exact r1
     ·simp only[SP.foot,hst,hs];exact n1
    cases b with
    |true=>
     cases want with
     |true=>exact res _ (oIP rfl) (key _ _ (JY YQ u o.dst o.op) hk)
     |false=>exact res _ (oIN (by simp)) (key _ _ (xU o.dst) hk)
    |false=>
     cases want with
     |true=>exact res _ (oIN (by simp)) (key _ _ (xU o.dst) hk)
     |false=>exact res _ (oIP rfl) (key _ _ (JY YQ u o.dst o.op) hk)
   |_=>
    have hk:X.guardX dN j want (X.evop dN C u o.dst o.op) (X.setNo dN o.dst) (X.tOf σ j) (X.lgR (.t j) σ) k=some y:=hk;rw[ht]at hk;cases hk
  |tup l=>
   have hk:X.guardX dN j want (X.evop dN C u o.dst o.op) (X.setNo dN o.dst) (X.tOf σ j) (X.lgR (.t j) σ) k=some y:=hk;rw[ht]at hk
   cases l with
   |cons=>cases hk
   |nil=>
    have hst:(erS σ).t j=.tup []:=by rw[Nv,ht];rfl
    obtain⟨a,σ',r1,n1,k1⟩:=xU o.dst (X.lgR (.t j) σ) k y hk;refine⟨a,σ',?_,?_,k1⟩
    ·simp only[SP.run,hst];exact r1
    ·simp only[SP.foot,hst];refine⟨λx hx=>?_,n1.w,λx hx=>n1.r0 x (by simp[X.lgR,hx]),λx hx=>n1.w0 x hx⟩;rcases List.mem_cons.1 hx with h|h
     ·exact n1.r0 x (by simp[X.lgR,h])
     ·exact n1.r x h
  |_=>
   have hk:X.guardX dN j want (X.evop dN C u o.dst o.op) (X.setNo dN o.dst) (X.tOf σ j) (X.lgR (.t j) σ) k=some y:=hk;rw[ht]at hk;cases hk
end
section
variable {α β γ δ Y:Type}
theorem Mi{F:f8}{C:X.Cfg}(YQ:∀c∈C.TB,vL F c)(u:HL den []):∀(ops:List jv){σ:XS den}{k:Unit->XS den->Option Y}{y:Y},X.spOps dN C u ops σ k=some y->∃ σ',tN (evCall C.E F) ops (erS σ)=some (erS σ')/\k () σ'=some y:=by
 intro ops
 induction ops with
 |nil=>intro σ k y h;exact⟨σ,rfl,h⟩
 |cons o ops ih=>
  intro σ k y h;have ⟨a,σ1,r1,_,h1⟩:=G7 YQ u o σ _ y h;have ⟨σ',r2,h2⟩:=ih h1;refine⟨σ',?_,h2⟩;simp[tN];rw[GZ r1];exact r2
def HF(f g:si):Prop:=(∀x∈f.1,x∈g.1)/\∀x∈f.2,x∈g.2
inductive P6:List (Nat×si)->List (Nat×si)->Prop
 |nil:P6 [] []
 |cons {i:Nat} {f g:si} {l r:List (Nat×si)} (h:HF f g) (t:P6 l r):P6 ((i,f)::l) ((i,g)::r)
theorem tR{a a' b b':List Loc}(ha:∀x∈a,x∈a')(hb:∀x∈b,x∈b')(h:IS a' b'=false):IS a b=false:=by
 unfold IS at h⊢
 simp_all
theorem Jn{f f' g g':si}(h1:HF f f')(h2:HF g g')(h:pV f' g'=false):pV f g=false:=by
 unfold pV at h⊢;simp at h⊢;have ⟨⟨⟨a,b⟩,c⟩,d⟩:=h;exact⟨⟨⟨tR h1.2 h2.1 a,tR h1.2 h2.2 b⟩,tR h2.2 h1.1 c⟩,tR h2.2 h1.2 d⟩
theorem KR{deps:List (List Nat)}{j:Nat}{f f':si}(hf:HF f f'){l r:List (Nat×si)}(h:P6 l r):(r.all λy=>!pV f' y.2||(deps.getD y.1 []).contains j)=true->(l.all λy=>!pV f y.2||(deps.getD y.1 []).contains j)=true:=by
 induction h with
 |nil=>exact id
 |cons h t ih=>
  intro hr;simp only[List.all_cons,oBA]at hr⊢;refine⟨?_,ih hr.2⟩;simp at hr⊢;rcases hr.1 with h3|h3
  ·exact .inl (Jn hf h h3)
  ·simp_all
theorem DK{deps:List (List Nat)}{l r:List (Nat×si)}(h:P6 l r):jt deps r=true->jt deps l=true:=by
 induction h with
 |nil=>exact id
 |cons h t ih=>
  intro hr;simp only[jt,oBA]at hr⊢;exact⟨KR h t hr.1,ih hr.2⟩
theorem OC{F:f8}{C:X.Cfg}(YQ:∀c∈C.TB,vL F c)(u:HL den [])(ops:List jv):∀(L:List Nat){σ:XS den}{k:List (Nat×si)->XS den->Option Y}{y:Y},X.spFL dN C u ops L σ k=some y ->
 ∃fs gs σ',sj (λi=>spOp (evCall C.E F) (ops.getD i Fr)) L (erS σ)=some (fs,erS σ')/\P6 fs gs/\k gs σ'=some y:=by
 intro L
 induction L with
 |nil=>intro σ k y h;exact⟨[],[],σ,rfl,.nil,h⟩
 |cons i L ih=>
  intro σ k y h;have ⟨a,σ1,r1,n1,h1⟩:=G7 YQ u _ _ _ y h;have r1:(spOp (evCall C.E F) (ops.getD i Fr)).run (erS σ)=some (a,erS σ1):=r1;have ⟨fs,gs,σ',r2,le,h2⟩:=ih h1;refine⟨(i,(spOp (evCall C.E F) (ops.getD i Fr)).foot (erS σ))::fs,(i,σ1.lg)::gs,σ',?_,.cons ⟨n1.r,n1.w⟩ le,h2⟩;simp[sj]
  simp_all
theorem ve(L:List Nat)(σ:XS den){t:XV den}(h:X.okN0 t=true):er (X.renorm0 L σ t)=renorm0 L (erS σ) (er t):=by
 cases t with
 |d t x=>cases t with
  |row o t=>cases o<;>first|rfl|simp[X.okN0]at h
  |nilr o=>cases o<;>rfl
  |nat=>simp[X.okN0]at h
  |pair a b=>simp[X.okN0]at h
  |_=>rfl
 |ptr p vs=>
  show er (if _ then _ else _)=(if _ then _ else _);by_cases hc:(L.contains p.root&&vs==kg (sV σ.vr) p.root p.off p.hops.length)=true
  ·rw[oIP hc,oIP (by exact hc)];rfl
  ·rw[oIN hc,oIN (by exact hc)];rfl
 |pk p vs=>
  show er (if _ then _ else _)=(if _ then _ else _);by_cases hc:(L.contains p.root&&vs==kg (sV σ.vr) p.root p.off (p.hops.length+1))=true
  ·rw[oIP hc,oIP (by exact hc)];rfl
  ·rw[oIN hc,oIN (by exact hc)];rfl
 |pw p vs sz lo n=>
  show er (if _ then _ else _)=(if _ then _ else _);by_cases hc:(L.contains p.root&&vs==kg (sV σ.vr) p.root p.off (p.hops.length+1))=true
  ·rw[oIP hc,oIP (by exact hc)];rfl
  ·rw[oIN hc,oIN (by exact hc)];rfl
 |tup l=>cases l<;>rfl
 |gap=>simp[X.okN0]at h
 |_=>rfl
theorem Kz(L:List Nat)(σ:XS den){t:XV den}(h:X.okN t=true):er (X.renorm L σ t)=renorm L (erS σ) (er t):=by
 have key:X.okN0 t=true->er (X.renorm0 L σ t)=renorm0 L (erS σ) (er t):=λh=>ve L σ h
 cases t with
 |agg l=>
  simp only[X.renorm,er,renorm,kW,List.map_map];congr 1;refine List.map_congr_left λx hx=>ve L σ (List.all_eq_true.1 h x hx)
 |fn f l=>
  simp only[X.renorm,er,renorm,kW,List.map_map];congr 1;refine List.map_congr_left λx hx=>ve L σ (List.all_eq_true.1 h x hx)
 |d t x=>
  have:=key h
  cases t with
  |row o t=>cases o<;>exact this
  |nilr o=>cases o<;>exact this
  |_=>exact this
 |_=>exact key h
theorem NR{α:Type}{P:α->Bool}:∀{l:List (Nat×α)}{i:Nat}{t:α},(l.all λx=>P x.2)=true->eK l i=some t->P t=true:=by
 intro l
 induction l with
 |nil=>intro i t _ h;simp[eK]at h
 |cons x l ih=>
  intro i t ha h;simp only[List.all_cons,oBA]at ha;simp[eK]at h;split at h
  ·simp_all
  ·exact ih ha.2 h
theorem MX(L:List Nat)(σ:XS den)(hok:X.okS σ=true):∀l:List Nat,(X.normT L σ l).map (λx=>(x.1,er x.2))=normT L (erS σ) l:=by
 intro l
 induction l with
 |nil=>rfl
 |cons i l ih=>
  simp[X.normT,normT];have e:eK (erS σ).tm i=(eK σ.tm i).map er:=xK _ _ _;rw[e]
  cases h:eK σ.tm i with
  |none=>exact ih
  |some t=>
   have ht:=NR hok h;simp only[oMS,List.map_cons];rw[Kz L σ ht,ih]
theorem MY(σ:XS den):∀l:List Nat,erC (X.normC σ l)=normC (erS σ) l:=by
 intro l
 induction l with
 |nil=>rfl
 |cons r l ih=>
  simp[X.normC,normC];rw[A2]
  cases h:eK σ.ce r with
  |none=>exact ih
  |some c=>
   simp;show(r,erL c)::erC _=_;rw[ih]
theorem BC{σ:XS den}(hok:X.okS σ=true)(pers:Prs):erS (X.norm σ pers)=(erS σ).norm pers:=by
 unfold X.norm St.norm;show(⟨(X.normT pers.2 σ pers.1).map _,erC (X.normC σ pers.2),[]⟩:St)=_;rw[MX _ σ hok,MY]
theorem L0{σ:XS den}(hok:X.okS σ=true):erS (X.anew σ)=(erS σ).anew:=by
 unfold X.anew St.anew;rw[BC hok];congr 1;congr 1
 ·show _=(σ.tm.map λx=>(x.1,er x.2)).map (·.1)
  simp_all
 ·show _=(erC σ.ce).map (·.1);unfold erC
  simp_all
theorem Mm(x:Nat×Option Nat):Sim (Y:=Y) (X.shr1 dN x) (shr1 x) id:=by
 obtain⟨i,off⟩:=x;refine Sim.rdT λt=>?_
 cases off with
 |none=>cases t with
  |pk p vs=>
   refine(gL false (.pk p vs)).bind λt'=>Sim.opt λt2 h2=>?_;rw[<- vv h2];exact xT i t2
  |d t y=>cases t with
   |row o t=>cases o<;>exact .ret rfl
   |nilr o=>cases o<;>exact .ret rfl
   |_=>exact .ret rfl
  |agg l=>exact Sim.ite (λ_=>.fail) λ_=>.ret rfl
  |_=>exact .fail
 |some off=>cases t with
  |ptr p vs=>
   refine(gy p _ vs).bind λ_=>Sim.ite (λh=>?_) λ_=>.fail;rw[oIP (by rw[<- CV];exact h),<- Gz];refine(kP _).bind λt=>Sim.ite (λho=>?_) λho=>?_
   ·obtain⟨c,hc⟩:=mS ho;have Vj:=kN (Y:=Y) (X.addP p off) t;rw[hc]at Vj;rw[hc];exact Vj.bind λt'=>(gL false t').bind λ_=>.ret rfl
   ·cases t with
    |d t y=>
     cases t with
     |row o t=>cases o<;>first|exact .ret rfl|simp[X.isOwX,X.isOwT]at ho
     |nilr o=>cases o<;>first|exact .ret rfl|simp[X.isOwX,X.isOwT]at ho
     |_=>exact .ret rfl
    |_=>exact .fail
  |d t y=>cases t with
   |row o t=>cases o<;>exact .fail
   |nilr o=>cases o<;>exact .fail
   |_=>exact .fail
  |_=>exact .fail
theorem G8:∀l:List (Nat×Option Nat),Sim (Y:=Y) (X.shrs dN l) (shrs l) id:=by
 intro l
 induction l with
 |nil=>exact .ret rfl
 |cons x l ih=>exact(Mm x).bind λ_=>ih
theorem O1{i:Nat}{σ:XS den}{u:HL den []}:∀{L:List Fp}{H:Fp}{h:HL den (lvS H.s)},X.selH dN i σ u L=some ⟨H,h⟩->X.convS dN H.s σ u=some h:=by
 intro L
 induction L with
 |nil=>intro H h hs;cases hs
 |cons H0 L ih=>
  intro H h hs;unfold X.selH at hs
  grind
theorem A4{Z:Type}{outs:List (li×Shs)}{i:Nat}{h:HL den (BB (outs.map λx=>lvS x.2) i)}{o:Bf (outs.map λx=>lvS x.2)}{x:li×XS den}(K:li×XS den->Option Z)(hm:vl (outs.map λx=>lvS x.2) i h=some o)(hf:wy outs i h=some x):(mo (outs.map λx=>lvS x.2) o λj ho=>X.onOut dN (wy outs j ho) K)=K x:=by
 rw[A5 _ hm,hf];rfl
theorem Mp{F:f8}{C:X.Cfg}(YQ:∀c∈C.TB,vL F c)(u:HL den []){N:Nat}(hN:NN<=N):∀(tc:lj)(i:Nat){Y:Type}(σ:XS den)(k:li->XS den->Option Y)(y:Y),X.runC dN C u tc i σ k=some y->∃e σ',runC (evCall C.E F) N tc (erS σ)=some (e,erS σ')/\k e σ'=some y:=by
 intro tc
 induction tc with
 |skip=>intro i Y σ k y h;exact⟨.normal,σ,rfl,h⟩
 |nrm pers=>
  intro i Y σ k y h;have h:(if X.okS σ then k .normal (X.norm σ pers)else none)=some y:=h;split at h
  ·rename_i hok;exact⟨.normal,X.norm σ pers,by rw[BC hok];rfl,h⟩
  ·cases h
 |reg id draw ops pers=>
  intro i Y σ k y h
  cases draw with
  |none=>
   have h:X.spOps dN C u ops σ (λ_ σ'=>if X.okS σ' then k .normal (X.norm σ' pers)else none)=some y:=h;obtain⟨σ1,r1,h1⟩:=Mi YQ u ops h;split at h1
   ·rename_i hok;refine⟨.normal,X.norm σ1 pers,?_,h1⟩;simp only[runC];rw[r1,BC hok];rfl
   ·cases h1
  |some deps=>
   obtain⟨fs,gs,σ1,r1,le,h1⟩:=OC YQ u ops _ h;split at h1
   ·rename_i hok;simp only[oBA]at hok;rw[FP]at hok;refine⟨.normal,X.norm σ1 pers,?_,h1⟩;simp only[runC];rw[r1,BC hok.2];simp only[oBS];rw[oIP (DK le hok.1)]
   ·cases h1
 |seq a b Y' Y4=>
  intro i Y σ k y h
  have ZX:∀(e:li)(σ1:XS den),runC (evCall C.E F) N a (erS σ)=some (e,erS σ1)->(match e with|.normal=>X.runC dN C u b (i+1+X.marks a) σ1 k|e=>k e σ1)=some y->∃e σ',runC (evCall C.E F) N (.seq a b) (erS σ)=some (e,erS σ')/\k e σ'=some y:=by
   intro e σ1 r1 h1;simp only[runC];rw[r1];simp only[oBS]
   cases e with
   |normal=>exact Y4 _ σ1 k y h1
   |exit j=>exact⟨_,σ1,rfl,h1⟩
   |ret=>exact⟨_,σ1,rfl,h1⟩
  unfold X.runC at h
  cases hs:X.selJ i C.HL with
  |none=>
   rw[hs]at h;obtain⟨e,σ1,r1,h1⟩:=Y' _ σ _ y h;exact ZX e σ1 r1 h1
  |some H=>
   rw[hs]at h;obtain⟨o,h1,h2⟩:=dX (show(X.runC dN C u a (i+1) σ _:Option _).bind _=some y from h);obtain⟨e,σ1,r1,h3⟩:=Y' _ σ _ o h1
   cases hi:X.injE dN e σ1 u H.outs with
   |none=>rw[hi]at h3;cases h3
   |some x=>
    rw[hi]at h3;obtain⟨j,ho⟩:=x;have h3:vl (H.outs.map λx=>lvS x.2) j ho=some o:=h3;obtain⟨x,hf,he,hσ⟩:=Ll hi;rw[A4 _ h3 hf]at h2;rw[<- hσ]at r1;rw[<- he]at r1;exact ZX x.1 x.2 r1 h2
 |cond c a b Y' Y4=>
  intro i Y σ k y h;obtain⟨t,σ1,r1,e1,_,h1⟩:=xA h
  cases t with
  |d t x=>cases t with
   |bool=>
    have hkn:erS (X.knownO dN c x σ)=erS σ:=by
     cases c with
     |t j=>
      have hj:X.tOf σ j=.d .bool x:=by
       have h9:X.condX dN (X.runC dN C u a i (X.knownO dN (.t j) true σ) k) (X.runC dN C u b (i+X.marks a) (X.knownO dN (.t j) false σ) k) (X.tOf σ j)=some y:=h;have r1:(some ((erS σ).t j,erS σ):Option (TV×St))=some (er (.d .bool x),erS σ):=r1
       injection r1 with r1
       injection r1 with r1 _
       rw[Nv]at r1
       cases ht:X.tOf σ j with
       |d t2 z=>cases t2 with
        |bool=>rw[ht]at r1;injection r1 with r1;injection r1 with r1;rw[show z=x from r1]
        |_=>rw[ht]at h9;cases h9
       |_=>rw[ht]at h9;cases h9
      exact Hw hj
     |_=>rfl
    have r1:(opd c).run (erS σ)=some (.v (.bool x),erS σ):=r1;simp only[runC];rw[r1];simp only[oBS]
    cases x with
    |true=>
     rw[<- hkn];exact Y' _ _ k y h1
    |false=>
     rw[<- hkn];exact Y4 _ _ k y h1
   |_=>cases h1
  |_=>cases h1
 |block id b ih=>
  intro i Y σ k y h;unfold X.runC at h;obtain⟨e,σ1,r1,h1⟩:=ih _ σ _ y h;simp only[runC];rw[r1];simp only[oBS]
  grind
 |loop b ih=>
  intro i Y σ k y h;unfold X.runC at h
  cases hs:X.selH dN i σ u C.HL with
  |none=>rw[hs]at h;cases h
  |some x=>
   obtain⟨H,h0⟩:=x;rw[hs]at h;have SQ:=C5 (O1 hs);obtain⟨o,h1,h2⟩:=dX (show(dZ _ NN h0).bind _=some y from h)
   have key:∀(n:Nat)(hd:HL den (lvS H.s))(o:Bf (H.outs.map λx=>lvS x.2)),dZ (λh=>X.runC dN C u b (i+1) (Gx H.s h) (X.roundK dN H u)) n hd=some o->∀N',n<=N'->∃x j ho,Pp (runC (evCall C.E F) N b) N' (erS (Gx H.s hd))=some (x.1,erS x.2)/\vl (H.outs.map λx=>lvS x.2) j ho=some o/\wy H.outs j ho=some x:=by
    intro n
    induction n with
    |zero=>intro hd o h;cases h
    |succ n ihn=>
     intro hd o h N' X2;obtain⟨N',rfl⟩:∃N'',N'=N''+1:=⟨N'-1,by omega⟩;obtain⟨z,hz,hz2⟩:=dX (show(X.runC dN C u b (i+1) (Gx H.s hd) _:Option _).bind _=some o from h);obtain⟨e,σ1,r1,h3⟩:=ih _ _ _ z hz;simp only[Pp];rw[r1];simp only[oBS]
     have Za:∀e':li,(∀s:Option (HL den (lvS H.s)⊕Bf (H.outs.map λx=>lvS x.2)),s=some z->s=X.onOut dN (X.injE dN e' σ1 u H.outs) (λx=>dN.exitL (lvS H.s) (H.outs.map λx=>lvS x.2) x.1 x.2)->∃x j ho,(some (e',erS σ1):Option (li×St))=some (x.1,erS x.2)/\vl (H.outs.map λx=>lvS x.2) j ho=some o/\wy H.outs j ho=some x):=by
      intro e' s hs1 Y9;rw[hs1]at Y9
      cases hi:X.injE dN e' σ1 u H.outs with
      |none=>rw[hi]at Y9;cases Y9
      |some x=>
       rw[hi]at Y9;obtain⟨j,ho⟩:=x;obtain⟨t,XX,Y5⟩:=iH (show(vl (H.outs.map λx=>lvS x.2) j ho).map Sum.inr=some z from Y9.symm);subst Y5;obtain⟨x,hf,he,hσ⟩:=Ll hi;refine⟨x,j,ho,by rw[he,hσ],?_,hf⟩;have:some t=some o:=hz2;rw[<- this];exact XX
     cases e with
     |normal=>
      have h3:X.onOut dN (X.convS dN H.s σ1 u) (dN.next (lvS H.s) (H.outs.map λx=>lvS x.2))=some z:=h3
      cases hc:X.convS dN H.s σ1 u with
      |none=>rw[hc]at h3;cases h3
      |some h'=>
       rw[hc]at h3;have h3:some (Sum.inl h')=some z:=h3
       injection h3 with h3
       subst h3;rw[<- C5 hc];exact ihn h' o hz2 N' (by omega)
     |exit j=>exact Za (.exit j) _ h3 rfl
     |ret=>exact Za .ret _ h3 rfl
   obtain⟨x,j,ho,r1,hm,hf⟩:=key NN h0 o h1 N hN;rw[A4 _ hm hf]at h2;refine⟨x.1,x.2,?_,h2⟩;simp only[runC];rw[<- SQ];exact r1
 |exit id=>intro i Y σ k y h;exact⟨.exit id,σ,rfl,h⟩
 |ret=>intro i Y σ k y h;exact⟨.ret,σ,rfl,h⟩
 |pre l a ih=>
  intro i Y σ k y h;obtain⟨_,σ1,r1,_,h1⟩:=G8 l σ _ y h;split at h1
  ·rename_i hok;obtain⟨e,σ2,r2,h2⟩:=ih _ _ k y h1;refine⟨e,σ2,?_,h2⟩;simp only[runC];rw[r1];simp only[oBS];rw[<- L0 hok];exact r2
  ·cases h1
 |post a l ih=>
  intro i Y σ k y h;obtain⟨e,σ1,r1,h1⟩:=ih _ _ _ y h;obtain⟨_,σ2,r2,_,h2⟩:=G8 l σ1 _ y h1;split at h2
  ·rename_i hok;refine⟨e,X.anew σ2,?_,h2⟩;simp only[runC];rw[r1];simp only[oBS];rw[r2];simp only[oBS];rw[L0 hok]
  ·cases h2
end
section
variable {α β γ δ Y:Type}
theorem AF(np:Nat)(t:XV den):Sim (Y:=Y) (X.takeR1 dN np t) (takeR1 np (er t)) er:=by
 have key:Sim (Y:=Y) (X.take1 dN true t) (take1 true (er t)) er:=gL true t
 cases t with
 |pk p vs=>exact gL _ (.pk p vs)
 |d t y=>cases t with
  |row o t=>cases o<;>exact key
  |nilr o=>cases o<;>exact key
  |_=>exact key
 |_=>exact key
theorem Im(np:Nat):∀l:List (XV den),Sim (Y:=Y) (X.takeRL dN np l) (takeRL np (erL l)) erL:=by
 intro l
 induction l with
 |nil=>exact .ret rfl
 |cons t l ih=>exact(AF np t).bind λt'=>ih.bind λr'=>.ret rfl
theorem uY(np:Nat)(t:XV den):Sim (Y:=Y) (X.takeRV dN np t) (takeRV np (er t)) λx=>(erL x.1,x.2):=by
 have one:∀t:XV den,Sim (Y:=Y) (X.bind (X.takeR1 dN np t) λt'=>X.ret ([t'],RSh.one)) ((takeR1 np (er t)).bind λt'=>.ret ([t'],.one)) λx=>(erL x.1,x.2):=λt=>(AF np t).bind λt'=>.ret rfl;have key:=one t
 cases t with
 |agg l=>exact(Im np l).bind λl'=>.ret (by simp[ge])
 |d t y=>cases t with
  |row o t=>cases o<;>exact key
  |nilr o=>cases o<;>exact key
  |_=>exact key
 |_=>exact key
theorem Ms(np:Nat)(q:TRs):Sim (Y:=Y) (X.res1 dN np q) (res1 np q) λx=>(erL x.1,x.2):=by
 cases q with
 |tmp t=>exact Sim.rdT λtv=>uY np tv
 |cell t n=>
  refine Sim.rdT λtv=>?_
  cases tv with
  |ptr p vs=>
   refine(gy p _ vs).bind λ_=>?_
   cases n with
   |none=>exact(kP p).bind λt=>(kN p t).bind λt'=>uY np t'
   |some n=>exact(Dp p n).bind λl=>uY np (.agg l)
  |d t y=>cases t with
   |row o t=>cases o<;>exact .fail
   |nilr o=>cases o<;>exact .fail
   |_=>exact .fail
  |_=>exact .fail
theorem Mq(np:Nat):∀l:List TRs,Sim (Y:=Y) (X.resL dN np l) (resL np l) λx=>(erL x.1,x.2):=by
 intro l
 induction l with
 |nil=>exact .ret rfl
 |cons q l ih=>exact(Ms np q).bind λx=>ih.bind λy=>.ret (by simp[sc])
theorem KS(l:List (XV den)):onesOf (erL l)=X.onesOf l:=by
 induction l with
 |nil=>rfl
 |cons t l ih=>simp[erL,onesOf,X.onesOf,ih]
theorem Ip:∀l:List TRs,Sim (Y:=Y) (X.flatsR dN l) (flatsR l) erL:=by
 intro l
 induction l with
 |nil=>exact .ret rfl
 |cons q l ih=>cases q with
  |cell t n=>exact .fail
  |tmp t=>
   refine Sim.rdT λtv=>Sim.ite (λhc=>?_) λ_=>.fail
   have h1:Fs (er tv)=true:=by
    have:=HI (l:=[tv]) (by simp_all);simpa[erL]using this
   rw[oIP h1];exact ih.bind λl=>.ret rfl
theorem Mr(np:Nat)(l:List TRs):Sim (Y:=Y) (X.resF dN np l) (resF np l) λx=>(erL x.1,x.2):=by
 have base:=Mq (Y:=Y) np l
 cases l with
 |nil=>exact base
 |cons q r=>cases q with
  |cell t n=>exact base
  |tmp t=>
   refine Sim.rdT λtv=>?_
   cases tv with
   |ptr p vs=>exact(gy p _ vs).bind λ_=>(Ip r).bind λl=>.ret (by simp[KS];rfl)
   |d ty y=>cases ty with
    |row o ty=>cases o<;>exact base
    |nilr o=>cases o<;>exact base
    |_=>exact base
   |_=>exact base
theorem Le(t:XV den):(∃p vs,t=.ptr p vs)\/(X.isPtrX t=false/\∀p vs,er t≠.ptr p vs):=by
 cases t with
 |ptr p vs=>simp_all
 |d t y=>cases t with
  |row o t=>cases o<;>exact .inr ⟨rfl,by simp[er,er1]⟩
  |nilr o=>cases o<;>exact .inr ⟨rfl,by simp[er,er1]⟩
  |_=>exact .inr ⟨rfl,by simp[er,er1]⟩
 |gap t x i o=>exact .inr ⟨rfl,λp vs h=>by cases h⟩
 |_=>exact .inr ⟨rfl,by simp[er]⟩
theorem Nd{t:XV den}(h:X.isShX t=true):∃c,er t=.sl c:=by
 cases t with
 |d t y=>cases t with
  |row o t=>cases o with
   |false=>exact⟨_,rfl⟩
   |true=>cases h
  |nilr o=>cases o with
   |false=>exact⟨_,rfl⟩
   |true=>cases h
  |_=>cases h
 |_=>cases h
theorem IC{pp:List Nat}:∀{l:List (XV den)}{i:Nat},X.ptrsInX pp i l=true->oj pp i (erL l)=true:=by
 intro l
 induction l with
 |nil=>intro i _;rfl
 |cons t l ih=>
  intro i h;simp only[X.ptrsInX,oBA]at h;have ⟨⟨h0,hs⟩,hr⟩:=h
  rcases Le t with⟨p,vs,rfl⟩|⟨h1,h2⟩
  ·show(pp.contains i&&oj pp (i+1) (erL l))=true;rw[ih hr,Bool.and_true];simpa[X.isPtrX]using h0
  ·show oj pp i (er t::erL l)=true;rw[h1,Bool.false_or]at hs
   cases hsh:X.isShX t with
   |true=>
    have ⟨c,hc⟩:=Nd hsh;rw[hc];exact ih hr
   |false=>
    rw[hsh,Bool.false_or]at hs
    cases he:er t with
    |ptr p vs=>simp_all
    |sl c=>exact ih hr
    |_=>show(!pp.contains (1000+i)&&oj pp (i+1) (erL l))=true;rw[hs,ih hr];rfl
theorem FQ(l:List (XV den)):∀i,(gM i l).map (λx=>(x.1,er x.2))=gM i (erL l):=by
 induction l with
 |nil=>intro i;rfl
 |cons t l ih=>intro i;simp[gM,erL,ih]
theorem Pk(vals:List (XV den))(pts:List (Nat×List (XV den))):erS (X.mkSt vals pts)=mkSt (erL vals) (erC pts):=by
 unfold X.mkSt mkSt erS;simp[FQ]
theorem MQ(σ:XS den)(pts:List (Nat×List (XV den))):erC (X.ptsOf σ pts)=(erC pts).map λx=>(x.1,(eK (erS σ).ce x.1).getD []):=by
 induction pts with
 |nil=>rfl
 |cons x pts ih=>
  show(x.1,erL ((eK σ.ce x.1).getD []))::erC (X.ptsOf σ pts)=(x.1,(eK (erS σ).ce x.1).getD [])::_;rw[ih,A2];cases eK σ.ce x.1<;>rfl
theorem Pz(a b:List (Nat×List (XV den))):erC (a++b)=erC a++erC b:=by unfold erC;rw[List.map_append]
theorem Qw(pp:List Nat):erC (X.kpX (D:=den) pp)=kpE pp:=by
 unfold erC X.kpX kpE;rw[List.map_map];rfl
theorem O5{F:f8}{C:X.Cfg}(YQ:∀c∈C.TB,vL F c)(u:HL den []){N:Nat}(hN:NN<=N){tf:TFn}{outs:List XO}{vals:List (XV den)}{pts:List (Nat×List (XV den))}{o:Bf (outs.map lvO)}(h:X.runT dN C u tf outs vals pts=some o):
 ∃x,mo (outs.map lvO) o (λi ho=>mT outs i ho)=some x/\runT C.E F N tf (erL vals) (erC pts)=some (⟨erL x.1,x.2.1⟩,erC x.2.2):=by
 unfold X.runT at h;split at h
 case isFalse=>cases h
 rename_i hc;obtain⟨e,σ1,r1,h1⟩:=Mp YQ u hN tf.body 0 _ _ o h
 have key:X.resF dN tf.np tf.res σ1 (λy σ'=>X.onOut dN (X.injO dN y.1 y.2 (X.ptsOf σ' pts++X.kpX tf.pp) u outs) λx=>dN.out (outs.map lvO) x.1 x.2)=some o ->
  ∃x,mo (outs.map lvO) o (λi ho=>mT outs i ho)=some x/\(((resF tf.np tf.res).run (erS σ1)).bind λy=>some ((⟨y.1.1,y.1.2⟩:Jw),((erC pts).map λx=>(x.1,(eK y.2.ce x.1).getD []))++kpE tf.pp))=some (⟨erL x.1,x.2.1⟩,erC x.2.2):=by
  intro h2;obtain⟨y,σ2,r2,_,h3⟩:=Mr tf.np tf.res σ1 _ o h2
  cases hi:X.injO dN y.1 y.2 (X.ptsOf σ2 pts++X.kpX tf.pp) u outs with
  |none=>rw[hi]at h3;cases h3
  |some z=>
   rw[hi]at h3;obtain⟨i,ho⟩:=z;obtain⟨x,hf,e1,e2,e3⟩:=Ps hi;refine⟨x,?_,?_⟩
   ·rw[A5 _ (show vl (outs.map lvO) i ho=some o from h3)];exact hf
   ·rw[r2];simp only[oBS];rw[e1,e2,e3,Pz,MQ,Qw]
 have Z8:(erL vals).length=tf.np/\(oj tf.pp 0 (erL vals)&&(!tf.pp.contains 1000||(erC pts).isEmpty))=true:=by
  have h2:=hc.2;rw[oBA]at h2;refine⟨by rw[ge];exact hc.1,?_⟩;rw[IC h2.1,Bool.true_and];have h3:=h2.2
  cases pts with
  |nil=>simp[erC]
  |cons x pts=>simpa[erC]using h3
 unfold runT;rw[oIP Z8,<- Pk,r1];simp only[oBS]
 cases e with
 |exit j=>cases h1
 |normal=>exact key h1
 |ret=>exact key h1
end
theorem Nz{E:Env}{T:FuncId->Option TFn}{B F:f8}{N:Nat}(hN:NN<=N){C:X.Cfg}(hE:C.E=E)(YQ:∀c∈C.TB,vL F c){c:Ctr}{tf:TFn}(hT:T c.f=some tf)
 (hg:∀h,X.runT dN C () tf c.outs (jC c.ins _ h).1 (ue c.pts [] (jC c.ins _ h).2).1=c.g h):vL (Ik E T B F N) c:=by
 intro h o x ho hx;rw[Ij hT];rw[<- hg h]at ho;have ⟨x',h1,h2⟩:=O5 YQ () hN ho
 simp_all
def Lvl(E:Env)(T:FuncId->Option TFn)(B:f8)(n:Nat)(c:Ctr):Prop:=∀k,n<=k->vL (runF E T B (NN+k)) c
def Ic(E:Env)(T:FuncId->Option TFn)(B:f8)(n:Nat):List Ctr->Prop
 | []=>True
 |c::r=>Lvl E T B n c/\Ic E T B n r
theorem Lvl.mono{E:Env}{T:FuncId->Option TFn}{B:f8}{n m:Nat}{c:Ctr}(h:Lvl E T B n c)(hm:n<=m):Lvl E T B m c:=λk hk=>h k (Nat.le_trans hm hk)
theorem Ic.get{E:Env}{T:FuncId->Option TFn}{B:f8}{n:Nat}:∀{l:List Ctr},Ic E T B n l->∀c∈l,Lvl E T B n c:=by
 intro l
 induction l with
 |nil=>simp_all
 |cons x l ih=>
  intro h c hc;rcases List.mem_cons.1 hc with rfl|hc
  ·exact h.1
  ·exact ih h.2 c hc
theorem Q9{E:Env}{T:FuncId->Option TFn}{B:f8}{n:Nat}{C:X.Cfg}(hE:C.E=E)(YQ:Ic E T B n C.TB){c:Ctr}{tf:TFn}(hT:T c.f=some tf)
 (hg:∀h,X.runT dN C () tf c.outs (jC c.ins _ h).1 (ue c.pts [] (jC c.ins _ h).2).1=c.g h):Lvl E T B (n+1) c:=by
 intro k hk;obtain⟨k,rfl⟩:∃k',k=k'+1:=⟨k-1,by omega⟩;exact Nz (F:=runF E T B (NN+k)) (Nat.le_add_right _ _) hE (λc hc=>YQ.get c hc k (by omega)) hT hg
theorem Jk{P:Program}{H:Nat->List (Nat×Option Nat)}{f:FuncId}{tf:TFn}(h:vG P H f=some tf):∃fn,P.funcs[f]?=some fn/\tf.np<=fn.params.size+fn.nfree/\tf.nt=fn.ntmps:=by
 unfold vG at h;split at h
 case h_2=>simp at h
 split at h
 case h_2=>simp at h
 split at h
 ·rename_i tf' Zf;have ⟨_,g2,g3,_⟩:=wA Zf
  simp_all
 simp only at h;split at h
 ·injection h with h
  subst h
  simp_all
 ·simp at h
theorem OB{P:Program}(H:FuncId->Nat->List (Nat×Option Nat))(ZI:(P.funcs.all λfn=>decide (fn.params.size+fn.nfree<=fn.ntmps) && !(fn.name=="runtime.NumGoroutine"))=true):L4 P λf=>vG P (H f) f:=by
 refine Me λf tf h=>?_;have ⟨fn,hf,e1,e2⟩:=Jk h;have ⟨hlt,he⟩:=Array.getElem?_eq_some_iff.1 hf;have:=Array.all_eq_true.1 ZI f hlt;rw[he]at this;simp at this;refine⟨⟨H f,h⟩,by omega,λfn' B'=>?_⟩
 simp_all
def RH:TFn:=⟨0,[],0,.skip,[]⟩
theorem Ri{o:Option TFn}(h:o.isSome=true):o=some (o.getD RH):=by
 cases o with
 |none=>simp at h
 |some x=>rfl
def RG(P:Program)(f:FuncId):List (Option Nat):=match P.funcs[f]? with
 |some fn=>fn.params.toList.map λt=>match P.underlying t with|some (.pointer e)=>Bn P e|_=>none
 |none=>[]
def noB:f8:=λ_ _ _=>none
theorem noB_ok{P:Program}:lQ P noB:=λf vals pts res Zq h=>by simp[noB]at h
abbrev I64:CT:=.int .i64
def w64(x:Int):Int:=IntKind.wrap .i64 x
def wk(k:IntKind)(x:Int):Int:=IntKind.wrap k x
def Bo(s:ByteArray):Int:=(s.size:Int)
def N5(s:ByteArray):Bool:=decide (s.size<4294967296)
def bytes(l:List Nat):ByteArray:=⟨(l.map UInt8.ofNat).toArray⟩
end Go.Proofs.YtoldehogdgdhmaaGreat
namespace Go.Proofs.YtoldehogdgdhmaaGreat
open Go.RowKit
set_option maxRecDepth 100000
noncomputable section
abbrev KCe:CT:=(.pair (.int .u8) (.int .u16))
abbrev KCn:CT:=(.pair (.int .u8) (.pair (.int .u16) (.pair I64 I64)))
abbrev KIn:CT:=(.pair I64 (.pair I64 (.pair I64 (.pair I64 I64))))
abbrev KOp:CT:=(.pair I64 (.pair I64 .bool))
abbrev R4:CT:=(.pair I64 (.pair .bool (.row false KCe)))
abbrev NV:CT:=(.pair I64 (.pair (.row false KCe) (.pair I64 (.pair I64 (.pair I64 (.pair I64 (.pair I64 (.int .u16))))))))
abbrev R3:CT:=(.pair I64 (.pair I64 (.row false KCn)))
abbrev tA:CT:=(.pair I64 (.pair I64 (.pair I64 (.pair I64 (.pair I64 (.pair I64 (.pair I64 (.pair I64 (.pair I64 (.pair (.row false KCn) (.pair (.row false KCn) (.pair (.int .u8) (.pair (.int .u16) (.pair I64 (.pair I64 (.pair (.row false KCn) (.pair I64 .bool)))))))))))))))))
abbrev Rf:CT:=(.pair I64 (.pair .bool (.row true KCe)))
abbrev QZ:CT:=(.pair I64 (.pair (.row true KCe) (.pair I64 (.pair I64 (.pair I64 (.pair I64 (.pair I64 (.int .u16))))))))
abbrev GT:CT:=(.pair I64 (.pair I64 (.row true KCn)))
abbrev w7:CT:=(.pair I64 (.pair I64 (.pair I64 (.pair I64 (.pair I64 (.pair I64 (.pair I64 (.pair I64 (.pair I64 (.pair (.row true KCn) (.pair (.row true KCn) (.pair (.int .u8) (.pair (.int .u16) (.pair I64 (.pair I64 (.pair (.row true KCn) (.pair I64 .bool)))))))))))))))))
abbrev gS:CT:=(.row false KIn)
abbrev ej:CT:=(.row false KCn)
abbrev RW:CT:=(.row false (.int .u16))
abbrev RI:CT:=(.row false I64)
abbrev gU:CT:=(.row false KCe)
abbrev ja:CT:=(.row false R4)
abbrev mw:CT:=(.row true Rf)
abbrev jW:CT:=(.row false NV)
abbrev tz:CT:=(.row true QZ)
abbrev iI:CT:=(.row false KOp)
abbrev ll:CT:=(.row false R3)
abbrev jw:CT:=(.row false tA)
abbrev DCe:Type:=(Int×Int)
abbrev DCn:Type:=(Int×Int×Int×Int)
abbrev DIn:Type:=(Int×Int×Int×Int×Int)
abbrev DOp:Type:=(Int×Int×Bool)
abbrev DLn:Type:=(Int×Bool×List DCe)
abbrev DTh:Type:=(Int×(List DCe)×Int×Int×Int×Int×Int×Int)
abbrev DOu:Type:=(Int×Int×List DCn)
abbrev DEn:Type:=(Int×Int×Int×Int×Int×Int×Int×Int×Int×(List DCn)×(List DCn)×Int×Int×Int×Int×(List DCn)×Int×Bool)
def HH(f i:Nat):List (Nat×Option Nat):=if f=97 then(if i=1000011 then[(11,some 27)]else if i=1000005 then[(2,some 27)]else[])else if f=162 then(if i=1000006 then[(8,some 1)]else if i=1000014 then[(8,some 1)]else[])else if f=65 then(if i=5000000 then[(0,none),(1,none)]else[])else if f=32 then(if i=5000000 then[(0,none),(1,none)]else if i=1000013 then[(3,some 100002001)]else[])else if f=12 then(if i=1000007 then[(7,some 100006005)]else if i=1000003 then[(0,some 5)]else[])else if f=6 then(if i=3000004 then[(7,none)]else[])else if f=4 then(if i=3000024 then[(14,none)]else[])else if f=81 then(if i=0 then[(8,none)]else[])else if f=51 then(if i=2 then[(3,some 1)]else if i=3 then[(3,some 0)]else[])else if f=91 then(if i=0 then[(8,some 0),(8,some 1),(8,some 2),(8,some 3),(8,some 4)]else[])else if f=85 then(if i=0 then[(4,some 0),(4,some 2),(4,some 3)]else[])else if f=52 then(if i=0 then[(6,some 0),(6,some 1),(6,some 2),(6,some 3),(6,some 5),(6,some 6),(6,some 7),(6,some 8),(6,some 9),(6,some 10),(6,some 11),(6,some 12),(6,some 13),(6,some 14),(6,some 15)]else[])else if f=121 then(if i=2000067 then[(2,none),(4,none),(8,none),(11,none),(12,none),(0,some 10),(0,some 18),(0,some 24)]else if i=0 then[(8,some 0)]else[])else if f=95 then(if i=1000012 then[(7,none)]else if i=0 then[(8,some 0),(8,some 2),(8,some 3),(8,some 4),(9,some 6),(9,some 7)]else[])else if f=128 then(if i=3000008 then[(9,some 0),(9,some 1)]else if i=0 then[(6,some 0),(6,some 1)]else[])else if f=149 then(if i=0 then[(4,some 0),(4,some 1),(4,some 2),(4,some 3),(4,some 4),(4,some 5),(5,some 4)]else[])else if f=129 then(if i=0 then[(0,some 14),(0,some 15),(4,some 4)]else[])else if f=130 then(if i=1000007 then[(17,none)]else if i=0 then[(8,some 2),(8,some 3),(8,some 4)]else[])else if f=151 then(if i=0 then[(8,some 2),(8,some 3),(8,some 4)]else[])else if f=131 then(if i=1000002 then[(9,none)]else[])else if f=132 then(if i=1000004 then[(4,some 2)]else if i=3 then[(6,some 0),(6,some 1)]else[])else if f=55 then(if i=1000011 then[(5,none)]else if i=1000014 then[(7,none)]else if i=0 then[(4,some 0),(4,some 1),(4,some 2),(4,some 3),(4,some 5),(4,some 6),(4,some 7),(4,some 8),(4,some 9),(4,some 10),(4,some 11),(4,some 12),(4,some 13),(4,some 14),(4,some 15)]else[])else if f=23 then(if i=0 then[(2,some 16),(2,some 17)]else[])else if f=9 then(if i=1000015 then[(7,some 6)]else if i=0 then[(2,none)]else[])else if f=101 then(if i=0 then[(4,none)]else[])else if f=102 then(if i=0 then[(2,some 6),(2,some 7)]else[])else if f=59 then(if i=0 then[(2,some 9),(2,some 10)]else[])else if f=27 then(if i=3000012 then[(5,none)]else if i=0 then[(2,none)]else[])else[]
noncomputable def TT (f:FuncId):Option TFn:=vG Tryz.prog (HH f) f
noncomputable def E0:Env:={ box:=λf=>if f=8 then some (1,[.arg 0,.val (.int .i64 0)])else none,ps:=λf=>RG Tryz.prog f }
theorem tt_ok:L4 Tryz.prog TT:=OB HH (by kernel_rfl)
abbrev qE:Shs:=⟨[],[],[],([],[])⟩
abbrev qS(s:List (Nat×Sh))(c:List (Nat×List Sh)):Shs:=⟨s,c,[],([],[])⟩
abbrev N1:CT:=.nilr true
abbrev N0:CT:=.nilr false
abbrev CW:CT:=.int .u16
abbrev CB:CT:=.int .u8
abbrev uL(l:List CT):List Sh:=l.map fun c=>.d c ()
abbrev pP(t r:Nat):Nat×Sh:=(t,.ptr ⟨r,0,[]⟩ [0])
abbrev sP(t:Nat)(c:CT):Nat×Sh:=(t,.d c ())
abbrev Lk(n:Nat)(c:Ctr):Prop:=Lvl E0 TT noB n c
theorem aN{m:Nat}:Ic E0 TT noB m []:=trivial
theorem aC{n m:Nat}{c:Ctr}{l:List Ctr}(h:Lk n c)(r:Ic E0 TT noB m l)(hm:n≤m:=by decide):Ic E0 TT noB m (c::l):=⟨h.mono hm,r⟩
abbrev lx(i n:Nat)(s:List (Nat×Sh))(c:List (Nat×List Sh))(b:Nat):Fp:=⟨i,n,⟨s,c,[],([],[])⟩,[(.exit 0,⟨s++[(b,.d .bool ())],c,[],([],[])⟩)]⟩
abbrev LI:Type:=List Int
abbrev LLI:Type:=List (List Int)
abbrev LDCe:Type:=List DCe
abbrev LDCn:Type:=List DCn
abbrev LDIn:Type:=List DIn
abbrev LDOp:Type:=List DOp
abbrev LDLn:Type:=List DLn
abbrev LDTh:Type:=List DTh
abbrev LDOu:Type:=List DOu
abbrev LDEn:Type:=List DEn
abbrev LLCn:Type:=List (List DCn)
abbrev T00:Type:=Bool×LI×Unit
abbrev T01:Type:=Int×Bool×Unit
abbrev T02:Type:=Int×Int×Unit
abbrev T03:Type:=Int×LDEn×Unit
abbrev T04:Type:=Int×LI×Unit
abbrev T05:Type:=LDCe×LDLn×Unit
abbrev T06:Type:=LDOp×LDCn×Unit
abbrev T07:Type:=LI×Int×Unit
abbrev T08:Type:=LI×LLI×Unit
abbrev T09:Type:=LLCn×LDOp×Unit
abbrev T0a:Type:=Unit×Unit×Unit
abbrev T0b:Type:=Bool×T02
abbrev T0c:Type:=Int×T00
abbrev T0d:Type:=Int×T01
abbrev T0e:Type:=Int×T02
abbrev T0f:Type:=Int×T03
abbrev T0g:Type:=Int×T04
abbrev T0h:Type:=Int×T07
abbrev T0i:Type:=Int×T0a
abbrev T0j:Type:=LDCn×T02
abbrev T0k:Type:=LDEn×T02
abbrev T0l:Type:=LDIn×T08
abbrev T0m:Type:=LI×Int×(List LDEn)×Unit
abbrev T0n:Type:=LI×T02
abbrev T0o:Type:=LI×T03
abbrev T0p:Type:=LI×T04
abbrev T0q:Type:=LI×LLI×LI×Unit
abbrev T0r:Type:=Bool×Bool×Bool×Bool×Unit
abbrev T0s:Type:=Int×T0b
abbrev T0t:Type:=Int×Bool×T07
abbrev T0u:Type:=Int×T0c
abbrev T0v:Type:=Int×T0e
abbrev T0w:Type:=Int×Int×T05
abbrev T0x:Type:=Int×T0h
abbrev T0y:Type:=Int×Int×T09
abbrev T0z:Type:=Int×T0p
abbrev T0A:Type:=LDCn×T0d
abbrev T0B:Type:=LDCn×T0g
abbrev T0C:Type:=LDCn×T0j
abbrev T0D:Type:=LDEn×T0d
abbrev T0E:Type:=LDEn×T0g
abbrev T0F:Type:=LDEn×T0k
abbrev T0G:Type:=LDTh×T0g
abbrev T0H:Type:=LI×T0e
abbrev T0I:Type:=Unit×T0h
abbrev T0J:Type:=Unit×Unit×T05
abbrev T0K:Type:=Unit×Unit×T08
abbrev T0L:Type:=Unit×Unit×T09
abbrev T0M:Type:=Unit×Unit×Unit×LDOp×Unit
abbrev T0N:Type:=Bool×T0v
abbrev T0O:Type:=Bool×T0L
abbrev T0P:Type:=Int×T0t
abbrev T0Q:Type:=Int×Int×Bool×T09
abbrev T0R:Type:=Int×T0v
abbrev T0S:Type:=Int×Int×T0l
abbrev T0T:Type:=Int×T0L
abbrev T0U:Type:=LDEn×T0D
abbrev T0V:Type:=LDEn×T0E
abbrev T0W:Type:=LI×T0x
abbrev T0X:Type:=LI×Int×LDCe×LDLn×LDTh×Unit
abbrev T0Y:Type:=LLCn×T0y
abbrev T0Z:Type:=Unit×Int×Unit×T0a
abbrev T10:Type:=Unit×Unit×T0q
abbrev T11:Type:=Unit×Unit×LLCn×T06
abbrev T12:Type:=Bool×T0X
abbrev T13:Type:=Int×Bool×T0K
abbrev T14:Type:=Int×Int×Bool×T0l
abbrev T15:Type:=Int×T0R
abbrev T16:Type:=Int×Int×T0K
abbrev T17:Type:=Int×T0T
abbrev T18:Type:=Int×T0X
abbrev T19:Type:=LDCe×LDLn×T0J
abbrev T1a:Type:=LDEn×Int×Int×T0m
abbrev T1b:Type:=LDIn×T0S
abbrev T1c:Type:=LI×T0P
abbrev T1d:Type:=LI×Int×LDCe×LDLn×LDTh×Bool×Unit
abbrev T1e:Type:=LI×LI×LLI×LLCn×LDOp×LDOu×Unit
abbrev T1f:Type:=LI×LLI×T0K
abbrev T1g:Type:=LLCn×LDOp×T0L
abbrev T1h:Type:=Unit×Unit×LLCn×Nat×T06
abbrev T1i:Type:=Int×T13
abbrev T1j:Type:=Int×Int×T0O
abbrev T1k:Type:=Int×T15
abbrev T1l:Type:=Int×Int×Int×Int×LDCn×T01
abbrev T1m:Type:=Int×Int×Int×Int×Unit×T01
abbrev T1n:Type:=Int×T16
abbrev T1o:Type:=Int×Int×LI×Int×Int×LLI×LDCn×Unit
abbrev T1p:Type:=Int×T18
abbrev T1q:Type:=Int×Int×T10
abbrev T1r:Type:=Int×LI×Int×T0s
abbrev T1s:Type:=LDEn×Int×Int×Bool×T0m
abbrev T1t:Type:=LDIn×T14
abbrev T1u:Type:=LLI×T17
abbrev T1v:Type:=LLI×Int×Int×T0M
abbrev T1w:Type:=Int×Int×Bool×T10
abbrev T1x:Type:=Int×T1j
abbrev T1y:Type:=Int×Int×Int×Int×Int×Int×LDCn×LDCn×Unit
abbrev T1z:Type:=Int×Int×Int×Int×Int×Int×LDCn×Unit×Unit
abbrev T1A:Type:=Int×Int×Int×Int×Int×T0i
abbrev T1B:Type:=Int×T1q
abbrev T1C:Type:=Int×Int×T1e
abbrev T1D:Type:=Int×Int×T1f
abbrev T1E:Type:=Int×Int×T1g
abbrev T1F:Type:=Int×LDCe×T15
abbrev T1G:Type:=LDTh×T1p
abbrev T1H:Type:=LI×Int×Unit×Unit×Unit×T0l
abbrev T1I:Type:=LI×Int×Unit×Unit×T0K
abbrev T1J:Type:=Int×Int×Bool×T1e
abbrev T1K:Type:=Int×Int×Bool×T1f
abbrev T1L:Type:=Int×Int×Bool×T1g
abbrev T1M:Type:=Int×Int×T1k
abbrev T1N:Type:=Int×Int×Int×T17
abbrev T1O:Type:=Int×Int×Int×Int×LDCn×T0t
abbrev T1P:Type:=Int×T1E
abbrev T1Q:Type:=Int×LI×Int×Int×Bool×T0H
abbrev T1R:Type:=Int×T1H
abbrev T1S:Type:=LDIn×LI×LLI×LI×Int×T0J
abbrev T1T:Type:=LDLn×Int×Int×T19
abbrev T1U:Type:=LDOu×T1C
abbrev T1V:Type:=LI×(List (Int×Int×Int×Int×Int×Int×LDCn×LDCn))×Unit
abbrev T1W:Type:=LI×Int×LI×Int×Int×T0H
abbrev T1X:Type:=LI×LLCn×Int×Int×LDCn×T0y
abbrev T1Y:Type:=LLCn×T1E
abbrev T1Z:Type:=LLI×T1C
abbrev T20:Type:=LLI×T1D
abbrev T21:Type:=Bool×T1V
abbrev T22:Type:=Int×Bool×T1H
abbrev T23:Type:=Int×Int×Int×Int×Int×Bool×Bool×Bool×T00
abbrev T24:Type:=Int×Int×T1y
abbrev T25:Type:=Int×T1R
abbrev T26:Type:=Int×Int×T1I
abbrev T27:Type:=Int×T1V
abbrev T28:Type:=LDEn×LDEn×Int×Int×T1a
abbrev T29:Type:=LI×Int×Int×Int×Int×Int×T0I
abbrev T2a:Type:=LLI×T1K
abbrev T2b:Type:=Unit×Int×Unit×Unit×Unit×T0X
abbrev T2c:Type:=Int×Int×T1S
abbrev T2d:Type:=Int×Int×T20
abbrev T2e:Type:=Int×T2b
abbrev T2f:Type:=LDCe×Int×Int×T1F
abbrev T2g:Type:=LDCn×Nat×Int×Int×Int×T1h
abbrev T2h:Type:=LI×Int×Bool×LI×T1k
abbrev T2i:Type:=LI×Int×Int×LI×Int×Int×T0W
abbrev T2j:Type:=LLI×Int×Int×LI×Int×Int×T11
abbrev T2k:Type:=ByteArray×LDCn×T24
abbrev T2l:Type:=Int×Int×Bool×T1S
abbrev T2m:Type:=Int×Int×T23
abbrev T2n:Type:=Int×Int×Int×Int×LDCn×Int×Bool×T0Z
abbrev T2o:Type:=Int×Int×Int×Int×Nat×T1q
abbrev T2p:Type:=LDEn×Int×T27
abbrev T2q:Type:=LI×Int×Int×LI×Int×Int×T1c
abbrev T2r:Type:=LLI×T2c
abbrev T2s:Type:=Int×Int×Bool×T23
abbrev T2t:Type:=LI×Int×LDCe×LDLn×LDTh×T1F
abbrev T2u:Type:=Int×Int×LLI×Int×Int×LI×T1D
abbrev T2v:Type:=Int×Int×LDIn×LI×LLI×T2b
abbrev T2w:Type:=LI×Int×LDCe×LDLn×LDTh×T2b
abbrev T2x:Type:=Int×LLI×Int×Int×LI×T2c
abbrev T2y:Type:=LDIn×LI×LLI×T2t
abbrev T2z:Type:=LI×Int×Int×Int×Int×Int×Unit×Int×Bool×T1l
abbrev T2A:Type:=Nat×LI×Int×LDCe×LDLn×LDTh×Int×Int×Int×Int×Int×Int×T0C
abbrev T2B:Type:=Int×Int×Int×Int×Int×Int×Int×Int×Int×LDCn×LDCn×T1l
abbrev T2C:Type:=Int×Int×LI×Int×Int×Int×Int×Int×Int×Int×Int×Int×Int×Int×T0r
abbrev T2D:Type:=LDIn×LI×LLI×LI×Int×LDCe×LDLn×LDTh×LI×LI×LLI×LLCn×LDOp×LDOu×LI×LLI×LDEn×LI×Unit
abbrev T2E:Type:=LDTh×Int×Int×T2w
abbrev T2F:Type:=LI×Int×Int×Int×Int×Int×Int×Int×Unit×Unit×T1y
abbrev T2G:Type:=LI×Int×Int×Int×Int×Int×Int×Int×Unit×Unit×T1z
abbrev T2H:Type:=Int×Int×Int×Int×Int×Int×LDCn×LDCn×Int×Int×Int×Int×LDCn×Int×T0N
abbrev T2I:Type:=LDIn×LI×LLI×LI×Int×LDCe×LDLn×LDTh×LI×LI×LLI×LLCn×LDOp×LDOu×LI×LLI×LDEn×LI×LI×Unit
abbrev T2J:Type:=LI×T2B
abbrev T2K:Type:=Nat×Int×LI×Int×LDCe×LDLn×LDTh×LDIn×LI×LLI×T1M
abbrev T2L:Type:=Int×Bool×T2D
abbrev T2M:Type:=Int×ByteArray×Int×Int×T2y
abbrev T2N:Type:=Int×Int×Int×T2D
abbrev T2O:Type:=LI×Int×Int×T2G
abbrev T2P:Type:=Int×Int×Int×T2I
abbrev T2Q:Type:=LDEn×Int×LDEn×Int×Int×T2J
abbrev T2R:Type:=LDIn×LI×LLI×LI×Int×LDCe×LDLn×LDTh×LI×LI×LLI×LLCn×LDOp×LDOu×LI×LLI×LDEn×LI×T1m
abbrev T2S:Type:=LI×Int×LDCe×LDLn×LDTh×LDIn×LI×LLI×Int×Int×Int×Int×Int×Int×LDCn×LDCn×Int×Int×Int×Int×LDCn×T0s
abbrev T2T:Type:=Nat×Bool×LI×Int×LDCe×LDLn×LDTh×T2H
abbrev T2U:Type:=Nat×T2S
abbrev T2V:Type:=Unit×Unit×Unit×Unit×Unit×Unit×Int×Int×Int×Int×Unit×Int×Bool×LI×LI×LLI×LLCn×LDOp×LDOu×T1l
abbrev T2W:Type:=Unit×Unit×Unit×Unit×Unit×Unit×Int×Int×Int×Int×Unit×Int×Bool×LI×LI×LLI×LLCn×LDOp×LDOu×T1m
abbrev T2X:Type:=LI×Int×LDCe×LDLn×LDTh×LDIn×LI×LLI×T2H
abbrev T2Y:Type:=LDTh×Int×Int×T2R
abbrev T2Z:Type:=Nat×LDCn×Int×Int×T2X
abbrev T30:Type:=Nat×LDCn×Int×Int×Bool×T2X
abbrev T31:Type:=LI×LI×LLI×LLCn×LDOp×LDOu×Int×Int×Int×Int×Int×Int×LDCn×LDCn×Unit×Unit×Unit×Unit×Unit×Unit×Int×Int×Int×Int×Unit×Int×Bool×LI×LI×LLI×LLCn×LDOp×LDOu×LI×Unit
abbrev T32:Type:=Int×Bool×LDIn×LI×LLI×LI×Int×LDCe×LDLn×LDTh×LI×LI×LLI×LLCn×LDOp×LDOu×LI×LLI×LDEn×LI×Int×Int×Int×Int×Int×Int×LDCn×LDCn×T1m
abbrev T33:Type:=Unit×Unit×Unit×Unit×Int×Unit×Unit×Unit×Unit×Unit×Unit×Unit×Unit×Unit×Unit×Unit×Unit×Unit×T2D
abbrev T34:Type:=Unit×Unit×Unit×Unit×Int×Unit×Unit×Unit×Unit×Unit×Unit×Unit×Unit×Unit×Unit×Unit×Unit×Unit×LDIn×LI×LLI×LI×Int×LDCe×LDLn×LDTh×LI×LI×LLI×LLCn×LDOp×LDOu×LI×LLI×Unit×LI×Unit
abbrev T35:Type:=Int×T33
abbrev T36:Type:=Int×T34
abbrev T37:Type:=LDCn×Int×Int×T31
abbrev T38:Type:=LDIn×LI×LLI×Unit×Int×Unit×Unit×Unit×Int×Int×Int×Int×Int×Int×Unit×Unit×LI×Int×LDCe×LDLn×LDTh×Int×LDCe×Int×Int×Int×Int×T24
abbrev T39:Type:=LDIn×LI×LLI×Unit×Int×Unit×Unit×Unit×Int×Int×Int×Int×Int×Int×Unit×Unit×LI×Int×LDCe×LDLn×LDTh×Int×LDCe×Int×Int×Int×Int×Int×Int×T1z
abbrev T3a:Type:=Bool×T39
abbrev T3b:Type:=Int×T35
abbrev T3c:Type:=LI×T35
abbrev T3d:Type:=Int×Int×T38
abbrev T3e:Type:=Int×Int×T39
abbrev T3f:Type:=Int×T3c
abbrev T3g:Type:=Int×Int×Bool×T38
noncomputable abbrev ap1{A0 D R:Type}(f:A0→R)(h:A0×D):R:=f h.1
noncomputable abbrev ap2{A0 A1 D R:Type}(f:A0→A1→R)(h:A0×A1×D):R:=f h.1 h.2.1
noncomputable abbrev ap3{A0 A1 A2 D R:Type}(f:A0→A1→A2→R)(h:A0×A1×A2×D):R:=f h.1 h.2.1 h.2.2.1
noncomputable abbrev ap4{A0 A1 A2 A3 D R:Type}(f:A0→A1→A2→A3→R)(h:A0×A1×A2×A3×D):R:=f h.1 h.2.1 h.2.2.1 h.2.2.2.1
noncomputable abbrev ap5{A0 A1 A2 A3 A4 D R:Type}(f:A0→A1→A2→A3→A4→R)(h:A0×A1×A2×A3×A4×D):R:=f h.1 h.2.1 h.2.2.1 h.2.2.2.1 h.2.2.2.2.1
noncomputable abbrev ap6{A0 A1 A2 A3 A4 A5 D R:Type}(f:A0→A1→A2→A3→A4→A5→R)(h:A0×A1×A2×A3×A4×A5×D):R:=f h.1 h.2.1 h.2.2.1 h.2.2.2.1 h.2.2.2.2.1 h.2.2.2.2.2.1
noncomputable abbrev ap7{A0 A1 A2 A3 A4 A5 A6 D R:Type}(f:A0→A1→A2→A3→A4→A5→A6→R)(h:A0×A1×A2×A3×A4×A5×A6×D):R:=f h.1 h.2.1 h.2.2.1 h.2.2.2.1 h.2.2.2.2.1 h.2.2.2.2.2.1 h.2.2.2.2.2.2.1
noncomputable abbrev ap8{A0 A1 A2 A3 A4 A5 A6 A7 D R:Type}(f:A0→A1→A2→A3→A4→A5→A6→A7→R)(h:A0×A1×A2×A3×A4×A5×A6×A7×D):R:=f h.1 h.2.1 h.2.2.1 h.2.2.2.1 h.2.2.2.2.1 h.2.2.2.2.2.1 h.2.2.2.2.2.2.1 h.2.2.2.2.2.2.2.1
noncomputable abbrev ap9{A0 A1 A2 A3 A4 A5 A6 A7 A8 D R:Type}(f:A0→A1→A2→A3→A4→A5→A6→A7→A8→R)(h:A0×A1×A2×A3×A4×A5×A6×A7×A8×D):R:=f h.1 h.2.1 h.2.2.1 h.2.2.2.1 h.2.2.2.2.1 h.2.2.2.2.2.1 h.2.2.2.2.2.2.1 h.2.2.2.2.2.2.2.1 h.2.2.2.2.2.2.2.2.1
noncomputable abbrev ap10{A0 A1 A2 A3 A4 A5 A6 A7 A8 A9 D R:Type}(f:A0→A1→A2→A3→A4→A5→A6→A7→A8→A9→R)(h:A0×A1×A2×A3×A4×A5×A6×A7×A8×A9×D):R:=f h.1 h.2.1 h.2.2.1 h.2.2.2.1 h.2.2.2.2.1 h.2.2.2.2.2.1 h.2.2.2.2.2.2.1 h.2.2.2.2.2.2.2.1 h.2.2.2.2.2.2.2.2.1 h.2.2.2.2.2.2.2.2.2.1
noncomputable abbrev ap11{A0 A1 A2 A3 A4 A5 A6 A7 A8 A9 A10 D R:Type}(f:A0→A1→A2→A3→A4→A5→A6→A7→A8→A9→A10→R)(h:A0×A1×A2×A3×A4×A5×A6×A7×A8×A9×A10×D):R:=f h.1 h.2.1 h.2.2.1 h.2.2.2.1 h.2.2.2.2.1 h.2.2.2.2.2.1 h.2.2.2.2.2.2.1 h.2.2.2.2.2.2.2.1 h.2.2.2.2.2.2.2.2.1 h.2.2.2.2.2.2.2.2.2.1 h.2.2.2.2.2.2.2.2.2.2.1
noncomputable abbrev ap14{A0 A1 A2 A3 A4 A5 A6 A7 A8 A9 A10 A11 A12 A13 D R:Type}(f:A0→A1→A2→A3→A4→A5→A6→A7→A8→A9→A10→A11→A12→A13→R)(h:A0×A1×A2×A3×A4×A5×A6×A7×A8×A9×A10×A11×A12×A13×D):R:=f h.1 h.2.1 h.2.2.1 h.2.2.2.1 h.2.2.2.2.1 h.2.2.2.2.2.1 h.2.2.2.2.2.2.1 h.2.2.2.2.2.2.2.1 h.2.2.2.2.2.2.2.2.1 h.2.2.2.2.2.2.2.2.2.1 h.2.2.2.2.2.2.2.2.2.2.1 h.2.2.2.2.2.2.2.2.2.2.2.1 h.2.2.2.2.2.2.2.2.2.2.2.2.1 h.2.2.2.2.2.2.2.2.2.2.2.2.2.1
noncomputable abbrev ap16{A0 A1 A2 A3 A4 A5 A6 A7 A8 A9 A10 A11 A12 A13 A14 A15 D R:Type}(f:A0→A1→A2→A3→A4→A5→A6→A7→A8→A9→A10→A11→A12→A13→A14→A15→R)(h:A0×A1×A2×A3×A4×A5×A6×A7×A8×A9×A10×A11×A12×A13×A14×A15×D):R:=f h.1 h.2.1 h.2.2.1 h.2.2.2.1 h.2.2.2.2.1 h.2.2.2.2.2.1 h.2.2.2.2.2.2.1 h.2.2.2.2.2.2.2.1 h.2.2.2.2.2.2.2.2.1 h.2.2.2.2.2.2.2.2.2.1 h.2.2.2.2.2.2.2.2.2.2.1 h.2.2.2.2.2.2.2.2.2.2.2.1 h.2.2.2.2.2.2.2.2.2.2.2.2.1 h.2.2.2.2.2.2.2.2.2.2.2.2.2.1 h.2.2.2.2.2.2.2.2.2.2.2.2.2.2.1 h.2.2.2.2.2.2.2.2.2.2.2.2.2.2.2.1
noncomputable abbrev ap18{A0 A1 A2 A3 A4 A5 A6 A7 A8 A9 A10 A11 A12 A13 A14 A15 A16 A17 D R:Type}(f:A0→A1→A2→A3→A4→A5→A6→A7→A8→A9→A10→A11→A12→A13→A14→A15→A16→A17→R)(h:A0×A1×A2×A3×A4×A5×A6×A7×A8×A9×A10×A11×A12×A13×A14×A15×A16×A17×D):R:=f h.1 h.2.1 h.2.2.1 h.2.2.2.1 h.2.2.2.2.1 h.2.2.2.2.2.1 h.2.2.2.2.2.2.1 h.2.2.2.2.2.2.2.1 h.2.2.2.2.2.2.2.2.1 h.2.2.2.2.2.2.2.2.2.1 h.2.2.2.2.2.2.2.2.2.2.1 h.2.2.2.2.2.2.2.2.2.2.2.1 h.2.2.2.2.2.2.2.2.2.2.2.2.1 h.2.2.2.2.2.2.2.2.2.2.2.2.2.1 h.2.2.2.2.2.2.2.2.2.2.2.2.2.2.1 h.2.2.2.2.2.2.2.2.2.2.2.2.2.2.2.1 h.2.2.2.2.2.2.2.2.2.2.2.2.2.2.2.2.1 h.2.2.2.2.2.2.2.2.2.2.2.2.2.2.2.2.2.1
noncomputable abbrev ap19{A0 A1 A2 A3 A4 A5 A6 A7 A8 A9 A10 A11 A12 A13 A14 A15 A16 A17 A18 D R:Type}(f:A0→A1→A2→A3→A4→A5→A6→A7→A8→A9→A10→A11→A12→A13→A14→A15→A16→A17→A18→R)(h:A0×A1×A2×A3×A4×A5×A6×A7×A8×A9×A10×A11×A12×A13×A14×A15×A16×A17×A18×D):R:=f h.1 h.2.1 h.2.2.1 h.2.2.2.1 h.2.2.2.2.1 h.2.2.2.2.2.1 h.2.2.2.2.2.2.1 h.2.2.2.2.2.2.2.1 h.2.2.2.2.2.2.2.2.1 h.2.2.2.2.2.2.2.2.2.1 h.2.2.2.2.2.2.2.2.2.2.1 h.2.2.2.2.2.2.2.2.2.2.2.1 h.2.2.2.2.2.2.2.2.2.2.2.2.1 h.2.2.2.2.2.2.2.2.2.2.2.2.2.1 h.2.2.2.2.2.2.2.2.2.2.2.2.2.2.1 h.2.2.2.2.2.2.2.2.2.2.2.2.2.2.2.1 h.2.2.2.2.2.2.2.2.2.2.2.2.2.2.2.2.1 h.2.2.2.2.2.2.2.2.2.2.2.2.2.2.2.2.2.1 h.2.2.2.2.2.2.2.2.2.2.2.2.2.2.2.2.2.2.1
noncomputable abbrev ap20{A0 A1 A2 A3 A4 A5 A6 A7 A8 A9 A10 A11 A12 A13 A14 A15 A16 A17 A18 A19 D R:Type}(f:A0→A1→A2→A3→A4→A5→A6→A7→A8→A9→A10→A11→A12→A13→A14→A15→A16→A17→A18→A19→R)(h:A0×A1×A2×A3×A4×A5×A6×A7×A8×A9×A10×A11×A12×A13×A14×A15×A16×A17×A18×A19×D):R:=f h.1 h.2.1 h.2.2.1 h.2.2.2.1 h.2.2.2.2.1 h.2.2.2.2.2.1 h.2.2.2.2.2.2.1 h.2.2.2.2.2.2.2.1 h.2.2.2.2.2.2.2.2.1 h.2.2.2.2.2.2.2.2.2.1 h.2.2.2.2.2.2.2.2.2.2.1 h.2.2.2.2.2.2.2.2.2.2.2.1 h.2.2.2.2.2.2.2.2.2.2.2.2.1 h.2.2.2.2.2.2.2.2.2.2.2.2.2.1 h.2.2.2.2.2.2.2.2.2.2.2.2.2.2.1 h.2.2.2.2.2.2.2.2.2.2.2.2.2.2.2.1 h.2.2.2.2.2.2.2.2.2.2.2.2.2.2.2.2.1 h.2.2.2.2.2.2.2.2.2.2.2.2.2.2.2.2.2.1 h.2.2.2.2.2.2.2.2.2.2.2.2.2.2.2.2.2.2.1 h.2.2.2.2.2.2.2.2.2.2.2.2.2.2.2.2.2.2.2.1
noncomputable abbrev ap21{A0 A1 A2 A3 A4 A5 A6 A7 A8 A9 A10 A11 A12 A13 A14 A15 A16 A17 A18 A19 A20 D R:Type}(f:A0→A1→A2→A3→A4→A5→A6→A7→A8→A9→A10→A11→A12→A13→A14→A15→A16→A17→A18→A19→A20→R)(h:A0×A1×A2×A3×A4×A5×A6×A7×A8×A9×A10×A11×A12×A13×A14×A15×A16×A17×A18×A19×A20×D):R:=f h.1 h.2.1 h.2.2.1 h.2.2.2.1 h.2.2.2.2.1 h.2.2.2.2.2.1 h.2.2.2.2.2.2.1 h.2.2.2.2.2.2.2.1 h.2.2.2.2.2.2.2.2.1 h.2.2.2.2.2.2.2.2.2.1 h.2.2.2.2.2.2.2.2.2.2.1 h.2.2.2.2.2.2.2.2.2.2.2.1 h.2.2.2.2.2.2.2.2.2.2.2.2.1 h.2.2.2.2.2.2.2.2.2.2.2.2.2.1 h.2.2.2.2.2.2.2.2.2.2.2.2.2.2.1 h.2.2.2.2.2.2.2.2.2.2.2.2.2.2.2.1 h.2.2.2.2.2.2.2.2.2.2.2.2.2.2.2.2.1 h.2.2.2.2.2.2.2.2.2.2.2.2.2.2.2.2.2.1 h.2.2.2.2.2.2.2.2.2.2.2.2.2.2.2.2.2.2.1 h.2.2.2.2.2.2.2.2.2.2.2.2.2.2.2.2.2.2.2.1 h.2.2.2.2.2.2.2.2.2.2.2.2.2.2.2.2.2.2.2.2.1
noncomputable abbrev ap23{A0 A1 A2 A3 A4 A5 A6 A7 A8 A9 A10 A11 A12 A13 A14 A15 A16 A17 A18 A19 A20 A21 A22 D R:Type}(f:A0→A1→A2→A3→A4→A5→A6→A7→A8→A9→A10→A11→A12→A13→A14→A15→A16→A17→A18→A19→A20→A21→A22→R)(h:A0×A1×A2×A3×A4×A5×A6×A7×A8×A9×A10×A11×A12×A13×A14×A15×A16×A17×A18×A19×A20×A21×A22×D):R:=f h.1 h.2.1 h.2.2.1 h.2.2.2.1 h.2.2.2.2.1 h.2.2.2.2.2.1 h.2.2.2.2.2.2.1 h.2.2.2.2.2.2.2.1 h.2.2.2.2.2.2.2.2.1 h.2.2.2.2.2.2.2.2.2.1 h.2.2.2.2.2.2.2.2.2.2.1 h.2.2.2.2.2.2.2.2.2.2.2.1 h.2.2.2.2.2.2.2.2.2.2.2.2.1 h.2.2.2.2.2.2.2.2.2.2.2.2.2.1 h.2.2.2.2.2.2.2.2.2.2.2.2.2.2.1 h.2.2.2.2.2.2.2.2.2.2.2.2.2.2.2.1 h.2.2.2.2.2.2.2.2.2.2.2.2.2.2.2.2.1 h.2.2.2.2.2.2.2.2.2.2.2.2.2.2.2.2.2.1 h.2.2.2.2.2.2.2.2.2.2.2.2.2.2.2.2.2.2.1 h.2.2.2.2.2.2.2.2.2.2.2.2.2.2.2.2.2.2.2.1 h.2.2.2.2.2.2.2.2.2.2.2.2.2.2.2.2.2.2.2.2.1 h.2.2.2.2.2.2.2.2.2.2.2.2.2.2.2.2.2.2.2.2.2.1 h.2.2.2.2.2.2.2.2.2.2.2.2.2.2.2.2.2.2.2.2.2.2.1
noncomputable abbrev ap26{A0 A1 A2 A3 A4 A5 A6 A7 A8 A9 A10 A11 A12 A13 A14 A15 A16 A17 A18 A19 A20 A21 A22 A23 A24 A25 D R:Type}(f:A0→A1→A2→A3→A4→A5→A6→A7→A8→A9→A10→A11→A12→A13→A14→A15→A16→A17→A18→A19→A20→A21→A22→A23→A24→A25→R)(h:A0×A1×A2×A3×A4×A5×A6×A7×A8×A9×A10×A11×A12×A13×A14×A15×A16×A17×A18×A19×A20×A21×A22×A23×A24×A25×D):R:=f h.1 h.2.1 h.2.2.1 h.2.2.2.1 h.2.2.2.2.1 h.2.2.2.2.2.1 h.2.2.2.2.2.2.1 h.2.2.2.2.2.2.2.1 h.2.2.2.2.2.2.2.2.1 h.2.2.2.2.2.2.2.2.2.1 h.2.2.2.2.2.2.2.2.2.2.1 h.2.2.2.2.2.2.2.2.2.2.2.1 h.2.2.2.2.2.2.2.2.2.2.2.2.1 h.2.2.2.2.2.2.2.2.2.2.2.2.2.1 h.2.2.2.2.2.2.2.2.2.2.2.2.2.2.1 h.2.2.2.2.2.2.2.2.2.2.2.2.2.2.2.1 h.2.2.2.2.2.2.2.2.2.2.2.2.2.2.2.2.1 h.2.2.2.2.2.2.2.2.2.2.2.2.2.2.2.2.2.1 h.2.2.2.2.2.2.2.2.2.2.2.2.2.2.2.2.2.2.1 h.2.2.2.2.2.2.2.2.2.2.2.2.2.2.2.2.2.2.2.1 h.2.2.2.2.2.2.2.2.2.2.2.2.2.2.2.2.2.2.2.2.1 h.2.2.2.2.2.2.2.2.2.2.2.2.2.2.2.2.2.2.2.2.2.1 h.2.2.2.2.2.2.2.2.2.2.2.2.2.2.2.2.2.2.2.2.2.2.1 h.2.2.2.2.2.2.2.2.2.2.2.2.2.2.2.2.2.2.2.2.2.2.2.1 h.2.2.2.2.2.2.2.2.2.2.2.2.2.2.2.2.2.2.2.2.2.2.2.2.1 h.2.2.2.2.2.2.2.2.2.2.2.2.2.2.2.2.2.2.2.2.2.2.2.2.2.1
theorem ls{n:Nat}(C:X.Cfg)(hT:Ic E0 TT noB n C.TB){c:Ctr}(hE:C.E=E0:=by rfl)(h1:(TT c.f).isSome=true:=by kernel_rfl)(hg:∀h,X.runT dN C () ((TT c.f).getD RH) c.outs (jC c.ins _ h).1 (ue c.pts [] (jC c.ins _ h).2).1=c.g h:=by intro h;kernel_rfl):Lk (n+1) c:=Q9 (n:=n) (C:=C) hE hT (Ri h1) hg
abbrev Ul(t:Nat):Nat×Sh:=sP t I64
abbrev Um(t:Nat):Nat×Sh:=sP t .bool
abbrev Un(t r:Nat):Nat×Sh:=(t,.pk ⟨r,0,[]⟩ [0,0])
abbrev Ui(t:CT):CT:=.row true t
abbrev Uj(t:CT):CT:=.row false t
abbrev Uk(t:Nat):Nat×Sh:=pP t (2*t+2)
abbrev Uo:List Sh:=uL [RI,I64]
abbrev Up:List Sh:=uL [.bool]
abbrev Uq:List Sh:=uL [gS,RI,(Uj RW)]
abbrev Ur:List Sh:=uL [CB,CW]
abbrev uaa:List Sh:=uL [N1,N1]
abbrev yaa:List Sh:=uL [I64,I64,I64,I64,I64,I64,ej,ej]
abbrev zaa:List Sh:=uL [RI,CW]
abbrev Uaa:List Sh:=uL [(Ui I64)]
abbrev Xaa:List Sh:=uL [gS,RI,(Uj RW),RI,CW,gU,ja,jW,RW,RW,(Uj RW),(Uj ej),iI,ll,RI,(Uj RI),(Ui tA),(Ui I64)]
abbrev Zaa:List Sh:=uL [I64,I64]
abbrev uab:List Sh:=uL [RI,CW,(Ui KCe),mw,tz]
abbrev yab:List Sh:=uL [(Ui CB)]
abbrev zab:List Sh:=uL [I64]
abbrev Uab:List Sh:=uL [(Uj ej),iI]
abbrev Xab:List Sh:=uL [I64,I64,I64,I64,I64]
abbrev Zab:List Sh:=uL [CB,CW,I64,I64,N1,I64,.bool]
abbrev uac:List Sh:=uL [RI,CW,gU,ja,jW]
abbrev yac:List Sh:=uL [CB,CW,I64,I64,ej,I64,.bool]
abbrev zac:List Sh:=uL [I64,I64,I64,I64,I64,I64,N1,N1]
abbrev Uac:List Sh:=uL [(Ui I64),(Ui (Ui I64))]
abbrev Xac:List Sh:=uL [(Ui (Ui KCn)),(Ui KOp)]
abbrev Zac:List Sh:=uL [N1,CW,N1,N1,N1]
abbrev uad:List Sh:=uL [I64,gU,I64,I64,I64,I64,I64,CW]
abbrev yad:List Sh:=uL [RI,(Uj RI)]
abbrev zad:List Sh:=uL [(Ui KCe),mw]
abbrev Uad:List Sh:=uL [I64,I64,I64,I64,I64,I64,I64,I64,I64,ej,ej,CB,CW,I64,I64,ej,I64,.bool]
abbrev Xad:List Sh:=uL [CB,CW,I64,I64]
abbrev Zad:List Sh:=uL [RW,RW,(Uj RW),(Uj ej),iI,ll]
abbrev uae:List Sh:=uL [(Ui KCn)]
abbrev yae:List Sh:=uL [.bool,.bool,.bool,.bool]
abbrev zae:List Sh:=uL [N1,N1,N1]
abbrev Uae:List Sh:=uL [N1,N1,N1,N1,CW,N1,N1,N1,N1,N1,N1,N1,N1,N1,N1,N1,N1,N1]
abbrev Xae:List Sh:=uL [gU,ja]
abbrev Zae:List Sh:=uL [RI,CW,(Ui KCe),mw,(Ui NV)]
abbrev uaf:List Sh:=uL [I64,I64,I64,I64,I64,I64,(Ui KCn),(Ui KCn)]
abbrev yaf:List Sh:=uL [N1,N1,N1,N1,N1,N1]
abbrev zaf:List Sh:=uL [(Ui w7)]
abbrev Uaf:List Sh:=uL [jw]
abbrev Xaf:List Sh:=uL [I64,I64,I64,I64,I64,I64,(Ui KCn),N1]
abbrev Zaf:List Sh:=uL [I64,(Ui KCe),I64,I64,I64,I64,I64,CW]
abbrev uag:List Sh:=uL [(Ui jw)]
abbrev yag:List Sh:=uL [CB,CW,I64,I64,(Ui KCn),I64,.bool]
abbrev zag:List Sh:=uL [(Ui KIn),RI,(Ui (Ui CW))]
abbrev Uag:List Sh:=uL [gS,RI,(Ui (Ui CW))]
abbrev Xag:List Sh:=uL [I64,I64,.bool]
abbrev Zag:List Sh:=uL [(Ui (Ui CW))]
abbrev uah:List Sh:=uL [gS,RI,(Uj RW),RI,CW,gU,ja,jW,RW,RW,(Uj RW),(Uj ej),iI,ll,RI,(Uj RI),jw,RI]
abbrev yah:List Sh:=uL [CB,CW,I64]
abbrev zah:List Sh:=uL [(Ui CB),I64]
abbrev Uah:List Sh:=uL [(Ui GT)]
abbrev Xah:List Sh:=uL [(Ui CW),(Ui CW),(Ui (Ui CW)),(Ui (Ui KCn)),(Ui KOp),(Ui GT)]
abbrev Zah:List Sh:=uL [I64,I64,I64,I64,I64,I64,I64,I64,I64,(Ui KCn),(Ui KCn),CB,CW,I64,I64,(Ui KCn),I64,.bool]
abbrev uai:List Sh:=uL [(Ui (Ui KCn)),(Ui KOp),I64]
abbrev yai:List Sh:=uL [RI,CW,gU,ja,tz]
abbrev zai:List Sh:=uL [(Ui (Ui KCn)),(Ui KOp),.bool]
abbrev Uai:List Sh:=uL [RI,CW,gU,ja,jW,.bool]
abbrev Xai:List Sh:=uL [gS,RI,(Uj RW),RI,CW,gU,ja,jW,RW,RW,(Uj RW),(Uj ej),iI,ll,RI,(Uj RI),(Ui tA)]
def jS(a0:Int)(a1:Int):Option (Int×Unit):=
bif(a1 != 0)then let x0:Int:=(Int.tmod a0 a1);
(bif(decide (x0<0))then(let x1:Int:=(w64 (x0+a1));
some (x1,()))else
some (x0,()):Option (Int×Unit)).bind λ(x1,_)=>
some (x1,())else none
def Gm:X.Cfg:=⟨E0,[],[],[⟨2,0,qE,[(.normal,qS [Ul 5] [])]⟩]⟩
def tw:Ctr:=⟨33,0,Zaa,[],[⟨zab,[.one],[]⟩],ap2 jS⟩
theorem yr:Lk 1 tw:=ls Gm aN
def Bm(a0:Int)(a1:Int):Option (Int×Unit):=
(jS a0 a1).bind λ(x0,_)=>
some (x0,())
def Nl:X.Cfg:=⟨E0,[tw],[],[]⟩
def HZ:Ctr:=⟨13,1,Zaa,[],[⟨zab,[.one],[]⟩],ap2 Bm⟩
theorem Nb:Lk 2 HZ:=ls Nl (aC yr aN)
def dJ(a0:Int)(a1:List (Int))(a2:Int):Option (T0h):=
let x0:=dQ a1.length;
bif(decide (a2>=x0))then(some (0,a1,a2,()))else
let x1:=w64 (a2+1);
let x2:=w64 (x1-1);
(eq x2).bind λx3=>
(dM a1 x3).bind λx4=>
(Bm x4 a0).bind λ(x5,_)=>
some (x5,a1,x1,())
def Gr:X.Cfg:=⟨E0,[HZ],[],[]⟩
def fu:Ctr:=⟨22,2,[.ptr ⟨2,0,[]⟩ [0],shU I64],[(2,Uo)],[⟨zab,[.one],[(2,Uo)]⟩],ap3 dJ⟩
theorem fw:Lk 3 fu:=ls Gr (aC Nb aN)
def xe:Int×T0n->Option ((Int×T0n)⊕(Int×LI×T0d)):=λ(v0,v1,v2,v3,_)=>
bif(decide (v3<v2))then((eq v3).bind λx0=>
(dM v1 x0).bind λx1=>
let x2:=w64 (v0+x1);
let x3:=w64 (v3+1);
some (.inl (x2,v1,v2,x3,())))else
some (.inr (v0,v1,v2,v3,false,()))
def pG(a0:List (Int)):Option (Int×Unit):=
let x0:=dQ a0.length;
(dZ xe NN (0,a0,x0,0,())).bind λ(x1,_)=>
some (x1,())
def CJ:X.Cfg:=⟨E0,[],[],[(lx 4 0 [Ul 3,sP 6 RI,Ul 7,Ul 8] [] 9)]⟩
def uF:Ctr:=⟨63,3,uL [RI],[],[⟨zab,[.one],[]⟩],ap1 pG⟩
theorem BY:Lk 1 uF:=ls CJ aN
def Bl:Int×LI×T0v->Option ((Int×LI×T0v)⊕(T0e⊕T1r)):=λ(v0,v1,v2,v3,v4)=>
bif(decide (v3<v2))then((eq v3).bind λx0=>
(dM v1 x0).bind λx1=>
(match(bif(decide (v0>=0))then(bif(decide (v0<x1))then(some (.inl (0,v3,v0,())))else
some (.inr (v0,v3,x1,v1,v2,v3,false,v4)))else
some (.inr (v0,v3,x1,v1,v2,v3,false,v4)):Option (T0e⊕(Int×Int×T1r)))with
|none=>none
|some (.inl (x2,x3,x4,_))=>
some (.inr (.inl (x2,x3,x4,())))
|some (.inr (x2,x3,x4,x5,x6,x7,x8,x9))=>
let ae:=w64 (x2-x4);
let af:=w64 (x7+1);
some (.inl (ae,x5,x6,af,x9))))else
some (.inr (.inr (v0,v1,v2,v3,false,v4)))
def uX(a0:List (Int))(a1:Int):Option (T0e):=
let x0:=dQ a0.length;
(match dZ Bl NN (a1,a0,x0,0,0,0,())with
|none=>none
|some (.inl (x1,x2,x3,_))=>
some (x2,x3,x1,())
|some (.inr (x1,x2,x3,_))=>
some (0,0,6,()))
def I8:X.Cfg:=⟨E0,[],[],[⟨8,0,qE,[(.ret,qS [Uk 4,Ul 5] [(10,Zaa)]),(.normal,qS [Ul 1,Uk 4,Ul 6,Ul 7,sP 8 RI,Ul 9,Ul 10,Um 21] [(10,Zaa)])]⟩,⟨3,1,qS [Ul 1,Uk 4,sP 8 RI,Ul 9,Ul 10] [(10,Zaa)],[(.ret,qS [Uk 4,Ul 5] [(10,Zaa)]),(.exit 0,qS [Ul 1,Uk 4,sP 8 RI,Ul 9,Ul 10,Um 11] [(10,Zaa)])]⟩]⟩
def Bc:Ctr:=⟨62,4,Uo,[],[⟨uL [I64,I64,I64],[.agg 2,.one],[]⟩],ap2 uX⟩
theorem IZ:Lk 1 Bc:=ls I8 aN
def gP(a0:List (Int))(a1:Int):Option (T0h):=
(dJ 5 a0 a1).bind λ(x0,x1)=>
(bif(x0==0)then(some (x0,true,x1))else
bif(x0==1)then(some (x0,true,x1))else
some (x0,(x0==2),x1):Option (T0t)).bind λ(x3,x4,x5,x6,_)=>
bif x4 then((dJ 8 x5 x6).bind λ(x7,x8,x9,_)=>
let ac:=wk .u16 x7;
some (ac,x8,x9,()))else
bif(x3==3)then((dJ 3 x5 x6).bind λ(x7,x8,x9,_)=>
let ac:=w64 (65535-x7);
let ae:=wk .u16 ac;
some (ae,x8,x9,()))else
(dJ 65536 x5 x6).bind λ(x7,x8,x9,_)=>
let ac:=wk .u16 x7;
some (ac,x8,x9,())
def Gq:X.Cfg:=⟨E0,[fu],[],[⟨3,0,qE,[(.normal,qS [Uk 0,Ul 4,Um 5] [(2,Uo)])]⟩]⟩
def nP:Ctr:=⟨64,5,[.ptr ⟨2,0,[]⟩ [0]],[(2,Uo)],[⟨uL [CW],[.one],[(2,Uo)]⟩],ap2 gP⟩
theorem pT:Lk 4 nP:=ls Gq (aC fw aN)
def iZ(a0:List (Int))(a1:List (Int))(a2:Int):Option (Int×Int×T0x):=
(dJ 6 a1 a2).bind λ(x0,x1,x2,_)=>
bif(x0==4)then((pG a0).bind λ(x3,_)=>
(dJ x3 x1 x2).bind λ(x4,x5,x6,_)=>
(uX a0 x4).bind λ(x7,x8,x9,_)=>
some (1,0,x7,x8,x5,x6,()))else
bif(x0==5)then((dJ 10 x1 x2).bind λ(x3,x4,x5,_)=>
let x6:=wk .u16 x3;
some (2,x6,0,0,x4,x5,()))else
(gP x1 x2).bind λ(x3,x4,x5,_)=>
some (0,x3,0,0,x4,x5,())
def EV:X.Cfg:=⟨E0,[fu,uF,Bc,nP],[],[]⟩
def md:Ctr:=⟨31,6,[.ptr ⟨2,0,[]⟩ [0],shU RI],[(2,Uo)],[⟨Xad,[.agg 4],[(2,Uo)]⟩],ap3 iZ⟩
theorem ou:Lk 5 md:=ls EV (aC fw (aC BY (aC IZ (aC pT aN))))
def ml:Int×LI×Int×LDCn×Unit->Option ((Int×LI×Int×LDCn×Unit)⊕(Int×Bool×LI×Int×LDCn×Unit)):=λ(v0,v1,v2,v3,_)=>
bif(decide (v0>0))then(let x0:List (Int):=[8,4];
(iZ x0 v1 v2).bind λ(x1,x2,x3,x4,x5,x6,_)=>
((dJ 12 x5 x6).bind λ(x7,x8,x9,_)=>
bif(x7==0)then((dJ 65536 x8 x9).bind λ(ac,ae,af,_)=>
some (v0,ae,af,v3,1,0,(-1),ac,()))else
some (v0,x8,x9,v3,x1,x2,x3,x4,()):Option (Int×LI×Int×LDCn×T0v)).bind λ(x7,x8,x9,ac,ae,af,ag,ah,_)=>
let ai:LDCn:=[(ae,(af,(ag,ah)))];
bif(dW 24 ac.length ai.length)then let aj:LDCn:=(List.append ac ai);
let ak:=w64 (x7-1);
some (.inl (ak,x8,x9,aj,()))else none)else
some (.inr (v0,false,v1,v2,v3,()))
def gc(a0:Int)(a1:List (Int))(a2:Int):Option (LDCn×T07):=
let x0:=w64 (a0+1);
(dJ x0 a1 a2).bind λ(x1,x2,x3,_)=>
(dZ ml NN (x1,x2,x3,[],())).bind λ(x4,x5,x6,x7,x8,_)=>
some (x8,x6,x7,())
def CS:X.Cfg:=⟨E0,[fu,md],[],[⟨9,0,qE,[(.normal,qS [Uk 0,Un 5 13,Ul 6,Uk 7] [(2,Uo),(13,uae),(16,Xad)])]⟩,(lx 4 1 [Uk 0,Un 5 13,Ul 6] [(2,Uo),(13,uae)] 13)]⟩
def p8:Ctr:=⟨61,7,[.ptr ⟨2,0,[]⟩ [0],shU I64],[(2,Uo)],[⟨uae,[.one],[(2,Uo)]⟩],ap3 gc⟩
theorem t8:Lk 6 p8:=ls CS (aC fw (aC ou aN))
def jl:T2O->Option (T2O⊕(LI×Int×Int×Bool×T2G)):=λ(v0,v1,v2,v3,v4,v5,v6,v7,v8,v9,v10,v11,v12,v13,v14,v15,v16,v17,v18,v19,v20,_)=>
bif(decide (v2<v1))then(((eq v2).bind λx0=>
(dM v0 x0).bind λx1=>
bif(x1==78)then((dJ 5 v3 v4).bind λ(x2,x3,x4,_)=>
let x5:=wk .u16 x2;
let x6:LDCn:=[(0,(x5,(0,0)))];
bif(dW 24 v19.length x6.length)then let x7:LDCn:=(List.append v19 x6);
some (v0,v1,v2,x3,x4,v5,v6,v7,v8,v9,v10,v11,v12,v13,v14,v15,v16,v17,v18,x7,v20,())else none)else
bif(x1==72)then((dJ 4 v3 v4).bind λ(x2,x3,x4,_)=>
let x5:=wk .u16 x2;
let x6:LDCn:=[(2,(x5,(0,0)))];
bif(dW 24 v19.length x6.length)then let x7:LDCn:=(List.append v19 x6);
some (v0,v1,v2,x3,x4,v5,v6,v7,v8,v9,v10,v11,v12,v13,v14,v15,v16,v17,v18,x7,v20,())else none)else
bif(x1==80)then((dJ 2 v3 v4).bind λ(x2,x3,x4,_)=>
(dJ 4 x3 x4).bind λ(x5,x6,x7,_)=>
let x8:LDCn:=[(1,(0,(x2,x5)))];
bif(dW 24 v19.length x8.length)then let x9:LDCn:=(List.append v19 x8);
some (v0,v1,v2,x6,x7,v5,v6,v7,v8,v9,v10,v11,v12,v13,v14,v15,v16,v17,v18,x9,v20,())else none)else
let x2:List (Int):=[8,4];
(iZ x2 v3 v4).bind λ(x3,x4,x5,x6,x7,x8,_)=>
let x9:LDCn:=[(x3,(x4,(x5,x6)))];
bif(dW 24 v19.length x9.length)then let ac:LDCn:=(List.append v19 x9);
some (v0,v1,v2,x7,x8,v5,v6,v7,v8,v9,v10,v11,v12,v13,v14,v15,v16,v17,v18,ac,v20,())else none:Option (T2O)).bind λ(x0,x1,x2,x3,x4,x5,x6,x7,x8,x9,ac,ae)=>
let aq:=w64 (x2+1);
some (.inl (x0,x1,aq,x3,x4,x5,x6,x7,x8,x9,ac,ae)))else
some (.inr (v0,v1,v2,false,v3,v4,v5,v6,v7,v8,v9,v10,v11,v12,v13,v14,v15,v16,v17,v18,v19,v20,()))
def jB(a0:List (Int))(a1:Int):Option (Int×Int×Int×Int×Int×Int×LDCn×LDCn×T07):=
(dJ 4 a0 a1).bind λ(x0,x1,x2,_)=>
let x3:List (Int):=[1,1,1,0,2,3];
(dJ 6 x1 x2).bind λ(x4,x5,x6,_)=>
(eq x4).bind λx7=>
(dM x3 x7).bind λx8=>
(dM x3 x7).bind λx9=>
(dJ 50 x5 x6).bind λ(ac,ae,af,_)=>
(dJ 64 ae af).bind λ(ag,ah,ai,_)=>
(bif(x9==2)then((dJ 6 ah ai).bind λ(aj,ak,am,_)=>
let an:=w64 (1+aj);
some (ak,am,0,0,0,0,0,0,(),(),x0,x9,an,ac,ag,0,(),(),()))else
some (ah,ai,0,0,0,0,0,0,(),(),x0,x9,0,ac,ag,0,(),(),()):Option (LI×Int×Int×Int×Int×Int×Int×Int×Unit×Unit×T1A)).bind λ(aj,ak,am,an,ap,aq,av,ax,ay,az,aA,aB,aD,aE,aF,aG,aH,aI,_)=>
bif(aB != 1)then(some (aA,aB,aD,aE,aF,aG,[],[],aj,ak,()))else
(dJ 16 aj ak).bind λ(aJ,aK,aL,_)=>
let aM:List (ByteArray):=[(bytes [78]),(bytes [72,80,78]),(bytes [72,80,78]),(bytes [78,78]),(bytes [72]),(bytes [72,78]),(bytes []),(bytes []),(bytes [78]),(bytes [78]),(bytes [78,88]),(bytes [78]),(bytes [78]),(bytes [78,80,78]),(bytes [78,80,78]),(bytes [])];
(eq aJ).bind λaO=>
(dM aM aO).bind λaP=>
(dM aM aO).bind λaQ=>
bif(N5 aQ)then let aR:List (Int):=(JJ aQ);
let aS:=dQ aR.length;
(dZ jl NN (aR,aS,0,aK,aL,am,an,ap,aq,av,ax,ay,az,aA,aB,aD,aE,aF,aJ,[],aI,())).bind λ(aT,aU,aV,aW,aY,aZ,ba,bc,bd,bf,bg,bh,bi,bj,bk,bl,bm,bn,bo,bp,bq,bt,_)=>
(bif(bp==1)then((gc 6 aY aZ).bind λ(bv,bx,bz,_)=>
some (bx,bz,ba,bc,bd,bf,bg,bh,bi,bj,bk,bl,bm,bn,bo,bp,bq,bv,()))else
bif(bp==13)then((gc 6 aY aZ).bind λ(bv,bx,bz,_)=>
some (bx,bz,ba,bc,bd,bf,bg,bh,bi,bj,bk,bl,bm,bn,bo,bp,bq,bv,()))else
some (aY,aZ,ba,bc,bd,bf,bg,bh,bi,bj,bk,bl,bm,bn,bo,bp,bq,[],()):Option (T2F)).bind λ(bv,bx,bz,bA,bB,bC,bD,bE,bF,bG,bH,bI,bJ,bK,bL,bM,bN,bO,_)=>
((dJ 10 bv bx).bind λ(bP,bQ,bR,_)=>
bif(bP==0)then((gc 3 bQ bR).bind λ(bS,bT,bU,_)=>
some (bT,bU,bz,bA,bB,bC,bD,bE,bF,bG,bH,bI,bJ,bK,bL,bM,bS,bO,()))else
some (bQ,bR,bz,bA,bB,bC,bD,bE,bF,bG,bH,bI,bJ,bK,bL,bM,bN,bO,()):Option (T2F)).bind λ(bP,bQ,bR,bS,bT,bU,bV,bW,bY,bZ,cc,cd,cf,cg,ch,ci,cj,cl,_)=>
some (cc,cd,cf,cg,ch,ci,cj,cl,bP,bQ,())else none
def Ai:X.Cfg:=⟨E0,[fu,md,p8],[],[⟨2,0,qE,[(.normal,qS [Uk 0,Uk 2,Uk 3] [(2,Uo),(6,zac),(8,zac)])]⟩,⟨14,1,qE,[(.normal,qS [Uk 0,Uk 2,Uk 3,sP 39 (Uj CB),Ul 40,Ul 41] [(2,Uo),(6,zac),(8,Xaf)])]⟩,(lx 11 2 [Uk 0,Uk 2,Uk 3,sP 39 (Uj CB),Ul 40,Ul 41] [(2,Uo),(6,zac),(8,Xaf)] 42),⟨20,3,qE,[(.normal,qS [Uk 0,Uk 2,Uk 3] [(2,Uo),(6,zac),(8,uaf)])]⟩,⟨22,4,qE,[(.normal,qS [Uk 0,Uk 2,Uk 3] [(2,Uo),(6,zac),(8,uaf)])]⟩]⟩
def sS:Ctr:=⟨29,8,[.ptr ⟨2,0,[]⟩ [0]],[(2,Uo)],[⟨uaf,[.agg 8],[(2,Uo)]⟩],ap2 jB⟩
theorem zN:Lk 7 sS:=ls Ai (aC fw (aC ou (aC t8 aN)))
def mM(a0:List (Int))(a1:Int):Option (T1O):=
let x0:List (Int):=[8,4];
(iZ x0 a0 a1).bind λ(x1,x2,x3,x4,x5,x6,_)=>
(dJ 6 x5 x6).bind λ(x7,x8,x9,_)=>
(dJ 3 x8 x9).bind λ(ac,ae,af,_)=>
bif(ac==0)then((gc 5 ae af).bind λ(ag,ah,ai,_)=>
((dJ 5 ah ai).bind λ(aj,ak,am,_)=>
bif(aj==0)then((dJ 4 ak am).bind λ(an,ap,aq,_)=>
some (ap,aq,0,0,0,0,(),0,false,x1,x2,x3,x4,ag,an,(x7==0),()))else
some (ak,am,0,0,0,0,(),0,false,x1,x2,x3,x4,ag,(-1),(x7==0),()):Option (T2z)).bind λ(aj,ak,am,an,ap,aq,av,ax,ay,az,aA,aB,aD,aE,aF,aG,_)=>
some (az,aA,aB,aD,aE,aF,aG,aj,ak,()))else
((dJ 5 ae af).bind λ(ag,ah,ai,_)=>
bif(ag==0)then((dJ 4 ah ai).bind λ(aj,ak,am,_)=>
some (ak,am,0,0,0,0,(),0,false,x1,x2,x3,x4,[],aj,(x7==0),()))else
some (ah,ai,0,0,0,0,(),0,false,x1,x2,x3,x4,[],(-1),(x7==0),()):Option (T2z)).bind λ(ag,ah,ai,aj,ak,am,an,ap,aq,av,ax,ay,az,aA,aB,aD,_)=>
some (av,ax,ay,az,aA,aB,aD,ag,ah,())
def CP:X.Cfg:=⟨E0,[md,fu,p8],[],[⟨4,0,qE,[(.normal,qS [Uk 0,Uk 2,Uk 3] [(2,Uo),(6,Zab),(8,yag)])]⟩]⟩
def uK:Ctr:=⟨30,9,[.ptr ⟨2,0,[]⟩ [0]],[(2,Uo)],[⟨yag,[.agg 7],[(2,Uo)]⟩],ap2 mM⟩
theorem B5:Lk 7 uK:=ls CP (aC ou (aC fw (aC t8 aN)))
def lY(a0:List (Int))(a1:Int):Option (Int×Int×Int×Int×Int×Int×Int×Int×Int×LDCn×LDCn×T1O):=
let x0:List (Int):=[1,1,2,2,3,4,0];
(dJ 7 a0 a1).bind λ(x1,x2,x3,_)=>
(eq x1).bind λx4=>
(dM x0 x4).bind λx5=>
(dM x0 x4).bind λx6=>
(dJ 4 x2 x3).bind λ(x7,x8,x9,_)=>
(bif(x6==1)then((dJ 64 x8 x9).bind λ(ac,ae,af,_)=>
let ag:=w64 (1+ac);
(jB ae af).bind λ(ah,ai,aj,ak,am,an,ap,aq,av,ax,_)=>
some (av,ax,0,0,0,0,0,0,0,0,0,(),(),0,0,0,0,(),0,false,x6,ah,ag,ah,ai,aj,ak,am,an,ap,aq,0,0,0,0,[],0,false,()))else
bif(x6==2)then((jB x8 x9).bind λ(ac,ae,af,ag,ah,ai,aj,ak,am,an,_)=>
(mM am an).bind λ(ap,aq,av,ax,ay,az,aA,aB,aD,_)=>
some (aB,aD,0,0,0,0,0,0,0,0,0,(),(),0,0,0,0,(),0,false,x6,ac,0,ac,ae,af,ag,ah,ai,aj,ak,ap,aq,av,ax,ay,az,aA,()))else
bif(x6==4)then(let ac:List (Int):=[8,4];
(iZ ac x8 x9).bind λ(ae,af,ag,ah,ai,aj,_)=>
some (ai,aj,0,0,0,0,0,0,0,0,0,(),(),0,0,0,0,(),0,false,x6,x7,0,0,0,0,0,0,0,[],[],ae,af,ag,ah,[],(-1),false,()))else
some (x8,x9,0,0,0,0,0,0,0,0,0,(),(),0,0,0,0,(),0,false,x6,x7,0,0,0,0,0,0,0,[],[],0,0,0,0,[],0,false,()):Option (LI×Int×Int×Int×Int×Int×Int×Int×Int×Int×Int×Unit×Unit×Int×Int×Int×Int×Unit×Int×Bool×T2B)).bind λ(ac,ae,af,ag,ah,ai,aj,ak,am,an,ap,aq,av,ax,ay,az,aA,aB,aD,aE,aF,aG,aH,aI,aJ,aK,aL,aM,aO,aP,aQ,aR,aS,aT,aU,aV,aW,aY,_)=>
some (aF,aG,aH,aI,aJ,aK,aL,aM,aO,aP,aQ,aR,aS,aT,aU,aV,aW,aY,ac,ae,())
def EU:X.Cfg:=⟨E0,[fu,sS,uK,md],[],[⟨2,0,qE,[(.normal,(qS [Uk 0,Uk 2,Uk 3] [(2,Uo),(6,uL [I64,I64,I64,I64,I64,I64,I64,I64,I64,N1,N1,CB,CW,I64,I64,N1,I64,.bool]),(8,Zah)]))]⟩]⟩
def wX:Ctr:=⟨11,10,[.ptr ⟨2,0,[]⟩ [0]],[(2,Uo)],[⟨Zah,[.agg 18],[(2,Uo)]⟩],ap2 lY⟩
theorem Eb:Lk 8 wX:=ls EU (aC fw (aC zN (aC B5 (aC ou aN))))
def qP:T0z->Option (T0z⊕(Int×Bool×T0p)):=λ(v0,v1,v2,v3,_)=>
bif(decide (v0>0))then(let x0:List (Int):=[6,12,32];
(dJ 3 v1 v2).bind λ(x1,x2,x3,_)=>
(eq x1).bind λx4=>
(dM x0 x4).bind λx5=>
(dM x0 x4).bind λx6=>
(dJ x6 x2 x3).bind λ(x7,x8,x9,_)=>
let ac:=w64 (1+x7);
bif(dW 8 v3.length (List.length [ac]))then let ae:List (Int):=(List.append v3 [ac]);
let af:=w64 (v0-1);
some (.inl (af,x8,x9,ae,()))else none)else
some (.inr (v0,false,v1,v2,v3,()))
def of(a0:List (Int))(a1:Int):Option (LI×T07):=
(dJ 9 a0 a1).bind λ(x0,x1,x2,_)=>
let x3:=w64 (4+x0);
(dJ 4 x1 x2).bind λ(x4,x5,x6,_)=>
(dZ qP NN (x4,x5,x6,[x3],())).bind λ(x7,x8,x9,ac,ae,_)=>
some (ae,x9,ac,())
def ES:X.Cfg:=⟨E0,[fu],[],[(lx 4 0 [Uk 0,Un 3 9,Ul 4] [(2,Uo),(9,Uaa)] 12)]⟩
def wV:Ctr:=⟨79,11,[.ptr ⟨2,0,[]⟩ [0]],[(2,Uo)],[⟨Uaa,[.one],[(2,Uo)]⟩],ap2 of⟩
theorem D9:Lk 4 wV:=ls ES (aC fw aN)
def qO:T0z->Option (T0z⊕(Int×Bool×T0p)):=λ(v0,v1,v2,v3,_)=>
bif(decide (v0>0))then((gP v1 v2).bind λ(x0,x1,x2,_)=>
bif(dW 2 v3.length (List.length [x0]))then let x3:List (Int):=(List.append v3 [x0]);
let x4:=w64 (v0-1);
some (.inl (x4,x1,x2,x3,()))else none)else
some (.inr (v0,false,v1,v2,v3,()))
def gl(a0:Int)(a1:List (Int))(a2:Int):Option (LI×T07):=
let x0:=w64 (a0+1);
(dJ x0 a1 a2).bind λ(x1,x2,x3,_)=>
(dZ qO NN (x1,x2,x3,[],())).bind λ(x4,x5,x6,x7,x8,_)=>
some (x8,x6,x7,())
def ER:X.Cfg:=⟨E0,[fu,nP],[],[(lx 4 0 [Uk 0,Un 5 13,Ul 6] [(2,Uo),(13,uL [(Ui CW)])] 12)]⟩
def rO:Ctr:=⟨80,12,[.ptr ⟨2,0,[]⟩ [0],shU I64],[(2,Uo)],[⟨uL [(Ui CW)],[.one],[(2,Uo)]⟩],ap3 gl⟩
theorem wt:Lk 5 rO:=ls ER (aC fw (aC pT aN))
def iW(a0:Int)(a1:Int):Option (T0R):=
some (1,a0,0,0,a1,())
def Pw:X.Cfg:=⟨E0,[],[],[]⟩
def GM:Ctr:=⟨82,13,Zaa,[],[⟨Xab,[.agg 5],[]⟩],ap2 iW⟩
theorem La:Lk 1 GM:=ls Pw aN
def iq(a0:Int):Option (T0R):=
some (23,0,0,0,a0,())
def Nj:X.Cfg:=⟨E0,[],[],[]⟩
def Db:Ctr:=⟨83,14,zab,[],[⟨Xab,[.agg 5],[]⟩],ap1 iq⟩
theorem Hx:Lk 1 Db:=ls Nj aN
def mJ(a0:Int)(a1:Int):Option (T0R):=
some (2,a0,a1,0,0,())
def Nk:X.Cfg:=⟨E0,[],[],[]⟩
def HY:Ctr:=⟨107,15,Zaa,[],[⟨Xab,[.agg 5],[]⟩],ap2 mJ⟩
theorem Na:Lk 1 HY:=ls Nk aN
def j3(a0:Int):Option (T0r):=
(bif(a0==1)then(some (a0,true,false,false,false,false,()))else
bif(a0==15)then(some (a0,true,false,false,false,false,()))else
bif(a0==19)then(some (a0,true,false,false,false,false,()))else
bif(a0==20)then(some (a0,true,false,false,false,false,()))else
some (a0,(a0==21),false,false,false,false,()):Option (Int×Bool×T0r)).bind λ(x0,x1,_)=>
bif x1 then(some (true,false,false,true,()))else
bif(x0==2)then(some (true,true,false,false,()))else
bif(x0==16)then(some (true,true,false,true,()))else
bif(x0==17)then(some (true,true,false,true,()))else
bif(x0==18)then(some (false,false,false,true,()))else
bif(x0==23)then(some (false,false,false,true,()))else
bif(x0==22)then(some (true,false,false,false,()))else
bif(x0==0)then(some (false,false,false,false,()))else
bif(x0==24)then(some (false,false,false,false,()))else
some (true,true,true,false,())
def EI:X.Cfg:=⟨E0,[],[],[⟨3,0,qE,[(.normal,qS [Uk 2,Ul 3,Um 4] [(6,yae)])]⟩]⟩
def rH:Ctr:=⟨134,16,zab,[],[⟨yae,[.agg 4],[]⟩],ap1 j3⟩
theorem wn:Lk 1 rH:=ls EI aN
def ie(a0:Int):Option (Bool×Unit):=
bif(a0==18)then(some (true,()))else
bif(a0==19)then(some (true,()))else
bif(a0==20)then(some (true,()))else
some ((a0==21),())
def EJ:X.Cfg:=⟨E0,[],[],[]⟩
def ke:Ctr:=⟨84,17,zab,[],[⟨Up,[.one],[]⟩],ap1 ie⟩
theorem ma:Lk 1 ke:=ls EJ aN
def og(a0:Int)(a1:Int)(a2:List (Int))(a3:Int):Option (Int×Int×Int×T0x):=
(dJ 25 a2 a3).bind λ(x0,x1,x2,_)=>
(j3 x0).bind λ(x3,x4)=>
(bif x3 then((dJ 8 x1 x2).bind λ(x7,x8,x9,_)=>
some (a0,a1,x8,x9,0,0,0,0,0,x0,x7,0,0,0,x3,x4))else
some (a0,a1,x1,x2,0,0,0,0,0,x0,0,0,0,0,x3,x4):Option (T2C)).bind λ(x7,x8,x9,ac,ae,af,ag,ah,ai,aj,ak,am,an,ap,aq,av,ax)=>
(bif av then((dJ 8 x9 ac).bind λ(az,aA,aB,_)=>
some (x7,x8,aA,aB,ae,af,ag,ah,ai,aj,ak,az,an,ap,aq,av,ax))else
some (x7,x8,x9,ac,ae,af,ag,ah,ai,aj,ak,am,an,ap,aq,av,ax):Option (T2C)).bind λ(az,aA,aB,aD,aE,aF,aG,aH,aI,aJ,aK,aL,aM,aO,aP,aQ,aR,aS,_)=>
(bif aR then((dJ 8 aB aD).bind λ(aT,aU,aV,_)=>
some (az,aA,aU,aV,aE,aF,aG,aH,aI,aJ,aK,aL,aT,aO,aP,aQ,aR,aS,()))else
some (az,aA,aB,aD,aE,aF,aG,aH,aI,aJ,aK,aL,aM,aO,aP,aQ,aR,aS,()):Option (T2C)).bind λ(aT,aU,aV,aW,aY,aZ,ba,bc,bd,bf,bg,bh,bi,bj,bk,bl,bm,bn,_)=>
((ie bf).bind λ(bo,_)=>
bif bo then((dJ aU aV aW).bind λ(bp,bq,bt,_)=>
some (bq,bt,aY,aZ,ba,bc,bd,bf,bg,bh,bi,bp,()))else
bif(bf==15)then((dJ aT aV aW).bind λ(bp,bq,bt,_)=>
some (bq,bt,aY,aZ,ba,bc,bd,bf,bg,bh,bi,bp,()))else
bif(bf==23)then((dJ 16 aV aW).bind λ(bp,bq,bt,_)=>
some (bq,bt,aY,aZ,ba,bc,bd,bf,bg,bh,bi,bp,()))else
bif bn then((gP aV aW).bind λ(bp,bq,bt,_)=>
let bv:=wk .i64 bp;
some (bq,bt,aY,aZ,ba,bc,bd,bf,bg,bh,bi,bv,()))else
some (aV,aW,aY,aZ,ba,bc,bd,bf,bg,bh,bi,bj,()):Option (LI×Int×Int×T1M)).bind λ(bo,bp,bq,bt,bv,bx,bz,bA,bB,bC,bD,bE,_)=>
some (bA,bB,bC,bD,bE,bo,bp,())
def ET:X.Cfg:=⟨E0,[fu,rH,ke,nP],[],[⟨3,0,qE,[(.normal,qS [Uk 0,Ul 1,Ul 2,Uk 6,Uk 7,Uk 8] [(2,Uo),(14,Xab),(16,Xab),(18,yae)])]⟩,⟨5,1,qE,[(.normal,qS [Uk 0,Ul 1,Ul 2,Uk 6,Uk 7,Uk 8] [(2,Uo),(14,Xab),(16,Xab),(18,yae)])]⟩,⟨7,2,qE,[(.normal,qS [Uk 0,Ul 1,Ul 2,Uk 6,Uk 7,Uk 8] [(2,Uo),(14,Xab),(16,Xab),(18,yae)])]⟩,⟨9,3,qE,[(.normal,qS [Uk 0,Uk 6,Uk 7] [(2,Uo),(14,Xab),(16,Xab)])]⟩]⟩
def wW:Ctr:=⟨108,18,[.ptr ⟨2,0,[]⟩ [0],shU I64,shU I64],[(2,Uo)],[⟨Xab,[.agg 5],[(2,Uo)]⟩],ap4 og⟩
theorem Ea:Lk 5 wW:=ls ET (aC fw (aC wn (aC ma (aC pT aN))))
def pH(a0:List (Int))(a1:Int)(a2:Int)(a3:List (Int))(a4:Int):Option (LDIn×T07):=
let x0:=dQ a0.length;
(dJ x0 a3 a4).bind λ(x1,x2,x3,_)=>
(eq x1).bind λx4=>
(dM a0 x4).bind λx5=>
let x6:=w64 (x5+1);
let x7:=mmR false 5 x6;
(dJ x7 x2 x3).bind λ(x8,x9,ac,_)=>
(iW 2 x8).bind λ(ae,af,ag,ah,ai,_)=>
let aj:LDIn:=[(15,(1,(0,(0,x1)))),(ae,(af,(ag,(ah,ai))))];
(dJ 20 x9 ac).bind λ(ak,am,an,_)=>
bif(ak==0)then((dJ 3 am an).bind λ(ap,aq,av,_)=>
let ax:=w64 (3+ap);
(gP aq av).bind λ(ay,az,aA,_)=>
let aB:=wk .i64 ay;
(iW ax aB).bind λ(aD,aE,aF,aG,aH,_)=>
let aI:LDIn:=[(aD,(aE,(aF,(aG,aH))))];
some (aI,az,aA,()))else
bif(ak==1)then(let ap:List (Int):=[3,4,5,10,13,14,11,9];
(dJ 8 am an).bind λ(aq,av,ax,_)=>
(eq aq).bind λay=>
(dM ap ay).bind λaz=>
(dM ap ay).bind λaA=>
(dJ 3 av ax).bind λ(aB,aD,aE,_)=>
let aF:=w64 (3+aB);
(dJ 3 aD aE).bind λ(aG,aH,aI,_)=>
let aJ:=w64 (3+aG);
(dJ 3 aH aI).bind λ(aK,aL,aM,_)=>
let aO:=w64 (3+aK);
let aP:LDIn:=[(aA,(aF,(aJ,(aO,0))))];
some (aP,aL,aM,()))else
bif(ak==2)then(let ap:LDIn:=[(15,(6,(0,(0,x1))))];
some (ap,am,an,()))else
bif(ak==3)then((dJ 5 am an).bind λ(ap,aq,av,_)=>
let ax:=w64 (3+ap);
(eq x1).bind λay=>
(dM a0 ay).bind λaz=>
(dJ az aq av).bind λ(aA,aB,aD,_)=>
let aE:LDIn:=[(15,(6,(0,(0,x1)))),(17,(6,(ax,(0,aA))))];
some (aE,aB,aD,()))else
bif(ak==4)then((dJ 5 am an).bind λ(ap,aq,av,_)=>
let ax:=w64 (3+ap);
(eq x1).bind λay=>
(dM a0 ay).bind λaz=>
(dJ az aq av).bind λ(aA,aB,aD,_)=>
let aE:LDIn:=[(15,(6,(0,(0,x1)))),(17,(6,(ax,(0,aA))))];
some (aE,aB,aD,()))else
bif(ak==5)then((dJ 4 am an).bind λ(ap,aq,av,_)=>
let ax:=w64 (3+ap);
(eq x1).bind λay=>
(dM a0 ay).bind λaz=>
(dJ az aq av).bind λ(aA,aB,aD,_)=>
let aE:LDIn:=[(15,(6,(0,(0,x1)))),(16,(ax,(6,(0,aA))))];
some (aE,aB,aD,()))else
bif(ak==6)then((dJ 4 am an).bind λ(ap,aq,av,_)=>
let ax:=w64 (3+ap);
(eq x1).bind λay=>
(dM a0 ay).bind λaz=>
(dJ az aq av).bind λ(aA,aB,aD,_)=>
let aE:LDIn:=[(15,(6,(0,(0,x1)))),(16,(ax,(6,(0,aA))))];
some (aE,aB,aD,()))else
bif(ak==7)then((dJ 3 am an).bind λ(ap,aq,av,_)=>
(iW 0 ap).bind λ(ax,ay,az,aA,aB,_)=>
let aD:LDIn:=[(ax,(ay,(az,(aA,aB))))];
bif(dW 40 aD.length aj.length)then let aE:LDIn:=(List.append aD aj);
(iq 13).bind λ(aF,aG,aH,aI,aJ,_)=>
let aK:LDIn:=[(aF,(aG,(aH,(aI,aJ))))];
bif(dW 40 aE.length aK.length)then let aL:LDIn:=(List.append aE aK);
some (aL,aq,av,())else none else none)else
bif(ak==8)then((dJ 3 am an).bind λ(ap,aq,av,_)=>
(iW 0 ap).bind λ(ax,ay,az,aA,aB,_)=>
let aD:LDIn:=[(ax,(ay,(az,(aA,aB))))];
bif(dW 40 aD.length aj.length)then let aE:LDIn:=(List.append aD aj);
(iq 13).bind λ(aF,aG,aH,aI,aJ,_)=>
let aK:LDIn:=[(aF,(aG,(aH,(aI,aJ))))];
bif(dW 40 aE.length aK.length)then let aL:LDIn:=(List.append aE aK);
some (aL,aq,av,())else none else none)else
bif(ak==9)then((dJ 3 am an).bind λ(ap,aq,av,_)=>
(iW 0 ap).bind λ(ax,ay,az,aA,aB,_)=>
let aD:LDIn:=[(ax,(ay,(az,(aA,aB))))];
bif(dW 40 aD.length aj.length)then let aE:LDIn:=(List.append aD aj);
(iq 14).bind λ(aF,aG,aH,aI,aJ,_)=>
(mJ 3 0).bind λ(aK,aL,aM,aO,aP,_)=>
let aQ:LDIn:=[(aF,(aG,(aH,(aI,aJ)))),(aK,(aL,(aM,(aO,aP))))];
bif(dW 40 aE.length aQ.length)then let aR:LDIn:=(List.append aE aQ);
some (aR,aq,av,())else none else none)else
bif(ak==10)then((dJ 3 am an).bind λ(ap,aq,av,_)=>
(iW 0 ap).bind λ(ax,ay,az,aA,aB,_)=>
(dJ 4 aq av).bind λ(aD,aE,aF,_)=>
(iW 1 aD).bind λ(aG,aH,aI,aJ,aK,_)=>
(iq 3).bind λ(aL,aM,aO,aP,aQ,_)=>
(mJ 7 0).bind λ(aR,aS,aT,aU,aV,_)=>
let aW:LDIn:=[(ax,(ay,(az,(aA,aB)))),(aG,(aH,(aI,(aJ,aK)))),(aL,(aM,(aO,(aP,aQ)))),(aR,(aS,(aT,(aU,aV))))];
some (aW,aE,aF,()))else
bif(ak==11)then((mJ 0 7).bind λ(ap,aq,av,ax,ay,_)=>
let az:LDIn:=[(ap,(aq,(av,(ax,ay))))];
bif(dW 40 az.length aj.length)then let aA:LDIn:=(List.append az aj);
let aB:List (Int):=[1,2];
(dJ 2 am an).bind λ(aD,aE,aF,_)=>
(eq aD).bind λaG=>
(dM aB aG).bind λaH=>
(dM aB aG).bind λaI=>
(iq aI).bind λ(aJ,aK,aL,aM,aO,_)=>
let aP:LDIn:=[(aJ,(aK,(aL,(aM,aO))))];
bif(dW 40 aA.length aP.length)then let aQ:LDIn:=(List.append aA aP);
some (aQ,aE,aF,())else none else none)else
bif(ak==12)then((mJ 0 7).bind λ(ap,aq,av,ax,ay,_)=>
(iq 4).bind λ(az,aA,aB,aD,aE,_)=>
let aF:LDIn:=[(ap,(aq,(av,(ax,ay)))),(az,(aA,(aB,(aD,aE))))];
(mJ 0 7).bind λ(aG,aH,aI,aJ,aK,_)=>
(dJ 4 am an).bind λ(aL,aM,aO,_)=>
(iW 1 aL).bind λ(aP,aQ,aR,aS,aT,_)=>
(iq 5).bind λ(aU,aV,aW,aY,aZ,_)=>
let ba:LDIn:=[(aG,(aH,(aI,(aJ,aK)))),(aP,(aQ,(aR,(aS,aT)))),(aU,(aV,(aW,(aY,aZ))))];
let bc:List LDIn:=[aF,ba];
(dJ 2 aM aO).bind λ(bd,bf)=>
(eq bd).bind λbh=>
(dM bc bh).bind λbi=>
(dM bc bh).bind λbj=>
(dM bc bh).bind λbk=>
some (bk,bf))else
bif(ak==13)then(let ap:List (Int):=[6,7,15];
(dJ 3 am an).bind λ(aq,av,ax,_)=>
(eq aq).bind λay=>
(dM ap ay).bind λaz=>
(dM ap ay).bind λaA=>
(iq aA).bind λ(aB,aD,aE,aF,aG,_)=>
(dJ 3 av ax).bind λ(aH,aI,aJ,_)=>
let aK:=w64 (3+aH);
(mJ aK 0).bind λ(aL,aM,aO,aP,aQ,_)=>
let aR:LDIn:=[(aB,(aD,(aE,(aF,aG)))),(aL,(aM,(aO,(aP,aQ))))];
some (aR,aI,aJ,()))else
bif(ak==14)then((dJ 3 am an).bind λ(ap,aq,av,_)=>
(iW 0 ap).bind λ(ax,ay,az,aA,aB,_)=>
let aD:List (Int):=[8,9];
(dJ 2 aq av).bind λ(aE,aF,aG,_)=>
(eq aE).bind λaH=>
(dM aD aH).bind λaI=>
(dM aD aH).bind λaJ=>
(iq aJ).bind λ(aK,aL,aM,aO,aP,_)=>
let aQ:LDIn:=[(ax,(ay,(az,(aA,aB)))),(aK,(aL,(aM,(aO,aP))))];
some (aQ,aF,aG,()))else
bif(ak==15)then((dJ 3 am an).bind λ(ap,aq,av,_)=>
(iW 0 ap).bind λ(ax,ay,az,aA,aB,_)=>
let aD:List (Int):=[8,9];
(dJ 2 aq av).bind λ(aE,aF,aG,_)=>
(eq aE).bind λaH=>
(dM aD aH).bind λaI=>
(dM aD aH).bind λaJ=>
(iq aJ).bind λ(aK,aL,aM,aO,aP,_)=>
let aQ:LDIn:=[(ax,(ay,(az,(aA,aB)))),(aK,(aL,(aM,(aO,aP))))];
some (aQ,aF,aG,()))else
bif(ak==16)then((dJ a1 am an).bind λ(ap,aq,av,_)=>
(iW 0 ap).bind λ(ax,ay,az,aA,aB,_)=>
(mJ 1 3).bind λ(aD,aE,aF,aG,aH,_)=>
(iq 10).bind λ(aI,aJ,aK,aL,aM,_)=>
let aO:LDIn:=[(ax,(ay,(az,(aA,aB)))),(aD,(aE,(aF,(aG,aH)))),(aI,(aJ,(aK,(aL,aM))))];
some (aO,aq,av,()))else
bif(ak==17)then(let ap:List (Int):=[a1,5];
(dJ 2 am an).bind λ(aq,av,ax,_)=>
(eq aq).bind λay=>
(dM ap ay).bind λaz=>
(dM ap ay).bind λaA=>
(dJ aA av ax).bind λ(aB,aD,aE,_)=>
(iW 0 aB).bind λ(aF,aG,aH,aI,aJ,_)=>
let aK:List (Int):=[12,11];
(dJ 2 aD aE).bind λ(aL,aM,aO,_)=>
(eq aL).bind λaP=>
(dM aK aP).bind λaQ=>
(dM aK aP).bind λaR=>
(iq aR).bind λ(aS,aT,aU,aV,aW,_)=>
let aY:LDIn:=[(aF,(aG,(aH,(aI,aJ)))),(aS,(aT,(aU,(aV,aW))))];
some (aY,aM,aO,()))else
bif(ak==18)then((dJ 4 am an).bind λ(ap,aq,av,_)=>
let ax:=w64 (1+ap);
(iW 5 ax).bind λ(ay,az,aA,aB,aD,_)=>
(iW 4 1).bind λ(aE,aF,aG,aH,aI,_)=>
let aJ:=w64 (a2+2);
let aK:LDIn:=[(ay,(az,(aA,(aB,aD)))),(aE,(aF,(aG,(aH,aI)))),(4,(5,(5,(4,0)))),(20,(5,(0,(0,aJ))))];
some (aK,aq,av,()))else
let ap:=dQ a0.length;
(og ap a1 am an).bind λ(aq,av,ax,ay,az,aA,aB,_)=>
let aD:LDIn:=[(aq,(av,(ax,(ay,az))))];
some (aD,aA,aB,())
def Gp:X.Cfg:=⟨E0,[fu,GM,nP,Db,HY,wW],[(156,(Ui KIn))],[]⟩
def zo:Ctr:=⟨81,19,[.ptr ⟨2,0,[]⟩ [0],shU RI,shU I64,shU I64],[(2,Uo)],[⟨uL [gS],[.one],[(2,Uo)]⟩],ap5 pH⟩
theorem F6:Lk 6 zo:=ls Gp (aC fw (aC La (aC pT (aC Hx (aC Na (aC Ea aN))))))
def oL:T26->Option (T26⊕(Int×Int×Bool×T1I)):=λ(v0,v1,v2,v3,v4,v5,v6,v7,v8,v9,_)=>
bif(decide (v1<v0))then((eq v1).bind λx0=>
(dM v8 x0).bind λx1=>
(dM v8 x0).bind λx2=>
(gl x2 v2 v3).bind λ(x3,x4,x5,_)=>
bif(dW 24 v9.length (List.length [x3]))then let x6:List LI:=(List.append v9 [x3]);
let x7:=w64 (v1+1);
some (.inl (v0,x7,x4,x5,v4,v5,v6,v7,v8,x6,()))else none)else
some (.inr (v0,v1,false,v2,v3,v4,v5,v6,v7,v8,v9,()))
def oK:T1R->Option (T1R⊕T22):=λ(v0,v1,v2,v3,v4,v5,v6,v7,v8,_)=>
bif(decide (v0>0))then((let x0:Int:=(dQ v6.length);
let x1:=w64 (x0+1);
let x2:=dQ v6.length;
(pH v7 x1 x2 v1 v2).bind λ(x3,x4,x5,_)=>
let x6:=dQ v6.length;
let x7:=dQ x3.length;
let x8:=w64 (x6+x7);
bif(decide (x8<=62))then(bif(dW 40 v6.length x3.length)then let x9:LDIn:=(List.append v6 x3);
some (v0,x4,x5,v3,v4,v5,x9,v7,v8,())else none)else
some (v0,x4,x5,v3,v4,v5,v6,v7,v8,()):Option (T1R)).bind λ(x0,x1,x2,x3,x4,x5,x6,x7,x8,_)=>
let x9:=w64 (x0-1);
some (.inl (x9,x1,x2,x3,x4,x5,x6,x7,x8,())))else
some (.inr (v0,false,v1,v2,v3,v4,v5,v6,v7,v8,()))
def g8:T25->Option (T25⊕(Int×T22)):=λ(v0,v1,v2,v3,v4,v5,v6,v7,v8)=>
bif(decide (v1<v0))then(((eq v1).bind λx0=>
(dM v7 x0).bind λx1=>
(ie x1.1).bind λ(x2,_)=>
bif x2 then((eq v1).bind λx3=>
(dM v7 x3).bind λx4=>
let x5:=dQ v7.length;
bif(decide (x4.2.2.2.2>=x5))then((eq v1).bind λx6=>
(dM v7 x6).bind λx7=>
none)else
some (v0,v1,v2,v3,v4,v5,v6,v7,v8))else
some (v0,v1,v2,v3,v4,v5,v6,v7,v8):Option (T25)).bind λ(x0,x1,x2,x3,x4,x5,x6,x7,x8)=>
let ac:=w64 (x1+1);
some (.inl (x0,ac,x2,x3,x4,x5,x6,x7,x8)))else
some (.inr (v0,v1,false,v2,v3,v4,v5,v6,v7,v8))
def lH(a0:List (Int))(a1:Int):Option (LDIn×LI×LLI×T07):=
(of a0 a1).bind λ(x0,x1,x2,_)=>
let x3:=dQ x0.length;
(dZ oL NN (x3,0,x1,x2,(),(),(),(),x0,[],())).bind λ(x4,x5,x6,x7,x8,x9,ac,ae,af,ag)=>
(dJ 12 x7 x8).bind λ(ai,aj,ak,_)=>
let am:=w64 (1+ai);
(dZ oK NN (am,aj,ak,x9,ac,ae,[],ag)).bind λ(an,ap,aq,av,ax,ay,az,aA,aB)=>
((dJ 4 aq av).bind λ(aE,aF,aG,_)=>
bif(aE==0)then(let aH:Int:=(dQ aA.length);
let aI:=w64 (aH+1);
(dJ aI aF aG).bind λ(aJ,aK,aL,_)=>
let aM:LDIn:=[(18,(0,(0,(0,aJ))))];
bif(dW 40 aA.length aM.length)then let aO:LDIn:=(List.append aA aM);
some (aK,aL,ax,ay,az,aO,aB)else none)else
bif(aE==1)then(let aH:LDIn:=[(24,(0,(0,(0,0))))];
bif(dW 40 aA.length aH.length)then let aI:LDIn:=(List.append aA aH);
some (aF,aG,ax,ay,az,aI,aB)else none)else
some (aF,aG,ax,ay,az,aA,aB):Option (T1H)).bind λ(aE,aF,aG,aH,aI,aJ,aK,aL,_)=>
(dJ 9 aE aF).bind λ(aM,aO,aP,_)=>
(iW 0 aM).bind λ(aQ,aR,aS,aT,aU,_)=>
(iq 0).bind λ(aV,aW,aY,aZ,ba,_)=>
let bc:LDIn:=[(aQ,(aR,(aS,(aT,aU)))),(aV,(aW,(aY,(aZ,ba))))];
bif(dW 40 aJ.length bc.length)then let bd:LDIn:=(List.append aJ bc);
let bf:=dQ bd.length;
bif(decide (bf>64))then(bif(gF 0 64 bd.length)then let bg:LDIn:=(my bd 0 (Nat.sub 64 0));
let bh:=dQ bg.length;
(dZ g8 NN (bh,0,aO,aP,aG,aH,aI,bg,aK,aL,())).bind λ(bi,bj,bk,bl,bm,bn,bo,bp,bq,bt,bv,_)=>
some (bq,bt,bv,bl,bm,())else none)else
let bg:=dQ bd.length;
(dZ g8 NN (bg,0,aO,aP,aG,aH,aI,bd,aK,aL,())).bind λ(bh,bi,bj,bk,bl,bm,bn,bo,bp,bq,bt,_)=>
some (bp,bq,bt,bk,bl,())else none
def Aj:X.Cfg:=⟨E0,[wV,rO,fu,zo,GM,Db,ke],[(24,(Ui CW)),(25,(Ui CW))],[(lx 4 0 [Uk 0,Uk 2,Uk 3,(13,.pk ⟨8,1,[]⟩ [0,0]),Ul 14,Ul 15] [(2,Uo),(6,zae),(8,uL [N1,(Ui I64),(Ui (Ui CW))])] 16),⟨14,1,qE,[(.normal,qS [Uk 0,Uk 2,Uk 3,Ul 6] [(2,Uo),(6,zae),(8,zag)])]⟩,⟨11,2,qS [Uk 0,Uk 2,Uk 3,Ul 6] [(2,Uo),(6,zae),(8,zag)],[(.exit 2,qS [Uk 0,Uk 2,Uk 3,Ul 6,Um 32] [(2,Uo),(6,zae),(8,zag)])]⟩,⟨17,3,qE,[(.normal,qS [Uk 0,Uk 2,Uk 3] [(2,Uo),(6,zae),(8,zag)])]⟩,⟨29,4,qE,[(.normal,qS [Uk 0,Uk 2,Uk 3,Ul 101,Ul 102] [(2,Uo),(6,zae),(8,Uag)])]⟩,⟨26,5,qS [Uk 0,Uk 2,Uk 3,Ul 101,Ul 102] [(2,Uo),(6,zae),(8,Uag)],[(.exit 5,qS [Uk 0,Uk 2,Uk 3,Ul 101,Ul 102,Um 103] [(2,Uo),(6,zae),(8,Uag)])]⟩]⟩
def sT:Ctr:=⟨51,20,[.ptr ⟨2,0,[]⟩ [0]],[(2,Uo)],[⟨Uag,[.agg 3],[(2,Uo)]⟩],ap2 lH⟩
theorem zO:Lk 7 sT:=ls Aj (aC D9 (aC wt (aC fw (aC F6 (aC La (aC Hx (aC ma aN)))))))
def mi:LI×T0n->Option ((LI×T0n)⊕((Bool×Unit)⊕(LI×LI×T0d))):=λ(v0,v1,v2,v3,_)=>
bif(decide (v3<v2))then((eq v3).bind λx0=>
(dM v1 x0).bind λx1=>
bif(decide (x1<1))then(some (.inr (.inl (false,()))))else
bif(decide (x1>32))then(some (.inr (.inl (false,()))))else
let x2:=w64 (v3+1);
some (.inl (v0,v1,v2,x2,())))else
some (.inr (.inr (v0,v1,v2,v3,false,())))
def io(a0:List (Int)):Option (Bool×Unit):=
let x0:=dQ a0.length;
(match dZ mi NN (a0,a0,x0,0,())with
|none=>none
|some (.inl (x1,_))=>
some (x1,())
|some (.inr (x1,_))=>
let x6:=dQ x1.length;
bif(decide (x6>=1))then(let x7:Int:=(dQ x1.length);
some ((decide (x7<=4)),()))else
some (false,()))
def CI:X.Cfg:=⟨E0,[],[],[⟨3,0,qS [sP 0 RI,sP 5 RI,Ul 6,Ul 7] [],[(.ret,qS [Um 2] []),(.exit 0,qS [sP 0 RI,sP 5 RI,Ul 6,Ul 7,Um 8] [])]⟩]⟩
def mZ:Ctr:=⟨118,21,uL [RI],[],[⟨Up,[.one],[]⟩],ap1 io⟩
theorem pS:Lk 1 mZ:=ls CI aN
def qL:T29->Option (T29⊕(LI×Int×Int×Int×Int×Int×Bool×T0I)):=λ(v0,v1,v2,v3,v4,v5,v6,v7,v8,v9,_)=>
bif(decide (v5<v4))then(let x0:Int:=(w64 (v5+v1));
bif(v2 != 0)then let x1:Int:=(Int.tmod x0 v2);
(eq x1).bind λx2=>
(dM v8 x2).bind λx3=>
(dM v8 x2).bind λx4=>
let x5:=List.modify v8 x2 λe=>v3;
(eq x1).bind λx6=>
(dM v0 x6).bind λx7=>
let x8:=w64 (x7+1);
let x9:=w64 (50*v2);
bif(x9 != 0)then let ac:Int:=(w64 (Int.tdiv v1 x9));
let ae:=Int.tmod ac 40;
let af:=w64 (x8+ae);
let ag:=w64 (v3+af);
let ah:=w64 (v5+1);
some (.inl (v0,v1,v2,ag,v4,ah,v6,v7,x5,v9,()))else none else none)else
some (.inr (v0,v1,v2,v3,v4,v5,false,v6,v7,v8,v9,()))
def od(a0:List (Int))(a1:Int):Option (T0n):=
((io a0).bind λ(x0,_)=>
bif(!x0)then(some (a0,a1,true,(),0,()))else
bif(decide (a1<0))then(some (a0,a1,true,(),0,()))else
some (a0,a1,(decide (a1>1073741824)),(),0,()):Option (LI×Int×Bool×Unit×Int×Unit)).bind λ(x0,x1,x2,x3,x4,_)=>
bif x2 then(some ([],0,1,()))else
let x5:=dQ x0.length;
(eq x5).bind λx6=>
(eq x5).bind λx7=>
bif(qW x6 x7 1)then let x8:List (Int):=(List.replicate x6 0);
let x9:=w64 (40503*x1);
let ac:=wk .u16 x9;
bif(x5 != 0)then let ae:Int:=(w64 (Int.tdiv x1 x5));
let af:=Int.tmod ae 50;
let ag:=w64 (1+af);
(dZ qL NN (x0,x1,x5,ag,x5,0,x3,x4,x8,ac,())).bind λ(ah,ai,aj,ak,am,an,ap,aq,av,ax,ay,_)=>
some (ax,ay,0,())else none else none
def EO:X.Cfg:=⟨E0,[mZ],[],[⟨2,0,qE,[(.normal,(qS [sP 0 RI,Ul 1,Uk 4,Um 21] [(10,uL [N1,CW])]))]⟩,(lx 9 1 [sP 0 RI,Ul 1,Uk 4,Ul 6,Uk 7,Ul 8,Ul 36,Ul 37] [(10,uL [N1,CW]),(16,uL [(Ui I64),CW])] 38)]⟩
def wU:Ctr:=⟨90,22,Uo,[],[⟨uL [(Ui I64),CW,I64],[.agg 2,.one],[]⟩],ap2 od⟩
theorem D8:Lk 2 wU:=ls EO (aC pS aN)
def mN(a0:List (Int))(a1:List (Int))(a2:Int):Option (LI×T0h):=
(dJ 1048576 a1 a2).bind λ(x0,x1)=>
(od a0 x0).bind λ(x3,x4,x5,_)=>
some (x3,x4,x1)
def CQ:X.Cfg:=⟨E0,[fu,wU],[],[]⟩
def uM:Ctr:=⟨53,23,[.ptr ⟨2,0,[]⟩ [0],shU RI],[(2,Uo)],[⟨uL [(Ui I64),CW],[.agg 2],[(2,Uo)]⟩],ap3 mN⟩
theorem B6:Lk 4 uM:=ls CQ (aC fw (aC D8 aN))
def ic(a0:Int)(a1:Int)(a2:Int)(a3:Int):Option (Bool×Unit):=
bif(a0==0)then(bif(a2==0)then(some ((a3==0),()))else
some (false,()))else
bif(a0==2)then(bif(a2==0)then(some ((a3==0),()))else
some (false,()))else
bif(a0==1)then(bif(a2==(-1))then(bif(a1==0)then(bif(decide (a3>=0))then(some ((decide (a3<=65535)),()))else
some (false,()))else
some (false,()))else
bif(a1==0)then(bif(decide (a2>=0))then(bif(decide (a2<4))then(bif(decide (a3>=0))then(some ((decide (a3<32)),()))else
some (false,()))else
some (false,()))else
some (false,()))else
some (false,()))else
some (false,())
def ED:X.Cfg:=⟨E0,[],[],[]⟩
def rD:Ctr:=⟨70,24,[.agg Xad],[],[⟨Up,[.one],[]⟩],ap4 ic⟩
theorem wi:Lk 1 rD:=ls ED aN
def gH:LDCn×Int×T0j->Option ((LDCn×Int×T0j)⊕((Bool×Unit)⊕(LDCn×Int×T0A))):=λ(v0,v1,v2,v3,v4,_)=>
bif(decide (v4<v3))then((eq v4).bind λx0=>
(dM v2 x0).bind λx1=>
(ic x1.1 x1.2.1 x1.2.2.1 x1.2.2.2).bind λ(x2,_)=>
bif(!x2)then(some (.inr (.inl (false,()))))else
let x3:=w64 (v4+1);
some (.inl (v0,v1,v2,v3,x3,())))else
some (.inr (.inr (v0,v1,v2,v3,v4,false,())))
def fH(a0:LDCn)(a1:Int):Option (Bool×Unit):=
let x0:=dQ a0.length;
(match dZ gH NN (a0,a1,a0,x0,0,())with
|none=>none
|some (.inl (x1,_))=>
some (x1,())
|some (.inr (x1,x2,_))=>
let x7:=dQ x1.length;
some ((decide (x7<=x2)),()))
def Cq:X.Cfg:=⟨E0,[rD],[],[⟨3,0,qS [sP 0 ej,Ul 1,sP 7 ej,Ul 8,Ul 9] [],[(.ret,qS [Um 4] []),(.exit 0,qS [sP 0 ej,Ul 1,sP 7 ej,Ul 8,Ul 9,Um 10] [])]⟩]⟩
def jo:Ctr:=⟨69,25,uL [ej,I64],[],[⟨Up,[.one],[]⟩],ap2 fH⟩
theorem kT:Lk 2 jo:=ls Cq (aC wi aN)
def jJ:T0Y->Option (T0Y⊕((Bool×Unit)⊕(LLCn×T0Q))):=λ(v0,v1,v2,v3)=>
bif(decide (v2<v1))then((eq v2).bind λx0=>
(dM v0 x0).bind λx1=>
(fH x1 64).bind λ(x2,_)=>
bif(!x2)then(some (.inr (.inl (false,()))))else
let x3:=w64 (v2+1);
some (.inl (v0,v1,x3,v3)))else
some (.inr (.inr (v0,v1,v2,false,v3)))
def mf:LDOp×T0y->Option ((LDOp×T0y)⊕((Bool×Unit)⊕(LDOp×T0Q))):=λ(v0,v1,v2,v3,v4,_)=>
bif(decide (v2<v1))then((eq v2).bind λx0=>
(dM v0 x0).bind λx1=>
(bif(x1.1==(-1))then(bif(x1.2.1 != 0)then(some (v0,v1,v2,true,v3,v4,x1.1,x1.2.1,x1.2.2,()))else
bif x1.2.2 then(some (v0,v1,v2,true,v3,v4,x1.1,x1.2.1,x1.2.2,()))else
bif(decide (x1.1<(-1)))then(some (v0,v1,v2,true,v3,v4,x1.1,x1.2.1,x1.2.2,()))else
let x2:=dQ v3.length;
bif(decide (x1.1>=x2))then(some (v0,v1,v2,true,v3,v4,x1.1,x1.2.1,x1.2.2,()))else
bif(decide (x1.1>=0))then(bif(decide (x1.2.1<0))then(some (v0,v1,v2,true,v3,v4,x1.1,x1.2.1,x1.2.2,()))else
(eq x1.1).bind λx3=>
(dM v3 x3).bind λx4=>
let x5:=dQ x4.length;
some (v0,v1,v2,(decide (x1.2.1>x5)),v3,v4,x1.1,x1.2.1,x1.2.2,()))else
some (v0,v1,v2,false,v3,v4,x1.1,x1.2.1,x1.2.2,()))else
bif(decide (x1.1<(-1)))then(some (v0,v1,v2,true,v3,v4,x1.1,x1.2.1,x1.2.2,()))else
let x2:=dQ v3.length;
bif(decide (x1.1>=x2))then(some (v0,v1,v2,true,v3,v4,x1.1,x1.2.1,x1.2.2,()))else
bif(decide (x1.1>=0))then(bif(decide (x1.2.1<0))then(some (v0,v1,v2,true,v3,v4,x1.1,x1.2.1,x1.2.2,()))else
(eq x1.1).bind λx3=>
(dM v3 x3).bind λx4=>
let x5:=dQ x4.length;
some (v0,v1,v2,(decide (x1.2.1>x5)),v3,v4,x1.1,x1.2.1,x1.2.2,()))else
some (v0,v1,v2,false,v3,v4,x1.1,x1.2.1,x1.2.2,()):Option (LDOp×Int×Int×Bool×LLCn×LDOp×T0d)).bind λ(x2,x3,x4,x5,x6,x7,_)=>
bif x5 then(some (.inr (.inl (false,()))))else
let ae:=w64 (x4+1);
some (.inl (x2,x3,ae,x6,x7,())))else
some (.inr (.inr (v0,v1,v2,false,v3,v4,())))
def kx(a0:List LDCn)(a1:LDOp):Option (Bool×Unit):=
let x0:=dQ a0.length;
bif(decide (x0>4))then(some (false,()))else
let x1:=dQ a1.length;
bif(x1 != 8)then(some (false,()))else
let x2:=dQ a0.length;
(match dZ jJ NN (a0,x2,0,a0,a1,())with
|none=>none
|some (.inl (x3,_))=>
some (x3,())
|some (.inr (x3,x4,x5,x6,x7,x8,_))=>
let x9:=dQ x8.length;
(match dZ mf NN (x8,x9,0,x7,x8,())with
|none=>none
|some (.inl (ac,_))=>
some (ac,())
|some (.inr (ac,_))=>
some (true,())))
def Ci:X.Cfg:=⟨E0,[jo],[],[⟨6,0,qS [Uk 1,sP 18 (Uj ej),Ul 19,Ul 20] [(4,Uab)],[(.ret,qS [Um 2] []),(.exit 0,qS [Uk 1,sP 18 (Uj ej),Ul 19,Ul 20,Um 21] [(4,Uab)])]⟩,⟨20,1,qE,[(.normal,qS [Uk 1,sP 29 iI,Ul 30,Ul 31,Um 81] [(4,Uab),(14,Xag)])]⟩,⟨15,2,qS [Uk 1,sP 29 iI,Ul 30,Ul 31] [(4,Uab)],[(.ret,qS [Um 2] []),(.exit 2,qS [Uk 1,sP 29 iI,Ul 30,Ul 31,Um 32] [(4,Uab)])]⟩]⟩
def pX:Ctr:=⟨112,26,[.agg Uab],[],[⟨Up,[.one],[]⟩],ap2 kx⟩
theorem tV:Lk 3 pX:=ls Ci (aC kT aN)
def sA:T1v->Option (T1v⊕(LLI×Int×Int×Bool×T0M)):=λ(v0,v1,v2,v3,v4,v5,v6,_)=>
bif(decide (v2<v1))then((eq v2).bind λx0=>
(dM v6 x0).bind λx1=>
(dM v6 x0).bind λx2=>
let x3:=(List.modify v6 x0 λe=>((-1),e.2));
let x4:=w64 (v2+1);
some (.inl (v0,v1,x4,v3,v4,v5,x3,())))else
some (.inr (v0,v1,v2,false,v3,v4,v5,v6,()))
def sy:T2j->Option (T2j⊕(LLI×Int×Int×LI×Int×Int×Bool×T11)):=λ(v0,v1,v2,v3,v4,v5,v6,v7,v8,v9,v10,_)=>
bif(decide (v5<v4))then((eq v5).bind λx0=>
(dM v3 x0).bind λx1=>
let x2:LDCn:=[(0,(x1,(0,0)))];
bif(dW 24 v10.length x2.length)then let x3:LDCn:=(List.append v10 x2);
let x4:=w64 (v5+1);
some (.inl (v0,v1,v2,v3,v4,x4,v6,v7,v8,v9,x3,()))else none)else
some (.inr (v0,v1,v2,v3,v4,v5,false,v6,v7,v8,v9,v10,()))
def sx:T1u->Option (T1u⊕(LLI×T1j)):=λ(v0,v1,v2,v3,v4,v5,v6,_)=>
bif(decide (v2<v1))then((eq v2).bind λx0=>
(dM v0 x0).bind λx1=>
let x2:=dQ x1.length;
(dZ sy NN (v0,v1,v2,x1,x2,0,v3,v4,v5,v6,[],())).bind λ(x3,x4,x5,x6,x7,x8,x9,ac,ae,af,ag,ah,_)=>
bif(dW 24 af.length (List.length [ah]))then let ai:List LDCn:=(List.append af [ah]);
let aj:=w64 (x5+1);
some (.inl (x3,x4,aj,ac,ae,ai,ag,()))else none)else
some (.inr (v0,v1,v2,false,v3,v4,v5,v6,()))
def pA(a0:List LI):Option (LLCn×LDOp×Int×Unit):=
bif(qW 8 8 3)then let x0:LDOp:=(List.replicate 8 (0,(0,false)));
let x1:=dQ x0.length;
(dZ sA NN (a0,x1,0,(),(),(),x0,())).bind λ(x2,x3,x4,x5,x6,x7,x8,x9,_)=>
let ac:=dQ x2.length;
(dZ sx NN (x2,ac,0,x6,x7,[],x9,())).bind λ(ae,af,ag,ah,ai,aj,ak,am,_)=>
(kx ak am).bind λ(an,_)=>
bif(!an)then(some ([],[],3,()))else
some (ak,am,0,())else none
def Ga:X.Cfg:=⟨E0,[pX],[(46,(Ui KCn)),(47,(Ui KCn))],[(lx 4 0 [sP 0 (Uj RW),Uk 2,Uk 4,Ul 15,Ul 16] [(6,uaa),(10,uL [N1,(Ui KOp)])] 17),⟨19,1,qS [Uk 2,Uk 4,Un 8 19,sP 25 (Uj RW),Ul 26,Ul 27,sP 31 RW,Ul 32,Ul 33] [(6,uaa),(10,Xac),(19,uae)],[(.exit 4,qS [Uk 2,Uk 4,Un 8 19,sP 25 (Uj RW),Ul 26,Ul 27,sP 31 RW,Ul 32,Ul 33,Um 34] [(6,uaa),(10,Xac),(19,uae)])]⟩,⟨11,2,qS [Uk 2,Uk 4,sP 25 (Uj RW),Ul 26,Ul 27] [(6,uaa),(10,Xac)],[(.exit 2,qS [Uk 2,Uk 4,sP 25 (Uj RW),Ul 26,Ul 27,Um 28] [(6,uaa),(10,Xac)])]⟩]⟩
def zh:Ctr:=⟨119,27,uL [(Uj RW)],[],[⟨uai,[.agg 2,.one],[]⟩],ap1 pA⟩
theorem FZ:Lk 4 zh:=ls Ga (aC tV aN)
def fR:LLI×Int×Int×LLI×Unit->Option ((LLI×Int×Int×LLI×Unit)⊕(LLI×Int×Int×Bool×LLI×Unit)):=λ(v0,v1,v2,v3,_)=>
bif(decide (v2<v1))then((eq v2).bind λx0=>
(dM v0 x0).bind λx1=>
bif(dW 2 0 x1.length)then let x2:List (Int):=(List.append [] x1);
bif(dW 24 v3.length (List.length [x2]))then let x3:List LI:=(List.append v3 [x2]);
let x4:=w64 (v2+1);
some (.inl (v0,v1,x4,x3,()))else none else none)else
some (.inr (v0,v1,v2,false,v3,()))
def fV(a0:List LI):Option (LLI×Unit):=
let x0:=dQ a0.length;
(dZ fR NN (a0,x0,0,[],())).bind λ(x1,x2,x3,x4,x5,_)=>
some (x5,())
def ud:X.Cfg:=⟨E0,[],[(15,(Ui CW)),(16,(Ui CW))],[(lx 4 0 [Un 3 9,sP 6 (Uj RW),Ul 7,Ul 8] [(9,Zag)] 9)]⟩
def iE:Ctr:=⟨115,28,uL [(Uj RW)],[],[⟨Zag,[.one],[]⟩],ap1 fV⟩
theorem kS:Lk 1 iE:=ls ud aN
def iC:LDOu×T02->Option ((LDOu×T02)⊕((Bool×Unit)⊕(LDOu×T0d))):=λ(v0,v1,v2,_)=>
bif(decide (v2<v1))then((eq v2).bind λx0=>
(dM v0 x0).bind λx1=>
(bif(x1.1 != v2)then(some (v0,v1,v2,true,()))else
bif(decide (x1.2.1<0))then(some (v0,v1,v2,true,()))else
bif(decide (x1.2.1>=2))then(some (v0,v1,v2,true,()))else
let x2:=dQ x1.2.2.length;
some (v0,v1,v2,(decide (x2>16)),()):Option (LDOu×T0d)).bind λ(x2,x3,x4,x5,_)=>
bif x5 then(some (.inr (.inl (false,()))))else
let x6:=w64 (x4+1);
some (.inl (x2,x3,x6,())))else
some (.inr (.inr (v0,v1,v2,false,())))
def kv(a0:LDOu):Option (Bool×Unit):=
let x0:=dQ a0.length;
(match dZ iC NN (a0,x0,0,())with
|none=>none
|some (.inl (x1,_))=>
some (x1,())
|some (.inr (x1,_))=>
some (true,()))
def yE:X.Cfg:=⟨E0,[],[],[⟨8,0,qE,[(.normal,qS [sP 5 ll,Ul 6,Ul 7,Um 31] [])]⟩,⟨3,1,qS [sP 5 ll,Ul 6,Ul 7] [],[(.ret,qS [Um 2] []),(.exit 0,qS [sP 5 ll,Ul 6,Ul 7,Um 8] [])]⟩]⟩
def ru:Ctr:=⟨113,29,uL [ll],[],[⟨Up,[.one],[]⟩],ap1 kv⟩
theorem yk:Lk 1 ru:=ls yE aN
def jI:T1Z->Option (T1Z⊕((Bool×Unit)⊕(LLI×T1J))):=λ(v0,v1,v2,v3)=>
bif(decide (v2<v1))then((eq v2).bind λx0=>
(dM v0 x0).bind λx1=>
let x2:=dQ x1.length;
bif(decide (x2>64))then(some (.inr (.inl (false,()))))else
let x3:=w64 (v2+1);
some (.inl (v0,v1,x3,v3)))else
some (.inr (.inr (v0,v1,v2,false,v3)))
def jH:T1U->Option (T1U⊕((Bool×Unit)⊕(LDOu×T1J))):=λ(v0,v1,v2,v3)=>
bif(decide (v2<v1))then((eq v2).bind λx0=>
(dM v0 x0).bind λx1=>
(fH x1.2.2 16).bind λ(x2,_)=>
bif(!x2)then(some (.inr (.inl (false,()))))else
let x3:=w64 (v2+1);
some (.inl (v0,v1,x3,v3)))else
some (.inr (.inr (v0,v1,v2,false,v3)))
def jg(a0:List (Int))(a1:List (Int))(a2:List LI)(a3:List LDCn)(a4:LDOp)(a5:LDOu):Option (Bool×Unit):=
let x0:=dQ a2.length;
(match dZ jI NN (a2,x0,0,a0,a1,a2,a3,a4,a5,())with
|none=>none
|some (.inl (x1,_))=>
some (x1,())
|some (.inr (x1,x2,x3,x4,x5,x6,x7,x8,x9,ac,_))=>
let ae:=dQ ac.length;
(match dZ jH NN (ac,ae,0,x5,x6,x7,x8,x9,ac,())with
|none=>none
|some (.inl (af,_))=>
some (af,())
|some (.inr (af,ag,ah,ai,aj,ak,am,an,ap,aq,_))=>
let av:=dQ aj.length;
bif(decide (av<=64))then(let ax:Int:=(dQ ak.length);
bif(decide (ax<=64))then(let ay:Int:=(dQ am.length);
bif(decide (ay<=2))then((kx an ap).bind λ(az,_)=>
bif az then(let aA:Int:=(dQ aq.length);
bif(decide (aA<=200))then((kv aq).bind λ(aB,_)=>
some (aB,()))else
some (false,()))else
some (false,()))else
some (false,()))else
some (false,()))else
some (false,())))
def Cf:X.Cfg:=⟨E0,[jo,pX,ru],[],[⟨3,0,qS [Uk 1,sP 8 (Uj RW),Ul 9,Ul 10] [(4,Zad)],[(.ret,qS [Um 2] []),(.exit 0,qS [Uk 1,sP 8 (Uj RW),Ul 9,Ul 10,Um 11] [(4,Zad)])]⟩,⟨12,1,qS [Uk 1,sP 19 ll,Ul 20,Ul 21] [(4,Zad)],[(.ret,qS [Um 2] []),(.exit 2,qS [Uk 1,sP 19 ll,Ul 20,Ul 21,Um 22] [(4,Zad)])]⟩]⟩
def mU:Ctr:=⟨86,30,[.agg Zad],[],[⟨Up,[.one],[]⟩],ap6 jg⟩
theorem pM:Lk 4 mU:=ls Cf (aC kT (aC tV (aC yk aN)))
def pz(a0:List LI)(a1:List LI)(a2:List (Int))(a3:List (Int)):Option (LI×LI×LLI×LLCn×LDOp×Unit×Int×Unit):=
(pA a0).bind λ(x0,x1,x2,_)=>
bif(x2 != 0)then(some ([],[],[],[],[],(),x2,()))else
bif(dW 2 0 a2.length)then let x3:List (Int):=(List.append [] a2);
bif(dW 2 0 a3.length)then let x4:List (Int):=(List.append [] a3);
(fV a1).bind λ(x5,_)=>
(jg x3 x4 x5 x0 x1 []).bind λ(x6,_)=>
bif(!x6)then(some ([],[],[],[],[],(),3,()))else
some (x3,x4,x5,x0,x1,(),0,())else none else none
def Cg:X.Cfg:=⟨E0,[zh,iE,mU],[],[]⟩
def uo:Ctr:=⟨91,31,uL [(Uj RW),(Uj RW),RW,RW],[],[⟨uL [RW,RW,(Uj RW),(Uj ej),iI,N1,I64],[.agg 6,.one],[]⟩],ap4 pz⟩
theorem BH:Lk 5 uo:=ls Cg (aC FZ (aC kS (aC pM aN)))
def lI(a0:List (Int))(a1:Int):Option (LI×LI×LLI×LLCn×LDOp×Unit×T07):=
(gl 5 a0 a1).bind λ(x0,x1,x2,_)=>
(gl 3 x1 x2).bind λ(x3,x4,x5,_)=>
let x6:List LI:=[x0,x3];
(gl 8 x4 x5).bind λ(x7,x8,x9,_)=>
(gl 4 x8 x9).bind λ(ac,ae,af,_)=>
let ag:List LI:=[x7,ac];
(gl 5 ae af).bind λ(ah,ai,aj,_)=>
(gl 5 ai aj).bind λ(ak,am)=>
(pz x6 ag ah ak).bind λ(ap,aq,av,ax,ay,az,aA,_)=>
some (ap,aq,av,ax,ay,az,am)
def Ak:X.Cfg:=⟨E0,[rO,uo],[(10,(Ui CW)),(15,(Ui CW))],[]⟩
def sU:Ctr:=⟨54,32,[.ptr ⟨2,0,[]⟩ [0]],[(2,Uo)],[⟨uL [RW,RW,(Uj RW),(Uj ej),iI,N1],[.agg 6],[(2,Uo)]⟩],ap2 lI⟩
theorem zP:Lk 6 sU:=ls Ak (aC wt (aC BH aN))
def jO:T2m->Option (T2m⊕((Bool×Unit)⊕T2s)):=λ(v0,v1,v2,v3,v4,v5,v6,v7,v8,v9,v10,v11,_)=>
bif(decide (v1<v0))then((eq v1).bind λx0=>
(dM v11 x0).bind λx1=>
(dM v11 x0).bind λx2=>
(bif(decide (x2<0))then(some (v0,v1,true,v2,v3,v4,v5,v6,v7,v8,v9,v10,v11,()))else
bif(decide (x2>=8))then(some (v0,v1,true,v2,v3,v4,v5,v6,v7,v8,v9,v10,v11,()))else
(eq v1).bind λx3=>
bif(Nat.beq x3 0)then(bif(!v7)then(some (v0,v1,(x2 != 0),v2,v3,v4,v5,v6,v7,v8,v9,v10,v11,()))else
some (v0,v1,false,v2,v3,v4,v5,v6,v7,v8,v9,v10,v11,()))else
bif(Nat.beq x3 1)then(bif(!v8)then(some (v0,v1,(x2 != 0),v2,v3,v4,v5,v6,v7,v8,v9,v10,v11,()))else
some (v0,v1,false,v2,v3,v4,v5,v6,v7,v8,v9,v10,v11,()))else
bif(Nat.beq x3 2)then(bif(!v9)then(some (v0,v1,(x2 != 0),v2,v3,v4,v5,v6,v7,v8,v9,v10,v11,()))else
some (v0,v1,false,v2,v3,v4,v5,v6,v7,v8,v9,v10,v11,()))else
bif(Nat.beq x3 3)then bif(!v10)then(some (v0,v1,(x2 != 0),v2,v3,v4,v5,v6,v7,v8,v9,v10,v11,()))else
some (v0,v1,false,v2,v3,v4,v5,v6,v7,v8,v9,v10,v11,())else none:Option (T2s)).bind λ(x3,x4,x5,x6)=>
bif x5 then(some (.inr (.inl (false,()))))else
let aj:=w64 (x4+1);
some (.inl (x3,aj,x6)))else
some (.inr (.inr (v0,v1,false,v2,v3,v4,v5,v6,v7,v8,v9,v10,v11,())))
def mH(a0:Int)(a1:Int)(a2:Int)(a3:Int)(a4:Int):Option (Bool×Unit):=
bif(decide (a0<0))then(some (false,()))else
bif(decide (a0>24))then(some (false,()))else
(j3 a0).bind λ(x0,x1,x2,x3,_)=>
let x4:List (Int):=[a1,a2,a3];
let x5:=dQ x4.length;
(match dZ jO NN (x5,0,a0,a1,a2,a3,a4,x0,x1,x2,x3,x4,())with
|none=>none
|some (.inl (x6,_))=>
some (x6,())
|some (.inr (x6,x7,x8,x9,ac,ae,af,ag,ah,ai,aj,ak,am,_))=>
(bif(decide (ag<0))then(some (true,x9,ac,ae,af,ag,()))else
bif(decide (ag>65535))then(some (true,x9,ac,ae,af,ag,()))else
bif(!ak)then(some ((ag != 0),x9,ac,ae,af,ag,()))else
some (false,x9,ac,ae,af,ag,()):Option (Bool×T0R)).bind λ(an,ap,aq,av,ax,ay,_)=>
bif an then(some (false,()))else
(ie ap).bind λ(az,_)=>
bif az then(some ((decide (ay<64)),()))else
bif(ap==15)then(some ((decide (ay<4)),()))else
bif(ap==23)then(some ((decide (ay<=15)),()))else
some (true,()))
def CA:X.Cfg:=⟨E0,[rH,ke],[],[⟨12,0,qE,[(.normal,qS [Uk 1,Uk 3,Un 23 49,Ul 24,Ul 25,Um 45] [(4,Xab),(8,yae),(49,Uaa)])]⟩,⟨7,1,qS [Uk 1,Uk 3,Un 23 49,Ul 24,Ul 25] [(4,Xab),(8,yae),(49,Uaa)],[(.ret,qS [Um 2] []),(.exit 0,qS [Uk 1,Uk 3,Un 23 49,Ul 24,Ul 25,Um 26] [(4,Xab),(8,yae),(49,Uaa)])]⟩,⟨15,2,qE,[(.normal,qS [Uk 1,Um 64] [(4,Xab)])]⟩]⟩
def uB:Ctr:=⟨135,33,[.agg Xab],[],[⟨Up,[.one],[]⟩],ap5 mH⟩
theorem BU:Lk 2 uB:=ls CA (aC wn (aC ma aN))
def jN:LLI×T0S->Option ((LLI×T0S)⊕((Int×Unit)⊕(LLI×T14))):=λ(v0,v1,v2,v3,v4,v5,_)=>
bif(decide (v2<v1))then((eq v2).bind λx0=>
(dM v0 x0).bind λx1=>
let x2:=dQ x1.length;
(eq v2).bind λx3=>
(dM v4 x3).bind λx4=>
bif(decide (x2>x4))then(some (.inr (.inl (1,()))))else
let x5:=w64 (v2+1);
some (.inl (v0,v1,x5,v3,v4,v5,())))else
some (.inr (.inr (v0,v1,v2,false,v3,v4,v5,())))
def jM:T1b->Option (T1b⊕((Int×Unit)⊕T1t)):=λ(v0,v1,v2,v3)=>
bif(decide (v2<v1))then((eq v2).bind λx0=>
(dM v0 x0).bind λx1=>
(mH x1.1 x1.2.1 x1.2.2.1 x1.2.2.2.1 x1.2.2.2.2).bind λ(x2,_)=>
bif(!x2)then(some (.inr (.inl (5,()))))else
let x3:=w64 (v2+1);
some (.inl (v0,v1,x3,v3)))else
some (.inr (.inr (v0,v1,v2,false,v3)))
def jL:T1b->Option (T1b⊕((Int×Unit)⊕T1t)):=λ(v0,v1,v2,v3,v4,v5,_)=>
bif(decide (v2<v1))then((eq v2).bind λx0=>
(dM v0 x0).bind λx1=>
((ie x1.1).bind λ(x2,_)=>
bif x2 then(let x3:Int:=(dQ v3.length);
bif(decide (x1.2.2.2.2>=x3))then(some (v0,v1,v2,true,v3,v4,v5,()))else
bif(x1.1==15)then(let x4:Int:=(dQ v4.length);
some (v0,v1,v2,(decide (x1.2.2.2.2>=x4)),v3,v4,v5,()))else
some (v0,v1,v2,false,v3,v4,v5,()))else
bif(x1.1==15)then(let x3:Int:=(dQ v4.length);
some (v0,v1,v2,(decide (x1.2.2.2.2>=x3)),v3,v4,v5,()))else
some (v0,v1,v2,false,v3,v4,v5,()):Option (T1t)).bind λ(x2,x3,x4,x5,x6)=>
bif x5 then(some (.inr (.inl (6,()))))else
let x9:=w64 (x4+1);
some (.inl (x2,x3,x9,x6)))else
some (.inr (.inr (v0,v1,v2,false,v3,v4,v5,())))
def kE(a0:LDIn)(a1:List (Int))(a2:List LI):Option (Int×Unit):=
(io a1).bind λ(x0,_)=>
bif(!x0)then(some (1,()))else
let x1:=dQ a2.length;
let x2:=dQ a1.length;
bif(x1 != x2)then(some (1,()))else
let x3:=dQ a2.length;
(match dZ jN NN (a2,x3,0,a0,a1,a2,())with
|none=>none
|some (.inl (x4,_))=>
some (x4,())
|some (.inr (x4,x5,x6,x7,x8,x9))=>
let ae:=dQ x8.length;
bif(decide (ae<1))then(some (3,()))else
let af:=dQ x8.length;
bif(decide (af>64))then(some (3,()))else
let ag:=dQ x8.length;
(match dZ jM NN (x8,ag,0,x8,x9)with
|none=>none
|some (.inl (ah,_))=>
some (ah,())
|some (.inr (ah,ai,aj,ak,am,an))=>
let aq:=dQ am.length;
(match dZ jL NN (am,aq,0,am,an)with
|none=>none
|some (.inl (av,_))=>
some (av,())
|some (.inr (av,_))=>
some (0,()))))
def Cz:X.Cfg:=⟨E0,[mZ,uB,ke],[],[⟨6,0,qS [Uk 1,sP 23 (Uj RW),Ul 24,Ul 25] [(4,Uq)],[(.ret,qS [Ul 2] []),(.exit 0,qS [Uk 1,sP 23 (Uj RW),Ul 24,Ul 25,Um 26] [(4,Uq)])]⟩,⟨18,1,qS [Uk 1,sP 50 gS,Ul 51,Ul 52] [(4,Uq)],[(.ret,qS [Ul 2] []),(.exit 2,qS [Uk 1,sP 50 gS,Ul 51,Ul 52,Um 53] [(4,Uq)])]⟩,⟨32,2,qE,[(.normal,qS [Uk 1,sP 61 gS,Ul 62,Ul 63,Um 90] [(4,Uq)])]⟩,⟨27,3,qS [Uk 1,sP 61 gS,Ul 62,Ul 63] [(4,Uq)],[(.ret,qS [Ul 2] []),(.exit 4,qS [Uk 1,sP 61 gS,Ul 62,Ul 63,Um 64] [(4,Uq)])]⟩]⟩
def pY:Ctr:=⟨109,34,[.agg Uq],[],[⟨zab,[.one],[]⟩],ap3 kE⟩
theorem tW:Lk 3 pY:=ls Cz (aC pS (aC BU (aC ma aN)))
def jR:T2i->Option (T2i⊕((Bool×Unit)⊕T2q)):=λ(v0,v1,v2,v3,v4,v5,v6,v7,v8,v9)=>
bif(decide (v8<v7))then((match((eq v8).bind λx0=>
(dM v6 x0).bind λx1=>
(eq v1).bind λx2=>
(dM v0 x2).bind λx3=>
let x4:=w64 (v2+x3);
bif(decide (x4>=x1))then((eq v8).bind λx5=>
(dM v0 x5).bind λx6=>
let x7:=w64 (x1+x6);
bif(decide (x7>=v2))then(some (.inl (false,())))else
some (.inr (v0,v1,v2,v3,v4,v5,v6,v7,v8,false,v9)))else
some (.inr (v0,v1,v2,v3,v4,v5,v6,v7,v8,false,v9)):Option ((Bool×Unit)⊕T2q))with
|none=>none
|some (.inl (x0,_))=>
some (.inr (.inl (x0,())))
|some (.inr (x0,x1,x2,x3,x4,x5,x6,x7,x8,x9,ac))=>
let af:=w64 (x8+1);
some (.inl (x0,x1,x2,x3,x4,x5,x6,x7,af,ac))))else
some (.inr (.inr (v0,v1,v2,v3,v4,v5,v6,v7,v8,false,v9)))
def jQ:LI×T0W->Option ((LI×T0W)⊕((Bool×Unit)⊕(LI×T1c))):=λ(v0,v1,v2,v3,v4,v5,_)=>
bif(decide (v3<v2))then((eq v3).bind λx0=>
(dM v1 x0).bind λx1=>
bif(decide (x1<0))then(some (.inr (.inl (false,()))))else
(eq v3).bind λx2=>
(dM v0 x2).bind λx3=>
let x4:=w64 (512-x3);
bif(decide (x1>x4))then(some (.inr (.inl (false,()))))else
(eq v3).bind λx5=>
bif(gF 0 x5 v4.length)then let x6:List (Int):=(my v4 0 (Nat.sub x5 0));
let x7:=dQ x6.length;
(match dZ jR NN (v0,v3,x1,v1,v2,v3,x6,x7,0,v4,v5,())with
|none=>none
|some (.inl (x8,_))=>
some (.inr (.inl (x8,())))
|some (.inr (x8,x9,ac,ae,af,ag,ah,ai,aj,ak,am))=>
let ap:=w64 (ag+1);
some (.inl (x8,ae,af,ap,am)))else none)else
some (.inr (.inr (v0,v1,v2,v3,false,v4,v5,())))
def ji(a0:List (Int))(a1:Int)(a2:List (Int)):Option (Bool×Unit):=
(io a2).bind λ(x0,_)=>
bif(!x0)then(some (false,()))else
let x1:=dQ a0.length;
let x2:=dQ a2.length;
bif(x1 != x2)then(some (false,()))else
let x3:=dQ a0.length;
(match dZ jQ NN (a2,a0,x3,0,a0,a1,())with
|none=>none
|some (.inl (x4,_))=>
some (x4,())
|some (.inr (x4,_))=>
some (true,()))
def CG:X.Cfg:=⟨E0,[mZ],[],[⟨18,0,qE,[(.ret,qS [Um 4] []),(.normal,qS [sP 1 RI,Uk 2,Ul 5,Ul 6,sP 21 RI,Ul 22,Ul 23,sP 42 RI,Ul 43,Ul 44,Um 66] [(6,zaa)])]⟩,⟨15,1,qS [sP 1 RI,Uk 2,Ul 5,Ul 6,sP 21 RI,Ul 22,Ul 23,sP 42 RI,Ul 43,Ul 44] [(6,zaa)],[(.ret,qS [Um 4] []),(.exit 2,qS [sP 1 RI,Uk 2,Ul 5,Ul 6,sP 21 RI,Ul 22,Ul 23,sP 42 RI,Ul 43,Ul 44,Um 45] [(6,zaa)])]⟩,⟨6,2,qS [sP 1 RI,Uk 2,sP 21 RI,Ul 22,Ul 23] [(6,zaa)],[(.ret,qS [Um 4] []),(.exit 0,qS [sP 1 RI,Uk 2,sP 21 RI,Ul 22,Ul 23,Um 24] [(6,zaa)])]⟩]⟩
def mY:Ctr:=⟨110,35,[.agg zaa,shU RI],[],[⟨Up,[.one],[]⟩],ap3 ji⟩
theorem pR:Lk 2 mY:=ls CG (aC pS aN)
def xd:Int×Int×LDLn×Unit->Option ((Int×Int×LDLn×Unit)⊕(Int×Int×Bool×LDLn×Unit)):=λ(v0,v1,v2,_)=>
bif(decide (v1<v0))then((eq v1).bind λx0=>
(dM v2 x0).bind λx1=>
(dM v2 x0).bind λx2=>
let x3:=(List.modify v2 x0 λe=>((-1),e.2));
let x4:=w64 (v1+1);
some (.inl (v0,x4,x3,())))else
some (.inr (v0,v1,false,v2,()))
def pF:Option (LDLn×Unit):=
bif(qW 4 4 3)then let x0:LDLn:=(List.replicate 4 (0,(false,[])));
let x1:=dQ x0.length;
(dZ xd NN (x1,0,x0,())).bind λ(x2,x3,x4,x5,_)=>
some (x5,())else none
def CF:X.Cfg:=⟨E0,[],[(3,Rf)],[(lx 4 0 [Un 1 5,Ul 5,Ul 6] [(5,uL [mw])] 7)]⟩
def uD:Ctr:=⟨136,36,[],[],[⟨uL [mw],[.one],[]⟩],λh=>pF⟩
theorem BW:Lk 1 uD:=ls CF aN
def qK:T2x->Option (T2x⊕(Int×LLI×Int×Int×LI×T2l)):=λ(v0,v1,v2,v3,v4,v5,v6,v7,v8,v9,v10,v11,v12,v13,v14,v15,_)=>
bif(decide (v6<v5))then((eq v6).bind λx0=>
(dM v4 x0).bind λx1=>
(eq v0).bind λx2=>
(dM v10 x2).bind λx3=>
let x4:=w64 (x3+v6);
(eq x4).bind λx5=>
(dM v14 x5).bind λx6=>
(dM v14 x5).bind λx7=>
let x8:=List.modify v14 x5 λe=>(e.1,x1);
let x9:=w64 (v6+1);
some (.inl (v0,v1,v2,v3,v4,v5,x9,v7,v8,v9,v10,v11,v12,v13,x8,v15,())))else
some (.inr (v0,v1,v2,v3,v4,v5,v6,false,v7,v8,v9,v10,v11,v12,v13,v14,v15,()))
def nw:T2r->Option (T2r⊕(T0i⊕(LLI×T2l))):=λ(v0,v1,v2,v3,v4,v5)=>
bif(decide (v2<v1))then((eq v2).bind λx0=>
(dM v0 x0).bind λx1=>
let x2:=dQ x1.length;
(eq v2).bind λx3=>
(dM v4 x3).bind λx4=>
bif(decide (x2>x4))then(some (.inr (.inl (1,(),(),()))))else
let x5:=dQ x1.length;
(dZ qK NN (v2,v0,v1,v2,x1,x5,0,v3,v4,v5)).bind λ(x6,x7,x8,x9,ac,ae,af,ag,ah)=>
let ax:=w64 (x9+1);
some (.inl (x7,x8,ax,ah)))else
some (.inr (.inr (v0,v1,v2,false,v3,v4,v5)))
def oa(a0:LDIn)(a1:List (Int))(a2:List LI)(a3:List (Int))(a4:Int):Option (LDCe×LDLn×Int×Unit):=
(ji a3 a4 a1).bind λ(x0,_)=>
bif(!x0)then(some ([],[],1,()))else
let x1:=dQ a2.length;
let x2:=dQ a1.length;
bif(x1 != x2)then(some ([],[],1,()))else
bif(qW 512 512 2)then let x3:LDCe:=(List.replicate 512 (0,0));
(pF).bind λ(x4,_)=>
let x5:=dQ a2.length;
(match dZ nw NN (a2,x5,0,a0,a1,a2,a3,a4,(),(),x3,x4,())with
|none=>none
|some (.inl (x6,x7,x8,_))=>
some ([],[],x6,())
|some (.inr (x6,x7,x8,x9,ac,ae,af,ag,ah,ai,aj,ak,am,_))=>
some (ak,am,0,()))else none
def EM:X.Cfg:=⟨E0,[mY,uD],[],[⟨16,0,qS [Uk 2,Uk 3,Uk 4,Uk 6,Ul 7,sP 30 (Uj RW),Ul 31,Ul 32,sP 46 RW,Ul 47,Ul 48] [(6,Uq),(8,zaa),(10,uaa),(14,zad)],[(.exit 2,qS [Uk 2,Uk 3,Uk 4,Uk 6,Ul 7,sP 30 (Uj RW),Ul 31,Ul 32,sP 46 RW,Ul 47,Ul 48,Um 49] [(6,Uq),(8,zaa),(10,uaa),(14,zad)])]⟩,⟨7,1,qS [Uk 2,Uk 3,Uk 4,Uk 6,sP 30 (Uj RW),Ul 31,Ul 32] [(6,Uq),(8,zaa),(10,uaa),(14,zad)],[(.ret,qS [Uk 4,Ul 5] [(10,uaa)]),(.exit 0,qS [Uk 2,Uk 3,Uk 4,Uk 6,sP 30 (Uj RW),Ul 31,Ul 32,Um 33] [(6,Uq),(8,zaa),(10,uaa),(14,zad)])]⟩]⟩
def wS:Ctr:=⟨111,37,[.agg Uq,.agg zaa],[],[⟨uL [(Ui KCe),mw,I64],[.agg 2,.one],[]⟩],ap5 oa⟩
theorem D6:Lk 3 wS:=ls EM (aC pR (aC BW aN))
def qj:T2e->Option (T2e⊕(Int×Bool×T2b)):=λ(v0,v1,v2,v3,v4,v5,v6,v7,v8,v9,v10,_)=>
bif(decide (v0<4))then(bif(qW 8 8 2)then let x0:LDCe:=(List.replicate 8 (0,0));
(bif(v0==0)then(some (v0,v1,v2,v3,v4,v5,v6,v7,v8,v9,v10,1,x0,0,0,(-1),(-1),0,0,()))else
some (v0,v1,v2,v3,v4,v5,v6,v7,v8,v9,v10,0,x0,0,0,(-1),(-1),0,0,()):Option (Int×Unit×Int×Unit×Unit×Unit×T2t)).bind λ(x1,x2,x3,x4,x5,x6,x7,x8,x9,ac,ae,af,ag,ah,ai,aj,ak,am,an,_)=>
let ap:LDTh:=[(af,(ag,(ah,(ai,(aj,(ak,(am,an)))))))];
bif(dW 80 ae.length ap.length)then let aq:LDTh:=(List.append ae ap);
let av:=w64 (x1+1);
some (.inl (av,x2,x3,x4,x5,x6,x7,x8,x9,ac,aq,()))else none else none)else
some (.inr (v0,false,v1,v2,v3,v4,v5,v6,v7,v8,v9,v10,()))
def mG(a0:LDIn)(a1:List (Int))(a2:List LI)(a3:List (Int))(a4:Int):Option (LI×Int×LDCe×LDLn×LDTh×Int×Unit):=
(kE a0 a1 a2).bind λ(x0,_)=>
bif(x0 != 0)then(some ([],0,[],[],[],x0,()))else
(ji a3 a4 a1).bind λ(x1,_)=>
bif(!x1)then(some ([],0,[],[],[],1,()))else
(oa a0 a1 a2 a3 a4).bind λ(x2,x3,x4,_)=>
bif(dW 8 0 a3.length)then let x5:List (Int):=(List.append [] a3);
(dZ qj NN (0,(),0,(),(),(),x5,a4,x2,x3,[],())).bind λ(x6,x7,x8,x9,ac,ae,af,ag,ah,ai,aj,ak,_)=>
some (ag,ah,ai,aj,ak,0,())else none
def Cy:X.Cfg:=⟨E0,[pY,mY,wS],[(49,QZ),(50,QZ)],[⟨18,0,qE,[(.normal,qS [Uk 4,Uk 9,Uk 11,Ul 38] [(10,Zac),(20,yai),(24,Zaf)])]⟩,(lx 12 1 [Uk 4,Uk 9,Ul 38] [(10,Zac),(20,yai)] 39)]⟩
def uA:Ctr:=⟨85,38,[.agg Uq,.agg zaa],[],[⟨uL [RI,CW,gU,ja,tz,I64],[.agg 5,.one],[]⟩],ap5 mG⟩
theorem BT:Lk 4 uA:=ls Cy (aC tW (aC pR (aC D6 aN)))
def gj(a0:List (Int))(a1:Int)(a2:Int):Option (Bool×Unit):=
bif(decide (a1>=0))then(let x0:Int:=(dQ a0.length);
bif(decide (a1<x0))then(bif(decide (a2>=0))then((eq a1).bind λx1=>
(dM a0 x1).bind λx2=>
some ((decide (a2<x2)),()))else
some (false,()))else
some (false,()))else
some (false,())
def Ae:X.Cfg:=⟨E0,[],[],[]⟩
def jE:Ctr:=⟨137,39,[shU RI,.agg Zaa],[],[⟨Up,[.one],[]⟩],ap3 gj⟩
theorem lL:Lk 1 jE:=ls Ae aN
def iy(a0:List (Int))(a1:Int)(a2:Int)(a3:Int)(a4:Int):Option (Bool×Unit):=
bif(a1==0)then(bif(a3==0)then(some ((a4==0),()))else
some (false,()))else
bif(a1==2)then(bif(a3==0)then(some ((a4==0),()))else
some (false,()))else
bif(a1==1)then(bif(a2==0)then((gj a0 a3 a4).bind λ(x0,_)=>
some (x0,()))else
some (false,()))else
some (false,())
def Ad:X.Cfg:=⟨E0,[jE],[],[]⟩
def lO:Ctr:=⟨114,40,[shU RI,.agg Xad],[],[⟨Up,[.one],[]⟩],ap5 iy⟩
theorem oD:Lk 2 lO:=ls Ad (aC lL aN)
def je:T1X->Option (T1X⊕((Bool×Unit)⊕(LI×LLCn×Int×Int×LDCn×T0Q))):=λ(v0,v1,v2,v3,v4,v5,v6,v7)=>
bif(decide (v6<v5))then((eq v6).bind λx0=>
(dM v4 x0).bind λx1=>
(iy v0 x1.1 x1.2.1 x1.2.2.1 x1.2.2.2).bind λ(x2,_)=>
bif(!x2)then(some (.inr (.inl (false,()))))else
let x3:=w64 (v6+1);
some (.inl (v0,v1,v2,v3,v4,v5,x3,v7)))else
some (.inr (.inr (v0,v1,v2,v3,v4,v5,v6,false,v7)))
def jd:LI×T0Y->Option ((LI×T0Y)⊕((Bool×Unit)⊕(LI×LLCn×T0Q))):=λ(v0,v1,v2,v3,v4)=>
bif(decide (v3<v2))then((eq v3).bind λx0=>
(dM v1 x0).bind λx1=>
let x2:=dQ x1.length;
(match dZ je NN (v0,v1,v2,v3,x1,x2,0,v4)with
|none=>none
|some (.inl (x3,_))=>
some (.inr (.inl (x3,())))
|some (.inr (x3,x4,x5,x6,x7,x8,x9,ac,ae))=>
let ag:=w64 (x6+1);
some (.inl (x3,x4,x5,ag,ae))))else
some (.inr (.inr (v0,v1,v2,v3,false,v4)))
def lA(a0:List (Int))(a1:List LDCn)(a2:LDOp):Option (Bool×Unit):=
let x0:=dQ a1.length;
(match dZ jd NN (a0,a1,x0,0,a1,a2,())with
|none=>none
|some (.inl (x1,_))=>
some (x1,())
|some (.inr (x1,_))=>
some (true,()))
def zU:X.Cfg:=⟨E0,[lO],[],[⟨9,0,qS [sP 0 RI,sP 10 (Uj ej),Ul 11,Ul 12,sP 16 ej,Ul 17,Ul 18] [(8,Uab)],[(.ret,qS [Um 4] []),(.exit 2,qS [sP 0 RI,sP 10 (Uj ej),Ul 11,Ul 12,sP 16 ej,Ul 17,Ul 18,Um 19] [(8,Uab)])]⟩,⟨3,1,qS [sP 0 RI,sP 10 (Uj ej),Ul 11,Ul 12] [(8,Uab)],[(.ret,qS [Um 4] []),(.exit 0,qS [sP 0 RI,sP 10 (Uj ej),Ul 11,Ul 12,Um 13] [(8,Uab)])]⟩]⟩
def sI:Ctr:=⟨87,41,[shU RI,.agg Uab],[],[⟨Up,[.one],[]⟩],ap3 lA⟩
theorem zE:Lk 3 sI:=ls zU (aC oD aN)
def iM:T1Y->Option (T1Y⊕(LLCn×T1L)):=λ(v0,v1,v2,v3,v4,v5,v6,v7,v8,_)=>
bif(decide (v2<v1))then((eq v2).bind λx0=>
(dM v0 x0).bind λx1=>
bif(dW 24 0 x1.length)then let x2:LDCn:=(List.append [] x1);
bif(dW 24 v7.length (List.length [x2]))then let x3:List LDCn:=(List.append v7 [x2]);
let x4:=w64 (v2+1);
some (.inl (v0,v1,x4,v3,v4,v5,v6,x3,v8,()))else none else none)else
some (.inr (v0,v1,v2,false,v3,v4,v5,v6,v7,v8,()))
def gK(a0:List LDCn)(a1:LDOp):Option (T09):=
bif(dW 24 0 a1.length)then let x0:LDOp:=(List.append [] a1);
let x1:=dQ a0.length;
(dZ iM NN (a0,x1,0,a0,a1,(),(),[],x0,())).bind λ(x2,x3,x4,x5,x6,x7,x8,x9,ac)=>
some (ac)else none
def Er:X.Cfg:=⟨E0,[],[(21,(Ui KCn)),(22,(Ui KCn))],[(lx 4 0 [Uk 2,Uk 3,sP 11 (Uj ej),Ul 12,Ul 13] [(4,Uab),(6,uaa),(8,Xac)] 14)]⟩
def i6:Ctr:=⟨116,42,[.agg Uab],[],[⟨Xac,[.agg 2],[]⟩],ap2 gK⟩
theorem j6:Lk 1 i6:=ls Er aN
def iL:LDOu×Int×Int×LDOu×Unit->Option ((LDOu×Int×Int×LDOu×Unit)⊕(LDOu×Int×Int×Bool×LDOu×Unit)):=λ(v0,v1,v2,v3,_)=>
bif(decide (v2<v1))then((eq v2).bind λx0=>
(dM v0 x0).bind λx1=>
bif(dW 24 0 x1.2.2.length)then let x2:LDCn:=(List.append [] x1.2.2);
let x3:LDOu:=[(x1.1,(x1.2.1,x2))];
bif(dW 40 v3.length x3.length)then let x4:LDOu:=(List.append v3 x3);
let x5:=w64 (v2+1);
some (.inl (v0,v1,x5,x4,()))else none else none)else
some (.inr (v0,v1,v2,false,v3,()))
def jY(a0:LDOu):Option (LDOu×Unit):=
let x0:=dQ a0.length;
(dZ iL NN (a0,x0,0,[],())).bind λ(x1,x2,x3,x4,x5,_)=>
some (x5,())
def El:X.Cfg:=⟨E0,[],[(18,GT),(19,GT)],[(lx 4 0 [Un 3 9,sP 6 ll,Ul 7,Ul 8] [(9,Uah)] 9)]⟩
def rv:Ctr:=⟨117,43,uL [ll],[],[⟨Uah,[.one],[]⟩],ap1 jY⟩
theorem vY:Lk 1 rv:=ls El aN
def nV(a0:List (Int))(a1:List (Int))(a2:List LI)(a3:List LDCn)(a4:LDOp)(a5:LDOu):Option (T1e):=
bif(dW 2 0 a0.length)then let x0:List (Int):=(List.append [] a0);
bif(dW 2 0 a1.length)then let x1:List (Int):=(List.append [] a1);
(fV a2).bind λ(x2,_)=>
(gK a3 a4).bind λ(x3,x4,_)=>
(jY a5).bind λ(x5,_)=>
some (x0,x1,x2,x3,x4,x5,())else none else none
def Ei:X.Cfg:=⟨E0,[iE,i6,rv],[],[]⟩
def rp:Ctr:=⟨88,44,[.agg Zad],[],[⟨Xah,[.agg 6],[]⟩],ap6 nV⟩
theorem vW:Lk 2 rp:=ls Ei (aC kS (aC j6 (aC vY aN)))
def zA:T16->Option (T16⊕T1i):=λ(v0,v1,v2,v3,v4,v5,_)=>
bif(decide (v1<v0))then((eq v1).bind λx0=>
(dM v4 x0).bind λx1=>
(dM v4 x0).bind λx2=>
let x3:=List.modify v4 x0 λe=>(-1);
let x4:=w64 (v1+1);
some (.inl (v0,x4,v2,v3,x3,v5,())))else
some (.inr (v0,v1,false,v2,v3,v4,v5,()))
def sW:Option (T08):=
bif(qW 4 4 1)then let x0:List (Int):=(List.replicate 4 0);
bif(qW 4 4 1)then let x1:List LI:=(List.replicate 4 []);
let x2:=dQ x0.length;
(dZ zA NN (x2,0,(),(),x0,x1,())).bind λ(x3,x4,x5,x6,x7,x8)=>
some (x8)else none else none
def Gd:X.Cfg:=⟨E0,[],[(4,(Ui I64))],[(lx 4 0 [Uk 0,Uk 1,Ul 8,Ul 9] [(2,uaa),(4,Uac)] 10)]⟩
def zi:Ctr:=⟨89,45,[],[],[⟨Uac,[.agg 2],[]⟩],λh=>sW⟩
theorem F0:Lk 1 zi:=ls Gd aN
def w9:T36->Option (T36⊕(Int×Bool×T34)):=λ(v0,v1,v2,v3,v4,v5,v6,v7,v8,v9,v10,v11,v12,v13,v14,v15,v16,v17,v18,v19,v20,v21,v22,v23,v24,v25,v26,v27,v28,v29,v30,v31,v32,v33,v34,v35,v36,_)=>
bif(decide (v0<4))then(bif(dW 8 v36.length (List.length [(-1)]))then let x0:List (Int):=(List.append v36 [(-1)]);
let x1:=w64 (v0+1);
some (.inl (x1,v1,v2,v3,v4,v5,v6,v7,v8,v9,v10,v11,v12,v13,v14,v15,v16,v17,v18,v19,v20,v21,v22,v23,v24,v25,v26,v27,v28,v29,v30,v31,v32,v33,v34,v35,x0,()))else none)else
some (.inr (v0,false,v1,v2,v3,v4,v5,v6,v7,v8,v9,v10,v11,v12,v13,v14,v15,v16,v17,v18,v19,v20,v21,v22,v23,v24,v25,v26,v27,v28,v29,v30,v31,v32,v33,v34,v35,v36,()))
def py(a0:LDIn)(a1:List (Int))(a2:List LI)(a3:List (Int))(a4:Int)(a5:List (Int))(a6:List (Int))(a7:List LI)(a8:List LDCn)(a9:LDOp)(a10:LDOu):Option (LDIn×LI×LLI×LI×Int×LDCe×LDLn×LDTh×LI×LI×LLI×LLCn×LDOp×LDOu×LI×LLI×Unit×T07):=
(mG a0 a1 a2 a3 a4).bind λ(x0,x1,x2,x3,x4,x5,_)=>
bif(x5 != 0)then(some ([],[],[],[],0,[],[],[],[],[],[],[],[],[],[],[],(),[],x5,()))else
(jg a5 a6 a7 a8 a9 a10).bind λ(x6,_)=>
bif(!x6)then(some ([],[],[],[],0,[],[],[],[],[],[],[],[],[],[],[],(),[],1,()))else
(lA a1 a8 a9).bind λ(x7,_)=>
bif(!x7)then(some ([],[],[],[],0,[],[],[],[],[],[],[],[],[],[],[],(),[],1,()))else
(nV a5 a6 a7 a8 a9 a10).bind λ(x8,x9,ac,ae,af,ag,_)=>
(sW).bind λ(ah,ai,_)=>
(dZ w9 NN (0,(),(),(),(),0,(),(),(),(),(),(),(),(),(),(),(),(),(),a0,a1,a2,x0,x1,x2,x3,x4,x8,x9,ac,ae,af,ag,ah,ai,(),[],())).bind λ(aj,ak,am,an,ap,aq,av,ax,ay,az,aA,aB,aD,aE,aF,aG,aH,aI,aJ,aK,aL,aM,aO,aP,aQ,aR,aS,aT,aU,aV,aW,aY,aZ,ba,bc,bd,bf,bg,_)=>
some (aL,aM,aO,aP,aQ,aR,aS,aT,aU,aV,aW,aY,aZ,ba,bc,bd,bf,bg,0,())
def Cc:X.Cfg:=⟨E0,[uA,mU,sI,rp,zi],[],[(lx 11 0 [Uk 6,Uk 10,Ul 39] [(14,Uae),(22,uL [gS,RI,(Uj RW),RI,CW,gU,ja,jW,RW,RW,(Uj RW),(Uj ej),iI,ll,RI,(Uj RI),N1,(Ui I64)])] 40)]⟩
def um:Ctr:=⟨52,46,[.agg Uq,.agg zaa,.agg Zad],[],[⟨uL [gS,RI,(Uj RW),RI,CW,gU,ja,jW,RW,RW,(Uj RW),(Uj ej),iI,ll,RI,(Uj RI),N1,(Ui I64),I64],[.agg 18,.one],[]⟩],ap11 py⟩
theorem BG:Lk 5 um:=ls Cc (aC BT (aC pM (aC zE (aC vW (aC F0 aN)))))
def mO(a0:List (Int))(a1:Int):Option (T0P):=
(dJ 4 a0 a1).bind λ(x0,x1,x2,_)=>
let x3:List (Int):=[0,1,2,3,7,63];
(dJ 6 x1 x2).bind λ(x4,x5,x6,_)=>
(eq x4).bind λx7=>
(dM x3 x7).bind λx8=>
(dM x3 x7).bind λx9=>
(dJ 4 x5 x6).bind λ(ac,ae)=>
some (x0,x9,(ac==0),ae)
def CR:X.Cfg:=⟨E0,[fu],[],[]⟩
def uN:Ctr:=⟨56,47,[.ptr ⟨2,0,[]⟩ [0]],[(2,Uo)],[⟨Xag,[.agg 3],[(2,Uo)]⟩],ap2 mO⟩
theorem B7:Lk 4 uN:=ls CR (aC fw aN)
def it:T0G->Option (T0G⊕(LDTh×T0u)):=λ(v0,v1,v2,v3,_)=>
bif(decide (v2<v1))then(((eq v2).bind λx0=>
(dM v0 x0).bind λx1=>
bif(x1.1==1)then(bif(dW 8 v3.length (List.length [v2]))then let x2:List (Int):=(List.append v3 [v2]);
some (v0,v1,v2,x2,())else none)else
some (v0,v1,v2,v3,()):Option (T0G)).bind λ(x0,x1,x2,x3,_)=>
let x4:=w64 (x2+1);
some (.inl (x0,x1,x4,x3,())))else
some (.inr (v0,v1,v2,false,v3,()))
def mF(a0:LDTh):Option (LI×Unit):=
let x0:=dQ a0.length;
(dZ it NN (a0,x0,0,[],())).bind λ(x1,x2,x3,x4,x5,_)=>
some (x5,())
def Cv:X.Cfg:=⟨E0,[],[],[⟨7,0,qE,[(.normal,qS [Un 3 9,sP 6 jW,Ul 7,Ul 8] [(9,Uaa)])]⟩,(lx 4 1 [Un 3 9,sP 6 jW,Ul 7,Ul 8] [(9,Uaa)] 9)]⟩
def ux:Ctr:=⟨26,48,uL [jW],[],[⟨Uaa,[.one],[]⟩],ap1 mF⟩
theorem BQ:Lk 1 ux:=ls Cv aN
def lB(a0:LDIn)(a1:List (Int))(a2:List LI)(a3:List (Int))(a4:Int)(a5:LDCe)(a6:LDLn)(a7:LDTh)(a8:List (Int))(a9:List (Int))(a10:List LI)(a11:List LDCn)(a12:LDOp)(a13:LDOu)(a14:List (Int))(a15:List LI)(a16:LDEn)(a17:List (Int)):Option (T2D):=
bif(dW 8 0 a17.length)then let x0:List (Int):=(List.append [] a17);
bif(dW 184 0 a16.length)then let x1:LDEn:=(List.append [] a16);
some (a0,a1,a2,a3,a4,a5,a6,a7,a8,a9,a10,a11,a12,a13,a14,a15,x1,x0,())else none else none
def zV:X.Cfg:=⟨E0,[],[(9,w7)],[]⟩
def sJ:Ctr:=⟨92,49,[.agg uah],[],[⟨Xaa,[.agg 18],[]⟩],ap18 lB⟩
theorem zF:Lk 1 sJ:=ls zV aN
def ni(a0:List (Int))(a1:Int)(a2:LDCe)(a3:LDLn)(a4:LDTh)(a5:Int):Option (Bool×Unit):=
bif(decide (a5<0))then(some (false,()))else
let x0:=dQ a4.length;
bif(decide (a5>=x0))then(some (false,()))else
(eq a5).bind λx1=>
(dM a4 x1).bind λx2=>
bif(x2.1==1)then(bif(x2.2.2.2.2.1 != (-1))then(some ((x2.2.2.2.2.2.1==(-1)),()))else
some (false,()))else
some (false,())
def Gb:X.Cfg:=⟨E0,[],[],[]⟩
def tn:Ctr:=⟨93,50,[.agg uac,shU I64],[],[⟨Up,[.one],[]⟩],ap6 ni⟩
theorem ym:Lk 1 tn:=ls Gb aN
def iU:T1T->Option (T1T⊕(LDLn×Int×Int×Bool×T19)):=λ(v0,v1,v2,v3,v4,v5,v6,v7,v8,_)=>
bif(decide (v2<v1))then((eq v2).bind λx0=>
(dM v0 x0).bind λx1=>
bif(dW 4 0 x1.2.2.length)then let x2:LDCe:=(List.append [] x1.2.2);
let x3:LDLn:=[(x1.1,(x1.2.1,x2))];
bif(dW 40 v8.length x3.length)then let x4:LDLn:=(List.append v8 x3);
let x5:=w64 (v2+1);
some (.inl (v0,v1,x5,v3,v4,v5,v6,v7,x4,()))else none else none)else
some (.inr (v0,v1,v2,false,v3,v4,v5,v6,v7,v8,()))
def oc(a0:LDCe)(a1:LDLn):Option (T05):=
bif(dW 4 0 a0.length)then let x0:LDCe:=(List.append [] a0);
let x1:=dQ a1.length;
(dZ iU NN (a1,x1,0,a0,a1,(),(),x0,[],())).bind λ(x2,x3,x4,x5,x6,x7,x8,x9,ac)=>
some (ac)else none
def EN:X.Cfg:=⟨E0,[],[(24,Rf),(25,Rf)],[(lx 4 0 [Uk 2,Uk 3,sP 11 ja,Ul 12,Ul 13] [(4,Xae),(6,uaa),(8,zad)] 14)]⟩
def wT:Ctr:=⟨138,51,[.agg Xae],[],[⟨zad,[.agg 2],[]⟩],ap2 oc⟩
theorem D7:Lk 1 wT:=ls EN aN
def iS:T2E->Option (T2E⊕(LDTh×Int×Int×Bool×T2w)):=λ(v0,v1,v2,v3,v4,v5,v6,v7,v8,v9,v10,v11,v12,v13,v14,v15,v16,v17,_)=>
bif(decide (v2<v1))then((eq v2).bind λx0=>
(dM v0 x0).bind λx1=>
bif(dW 4 0 x1.2.1.length)then let x2:LDCe:=(List.append [] x1.2.1);
let x3:LDTh:=[(x1.1,(x2,(x1.2.2.1,(x1.2.2.2.1,(x1.2.2.2.2.1,(x1.2.2.2.2.2.1,(x1.2.2.2.2.2.2.1,x1.2.2.2.2.2.2.2)))))))];
bif(dW 80 v17.length x3.length)then let x4:LDTh:=(List.append v17 x3);
let x5:=w64 (v2+1);
some (.inl (v0,v1,x5,v3,v4,v5,v6,v7,v8,v9,v10,v11,v12,v13,v14,v15,v16,x4,()))else none else none)else
some (.inr (v0,v1,v2,false,v3,v4,v5,v6,v7,v8,v9,v10,v11,v12,v13,v14,v15,v16,v17,()))
def iT(a0:List (Int))(a1:Int)(a2:LDCe)(a3:LDLn)(a4:LDTh):Option (T0X):=
bif(dW 8 0 a0.length)then let x0:List (Int):=(List.append [] a0);
(oc a2 a3).bind λ(x1,x2,_)=>
let x3:=dQ a4.length;
(dZ iS NN (a4,x3,0,a0,a1,a2,a3,a4,(),0,(),(),(),x0,a1,x1,x2,[],())).bind λ(x4,x5,x6,x7,x8,x9,ac,ae,af,ag,ah,ai,aj,ak,am)=>
some (am)else none
def EH:X.Cfg:=⟨E0,[wT],[(32,QZ),(33,QZ)],[(lx 4 0 [Uk 2,Uk 3,sP 19 jW,Ul 20,Ul 21] [(4,uac),(6,Zac),(8,uab)] 22)]⟩
def mc:Ctr:=⟨120,52,[.agg uac],[],[⟨uab,[.agg 5],[]⟩],ap5 iT⟩
theorem ot:Lk 2 mc:=ls EH (aC D7 aN)
def ky(a0:List (Int))(a1:Int)(a2:LDCe)(a3:LDLn)(a4:LDTh)(a5:Int):Option (T1d):=
(iT a0 a1 a2 a3 a4).bind λ(x0,x1,x2,x3,x4,_)=>
(ni a0 a1 a2 a3 a4 a5).bind λ(x5,_)=>
bif(!x5)then(some (x0,x1,x2,x3,x4,false,()))else
(eq a5).bind λx6=>
(dM x4 x6).bind λx7=>
(dM x4 x6).bind λx8=>
(dM x4 x6).bind λx9=>
(dM x4 x6).bind λac=>
let ae:=(List.modify x4 x6 λe=>(e.1,(e.2.1,(e.2.2.1,(e.2.2.2.1,(e.2.2.2.2.1,(x8.2.2.1,e.2.2.2.2.2.2)))))));
(dM ae x6).bind λaf=>
let ag:=(List.modify ae x6 λe=>(e.1,(e.2.1,(x9.2.2.2.2.1,e.2.2.2))));
some (x0,x1,x2,x3,ag,true,())
def yF:X.Cfg:=⟨E0,[mc,tn],[],[]⟩
def rx:Ctr:=⟨94,53,[.agg uac,shU I64],[],[⟨uL [RI,CW,(Ui KCe),mw,tz,.bool],[.agg 5,.one],[]⟩],ap6 ky⟩
theorem yl:Lk 3 rx:=ls yF (aC ot (aC ym aN))
def kJ(a0:Int)(a1:Int):Option (Bool×Unit):=
some ((decide (a0<=2)),())
def CK:X.Cfg:=⟨E0,[],[],[]⟩
def p6:Ctr:=⟨173,54,[.agg Ur],[],[⟨Up,[.one],[]⟩],ap2 kJ⟩
theorem tZ:Lk 1 p6:=ls CK aN
def lG:LDCe×T02->Option ((LDCe×T02)⊕((Bool×Unit)⊕(LDCe×T0d))):=λ(v0,v1,v2,_)=>
bif(decide (v2<v1))then((eq v2).bind λx0=>
(dM v0 x0).bind λx1=>
(kJ x1.1 x1.2).bind λ(x2,_)=>
bif(!x2)then(some (.inr (.inl (false,()))))else
let x3:=w64 (v2+1);
some (.inl (v0,v1,x3,())))else
some (.inr (.inr (v0,v1,v2,false,())))
def nv(a0:LDCe):Option (Bool×Unit):=
let x0:=dQ a0.length;
(match dZ lG NN (a0,x0,0,())with
|none=>none
|some (.inl (x1,_))=>
some (x1,())
|some (.inr (x1,_))=>
some (true,()))
def Gk:X.Cfg:=⟨E0,[p6],[],[⟨3,0,qS [sP 5 gU,Ul 6,Ul 7] [],[(.ret,qS [Um 2] []),(.exit 0,qS [sP 5 gU,Ul 6,Ul 7,Um 8] [])]⟩]⟩
def zn:Ctr:=⟨172,55,uL [gU],[],[⟨Up,[.one],[]⟩],ap1 nv⟩
theorem F5:Lk 2 zn:=ls Gk (aC tZ aN)
def jP:LDLn×T0w->Option ((LDLn×T0w)⊕((Bool×Unit)⊕(LDLn×Int×Int×Bool×T05))):=λ(v0,v1,v2,v3)=>
bif(decide (v2<v1))then((eq v2).bind λx0=>
(dM v0 x0).bind λx1=>
bif(x1.1==(-1))then(bif x1.2.1 then(some (.inr (.inl (false,()))))else
let x2:=dQ x1.2.2.length;
bif(decide (x2>0))then(some (.inr (.inl (false,()))))else
let x3:=w64 (v2+1);
some (.inl (v0,v1,x3,v3)))else
(bif(decide (x1.1<0))then(some (v0,v1,v2,true,v3))else
bif(decide (x1.1>=128))then(some (v0,v1,v2,true,v3))else
let x2:=Int.tmod x1.1 4;
bif(x2 != v2)then(some (v0,v1,v2,true,v3))else
let x3:=dQ x1.2.2.length;
bif(x3 != 4)then(some (v0,v1,v2,true,v3))else
(nv x1.2.2).bind λ(x4,_)=>
some (v0,v1,v2,(!x4),v3):Option (LDLn×Int×Int×Bool×T05)).bind λ(x2,x3,x4,x5,x6)=>
bif x5 then(some (.inr (.inl (false,()))))else
let x8:=w64 (x4+1);
some (.inl (x2,x3,x8,x6)))else
some (.inr (.inr (v0,v1,v2,false,v3)))
def mI(a0:LDCe)(a1:LDLn):Option (Bool×Unit):=
(let x0:=dQ a0.length;
bif(x0 != 512)then(some (true,a0,a1,()))else
let x1:=dQ a1.length;
bif(x1 != 4)then(some (true,a0,a1,()))else
(nv a0).bind λ(x2,_)=>
some ((!x2),a0,a1,()):Option (Bool×T05)).bind λ(x0,x1,x2,_)=>
bif x0 then(some (false,()))else
let x3:=dQ x2.length;
(match dZ jP NN (x2,x3,0,x1,x2,())with
|none=>none
|some (.inl (x4,_))=>
some (x4,())
|some (.inr (x4,_))=>
some (true,()))
def CE:X.Cfg:=⟨E0,[zn],[],[⟨2,0,qE,[(.normal,qS [Uk 1,Um 20] [(4,Xae)])]⟩,⟨16,1,qE,[(.normal,qS [sP 22 ja,Ul 23,Ul 24,Um 66] [(4,Xae)])]⟩,⟨6,2,qS [sP 22 ja,Ul 23,Ul 24] [(4,Xae)],[(.ret,qS [Um 2] []),(.exit 0,qS [sP 22 ja,Ul 23,Ul 24,Um 25] [(4,Xae)])]⟩]⟩
def uC:Ctr:=⟨152,56,[.agg Xae],[],[⟨Up,[.one],[]⟩],ap2 mI⟩
theorem BV:Lk 3 uC:=ls CE (aC F5 aN)
def jK:T2f->Option (T2f⊕((Bool×Unit)⊕(LDCe×Int×Int×Bool×T1F))):=λ(v0,v1,v2,v3)=>
bif(decide (v2<v1))then((eq v2).bind λx0=>
(dM v0 x0).bind λx1=>
(kJ x1.1 x1.2).bind λ(x2,_)=>
bif(!x2)then(some (.inr (.inl (false,()))))else
let x3:=w64 (v2+1);
some (.inl (v0,v1,x3,v3)))else
some (.inr (.inr (v0,v1,v2,false,v3)))
def mE(a0:Int)(a1:LDCe)(a2:Int)(a3:Int)(a4:Int)(a5:Int)(a6:Int)(a7:Int):Option (Bool×Unit):=
let x0:=dQ a1.length;
(match dZ jK NN (a1,x0,0,a0,a1,a2,a3,a4,a5,a6,a7,())with
|none=>none
|some (.inl (x1,_))=>
some (x1,())
|some (.inr (x1,x2,x3,x4,x5,x6,x7,x8,x9,ac,ae,af,_))=>
bif(decide (x5>=0))then(bif(decide (x5<=4))then(let ag:Int:=(dQ x6.length);
bif(ag==8)then(bif(decide (x7>=0))then(bif(decide (x7<=255))then(bif(decide (x8>=0))then(bif(decide (x8<=1099511627776))then(bif(decide (x9>=(-1)))then(bif(decide (x9<=255))then(bif(decide (ac>=(-1)))then(bif(decide (ac<=255))then(bif(decide (ae>=0))then(some ((decide (ae<=6)),()))else
some (false,()))else
some (false,()))else
some (false,()))else
some (false,()))else
some (false,()))else
some (false,()))else
some (false,()))else
some (false,()))else
some (false,()))else
some (false,()))else
some (false,()))else
some (false,()))
def Cu:X.Cfg:=⟨E0,[p6],[],[⟨3,0,qS [Uk 1,sP 6 gU,Ul 7,Ul 8] [(4,uad)],[(.ret,qS [Um 2] []),(.exit 0,qS [Uk 1,sP 6 gU,Ul 7,Ul 8,Um 9] [(4,uad)])]⟩]⟩
def uw:Ctr:=⟨153,57,[.agg uad],[],[⟨Up,[.one],[]⟩],ap8 mE⟩
theorem BO:Lk 2 uw:=ls Cu (aC tZ aN)
def mh:T1G->Option (T1G⊕((Bool×Unit)⊕(LDTh×Int×Int×T12))):=λ(v0,v1,v2,v3)=>
bif(decide (v2<v1))then((eq v2).bind λx0=>
(dM v0 x0).bind λx1=>
(mE x1.1 x1.2.1 x1.2.2.1 x1.2.2.2.1 x1.2.2.2.2.1 x1.2.2.2.2.2.1 x1.2.2.2.2.2.2.1 x1.2.2.2.2.2.2.2).bind λ(x2,_)=>
bif(!x2)then(some (.inr (.inl (false,()))))else
let x3:=w64 (v2+1);
some (.inl (v0,v1,x3,v3)))else
some (.inr (.inr (v0,v1,v2,false,v3)))
def jh(a0:LDIn)(a1:List (Int))(a2:List LI)(a3:List (Int))(a4:Int)(a5:LDCe)(a6:LDLn)(a7:LDTh):Option (Bool×Unit):=
((kE a0 a1 a2).bind λ(x0,_)=>
bif(x0 != 0)then(some (true,a3,a4,a5,a6,a7,()))else
(ji a3 a4 a1).bind λ(x1,_)=>
bif(!x1)then(some (true,a3,a4,a5,a6,a7,()))else
(mI a5 a6).bind λ(x2,_)=>
bif(!x2)then(some (true,a3,a4,a5,a6,a7,()))else
let x3:=dQ a7.length;
some ((x3 != 4),a3,a4,a5,a6,a7,()):Option (T12)).bind λ(x0,x1,x2,x3,x4,x5,_)=>
bif x0 then(some (false,()))else
let x6:=dQ x5.length;
(match dZ mh NN (x5,x6,0,x1,x2,x3,x4,x5,())with
|none=>none
|some (.inl (x7,_))=>
some (x7,())
|some (.inr (x7,_))=>
some (true,()))
def Cr:X.Cfg:=⟨E0,[pY,mY,uC,uw],[],[⟨2,0,qE,[(.normal,qS [Uk 3,Um 29] [(8,uac)])]⟩,⟨6,1,qS [sP 31 jW,Ul 32,Ul 33] [(8,uac)],[(.ret,qS [Um 4] []),(.exit 0,qS [sP 31 jW,Ul 32,Ul 33,Um 34] [(8,uac)])]⟩]⟩
def mX:Ctr:=⟨139,58,[.agg Uq,.agg uac],[],[⟨Up,[.one],[]⟩],ap8 jh⟩
theorem pQ:Lk 4 mX:=ls Cr (aC tW (aC pR (aC BV (aC BO aN))))
def fJ(a0:Nat)(a1:Int)(a2:LDTh):Option (Int×LDTh×Unit):=
(dM a2 a0).bind λx0=>
let x1:=List.modify a2 a0 λe=>(4,e.2);
(dM x1 a0).bind λx2=>
let x3:=(List.modify x1 a0 λe=>(e.1,(e.2.1,(e.2.2.1,(e.2.2.2.1,(e.2.2.2.2.1,(e.2.2.2.2.2.1,(a1,e.2.2.2.2.2.2.2))))))));
(dM x3 a0).bind λx4=>
let x5:=(List.modify x3 a0 λe=>(e.1,(e.2.1,(e.2.2.1,(e.2.2.2.1,(e.2.2.2.2.1,(e.2.2.2.2.2.1,(e.2.2.2.2.2.2.1,0))))))));
some (2,x5,())
def EE:X.Cfg:=⟨E0,[],[],[]⟩
def wP:Ctr:=⟨154,59,[.ptr ⟨2,0,[((),(8,0))]⟩ [0,0],shU I64],[(2,uL [tz])],[⟨zab,[.one],[(2,uL [tz])]⟩],ap3 fJ⟩
theorem D3:Lk 1 wP:=ls EE aN
def eQ:T1W->Option (T1W⊕(T0b⊕(LI×T1Q))):=λ(v0,v1,v2,v3,v4,v5)=>
bif(decide (v4<v3))then((match((eq v4).bind λx0=>
(dM v2 x0).bind λx1=>
bif(decide (v1>=x1))then((eq v4).bind λx2=>
(dM v0 x2).bind λx3=>
let x4:=w64 (x1+x3);
bif(decide (v1<x4))then(let x5:Int:=(w64 (v1-x1));
some (.inl (true,v4,x5,())))else
some (.inr (v0,v1,v4,x1,v2,v3,v4,false,v5)))else
some (.inr (v0,v1,v4,x1,v2,v3,v4,false,v5)):Option (T0b⊕(LI×Int×Int×T1Q)))with
|none=>none
|some (.inl (x0,x1,x2,_))=>
some (.inr (.inl (x0,x1,x2,())))
|some (.inr (x0,x1,x2,x3,x4,x5,x6,x7,x8))=>
let af:=w64 (x6+1);
some (.inl (x0,x1,x4,x5,af,x8))))else
some (.inr (.inr (v0,v1,v2,v3,v4,false,v5)))
def fC(a0:List (Int))(a1:Int)(a2:List (Int))(a3:Int):Option (T0d):=
let x0:=dQ a0.length;
(match dZ eQ NN (a2,a3,a0,x0,0,a0,a1,0,0,())with
|none=>none
|some (.inl (x1,x2,x3,_))=>
some (x2,x3,x1,())
|some (.inr (x1,x2,x3,_))=>
some (0,0,false,()))
def yH:X.Cfg:=⟨E0,[],[],[⟨6,0,qE,[(.ret,qS [Uk 6,Um 7] [(14,Zaa)]),(.normal,qS [sP 1 RI,Ul 2,Uk 6,Ul 8,Ul 9,sP 11 RI,Ul 12,Ul 13,Um 30] [(8,zaa),(14,Zaa)])]⟩,⟨3,1,qS [sP 1 RI,Ul 2,Uk 6,sP 11 RI,Ul 12,Ul 13] [(8,zaa),(14,Zaa)],[(.ret,qS [Uk 6,Um 7] [(14,Zaa)]),(.exit 0,qS [sP 1 RI,Ul 2,Uk 6,sP 11 RI,Ul 12,Ul 13,Um 14] [(8,zaa),(14,Zaa)])]⟩]⟩
def i7:Ctr:=⟨145,60,[.agg zaa,shU RI,shU I64],[],[⟨Xag,[.agg 2,.one],[]⟩],ap4 fC⟩
theorem kU:Lk 1 i7:=ls yH aN
def fS(a0:List (Int))(a1:Int)(a2:List (Int))(a3:Int)(a4:Int)(a5:Int)(a6:Bool):Option (T0e):=
bif(a3 != 1)then(some (0,0,3,()))else
let x0:=wk .i64 a4;
(fC a0 a1 a2 x0).bind λ(x1,x2,x3,_)=>
bif(!x3)then(some (0,0,4,()))else
(bif a6 then(let x4:Int:=(wk .i64 a5);
let x5:=w64 (x2-x4);
some (a2,a0,a1,0,0,x1,x5,()))else
let x4:=wk .i64 a5;
let x5:=w64 (x2+x4);
some (a2,a0,a1,0,0,x1,x5,()):Option (LI×LI×T0R)).bind λ(x4,x5,x6,x7,x8,x9,ac,_)=>
(gj x4 x9 ac).bind λ(ae,_)=>
bif(!ae)then(some (0,0,4,()))else
(eq x9).bind λaf=>
(dM x5 af).bind λag=>
let ah:=w64 (ag+ac);
let ai:=wk .u16 ah;
some (1,ai,0,())
def EG:X.Cfg:=⟨E0,[i7,jE],[],[⟨8,0,qE,[(.normal,qS [sP 1 RI,Uk 5,Uk 10,Uk 12] [(12,zaa),(22,Ur),(26,Zaa)])]⟩]⟩
def rG:Ctr:=⟨155,61,[.agg zaa,shU RI,.agg Ur,shU CW,shU .bool],[],[⟨yah,[.agg 2,.one],[]⟩],ap7 fS⟩
theorem wm:Lk 2 rG:=ls EG (aC kU (aC lL aN))
def kG(a0:Int)(a1:LDCe)(a2:LDLn):Option (Nat×T05):=
let x0:=w64 (Int.tdiv a0 4);
let x1:=Int.tmod x0 4;
(eq x1).bind λx2=>
(dM a2 x2).bind λx3=>
(dM a2 x2).bind λx4=>
bif(x4.1==x0)then(some (x2,a1,a2,()))else
((dM a2 x2).bind λx5=>
bif x5.2.1 then((dM a2 x2).bind λx6=>
let x7:=w64 (x6.1*4);
(eq x7).bind λx8=>
bif(gF x8 a1.length a1.length)then(dM a2 x2).bind λx9=>
(dM a2 x2).bind λac=>
bif(gF x8 (Nat.add x8 (Nat.min ac.2.2.length (Nat.sub a1.length x8))) a1.length)then bif(Nat.blt 0 (Nat.min ac.2.2.length (Nat.sub a1.length x8)))then(let ae:LDCe:=(qQ a1 x8 (Nat.min ac.2.2.length (Nat.sub a1.length x8)) ac.2.2);
let af:=(dQ (Nat.min ac.2.2.length (Nat.sub a1.length x8)));
some (x0,x2,ae,a2,()))else
let ae:=(dQ (Nat.min ac.2.2.length (Nat.sub a1.length x8)));
some (x0,x2,a1,a2,())else none else none)else
some (x0,x2,a1,a2,()):Option (Int×Nat×T05)).bind λ(x5,x6,x7,x8,_)=>
(dM x8 x6).bind λx9=>
let ac:=List.modify x8 x6 λe=>(x5,e.2);
(dM ac x6).bind λae=>
let af:=(List.modify ac x6 λe=>(e.1,(false,e.2.2)));
let ag:=w64 (x5*4);
let ah:=w64 (x5+1);
let ai:=w64 (ah*4);
(eq ag).bind λaj=>
(eq ai).bind λak=>
bif(gF aj ak x7.length)then bif(dW 4 0 (List.length (my x7 aj (Nat.sub ak aj))))then let am:LDCe:=(List.append [] (my x7 aj (Nat.sub ak aj)));
(dM af x6).bind λan=>
let ap:=(List.modify af x6 λe=>(e.1,(e.2.1,am)));
some (x6,x7,ap,())else none else none
def CD:X.Cfg:=⟨E0,[],[],[⟨6,0,qE,[(.normal,(qS [Uk 0,Ul 5,(6,.ptr ⟨2,1,[((),(3,0))]⟩ [0,0])] [(2,zad)]))]⟩]⟩
def p5:Ctr:=⟨174,62,[.ptr ⟨2,0,[]⟩ [0],shU I64],[(2,zad)],[⟨[.ptr ⟨2,1,[((),(3,0))]⟩ [0,0]],[.ptr],[(2,zad)]⟩],ap3 kG⟩
theorem tY:Lk 1 p5:=ls CD aN
def n9(a0:Int)(a1:LDCe)(a2:LDLn):Option (T0w):=
(kG a0 a1 a2).bind λ(x0,x1,x2,_)=>
(dM x2 x0).bind λx3=>
let x4:=Int.tmod a0 4;
(eq x4).bind λx5=>
(dM x2 x0).bind λx6=>
(dM x6.2.2 x5).bind λx7=>
(dM x2 x0).bind λx8=>
(dM x8.2.2 x5).bind λx9=>
some (x9.1,x9.2,x1,x2,())
def EL:X.Cfg:=⟨E0,[p5],[],[]⟩
def wR:Ctr:=⟨156,63,[.ptr ⟨2,0,[]⟩ [0],shU I64],[(2,zad)],[⟨Ur,[.agg 2],[(2,zad)]⟩],ap3 n9⟩
theorem D5:Lk 2 wR:=ls EL (aC tY aN)
def kF(a0:Int)(a1:Int)(a2:Int)(a3:LDCe)(a4:LDLn):Option (T05):=
(kG a0 a3 a4).bind λ(x0,x1,x2,_)=>
(dM x2 x0).bind λx3=>
let x4:=Int.tmod a0 4;
(eq x4).bind λx5=>
(dM x2 x0).bind λx6=>
(dM x6.2.2 x5).bind λx7=>
(dM x2 x0).bind λx8=>
(dM x8.2.2 x5).bind λx9=>
let ac:=(List.modify x2 x0 λe=>(e.1,(e.2.1,(List.modify e.2.2 x5 λe=>(a1,a2)))));
(dM ac x0).bind λae=>
let af:=(List.modify ac x0 λe=>(e.1,(true,e.2.2)));
some (x1,af,())
def CC:X.Cfg:=⟨E0,[p5],[],[]⟩
def pZ:Ctr:=⟨157,64,[.ptr ⟨2,0,[]⟩ [0],shU I64,.agg Ur],[(2,zad)],[⟨[],[],[(2,zad)]⟩],ap5 kF⟩
theorem tX:Lk 2 pZ:=ls CC (aC tY aN)
def j0(a0:Bool):Option (T02):=
bif a0 then(some (0,1,()))else
some (0,0,())
def EF:X.Cfg:=⟨E0,[],[],[]⟩
def rF:Ctr:=⟨175,65,Up,[],[⟨Ur,[.agg 2],[]⟩],ap1 j0⟩
theorem wl:Lk 1 rF:=ls EF aN
def kC(a0:Int)(a1:Int)(a2:Int):Option (T0e):=
bif(a0==3)then(let x0:Int:=(wk .u16 (a1+a2));
some (0,x0,0,()))else
bif(a0==4)then(let x0:Int:=(wk .u16 (a1-a2));
some (0,x0,0,()))else
bif(a0==5)then(let x0:Int:=(wk .u16 (a1*a2));
some (0,x0,0,()))else
bif(a0==6)then(bif(a2==0)then(some (0,0,5,()))else
bif(a0==6)then(bif(a2 != 0)then let x0:Int:=(wk .u16 (Int.tdiv a1 a2));
some (0,x0,0,())else none)else
bif(a2 != 0)then let x0:Int:=(Int.tmod a1 a2);
some (0,x0,0,())else none)else
bif(a0==7)then(bif(a2==0)then(some (0,0,5,()))else
bif(a0==6)then(bif(a2 != 0)then let x0:Int:=(wk .u16 (Int.tdiv a1 a2));
some (0,x0,0,())else none)else
bif(a2 != 0)then let x0:Int:=(Int.tmod a1 a2);
some (0,x0,0,())else none)else
bif(a0==8)then(let x0:Int:=(arR .and .u16 a1 a2);
some (0,x0,0,()))else
bif(a0==9)then(let x0:Int:=(arR .or .u16 a1 a2);
some (0,x0,0,()))else
bif(a0==10)then(let x0:Int:=(arR .xor .u16 a1 a2);
some (0,x0,0,()))else
bif(a0==11)then(let x0:Int:=(Int.tmod a2 16);
(eq x0).bind λx1=>
let x2:Int:=(shR .shl .u16 a1 x1);
some (0,x2,0,()))else
bif(a0==12)then(let x0:Int:=(Int.tmod a2 16);
(eq x0).bind λx1=>
let x2:Int:=(shR .shr .u16 a1 x1);
some (0,x2,0,()))else
(j0 (decide (a1<a2))).bind λ(x0,x1,_)=>
some (x0,x1,0,())
def yG:X.Cfg:=⟨E0,[rF],[],[]⟩
def rE:Ctr:=⟨176,66,uL [I64,CW,CW],[],[⟨yah,[.agg 2,.one],[]⟩],ap3 kC⟩
theorem yo:Lk 2 rE:=ls yG (aC wl aN)
def kD(a0:List (Int))(a1:Int)(a2:List (Int))(a3:Int)(a4:Int)(a5:Int)(a6:Int):Option (Int×Int×T0d):=
let x0:=wk .i64 a4;
(fC a0 a1 a2 x0).bind λ(x1,x2,x3,_)=>
let x4:=wk .i64 a6;
(fC a0 a1 a2 x4).bind λ(x5,x6,x7,_)=>
bif x3 then(bif x7 then(some (x1,x2,x5,x6,(x1==x5),()))else
some (x1,x2,x5,x6,false,()))else
some (x1,x2,x5,x6,false,())
def Cx:X.Cfg:=⟨E0,[i7],[],[]⟩
def uz:Ctr:=⟨177,67,[.agg zaa,shU RI,.agg Ur,.agg Ur],[],[⟨uL [I64,I64,I64,I64,.bool],[.agg 2,.agg 2,.one],[]⟩],ap7 kD⟩
theorem BS:Lk 2 uz:=ls Cx (aC kU aN)
def rW(a0:List (Int))(a1:Int)(a2:List (Int))(a3:Int)(a4:Int)(a5:Int)(a6:Int)(a7:Int):Option (T0e):=
bif(decide (a3<3))then(some (0,0,1,()))else
bif(decide (a3>14))then(some (0,0,1,()))else
(match(bif(a3==14)then((j0 ((a4==a6)&&((a5==a7)&&true))).bind λ(x0,x1,_)=>
some (.inl (0,x0,x1,())))else
bif(a4==0)then(bif(a6==0)then((kC a3 a5 a7).bind λ(x0,x1,x2,_)=>
some (.inl (x2,x0,x1,())))else
(bif(a3==3)then(bif(a4==1)then(some (a2,a3,(a6==0),a0,a1,a4,a5,a6,a7,0,0,()))else
some (a2,a3,false,a0,a1,a4,a5,a6,a7,0,0,()))else
some (a2,a3,false,a0,a1,a4,a5,a6,a7,0,0,()):Option (T2h)).bind λ(x0,x1,x2,x3,x4,x5,x6,x7,x8,x9,ac,_)=>
bif x2 then((fS x3 x4 x0 x5 x6 x8 false).bind λ(ae,af,ag,_)=>
some (.inl (ag,ae,af,())))else
(bif(x1==3)then(bif(x5==0)then(some (x0,x1,(x7==1),x3,x4,x5,x6,x7,x8,x9,ac,()))else
some (x0,x1,false,x3,x4,x5,x6,x7,x8,x9,ac,()))else
some (x0,x1,false,x3,x4,x5,x6,x7,x8,x9,ac,()):Option (T2h)).bind λ(ae,af,ag,ah,ai,aj,ak,am,an,ap,aq,_)=>
bif ag then((fS ah ai ae am an ak false).bind λ(av,ax,ay,_)=>
some (.inl (ay,av,ax,())))else
(bif(af==4)then(bif(aj==1)then(some (ae,af,(am==0),ah,ai,aj,ak,am,an,ap,aq,()))else
some (ae,af,false,ah,ai,aj,ak,am,an,ap,aq,()))else
some (ae,af,false,ah,ai,aj,ak,am,an,ap,aq,()):Option (T2h)).bind λ(av,ax,ay,az,aA,aB,aD,aE,aF,aG,aH,_)=>
bif ay then((fS az aA av aB aD aF true).bind λ(aI,aJ,aK,_)=>
some (.inl (aK,aI,aJ,())))else
(bif(ax==4)then(bif(aB==1)then(some (av,ax,(aE==1),az,aA,aB,aD,aE,aF,aG,aH,()))else
some (av,ax,false,az,aA,aB,aD,aE,aF,aG,aH,()))else
bif(ax==13)then(bif(aB==1)then(some (av,ax,(aE==1),az,aA,aB,aD,aE,aF,aG,aH,()))else
some (av,ax,false,az,aA,aB,aD,aE,aF,aG,aH,()))else
some (av,ax,false,az,aA,aB,aD,aE,aF,aG,aH,()):Option (T2h)).bind λ(aI,aJ,aK,aL,aM,aO,aP,aQ,aR,aS,aT,_)=>
bif aK then((kD aL aM aI aO aP aQ aR).bind λ(aU,aV,aW,aY,aZ,_)=>
bif(!aZ)then(some (.inl (4,0,0,())))else
bif(aJ==13)then((j0 (decide (aV<aY))).bind λ(ba,bc,_)=>
some (.inl (0,ba,bc,())))else
let ba:=w64 (aV-aY);
let bc:=wk .u16 ba;
some (.inl (0,0,bc,())))else
some (.inr (aI,aJ,false,aL,aM,aO,aP,aQ,aR,aS,aT,())))else
(bif(a3==3)then(bif(a4==1)then(some (a2,a3,(a6==0),a0,a1,a4,a5,a6,a7,0,0,()))else
some (a2,a3,false,a0,a1,a4,a5,a6,a7,0,0,()))else
some (a2,a3,false,a0,a1,a4,a5,a6,a7,0,0,()):Option (T2h)).bind λ(x0,x1,x2,x3,x4,x5,x6,x7,x8,x9,ac,_)=>
bif x2 then((fS x3 x4 x0 x5 x6 x8 false).bind λ(ae,af,ag,_)=>
some (.inl (ag,ae,af,())))else
(bif(x1==3)then(bif(x5==0)then(some (x0,x1,(x7==1),x3,x4,x5,x6,x7,x8,x9,ac,()))else
some (x0,x1,false,x3,x4,x5,x6,x7,x8,x9,ac,()))else
some (x0,x1,false,x3,x4,x5,x6,x7,x8,x9,ac,()):Option (T2h)).bind λ(ae,af,ag,ah,ai,aj,ak,am,an,ap,aq,_)=>
bif ag then((fS ah ai ae am an ak false).bind λ(av,ax,ay,_)=>
some (.inl (ay,av,ax,())))else
(bif(af==4)then(bif(aj==1)then(some (ae,af,(am==0),ah,ai,aj,ak,am,an,ap,aq,()))else
some (ae,af,false,ah,ai,aj,ak,am,an,ap,aq,()))else
some (ae,af,false,ah,ai,aj,ak,am,an,ap,aq,()):Option (T2h)).bind λ(av,ax,ay,az,aA,aB,aD,aE,aF,aG,aH,_)=>
bif ay then((fS az aA av aB aD aF true).bind λ(aI,aJ,aK,_)=>
some (.inl (aK,aI,aJ,())))else
(bif(ax==4)then(bif(aB==1)then(some (av,ax,(aE==1),az,aA,aB,aD,aE,aF,aG,aH,()))else
some (av,ax,false,az,aA,aB,aD,aE,aF,aG,aH,()))else
bif(ax==13)then(bif(aB==1)then(some (av,ax,(aE==1),az,aA,aB,aD,aE,aF,aG,aH,()))else
some (av,ax,false,az,aA,aB,aD,aE,aF,aG,aH,()))else
some (av,ax,false,az,aA,aB,aD,aE,aF,aG,aH,()):Option (T2h)).bind λ(aI,aJ,aK,aL,aM,aO,aP,aQ,aR,aS,aT,_)=>
bif aK then((kD aL aM aI aO aP aQ aR).bind λ(aU,aV,aW,aY,aZ,_)=>
bif(!aZ)then(some (.inl (4,0,0,())))else
bif(aJ==13)then((j0 (decide (aV<aY))).bind λ(ba,bc,_)=>
some (.inl (0,ba,bc,())))else
let ba:=w64 (aV-aY);
let bc:=wk .u16 ba;
some (.inl (0,0,bc,())))else
some (.inr (aI,aJ,false,aL,aM,aO,aP,aQ,aR,aS,aT,())):Option (T0e⊕T2h))with
|none=>none
|some (.inl (x0,x1,x2,_))=>
some (x1,x2,x0,())
|some (.inr (x0,x1,x2,x3,x4,x5,x6,x7,x8,x9,ac,_))=>
some (0,0,3,()))
def I7:X.Cfg:=⟨E0,[rF,rE,rG,uz],[],[⟨9,0,qE,[(.normal,qS [sP 1 RI,Ul 2,Uk 5,Uk 8,Uk 9,Uk 10,Um 46] [(12,zaa),(18,Ur),(20,Ur),(22,Ur)])]⟩,⟨11,1,qE,[(.normal,qS [sP 1 RI,Ul 2,Uk 5,Uk 8,Uk 9,Uk 10,Um 67] [(12,zaa),(18,Ur),(20,Ur),(22,Ur)])]⟩,⟨13,2,qE,[(.normal,qS [sP 1 RI,Ul 2,Uk 5,Uk 8,Uk 9,Uk 10,Um 88] [(12,zaa),(18,Ur),(20,Ur),(22,Ur)])]⟩,⟨15,3,qE,[(.normal,qS [sP 1 RI,Ul 2,Uk 5,Uk 8,Uk 9,Uk 10,Um 109] [(12,zaa),(18,Ur),(20,Ur),(22,Ur)])]⟩,⟨4,4,qE,[(.ret,qS [Uk 10,Ul 11] [(22,Ur)]),(.normal,qS [sP 1 RI,Ul 2,Uk 5,Uk 8,Uk 9,Uk 10,Um 109] [(12,zaa),(18,Ur),(20,Ur),(22,Ur)])]⟩]⟩
def Bb:Ctr:=⟨158,68,[.agg zaa,shU RI,shU I64,.agg Ur,.agg Ur],[],[⟨yah,[.agg 2,.one],[]⟩],ap8 rW⟩
theorem IY:Lk 3 Bb:=ls I7 (aC wl (aC yo (aC wm (aC BS aN))))
def lF(a0:Int):Option (Bool×Unit):=
(ie a0).bind λ(x0,_)=>
bif x0 then(some (true,()))else
bif(a0==22)then(some (true,()))else
some ((a0==24),())
def Ac:X.Cfg:=⟨E0,[ke],[],[]⟩
def sO:Ctr:=⟨159,69,zab,[],[⟨Up,[.one],[]⟩],ap1 lF⟩
theorem zK:Lk 2 sO:=ls Ac (aC ma aN)
def pD(a0:LDIn)(a1:List (Int))(a2:List LI)(a3:Int)(a4:List (Int))(a5:Int)(a6:LDCe)(a7:LDLn)(a8:LDTh):Option (T18):=
(eq a3).bind λx0=>
(dM a8 x0).bind λx1=>
(dM a8 x0).bind λx2=>
let x3:=dQ a0.length;
bif(decide (x2.2.2.1>=x3))then((fJ x0 2 a8).bind λ(x4,x5,_)=>
some (x4,a4,a5,a6,a7,x5,()))else
(dM a8 x0).bind λx4=>
(eq x4.2.2.1).bind λx5=>
(dM a0 x5).bind λx6=>
(dM a8 x0).bind λx7=>
let x8:=w64 (x7.2.2.1+1);
(dM a8 x0).bind λx9=>
(eq x6.2.1).bind λac=>
(dM a8 x0).bind λae=>
(dM ae.2.1 ac).bind λaf=>
(dM a8 x0).bind λag=>
(dM ag.2.1 ac).bind λah=>
(dM a8 x0).bind λai=>
(eq x6.2.2.1).bind λaj=>
(dM a8 x0).bind λak=>
(dM ak.2.1 aj).bind λam=>
(dM a8 x0).bind λan=>
(dM an.2.1 aj).bind λap=>
(match(bif(x6.1==0)then(some (.inl (x0,x8,a4,a5,a6,a7,a8,x6.1,x6.2.1,x6.2.2.1,x6.2.2.2.1,x6.2.2.2.2,())))else
bif(x6.1==1)then((dM a8 x0).bind λaq=>
let av:=wk .u16 x6.2.2.2.2;
(eq x6.2.1).bind λax=>
(dM a8 x0).bind λay=>
(dM ay.2.1 ax).bind λaz=>
(dM a8 x0).bind λaA=>
(dM aA.2.1 ax).bind λaB=>
let aD:=(List.modify a8 x0 λe=>(e.1,((List.modify e.2.1 ax λe=>(0,av)),e.2.2)));
some (.inl (x0,x8,a4,a5,a6,a7,aD,x6.1,x6.2.1,x6.2.2.1,x6.2.2.2.1,x6.2.2.2.2,())))else
bif(x6.1==2)then((dM a8 x0).bind λaq=>
(eq x6.2.1).bind λav=>
(dM a8 x0).bind λax=>
(dM ax.2.1 av).bind λay=>
(dM a8 x0).bind λaz=>
(dM az.2.1 av).bind λaA=>
let aB:=(List.modify a8 x0 λe=>(e.1,((List.modify e.2.1 av λe=>(ap.1,ap.2)),e.2.2)));
some (.inl (x0,x8,a4,a5,a6,a7,aB,x6.1,x6.2.1,x6.2.2.1,x6.2.2.2.1,x6.2.2.2.2,())))else
bif(x6.1==15)then((dM a8 x0).bind λaq=>
(eq x6.2.2.2.2).bind λav=>
(dM a4 av).bind λax=>
let ay:=wk .u16 ax;
(eq x6.2.1).bind λaz=>
(dM a8 x0).bind λaA=>
(dM aA.2.1 az).bind λaB=>
(dM a8 x0).bind λaD=>
(dM aD.2.1 az).bind λaE=>
let aF:=(List.modify a8 x0 λe=>(e.1,((List.modify e.2.1 az λe=>(1,ay)),e.2.2)));
some (.inl (x0,x8,a4,a5,a6,a7,aF,x6.1,x6.2.1,x6.2.2.1,x6.2.2.2.1,x6.2.2.2.2,())))else
bif(x6.1==16)then((bif(x6.1==17)then(some (x0,x8,a4,a5,a6,a7,a8,a0,a1,a2,x6.1,x6.2.1,x6.2.2.1,x6.2.2.2.1,x6.2.2.2.2,ap.1,ap.2,ah.1,ah.2,()))else
some (x0,x8,a4,a5,a6,a7,a8,a0,a1,a2,x6.1,x6.2.1,x6.2.2.1,x6.2.2.2.1,x6.2.2.2.2,ap.1,ap.2,ap.1,ap.2,()):Option (T2K)).bind λ(aq,av,ax,ay,az,aA,aB,aD,aE,aF,aG,aH,aI,aJ,aK,aL,aM,aO,aP,_)=>
let aQ:=wk .u16 aK;
(fS ax ay aE aO aP aQ false).bind λ(aR,aS,aT,_)=>
bif(aT != 0)then((fJ aq aT aB).bind λ(aU,aV,_)=>
some (.inr (aU,ax,ay,az,aA,aV,())))else
bif(aG==16)then((dM aB aq).bind λaU=>
let aV:=wk .i64 aS;
(n9 aV az aA).bind λ(aW,aY,aZ,ba,_)=>
(eq aH).bind λbc=>
(dM aB aq).bind λbd=>
(dM bd.2.1 bc).bind λbf=>
(dM aB aq).bind λbg=>
(dM bg.2.1 bc).bind λbh=>
let bi:=(List.modify aB aq λe=>(e.1,((List.modify e.2.1 bc λe=>(aW,aY)),e.2.2)));
some (.inl (aq,av,ax,ay,aZ,ba,bi,aG,aH,aI,aJ,aK,())))else
let aU:=wk .i64 aS;
(kF aU aL aM az aA).bind λ(aV,aW,_)=>
some (.inl (aq,av,ax,ay,aV,aW,aB,aG,aH,aI,aJ,aK,())))else
bif(x6.1==17)then((bif(x6.1==17)then(some (x0,x8,a4,a5,a6,a7,a8,a0,a1,a2,x6.1,x6.2.1,x6.2.2.1,x6.2.2.2.1,x6.2.2.2.2,ap.1,ap.2,ah.1,ah.2,()))else
some (x0,x8,a4,a5,a6,a7,a8,a0,a1,a2,x6.1,x6.2.1,x6.2.2.1,x6.2.2.2.1,x6.2.2.2.2,ap.1,ap.2,ap.1,ap.2,()):Option (T2K)).bind λ(aq,av,ax,ay,az,aA,aB,aD,aE,aF,aG,aH,aI,aJ,aK,aL,aM,aO,aP,_)=>
let aQ:=wk .u16 aK;
(fS ax ay aE aO aP aQ false).bind λ(aR,aS,aT,_)=>
bif(aT != 0)then((fJ aq aT aB).bind λ(aU,aV,_)=>
some (.inr (aU,ax,ay,az,aA,aV,())))else
bif(aG==16)then((dM aB aq).bind λaU=>
let aV:=wk .i64 aS;
(n9 aV az aA).bind λ(aW,aY,aZ,ba,_)=>
(eq aH).bind λbc=>
(dM aB aq).bind λbd=>
(dM bd.2.1 bc).bind λbf=>
(dM aB aq).bind λbg=>
(dM bg.2.1 bc).bind λbh=>
let bi:=(List.modify aB aq λe=>(e.1,((List.modify e.2.1 bc λe=>(aW,aY)),e.2.2)));
some (.inl (aq,av,ax,ay,aZ,ba,bi,aG,aH,aI,aJ,aK,())))else
let aU:=wk .i64 aS;
(kF aU aL aM az aA).bind λ(aV,aW,_)=>
some (.inl (aq,av,ax,ay,aV,aW,aB,aG,aH,aI,aJ,aK,())))else
bif(x6.1==18)then(some (.inl (x0,x6.2.2.2.2,a4,a5,a6,a7,a8,x6.1,x6.2.1,x6.2.2.1,x6.2.2.2.1,x6.2.2.2.2,())))else
bif(x6.1==19)then(bif(ah.1 != 0)then((fJ x0 3 a8).bind λ(aq,av,_)=>
some (.inr (aq,a4,a5,a6,a7,av,())))else
bif((ah.2==0)==(x6.1==19))then(some (.inl (x0,x6.2.2.2.2,a4,a5,a6,a7,a8,x6.1,x6.2.1,x6.2.2.1,x6.2.2.2.1,x6.2.2.2.2,())))else
some (.inl (x0,x8,a4,a5,a6,a7,a8,x6.1,x6.2.1,x6.2.2.1,x6.2.2.2.1,x6.2.2.2.2,())))else
bif(x6.1==20)then(bif(ah.1 != 0)then((fJ x0 3 a8).bind λ(aq,av,_)=>
some (.inr (aq,a4,a5,a6,a7,av,())))else
bif((ah.2==0)==(x6.1==19))then(some (.inl (x0,x6.2.2.2.2,a4,a5,a6,a7,a8,x6.1,x6.2.1,x6.2.2.1,x6.2.2.2.1,x6.2.2.2.2,())))else
some (.inl (x0,x8,a4,a5,a6,a7,a8,x6.1,x6.2.1,x6.2.2.1,x6.2.2.2.1,x6.2.2.2.2,())))else
bif(x6.1==21)then((dM a8 x0).bind λaq=>
let av:=wk .u16 x8;
(eq x6.2.1).bind λax=>
(dM a8 x0).bind λay=>
(dM ay.2.1 ax).bind λaz=>
(dM a8 x0).bind λaA=>
(dM aA.2.1 ax).bind λaB=>
let aD:=(List.modify a8 x0 λe=>(e.1,((List.modify e.2.1 ax λe=>(0,av)),e.2.2)));
some (.inl (x0,x6.2.2.2.2,a4,a5,a6,a7,aD,x6.1,x6.2.1,x6.2.2.1,x6.2.2.2.1,x6.2.2.2.2,())))else
bif(x6.1==22)then(bif(ah.1 != 0)then((fJ x0 3 a8).bind λ(aq,av,_)=>
some (.inr (aq,a4,a5,a6,a7,av,())))else
bif(decide (ah.2>255))then((fJ x0 2 a8).bind λ(aq,av,_)=>
some (.inr (aq,a4,a5,a6,a7,av,())))else
let aq:=wk .i64 ah.2;
some (.inl (x0,aq,a4,a5,a6,a7,a8,x6.1,x6.2.1,x6.2.2.1,x6.2.2.2.1,x6.2.2.2.2,())))else
bif(x6.1==24)then((dM a8 x0).bind λaq=>
bif(aq.2.2.2.2.2.1==(-1))then((fJ x0 1 a8).bind λ(av,ax,_)=>
some (.inr (av,a4,a5,a6,a7,ax,())))else
(dM a8 x0).bind λav=>
(dM a8 x0).bind λax=>
let ay:=(List.modify a8 x0 λe=>(e.1,(e.2.1,(e.2.2.1,(e.2.2.2.1,(e.2.2.2.2.1,((-1),e.2.2.2.2.2.2)))))));
some (.inl (x0,av.2.2.2.2.2.1,a4,a5,a6,a7,ay,x6.1,x6.2.1,x6.2.2.1,x6.2.2.2.1,x6.2.2.2.2,())))else
bif(x6.1==23)then((dM a8 x0).bind λaq=>
let av:=List.modify a8 x0 λe=>(2,e.2);
(dM av x0).bind λax=>
let ay:=(List.modify av x0 λe=>(e.1,(e.2.1,(x8,e.2.2.2))));
some (.inr (1,a4,a5,a6,a7,ay,())))else
(dM a8 x0).bind λaq=>
(eq x6.2.2.2.1).bind λav=>
(dM a8 x0).bind λax=>
(dM ax.2.1 av).bind λay=>
(dM a8 x0).bind λaz=>
(dM az.2.1 av).bind λaA=>
(rW a4 a5 a1 x6.1 ap.1 ap.2 aA.1 aA.2).bind λ(aB,aD,aE,_)=>
bif(aE != 0)then((fJ x0 aE a8).bind λ(aF,aG,_)=>
some (.inr (aF,a4,a5,a6,a7,aG,())))else
(dM a8 x0).bind λaF=>
(eq x6.2.1).bind λaG=>
(dM a8 x0).bind λaH=>
(dM aH.2.1 aG).bind λaI=>
(dM a8 x0).bind λaJ=>
(dM aJ.2.1 aG).bind λaK=>
let aL:=(List.modify a8 x0 λe=>(e.1,((List.modify e.2.1 aG λe=>(aB,aD)),e.2.2)));
some (.inl (x0,x8,a4,a5,a6,a7,aL,x6.1,x6.2.1,x6.2.2.1,x6.2.2.2.1,x6.2.2.2.2,())):Option ((Nat×Int×LI×Int×LDCe×LDLn×LDTh×T0R)⊕T18))with
|none=>none
|some (.inl (aq,av,ax,ay,az,aA,aB,aD,aE,aF,aG,aH,_))=>
(dM aB aq).bind λaI=>
let aJ:=(List.modify aB aq λe=>(e.1,(e.2.1,(av,e.2.2.2))));
((lF aD).bind λ(aK,_)=>
bif aK then((dM aJ aq).bind λaL=>
let aM:=w64 (aL.2.2.2.1+1);
(dM aJ aq).bind λaO=>
let aP:=(List.modify aJ aq λe=>(e.1,(e.2.1,(e.2.2.1,(aM,e.2.2.2.2)))));
some (ax,ay,az,aA,aP,()))else
some (ax,ay,az,aA,aJ,()):Option (T0X)).bind λ(aK,aL,aM,aO,aP,_)=>
some ((-1),aK,aL,aM,aO,aP,())
|some (.inr (aq,av,ax,ay,az,aA,_))=>
some (aq,av,ax,ay,az,aA,()))
def Gg:X.Cfg:=⟨E0,[wP,rG,wR,pZ,Bb,sO],[],[⟨17,0,qE,[(.normal,(qS [Uk 1,Uk 3,(7,.ptr ⟨4,4,[((),(8,0))]⟩ [0,0]),Uk 8,Ul 9,Uk 11,Uk 12] [(4,uab),(8,Uq),(18,Xab),(24,Ur),(26,Ur)]))]⟩,⟨8,1,qE,[(.normal,(qS [Uk 1,(7,.ptr ⟨4,4,[((),(8,0))]⟩ [0,0]),Uk 8,Ul 9] [(4,uab),(18,Xab)])),(.ret,qS [Uk 1,Ul 6] [(4,uab)])]⟩,⟨52,2,qE,[(.normal,qS [Uk 1] [(4,uab)])]⟩]⟩
def zl:Ctr:=⟨140,70,[.agg Uq,.ptr ⟨4,0,[]⟩ [0],shU I64],[(4,uab)],[⟨zab,[.one],[(4,uab)]⟩],ap9 pD⟩
theorem F3:Lk 4 zl:=ls Gg (aC D3 (aC wm (aC D5 (aC tX (aC IY (aC zK aN))))))
def qi:T2v->Option (T2v⊕T1p):=λ(v0,v1,v2,v3,v4,v5,v6,v7,v8,v9,v10,v11,v12,v13,v14,_)=>
(pD v2 v3 v4 v0 v10 v11 v12 v13 v14).bind λ(x0,x1,x2,x3,x4,x5,_)=>
bif(x0 != (-1))then(some (.inr (x0,0,x1,x2,x3,x4,x5,())))else
(eq v0).bind λx6=>
(dM x5 x6).bind λx7=>
(dM x5 x6).bind λx8=>
bif(x8.2.2.2.1==v1)then(some (.inr (0,0,x1,x2,x3,x4,x5,())))else
some (.inl (v0,v1,v2,v3,v4,v5,v6,v7,v8,v9,x1,x2,x3,x4,x5,()))
def mD(a0:LDIn)(a1:List (Int))(a2:List LI)(a3:List (Int))(a4:Int)(a5:LDCe)(a6:LDLn)(a7:LDTh)(a8:Int)(a9:Int):Option (LI×Int×LDCe×LDLn×LDTh×T02):=
((jh a0 a1 a2 a3 a4 a5 a6 a7).bind λ(x0,_)=>
bif(!x0)then(some (a8,a9,true,a0,a1,a2,a3,a4,a5,a6,a7,(),0,(),(),(),()))else
bif(decide (a8<0))then(some (a8,a9,true,a0,a1,a2,a3,a4,a5,a6,a7,(),0,(),(),(),()))else
bif(decide (a8>=4))then(some (a8,a9,true,a0,a1,a2,a3,a4,a5,a6,a7,(),0,(),(),(),()))else
bif(decide (a9<1))then(some (a8,a9,true,a0,a1,a2,a3,a4,a5,a6,a7,(),0,(),(),(),()))else
some (a8,a9,(decide (a9>64)),a0,a1,a2,a3,a4,a5,a6,a7,(),0,(),(),(),()):Option (Int×Int×Bool×LDIn×LI×LLI×LI×Int×LDCe×LDLn×LDTh×T0Z)).bind λ(x0,x1,x2,x3,x4,x5,x6,x7,x8,x9,ac,ae,af,ag,ah,ai,_)=>
bif x2 then(some ([],0,[],[],[],0,1,()))else
(iT x6 x7 x8 x9 ac).bind λ(aj,ak,am,an,ap,_)=>
(eq x0).bind λaq=>
(dM ac aq).bind λav=>
bif(av.1 != 1)then(some (aj,ak,am,an,ap,3,0,()))else
(eq x0).bind λax=>
(dM ap ax).bind λay=>
(dM ap ax).bind λaz=>
let aA:=w64 (az.2.2.2.1+x1);
(dZ qi NN (x0,aA,x3,x4,x5,ae,af,ag,ah,ai,aj,ak,am,an,ap,())).bind λ(aB,aD,aE,aF,aG,aH,aI,_)=>
some (aE,aF,aG,aH,aI,aB,aD,())
def Ct:X.Cfg:=⟨E0,[mX,mc,zl],[],[⟨2,0,qE,[(.normal,qS [Ul 2,Ul 3,Uk 4,Uk 5,Uk 8,Um 33] [(10,Uq),(12,uac),(18,Zac)])]⟩,⟨9,1,qS [Ul 2,Uk 4,Uk 8,Uk 11,Ul 12] [(10,Uq),(18,Zac),(24,uab)],[(.ret,qS [Uk 8,Ul 9,Ul 10] [(18,uab)])]⟩]⟩
def uv:Ctr:=⟨121,71,[.agg Uq,.agg uac,shU I64,shU I64],[],[⟨uL [RI,CW,(Ui KCe),mw,tz,I64,I64],[.agg 5,.one,.one],[]⟩],ap10 mD⟩
theorem BN:Lk 5 uv:=ls Ct (aC pQ (aC ot (aC F3 aN)))
def kA(a0:Int):Option (ByteArray×Unit):=
let x0:ByteArray:=(bytes []);
(bif(a0==0)then(some (a0,true,()))else
bif(a0==8)then(some (a0,true,()))else
bif(a0==9)then(some (a0,true,()))else
bif(a0==11)then(some (a0,true,()))else
some (a0,(a0==12),()):Option (T01)).bind λ(x1,x2,_)=>
bif x2 then(let x3:ByteArray:=(bytes [78]);
some (x3,()))else
bif(x1==1)then(let x3:ByteArray:=(bytes [72,80,78]);
some (x3,()))else
bif(x1==2)then(let x3:ByteArray:=(bytes [72,80,78]);
some (x3,()))else
bif(x1==3)then(let x3:ByteArray:=(bytes [78,78]);
some (x3,()))else
bif(x1==4)then(let x3:ByteArray:=(bytes [72]);
some (x3,()))else
bif(x1==5)then(let x3:ByteArray:=(bytes [72,78]);
some (x3,()))else
bif(x1==10)then(let x3:ByteArray:=(bytes [78,88]);
some (x3,()))else
bif(x1==13)then(let x3:ByteArray:=(bytes [78,80,78]);
some (x3,()))else
bif(x1==14)then(let x3:ByteArray:=(bytes [78,80,78]);
some (x3,()))else
let x3:ByteArray:=(bytes []);
some (x3,())
def Cm:X.Cfg:=⟨E0,[],[],[⟨3,0,qE,[(.normal,qS [Ul 3,Um 4] [])]⟩]⟩
def mW:Ctr:=⟨141,72,zab,[],[⟨uL [.str],[.one],[]⟩],ap1 kA⟩
theorem pO:Lk 1 mW:=ls Cm aN
def lW(a0:Int)(a1:Int):Option (Bool×Unit):=
bif(a0==78)then(some ((a1==0),()))else
bif(a0==72)then(some ((a1==2),()))else
bif(a0==80)then(some ((a1==1),()))else
some (true,())
def Ez:X.Cfg:=⟨E0,[],[],[]⟩
def rB:Ctr:=⟨142,73,uL [CB,CB],[],[⟨Up,[.one],[]⟩],ap2 lW⟩
theorem wg:Lk 1 rB:=ls Ez aN
def iw(a0:Int):Option (Int×Unit):=
bif(decide (a0<0))then(some ((-1),()))else
bif(decide (a0>15))then(some ((-1),()))else
bif(a0==1)then(some (1,()))else
bif(a0==13)then(some (1,()))else
bif(a0==2)then(some (2,()))else
bif(a0==14)then(some (2,()))else
some (0,())
def zZ:X.Cfg:=⟨E0,[],[],[]⟩
def jD:Ctr:=⟨126,74,zab,[],[⟨zab,[.one],[]⟩],ap1 iw⟩
theorem lK:Lk 1 jD:=ls zZ aN
def lE(a0:List (Int))(a1:Int)(a2:List (Int))(a3:Int)(a4:Int)(a5:Int):Option (T02):=
bif(a3 != 1)then(some (0,3,()))else
let x0:=wk .i64 a4;
(fC a0 a1 a2 x0).bind λ(x1,x2,x3,_)=>
(bif(!x3)then(some (true,a3,a4,()))else
bif(decide (a5<0))then(some (true,a3,a4,()))else
(eq x1).bind λx4=>
(dM a2 x4).bind λx5=>
let x6:=w64 (x5-x2);
some ((decide (a5>x6)),a3,a4,()):Option (T0b)).bind λ(x4,x5,x6,_)=>
bif x4 then(some (0,4,()))else
let x7:=wk .i64 x6;
some (x7,0,())
def Ab:X.Cfg:=⟨E0,[i7],[],[⟨6,0,qE,[(.normal,qS [Uk 6,Um 41] [(14,Ur)])]⟩]⟩
def sN:Ctr:=⟨143,75,[.agg zaa,shU RI,.agg Ur,shU I64],[],[⟨Zaa,[.one,.one],[]⟩],ap6 lE⟩
theorem zJ:Lk 2 sN:=ls Ab (aC kU aN)
def mg:T2M->Option (T2M⊕((Int×Unit)⊕(Int×ByteArray×Int×Int×Bool×T2y))):=λ(v0,v1,v2,v3,v4,v5,v6,v7,v8,v9,v10,v11,v12,v13,v14)=>
bif(decide (v3<v2))then((eq v3).bind λx0=>
(AC v1 x0).bind λx1=>
(eq v3).bind λx2=>
(dM v13 x2).bind λx3=>
(lW x1 x3.1).bind λ(x4,_)=>
bif(!x4)then(some (.inr (.inl (6,()))))else
let x5:=w64 (v3+1);
some (.inl (v0,v1,v2,x5,v4,v5,v6,v7,v8,v9,v10,v11,v12,v13,v14)))else
some (.inr (.inr (v0,v1,v2,v3,false,v4,v5,v6,v7,v8,v9,v10,v11,v12,v13,v14)))
def mC(a0:LDIn)(a1:List (Int))(a2:List LI)(a3:List (Int))(a4:Int)(a5:LDCe)(a6:LDLn)(a7:LDTh)(a8:Int):Option (Int×Unit):=
(eq a8).bind λx0=>
(dM a7 x0).bind λx1=>
let x2:=w64 (x1.2.2.1-1);
(eq x2).bind λx3=>
(dM a0 x3).bind λx4=>
(kA x4.2.2.2.2).bind λ(x5,_)=>
let x6:=Bo x5;
(match dZ mg NN (x4.2.2.2.2,x5,x6,0,a0,a1,a2,a3,a4,a5,a6,a7,x1.1,x1.2.1,x1.2.2.1,x1.2.2.2.1,x1.2.2.2.2.1,x1.2.2.2.2.2.1,x1.2.2.2.2.2.2.1,x1.2.2.2.2.2.2.2,())with
|none=>none
|some (.inl (x7,_))=>
some (x7,())
|some (.inr (x7,x8,x9,ac,ae,af,ag,ah,ai,aj,ak,am,an,ap,aq,_))=>
(iw x7).bind λ(aD,_)=>
bif(decide (aD>0))then((dM aq 1).bind λaE=>
(dM aq 2).bind λaF=>
let aG:=wk .i64 aF.2;
(lE ai aj ag aE.1 aE.2 aG).bind λ(aH,aI,_)=>
bif(aI != 0)then(some (6,()))else
(dM aq 2).bind λaJ=>
bif(decide (aJ.2>16))then(some (6,()))else
(bif(x7==10)then((dM aq 0).bind λaK=>
let aL:=wk .i64 aK.2;
let aM:=dQ af.length;
some ((decide (aL>=aM)),()))else
bif(x7==12)then((dM aq 0).bind λaK=>
let aL:=wk .i64 aK.2;
let aM:=dQ af.length;
some ((decide (aL>=aM)),()))else
some (false,()):Option (Bool×Unit)).bind λ(aK,_)=>
bif aK then(some (6,()))else
some (0,()))else
(bif(x7==10)then((dM aq 0).bind λaE=>
let aF:=wk .i64 aE.2;
let aG:=dQ af.length;
some ((decide (aF>=aG)),()))else
bif(x7==12)then((dM aq 0).bind λaE=>
let aF:=wk .i64 aE.2;
let aG:=dQ af.length;
some ((decide (aF>=aG)),()))else
some (false,()):Option (Bool×Unit)).bind λ(aE,_)=>
bif aE then(some (6,()))else
some (0,()))
def Cp:X.Cfg:=⟨E0,[mW,rB,jD,sN],[],[⟨6,0,qS [Uk 3,Uk 4,Uk 7,Ul 8,sP 9 .str,Ul 29,Ul 30] [(8,Uq),(10,uac),(16,uad)],[(.ret,qS [Ul 6] []),(.exit 0,qS [Uk 3,Uk 4,Uk 7,Ul 8,sP 9 .str,Ul 29,Ul 30,Um 31] [(8,Uq),(10,uac),(16,uad)])]⟩,⟨19,1,qE,[(.normal,qS [Um 93] [])]⟩]⟩
def uu:Ctr:=⟨122,76,[.agg Uq,.agg uac,shU I64],[],[⟨zab,[.one],[]⟩],ap9 mC⟩
theorem BM:Lk 3 uu:=ls Cp (aC pO (aC wg (aC lK (aC zJ aN))))
def lD(a0:Int)(a1:LDCe)(a2:Int)(a3:Int)(a4:Int)(a5:Int)(a6:Int)(a7:Int):Option (T1F):=
bif(dW 4 0 a1.length)then let x0:LDCe:=(List.append [] a1);
some (a0,x0,a2,a3,a4,a5,a6,a7,())else none
def Aa:X.Cfg:=⟨E0,[],[],[]⟩
def sM:Ctr:=⟨144,77,[.agg uad],[],[⟨Zaf,[.agg 8],[]⟩],ap8 lD⟩
theorem zI:Lk 1 sM:=ls Aa aN
def nu(a0:Int)(a1:LDCe)(a2:Int)(a3:Int)(a4:Int)(a5:Int)(a6:Int)(a7:Int)(a8:Int)(a9:Int):Option (T1F):=
(lD a0 a1 a2 a3 a4 a5 a6 a7).bind λ(x0,x1,x2,x3,x4,x5,_)=>
some (4,x1,x2,x3,x4,x5,a8,a9,())
def Gj:X.Cfg:=⟨E0,[sM],[],[]⟩
def tp:Ctr:=⟨123,78,[.agg uad,shU I64,shU CW],[],[⟨Zaf,[.agg 8],[]⟩],ap10 nu⟩
theorem yn:Lk 2 tp:=ls Gj (aC zI aN)
def gZ(a0:Int):Option (Int×Unit):=
bif(decide (a0<0))then(some ((-1),()))else
bif(decide (a0>15))then(some ((-1),()))else
(kA a0).bind λ(x0,_)=>
let x1:=Bo x0;
some (x1,())
def vz:X.Cfg:=⟨E0,[mW],[],[]⟩
def lw:Ctr:=⟨124,79,zab,[],[⟨zab,[.one],[]⟩],ap1 gZ⟩
theorem oZ:Lk 2 lw:=ls vz (aC pO aN)
def kH(a0:List (Int))(a1:Int)(a2:List (Int))(a3:Int)(a4:Int):Option (T0v):=
bif(a3==0)then(some (0,a4,0,0,()))else
bif(a3==2)then(let x0:Int:=(wk .u16 (a4-a1));
some (2,x0,0,0,()))else
let x0:=wk .i64 a4;
(fC a0 a1 a2 x0).bind λ(x1,x2,x3,_)=>
bif x3 then(some (1,0,x1,x2,()))else
let x4:=wk .i64 a4;
some (1,0,(-1),x4,())
def CH:X.Cfg:=⟨E0,[i7],[],[]⟩
def uE:Ctr:=⟨125,80,[.agg zaa,shU RI,.agg Ur],[],[⟨Xad,[.agg 4],[]⟩],ap5 kH⟩
theorem BX:Lk 2 uE:=ls CH (aC kU aN)
def n8(a0:LDCe)(a1:LDLn)(a2:Int):Option (T02):=
let x0:=w64 (Int.tdiv a2 4);
let x1:=Int.tmod x0 4;
(eq x1).bind λx2=>
(dM a1 x2).bind λx3=>
bif(x3.1==x0)then(let x4:Int:=(Int.tmod a2 4);
(eq x4).bind λx5=>
(dM x3.2.2 x5).bind λx6=>
some (x6.1,x6.2,()))else
(eq a2).bind λx4=>
(dM a0 x4).bind λx5=>
some (x5.1,x5.2,())
def EK:X.Cfg:=⟨E0,[],[],[]⟩
def wQ:Ctr:=⟨127,81,[.agg Xae,shU I64],[],[⟨Ur,[.agg 2],[]⟩],ap3 n8⟩
theorem D4:Lk 1 wQ:=ls EK aN
def iQ:T3e->Option (T3e⊕(Int×Int×T3a)):=λ(v0,v1,v2,v3,v4,v5,v6,v7,v8,v9,v10,v11,v12,v13,v14,v15,v16,v17,v18,v19,v20,v21,v22,v23,v24,v25,v26,v27,v28,v29,v30,v31,v32,v33,v34,v35,v36,v37,v38,_)=>
bif(decide (v1<v0))then((eq v1).bind λx0=>
(dM v24 x0).bind λx1=>
(kH v18 v19 v3 x1.1 x1.2).bind λ(x2,x3,x4,x5,_)=>
let x6:LDCn:=[(x2,(x3,(x4,x5)))];
bif(dW 24 v37.length x6.length)then let x7:LDCn:=(List.append v37 x6);
let x8:=w64 (v1+1);
some (.inl (v0,x8,v2,v3,v4,v5,v6,v7,v8,v9,v10,v11,v12,v13,v14,v15,v16,v17,v18,v19,v20,v21,v22,v23,v24,v25,v26,v27,v28,v29,v30,v31,v32,v33,v34,v35,v36,x7,v38,()))else none)else
some (.inr (v0,v1,false,v2,v3,v4,v5,v6,v7,v8,v9,v10,v11,v12,v13,v14,v15,v16,v17,v18,v19,v20,v21,v22,v23,v24,v25,v26,v27,v28,v29,v30,v31,v32,v33,v34,v35,v36,v37,v38,()))
def iP:T3d->Option (T3d⊕T3g):=λ(v0,v1,v2,v3,v4,v5,v6,v7,v8,v9,v10,v11,v12,v13,v14,v15,v16,v17,v18,v19,v20,v21,v22,v23,v24,v25,v26,v27,v28,v29,v30,v31,v32,v33,v34,v35,v36,v37,v38,_)=>
bif(decide (v1<v0))then((dM v24 1).bind λx0=>
let x1:=wk .i64 x0.2;
let x2:=w64 (x1+v1);
(n8 v20 v21 x2).bind λ(x3,x4,_)=>
(kH v18 v19 v3 x3 x4).bind λ(x5,x6,x7,x8,_)=>
let x9:LDCn:=[(x5,(x6,(x7,x8)))];
bif(dW 24 v38.length x9.length)then let ac:LDCn:=(List.append v38 x9);
let ae:=w64 (v1+1);
some (.inl (v0,ae,v2,v3,v4,v5,v6,v7,v8,v9,v10,v11,v12,v13,v14,v15,v16,v17,v18,v19,v20,v21,v22,v23,v24,v25,v26,v27,v28,v29,v30,v31,v32,v33,v34,v35,v36,v37,ac,()))else none)else
some (.inr (v0,v1,false,v2,v3,v4,v5,v6,v7,v8,v9,v10,v11,v12,v13,v14,v15,v16,v17,v18,v19,v20,v21,v22,v23,v24,v25,v26,v27,v28,v29,v30,v31,v32,v33,v34,v35,v36,v37,v38,()))
def lX(a0:LDIn)(a1:List (Int))(a2:List LI)(a3:List (Int))(a4:Int)(a5:LDCe)(a6:LDLn)(a7:LDTh)(a8:Int)(a9:Int):Option (LI×Int×LDCe×LDLn×LDTh×Int×Int×Int×Int×Int×Int×LDCn×LDCn×Int×Unit):=
(mD a0 a1 a2 a3 a4 a5 a6 a7 a8 a9).bind λ(x0,x1,x2,x3,x4,x5,x6,_)=>
bif(x6 != 0)then(some ([],0,[],[],[],0,0,0,0,0,0,[],[],x6,()))else
(eq a8).bind λx7=>
(dM x4 x7).bind λx8=>
(dM x4 x7).bind λx9=>
(dM x4 x7).bind λac=>
(match(bif(x5==2)then(some (.inl ((),0,(),(),(),0,0,0,0,0,0,(),(),x0,x1,x2,x3,x4,a8,x5,x9.2.2.2.2.2.2.1,x9.2.2.2.1,x9.2.2.1,0,(),(),())))else
bif(x5==1)then((mC a0 a1 a2 x0 x1 x2 x3 x4 a8).bind λ(ae,_)=>
bif(ae != 0)then((nu x9.1 ac.2.1 x9.2.2.1 x9.2.2.2.1 x9.2.2.2.2.1 x9.2.2.2.2.2.1 x9.2.2.2.2.2.2.1 x9.2.2.2.2.2.2.2 ae 0).bind λ(af,ag,ah,ai,aj,ak,am,an,_)=>
(eq a8).bind λap=>
(dM x4 ap).bind λaq=>
(dM x4 ap).bind λav=>
let ax:=(List.modify x4 ap λe=>(af,(ag,(ah,(ai,(aj,(ak,(am,an))))))));
some (.inl ((),0,(),(),(),0,0,0,0,0,0,(),(),x0,x1,x2,x3,ax,a8,2,ae,x9.2.2.2.1,x9.2.2.1,0,(),(),())))else
let af:=w64 (x9.2.2.1-1);
(eq af).bind λag=>
(dM a0 ag).bind λah=>
(gZ ah.2.2.2.2).bind λ(ai,_)=>
(dZ iQ NN (ai,0,a0,a1,a2,(),0,(),(),(),0,0,0,0,0,0,(),(),x0,x1,x2,x3,x4,x9.1,ac.2.1,x9.2.2.1,x9.2.2.2.1,x9.2.2.2.2.1,x9.2.2.2.2.2.1,x9.2.2.2.2.2.2.1,x9.2.2.2.2.2.2.2,a8,x5,0,x9.2.2.2.1,x9.2.2.1,ah.2.2.2.2,[],(),())).bind λ(aj,ak,am,an,ap,aq,av,ax,ay,az,aA,aB,aD,aE,aF,aG,aH,aI,aJ,aK,aL,aM,aO,aP,aQ,aR,aS,aT,aU,aV,aW,aY,aZ,ba,bc,bd,bf,bg,bh,bi,_)=>
(iw bg).bind λ(bj,_)=>
bif(bj==1)then((dM aR 2).bind λbk=>
let bl:=wk .i64 bk.2;
(dZ iP NN (bl,0,an,ap,aq,av,ax,ay,az,aA,aB,aD,aE,aF,aG,aH,aI,aJ,aK,aL,aM,aO,aP,aQ,aR,aS,aT,aU,aV,aW,aY,aZ,ba,bc,bd,bf,bg,bh,[],())).bind λ(bm)=>
some (.inr (.inl (bm))))else
some (.inr (.inr (.inl (false,an,ap,aq,av,ax,ay,az,aA,aB,aD,aE,aF,aG,aH,aI,aJ,aK,aL,aM,aO,aP,aQ,aR,aS,aT,aU,aV,aW,aY,aZ,ba,bc,bd,bf,bg,bh,bi,())))))else
some (.inr (.inr (.inr (a8,false,a0,a1,a2,(),0,(),(),(),0,0,0,0,0,0,(),(),x0,x1,x2,x3,x4,x9.1,ac.2.1,x9.2.2.1,x9.2.2.2.1,x9.2.2.2.2.1,x9.2.2.2.2.2.1,x9.2.2.2.2.2.2.1,x9.2.2.2.2.2.2.2,a8,x5,0,x9.2.2.2.1,x9.2.2.1,0,(),(),())))):Option ((Unit×Int×Unit×Unit×Unit×Int×Int×Int×Int×Int×Int×Unit×Unit×LI×Int×LDCe×LDLn×LDTh×T1A)⊕(T3g⊕(T3a⊕(Int×Bool×LDIn×LI×LLI×Unit×Int×Unit×Unit×Unit×Int×Int×Int×Int×Int×Int×Unit×Unit×LI×Int×LDCe×LDLn×LDTh×Int×LDCe×Int×Int×Int×Int×Int×Int×T1A)))))with
|none=>none
|some (.inl (ae,af,ag,ah,ai,aj,ak,am,an,ap,aq,av,ax,ay,az,aA,aB,aD,aE,aF,aG,aH,aI,aJ,aK,aL,_))=>
some (ay,az,aA,aB,aD,aE,aF,aG,aH,aI,aJ,[],[],0,())
|some (.inr (.inl (ae,af,ag,ah,ai,aj,ak,am,an,ap,aq,av,ax,ay,az,aA,aB,aD,aE,aF,aG,aH,aI,aJ,aK,aL,aM,aO,aP,aQ,aR,aS,aT,aU,aV,aW,aY,aZ,ba,bc,_)))=>
some (aF,aG,aH,aI,aJ,aT,aU,aV,aW,aY,aZ,ba,bc,0,())
|some (.inr (.inr (.inl (ae,af,ag,ah,ai,aj,ak,am,an,ap,aq,av,ax,ay,az,aA,aB,aD,aE,aF,aG,aH,aI,aJ,aK,aL,aM,aO,aP,aQ,aR,aS,aT,aU,aV,aW,aY,aZ,_))))=>
some (aD,aE,aF,aG,aH,aR,aS,aT,aU,aV,aW,aY,[],0,())
|some (.inr (.inr (.inr (ae,af,ag,ah,ai,aj,ak,am,an,ap,aq,av,ax,ay,az,aA,aB,aD,aE,aF,aG,aH,aI,aJ,aK,aL,aM,aO,aP,aQ,aR,aS,aT,aU,aV,aW,aY,aZ,ba,_))))=>
some (aE,aF,aG,aH,aI,aS,aT,aU,aV,aW,aY,[],[],0,()))
def EA:X.Cfg:=⟨E0,[uv,uu,tp,lw,uE,jD,wQ],[],[⟨19,0,qS [Uk 4,Uk 8,Uk 9,Uk 11,Uk 14,Uk 15,Ul 80,Ul 81] [(10,Uq),(18,Zac),(20,zac),(24,Zae),(30,uad),(32,Xaf)],[(.exit 1,qS [Uk 4,Uk 8,Uk 9,Uk 11,Uk 14,Uk 15,Ul 80,Ul 81,Um 82] [(10,Uq),(18,Zac),(20,zac),(24,Zae),(30,uad),(32,Xaf)])]⟩,⟨26,1,qS [Uk 4,Uk 8,Uk 9,Uk 11,Uk 14,Uk 15,Ul 109,Ul 110] [(10,Uq),(18,Zac),(20,zac),(24,Zae),(30,uad),(32,uaf)],[(.exit 3,qS [Uk 4,Uk 8,Uk 9,Uk 11,Uk 14,Uk 15,Ul 109,Ul 110,Um 111] [(10,Uq),(18,Zac),(20,zac),(24,Zae),(30,uad),(32,uaf)])]⟩,⟨7,2,qE,[(.normal,qS [Uk 8,Uk 9,Uk 11,Uk 15] [(18,Zac),(20,zac),(24,Zae),(32,zac)]),(.normal,qS [Uk 4,Uk 8,Uk 9,Uk 11,Uk 14,Uk 15,Ul 109,Ul 110,Um 111] [(10,Uq),(18,Zac),(20,zac),(24,Zae),(30,uad),(32,uaf)]),(.normal,qS [Uk 4,Uk 8,Uk 9,Uk 11,Uk 14,Uk 15,Um 103] [(10,Uq),(18,Zac),(20,zac),(24,Zae),(30,uad),(32,Xaf)]),(.normal,qS [Ul 2,Uk 4,Uk 8,Uk 9,Uk 11,Uk 14,Uk 15,Um 51] [(10,Uq),(18,Zac),(20,zac),(24,Zae),(30,uad),(32,zac)])]⟩]⟩
def wN:Ctr:=⟨95,82,[.agg Uq,.agg uac,shU I64,shU I64],[],[⟨uL [RI,CW,gU,ja,jW,I64,I64,I64,I64,I64,I64,ej,ej,I64],[.agg 5,.agg 8,.one],[]⟩],ap10 lX⟩
theorem D1:Lk 6 wN:=ls EA (aC BN (aC BM (aC yn (aC oZ (aC BX (aC lK (aC D4 aN)))))))
def iN:T20->Option (T20⊕T2a):=λ(v0,v1,v2,v3,v4,v5,v6,v7,v8,_)=>
bif(decide (v2<v1))then((eq v2).bind λx0=>
(dM v0 x0).bind λx1=>
bif(dW 8 0 x1.length)then let x2:List (Int):=(List.append [] x1);
bif(dW 24 v8.length (List.length [x2]))then let x3:List LI:=(List.append v8 [x2]);
let x4:=w64 (v2+1);
some (.inl (v0,v1,x4,v3,v4,v5,v6,v7,x3,()))else none else none)else
some (.inr (v0,v1,v2,false,v3,v4,v5,v6,v7,v8,()))
def lU(a0:List (Int))(a1:List LI):Option (T08):=
bif(dW 8 0 a0.length)then let x0:List (Int):=(List.append [] a0);
let x1:=dQ a1.length;
(dZ iN NN (a1,x1,0,a0,a1,(),(),x0,[],())).bind λ(x2,x3,x4,x5,x6,x7,x8,x9,ac)=>
some (ac)else none
def Ev:X.Cfg:=⟨E0,[],[(21,(Ui I64)),(22,(Ui I64))],[(lx 4 0 [Uk 2,Uk 3,sP 11 (Uj RI),Ul 12,Ul 13] [(4,yad),(6,uaa),(8,Uac)] 14)]⟩
def oz:Ctr:=⟨146,83,[.agg yad],[],[⟨Uac,[.agg 2],[]⟩],ap2 lU⟩
theorem ra:Lk 1 oz:=ls Ev aN
def jZ(a0:List (Int))(a1:List LI)(a2:Int)(a3:Int):Option (LI×LLI×T01):=
(lU a0 a1).bind λ(x0,x1,_)=>
(bif(decide (a2<0))then(some (a2,true,(),(),x0,x1,()))else
bif(decide (a2>=4))then(some (a2,true,(),(),x0,x1,()))else
(eq a2).bind λx2=>
(dM a0 x2).bind λx3=>
some (a2,(x3 != a3),(),(),x0,x1,()):Option (T13)).bind λ(x2,x3,x4,x5,x6,x7,_)=>
bif x3 then(some (x6,x7,(-1),false,()))else
(eq x2).bind λx8=>
(dM x6 x8).bind λx9=>
(dM x6 x8).bind λac=>
let ae:=List.modify x6 x8 λe=>(-1);
(eq x2).bind λaf=>
(dM x7 af).bind λag=>
(dM x7 af).bind λah=>
(dM x7 af).bind λai=>
let aj:=dQ ai.length;
bif(decide (aj>0))then((eq x2).bind λak=>
(dM x7 ak).bind λam=>
(dM x7 ak).bind λan=>
(dM x7 ak).bind λap=>
(dM ap 0).bind λaq=>
(dM x7 ak).bind λav=>
(dM av 0).bind λax=>
(eq x2).bind λay=>
(dM ae ay).bind λaz=>
(dM ae ay).bind λaA=>
let aB:=List.modify ae ay λe=>ax;
(eq x2).bind λaD=>
(dM x7 aD).bind λaE=>
(dM x7 aD).bind λaF=>
(dM x7 aD).bind λaG=>
bif(gF 1 aG.length aG.length)then(dM x7 aD).bind λaH=>
(eq x2).bind λaI=>
(dM x7 aI).bind λaJ=>
(dM x7 aD).bind λaK=>
(dM x7 aI).bind λaL=>
let aM:=(List.modify x7 aI λe=>(my aK 1 (Nat.sub aG.length 1)));
(eq x2).bind λaO=>
(dM aB aO).bind λaP=>
some (aB,aM,aP,true,())else none)else
(eq x2).bind λak=>
(dM ae ak).bind λam=>
some (ae,x7,am,true,())
def Et:X.Cfg:=⟨E0,[oz],[],[⟨3,0,qE,[(.normal,qS [Ul 1,Uk 6,Uk 9,Um 26] [(14,uaa),(20,Uac)])]⟩]⟩
def oy:Ctr:=⟨128,84,[.agg yad,shU I64,shU I64],[],[⟨uL [RI,(Uj RI),I64,.bool],[.agg 2,.one,.one],[]⟩],ap4 jZ⟩
theorem q9:Lk 2 oy:=ls Et (aC ra aN)
def eu(a0:Int)(a1:Bool):Option (T1m):=
(bif(!a1)then(some (65535,0,0,0,0,(),0,false,()))else
some (a0,0,0,0,0,(),0,false,()):Option (Int×T1m)).bind λ(x0,_)=>
let x8:=wk .u16 x0;
some (0,x8,0,0,(),(-1),false,())
def Ce:X.Cfg:=⟨E0,[],[],[⟨1,0,qE,[(.normal,qS [Ul 0,Uk 4] [(10,Zab)])]⟩]⟩
def lc:Ctr:=⟨147,85,uL [I64,.bool],[],[⟨Zab,[.agg 7],[]⟩],ap2 eu⟩
theorem mQ:Lk 1 lc:=ls Ce aN
def nn:T2u->Option (T2u⊕((Int×T08)⊕(Int×Int×LLI×Int×Int×LI×T1K))):=λ(v0,v1,v2,v3,v4,v5,v6,v7,v8,v9,v10,v11,v12)=>
bif(decide (v7<v6))then((eq v7).bind λx0=>
(dM v5 x0).bind λx1=>
bif(x1==v1)then(some (.inr (.inl (2,v12))))else
let x2:=w64 (v7+1);
some (.inl (v0,v1,v2,v3,v4,v5,v6,x2,v8,v9,v10,v11,v12)))else
some (.inr (.inr (v0,v1,v2,v3,v4,v5,v6,v7,false,v8,v9,v10,v11,v12)))
def nj:T2d->Option (T2d⊕((Int×T08)⊕(Int×Int×T2a))):=λ(v0,v1,v2,v3,v4,v5)=>
bif(decide (v4<v3))then((eq v4).bind λx0=>
(dM v2 x0).bind λx1=>
let x2:=dQ x1.length;
(match dZ nn NN (v0,v1,v2,v3,v4,x1,x2,0,v5)with
|none=>none
|some (.inl (x3,x4,x5,_))=>
some (.inr (.inl (x3,x4,x5,())))
|some (.inr (x3,x4,x5,x6,x7,x8,x9,ac,ae,af))=>
let am:=w64 (x7+1);
some (.inl (x3,x4,x5,x6,am,af))))else
some (.inr (.inr (v0,v1,v2,v3,v4,false,v5)))
def n6(a0:List (Int))(a1:List LI)(a2:Int)(a3:Int):Option (LI×LLI×Int×Unit):=
(lU a0 a1).bind λ(x0,x1,_)=>
(bif(decide (a2<0))then(some (a2,a3,true,a0,a1,(),(),x0,x1,()))else
bif(decide (a2>=4))then(some (a2,a3,true,a0,a1,(),(),x0,x1,()))else
(eq a2).bind λx2=>
(dM a0 x2).bind λx3=>
some (a2,a3,(x3==a3),a0,a1,(),(),x0,x1,()):Option (T1K)).bind λ(x2,x3,x4,x5,x6,x7,x8,x9,ac,_)=>
bif x4 then(some (x9,ac,2,()))else
let ae:=dQ x6.length;
(match dZ nj NN (x2,x3,x6,ae,0,x5,x6,x7,x8,x9,ac,())with
|none=>none
|some (.inl (af,ag,ah,_))=>
some (ag,ah,af,())
|some (.inr (af,ag,ah,ai,aj,ak,am,an,ap,aq,av,ax,_))=>
(eq af).bind λay=>
(dM am ay).bind λaz=>
bif(az==(-1))then((eq af).bind λaA=>
(dM av aA).bind λaB=>
(dM av aA).bind λaD=>
let aE:=List.modify av aA λe=>ag;
some (aE,ax,0,()))else
(eq af).bind λaA=>
(dM ax aA).bind λaB=>
(dM ax aA).bind λaD=>
(dM ax aA).bind λaE=>
bif(dW 8 aE.length (List.length [ag]))then let aF:List (Int):=(List.append aE [ag]);
(eq af).bind λaG=>
(dM ax aG).bind λaH=>
(dM ax aG).bind λaI=>
bif(Nat.beq aG aA)then let aJ:List LI:=(List.modify ax aG λe=>aF);
some (av,aJ,1,())else none else none)
def Es:X.Cfg:=⟨E0,[oz],[],[⟨3,0,qE,[(.normal,qS [Ul 1,Ul 2,Uk 3,Uk 6,Uk 8,Um 29] [(8,yad),(14,uaa),(18,Uac)])]⟩,⟨13,1,qS [Ul 1,Ul 2,Uk 3,Uk 6,Uk 8,sP 32 (Uj RI),Ul 33,Ul 34,sP 38 RI,Ul 39,Ul 40] [(8,yad),(14,uaa),(18,Uac)],[(.ret,qS [Uk 6,Ul 7] [(14,Uac)]),(.exit 2,qS [Ul 1,Ul 2,Uk 3,Uk 6,Uk 8,sP 32 (Uj RI),Ul 33,Ul 34,sP 38 RI,Ul 39,Ul 40,Um 41] [(8,yad),(14,uaa),(18,Uac)])]⟩,⟨7,2,qS [Ul 1,Ul 2,Uk 3,Uk 6,Uk 8,sP 32 (Uj RI),Ul 33,Ul 34] [(8,yad),(14,uaa),(18,Uac)],[(.ret,qS [Uk 6,Ul 7] [(14,Uac)]),(.exit 0,qS [Ul 1,Ul 2,Uk 3,Uk 6,Uk 8,sP 32 (Uj RI),Ul 33,Ul 34,Um 35] [(8,yad),(14,uaa),(18,Uac)])]⟩]⟩
def wL:Ctr:=⟨148,86,[.agg yad,shU I64,shU I64],[],[⟨uL [(Ui I64),(Ui (Ui I64)),I64],[.agg 2,.one],[]⟩],ap4 n6⟩
theorem DZ:Lk 2 wL:=ls Es (aC ra aN)
def fG(a0:Int)(a1:Int)(a2:Int)(a3:Int)(a4:Int)(a5:Int)(a6:LDCn)(a7:LDCn):Option (Bool×Unit):=
bif(decide (a0>=0))then(bif(decide (a0<4))then(bif(decide (a1>=0))then(bif(decide (a1<=3))then(bif(decide (a2>=0))then(bif(decide (a2<=6))then(bif(decide (a3>=0))then(bif(decide (a3<=1099511627776))then(bif(decide (a4>=0))then(bif(decide (a4<=255))then(bif(decide (a5>=0))then(bif(decide (a5<=15))then((fH a6 3).bind λ(x0,_)=>
bif x0 then((fH a7 16).bind λ(x1,_)=>
some (x1,()))else
some (false,()))else
some (false,()))else
some (false,()))else
some (false,()))else
some (false,()))else
some (false,()))else
some (false,()))else
some (false,()))else
some (false,()))else
some (false,()))else
some (false,()))else
some (false,()))else
some (false,())
def Cn:X.Cfg:=⟨E0,[jo],[],[]⟩
def ld:Ctr:=⟨38,87,[.agg yaa],[],[⟨Up,[.one],[]⟩],ap8 fG⟩
theorem mR:Lk 3 ld:=ls Cn (aC kT aN)
def qC(a0:Int):Option (Bool×Unit):=
bif(decide (a0>=1))then(bif(decide (a0<=7))then(some (true,()))else
bif(a0==13)then(some (true,()))else
some ((a0==14),()))else
bif(a0==13)then(some (true,()))else
some ((a0==14),())
def Ej:X.Cfg:=⟨E0,[],[],[]⟩
def wF:Ctr:=⟨160,88,zab,[],[⟨Up,[.one],[]⟩],ap1 qC⟩
theorem DU:Lk 1 wF:=ls Ej aN
def is:T2k->Option (T2k⊕((Bool×Unit)⊕(ByteArray×LDCn×Int×Int×Bool×T1y))):=λ(v0,v1,v2,v3,v4)=>
bif(decide (v3<v2))then((eq v3).bind λx0=>
(dM v1 x0).bind λx1=>
(eq v3).bind λx2=>
(AC v0 x2).bind λx3=>
(lW x3 x1.1).bind λ(x4,_)=>
bif(!x4)then(some (.inr (.inl (false,()))))else
let x5:=w64 (v3+1);
some (.inl (v0,v1,v2,x5,v4)))else
some (.inr (.inr (v0,v1,v2,v3,false,v4)))
def mB(a0:Int)(a1:Int)(a2:Int)(a3:Int)(a4:Int)(a5:Int)(a6:LDCn)(a7:LDCn):Option (Bool×Unit):=
(kA a5).bind λ(x0,_)=>
let x1:=Bo x0;
let x2:=dQ a6.length;
bif(x1 != x2)then(some (false,()))else
let x3:=dQ a6.length;
(match dZ is NN (x0,a6,x3,0,a0,a1,a2,a3,a4,a5,a6,a7,())with
|none=>none
|some (.inl (x4,_))=>
some (x4,())
|some (.inr (x4,_))=>
some (true,()))
def Co:X.Cfg:=⟨E0,[mW,rB],[],[⟨7,0,qS [sP 3 .str,sP 16 ej,Ul 17,Ul 18] [(4,yaa)],[(.ret,qS [Um 2] []),(.exit 0,qS [sP 3 .str,sP 16 ej,Ul 17,Ul 18,Um 19] [(4,yaa)])]⟩]⟩
def ut:Ctr:=⟨161,89,[.agg yaa],[],[⟨Up,[.one],[]⟩],ap8 mB⟩
theorem BL:Lk 2 ut:=ls Co (aC pO (aC wg aN))
def ib(a0:List LDCn)(a1:LDOp)(a2:Int):Option (Bool×Unit):=
bif(decide (a2>=0))then(let x0:Int:=(dQ a1.length);
bif(decide (a2<x0))then((eq a2).bind λx1=>
(dM a1 x1).bind λx2=>
some ((x2.1 != (-1)),()))else
some (false,()))else
some (false,())
def Em:X.Cfg:=⟨E0,[],[],[]⟩
def mb:Ctr:=⟨178,90,[.agg Uab,shU I64],[],[⟨Up,[.one],[]⟩],ap3 ib⟩
theorem oq:Lk 1 mb:=ls Em aN
def qg:T2g->Option (T2g⊕(LDCn×Nat×Int×Int×Int×Bool×T1h)):=λ(v0,v1,v2,v3,v4,v5,v6,v7,v8,v9,v10,_)=>
bif(decide (v4<v3))then(((dM v9 v1).bind λx0=>
let x1:=w64 (x0.2.1+v4);
let x2:=dQ v10.length;
bif(decide (x1<x2))then((dM v9 v1).bind λx3=>
let x4:=w64 (x3.2.1+v4);
(eq v4).bind λx5=>
(dM v0 x5).bind λx6=>
(eq x4).bind λx7=>
(dM v10 x7).bind λx8=>
(dM v10 x7).bind λx9=>
let ac:=(List.modify v10 x7 λe=>(x6.1,(x6.2.1,(x6.2.2.1,x6.2.2.2))));
some (v0,v1,v2,v3,v4,v5,v6,v7,v8,v9,ac,()))else
(eq v4).bind λx3=>
(dM v0 x3).bind λx4=>
let x5:LDCn:=[(x4.1,(x4.2.1,(x4.2.2.1,x4.2.2.2)))];
bif(dW 24 v10.length x5.length)then let x6:LDCn:=(List.append v10 x5);
some (v0,v1,v2,v3,v4,v5,v6,v7,v8,v9,x6,())else none:Option (T2g)).bind λ(x0,x1,x2,x3,x4,x5,x6,x7,x8,x9,ac,_)=>
let ae:=w64 (x4+1);
some (.inl (x0,x1,x2,x3,ae,x5,x6,x7,x8,x9,ac,())))else
some (.inr (v0,v1,v2,v3,v4,false,v5,v6,v7,v8,v9,v10,()))
def mz(a0:List LDCn)(a1:LDOp)(a2:Int)(a3:LDCn):Option (LLCn×LDOp×T01):=
(gK a0 a1).bind λ(x0,x1,_)=>
((ib a0 a1 a2).bind λ(x2,_)=>
bif(!x2)then(some (a2,a3,true,(),(),x0,x1,()))else
(eq a2).bind λx3=>
(dM a1 x3).bind λx4=>
bif(!x4.2.2)then(some (a2,a3,true,(),(),x0,x1,()))else
let x5:=dQ a3.length;
(fH a3 x5).bind λ(x6,_)=>
some (a2,a3,(!x6),(),(),x0,x1,()):Option (Int×LDCn×T0O)).bind λ(x2,x3,x4,x5,x6,x7,x8,_)=>
bif x4 then(some (x7,x8,0,false,()))else
(eq x2).bind λx9=>
(dM x8 x9).bind λac=>
let ae:=dQ x3.length;
(dM x8 x9).bind λaf=>
let ag:=w64 (64-af.2.1);
let ah:=mmR false ae ag;
(dM x8 x9).bind λai=>
(eq ai.1).bind λaj=>
(dM x7 aj).bind λak=>
(dM x7 aj).bind λam=>
(dM x7 aj).bind λan=>
(dZ qg NN (x3,x9,ah,ah,0,x5,x6,x7,aj,x8,an,())).bind λ(ap,aq,av,ax,ay,az,aA,aB,aD,aE,aF,aG,_)=>
(dM aF aq).bind λaH=>
(eq aH.1).bind λaI=>
(dM aD aI).bind λaJ=>
(dM aD aI).bind λaK=>
bif(Nat.beq aI aE)then let aL:List LDCn:=(List.modify aD aI λe=>aG);
(dM aF aq).bind λaM=>
let aO:=w64 (aM.2.1+av);
(dM aF aq).bind λaP=>
let aQ:=(List.modify aF aq λe=>(e.1,(aO,e.2.2)));
some (aL,aQ,av,true,())else none
def Ch:X.Cfg:=⟨E0,[i6,mb,jo],[],[⟨3,0,qE,[(.normal,qS [Ul 1,sP 2 ej,Uk 6,Uk 9,Um 35] [(14,uaa),(20,Xac)])]⟩,⟨13,1,qE,[(.normal,(qS [sP 2 ej,Uk 6,Uk 9,(10,.ptr ⟨20,1,[((),(3,0))]⟩ [0,0]),Ul 11,Un 12 27,Ul 57,Ul 58] [(14,uaa),(20,[.gap (Ui KCn) () () 0,shU (Ui KOp)]),(27,uae)]))]⟩,(lx 10 2 [sP 2 ej,Uk 6,Uk 9,(10,.ptr ⟨20,1,[((),(3,0))]⟩ [0,0]),Ul 11,Un 12 27,Ul 57,Ul 58] [(14,uaa),(20,[.gap (Ui KCn) () () 0,shU (Ui KOp)]),(27,uae)] 59)]⟩
def up:Ctr:=⟨162,91,[.agg Uab,shU I64,shU ej],[],[⟨uL [(Ui (Ui KCn)),(Ui KOp),I64,.bool],[.agg 2,.one,.one],[]⟩],ap4 mz⟩
theorem BI:Lk 3 up:=ls Ch (aC j6 (aC oq (aC kT aN)))
def nY(a0:List LDCn)(a1:LDOp)(a2:Int)(a3:Int):Option ((LLCn×LDOp×Unit×Bool×Unit)⊕(LLCn×LDOp×LDCn×Bool×Unit)):=
(gK a0 a1).bind λ(x0,x1,_)=>
((ib a0 a1 a2).bind λ(x2,_)=>
bif(!x2)then(some (a2,a3,true,a0,a1,(),(),x0,x1,()))else
bif(decide (a3<0))then(some (a2,a3,true,a0,a1,(),(),x0,x1,()))else
(eq a2).bind λx3=>
(dM a1 x3).bind λx4=>
some (a2,a3,x4.2.2,a0,a1,(),(),x0,x1,()):Option (T1L)).bind λ(x2,x3,x4,x5,x6,x7,x8,x9,ac,_)=>
bif x4 then(some (.inl (x9,ac,(),false,())))else
(eq x2).bind λae=>
(dM ac ae).bind λaf=>
(dM ac ae).bind λag=>
(eq ag.1).bind λah=>
(dM x9 ah).bind λai=>
(dM x9 ah).bind λaj=>
(dM x9 ah).bind λak=>
let am:=dQ ak.length;
(dM ac ae).bind λan=>
let ap:=w64 (am-an.2.1);
let aq:=mmR false x3 ap;
(dM ac ae).bind λav=>
(dM ac ae).bind λax=>
let ay:=w64 (ax.2.1+aq);
(eq av.2.1).bind λaz=>
(eq ay).bind λaA=>
bif(gF az aA ak.length)then let aB:LDCn:=(my ak az (Nat.sub aA az));
bif(dW 24 0 aB.length)then let aD:LDCn:=(List.append [] aB);
(dM ac ae).bind λaE=>
let aF:=w64 (aE.2.1+aq);
(dM ac ae).bind λaG=>
let aH:=(List.modify ac ae λe=>(e.1,(aF,e.2.2)));
some (.inr (x9,aH,aD,true,()))else none else none
def Eo:X.Cfg:=⟨E0,[i6,mb],[],[⟨3,0,qE,[(.normal,qS [Ul 1,Ul 2,Uk 6,Uk 9,Um 31] [(8,Uab),(14,uaa),(20,Xac)])]⟩]⟩
def wJ:Ctr:=⟨163,92,[.agg Uab,shU I64,shU I64],[],[⟨uL [(Ui (Ui KCn)),(Ui KOp),N1,.bool],[.agg 2,.one,.one],[]⟩,⟨uL [(Ui ej),(Ui KOp),(Ui KCn),.bool],[.agg 2,.one,.one],[]⟩],ap4 nY⟩
theorem DX:Lk 2 wJ:=ls Eo (aC j6 (aC oq aN))
def qF:T1P->Option (T1P⊕(Int×T1L)):=λ(v0,v1,v2,v3,v4,v5)=>
let x0:=dQ v4.length;
bif(decide (v2<x0))then((eq v2).bind λx1=>
(dM v4 x1).bind λx2=>
bif(x2.1 != (-1))then(let x3:Int:=(w64 (v2+1));
some (.inl (v0,v1,x3,v3,v4,v5)))else
some (.inr (v0,v1,v2,false,v3,v4,v5)))else
some (.inr (v0,v1,v2,false,v3,v4,v5))
def qD:T1N->Option (T1N⊕(Int×Int×T1x)):=λ(v0,v1,v2,v3,v4,v5,v6,v7,v8,_)=>
bif(decide (v4<v3))then(((eq v4).bind λx0=>
(dM v8 x0).bind λx1=>
(dM v8 x0).bind λx2=>
bif(x2.1==v0)then((eq v4).bind λx3=>
(dM v8 x3).bind λx4=>
(dM v8 x3).bind λx5=>
let x6:=(List.modify v8 x3 λe=>(e.1,(0,e.2.2)));
some (v0,v1,v2,v3,v4,v5,v6,v7,x6,()))else
some (v0,v1,v2,v3,v4,v5,v6,v7,v8,()):Option (T1N)).bind λ(x0,x1,x2,x3,x4,x5,x6,x7)=>
let x9:=w64 (x4+1);
some (.inl (x0,x1,x2,x3,x9,x5,x6,x7)))else
some (.inr (v0,v1,v2,v3,v4,false,v5,v6,v7,v8,()))
def nZ(a0:List LDCn)(a1:LDOp)(a2:Int)(a3:Int):Option (LLCn×LDOp×Int×Unit):=
(gK a0 a1).bind λ(x0,x1,_)=>
(dZ qF NN (a2,a3,0,a0,a1,(),(),x0,x1,())).bind λ(x2,x3,x4,x5,x6,x7,x8)=>
(bif(decide (x2<0))then(some (x2,x3,x4,true,x8))else
let af:=dQ x6.length;
bif(decide (x2>=af))then(some (x2,x3,x4,true,x8))else
bif(decide (x3<0))then(some (x2,x3,x4,true,x8))else
bif(decide (x3>2))then(some (x2,x3,x4,true,x8))else
let ag:=dQ x7.length;
some (x2,x3,x4,(x4==ag),x8):Option (T1x)).bind λ(af,ag,ah,ai,aj,ak,am,an,_)=>
bif ai then(some (am,an,(-1),()))else
bif(ag==1)then((eq af).bind λap=>
(dM am ap).bind λaq=>
(dM am ap).bind λav=>
let ax:=List.modify am ap λe=>[];
let ay:=dQ an.length;
(dZ qD NN (af,ag,ah,ay,0,aj,ak,ax,an,())).bind λ(az,aA,aB,aD,aE,aF,aG,aH,aI,aJ,_)=>
(eq aB).bind λaK=>
(dM aJ aK).bind λaL=>
(dM aJ aK).bind λaM=>
let aO:=(List.modify aJ aK λe=>(az,(0,(decide (aA>0)))));
(bif(aA==2)then((eq az).bind λaP=>
(dM aI aP).bind λaQ=>
(dM aI aP).bind λaR=>
(dM aI aP).bind λaS=>
let aT:=dQ aS.length;
(eq aB).bind λaU=>
(dM aO aU).bind λaV=>
(dM aO aU).bind λaW=>
let aY:=(List.modify aO aU λe=>(e.1,(aT,e.2.2)));
some (aB,aG,aH,aI,aY,()))else
some (aB,aG,aH,aI,aO,()):Option (T0T)).bind λ(aP,aQ,aR,aS,aT,_)=>
some (aS,aT,aP,()))else
(eq ah).bind λap=>
(dM an ap).bind λaq=>
(dM an ap).bind λav=>
let ax:=(List.modify an ap λe=>(af,(0,(decide (ag>0)))));
(bif(ag==2)then((eq af).bind λay=>
(dM am ay).bind λaz=>
(dM am ay).bind λaA=>
(dM am ay).bind λaB=>
let aD:=dQ aB.length;
(eq ah).bind λaE=>
(dM ax aE).bind λaF=>
(dM ax aE).bind λaG=>
let aH:=(List.modify ax aE λe=>(e.1,(aD,e.2.2)));
some (ah,aj,ak,am,aH,()))else
some (ah,aj,ak,am,ax,()):Option (T0T)).bind λ(ay,az,aA,aB,aD,_)=>
some (aB,aD,ay,())
def Ep:X.Cfg:=⟨E0,[i6],[],[(lx 4 0 [Ul 1,Ul 2,Uk 3,Uk 6,Uk 8,Ul 9] [(8,Uab),(14,uaa),(18,Xac)] 26),⟨8,1,qE,[(.normal,qS [Ul 1,Ul 2,Uk 6,Uk 8,Ul 9,Um 52] [(14,uaa),(18,Xac)])]⟩,⟨17,2,qE,[(.normal,qS [Ul 1,Ul 2,Uk 6,Uk 8,Ul 9,Ul 62,Ul 63] [(14,uaa),(18,Xac)])]⟩,⟨14,3,qS [Ul 1,Ul 2,Uk 6,Uk 8,Ul 9,Ul 62,Ul 63] [(14,uaa),(18,Xac)],[(.exit 2,qS [Ul 1,Ul 2,Uk 6,Uk 8,Ul 9,Ul 62,Ul 63,Um 64] [(14,uaa),(18,Xac)])]⟩,⟨21,4,qE,[(.normal,qS [Uk 6,Uk 8,Ul 9] [(14,uaa),(18,Xac)])]⟩]⟩
def wK:Ctr:=⟨164,93,[.agg Uab,shU I64,shU I64],[],[⟨uai,[.agg 2,.one],[]⟩],ap4 nZ⟩
theorem DY:Lk 2 wK:=ls Ep (aC j6 aN)
def mA(a0:List LDCn)(a1:LDOp)(a2:Int):Option (LLCn×LDOp×Bool×Unit):=
(gK a0 a1).bind λ(x0,x1,_)=>
(ib a0 a1 a2).bind λ(x2,_)=>
bif(!x2)then(some (x0,x1,false,()))else
(eq a2).bind λx3=>
(dM x1 x3).bind λx4=>
(dM x1 x3).bind λx5=>
let x6:=(List.modify x1 x3 λe=>((-1),(0,false)));
some (x0,x6,true,())
def Cj:X.Cfg:=⟨E0,[i6,mb],[],[]⟩
def uq:Ctr:=⟨165,94,[.agg Uab,shU I64],[],[⟨zai,[.agg 2,.one],[]⟩],ap3 mA⟩
theorem BJ:Lk 2 uq:=ls Cj (aC j6 (aC oq aN))
def nX(a0:List LDCn)(a1:LDOp)(a2:Int)(a3:Int):Option (LLCn×LDOp×Bool×Unit):=
(gK a0 a1).bind λ(x0,x1,_)=>
((ib a0 a1 a2).bind λ(x2,_)=>
bif(!x2)then(some (a2,a3,true,(),(),x0,x1,()))else
bif(decide (a3<0))then(some (a2,a3,true,(),(),x0,x1,()))else
(eq a2).bind λx3=>
(dM a1 x3).bind λx4=>
(eq x4.1).bind λx5=>
(dM a0 x5).bind λx6=>
let x7:=dQ x6.length;
some (a2,a3,(decide (a3>x7)),(),(),x0,x1,()):Option (T1j)).bind λ(x2,x3,x4,x5,x6,x7,x8,_)=>
bif x4 then(some (x7,x8,false,()))else
(eq x2).bind λx9=>
(dM x8 x9).bind λac=>
(dM x8 x9).bind λae=>
let af:=(List.modify x8 x9 λe=>(e.1,(x3,e.2.2)));
some (x7,af,true,())
def En:X.Cfg:=⟨E0,[i6,mb],[],[⟨3,0,qE,[(.normal,qS [Ul 1,Ul 2,Uk 6,Uk 8,Um 33] [(14,uaa),(18,Xac)])]⟩]⟩
def wH:Ctr:=⟨166,95,[.agg Uab,shU I64,shU I64],[],[⟨zai,[.agg 2,.one],[]⟩],ap4 nX⟩
theorem DW:Lk 2 wH:=ls En (aC j6 (aC oq aN))
def nW(a0:LDOu)(a1:Int)(a2:LDCn):Option (LDOu×T01):=
(jY a0).bind λ(x0,_)=>
(bif(decide (a1<0))then(some (a0,a1,a2,true,x0,()))else
bif(decide (a1>=2))then(some (a0,a1,a2,true,x0,()))else
let x1:=dQ a0.length;
bif(decide (x1>=200))then(some (a0,a1,a2,true,x0,()))else
let x2:=dQ a2.length;
some (a0,a1,a2,(decide (x2>16)),x0,()):Option (LDOu×Int×LDCn×Bool×LDOu×Unit)).bind λ(x1,x2,x3,x4,x5,_)=>
bif x4 then(some (x5,0,false,()))else
let x6:=dQ x1.length;
bif(dW 24 0 x3.length)then let x7:LDCn:=(List.append [] x3);
let x8:LDOu:=[(x6,(x2,x7))];
bif(dW 40 x5.length x8.length)then let x9:LDOu:=(List.append x5 x8);
let ac:=dQ x3.length;
some (x9,ac,true,())else none else none
def Ek:X.Cfg:=⟨E0,[rv],[(36,GT),(37,GT)],[⟨3,0,qE,[(.normal,qS [sP 0 ll,Ul 1,sP 2 ej,Un 9 21,Um 27] [(21,Uah)])]⟩]⟩
def wG:Ctr:=⟨167,96,uL [ll,I64,ej],[],[⟨uL [(Ui GT),I64,.bool],[.one,.one,.one],[]⟩],ap3 nW⟩
theorem DV:Lk 2 wG:=ls Ek (aC vY aN)
def gJ:T1o->Option (T1o⊕(Int×Int×LI×Int×Int×Bool×LLI×LDCn×Unit)):=λ(v0,v1,v2,v3,v4,v5,v6,_)=>
bif(decide (v4<v3))then((eq v4).bind λx0=>
(dM v2 x0).bind λx1=>
let x2:LDCn:=[(0,(x1,(0,0)))];
bif(dW 24 v6.length x2.length)then let x3:LDCn:=(List.append v6 x2);
let x4:=w64 (v4+1);
some (.inl (v0,v1,v2,v3,x4,v5,x3,()))else none)else
some (.inr (v0,v1,v2,v3,v4,false,v5,v6,()))
def kt(a0:List LI)(a1:Int)(a2:Int):Option ((LLI×Unit×Bool×Unit)⊕(LLI×LDCn×Bool×Unit)):=
(fV a0).bind λ(x0,_)=>
(bif(decide (a1<0))then(some (a0,a1,a2,true,x0,()))else
let x1:=dQ a0.length;
bif(decide (a1>=x1))then(some (a0,a1,a2,true,x0,()))else
some (a0,a1,a2,(decide (a2<0)),x0,()):Option (LLI×Int×Int×Bool×LLI×Unit)).bind λ(x1,x2,x3,x4,x5,_)=>
bif x4 then(some (.inl (x5,(),false,())))else
(eq x2).bind λx6=>
(dM x1 x6).bind λx7=>
let x8:=dQ x7.length;
let x9:=mmR false x3 x8;
(eq x2).bind λac=>
(dM x1 ac).bind λae=>
(eq x9).bind λaf=>
bif(gF 0 af ae.length)then let ag:List (Int):=(my ae 0 (Nat.sub af 0));
let ah:=dQ ag.length;
(dZ gJ NN (x2,x9,ag,ah,0,x5,[],())).bind λ(ai,aj,ak,am,an,ap,aq,av,_)=>
(eq ai).bind λax=>
(dM aq ax).bind λay=>
(dM aq ax).bind λaz=>
(dM aq ax).bind λaA=>
(eq aj).bind λaB=>
bif(gF aB aA.length aA.length)then(dM aq ax).bind λaD=>
(eq ai).bind λaE=>
(dM aq aE).bind λaF=>
(dM aq ax).bind λaG=>
(dM aq aE).bind λaH=>
let aI:=(List.modify aq aE λe=>(my aG aB (Nat.sub aA.length aB)));
some (.inr (aI,av,true,()))else none else none
def yD:X.Cfg:=⟨E0,[iE],[],[⟨3,0,qE,[(.normal,qS [sP 0 (Uj RW),Ul 1,Ul 2,Un 9 21,Um 27] [(21,Zag)])]⟩,(lx 9 1 [Ul 1,Un 9 21,Ul 10,Un 11 25,sP 41 RW,Ul 42,Ul 43] [(21,Zag),(25,uae)] 44)]⟩
def rr:Ctr:=⟨168,97,uL [(Uj RW),I64,I64],[],[⟨uL [(Ui (Ui CW)),N1,.bool],[.one,.one,.one],[]⟩,⟨uL [(Ui RW),(Ui KCn),.bool],[.one,.one,.one],[]⟩],ap3 kt⟩
theorem yj:Lk 2 rr:=ls yD (aC kS aN)
def tE:T37->Option (T37⊕(LDCn×Int×Int×Bool×T31)):=λ(v0,v1,v2,v3,v4,v5,v6,v7,v8,v9,v10,v11,v12,v13,v14,v15,v16,v17,v18,v19,v20,v21,v22,v23,v24,v25,v26,v27,v28,v29,v30,v31,v32,v33,v34,v35,v36,_)=>
bif(decide (v2<v1))then((eq v2).bind λx0=>
(dM v0 x0).bind λx1=>
let x2:=wk .i64 x1.2.1;
(eq v2).bind λx3=>
(dM v36 x3).bind λx4=>
(dM v36 x3).bind λx5=>
let x6:=List.modify v36 x3 λe=>x2;
let x7:=w64 (v2+1);
some (.inl (v0,v1,x7,v3,v4,v5,v6,v7,v8,v9,v10,v11,v12,v13,v14,v15,v16,v17,v18,v19,v20,v21,v22,v23,v24,v25,v26,v27,v28,v29,v30,v31,v32,v33,v34,v35,x6,())))else
some (.inr (v0,v1,v2,false,v3,v4,v5,v6,v7,v8,v9,v10,v11,v12,v13,v14,v15,v16,v17,v18,v19,v20,v21,v22,v23,v24,v25,v26,v27,v28,v29,v30,v31,v32,v33,v34,v35,v36,()))
def oI(a0:List (Int))(a1:List (Int))(a2:List LI)(a3:List LDCn)(a4:LDOp)(a5:LDOu)(a6:Int)(a7:Int)(a8:Int)(a9:Int)(a10:Int)(a11:Int)(a12:LDCn)(a13:LDCn):Option (LI×LI×LLI×LLCn×LDOp×LDOu×Int×Int×Int×Int×LDCn×Int×Bool×Int×Unit):=
((jg a0 a1 a2 a3 a4 a5).bind λ(x0,_)=>
bif(!x0)then(some (true,a0,a1,a2,a3,a4,a5,a6,a7,a8,a9,a10,a11,a12,a13,(),(),(),(),(),(),0,0,0,0,(),0,false,()))else
(fG a6 a7 a8 a9 a10 a11 a12 a13).bind λ(x1,_)=>
bif(!x1)then(some (true,a0,a1,a2,a3,a4,a5,a6,a7,a8,a9,a10,a11,a12,a13,(),(),(),(),(),(),0,0,0,0,(),0,false,()))else
bif(a7 != 1)then(some (true,a0,a1,a2,a3,a4,a5,a6,a7,a8,a9,a10,a11,a12,a13,(),(),(),(),(),(),0,0,0,0,(),0,false,()))else
(qC a11).bind λ(x2,_)=>
bif(!x2)then(some (true,a0,a1,a2,a3,a4,a5,a6,a7,a8,a9,a10,a11,a12,a13,(),(),(),(),(),(),0,0,0,0,(),0,false,()))else
(mB a6 a7 a8 a9 a10 a11 a12 a13).bind λ(x3,_)=>
bif(!x3)then(some (true,a0,a1,a2,a3,a4,a5,a6,a7,a8,a9,a10,a11,a12,a13,(),(),(),(),(),(),0,0,0,0,(),0,false,()))else
(iw a11).bind λ(x4,_)=>
bif(x4==2)then((dM a12 2).bind λx5=>
some ((decide (x5.2.1>16)),a0,a1,a2,a3,a4,a5,a6,a7,a8,a9,a10,a11,a12,a13,(),(),(),(),(),(),0,0,0,0,(),0,false,()))else
some (false,a0,a1,a2,a3,a4,a5,a6,a7,a8,a9,a10,a11,a12,a13,(),(),(),(),(),(),0,0,0,0,(),0,false,()):Option (Bool×LI×LI×LLI×LLCn×LDOp×LDOu×Int×Int×Int×Int×Int×Int×LDCn×LDCn×Unit×Unit×Unit×Unit×Unit×Unit×T1m)).bind λ(x0,x1,x2,x3,x4,x5,x6,x7,x8,x9,ac,ae,af,ag,ah,ai,aj,ak,am,an,ap,aq,av,ax,ay,az,aA,aB,_)=>
bif x0 then(some ([],[],[],[],[],[],0,0,0,0,[],0,false,1,()))else
(nV x1 x2 x3 x4 x5 x6).bind λ(aD,aE,aF,aG,aH,aI,_)=>
let aJ:List (Int):=[0,0,0];
let aK:=dQ ag.length;
(dZ tE NN (ag,aK,0,x1,x2,x3,x4,x5,x6,x7,x8,x9,ac,ae,af,ag,ah,ai,aj,ak,am,an,ap,aq,av,ax,ay,az,aA,aB,aD,aE,aF,aG,aH,aI,aJ,())).bind λ(aL,aM,aO,aP,aQ,aR,aS,aT,aU,aV,aW,aY,aZ,ba,bc,bd,bf,bg,bh,bi,bj,bk,bl,bm,bn,bo,bp,bq,bt,bv,bx,bz,bA,bB,bC,bD,bE,bF,_)=>
(eu 0 false).bind λ(bG,bH,bI,bJ,bK)=>
(match(bif(bd==1)then((dM bF 0).bind λbN=>
(dM bF 0).bind λbO=>
(mz aT aU bO bg).bind λ(bP,bQ,bR,bS,_)=>
(eu bR bS).bind λ(bT,bU,bV,bW,bY,bZ,cc,_)=>
some (.inl (bh,bi,bj,bk,bl,bm,bn,bo,bp,bq,bt,bv,bx,bz,bA,bB,bP,bQ,bE,bT,bU,bV,bW,[],bZ,cc,())))else
bif(bd==2)then((dM bF 0).bind λbN=>
(dM bF 0).bind λbO=>
(dM bF 2).bind λbP=>
(dM bF 2).bind λbQ=>
(match nY aT aU bO bQ with
|none=>none
|some (.inl (bR,bS,bT,bU,_))=>
(eu 0 bU).bind λ(bV,bW,bY,bZ,cc,cd,cf,_)=>
some (.inl (bh,bi,bj,bk,bl,bm,bn,bo,bp,bq,bt,bv,bx,bz,bA,bB,bR,bS,bE,bV,bW,bY,bZ,[],cd,cf,()))
|some (.inr (bR,bS,bT,bU,_))=>
let bV:=dQ bT.length;
(eu bV bU).bind λ(bW,bY,bZ,cc,cd,cf,cg,_)=>
some (.inl (bh,bi,bj,bk,bl,bm,bn,bo,bp,bq,bt,bv,bx,bz,bA,bB,bR,bS,bE,bW,bY,bZ,cc,bT,cf,cg,()))))else
bif(bd==3)then((dM bF 0).bind λbN=>
(dM bF 0).bind λbO=>
(dM bF 1).bind λbP=>
(dM bF 1).bind λbQ=>
(nZ aT aU bO bQ).bind λ(bR,bS,bT,_)=>
bif(decide (bT>=0))then(let bU:Int:=(wk .u16 bT);
some (.inr (.inl (bh,bi,bj,bk,bl,bm,bn,bo,bp,bq,bt,bv,bx,bz,bA,bB,bR,bS,bE,2,bU,0,0,bK))))else
some (.inr (.inl (bh,bi,bj,bk,bl,bm,bn,bo,bp,bq,bt,bv,bx,bz,bA,bB,bR,bS,bE,bG,bH,bI,bJ,bK))))else
bif(bd==4)then((dM bF 0).bind λbN=>
(dM bF 0).bind λbO=>
(mA aT aU bO).bind λ(bP,bQ,bR,_)=>
(eu 0 bR).bind λ(bS,bT,bU,bV,bW,bY,bZ,_)=>
some (.inl (bh,bi,bj,bk,bl,bm,bn,bo,bp,bq,bt,bv,bx,bz,bA,bB,bP,bQ,bE,bS,bT,bU,bV,[],bY,bZ,())))else
bif(bd==5)then((dM bF 0).bind λbN=>
(dM bF 0).bind λbO=>
(dM bF 1).bind λbP=>
(dM bF 1).bind λbQ=>
(nX aT aU bO bQ).bind λ(bR,bS,bT,_)=>
(eu 0 bT).bind λ(bU,bV,bW,bY,bZ,cc,cd,_)=>
some (.inl (bh,bi,bj,bk,bl,bm,bn,bo,bp,bq,bt,bv,bx,bz,bA,bB,bR,bS,bE,bU,bV,bW,bY,[],cc,cd,())))else
bif(bd==6)then(let bN:Int:=(dQ aQ.length);
bif(decide (bN>0))then((dM aQ 0).bind λbO=>
let bP:=wk .i64 bO;
(eu bP true).bind λ(bQ,bR,bS,bT,bU,bV,bW,_)=>
bif(gF 1 bz.length bz.length)then let bY:List (Int):=(my bz 1 (Nat.sub bz.length 1));
some (.inr (.inr (.inl (bh,bi,bj,bk,bl,bm,bn,bo,bp,bq,bt,bv,bx,bY,bA,bB,bC,bD,bE,bQ,bR,bS,bT,bU,bV,bW,()))))else none)else
some (.inr (.inl (bh,bi,bj,bk,bl,bm,bn,bo,bp,bq,bt,bv,bx,bz,bA,bB,bC,bD,bE,bG,bH,bI,bJ,bK))))else
bif(bd==7)then(let bN:Int:=(dQ aR.length);
bif(decide (bN>0))then((dM aR 0).bind λbO=>
let bP:=wk .i64 bO;
(eu bP true).bind λ(bQ,bR,bS,bT,bU,bV,bW,_)=>
bif(gF 1 bA.length bA.length)then let bY:List (Int):=(my bA 1 (Nat.sub bA.length 1));
some (.inr (.inr (.inr (.inl (bh,bi,bj,bk,bl,bm,bn,bo,bp,bq,bt,bv,bx,bz,bY,bB,bC,bD,bE,bQ,bR,bS,bT,bU,bV,bW,())))))else none)else
some (.inr (.inl (bh,bi,bj,bk,bl,bm,bn,bo,bp,bq,bt,bv,bx,bz,bA,bB,bC,bD,bE,bG,bH,bI,bJ,bK))))else
bif(bd==13)then((dM bF 0).bind λbN=>
(dM bF 0).bind λbO=>
(nW aV bO bg).bind λ(bP,bQ,bR,_)=>
(eu bQ bR).bind λ(bS,bT,bU,bV,bW,bY,bZ,_)=>
some (.inr (.inl (bh,bi,bj,bk,bl,bm,bn,bo,bp,bq,bt,bv,bx,bz,bA,bB,bC,bD,bP,bS,bT,bU,bV,bW,bY,bZ,()))))else
bif(bd==14)then((dM bF 0).bind λbN=>
(dM bF 0).bind λbO=>
(dM bF 2).bind λbP=>
(dM bF 2).bind λbQ=>
(match kt aS bO bQ with
|none=>none
|some (.inl (bR,bS,bT,_))=>
(eu 0 bT).bind λ(bU,bV,bW,bY,bZ,cc,cd,_)=>
some (.inr (.inl (bh,bi,bj,bk,bl,bm,bn,bo,bp,bq,bt,bv,bx,bz,bA,bR,bC,bD,bE,bU,bV,bW,bY,bS,cc,cd,())))
|some (.inr (bR,bS,bT,_))=>
let bU:=dQ bS.length;
(eu bU bT).bind λ(bV,bW,bY,bZ,cc,cd,cf,_)=>
some (.inr (.inr (.inr (.inr (bh,bi,bj,bk,bl,bm,bn,bo,bp,bq,bt,bv,bx,bz,bA,bR,bC,bD,bE,bV,bW,bY,bZ,bS,cd,cf,())))))))else
some (.inr (.inl (bh,bi,bj,bk,bl,bm,bn,bo,bp,bq,bt,bv,bx,bz,bA,bB,bC,bD,bE,bG,bH,bI,bJ,bK))):Option (T2V⊕(T2W⊕(T2W⊕(T2W⊕T2V)))))with
|none=>none
|some (.inl (bN,bO,bP,bQ,bR,bS,bT,bU,bV,bW,bY,bZ,cc,cd,cf,cg,ch,ci,cj,cl,cn,cq,cr,cu,cw,cx,_))=>
some (cd,cf,cg,ch,ci,cj,cl,cn,cq,cr,cu,cw,cx,0,())
|some (.inr (.inl (bN,bO,bP,bQ,bR,bS,bT,bU,bV,bW,bY,bZ,cc,cd,cf,cg,ch,ci,cj,cl,cn,cq,cr,cu,cw,cx,_)))=>
some (cd,cf,cg,ch,ci,cj,cl,cn,cq,cr,[],cw,cx,0,())
|some (.inr (.inr (.inl (bN,bO,bP,bQ,bR,bS,bT,bU,bV,bW,bY,bZ,cc,cd,cf,cg,ch,ci,cj,cl,cn,cq,cr,cu,cw,cx,_))))=>
some (cd,cf,cg,ch,ci,cj,cl,cn,cq,cr,[],cw,cx,0,())
|some (.inr (.inr (.inr (.inl (bN,bO,bP,bQ,bR,bS,bT,bU,bV,bW,bY,bZ,cc,cd,cf,cg,ch,ci,cj,cl,cn,cq,cr,cu,cw,cx,_)))))=>
some (cd,cf,cg,ch,ci,cj,cl,cn,cq,cr,[],cw,cx,0,())
|some (.inr (.inr (.inr (.inr (bN,bO,bP,bQ,bR,bS,bT,bU,bV,bW,bY,bZ,cc,cd,cf,cg,ch,ci,cj,cl,cn,cq,cr,cu,cw,cx,_)))))=>
some (cd,cf,cg,ch,ci,cj,cl,cn,cq,cr,cu,cw,cx,0,()))
def I6:X.Cfg:=⟨E0,[mU,ld,wF,ut,jD,rp,lc,up,wJ,wK,uq,wH,wG,rr],[],[⟨2,0,qE,[(.normal,qS [Uk 2,Uk 3,Uk 4,Uk 5,Um 67] [(6,Zad),(8,yaa),(10,yaf),(12,Zab)])]⟩,(lx 8 1 [Uk 2,Uk 3,Uk 4,Uk 5,Uk 7,Un 8 19,sP 74 ej,Ul 75,Ul 76] [(6,Zad),(8,yaa),(10,yaf),(12,Zab),(16,Xah),(19,Uaa)] 77),⟨14,2,qE,[(.normal,(qS [Uk 4,Uk 5,Uk 7,Uk 11] [(10,yaf),(12,Zab),(16,uL [(Ui CW),(Ui CW),(Ui (Ui CW)),(Uj ej),iI,(Ui GT)]),(24,yag)])),(.normal,qS [Uk 4,Uk 5,Uk 7,Uk 11] [(10,yaf),(12,Zab),(16,Xah),(24,Zab)]),(.normal,(qS [Uk 4,Uk 5,Uk 7,Uk 11] [(10,yaf),(12,Zab),(16,uL [RW,(Ui CW),(Ui (Ui CW)),(Ui (Ui KCn)),(Ui KOp),(Ui GT)]),(24,Zab)])),(.normal,(qS [Uk 4,Uk 5,Uk 7,Uk 11] [(10,yaf),(12,Zab),(16,uL [(Ui CW),RW,(Ui (Ui CW)),(Ui (Ui KCn)),(Ui KOp),(Ui GT)]),(24,Zab)])),(.normal,(qS [Uk 4,Uk 5,Uk 7,Uk 11] [(10,yaf),(12,Zab),(16,uL [(Ui CW),(Ui CW),(Ui RW),(Ui (Ui KCn)),(Ui KOp),(Ui GT)]),(24,yag)]))]⟩]⟩
def Ba:Ctr:=⟨149,98,[.agg Zad,.agg yaa],[],[⟨uL [RW,RW,(Uj RW),(Uj ej),iI,ll,CB,CW,I64,I64,ej,I64,.bool,I64],[.agg 6,.agg 7,.one],[]⟩],ap14 oI⟩
theorem IX:Lk 5 Ba:=ls I6 (aC pM (aC mR (aC DU (aC BL (aC lK (aC vW (aC mQ (aC BI (aC DX (aC DY (aC BJ (aC DW (aC DV (aC yj aN))))))))))))))
def km:T2Y->Option (T2Y⊕(T2R⊕(LDTh×Int×Int×Bool×T2R))):=λ(v0,v1,v2,v3,v4,v5,v6,v7,v8,v9,v10,v11,v12,v13,v14,v15,v16,v17,v18,v19,v20,v21)=>
bif(decide (v2<v1))then((eq v2).bind λx0=>
(dM v0 x0).bind λx1=>
bif(x1.1==0)then((eu v2 true).bind λ(x2,x3,x4,x5,x6,x7,x8,_)=>
some (.inr (.inl (v3,v4,v5,v6,v7,v8,v9,v10,v11,v12,v13,v14,v15,v16,v17,v18,v19,v20,x2,x3,x4,x5,x6,v2,x8,()))))else
let x2:=w64 (v2+1);
some (.inl (v0,v1,x2,v3,v4,v5,v6,v7,v8,v9,v10,v11,v12,v13,v14,v15,v16,v17,v18,v19,v20,v21)))else
some (.inr (.inr (v0,v1,v2,false,v3,v4,v5,v6,v7,v8,v9,v10,v11,v12,v13,v14,v15,v16,v17,v18,v19,v20,v21)))
def kn(a0:Int)(a1:Int)(a2:Int)(a3:Int)(a4:Int)(a5:Int)(a6:LDCn)(a7:LDCn)(a8:LDIn)(a9:List (Int))(a10:List LI)(a11:List (Int))(a12:Int)(a13:LDCe)(a14:LDLn)(a15:LDTh)(a16:List (Int))(a17:List (Int))(a18:List LI)(a19:List LDCn)(a20:LDOp)(a21:LDOu)(a22:List (Int))(a23:List LI)(a24:LDEn)(a25:List (Int)):Option (Int×Int×Int×Int×LDCn×T2L):=
(bif(a5==0)then(some (a5,true,a8,a9,a10,a11,a12,a13,a14,a15,a16,a17,a18,a19,a20,a21,a22,a23,a24,a25,a0,a1,a2,a3,a4,a5,a6,a7,0,0,0,0,(),0,false,()))else
bif(a5==12)then(some (a5,true,a8,a9,a10,a11,a12,a13,a14,a15,a16,a17,a18,a19,a20,a21,a22,a23,a24,a25,a0,a1,a2,a3,a4,a5,a6,a7,0,0,0,0,(),0,false,()))else
some (a5,(a5==15),a8,a9,a10,a11,a12,a13,a14,a15,a16,a17,a18,a19,a20,a21,a22,a23,a24,a25,a0,a1,a2,a3,a4,a5,a6,a7,0,0,0,0,(),0,false,()):Option (T32)).bind λ(x0,x1,x2,x3,x4,x5,x6,x7,x8,x9,ac,ae,af,ag,ah,ai,aj,ak,am,an,ap,aq,av,ax,ay,az,aA,aB,aD)=>
bif x1 then((eu 0 true).bind λ(aK,aL,aM,aO,aP,aQ,aR,_)=>
some (aK,aL,aM,aO,[],aQ,aR,x2,x3,x4,x5,x6,x7,x8,x9,ac,ae,af,ag,ah,ai,aj,ak,am,an,()))else
bif(x0==8)then((dM aA 0).bind λaK=>
let aL:=wk .i64 aK.2.1;
(n6 aj ak aL ap).bind λ(aM,aO,aP,_)=>
(eu 0 (aP != 2)).bind λ(aQ,aR,aS,aT,aU,aV,aW,_)=>
some (aQ,aR,aS,aT,[],aV,(aP==1),x2,x3,x4,x5,x6,x7,x8,x9,ac,ae,af,ag,ah,ai,aM,aO,am,an,()))else
bif(x0==9)then((dM aA 0).bind λaK=>
let aL:=wk .i64 aK.2.1;
(jZ aj ak aL ap).bind λ(aM,aO,aP,aQ,_)=>
(eu 0 aQ).bind λ(aR,aS,aT,aU,aV,aW,aY,_)=>
some (aR,aS,aT,aU,[],aW,aY,x2,x3,x4,x5,x6,x7,x8,x9,ac,ae,af,ag,ah,ai,aM,aO,am,an,()))else
bif(x0==10)then(let aK:Int:=(dQ x9.length);
(match dZ km NN (x9,aK,0,x2,x3,x4,x5,x6,x7,x8,x9,ac,ae,af,ag,ah,ai,aj,ak,am,an,aD)with
|none=>none
|some (.inl (aL,aM,aO,aP,aQ,aR,aS,aT,aU,aV,aW,aY,aZ,ba,bc,bd,bf,bg,bh,bi,bj,bk,bl,bm,bn,_))=>
some (bh,bi,bj,bk,[],bm,bn,aL,aM,aO,aP,aQ,aR,aS,aT,aU,aV,aW,aY,aZ,ba,bc,bd,bf,bg,())
|some (.inr (aL,aM,aO,aP,aQ,aR,aS,aT,aU,aV,aW,aY,aZ,ba,bc,bd,bf,bg,bh,bi,bj,bk,bl,bm,bn,bo,bp,bq,bt,_))=>
(eu 0 false).bind λ(bv,bx,bz,bA,bB,bC,bD,_)=>
some (bv,bx,bz,bA,[],bC,bD,aQ,aR,aS,aT,aU,aV,aW,aY,aZ,ba,bc,bd,bf,bg,bh,bi,bj,bk,())))else
bif(x0==11)then((dM aA 0).bind λaK=>
let aL:=wk .i64 aK.2.1;
(bif(aL==ap)then(some (aL,true,x2,x3,x4,x5,x6,x7,x8,x9,ac,ae,af,ag,ah,ai,aj,ak,am,an,ap,aq,av,ax,ay,az,aA,aB,aD))else
bif(decide (aL>=4))then(some (aL,true,x2,x3,x4,x5,x6,x7,x8,x9,ac,ae,af,ag,ah,ai,aj,ak,am,an,ap,aq,av,ax,ay,az,aA,aB,aD))else
(eq aL).bind λaM=>
(dM x9 aM).bind λaO=>
some (aL,(aO.1==0),x2,x3,x4,x5,x6,x7,x8,x9,ac,ae,af,ag,ah,ai,aj,ak,am,an,ap,aq,av,ax,ay,az,aA,aB,aD):Option (T32)).bind λ(aM,aO,aP,aQ,aR,aS,aT,aU,aV,aW,aY,aZ,ba,bc,bd,bf,bg,bh,bi,bj,bk,bl,bm,bn,bo,bp,bq,bt,bv,bx,bz,bA,bB,bC,bD,_)=>
bif aO then((eu 0 false).bind λ(bE,bF,bG,bH,bI,bJ,bK,_)=>
some (bE,bF,bG,bH,[],bJ,bK,aP,aQ,aR,aS,aT,aU,aV,aW,aY,aZ,ba,bc,bd,bf,bg,bh,bi,bj,()))else
(eq aM).bind λbE=>
(dM aW bE).bind λbF=>
bif(bF.1==4)then(let bG:Int:=(wk .i64 bF.2.2.2.2.2.2.2);
(eu bG true).bind λ(bH,bI,bJ,bK,bL,bM,bN,_)=>
some (bH,bI,bJ,bK,[],bM,bN,aP,aQ,aR,aS,aT,aU,aV,aW,aY,aZ,ba,bc,bd,bf,bg,bh,bi,bj,()))else
(eq bk).bind λbG=>
(dM bj bG).bind λbH=>
(dM bj bG).bind λbI=>
let bJ:=List.modify bj bG λe=>aM;
(eu 0 true).bind λ(bK,bL,bM,bN,bO,bP,bQ,_)=>
some (bK,bL,bM,bN,[],bP,true,aP,aQ,aR,aS,aT,aU,aV,aW,aY,aZ,ba,bc,bd,bf,bg,bh,bi,bJ,()))else
(oI ac ae af ag ah ai ap aq av ax ay az aA aB).bind λ(aK,aL,aM,aO,aP,aQ,aR,aS,aT,aU,aV,aW,aY,aZ,_)=>
some (aR,aS,aT,aU,aV,aW,aY,x2,x3,x4,x5,x6,x7,x8,x9,aK,aL,aM,aO,aP,aQ,aj,ak,am,an,())
def yB:X.Cfg:=⟨E0,[lc,wL,oy,Ba],[],[⟨3,0,qE,[(.normal,qS [Uk 0,Uk 3,Uk 4,Ul 21,Um 22] [(2,Xaa),(8,yaa),(10,Zab)])]⟩,⟨20,1,qS [Uk 0,Uk 4,sP 87 jW,Ul 88,Ul 89] [(2,Xaa),(10,Zab)],[(.ret,qS [Uk 0,Uk 4] [(2,Xaa),(10,Zab)]),(.exit 1,qS [Uk 0,Uk 4,sP 87 jW,Ul 88,Ul 89,Um 90] [(2,Xaa),(10,Zab)])]⟩,⟨33,2,qE,[(.normal,qS [Uk 0,Uk 3,Uk 4,Ul 14,Um 131] [(2,Xaa),(8,yaa),(10,Zab)])]⟩]⟩
def rl:Ctr:=⟨129,99,[.ptr ⟨2,0,[]⟩ [0],.agg yaa],[(2,Xaa)],[⟨yac,[.agg 7],[(2,Xaa)]⟩],ap26 kn⟩
theorem yh:Lk 6 rl:=ls yB (aC mQ (aC DZ (aC q9 (aC IX aN))))
def f9(a0:Int)(a1:Int)(a2:Int)(a3:Int)(a4:LDCn)(a5:Int)(a6:Bool):Option (Bool×Unit):=
(ic a0 a1 a2 a3).bind λ(x0,_)=>
bif x0 then((fH a4 16).bind λ(x1,_)=>
bif x1 then(bif(decide (a5>=(-1)))then(some ((decide (a5<4)),()))else
some (false,()))else
some (false,()))else
some (false,())
def Ck:X.Cfg:=⟨E0,[rD,jo],[],[]⟩
def mV:Ctr:=⟨40,100,[.agg yac],[],[⟨Up,[.one],[]⟩],ap7 f9⟩
theorem pN:Lk 3 mV:=ls Ck (aC wi (aC kT aN))
def iV(a0:List (Int))(a1:Int)(a2:List (Int))(a3:Int)(a4:Int)(a5:Int)(a6:Int):Option (T0e):=
(iy a2 a3 a4 a5 a6).bind λ(x0,_)=>
bif(!x0)then(some (0,0,1,()))else
bif(a3==0)then(some (0,a4,0,()))else
bif(a3==2)then(let x1:Int:=(wk .u16 (a4+a1));
some (2,x1,0,()))else
(eq a5).bind λx1=>
(dM a0 x1).bind λx2=>
let x3:=w64 (x2+a6);
let x4:=wk .u16 x3;
some (1,x4,0,())
def Gl:X.Cfg:=⟨E0,[lO],[],[]⟩
def tu:Ctr:=⟨169,101,[.agg zaa,shU RI,.agg Xad],[],[⟨yah,[.agg 2,.one],[]⟩],ap7 iV⟩
theorem yp:Lk 3 tu:=ls Gl (aC oD aN)
def kI(a0:List (Int))(a1:Int)(a2:List (Int))(a3:Int)(a4:Int):Option (T02):=
(gj a2 a3 a4).bind λ(x0,_)=>
bif(!x0)then(some (0,6,()))else
(eq a3).bind λx1=>
(dM a0 x1).bind λx2=>
let x3:=w64 (x2+a4);
some (x3,0,())
def yI:X.Cfg:=⟨E0,[jE],[],[]⟩
def rI:Ctr:=⟨170,102,[.agg zaa,shU RI,.agg Zaa],[],[⟨Zaa,[.one,.one],[]⟩],ap5 kI⟩
theorem yq:Lk 2 rI:=ls yI (aC lL aN)
def tF:Option (T1F):=
bif(qW 8 8 2)then let x0:LDCe:=(List.replicate 8 (0,0));
some (0,x0,0,0,(-1),(-1),0,0,())else none
def Cw:X.Cfg:=⟨E0,[],[],[]⟩
def uy:Ctr:=⟨179,103,[],[],[⟨Zaf,[.agg 8],[]⟩],λh=>tF⟩
theorem BR:Lk 1 uy:=ls Cw aN
def pE(a0:Int)(a1:Int)(a2:Int):Option (T1F):=
(tF).bind λ(x0,x1,x2,x3)=>
(dM x1 0).bind λx8=>
(dM x1 0).bind λx9=>
let ac:=List.modify x1 0 λe=>(a1,a2);
some (1,ac,a0,x3)
def Gi:X.Cfg:=⟨E0,[uy],[],[]⟩
def zm:Ctr:=⟨171,104,[shU I64,.agg Ur],[],[⟨Zaf,[.agg 8],[]⟩],ap3 pE⟩
theorem F4:Lk 2 zm:=ls Gi (aC BR aN)
def lC:T2Z->Option (T2Z⊕(T12⊕T30)):=λ(v0,v1,v2,v3,v4,v5,v6,v7,v8,v9,v10,v11,v12,v13,v14,v15,v16,v17,v18,v19,v20,v21,v22,v23,v24,v25,v26,v27,v28,v29,v30,_)=>
bif(decide (v3<v2))then((eq v3).bind λx0=>
(dM v1 x0).bind λx1=>
(iV v4 v5 v10 x1.1 x1.2.1 x1.2.2.1 x1.2.2.2).bind λ(x2,x3,x4,_)=>
bif(x4 != 0)then(some (.inr (.inl (false,v4,v5,v6,v7,v8,()))))else
(gj v10 v29 v30).bind λ(x5,_)=>
bif(!x5)then(some (.inr (.inl (false,v4,v5,v6,v7,v8,()))))else
(kI v4 v5 v10 v29 v30).bind λ(x6,x7,_)=>
(kF x6 x2 x3 v6 v7).bind λ(x8,x9,_)=>
let ac:=w64 (v30+1);
let ae:=w64 (v3+1);
some (.inl (v0,v1,v2,ae,v4,v5,x8,x9,v8,v9,v10,v11,v12,v13,v14,v15,v16,v17,v18,v19,v20,v21,v22,v23,v24,v25,v26,v27,v28,v29,ac,())))else
some (.inr (.inr (v0,v1,v2,v3,false,v4,v5,v6,v7,v8,v9,v10,v11,v12,v13,v14,v15,v16,v17,v18,v19,v20,v21,v22,v23,v24,v25,v26,v27,v28,v29,v30,())))
def pB(a0:LDIn)(a1:List (Int))(a2:List LI)(a3:Int)(a4:Int)(a5:Int)(a6:Int)(a7:Int)(a8:Int)(a9:LDCn)(a10:LDCn)(a11:Int)(a12:Int)(a13:Int)(a14:Int)(a15:LDCn)(a16:Int)(a17:Bool)(a18:List (Int))(a19:Int)(a20:LDCe)(a21:LDLn)(a22:LDTh):Option (T12):=
(eq a3).bind λx0=>
(dM a22 x0).bind λx1=>
(iV a18 a19 a1 a11 a12 a13 a14).bind λ(x2,x3,x4,_)=>
bif(x4 != 0)then(some (false,a18,a19,a20,a21,a22,()))else
(match((iw a8).bind λ(x5,_)=>
bif(x5==2)then(let x6:Int:=(dQ a15.length);
bif(decide (x6>0))then((dM a9 1).bind λx7=>
(dM a9 1).bind λx8=>
(dM a9 1).bind λx9=>
(iy a1 x9.1 x9.2.1 x9.2.2.1 x9.2.2.2).bind λ(ac,_)=>
bif(!ac)then(some (.inl (false,a18,a19,a20,a21,a22,())))else
(dM a9 1).bind λae=>
bif(ae.1 != 1)then(some (.inl (false,a18,a19,a20,a21,a22,())))else
let af:=dQ a15.length;
(match dZ lC NN (x0,a15,af,0,a18,a19,a20,a21,a22,a0,a1,a2,a3,a4,a5,a6,a7,a8,a9,a10,a11,a12,a13,a14,a15,a16,a17,x2,x3,x7.2.2.1,x8.2.2.2,())with
|none=>none
|some (.inl (ag,ah,ai,aj,ak,am,_))=>
some (.inl (ag,ah,ai,aj,ak,am,()))
|some (.inr (ag,ah,ai,aj,ak,am,an,ap,aq,av,ax,ay,az,aA,aB,aD,aE,aF,aG,aH,aI,aJ,aK,aL,aM,aO,aP,aQ,aR,aS,aT,aU,_))=>
some (.inr (.inl (ag,ah,ai,aj,ak,am,an,ap,aq,av,ax,ay,az,aA,aB,aD,aE,aF,aG,aH,aI,aJ,aK,aL,aM,aO,aP,aQ,aR,aS,aT,aU,())))))else
some (.inr (.inr (x0,false,a18,a19,a20,a21,a22,a0,a1,a2,a3,a4,a5,a6,a7,a8,a9,a10,a11,a12,a13,a14,a15,a16,a17,x2,x3,()))))else
some (.inr (.inr (x0,false,a18,a19,a20,a21,a22,a0,a1,a2,a3,a4,a5,a6,a7,a8,a9,a10,a11,a12,a13,a14,a15,a16,a17,x2,x3,()))):Option (T12⊕(T30⊕(Nat×Bool×T2S))))with
|none=>none
|some (.inl (x5,x6,x7,x8,x9,ac,_))=>
some (x5,x6,x7,x8,x9,ac,())
|some (.inr (.inl (x5,x6,x7,x8,x9,ac,ae,af,ag,ah,ai,aj,ak,am,an,ap,aq,av,ax,ay,az,aA,aB,aD,aE,aF,aG,aH,aI,aJ,aK,aL,_)))=>
(match(bif(ax==12)then((dM ay 0).bind λaM=>
let aO:=wk .i64 aM.2.1;
bif(decide (aO>255))then(some (.inl (false,ac,ae,af,ag,ah,())))else
(dM ay 0).bind λaP=>
bif(aP.1 != 0)then(some (.inl (false,ac,ae,af,ag,ah,())))else
(dM ay 0).bind λaQ=>
let aR:=wk .i64 aQ.2.1;
(dM ah x5).bind λaS=>
let aT:=(List.modify ah x5 λe=>(e.1,(e.2.1,(e.2.2.1,(e.2.2.2.1,(aR,e.2.2.2.2.2))))));
some (.inr (x5,ac,ae,af,ag,aT,ai,aj,ak,am,an,ap,aq,av,ax,ay,az,aA,aB,aD,aE,aF,aG,aH,aI,aJ,())))else
some (.inr (x5,ac,ae,af,ag,ah,ai,aj,ak,am,an,ap,aq,av,ax,ay,az,aA,aB,aD,aE,aF,aG,aH,aI,aJ,())):Option (T12⊕T2U))with
|none=>none
|some (.inl (aM,aO,aP,aQ,aR,aS,_))=>
some (aM,aO,aP,aQ,aR,aS,())
|some (.inr (aM,aO,aP,aQ,aR,aS,aT,aU,aV,aW,aY,aZ,ba,bc,bd,bf,bg,bh,bi,bj,bk,bl,bm,bn,bo,bp,_))=>
(match(bif(bd==10)then(bif(decide (bm>=0))then((dM bf 1).bind λbq=>
(iV aO aP aU bq.1 bq.2.1 bq.2.2.1 bq.2.2.2).bind λ(bt,bv,bx,_)=>
(bif(bx != 0)then(some (aM,true,aO,aP,aQ,aR,aS,aW,aY,aZ,ba,bc,bd,bf,bg,bh,bi,bj,bk,bl,bm,bn,bo,bp,bt,bv,()))else
(eq bm).bind λbz=>
(dM aS bz).bind λbA=>
(dM aS bz).bind λbB=>
bif(bB.1 != 0)then(some (aM,true,aO,aP,aQ,aR,aS,aW,aY,aZ,ba,bc,bd,bf,bg,bh,bi,bj,bk,bl,bm,bn,bo,bp,bt,bv,()))else
(dM bf 0).bind λbC=>
let bD:=wk .i64 bC.2.1;
bif(decide (bD>255))then(some (aM,true,aO,aP,aQ,aR,aS,aW,aY,aZ,ba,bc,bd,bf,bg,bh,bi,bj,bk,bl,bm,bn,bo,bp,bt,bv,()))else
(dM bf 0).bind λbE=>
some (aM,(bE.1 != 0),aO,aP,aQ,aR,aS,aW,aY,aZ,ba,bc,bd,bf,bg,bh,bi,bj,bk,bl,bm,bn,bo,bp,bt,bv,()):Option (T2T)).bind λ(bz,bA,bB,bC,bD,bE,bF,bG,bH,bI,bJ,bK,bL,bM,bN,bO,bP,bQ,bR,bS,bT,bU,bV,bW,bY,bZ,_)=>
bif bA then(some (.inl (false,bB,bC,bD,bE,bF,())))else
(dM bM 0).bind λcc=>
let cd:=wk .i64 cc.2.1;
(pE cd bY bZ).bind λ(cf,cg,ch,ci,cj,cl,cn,cq,_)=>
(eq bT).bind λcr=>
(dM bF cr).bind λcu=>
(dM bF cr).bind λcw=>
let cx:=(List.modify bF cr λe=>(cf,(cg,(ch,(ci,(cj,(cl,(cn,cq))))))));
some (.inr (bz,bB,bC,bD,bE,cx,bG,bH,bI,bJ,bK,bL,bM,bN,bV,bW,())))else
some (.inr (aM,aO,aP,aQ,aR,aS,aW,aY,aZ,ba,bc,bd,bf,bg,bo,bp,())))else
some (.inr (aM,aO,aP,aQ,aR,aS,aW,aY,aZ,ba,bc,bd,bf,bg,bo,bp,())):Option (T12⊕T2A))with
|none=>none
|some (.inl (bq,bt,bv,bx,bz,bA,_))=>
some (bq,bt,bv,bx,bz,bA,())
|some (.inr (bq,bt,bv,bx,bz,bA,bB,bC,bD,bE,bF,bG,bH,bI,bJ,bK,_))=>
(dM bA bq).bind λbL=>
(dM bA bq).bind λbM=>
(dM bM.2.1 0).bind λbN=>
(dM bA bq).bind λbO=>
(dM bO.2.1 0).bind λbP=>
let bQ:=(List.modify bA bq λe=>(e.1,((List.modify e.2.1 0 λe=>(bJ,bK)),e.2.2)));
(dM bQ bq).bind λbR=>
let bS:=List.modify bQ bq λe=>(1,e.2);
some (true,bt,bv,bx,bz,bS,())))
|some (.inr (.inr (x5,x6,x7,x8,x9,ac,ae,af,ag,ah,ai,aj,ak,am,an,ap,aq,av,ax,ay,az,aA,aB,aD,aE,aF,aG,_)))=>
(match(bif(ap==12)then((dM aq 0).bind λaH=>
let aI:=wk .i64 aH.2.1;
bif(decide (aI>255))then(some (.inl (false,x7,x8,x9,ac,ae,())))else
(dM aq 0).bind λaJ=>
bif(aJ.1 != 0)then(some (.inl (false,x7,x8,x9,ac,ae,())))else
(dM aq 0).bind λaK=>
let aL:=wk .i64 aK.2.1;
(dM ae x5).bind λaM=>
let aO:=(List.modify ae x5 λe=>(e.1,(e.2.1,(e.2.2.1,(e.2.2.2.1,(aL,e.2.2.2.2.2))))));
some (.inr (x5,x7,x8,x9,ac,aO,af,ag,ah,ai,aj,ak,am,an,ap,aq,av,ax,ay,az,aA,aB,aD,aE,aF,aG,())))else
some (.inr (x5,x7,x8,x9,ac,ae,af,ag,ah,ai,aj,ak,am,an,ap,aq,av,ax,ay,az,aA,aB,aD,aE,aF,aG,())):Option (T12⊕T2U))with
|none=>none
|some (.inl (aH,aI,aJ,aK,aL,aM,_))=>
some (aH,aI,aJ,aK,aL,aM,())
|some (.inr (aH,aI,aJ,aK,aL,aM,aO,aP,aQ,aR,aS,aT,aU,aV,aW,aY,aZ,ba,bc,bd,bf,bg,bh,bi,bj,bk,_))=>
(match(bif(aW==10)then(bif(decide (bh>=0))then((dM aY 1).bind λbl=>
(iV aI aJ aP bl.1 bl.2.1 bl.2.2.1 bl.2.2.2).bind λ(bm,bn,bo,_)=>
(bif(bo != 0)then(some (aH,true,aI,aJ,aK,aL,aM,aR,aS,aT,aU,aV,aW,aY,aZ,ba,bc,bd,bf,bg,bh,bi,bj,bk,bm,bn,()))else
(eq bh).bind λbp=>
(dM aM bp).bind λbq=>
(dM aM bp).bind λbt=>
bif(bt.1 != 0)then(some (aH,true,aI,aJ,aK,aL,aM,aR,aS,aT,aU,aV,aW,aY,aZ,ba,bc,bd,bf,bg,bh,bi,bj,bk,bm,bn,()))else
(dM aY 0).bind λbv=>
let bx:=wk .i64 bv.2.1;
bif(decide (bx>255))then(some (aH,true,aI,aJ,aK,aL,aM,aR,aS,aT,aU,aV,aW,aY,aZ,ba,bc,bd,bf,bg,bh,bi,bj,bk,bm,bn,()))else
(dM aY 0).bind λbz=>
some (aH,(bz.1 != 0),aI,aJ,aK,aL,aM,aR,aS,aT,aU,aV,aW,aY,aZ,ba,bc,bd,bf,bg,bh,bi,bj,bk,bm,bn,()):Option (T2T)).bind λ(bp,bq,bt,bv,bx,bz,bA,bB,bC,bD,bE,bF,bG,bH,bI,bJ,bK,bL,bM,bN,bO,bP,bQ,bR,bS,bT,_)=>
bif bq then(some (.inl (false,bt,bv,bx,bz,bA,())))else
(dM bH 0).bind λbU=>
let bV:=wk .i64 bU.2.1;
(pE bV bS bT).bind λ(bW,bY,bZ,cc,cd,cf,cg,ch,_)=>
(eq bO).bind λci=>
(dM bA ci).bind λcj=>
(dM bA ci).bind λcl=>
let cn:=(List.modify bA ci λe=>(bW,(bY,(bZ,(cc,(cd,(cf,(cg,ch))))))));
some (.inr (bp,bt,bv,bx,bz,cn,bB,bC,bD,bE,bF,bG,bH,bI,bQ,bR,())))else
some (.inr (aH,aI,aJ,aK,aL,aM,aR,aS,aT,aU,aV,aW,aY,aZ,bj,bk,())))else
some (.inr (aH,aI,aJ,aK,aL,aM,aR,aS,aT,aU,aV,aW,aY,aZ,bj,bk,())):Option (T12⊕T2A))with
|none=>none
|some (.inl (bl,bm,bn,bo,bp,bq,_))=>
some (bl,bm,bn,bo,bp,bq,())
|some (.inr (bl,bm,bn,bo,bp,bq,bt,bv,bx,bz,bA,bB,bC,bD,bE,bF,_))=>
(dM bq bl).bind λbG=>
(dM bq bl).bind λbH=>
(dM bH.2.1 0).bind λbI=>
(dM bq bl).bind λbJ=>
(dM bJ.2.1 0).bind λbK=>
let bL:=(List.modify bq bl λe=>(e.1,((List.modify e.2.1 0 λe=>(bE,bF)),e.2.2)));
(dM bL bl).bind λbM=>
let bN:=List.modify bL bl λe=>(1,e.2);
some (true,bm,bn,bo,bp,bN,()))))
def Ge:X.Cfg:=⟨E0,[tu,jD,lO,jE,rI,pZ,zm],[],[⟨13,0,(qS [Uk 1,Uk 4,Uk 6,Uk 7,(9,.ptr ⟨4,4,[((),(8,0))]⟩ [0,0]),Uk 10,Uk 12,sP 80 ej,Ul 81,Ul 82] [(4,uab),(10,Uq),(14,yaa),(16,yac),(22,Ur),(26,Zaa)]),[(.ret,qS [Uk 1,Um 8] [(4,uab)]),(.exit 0,(qS [Uk 1,Uk 4,Uk 6,Uk 7,(9,.ptr ⟨4,4,[((),(8,0))]⟩ [0,0]),Uk 10,Uk 12,sP 80 ej,Ul 81,Ul 82,Um 83] [(4,uab),(10,Uq),(14,yaa),(16,yac),(22,Ur),(26,Zaa)]))]⟩,⟨6,1,qE,[(.ret,qS [Uk 1,Um 8] [(4,uab)]),(.normal,(qS [Uk 1,Uk 4,Uk 6,Uk 7,(9,.ptr ⟨4,4,[((),(8,0))]⟩ [0,0]),Uk 10,Uk 12,sP 80 ej,Ul 81,Ul 82,Um 83] [(4,uab),(10,Uq),(14,yaa),(16,yac),(22,Ur),(26,Zaa)])),(.normal,(qS [Uk 1,Uk 4,Uk 6,Uk 7,(9,.ptr ⟨4,4,[((),(8,0))]⟩ [0,0]),Uk 10,Um 51] [(4,uab),(10,Uq),(14,yaa),(16,yac),(22,Ur)]))]⟩,⟨24,2,qE,[(.ret,qS [Uk 1,Um 8] [(4,uab)]),(.normal,(qS [Uk 1,Uk 4,Uk 6,Uk 7,(9,.ptr ⟨4,4,[((),(8,0))]⟩ [0,0]),Uk 10] [(4,uab),(10,Uq),(14,yaa),(16,yac),(22,Ur)]))]⟩,⟨33,3,qE,[(.normal,(qS [Uk 1,Uk 6,Uk 7,(9,.ptr ⟨4,4,[((),(8,0))]⟩ [0,0]),Uk 10,Uk 19,Um 207] [(4,uab),(14,yaa),(16,yac),(22,Ur),(40,Ur)]))]⟩,⟨29,4,qE,[(.ret,qS [Uk 1,Um 8] [(4,uab)]),(.normal,(qS [Uk 1,(9,.ptr ⟨4,4,[((),(8,0))]⟩ [0,0]),Uk 10] [(4,uab),(14,yaa),(22,Ur)]))]⟩]⟩
def zj:Ctr:=⟨150,105,[.agg Uq,.ptr ⟨4,0,[]⟩ [0],.agg yaa,.agg yac],[(4,uab)],[⟨Up,[.one],[(4,uab)]⟩],ap23 pB⟩
theorem F1:Lk 4 zj:=ls Ge (aC yp (aC lK (aC oD (aC lL (aC yq (aC tX (aC F4 aN)))))))
def pC(a0:LDIn)(a1:List (Int))(a2:List LI)(a3:List (Int))(a4:Int)(a5:LDCe)(a6:LDLn)(a7:LDTh)(a8:Int)(a9:Int)(a10:Int)(a11:Int)(a12:Int)(a13:Int)(a14:LDCn)(a15:LDCn)(a16:Int)(a17:Int)(a18:Int)(a19:Int)(a20:LDCn)(a21:Int)(a22:Bool):Option (T1d):=
((jh a0 a1 a2 a3 a4 a5 a6 a7).bind λ(x0,_)=>
bif(!x0)then(some (true,a0,a1,a2,a3,a4,a5,a6,a7,a8,a9,a10,a11,a12,a13,a14,a15,a16,a17,a18,a19,a20,a21,a22,(),0,(),(),(),()))else
(fG a8 a9 a10 a11 a12 a13 a14 a15).bind λ(x1,_)=>
bif(!x1)then(some (true,a0,a1,a2,a3,a4,a5,a6,a7,a8,a9,a10,a11,a12,a13,a14,a15,a16,a17,a18,a19,a20,a21,a22,(),0,(),(),(),()))else
bif(a9 != 1)then(some (true,a0,a1,a2,a3,a4,a5,a6,a7,a8,a9,a10,a11,a12,a13,a14,a15,a16,a17,a18,a19,a20,a21,a22,(),0,(),(),(),()))else
let x2:=dQ a14.length;
(gZ a13).bind λ(x3,_)=>
bif(x2 != x3)then(some (true,a0,a1,a2,a3,a4,a5,a6,a7,a8,a9,a10,a11,a12,a13,a14,a15,a16,a17,a18,a19,a20,a21,a22,(),0,(),(),(),()))else
(f9 a16 a17 a18 a19 a20 a21 a22).bind λ(x4,_)=>
bif(!x4)then(some (true,a0,a1,a2,a3,a4,a5,a6,a7,a8,a9,a10,a11,a12,a13,a14,a15,a16,a17,a18,a19,a20,a21,a22,(),0,(),(),(),()))else
(eq a8).bind λx5=>
(dM a7 x5).bind λx6=>
some ((x6.1 != 2),a0,a1,a2,a3,a4,a5,a6,a7,a8,a9,a10,a11,a12,a13,a14,a15,a16,a17,a18,a19,a20,a21,a22,(),0,(),(),(),()):Option (Bool×LDIn×LI×LLI×LI×Int×LDCe×LDLn×LDTh×Int×Int×Int×Int×Int×Int×LDCn×LDCn×T2n)).bind λ(x0,x1,x2,x3,x4,x5,x6,x7,x8,x9,ac,ae,af,ag,ah,ai,aj,ak,am,an,ap,aq,av,ax,_)=>
bif x0 then(some (x4,x5,x6,x7,x8,false,()))else
(iT x4 x5 x6 x7 x8).bind λ(aE,aF,aG,aH,aI,_)=>
bif(ah==0)then((eq x9).bind λaJ=>
(dM aI aJ).bind λaK=>
(dM aI aJ).bind λaL=>
(dM ai 0).bind λaM=>
(dM aI aJ).bind λaO=>
(nu aL.1 aO.2.1 aL.2.2.1 aL.2.2.2.1 aL.2.2.2.2.1 aL.2.2.2.2.2.1 aL.2.2.2.2.2.2.1 aL.2.2.2.2.2.2.2 0 aM.2.1).bind λ(aP,aQ,aR,aS,aT,aU,aV,aW,_)=>
(eq x9).bind λaY=>
(dM aI aY).bind λaZ=>
(dM aI aY).bind λba=>
let bc:=(List.modify aI aY λe=>(aP,(aQ,(aR,(aS,(aT,(aU,(aV,aW))))))));
some (aE,aF,aG,aH,bc,true,()))else
bif ax then((eq x9).bind λaJ=>
(dM aI aJ).bind λaK=>
(dM aI aJ).bind λaL=>
let aM:=List.modify aI aJ λe=>(3,e.2);
some (aE,aF,aG,aH,aM,true,()))else
(pB x1 x2 x3 x9 ac ae af ag ah ai aj ak am an ap aq av ax aE aF aG aH aI).bind λ(aJ,aK,aL,aM,aO,aP,_)=>
bif(!aJ)then(some (x4,x5,x6,x7,x8,false,()))else
some (aK,aL,aM,aO,aP,true,())
def Gf:X.Cfg:=⟨E0,[mX,ld,lw,mV,mc,tp,zj],[],[⟨2,0,qE,[(.normal,qS [Uk 4,Uk 5,Uk 6,Uk 7,Uk 8,Um 48] [(10,Uq),(12,uac),(14,yaa),(16,yac),(18,Zac)])]⟩]⟩
def zk:Ctr:=⟨130,106,[.agg Uq,.agg uac,.agg yaa,.agg yac],[],[⟨Uai,[.agg 5,.one],[]⟩],ap23 pC⟩
theorem F2:Lk 5 zk:=ls Gf (aC pQ (aC mR (aC oZ (aC pN (aC ot (aC yn (aC F1 aN)))))))
def lV(a0:LDIn)(a1:List (Int))(a2:List LI)(a3:List (Int))(a4:Int)(a5:LDCe)(a6:LDLn)(a7:LDTh)(a8:Int)(a9:Int)(a10:Int)(a11:Int)(a12:Int)(a13:LDCn)(a14:Int)(a15:Bool):Option (T1d):=
((jh a0 a1 a2 a3 a4 a5 a6 a7).bind λ(x0,_)=>
bif(!x0)then(some (a8,true,a0,a1,a2,a3,a4,a5,a6,a7,a9,a10,a11,a12,a13,a14,a15,(),0,(),(),(),()))else
(f9 a9 a10 a11 a12 a13 a14 a15).bind λ(x1,_)=>
bif(!x1)then(some (a8,true,a0,a1,a2,a3,a4,a5,a6,a7,a9,a10,a11,a12,a13,a14,a15,(),0,(),(),(),()))else
bif(decide (a8<0))then(some (a8,true,a0,a1,a2,a3,a4,a5,a6,a7,a9,a10,a11,a12,a13,a14,a15,(),0,(),(),(),()))else
bif(decide (a8>=4))then(some (a8,true,a0,a1,a2,a3,a4,a5,a6,a7,a9,a10,a11,a12,a13,a14,a15,(),0,(),(),(),()))else
(eq a8).bind λx2=>
(dM a7 x2).bind λx3=>
some (a8,(x3.1 != 3),a0,a1,a2,a3,a4,a5,a6,a7,a9,a10,a11,a12,a13,a14,a15,(),0,(),(),(),()):Option (Int×Bool×LDIn×LI×LLI×LI×Int×LDCe×LDLn×LDTh×T2n)).bind λ(x0,x1,x2,x3,x4,x5,x6,x7,x8,x9,ac,ae,af,ag,_)=>
bif x1 then(some (x5,x6,x7,x8,x9,false,()))else
(iV x5 x6 x3 ac ae af ag).bind λ(av,ax,ay,_)=>
bif(ay != 0)then(some (x5,x6,x7,x8,x9,false,()))else
(iT x5 x6 x7 x8 x9).bind λ(az,aA,aB,aD,aE,_)=>
(eq x0).bind λaF=>
(dM aE aF).bind λaG=>
(dM aE aF).bind λaH=>
(dM aE aF).bind λaI=>
(dM aI.2.1 0).bind λaJ=>
(dM aE aF).bind λaK=>
(dM aK.2.1 0).bind λaL=>
let aM:=(List.modify aE aF λe=>(e.1,((List.modify e.2.1 0 λe=>(av,ax)),e.2.2)));
(eq x0).bind λaO=>
(dM aM aO).bind λaP=>
(dM aM aO).bind λaQ=>
let aR:=List.modify aM aO λe=>(1,e.2);
some (az,aA,aB,aD,aR,true,())
def Ew:X.Cfg:=⟨E0,[mX,mV,tu,mc],[],[⟨2,0,qE,[(.normal,qS [Ul 2,Uk 4,Uk 5,Uk 7,Uk 8,Um 38] [(10,Uq),(12,uac),(16,yac),(18,Zac)])]⟩]⟩
def ry:Ctr:=⟨151,107,[.agg Uq,.agg uac,shU I64,.agg yac],[],[⟨Uai,[.agg 5,.one],[]⟩],ap16 lV⟩
theorem vZ:Lk 5 ry:=ls Ew (aC pQ (aC pN (aC yp (aC ot aN))))
def nS(a0:Int)(a1:Int)(a2:LDIn)(a3:List (Int))(a4:List LI)(a5:List (Int))(a6:Int)(a7:LDCe)(a8:LDLn)(a9:LDTh)(a10:List (Int))(a11:List (Int))(a12:List LI)(a13:List LDCn)(a14:LDOp)(a15:LDOu)(a16:List (Int))(a17:List LI)(a18:LDEn)(a19:List (Int)):Option (T2D):=
let x0:=wk .i64 a1;
(eu x0 true).bind λ(x1,x2,x3,x4,x5,x6,x7,_)=>
(lV a2 a3 a4 a5 a6 a7 a8 a9 a0 x1 x2 x3 x4 [] x6 x7).bind λ(x8,x9,ac,ae,af,ag,_)=>
let ah:LDEn:=[(4,(a0,(0,(0,(0,(0,(0,(0,(0,([],([],(x1,(x2,(x3,(x4,([],(x6,x7)))))))))))))))))];
bif(dW 184 a18.length ah.length)then let ai:LDEn:=(List.append a18 ah);
some (a2,a3,a4,x8,x9,ac,ae,af,a10,a11,a12,a13,a14,a15,a16,a17,ai,a19,())else none
def Ee:X.Cfg:=⟨E0,[lc,ry],[(35,w7),(36,w7)],[]⟩
def wC:Ctr:=⟨131,108,[.ptr ⟨2,0,[]⟩ [0],shU I64,shU CW],[(2,Xaa)],[⟨[],[],[(2,Xaa)]⟩],ap20 nS⟩
theorem DR:Lk 6 wC:=ls Ee (aC mQ (aC vZ aN))
def jz(a0:Int)(a1:Int)(a2:Int)(a3:Int)(a4:Int)(a5:Int)(a6:LDCn)(a7:LDCn)(a8:LDIn)(a9:List (Int))(a10:List LI)(a11:List (Int))(a12:Int)(a13:LDCe)(a14:LDLn)(a15:LDTh)(a16:List (Int))(a17:List (Int))(a18:List LI)(a19:List LDCn)(a20:LDOp)(a21:LDOu)(a22:List (Int))(a23:List LI)(a24:LDEn)(a25:List (Int)):Option (T2D):=
(bif(a5==9)then((dM a6 0).bind λx0=>
let x1:=wk .i64 x0.2.1;
(jZ a22 a23 x1 a0).bind λ(x2,x3,x4,x5,_)=>
some (x4,a8,a9,a10,a11,a12,a13,a14,a15,a16,a17,a18,a19,a20,a21,a22,a23,a24,a25,a0,a1,a2,a3,a4,a5,a6,a7,()))else
some ((-1),a8,a9,a10,a11,a12,a13,a14,a15,a16,a17,a18,a19,a20,a21,a22,a23,a24,a25,a0,a1,a2,a3,a4,a5,a6,a7,()):Option (Int×LDIn×LI×LLI×LI×Int×LDCe×LDLn×LDTh×LI×LI×LLI×LLCn×LDOp×LDOu×LI×LLI×LDEn×LI×T1y)).bind λ(x0,x1,x2,x3,x4,x5,x6,x7,x8,x9,ac,ae,af,ag,ah,ai,aj,ak,am,an,ap,aq,av,ax,ay,az,aA,_)=>
(kn an ap aq av ax ay az aA x1 x2 x3 x4 x5 x6 x7 x8 x9 ac ae af ag ah ai aj ak am).bind λ(aB,aD,aE,aF,aG,aH,aI,aJ,aK,aL,aM,aO,aP,aQ,aR,aS,aT,aU,aV,aW,aY,aZ,ba,bc,bd,_)=>
(pC aJ aK aL aM aO aP aQ aR an ap aq av ax ay az aA aB aD aE aF aG aH aI).bind λ(bf,bg,bh,bi,bj,bk,_)=>
let bl:LDEn:=[(2,(an,(0,(an,(ap,(aq,(av,(ax,(ay,(az,(aA,(aB,(aD,(aE,(aF,(aG,(aH,aI)))))))))))))))))];
bif(dW 184 bc.length bl.length)then let bm:LDEn:=(List.append bc bl);
bif(decide (x0>=0))then((nS x0 0 aJ aK aL bf bg bh bi bj aS aT aU aV aW aY aZ ba bm bd).bind λ(bn)=>
some (bn))else
some (aJ,aK,aL,bf,bg,bh,bi,bj,aS,aT,aU,aV,aW,aY,aZ,ba,bm,bd,())else none
def zW:X.Cfg:=⟨E0,[oy,rl,zk,wC],[(56,w7),(57,w7)],[⟨2,0,qE,[(.normal,qS [Uk 0,Uk 3,Ul 4] [(2,Xaa),(8,yaa)])]⟩]⟩
def sK:Ctr:=⟨96,109,[.ptr ⟨2,0,[]⟩ [0],.agg yaa],[(2,Xaa)],[⟨[],[],[(2,Xaa)]⟩],ap26 jz⟩
theorem zG:Lk 7 sK:=ls zW (aC q9 (aC yh (aC F2 (aC DR aN))))
def qI:T2o->Option (T2o⊕(Int×Int×Int×Int×Nat×T1w)):=λ(v0,v1,v2,v3,v4,v5,v6,v7,v8,v9,v10,v11,_)=>
bif(decide (v6<v5))then(((eq v6).bind λx0=>
(dM v10 v4).bind λx1=>
(dM x1 x0).bind λx2=>
(dM v10 v4).bind λx3=>
(dM x3 x0).bind λx4=>
bif(x4 != v0)then(bif(dW 8 v11.length (List.length [x4]))then let x5:List (Int):=(List.append v11 [x4]);
some (v0,v1,v2,v3,v4,v5,v6,v7,v8,v9,v10,x5,())else none)else
some (v0,v1,v2,v3,v4,v5,v6,v7,v8,v9,v10,v11,()):Option (T2o)).bind λ(x0,x1,x2,x3,x4,x5,x6,x7)=>
let af:=w64 (x6+1);
some (.inl (x0,x1,x2,x3,x4,x5,af,x7)))else
some (.inr (v0,v1,v2,v3,v4,v5,v6,false,v7,v8,v9,v10,v11,()))
def qH:T1n->Option (T1n⊕(Int×T1i)):=λ(v0,v1,v2,v3,v4,v5,v6,_)=>
bif(decide (v2<v1))then((eq v2).bind λx0=>
(dM v6 x0).bind λx1=>
(dM v6 x0).bind λx2=>
(dM v6 x0).bind λx3=>
let x4:=dQ x3.length;
(dZ qI NN (v0,v2,v1,v2,x0,x4,0,v3,v4,v5,v6,[],())).bind λ(x5,x6,x7,x8,x9,ac,ae,af,ag,ah,ai,aj,ak,_)=>
(eq x6).bind λam=>
(dM aj am).bind λan=>
(dM aj am).bind λap=>
let aq:=List.modify aj am λe=>ak;
let av:=w64 (x8+1);
some (.inl (x5,x7,av,ag,ah,ai,aq,())))else
some (.inr (v0,v1,v2,false,v3,v4,v5,v6,()))
def qG:T1B->Option (T1B⊕(Int×T1w)):=λ(v0,v1,v2,v3,v4,v5,v6,v7,_)=>
bif(decide (v2<v1))then((jZ v5 v6 v2 v0).bind λ(x0,x1,x2,x3,_)=>
(bif x3 then(bif(decide (x2>=0))then(bif(dW 8 v7.length (List.length [x2]))then let x4:List (Int):=(List.append v7 [x2]);
some (v0,v1,v2,v3,v4,v5,v6,x4,x0,x1,())else none)else
some (v0,v1,v2,v3,v4,v5,v6,v7,x0,x1,()))else
some (v0,v1,v2,v3,v4,v5,v6,v7,x0,x1,()):Option (Int×Int×Int×Unit×Unit×LI×LLI×LI×T08)).bind λ(x4,x5,x6,x7,x8,x9,ac,ae,af,ag,_)=>
let ah:=w64 (x6+1);
some (.inl (x4,x5,ah,x7,x8,af,ag,ae,())))else
some (.inr (v0,v1,v2,false,v3,v4,v5,v6,v7,()))
def n7(a0:List (Int))(a1:List LI)(a2:Int):Option (T0q):=
(lU a0 a1).bind λ(x0,x1,_)=>
let x2:=dQ x1.length;
(dZ qH NN (a2,x2,0,(),(),x0,x1,())).bind λ(x3,x4,x5,x6,x7,x8,x9,ac,_)=>
let ae:=dQ x9.length;
(dZ qG NN (x3,ae,0,x7,x8,x9,ac,[],())).bind λ(af,ag,ah,ai,aj,ak,am)=>
some (am)
def Eu:X.Cfg:=⟨E0,[oz,oy],[],[⟨15,0,qE,[(.normal,(qS [Ul 1,Uk 4,Uk 6,Ul 7,Un 9 21,(20,.pk ⟨14,1,[]⟩ [0,0]),Ul 21,Ul 22,(27,.pk ⟨14,1,[((),(1,0))]⟩ [0,0,0]),Ul 28,Ul 29] [(10,uaa),(14,Uac),(21,Uaa)]))]⟩,⟨12,1,(qS [Ul 1,Uk 4,Uk 6,Ul 7,Un 9 21,(20,.pk ⟨14,1,[]⟩ [0,0]),Ul 21,Ul 22,(27,.pk ⟨14,1,[((),(1,0))]⟩ [0,0,0]),Ul 28,Ul 29] [(10,uaa),(14,Uac),(21,Uaa)]),[(.exit 2,(qS [Ul 1,Uk 4,Uk 6,Ul 7,Un 9 21,(20,.pk ⟨14,1,[]⟩ [0,0]),Ul 21,Ul 22,(27,.pk ⟨14,1,[((),(1,0))]⟩ [0,0,0]),Ul 28,Ul 29,Um 30] [(10,uaa),(14,Uac),(21,Uaa)]))]⟩,(lx 4 2 [Ul 1,Uk 4,Uk 6,(20,.pk ⟨14,1,[]⟩ [0,0]),Ul 21,Ul 22] [(10,uaa),(14,Uac)] 23),⟨27,3,qE,[(.normal,qS [Ul 1,Uk 4,Uk 6,Un 12 27,Uk 14,Ul 49,Ul 50] [(10,uaa),(14,yad),(27,Uaa),(30,yad)])]⟩,⟨21,4,qS [Ul 1,Uk 4,Uk 6,Un 12 27,Ul 49,Ul 50] [(10,uaa),(14,yad),(27,Uaa)],[(.exit 4,qS [Ul 1,Uk 4,Uk 6,Un 12 27,Ul 49,Ul 50,Um 51] [(10,uaa),(14,yad),(27,Uaa)])]⟩]⟩
def wM:Ctr:=⟨132,110,[.agg yad,shU I64],[],[⟨uL [RI,(Uj RI),(Ui I64)],[.agg 2,.one],[]⟩],ap3 n7⟩
theorem D0:Lk 3 wM:=ls Eu (aC ra (aC q9 aN))
def jy(a0:Int)(a1:Int)(a2:LDIn)(a3:List (Int))(a4:List LI)(a5:List (Int))(a6:Int)(a7:LDCe)(a8:LDLn)(a9:LDTh)(a10:List (Int))(a11:List (Int))(a12:List LI)(a13:List LDCn)(a14:LDOp)(a15:LDOu)(a16:List (Int))(a17:List LI)(a18:LDEn):Option (LDIn×LI×LLI×LI×Int×LDCe×LDLn×LDTh×LI×LI×LLI×LLCn×LDOp×LDOu×LI×LLI×LDEn×Unit):=
let x0:=wk .i64 a1;
(eu x0 true).bind λ(x1,x2,x3,x4,x5,x6,x7,_)=>
(lV a2 a3 a4 a5 a6 a7 a8 a9 a0 x1 x2 x3 x4 [] x6 x7).bind λ(x8,x9,ac,ae,af,ag,_)=>
let ah:LDEn:=[(4,(a0,(0,(0,(0,(0,(0,(0,(0,([],([],(x1,(x2,(x3,(x4,([],(x6,x7)))))))))))))))))];
bif(dW 184 a18.length ah.length)then let ai:LDEn:=(List.append a18 ah);
some (a2,a3,a4,x8,x9,ac,ae,af,a10,a11,a12,a13,a14,a15,a16,a17,ai,())else none
def zS:X.Cfg:=⟨E0,[lc,ry],[(35,w7),(36,w7)],[]⟩
def sH:Ctr:=⟨131,111,[.ptr ⟨2,0,[]⟩ [0],shU I64,shU CW],[(2,Xai)],[⟨[],[],[(2,Xai)]⟩],ap19 jy⟩
theorem zD:Lk 6 sH:=ls zS (aC mQ (aC vZ aN))
def qf:T2P->Option (T2P⊕(Int×Int×Int×Bool×T2I)):=λ(v0,v1,v2,v3,v4,v5,v6,v7,v8,v9,v10,v11,v12,v13,v14,v15,v16,v17,v18,v19,v20,v21,_)=>
bif(decide (v2<v1))then((eq v2).bind λx0=>
(dM v21 x0).bind λx1=>
(dM v21 x0).bind λx2=>
(jy x2 0 v3 v4 v5 v6 v7 v8 v9 v10 v11 v12 v13 v14 v15 v16 v17 v18 v19).bind λ(x3,x4,x5,x6,x7,x8,x9,ac,ae,af,ag,ah,ai,aj,ak,am,an,_)=>
let ap:=w64 (v2+1);
some (.inl (v0,v1,ap,x3,x4,x5,x6,x7,x8,x9,ac,ae,af,ag,ah,ai,aj,ak,am,an,v20,v21,())))else
some (.inr (v0,v1,v2,false,v3,v4,v5,v6,v7,v8,v9,v10,v11,v12,v13,v14,v15,v16,v17,v18,v19,v20,v21,()))
def qe:T2N->Option (T2N⊕(Int×Int×T2L)):=λ(v0,v1,v2,v3,v4,v5,v6,v7,v8,v9,v10,v11,v12,v13,v14,v15,v16,v17,v18,v19,v20,_)=>
bif(decide (v2<v1))then(((eq v2).bind λx0=>
(dM v20 x0).bind λx1=>
(dM v20 x0).bind λx2=>
bif(x2==v0)then((eq v0).bind λx3=>
(dM v10 x3).bind λx4=>
(jy v2 x4.2.2.2.2.2.2.2 v3 v4 v5 v6 v7 v8 v9 v10 v11 v12 v13 v14 v15 v16 v17 v18 v19).bind λ(x5,x6,x7,x8,x9,ac,ae,af,ag,ah,ai,aj,ak,am,an,ap,aq,_)=>
(eq v2).bind λav=>
(dM v20 av).bind λax=>
(dM v20 av).bind λay=>
let az:=List.modify v20 av λe=>(-1);
some (v0,v1,v2,x5,x6,x7,x8,x9,ac,ae,af,ag,ah,ai,aj,ak,am,an,ap,aq,az,()))else
some (v0,v1,v2,v3,v4,v5,v6,v7,v8,v9,v10,v11,v12,v13,v14,v15,v16,v17,v18,v19,v20,()):Option (T2N)).bind λ(x0,x1,x2,x3,x4,x5,x6,x7,x8,x9,ac,ae,af,ag,ah,ai,aj,ak,am,an,ap,_)=>
let aq:=w64 (x2+1);
some (.inl (x0,x1,aq,x3,x4,x5,x6,x7,x8,x9,ac,ae,af,ag,ah,ai,aj,ak,am,an,ap,())))else
some (.inr (v0,v1,v2,false,v3,v4,v5,v6,v7,v8,v9,v10,v11,v12,v13,v14,v15,v16,v17,v18,v19,v20,()))
def ko(a0:Int)(a1:LDIn)(a2:List (Int))(a3:List LI)(a4:List (Int))(a5:Int)(a6:LDCe)(a7:LDLn)(a8:LDTh)(a9:List (Int))(a10:List (Int))(a11:List LI)(a12:List LDCn)(a13:LDOp)(a14:LDOu)(a15:List (Int))(a16:List LI)(a17:LDEn)(a18:List (Int)):Option (T2D):=
(n7 a15 a16 a0).bind λ(x0,x1,x2,_)=>
let x3:=dQ x2.length;
(dZ qf NN (a0,x3,0,a1,a2,a3,a4,a5,a6,a7,a8,a9,a10,a11,a12,a13,a14,x0,x1,a17,a18,x2,())).bind λ(x4,x5,x6,x7,x8,x9,ac,ae,af,ag,ah,ai,aj,ak,am,an,ap,aq,av,ax,ay,az,aA,_)=>
let aB:=dQ az.length;
(dZ qe NN (x4,aB,0,x8,x9,ac,ae,af,ag,ah,ai,aj,ak,am,an,ap,aq,av,ax,ay,az,())).bind λ(aD,aE,aF,aG,aH)=>
some (aH)
def Cb:X.Cfg:=⟨E0,[wM,sH],[],[(lx 4 0 [Uk 0,Ul 1,Un 23 13,Ul 24,Ul 25] [(2,Xaa),(13,Uaa)] 26),⟨13,1,qE,[(.normal,(qS [Uk 0,Ul 1,(36,.pk ⟨2,17,[]⟩ [0,0]),Ul 37,Ul 38] [(2,Xaa)]))]⟩,⟨10,2,(qS [Uk 0,Ul 1,(36,.pk ⟨2,17,[]⟩ [0,0]),Ul 37,Ul 38] [(2,Xaa)]),[(.exit 2,(qS [Uk 0,Ul 1,(36,.pk ⟨2,17,[]⟩ [0,0]),Ul 37,Ul 38,Um 39] [(2,Xaa)]))]⟩]⟩
def ul:Ctr:=⟨97,112,[.ptr ⟨2,0,[]⟩ [0],shU I64],[(2,Xaa)],[⟨[],[],[(2,Xaa)]⟩],ap19 ko⟩
theorem BF:Lk 7 ul:=ls Cb (aC D0 (aC zD aN))
def nT(a0:LDIn)(a1:List (Int))(a2:List LI)(a3:List (Int))(a4:Int)(a5:LDCe)(a6:LDLn)(a7:LDTh)(a8:List (Int))(a9:List (Int))(a10:List LI)(a11:List LDCn)(a12:LDOp)(a13:LDOu)(a14:List (Int))(a15:List LI)(a16:LDEn)(a17:List (Int))(a18:Int)(a19:Int)(a20:Bool):Option (LDIn×LI×LLI×LI×Int×LDCe×LDLn×LDTh×LI×LI×LLI×LLCn×LDOp×LDOu×LI×LLI×LDEn×T07):=
(mF a7).bind λ(x0,_)=>
let x1:=dQ x0.length;
bif(x1==0)then(some ([],[],[],[],0,[],[],[],[],[],[],[],[],[],[],[],[],[],15,()))else
let x2:=dQ a16.length;
bif(decide (x2>192))then(some ([],[],[],[],0,[],[],[],[],[],[],[],[],[],[],[],[],[],3,()))else
let x3:=dQ x0.length;
(jS a18 x3).bind λ(x4,_)=>
(eq x4).bind λx5=>
(dM x0 x5).bind λx6=>
(dM x0 x5).bind λx7=>
(jS a19 64).bind λ(x8,_)=>
let x9:=w64 (1+x8);
(lB a0 a1 a2 a3 a4 a5 a6 a7 a8 a9 a10 a11 a12 a13 a14 a15 a16 a17).bind λ(ac,ae,af,ag,ah,ai,aj,ak,am,an,ap,aq,av,ax,ay,az,aA,aB,_)=>
(match(bif a20 then((ni ag ah ai aj ak x7).bind λ(aD,_)=>
bif aD then((ky ag ah ai aj ak x7).bind λ(aE,aF,aG,aH,aI,aJ,_)=>
let aK:LDEn:=[(3,(x7,(0,(0,(0,(0,(0,(0,(0,([],([],(0,(0,(0,(0,([],(0,false)))))))))))))))))];
bif(dW 184 aA.length aK.length)then let aL:LDEn:=(List.append aA aK);
some (.inl (x7,x9,(),(),(),(),0,(),(),(),(),(),(),(),(),(),(),(),(),(),ac,ae,af,aE,aF,aG,aH,aI,am,an,ap,aq,av,ax,ay,az,aL,aB,()))else none)else
some (.inr (x7,x9,(),(),(),(),0,(),(),(),(),(),(),(),(),(),(),(),(),(),ac,ae,af,ag,ah,ai,aj,ak,am,an,ap,aq,av,ax,ay,az,aA,aB,())))else
some (.inr (x7,x9,(),(),(),(),0,(),(),(),(),(),(),(),(),(),(),(),(),(),ac,ae,af,ag,ah,ai,aj,ak,am,an,ap,aq,av,ax,ay,az,aA,aB,())):Option (T3b⊕T3b))with
|none=>none
|some (.inl (aD,aE,aF,aG,aH,aI,aJ,aK,aL,aM,aO,aP,aQ,aR,aS,aT,aU,aV,aW,aY,aZ,ba,bc,bd,bf,bg,bh,bi,bj,bk,bl,bm,bn,bo,bp,bq,bt,bv,_))=>
(lX aZ ba bc bd bf bg bh bi aD aE).bind λ(bx,bz,bA,bB,bC,bD,bE,bF,bG,bH,bI,bJ,bK,bL,_)=>
let bM:LDEn:=[(1,(aD,(aE,(bD,(bE,(bF,(bG,(bH,(bI,(bJ,(bK,(0,(0,(0,(0,([],(0,false)))))))))))))))))];
bif(dW 184 bt.length bM.length)then let bN:LDEn:=(List.append bt bM);
(bif(bE==1)then((jz bD bE bF bG bH bI bJ bK aZ ba bc bx bz bA bB bC bj bk bl bm bn bo bp bq bN bv).bind λ(bO,bP,bQ,bR,bS,bT,bU,bV,bW,bY,bZ,cc,cd,cf,cg,ch,ci,cj,_)=>
some (aD,aF,aG,aH,aI,aJ,aK,aL,aM,aO,aP,aQ,aR,aS,aT,aU,aV,aW,aY,bO,bP,bQ,bR,bS,bT,bU,bV,bW,bY,bZ,cc,cd,cf,cg,ch,ci,cj,()))else
some (aD,aF,aG,aH,aI,aJ,aK,aL,aM,aO,aP,aQ,aR,aS,aT,aU,aV,aW,aY,aZ,ba,bc,bx,bz,bA,bB,bC,bj,bk,bl,bm,bn,bo,bp,bq,bN,bv,()):Option (T35)).bind λ(bO,bP,bQ,bR,bS,bT,bU,bV,bW,bY,bZ,cc,cd,cf,cg,ch,ci,cj,cl,cn,cq,cr,cu,cw,cx,cy,cz,cD,cE,cF,cG,cH,cI,cJ,cK,cL,cM,_)=>
((eq bO).bind λcN=>
(dM cz cN).bind λcO=>
bif(cO.1==4)then((ko bO cn cq cr cu cw cx cy cz cD cE cF cG cH cI cJ cK cL cM).bind λ(cP,cQ,cR,cS,cT,cU,cV,cW,cX,cY,cZ,c8,c9,dc,de,df,dg,dh,_)=>
some (bP,bQ,bR,bS,bT,bU,bV,bW,bY,bZ,cc,cd,cf,cg,ch,ci,cj,cl,cP,cQ,cR,cS,cT,cU,cV,cW,cX,cY,cZ,c8,c9,dc,de,df,dg,dh,()))else
some (bP,bQ,bR,bS,bT,bU,bV,bW,bY,bZ,cc,cd,cf,cg,ch,ci,cj,cl,cn,cq,cr,cu,cw,cx,cy,cz,cD,cE,cF,cG,cH,cI,cJ,cK,cL,cM,()):Option (T33)).bind λ(cN,cO,cP,cQ,cR,cS,cT,cU,cV,cW,cX,cY,cZ,c8,c9,dc,de,df,dg,dh,dk,dl,dm,dn,dp,dq,dx,dy,dz,dA,dB,dC,dD,dE,dF,dG,_)=>
some (dg,dh,dk,dl,dm,dn,dp,dq,dx,dy,dz,dA,dB,dC,dD,dE,dF,dG,0,())else none
|some (.inr (aD,aE,aF,aG,aH,aI,aJ,aK,aL,aM,aO,aP,aQ,aR,aS,aT,aU,aV,aW,aY,aZ,ba,bc,bd,bf,bg,bh,bi,bj,bk,bl,bm,bn,bo,bp,bq,bt,bv,_))=>
(lX aZ ba bc bd bf bg bh bi aD aE).bind λ(bx,bz,bA,bB,bC,bD,bE,bF,bG,bH,bI,bJ,bK,bL,_)=>
let bM:LDEn:=[(1,(aD,(aE,(bD,(bE,(bF,(bG,(bH,(bI,(bJ,(bK,(0,(0,(0,(0,([],(0,false)))))))))))))))))];
bif(dW 184 bt.length bM.length)then let bN:LDEn:=(List.append bt bM);
(bif(bE==1)then((jz bD bE bF bG bH bI bJ bK aZ ba bc bx bz bA bB bC bj bk bl bm bn bo bp bq bN bv).bind λ(bO,bP,bQ,bR,bS,bT,bU,bV,bW,bY,bZ,cc,cd,cf,cg,ch,ci,cj,_)=>
some (aD,aF,aG,aH,aI,aJ,aK,aL,aM,aO,aP,aQ,aR,aS,aT,aU,aV,aW,aY,bO,bP,bQ,bR,bS,bT,bU,bV,bW,bY,bZ,cc,cd,cf,cg,ch,ci,cj,()))else
some (aD,aF,aG,aH,aI,aJ,aK,aL,aM,aO,aP,aQ,aR,aS,aT,aU,aV,aW,aY,aZ,ba,bc,bx,bz,bA,bB,bC,bj,bk,bl,bm,bn,bo,bp,bq,bN,bv,()):Option (T35)).bind λ(bO,bP,bQ,bR,bS,bT,bU,bV,bW,bY,bZ,cc,cd,cf,cg,ch,ci,cj,cl,cn,cq,cr,cu,cw,cx,cy,cz,cD,cE,cF,cG,cH,cI,cJ,cK,cL,cM,_)=>
((eq bO).bind λcN=>
(dM cz cN).bind λcO=>
bif(cO.1==4)then((ko bO cn cq cr cu cw cx cy cz cD cE cF cG cH cI cJ cK cL cM).bind λ(cP,cQ,cR,cS,cT,cU,cV,cW,cX,cY,cZ,c8,c9,dc,de,df,dg,dh,_)=>
some (bP,bQ,bR,bS,bT,bU,bV,bW,bY,bZ,cc,cd,cf,cg,ch,ci,cj,cl,cP,cQ,cR,cS,cT,cU,cV,cW,cX,cY,cZ,c8,c9,dc,de,df,dg,dh,()))else
some (bP,bQ,bR,bS,bT,bU,bV,bW,bY,bZ,cc,cd,cf,cg,ch,ci,cj,cl,cn,cq,cr,cu,cw,cx,cy,cz,cD,cE,cF,cG,cH,cI,cJ,cK,cL,cM,()):Option (T33)).bind λ(cN,cO,cP,cQ,cR,cS,cT,cU,cV,cW,cX,cY,cZ,c8,c9,dc,de,df,dg,dh,dk,dl,dm,dn,dp,dq,dx,dy,dz,dA,dB,dC,dD,dE,dF,dG,_)=>
some (dg,dh,dk,dl,dm,dn,dp,dq,dx,dy,dz,dA,dB,dC,dD,dE,dF,dG,0,())else none)
def Ef:X.Cfg:=⟨E0,[ux,tw,sJ,tn,rx,wN,sK,ul],[(60,w7),(61,w7),(82,w7),(83,w7)],[⟨11,0,qE,[(.normal,(qS [Uk 4,Ul 7,Ul 8,Uk 9] [(10,Uae),(20,uL [gS,RI,(Uj RW),RI,CW,(Ui KCe),mw,tz,RW,RW,(Uj RW),(Uj ej),iI,ll,RI,(Uj RI),(Ui tA),(Ui I64)])])),(.normal,qS [Uk 4,Ul 7,Ul 8,Uk 9] [(10,Uae),(20,Xaa)])]⟩,⟨17,1,qE,[(.normal,qS [Uk 4,Ul 7,Uk 9] [(10,Uae),(20,Xaa)])]⟩,⟨19,2,qE,[(.normal,qS [Uk 4,Uk 9] [(10,Uae),(20,Xaa)])]⟩]⟩
def wD:Ctr:=⟨55,113,[.agg uah,.agg Xag],[],[⟨uL [gS,RI,(Uj RW),RI,CW,gU,ja,jW,RW,RW,(Uj RW),(Uj ej),iI,ll,RI,(Uj RI),(Ui tA),(Ui I64),I64],[.agg 18,.one],[]⟩],ap21 nT⟩
theorem DS:Lk 8 wD:=ls Ef (aC BQ (aC yr (aC zF (aC ym (aC yl (aC D1 (aC zG (aC BF aN))))))))
def pI:T3f->Option (T3f⊕((Int×Bool×LI×Int×Unit×Unit×Unit×Unit×Int×Unit×Unit×Unit×Unit×Unit×Unit×Unit×Unit×Unit×Unit×Unit×Unit×Unit×LDIn×LI×LLI×LI×Int×LDCe×LDLn×LDTh×LI×LI×LLI×LLCn×LDOp×LDOu×LI×LLI×LDEn×LI×T2D)⊕(Int×Bool×T3c))):=λ(v0,v1,v2,v3,v4,v5,v6,v7,v8,v9,v10,v11,v12,v13,v14,v15,v16,v17,v18,v19,v20,v21,v22,v23,v24,v25,v26,v27,v28,v29,v30,v31,v32,v33,v34,v35,v36,v37,v38,_)=>
bif(decide (v0>0))then((mO v1 v2).bind λ(x0,x1,x2,x3,x4,_)=>
(nT v21 v22 v23 v24 v25 v26 v27 v28 v29 v30 v31 v32 v33 v34 v35 v36 v37 v38 x0 x1 x2).bind λ(x5,x6,x7,x8,x9,ac,ae,af,ag,ah,ai,aj,ak,am,an,ap,aq,av,ax,_)=>
bif(ax != 0)then(some (.inr (.inl (v0,true,x3,x4,v3,v4,v5,v6,v7,v8,v9,v10,v11,v12,v13,v14,v15,v16,v17,v18,v19,v20,v21,v22,v23,v24,v25,v26,v27,v28,v29,v30,v31,v32,v33,v34,v35,v36,v37,v38,x5,x6,x7,x8,x9,ac,ae,af,ag,ah,ai,aj,ak,am,an,ap,aq,av,()))))else
let ay:=w64 (v0-1);
some (.inl (ay,x3,x4,v3,v4,v5,v6,v7,v8,v9,v10,v11,v12,v13,v14,v15,v16,v17,v18,v19,v20,x5,x6,x7,x8,x9,ac,ae,af,ag,ah,ai,aj,ak,am,an,ap,aq,av,())))else
some (.inr (.inr (v0,false,v1,v2,v3,v4,v5,v6,v7,v8,v9,v10,v11,v12,v13,v14,v15,v16,v17,v18,v19,v20,v21,v22,v23,v24,v25,v26,v27,v28,v29,v30,v31,v32,v33,v34,v35,v36,v37,v38,())))
def rX(a0:List (Int))(a1:Int):Option (LDIn×LI×LLI×LI×Int×LDCe×LDLn×LDTh×LI×LI×LLI×LLCn×LDOp×LDOu×LI×LLI×LDEn×LI×T07):=
(lH a0 a1).bind λ(x0,x1,x2,x3,x4,_)=>
(mN x1 x3 x4).bind λ(x5,x6,x7,x8,_)=>
(lI x7 x8).bind λ(x9,ac,ae,af,ag,ah,ai,aj,_)=>
(py x0 x1 x2 x5 x6 x9 ac ae af ag []).bind λ(ak,am,an,ap,aq,av,ax,ay,az,aA,aB,aD,aE,aF,aG,aH,aI,aJ,aK,_)=>
(dJ 16 ai aj).bind λ(aL,aM,aO,_)=>
let aP:=w64 (3+aL);
(match dZ pI NN (aP,aM,aO,(),(),(),(),0,(),(),(),(),(),(),(),(),(),(),(),(),(),ak,am,an,ap,aq,av,ax,ay,az,aA,aB,aD,aE,aF,aG,aH,[],aJ,())with
|none=>none
|some (.inl (aQ,aR,aS,aT,aU,aV,aW,aY,aZ,ba,bc,bd,bf,bg,bh,bi,bj,bk,bl,bm,bn,bo,bp,bq,bt,bv,bx,bz,bA,bB,bC,bD,bE,bF,bG,bH,bI,bJ,bK,bL,_))=>
some (bp,bq,bt,bv,bx,bz,bA,bB,bC,bD,bE,bF,bG,bH,bI,bJ,bK,bL,aS,aT,())
|some (.inr (aQ,aR,aS,aT,aU,aV,aW,aY,aZ,ba,bc,bd,bf,bg,bh,bi,bj,bk,bl,bm,bn,bo,bp,bq,bt,bv,bx,bz,bA,bB,bC,bD,bE,bF,bG,bH,bI,bJ,bK,bL,_))=>
some (bp,bq,bt,bv,bx,bz,bA,bB,bC,bD,bE,bF,bG,bH,bI,bJ,bK,bL,aS,aT,()))
def I9:X.Cfg:=⟨E0,[sT,uM,sU,um,fu,uN,wD],[],[⟨5,0,qS [Uk 0,Uk 2,Uk 4,Ul 6] [(2,Uo),(6,Uae),(10,Xaa)],[(.exit 0,qS [Uk 0,Uk 2,Uk 4,Ul 6,Uk 7,Um 37] [(2,Uo),(6,Uae),(10,uah),(16,Xaa)]),(.exit 0,qS [Uk 0,Uk 2,Uk 4,Ul 6,Um 26] [(2,Uo),(6,Uae),(10,Xaa)])]⟩]⟩
def Bd:Ctr:=⟨23,114,[.ptr ⟨2,0,[]⟩ [0]],[(2,Uo)],[⟨uah,[.agg 18],[(2,Uo)]⟩],ap2 rX⟩
theorem I2:Lk 9 Bd:=ls I9 (aC zO (aC B6 (aC zP (aC BG (aC fw (aC B7 (aC DS aN)))))))
def qJ(a0:Int)(a1:Int)(a2:Int)(a3:Int)(a4:Int)(a5:Int)(a6:LDCn)(a7:LDCn):Option (T1y):=
bif(dW 24 0 a6.length)then let x0:LDCn:=(List.append [] a6);
bif(dW 24 0 a7.length)then let x1:LDCn:=(List.append [] a7);
some (a0,a1,a2,a3,a4,a5,x0,x1,())else none else none
def EC:X.Cfg:=⟨E0,[],[],[]⟩
def wO:Ctr:=⟨28,115,[.agg yaa],[],[⟨uaf,[.agg 8],[]⟩],ap8 qJ⟩
theorem D2:Lk 1 wO:=ls EC aN
def nh:LDEn×T0f->Option ((LDEn×T0f)⊕(LDEn×Int×Int×Bool×LDEn×Unit)):=λ(v0,v1,v2,v3,_)=>
bif(decide (v2<v1))then((eq v2).bind λx0=>
(dM v0 x0).bind λx1=>
(qJ x1.2.2.2.1 x1.2.2.2.2.1 x1.2.2.2.2.2.1 x1.2.2.2.2.2.2.1 x1.2.2.2.2.2.2.2.1 x1.2.2.2.2.2.2.2.2.1 x1.2.2.2.2.2.2.2.2.2.1 x1.2.2.2.2.2.2.2.2.2.2.1).bind λ(x2,x3,x4,x5,x6,x7,x8,x9,_)=>
bif(dW 24 0 x1.2.2.2.2.2.2.2.2.2.2.2.2.2.2.2.1.length)then let ac:LDCn:=(List.append [] x1.2.2.2.2.2.2.2.2.2.2.2.2.2.2.2.1);
let ae:LDEn:=[(x1.1,(x1.2.1,(x1.2.2.1,(x2,(x3,(x4,(x5,(x6,(x7,(x8,(x9,(x1.2.2.2.2.2.2.2.2.2.2.2.1,(x1.2.2.2.2.2.2.2.2.2.2.2.2.1,(x1.2.2.2.2.2.2.2.2.2.2.2.2.2.1,(x1.2.2.2.2.2.2.2.2.2.2.2.2.2.2.1,(ac,(x1.2.2.2.2.2.2.2.2.2.2.2.2.2.2.2.2.1,x1.2.2.2.2.2.2.2.2.2.2.2.2.2.2.2.2.2)))))))))))))))))];
bif(dW 184 v3.length ae.length)then let af:LDEn:=(List.append v3 ae);
let ag:=w64 (v2+1);
some (.inl (v0,v1,ag,af,()))else none else none)else
some (.inr (v0,v1,v2,false,v3,()))
def lT(a0:LDEn):Option (LDEn×Unit):=
let x0:=dQ a0.length;
(dZ nh NN (a0,x0,0,[],())).bind λ(x1,x2,x3,x4,x5,_)=>
some (x5,())
def Eh:X.Cfg:=⟨E0,[wO],[(24,w7),(25,w7)],[(lx 4 0 [Un 3 9,sP 6 jw,Ul 7,Ul 8] [(9,zaf)] 9)]⟩
def ro:Ctr:=⟨10,116,Uaf,[],[⟨zaf,[.one],[]⟩],ap1 lT⟩
theorem vV:Lk 2 ro:=ls Eh (aC D2 aN)
def oe:Int×T0o->Option ((Int×T0o)⊕(Int×Bool×T0o)):=λ(v0,v1,v2,v3,_)=>
bif(decide (v0>0))then((lY v1 v2).bind λ(x0,x1,x2,x3,x4,x5,x6,x7,x8,x9,ac,ae,af,ag,ah,ai,aj,ak,am,an,_)=>
let ap:LDEn:=[(x0,(x1,(x2,(x3,(x4,(x5,(x6,(x7,(x8,(x9,(ac,(ae,(af,(ag,(ah,(ai,(aj,ak)))))))))))))))))];
bif(dW 184 v3.length ap.length)then let aq:LDEn:=(List.append v3 ap);
let av:=w64 (v0-1);
some (.inl (av,am,an,aq,()))else none)else
some (.inr (v0,false,v1,v2,v3,()))
def iX(a0:List (Int))(a1:Int):Option (LDEn×T07):=
(dJ 4 a0 a1).bind λ(x0,x1,x2,_)=>
bif(x0==0)then((dJ 6 x1 x2).bind λ(x3,x4,x5,_)=>
(dZ oe NN (x3,x4,x5,[],())).bind λ(x6,x7,x8,x9,ac,_)=>
some (ac,x8,x9,()))else
(rX x1 x2).bind λ(x3,x4,x5,x6,x7,x8,x9,ac,ae,af,ag,ah,ai,aj,ak,am,an,ap,aq,av,_)=>
(lT an).bind λ(ax,_)=>
(match(let ay:Int:=(dQ ax.length);
bif(decide (ay>0))then((dJ 2 aq av).bind λ(az,aA,aB,_)=>
bif(az==0)then(let aD:Int:=(dQ ax.length);
(dJ aD aA aB).bind λ(aE,aF,aG,_)=>
(dJ 6 aF aG).bind λ(aH,aI,aJ,_)=>
bif(aH==0)then((lY aI aJ).bind λ(aK,aL,aM,aO,aP,aQ,aR,aS,aT,aU,aV,aW,aY,aZ,ba,bc,bd,bf,bg,bh,_)=>
(eq aE).bind λbi=>
(dM ax bi).bind λbj=>
(dM ax bi).bind λbk=>
let bl:=(List.modify ax bi λe=>(aK,(aL,(aM,(aO,(aP,(aQ,(aR,(aS,(aT,(aU,(aV,(aW,(aY,(aZ,(ba,(bc,(bd,bf))))))))))))))))));
some (.inl (bg,bh,bl,())))else
bif(aH==1)then((eq aE).bind λaK=>
bif(gF 0 aK ax.length)then let aL:Int:=(w64 (aE+1));
(eq aL).bind λaM=>
bif(gF aM ax.length ax.length)then bif(gF 0 0 (Nat.sub aK 0))then bif(gF (Nat.sub aK 0) aM (Nat.add aM (Nat.sub ax.length aM)))then bif(gF aM (Nat.add aM (Nat.sub ax.length aM)) ax.length)then let aO:LDEn:=(List.append (my ax 0 (Nat.sub aK 0)) (my ax aM (Nat.sub ax.length aM)));
some (.inr (aO,aI,aJ,()))else none else none else none else none else none)else
bif(aH==2)then((dJ 5 aI aJ).bind λ(aK,aL,aM,_)=>
(eq aE).bind λaO=>
(dM ax aO).bind λaP=>
(dM ax aO).bind λaQ=>
let aR:=(List.modify ax aO λe=>(e.1,(aK,e.2.2)));
some (.inl (aL,aM,aR,())))else
bif(aH==3)then((eq aE).bind λaK=>
(dM ax aK).bind λaL=>
(dM ax aK).bind λaM=>
let aO:=w64 (aM.2.2.2.2.2.2.1+1);
(eq aE).bind λaP=>
(dM ax aP).bind λaQ=>
(dM ax aP).bind λaR=>
let aS:=(List.modify ax aP λe=>(e.1,(e.2.1,(e.2.2.1,(e.2.2.2.1,(e.2.2.2.2.1,(e.2.2.2.2.2.1,(aO,e.2.2.2.2.2.2.2))))))));
some (.inl (aI,aJ,aS,())))else
bif(aH==4)then((dJ 6 aI aJ).bind λ(aK,aL,aM,_)=>
let aO:=w64 (aK-1);
(eq aE).bind λaP=>
(dM ax aP).bind λaQ=>
(dM ax aP).bind λaR=>
let aS:=(List.modify ax aP λe=>(e.1,(e.2.1,(e.2.2.1,(e.2.2.2.1,(e.2.2.2.2.1,(e.2.2.2.2.2.1,(e.2.2.2.2.2.2.1,(e.2.2.2.2.2.2.2.1,(e.2.2.2.2.2.2.2.2.1,(e.2.2.2.2.2.2.2.2.2.1,(e.2.2.2.2.2.2.2.2.2.2.1,(e.2.2.2.2.2.2.2.2.2.2.2.1,(e.2.2.2.2.2.2.2.2.2.2.2.2.1,(e.2.2.2.2.2.2.2.2.2.2.2.2.2.1,(e.2.2.2.2.2.2.2.2.2.2.2.2.2.2.1,(e.2.2.2.2.2.2.2.2.2.2.2.2.2.2.2.1,(aO,e.2.2.2.2.2.2.2.2.2.2.2.2.2.2.2.2.2))))))))))))))))));
some (.inl (aL,aM,aS,())))else
bif(aH==5)then((dJ 67 aI aJ).bind λ(aK,aL,aM,_)=>
(eq aE).bind λaO=>
(dM ax aO).bind λaP=>
(dM ax aO).bind λaQ=>
let aR:=(List.modify ax aO λe=>(e.1,(e.2.1,(aK,e.2.2.2))));
some (.inl (aL,aM,aR,())))else
some (.inl (aI,aJ,ax,())))else
some (.inl (aA,aB,ax,())))else
some (.inl (aq,av,ax,())):Option (T0o⊕(LDEn×T07)))with
|none=>none
|some (.inl (ay,az,aA,_))=>
some (aA,ay,az,())
|some (.inr (ay,az,aA,_))=>
some (ay,az,aA,()))
def yM:X.Cfg:=⟨E0,[fu,wX,Bd,ro],[(19,w7),(20,w7),(56,w7)],[(lx 6 0 [Uk 0,Un 3 9,Ul 4] [(2,Uo),(9,zaf)] 13),⟨12,1,qE,[(.normal,qS [Uk 0,Un 5 13] [(2,Uo),(13,zaf)]),(.normal,(qS [Uk 0,sP 5 jw] [(2,Uo),(13,[.dead])]))]⟩]⟩
def rL:Ctr:=⟨9,117,[.ptr ⟨2,0,[]⟩ [0]],[(2,Uo)],[⟨Uaf,[.one],[(2,Uo)]⟩],ap2 iX⟩
theorem yw:Lk 10 rL:=ls yM (aC fw (aC Eb (aC I2 (aC vV aN))))
def eW(a0:Int)(a1:Int)(a2:Int):Option (Bool×Unit):=
bif(decide (a0>=a1))then(some ((decide (a0<=a2)),()))else
some (false,())
def vx:X.Cfg:=⟨E0,[],[],[]⟩
def pa:Ctr:=⟨66,118,uL [I64,I64,I64],[],[⟨Up,[.one],[]⟩],ap3 eW⟩
theorem vn:Lk 1 pa:=ls vx aN
def gg(a0:Int)(a1:Int)(a2:Int)(a3:Int):Option (Bool×Unit):=
bif(a0==0)then(bif(a2==0)then(some ((a3==0),()))else
some (false,()))else
bif(a0==2)then(bif(a2==0)then(some ((a3==0),()))else
some (false,()))else
bif(a0==1)then((bif(a2==(-1))then(bif(decide (a3>=0))then(some ((decide (a3<=65535)),a0,a1,a2,a3,()))else
some (false,a0,a1,a2,a3,()))else
some (false,a0,a1,a2,a3,()):Option (T0N)).bind λ(x0,x1,x2,x3,x4,_)=>
bif(x2==0)then(bif x0 then(some (true,()))else
bif(decide (x3>=0))then(bif(decide (x3<4))then(bif(decide (x4>=0))then(some ((decide (x4<32)),()))else
some (false,()))else
some (false,()))else
some (false,()))else
some (false,()))else
some (false,())
def zR:X.Cfg:=⟨E0,[],[],[⟨7,0,qE,[(.normal,qS [Uk 1,Um 3] [(4,Xad)])]⟩]⟩
def oE:Ctr:=⟨68,119,[.agg Xad],[],[⟨Up,[.one],[]⟩],ap4 gg⟩
theorem sC:Lk 1 oE:=ls zR aN
def jc(a0:Int)(a1:Int)(a2:Int)(a3:Int):Option (Bool×Unit):=
(gg a0 a1 a2 a3).bind λ(x0,_)=>
some ((!x0),())
def vy:X.Cfg:=⟨E0,[oE],[],[]⟩
def pb:Ctr:=⟨106,120,[.agg Xad],[],[⟨Up,[.one],[]⟩],ap4 jc⟩
theorem vo:Lk 2 pb:=ls vy (aC sC aN)
def fq:T0j->Option (T0j⊕((Int×Unit)⊕T0A)):=λ(v0,v1,v2,_)=>
bif(decide (v2<v1))then((eq v2).bind λx0=>
(dM v0 x0).bind λx1=>
(jc x1.1 x1.2.1 x1.2.2.1 x1.2.2.2).bind λ(x2,_)=>
bif x2 then(some (.inr (.inl (v2,()))))else
let x3:=w64 (v2+1);
some (.inl (v0,v1,x3,())))else
some (.inr (.inr (v0,v1,v2,false,())))
def fj(a0:LDCn):Option (Int×Unit):=
let x0:=dQ a0.length;
(match dZ fq NN (a0,x0,0,())with
|none=>none
|some (.inl (x1,_))=>
some (x1,())
|some (.inr (x1,_))=>
some ((-1),()))
def o6:X.Cfg:=⟨E0,[pb],[],[⟨3,0,(qS [sP 0 ej,(1,.fn 106 []),Ul 7,Ul 8] []),[(.ret,qS [Ul 4] []),(.exit 0,(qS [sP 0 ej,(1,.fn 106 []),Ul 7,Ul 8,Um 9] []))]⟩]⟩
def j8:Ctr:=⟨133,121,[shU ej,.fn 106 []],[],[⟨zab,[.one],[]⟩],ap1 fj⟩
theorem oW:Lk 3 j8:=ls o6 (aC vo aN)
def fF(a0:LDCn):Option (Bool×Unit):=
(fj a0).bind λ(x0,_)=>
some ((decide (x0>=0)),())
def nH:X.Cfg:=⟨E0,[j8],[],[]⟩
def i5:Ctr:=⟨105,122,[shU ej,.fn 106 []],[],[⟨Up,[.one],[]⟩],ap1 fF⟩
theorem nF:Lk 4 i5:=ls nH (aC oW aN)
def fQ(a0:LDCn)(a1:Int):Option (Bool×Unit):=
let x0:=dQ a0.length;
bif(decide (x0<=a1))then((fF a0).bind λ(x1,_)=>
some ((!x1),()))else
some (false,())
def yA:X.Cfg:=⟨E0,[i5],[],[]⟩
def nM:Ctr:=⟨67,123,uL [ej,I64],[],[⟨Up,[.one],[]⟩],ap2 fQ⟩
theorem q8:Lk 5 nM:=ls yA (aC nF aN)
def gw(a0:Int)(a1:Int)(a2:Int)(a3:Int)(a4:Int)(a5:Int)(a6:LDCn)(a7:LDCn):Option (Bool×Unit):=
(eW a0 0 3).bind λ(x0,_)=>
bif x0 then((eW a1 0 3).bind λ(x1,_)=>
bif x1 then((eW a2 0 6).bind λ(x2,_)=>
bif x2 then((eW a3 0 1099511627776).bind λ(x3,_)=>
bif x3 then((eW a4 0 255).bind λ(x4,_)=>
bif x4 then((eW a5 0 15).bind λ(x5,_)=>
bif x5 then((fQ a6 3).bind λ(x6,_)=>
bif x6 then((fQ a7 16).bind λ(x7,_)=>
some (x7,()))else
some (false,()))else
some (false,()))else
some (false,()))else
some (false,()))else
some (false,()))else
some (false,()))else
some (false,())
def yz:X.Cfg:=⟨E0,[pa,nM],[],[]⟩
def nL:Ctr:=⟨34,124,[.agg yaa],[],[⟨Up,[.one],[]⟩],ap8 gw⟩
theorem q7:Lk 6 nL:=ls yz (aC vn (aC q8 aN))
def ij:T0C->Option (T0C⊕((Bool×Unit)⊕(LDCn×T0A))):=λ(v0,v1,v2,v3,_)=>
bif(decide (v3<v2))then((eq v3).bind λx0=>
(dM v0 x0).bind λx1=>
(eq v3).bind λx2=>
(dM v1 x2).bind λx3=>
let x4:Bool:=(!((x1.1==x3.1)&&((x1.2.1==x3.2.1)&&((x1.2.2.1==x3.2.2.1)&&((x1.2.2.2==x3.2.2.2)&&true)))));
bif x4 then(some (.inr (.inl (false,()))))else
let x5:=w64 (v3+1);
some (.inl (v0,v1,v2,x5,())))else
some (.inr (.inr (v0,v1,v2,v3,false,())))
def eV(a0:LDCn)(a1:LDCn):Option (Bool×Unit):=
let x0:=dQ a0.length;
let x1:=dQ a1.length;
bif(x0 != x1)then(some (false,()))else
let x2:=dQ a0.length;
(match dZ ij NN (a0,a1,x2,0,())with
|none=>none
|some (.inl (x3,_))=>
some (x3,())
|some (.inr (x3,_))=>
some (true,()))
def so:X.Cfg:=⟨E0,[],[],[⟨6,0,qS [sP 0 ej,sP 1 ej,Ul 12,Ul 13] [],[(.ret,qS [Um 4] []),(.exit 0,qS [sP 0 ej,sP 1 ej,Ul 12,Ul 13,Um 14] [])]⟩]⟩
def ju:Ctr:=⟨49,125,uL [ej,ej],[],[⟨Up,[.one],[]⟩],ap2 eV⟩
theorem mr:Lk 1 ju:=ls so aN
def fB(a0:Int)(a1:Int)(a2:Int)(a3:Int)(a4:Int)(a5:Int)(a6:LDCn)(a7:LDCn)(a8:Int)(a9:Int)(a10:Int)(a11:Int)(a12:Int)(a13:Int)(a14:LDCn)(a15:LDCn):Option (Bool×Unit):=
bif(a0==a8)then(bif(a1==a9)then(bif(a2==a10)then(bif(a3==a11)then(bif(a4==a12)then(bif(a5==a13)then((eV a6 a14).bind λ(x0,_)=>
bif x0 then((eV a7 a15).bind λ(x1,_)=>
some (x1,()))else
some (false,()))else
some (false,()))else
some (false,()))else
some (false,()))else
some (false,()))else
some (false,()))else
some (false,())
def zQ:X.Cfg:=⟨E0,[ju],[],[]⟩
def lN:Ctr:=⟨35,126,[.agg yaa,.agg yaa],[],[⟨Up,[.one],[]⟩],ap16 fB⟩
theorem oC:Lk 2 lN:=ls zQ (aC mr aN)
def fW(a0:Int)(a1:Int)(a2:Int)(a3:Int)(a4:LDCn)(a5:Int)(a6:Bool):Option (Bool×Unit):=
let x0:Bool:=((a0==0)&&((a1==0)&&((a2==0)&&((a3==0)&&true))));
bif x0 then(let x1:Int:=(dQ a4.length);
bif(x1==0)then(bif(a5==0)then(some ((!a6),()))else
some (false,()))else
some (false,()))else
some (false,())
def xm:X.Cfg:=⟨E0,[],[],[]⟩
def qn:Ctr:=⟨36,127,[.agg yac],[],[⟨Up,[.one],[]⟩],ap7 fW⟩
theorem xg:Lk 1 qn:=ls xm aN
def gk(a0:Int)(a1:Int)(a2:Int)(a3:Int)(a4:LDCn)(a5:Int)(a6:Bool):Option (Bool×Unit):=
(gg a0 a1 a2 a3).bind λ(x0,_)=>
bif x0 then((fQ a4 16).bind λ(x1,_)=>
bif x1 then(bif(decide (a5>=(-1)))then(some ((decide (a5<4)),()))else
some (false,()))else
some (false,()))else
some (false,())
def Ah:X.Cfg:=⟨E0,[oE,nM],[],[]⟩
def sR:Ctr:=⟨37,128,[.agg yac],[],[⟨Up,[.one],[]⟩],ap7 gk⟩
theorem zM:Lk 6 sR:=ls Ah (aC sC (aC q8 aN))
def eM(a0:Int)(a1:Int)(a2:Int)(a3:Int)(a4:Int)(a5:Int)(a6:Int)(a7:Int)(a8:Int)(a9:LDCn)(a10:LDCn)(a11:Int)(a12:Int)(a13:Int)(a14:Int)(a15:LDCn)(a16:Int)(a17:Bool):Option (Bool×Unit):=
bif(decide (a1<0))then(some (false,()))else
bif(decide (a1>=4))then(some (false,()))else
(gw a3 a4 a5 a6 a7 a8 a9 a10).bind λ(x0,_)=>
bif x0 then((fB a3 a4 a5 a6 a7 a8 a9 a10 0 0 0 0 0 0 [] []).bind λ(x1,_)=>
bif(a0==1)then(bif(decide (a2>=1))then(bif(decide (a2<=64))then(bif(a3==a1)then(bif(a4 != 3)then((fW a11 a12 a13 a14 a15 a16 a17).bind λ(x2,_)=>
some (x2,()))else
some (false,()))else
some (false,()))else
some (false,()))else
some (false,()))else
bif(a0==2)then(bif(a2==0)then(bif(a3==a1)then(bif(a4==1)then((gk a11 a12 a13 a14 a15 a16 a17).bind λ(x2,_)=>
some (x2,()))else
some (false,()))else
some (false,()))else
some (false,()))else
bif(a0==3)then(bif(a2==0)then(bif x1 then((fW a11 a12 a13 a14 a15 a16 a17).bind λ(x2,_)=>
some (x2,()))else
some (false,()))else
some (false,()))else
bif(a0==4)then(bif(a2==0)then(bif x1 then((gk a11 a12 a13 a14 a15 a16 a17).bind λ(x2,_)=>
bif x2 then(bif(a16==(-1))then(bif(!a17)then(let x3:Int:=(dQ a15.length);
some ((x3==0),()))else
some (false,()))else
some (false,()))else
some (false,()))else
some (false,()))else
some (false,()))else
some (false,()))else
(fB a3 a4 a5 a6 a7 a8 a9 a10 0 0 0 0 0 0 [] []).bind λ(x1,_)=>
bif(a0==1)then(bif(decide (a2>=1))then(bif(decide (a2<=64))then(some (false,()))else
some (false,()))else
some (false,()))else
bif(a0==2)then(bif(a2==0)then(some (false,()))else
some (false,()))else
bif(a0==3)then(bif(a2==0)then(bif x1 then((fW a11 a12 a13 a14 a15 a16 a17).bind λ(x2,_)=>
some (x2,()))else
some (false,()))else
some (false,()))else
bif(a0==4)then(bif(a2==0)then(bif x1 then((gk a11 a12 a13 a14 a15 a16 a17).bind λ(x2,_)=>
bif x2 then(bif(a16==(-1))then(bif(!a17)then(let x3:Int:=(dQ a15.length);
some ((x3==0),()))else
some (false,()))else
some (false,()))else
some (false,()))else
some (false,()))else
some (false,()))else
some (false,())
def Ag:X.Cfg:=⟨E0,[nL,lN,qn,sR],[],[]⟩
def jF:Ctr:=⟨16,129,[.agg Uad],[],[⟨Up,[.one],[]⟩],ap18 eM⟩
theorem lM:Lk 7 jF:=ls Ag (aC q7 (aC oC (aC xg (aC zM aN))))
def oJ(a0:Int)(a1:Int)(a2:Int)(a3:Int)(a4:Int)(a5:Int)(a6:Int)(a7:Int)(a8:Int)(a9:LDCn)(a10:LDCn)(a11:Int)(a12:Int)(a13:Int)(a14:Int)(a15:LDCn)(a16:Int)(a17:Bool)(a18:List (Int))(a19:List (Int×Int×Int×Int×Int×Int×LDCn×LDCn)):Option (T21):=
(eq a1).bind λx0=>
(dM a18 x0).bind λx1=>
((dM a18 x0).bind λx2=>
bif(x2 != 2)then(some (x0,a16,true,a18,a19,a0,a1,a2,a3,a4,a5,a6,a7,a8,a9,a10,a11,a12,a13,a14,a15,a16,a17,()))else
(eq a1).bind λx3=>
(dM a19 x3).bind λx4=>
(dM a19 x3).bind λx5=>
(fB a3 a4 a5 a6 a7 a8 a9 a10 x5.1 x5.2.1 x5.2.2.1 x5.2.2.2.1 x5.2.2.2.2.1 x5.2.2.2.2.2.1 x5.2.2.2.2.2.2.1 x5.2.2.2.2.2.2.2).bind λ(x6,_)=>
bif(!x6)then(some (x0,a16,true,a18,a19,a0,a1,a2,a3,a4,a5,a6,a7,a8,a9,a10,a11,a12,a13,a14,a15,a16,a17,()))else
bif(a16 != (-1))then((eq a16).bind λx7=>
(dM a18 x7).bind λx8=>
(dM a18 x7).bind λx9=>
bif(x9 != 0)then(some (x0,a16,true,a18,a19,a0,a1,a2,a3,a4,a5,a6,a7,a8,a9,a10,a11,a12,a13,a14,a15,a16,a17,()))else
some (x0,a16,(a8 != 10),a18,a19,a0,a1,a2,a3,a4,a5,a6,a7,a8,a9,a10,a11,a12,a13,a14,a15,a16,a17,()))else
some (x0,a16,false,a18,a19,a0,a1,a2,a3,a4,a5,a6,a7,a8,a9,a10,a11,a12,a13,a14,a15,a16,a17,()):Option (Nat×Int×Bool×LI×(List (Int×Int×Int×Int×Int×Int×LDCn×LDCn))×T2B)).bind λ(x2,x3,x4,x5,x6,x7,x8,x9,ac,ae,af,ag,ah,ai,aj,ak,am,an,ap,aq,av,ax,ay,_)=>
bif x4 then(some (false,x5,x6,()))else
(bif(ai==0)then((dM x5 x2).bind λaz=>
let aA:=List.modify x5 x2 λe=>4;
some (x3,aA,x6,()))else
bif ay then((dM x5 x2).bind λaz=>
let aA:=List.modify x5 x2 λe=>3;
some (x3,aA,x6,()))else
(dM x5 x2).bind λaz=>
let aA:=List.modify x5 x2 λe=>1;
some (x3,aA,x6,()):Option (T27)).bind λ(az,aA,aB,_)=>
(bif(az != (-1))then((eq az).bind λaD=>
(dM aA aD).bind λaE=>
(dM aA aD).bind λaF=>
let aG:=List.modify aA aD λe=>1;
some (aG,aB,()))else
some (aA,aB,()):Option (T1V)).bind λ(aD,aE,_)=>
some (true,aD,aE,())
def vB:X.Cfg:=⟨E0,[lN],[],[⟨3,0,qE,[(.normal,(qS [Un 0 3,Un 1 5,Uk 5,(7,.ptr ⟨3,0,[((),(1,0))]⟩ [0,0]),Ul 8,Um 47] [(3,Uaa),(5,[shU (Ui (.pair I64 (.pair I64 (.pair I64 (.pair I64 (.pair I64 (.pair I64 (.pair ej ej))))))))]),(12,Uad)]))]⟩,⟨5,1,qE,[(.normal,(qS [Un 0 3,Un 1 5,Ul 8] [(3,Uaa),(5,[shU (Ui (.pair I64 (.pair I64 (.pair I64 (.pair I64 (.pair I64 (.pair I64 (.pair ej ej))))))))])]))]⟩,⟨8,2,qE,[(.normal,(qS [Un 0 3,Un 1 5] [(3,Uaa),(5,[shU (Ui (.pair I64 (.pair I64 (.pair I64 (.pair I64 (.pair I64 (.pair I64 (.pair ej ej))))))))])]))]⟩]⟩
def pd:Ctr:=⟨65,130,[.pk ⟨3,0,[]⟩ [0,0],.pk ⟨5,0,[]⟩ [0,0],.agg Uad],[(3,Uaa),(5,[shU (Ui (.pair I64 (.pair I64 (.pair I64 (.pair I64 (.pair I64 (.pair I64 (.pair ej ej))))))))])],[⟨Up,[.one],[(3,Uaa),(5,[shU (Ui (.pair I64 (.pair I64 (.pair I64 (.pair I64 (.pair I64 (.pair I64 (.pair ej ej))))))))]),(1000000,[]),(1000001,[])]⟩],ap20 oJ⟩
theorem vp:Lk 3 pd:=ls vB (aC oC aN)
def qk(a0:Int)(a1:Int)(a2:Int)(a3:Int)(a4:Int)(a5:Int)(a6:Int)(a7:Int)(a8:Int)(a9:LDCn)(a10:LDCn)(a11:Int)(a12:Int)(a13:Int)(a14:Int)(a15:LDCn)(a16:Int)(a17:Bool)(a18:List (Int))(a19:List (Int×Int×Int×Int×Int×Int×LDCn×LDCn)):Option (T21):=
(eq a1).bind λx0=>
(dM a18 x0).bind λx1=>
(match(bif(a0==1)then((dM a18 x0).bind λx2=>
bif(x2 != 1)then(some (.inl (false,a18,a19,())))else
(eq a1).bind λx3=>
(dM a19 x3).bind λx4=>
(dM a19 x3).bind λx5=>
let x6:=(List.modify a19 x3 λe=>(a3,(a4,(a5,(a6,(a7,(a8,(a9,a10))))))));
bif(a4==2)then((dM a18 x0).bind λx7=>
let x8:=List.modify a18 x0 λe=>4;
some (.inr (x8,x6,())))else
bif(a4==1)then((dM a18 x0).bind λx7=>
let x8:=List.modify a18 x0 λe=>2;
some (.inr (x8,x6,())))else
some (.inr (a18,x6,())))else
bif(a0==2)then((oJ a0 a1 a2 a3 a4 a5 a6 a7 a8 a9 a10 a11 a12 a13 a14 a15 a16 a17 a18 a19).bind λ(x2,x3,x4,_)=>
some (.inl (x2,x3,x4,())))else
bif(a0==3)then((dM a18 x0).bind λx2=>
some (.inl ((x2==1),a18,a19,())))else
bif(a0==4)then((dM a18 x0).bind λx2=>
bif(x2 != 3)then(some (.inl (false,a18,a19,())))else
(dM a18 x0).bind λx3=>
let x4:=List.modify a18 x0 λe=>1;
some (.inr (x4,a19,())))else
some (.inr (a18,a19,())):Option (T21⊕T1V))with
|none=>none
|some (.inl (x2,x3,x4,_))=>
some (x2,x3,x4,())
|some (.inr (x2,x3,_))=>
some (true,x2,x3,()))
def xn:X.Cfg:=⟨E0,[pd],[],[⟨2,0,qE,[(.ret,(qS [Un 0 3,Un 1 5,Um 6] [(3,Uaa),(5,[shU (Ui (.pair I64 (.pair I64 (.pair I64 (.pair I64 (.pair I64 (.pair I64 (.pair ej ej))))))))])])),(.normal,(qS [Un 0 3,Un 1 5] [(3,Uaa),(5,[shU (Ui (.pair I64 (.pair I64 (.pair I64 (.pair I64 (.pair I64 (.pair I64 (.pair ej ej))))))))])]))]⟩]⟩
def qp:Ctr:=⟨32,131,[.pk ⟨3,0,[]⟩ [0,0],.pk ⟨5,0,[]⟩ [0,0],.agg Uad],[(3,Uaa),(5,[shU (Ui (.pair I64 (.pair I64 (.pair I64 (.pair I64 (.pair I64 (.pair I64 (.pair ej ej))))))))])],[⟨Up,[.one],[(3,Uaa),(5,[shU (Ui (.pair I64 (.pair I64 (.pair I64 (.pair I64 (.pair I64 (.pair I64 (.pair ej ej))))))))]),(1000000,[]),(1000001,[])]⟩],ap20 qk⟩
theorem xj:Lk 4 qp:=ls xn (aC vp aN)
def tG:T2p->Option (T2p⊕((Bool×Unit×Unit)⊕(LDEn×Int×Int×T21))):=λ(v0,v1,v2,v3,v4,_)=>
bif(decide (v2<v1))then((eq v2).bind λx0=>
(dM v0 x0).bind λx1=>
(eM x1.1 x1.2.1 x1.2.2.1 x1.2.2.2.1 x1.2.2.2.2.1 x1.2.2.2.2.2.1 x1.2.2.2.2.2.2.1 x1.2.2.2.2.2.2.2.1 x1.2.2.2.2.2.2.2.2.1 x1.2.2.2.2.2.2.2.2.2.1 x1.2.2.2.2.2.2.2.2.2.2.1 x1.2.2.2.2.2.2.2.2.2.2.2.1 x1.2.2.2.2.2.2.2.2.2.2.2.2.1 x1.2.2.2.2.2.2.2.2.2.2.2.2.2.1 x1.2.2.2.2.2.2.2.2.2.2.2.2.2.2.1 x1.2.2.2.2.2.2.2.2.2.2.2.2.2.2.2.1 x1.2.2.2.2.2.2.2.2.2.2.2.2.2.2.2.2.1 x1.2.2.2.2.2.2.2.2.2.2.2.2.2.2.2.2.2).bind λ(x2,_)=>
bif(!x2)then(some (.inr (.inl (false,(),()))))else
(qk x1.1 x1.2.1 x1.2.2.1 x1.2.2.2.1 x1.2.2.2.2.1 x1.2.2.2.2.2.1 x1.2.2.2.2.2.2.1 x1.2.2.2.2.2.2.2.1 x1.2.2.2.2.2.2.2.2.1 x1.2.2.2.2.2.2.2.2.2.1 x1.2.2.2.2.2.2.2.2.2.2.1 x1.2.2.2.2.2.2.2.2.2.2.2.1 x1.2.2.2.2.2.2.2.2.2.2.2.2.1 x1.2.2.2.2.2.2.2.2.2.2.2.2.2.1 x1.2.2.2.2.2.2.2.2.2.2.2.2.2.2.1 x1.2.2.2.2.2.2.2.2.2.2.2.2.2.2.2.1 x1.2.2.2.2.2.2.2.2.2.2.2.2.2.2.2.2.1 x1.2.2.2.2.2.2.2.2.2.2.2.2.2.2.2.2.2 v3 v4).bind λ(x3,x4)=>
bif(!x3)then(some (.inr (.inl (false,(),()))))else
let x6:=w64 (v2+1);
some (.inl (v0,v1,x6,x4)))else
some (.inr (.inr (v0,v1,v2,false,v3,v4,())))
def qM(a0:LDEn):Option (LI×Bool×Unit):=
bif(qW 4 4 1)then let x0:List (Int):=(List.replicate 4 0);
(dM x0 0).bind λx1=>
(dM x0 0).bind λx2=>
let x3:=List.modify x0 0 λe=>1;
bif(qW 4 4 8)then let x4:List (Int×Int×Int×Int×Int×Int×LDCn×LDCn):=(List.replicate 4 (0,(0,(0,(0,(0,(0,([],[]))))))));
let x5:=dQ a0.length;
(match dZ tG NN (a0,x5,0,x3,x4,())with
|none=>none
|some (.inl (x6,x7,_))=>
some ([],x6,())
|some (.inr (x6,x7,x8,x9,ac,ae,_))=>
some (ac,true,()))else none else none
def yJ:X.Cfg:=⟨E0,[jF,qp],[(11,(.pair I64 (.pair I64 (.pair I64 (.pair I64 (.pair I64 (.pair I64 (.pair (Ui KCn) (Ui KCn)))))))))],[⟨6,0,(qS [Un 4 11,Un 5 13,sP 12 jw,Ul 13,Ul 14] [(11,Uaa),(13,[shU (Ui (.pair I64 (.pair I64 (.pair I64 (.pair I64 (.pair I64 (.pair I64 (.pair ej ej))))))))])]),[(.ret,(qS [Un 2 7,Um 3] [(7,uL [N1])])),(.exit 0,(qS [Un 4 11,Un 5 13,sP 12 jw,Ul 13,Ul 14,Um 15] [(11,Uaa),(13,[shU (Ui (.pair I64 (.pair I64 (.pair I64 (.pair I64 (.pair I64 (.pair I64 (.pair ej ej))))))))])]))]⟩]⟩
def rJ:Ctr:=⟨12,132,Uaf,[],[⟨uL [(Ui I64),.bool],[.one,.one],[]⟩],ap1 qM⟩
theorem yu:Lk 8 rJ:=ls yJ (aC lM (aC xj aN))
def g7(a0:Int)(a1:Int)(a2:Int)(a3:Int)(a4:Int)(a5:Int)(a6:Int)(a7:Int)(a8:Int)(a9:LDCn)(a10:LDCn)(a11:Int)(a12:Int)(a13:Int)(a14:Int)(a15:LDCn)(a16:Int)(a17:Bool):Option (Bool×Unit):=
(eM a0 a1 a2 a3 a4 a5 a6 a7 a8 a9 a10 a11 a12 a13 a14 a15 a16 a17).bind λ(x0,_)=>
some ((!x0),())
def vC:X.Cfg:=⟨E0,[jF],[],[]⟩
def pe:Ctr:=⟨43,133,[.agg Uad],[],[⟨Up,[.one],[]⟩],ap18 g7⟩
theorem vq:Lk 8 pe:=ls vC (aC lM aN)
end
end Go.Proofs.YtoldehogdgdhmaaGreat
