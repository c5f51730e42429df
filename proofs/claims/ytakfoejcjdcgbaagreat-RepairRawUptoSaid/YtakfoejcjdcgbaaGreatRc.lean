/- Part of the proof; no condition. -/
import Derived.Test.YtakfoejcjdcgbaaGreatRb
import Derived.Lib.SliceRun
set_option linter.unusedVariables false
set_option linter.unusedSimpArgs false
namespace Go.Proofs.YtakfoejcjdcgbaaGreat
open Go.RowKit
def Nj(p:bS)(vs:List Nat):Nat->List Int->SP Unit
 |_,[]=>.ret ()
 |i,z::r=>(chk p (p.hops.length+1) vs).bind λ_=>(getPl p).bind λt=>match t with
  |.ow c=>if(c.getD i []).length=1 then(putL (p.at_ i 1) [.v (.int .i64 z)]).bind λ_=>Nj p vs (i+1) r else .fail
  |_=>.fail
section
variable {P:Program} {M:Fm} {ts:Array Value}
theorem w7(w:World)(b o:Nat)(v:Value)(r:List Value):w.setCells b o (v::r)=(w.setCells b o [v]).setCells b (o+1) r:=rfl
theorem NO{j:Nat}{p:bS}{vs:List Nat}{b n cap:Nat}(hx:ts.getD j undef=.slice (some ⟨b,0,none⟩) n cap):∀(zs:List Int)(i:Nat){σ σ':St}{w:World}{G:Gh},Inv M σ [] [] ts w G->σ.t j=.pk p vs->i+zs.length<=n->(Nj p vs i zs).run σ=some ((),σ')->
 ∃G',Inv M σ' [] [] ts (w.setCells b i (zs.map λz=>.int .i64 z)) G'/\σ'.tm=σ.tm:=by
 intro zs
 induction zs with
 |nil=>
  intro i σ σ' w G hI ht hn hr;simp only[Nj,SP.run,oSJ,oPJ,true_and]at hr;subst hr;exact⟨G,hI,rfl⟩
 |cons z r ih=>
  intro i σ σ' w G hI ht hn hr;rw[oLC]at hn;simp only[Nj]at hr;obtain⟨_,σ1,h1,h2⟩:=bG hr;have e1:σ1=σ:=(bU h1).1;have e2:=(bU h1).2;subst e1;obtain⟨tt,σ2,h3,h4⟩:=bG h2;obtain⟨e3,hg⟩:=cX h3;have e3:σ2=σ1:=e3;subst e3;obtain⟨G1,g1⟩:=hI.addHand (t:=.v (.int .i64 z)) (x:=.int .i64 z) (.v (λ_ h=>h) rfl);have Zv:=g1.1.tmr j;rw[ht,hx]at Zv
  cases Zv with
  |pk V0 h0 hv h=>
   obtain⟨Z8,c,ZP,ZN⟩:=h e2
   have ZQ:b7 (σ2.c p.root p.off) p.hops=some (.ow c):=by rw[bW (by exact Z8)]at ZN;exact ZN
   rw[ZQ]at hg
   injection hg with hg
   subst hg;simp only at h4;split at h4
   case isFalse=>simp[SP.run]at h4
   rename_i Zd;obtain⟨_,σ3,h5,h6⟩:=bG h4;obtain⟨fp,hown⟩:=nI g1.1 ZP ZN
   cases hown with
   |nil=>simp at hn
   |ow sz' u f hfp hb hsz hcap hz0 hmax hcur hcell hrec hnb hdis=>
    have hlt:i<c.length:=by omega
    have hlen:c[i].length=1:=by simpa[hlt]using Zd
    have ha:G1.addr w (p.at_ i 1)=some ⟨b,i*1,none⟩:=by
     have:=rX (sz:=1) ZP hlt;unfold Gh.addr bS.at_;simp only
     obtain⟨hd',tl,XI⟩:∃hd tl,p.hops++[(i,1,0)]=hd::tl:=by cases p.hops<;>exact⟨_,_,rfl⟩
     rw[XI];simp only;rw[<- XI,this];simp
    obtain⟨Zp,G2,H2,Z3,e5,e6,_,e7,_⟩:=Bu (k:=0) g1.1 (by exact Z8) ha (by simp) (by simp) (λk hk _=>by simp) h5;have UB:=Z3.clear (λk hk=>e6 k hk (Nat.zero_le _));obtain⟨G3,Yl,e8⟩:=ih (i+1) UB (by unfold St.t at ht⊢;rw[e7];exact ht) (by omega) h6;refine⟨G3,?_,e8.trans e7⟩;rw[List.map_cons,w7];simpa using Yl
theorem Kp{p:bS}{n:Nat}{σ:St}{vs:List Nat}(h:vs=gY σ.v p.root p.off n):(chk p n vs).run σ=some ((),σ):=by
 unfold chk;rw[SP.run_bind,p7,mz];simp only[oBS];rw[oIP h.symm];rfl
theorem I1{r o:Nat}{vs:List Nat}:∀(zs:List Int)(pre rest:List (List TV))(σ:St)(l:List TV),b9 σ.ce r=some l->l[o]?=some (.ow (pre++rest))->rest.length=zs.length->(∀e∈rest,∃z,e=pA z)->vs=gY σ.v r o 1 ->
 (Nj ⟨r,o,[]⟩ vs pre.length zs).run σ=some ((),{ σ with ce:=dp σ.ce r (l.set o (.ow (pre++zs.map pA))) }):=by
 intro zs
 induction zs with
 |nil=>
  intro pre rest σ l hl ho hlen _ _;obtain rfl:rest=[]:=oEN hlen;obtain⟨h1,h2⟩:=oGS ho
  have e:l.set o (.ow (pre++List.map pA []))=l:=by
   rw[List.map_nil,<- h2,List.set_getElem_self]
  rw[e,oq hl];rfl
 |cons z zs ih=>
  intro pre rest σ l hl ho hlen ZX Wz
  cases rest with
  |nil=>simp at hlen
  |cons e rest=>
   obtain⟨y,rfl⟩:=ZX e (by simp);obtain⟨h1,h2⟩:=oGS ho
   have hc:σ.c r o=.ow (pre++pA y::rest):=by
    unfold St.c;rw[hl];simp only[oGD,ho,Option.getD_some]
   have hg:(getPl (⟨r,o,[]⟩:bS)).run σ=some (.ow (pre++pA y::rest),σ):=by
    unfold getPl;simp only[SP.run,hc,b7]
   have Tc:(pre++pA y::rest).getD pre.length []=pA y:=by
    rw[oGD,List.getElem?_append_right (Nat.le_refl _),Nat.sub_self];rfl
   have WZ:∀f:List TV->List TV,(pre++pA y::rest).modify pre.length f=pre++f (pA y)::rest:=by
    intro f;apply List.ext_getElem?;intro k;rw[List.getElem?_modify];rcases Nat.lt_trichotomy k pre.length with h|h|h
    ·rw[List.getElem?_append_left h,List.getElem?_append_left h];simp[show ¬pre.length=k by omega]
    ·subst h;rw[List.getElem?_append_right (Nat.le_refl _),List.getElem?_append_right (Nat.le_refl _),Nat.sub_self];simp
    ·obtain⟨m,hm⟩:∃m,k-pre.length=m+1:=⟨k-pre.length-1,by omega⟩;rw[List.getElem?_append_right (by omega),List.getElem?_append_right (by omega),hm];simp[show ¬pre.length=k by omega]
   have XT:(putL ((⟨r,o,[]⟩:bS).at_ pre.length 1) [.v (.int .i64 z)]).run σ=some ((),{ σ with ce:=dp σ.ce r (l.set o (.ow (pre++pA z::rest))) }):=by
    have Sz:b7 (σ.c r o) [(pre.length,1,0)]=some (.v (.int .i64 y)):=by
     rw[hc];simp only[b7,List.getElem?_append_right (Nat.le_refl _),Nat.sub_self,List.getElem?_cons_zero];rfl
    have hst:eE (σ.c r o) [(pre.length,1,0)] (.v (.int .i64 z))=.ow (pre++pA z::rest):=by
     rw[hc];simp only[eE,WZ];rfl
    show((sK ⟨r,o,[(pre.length,1,0)]⟩ (.v (.int .i64 z))).bind λ_=>.ret ()).run σ=_;rw[SP.run_bind]
    have e:(sK ⟨r,o,[(pre.length,1,0)]⟩ (.v (.int .i64 z))).run σ=some ((),{ σ with ce:=dp σ.ce r (l.set o (.ow (pre++pA z::rest))) }):=by
     unfold sK;simp only[SP.run,Sz,hst,lG,Bool.or_self,Bool.false_eq_true,if_false,hl,h1,if_true]
    rw[e];rfl
   simp only[Nj];rw[SP.run_bind,Kp (by exact Wz)];simp only[oBS];rw[SP.run_bind,hg];simp only[oBS];rw[Tc,oIP (show(pA y).length=1 from rfl),SP.run_bind,XT];simp only[oBS];have h3:=ih (pre++[pA z]) rest { σ with ce:=dp σ.ce r (l.set o (.ow (pre++pA z::rest))) } (l.set o (.ow (pre++pA z::rest))) (by rw[cg,oIP rfl]) (by rw[List.getElem?_set_self h1];simp) (by simpa using hlen) (λe he=>ZX e (by simp[he])) Wz;rw[List.length_append,List.length_singleton]at h3;rw[h3];simp only[rm,List.set_set,List.append_assoc,List.singleton_append,List.map_cons]
theorem Hz:∀{c:List (List TV)}{zs:List Int},qy c=some zs->c=zs.map pA:=by
 intro c
 induction c with
 |nil=>intro zs h;simp only[qy,oSJ]at h;subst h;rfl
 |cons e c ih=>
  intro zs h;unfold qy at h;split at h
  ·rename_i h0;cases h0
  ·rename_i z r h0
   injection h0 with h1 h2
   subst h1 h2
   cases h3:qy c with
   |none=>rw[h3]at h;cases h
   |some ys=>
    rw[h3]at h;simp only[oMS,oSJ]at h;subst h;rw[List.map_cons,ih h3];rfl
  ·cases h
theorem Pd{w:World}{F fp:Nat->Prop}{t:TV}{x y:Value}(h:fa w F fp t y)(e:t=.v x):y=x:=by
 cases h<;>cases e;rfl
theorem rU(zs:List Int):rowN zs<=zs.length:=by
 unfold rowN Lib.compact Lib.compactUpTo;rw[List.length_map];exact Nat.le_trans (List.length_filter_le _ _) (by simp)
theorem mt(k:Nat)(zs:List Int):(t6 k zs).length=zs.length:=by
 unfold t6;split
 ·simp
 ·have:=rU zs;unfold rowN at this;simp;omega
theorem th:rowN []=0:=Nat.le_zero.1 (rU [])
theorem Da(k:Nat):t6 k []=[]:=oEN (mt k [])
theorem pW(b:Nat)(vs:List Value):∀(o:Nat)(w:World),(w.setCells b o vs).heap.size=w.heap.size:=by
 induction vs with
 |nil=>intro o w;rfl
 |cons v r ih=>
  intro o w;show((w.setCell ⟨b,o,none⟩ v).setCells b (o+1) r).heap.size=_;rw[ih];simp[World.setCell]
theorem NW{a:Act}{o:Oper}{σ σ':St}{w:World}{G:Gh}{k:Nat}{Zo:FuncId}(hR:KD P k Zo)(hd:∀d,o.dst=some d->M.ok d/\M.pr (2*d+2)=none)(hI:Inv M σ [] [] a.tmps w G){x:Opd}{x':Operand}(hx:bK x'=some x)(hr:((opd x).bind (evRow o.dst k)).run σ=some ((),σ'))
 (ZH:gS P Zo->(execOp a.eval o).run P w=.ok (.enter Zo #[a.eval x']) w):KC P M σ' a o w:=by
 intro K' Q hK;obtain⟨ZG,hn,hc⟩:=hR;obtain⟨t,σ0,h0,hr⟩:=bG hr;obtain⟨rfl,ht⟩:=cr hI.tmr hx h0
 cases t with
 |pk p vs=>
  simp only[evRow]at hr
  obtain⟨j,hxj,Yn,hσj⟩:∃j,x=.t j/\a.eval x'=a.tmps.getD j undef/\σ0.t j=.pk p vs:=by
   cases x' with
   |tmp j=>
    simp only[bK,oSJ]at hx;subst hx;simp only[opd,SP.run,oSJ,oPJ]at h0;exact⟨j,rfl,rfl,h0.1⟩
   |_=>
    exfalso;simp only[bK,oSJ,reduceCtorEq]at hx
    try (subst hx
         simp only[opd,SP.run,oSJ,oPJ]at h0
         have h0:=h0.1
         revert h0
         first|exact(λh0=>by cases h0)|(unfold pt cf;intro h0;split at h0<;>first|cases h0|(split at h0<;>first|cases h0|(split at h0<;>cases h0))))
  rw[Yn]at ht ZH;generalize hxv:a.tmps.getD j undef=x at ht ZH;obtain⟨_,σ1,h1,h2⟩:=bG hr;obtain⟨rfl,Wz⟩:=bU h1;obtain⟨r,off,hops⟩:=p
  cases hops with
  |cons h hs=>simp[SP.run]at h2
  |nil=>
   simp only[SP.run]at h2;split at h2
   case h_2=>simp[SP.run]at h2
   rename_i c Ue;split at h2
   case h_2=>simp[SP.run]at h2
   rename_i zs Y1;have Uz:=Hz Y1;split at h2
   case isFalse=>simp[SP.run]at h2
   rename_i Vz;obtain⟨l,hl,ho,h3⟩:=b8 h2
   cases ht with
   |pk V0 h0 hv h=>
    obtain⟨Z8,c',ZP,ZN⟩:=h Wz
    have ZQ:b7 (σ1.c r off) []=some (.ow c'):=by rw[bW (by exact Z8)]at ZN;exact ZN
    rw[Ue]at ZQ;simp only[b7,oSJ,TV.ow.injEq]at ZQ;subst ZQ
    have VL:l[off]?=some (.ow c):=by
     unfold St.c at Ue;rw[hl]at Ue;rw[oGE ho];simpa[oGD,ho]using Ue
    let σ2:St:={ σ1 with ce:=dp σ1.ce r (l.set off (.ow ((t6 k zs).map pA))) }
    have fin:∀(w2:World)(G2:Gh)(y:Value),Inv M σ2 [] [] a.tmps w2 G2->(∀d,o.dst=some d->(k=1->y=.tuple #[])/\(k≠1->TmR w2 (G2.F M.A) σ2.v (b5 M σ2 []) G2 (.pw ⟨r,off,[]⟩ vs 1 0 (rowN zs)) y))->K' (a.put o.dst y) w2:=by
     intro w2 G2 y Z3 hy;have h3:(rowLand o.dst k ⟨r,off,[]⟩ vs (rowN zs)).run σ2=some ((),σ'):=h3;unfold rowLand at h3
     cases hdst:o.dst with
     |none=>
      rw[hdst]at h3;simp only[SP.run,oSJ,oPJ,true_and]at h3;subst h3;exact hK _ w2 G2 Z3 (gu _ _ _)
     |some d=>
      rw[hdst]at h3;obtain⟨y1,y2⟩:=hy d hdst;simp only at h3;split at h3
      ·rename_i Y9;simp only[wr,SP.run,oSJ,oPJ,true_and]at h3;subst h3;refine hK _ w2 G2 ?_ (gu _ _ _);rw[y1 Y9];exact Z3.wrT (hd d hdst).1 (.tup (by simp) λj hj=>by simp at hj)
      ·rename_i Y9;simp only[wr,SP.run,oSJ,oPJ,true_and]at h3;subst h3;exact hK _ w2 G2 (Z3.wrT (hd d hdst).1 (y2 Y9)) (gu _ _ _)
    have R3:vs=gY σ2.v r off 1:=Wz
    have Wq:((t6 k zs).map pA).length=c.length:=by rw[List.length_map,mt,Uz,List.length_map]
    obtain⟨fp,hown⟩:=nI hI ZP (by rw[bW (by exact Z8)];show b7 (σ1.c r off) []=_;rw[Ue];rfl);have hrun:=ZH ZG;unfold Oper.wp;rw[hrun,Oper.upon_enter];by_cases hz:zs=[]
    ·subst hz;obtain rfl:c=[]:=Uz
     have hx:∃ad,x=.slice ad 0 0:=by
      cases hown with
      |nil=>exact⟨_,rfl⟩
      |ow sz u f hfp hb hsz hcap hz0=>rw[hz0 rfl];exact⟨_,rfl⟩
     obtain⟨ad,rfl⟩:=hx
     have hσ:σ2=σ1:=by
      have e:l.set off (.ow ((t6 k []).map pA))=l:=by
       obtain⟨_,e⟩:=oGS VL;rw[Da,List.map_nil,<- e,List.set_getElem_self]
      show(⟨σ1.tm,dp σ1.ce r (l.set off (.ow ((t6 k []).map pA))),σ1.vr⟩:St)=σ1;rw[e,oq hl]
     refine(hn ad w).mono ?_;rintro e w2 ⟨rfl,rfl⟩;refine fin w2 G _ (by rw[hσ];exact hI) λd WK=>⟨λY9=>by simp[Nk,Y9],λY9=>?_⟩;rw[hσ];simp only[Nk,Y9,if_false];refine .pw V0 h0 hv λQz=>⟨Z8,[],_,ZP,by rw[bW (by exact Z8)];show b7 (σ1.c r off) []=_;rw[Ue];rfl,by rw[th];simp,ad,0,by rw[th],by rw[th];simp,by simp,λ_=>rfl,by simp,λZ4=>absurd Z4 (by simp)⟩
    ·cases hown with
     |nil=>
      exact absurd (List.map_eq_nil_iff.1 Uz.symm) hz
     | @ow _ _ b cap cur e sz' u f hfp hb hsz hcap hz0 hmax hcur hcell hrec hnb hdis=>
      have Zi:c.length=zs.length:=by rw[Uz,List.length_map]
      have RY:sz'=1:=by
       have h0:0<c.length:=by rw[Zi];exact List.length_pos_iff.2 hz
       have:=hsz 0 h0;rw[<- this]
       have e0:c[0]=pA (zs[0]'(by omega)):=by simp[Uz]
       rw[e0];rfl
      subst RY;have WS:b<w.heap.size:=(Array.getElem?_eq_some_iff.1 hb).1
      have ZV:∀j,j<zs.length->w.cell? ⟨b,j,none⟩=some (Fp (zs.getD j 0))/\w.frozen? ⟨b,j,none⟩=false:=by
       intro j hj
       have Wo:j<c.length:=by omega
       have e1:=hcell j 0 Wo (by omega);have e2:=hrec j 0 Wo (by rw[hsz j Wo];omega)
       have e3:c[j]=pA zs[j]:=by simp[Uz]
       have e4:u j 0=Fp (zs.getD j 0):=by
        have e5:(c[j])[0]'(by rw[hsz j Wo];omega)=.v (Fp zs[j]):=by simp only[e3,pA,List.getElem_cons_zero,Fp]
        rw[Pd e2 e5];simp[oGD,hj]
       refine⟨?_,frozen_of_row _ _ _ _ _ hb⟩;rw[cell_of_row w b _ _ _ _ hb,<- e4];simpa using e1
      rw[Zi]at hcap ZP⊢;rw[Zi]at ZH;refine(hc b cap zs w hz Vz hcap hmax WS ZV).mono ?_;rintro ee w2 ⟨rfl,q1,q2,q3,q4,q5⟩;rw[Zi]at hxv
      have RW:=I1 (r:=r) (o:=off) (vs:=vs) (t6 k zs) [] c σ1 l hl (by simpa using VL) (by simpa using Wq.symm) (λe he=>by
       rw[Uz]at he;obtain⟨z,_,rfl⟩:=List.mem_map.1 he
       exact⟨z,rfl⟩) Wz
      obtain⟨G3,Yl,_⟩:=NO (j:=j) (b:=b) (n:=zs.length) (cap:=cap) hxv (t6 k zs) 0 hI hσj (by rw[mt];omega) RW;have Yl:Inv M σ2 [] [] a.tmps (w.setCells b 0 ((t6 k zs).map Fp)) G3:=Yl;have Y6:=pX b ((t6 k zs).map Fp) 0 w;have WQ:=(Yl.grow (w':=w2) (λm hm=>by rw[pW]at hm;exact q5 m hm) (by rw[pW];exact q4) (by rw[Y6];exact q1) (by rw[Y6];exact q2) (by rw[Y6];exact q3)).1;refine fin w2 G3 _ WQ λd WK=>⟨λY9=>by simp[Nk,Y9],λY9=>?_⟩;simp only[Nk,Y9,if_false];have Qu:=WQ.tmr j;rw[show σ2.t j=.pk ⟨r,off,[]⟩ vs from hσj,hxv]at Qu
      cases Qu with
      |pk V1 g0 gv g=>
       obtain⟨_,c2,k1,k2⟩:=g R3
       have k3:c2=(t6 k zs).map pA:=by
        rw[bW (by exact Z8)]at k2
        have e:σ2.c r off=.ow ((t6 k zs).map pA):=by
         show(match b9 (dp σ1.ce r _) r with|some l=>l.getD off .dead|none=>.dead)=_;rw[cg,oIP rfl];simp[oGD,ho]
        simp only[e,b7,oSJ,TV.ow.injEq]at k2;exact k2.symm
       have hN:=rU zs;exact .pw V1 g0 gv λ_=>⟨Z8,c2,_,k1,k2,by rw[k3,List.length_map,mt];omega,some ⟨b,0,none⟩,cap,rfl,⟨by omega,by rw[k3,List.length_map,mt];omega⟩,hmax,(λh=>by cases h),(λi hi=>by subst k3;simp[pA]),λ_=>⟨b,zs.length,cap,rfl,rfl⟩⟩
 |_=>simp[evRow,SP.run]at hr
theorem N5(j:Nat):oct j=8*j:=by
 show j+j+(j+j)+(j+j+(j+j))=8*j;omega
theorem Mj{a:Act}{o:Oper}{σ σ':St}{w:World}{G:Gh}{Zo:FuncId}(hR:IL P Zo)(hd:∀d,o.dst=some d->M.ok d/\M.pr (2*d+2)=none)(hI:Inv M σ [] [] a.tmps w G){x y:Opd}{x' y':Operand}(hx:bK x'=some x)(hy:bK y'=some y){t:TV}(h0:(opd x).run σ=some (t,σ))(hr:((opd y).bind (evPart o.dst t)).run σ=some ((),σ'))
 (ZH:gS P Zo->(execOp a.eval o).run P w=.ok (.enter Zo #[a.eval x',a.eval y']) w):KC P M σ' a o w:=by
 intro K' Q hK;obtain⟨ZG,hc⟩:=hR;obtain⟨_,ht⟩:=cr hI.tmr hx h0;obtain⟨ti,σ1,h1,hp⟩:=bG hr;clear hr;obtain⟨rfl,SH⟩:=cr hI.tmr hy h1;unfold evPart at hp;split at hp
 case h_2=>simp[SP.run]at hp
 rename_i i;obtain⟨n,σ2,h3,hp2⟩:=bG hp;clear hp;obtain⟨rfl,hlen⟩:=qm (F:=G.F M.A) hI ht h3;obtain⟨j,σ3,h4,hp⟩:=bG hp2;clear hp2;obtain⟨_,i2,e,i0,rfl,rfl⟩:=ja h4
 injection e with e
 injection e with _ e
 subst e;obtain⟨j,rfl⟩:=Int.eq_ofNat_of_zero_le i0;rw[oTN,N5]at hp;split at hp
 case isFalse=>simp[SP.run]at hp
 rename_i c1;split at hp
 case isFalse=>simp[SP.run]at hp
 rename_i c2;split at hp
 case isFalse=>simp[SP.run]at hp
 rename_i c3;split at hp
 case h_2=>simp[SP.run]at hp
 rename_i d hdst
 have hyv:a.eval y'=.int .i64 j:=by
  generalize a.eval y'=z at SH
  cases SH with
  |v _=>rfl
 rw[hyv]at ZH;split at hp
 case h_2=>simp[SP.run]at hp
 rename_i p vs;obtain⟨tt,σ5,h9,ZS⟩:=bG hp;obtain⟨e3,hg⟩:=cX h9;have e3:σ5=σ3:=e3;subst e3;simp only[jq]at h3;obtain⟨_,σ6,q1,q2⟩:=bG h3;have e1:σ6=σ5:=(bU q1).1;have e2:=(bU q1).2;subst e1;rw[tz]at q2;obtain⟨Sp,σ7,q3,q4⟩:=bG q2;obtain⟨e4,ZL⟩:=cX q3;generalize hz:a.eval x'=z at ht ZH;have UV:=ht
 cases ht with
 |pk V0 h0 hv hok=>
  obtain⟨Z8,c,ZP,ZN⟩:=hok e2
  have ZQ:b7 (σ6.c p.root p.off) p.hops=some (.ow c):=by rw[bW (by exact Z8)]at ZN;exact ZN
  rw[ZQ]at hg ZL
  injection hg with hg
  injection ZL with ZL
  subst hg;have ZL:TV.ow c=Sp:=ZL;subst ZL;simp only[TV.hd,SP.run,List.length_map,oSJ,oPJ]at q4;have hn:n=c.length:=q4.1.symm;subst hn;simp only at ZS;split at ZS
  case isFalse=>simp[SP.run]at ZS
  rename_i ZX;simp only[List.all_eq_true,beq_iff_eq]at ZX;obtain⟨fp,hown⟩:=nI hI ZP ZN
  cases hown with
  |nil=>simp at c2
  | @ow _ _ b cap cur e sz' u f hfp hb hsz hcap hz0 hmax hcur hcell hrec hnb hdis=>
   unfold Oper.wp;rw[ZH ZG,Oper.upon_enter];refine(hc b 0 c.length cap j w (by omega) c2 hcap (by omega)).mono ?_;rintro e w2 ⟨rfl,rfl⟩;simp only[wr,SP.run,oSJ,oPJ,true_and]at ZS;subst ZS;refine hK _ w2 G ?_ (gu _ _ _);rw[hdst];refine hI.wrT (hd d hdst).1 ?_;have m1:Nat.min 8 (Nat.sub c.length (8*j))=min 8 (c.length-8*j):=rfl;rw[m1];exact .pw V0 h0 hv λ_=>⟨Z8,c,_,ZP,ZN,by omega,some ⟨b,0+8*j*4,none⟩,cap-8*j,rfl,⟨by omega,by omega⟩,by omega,(λh=>by cases h),λi hi=>ZX _ (List.getElem_mem hi),λ_=>⟨b,c.length,cap,rfl,by simp⟩⟩
end
section
variable {P:Program} {M:Fm} {σ σ':St} {H:List TV} {xs:List Value} {ts:Array Value} {w:World} {G:Gh} {a:Act} {o:Oper}
theorem Bv:∀{q:List (GP×List TV)}{σ σ':St},(putBack q).run σ=some ((),σ')->∀x∈q,x.2.length=x.1.cells.length:=by
 intro q
 induction q with
 |nil=>simp_all
 |cons y q ih=>
  intro σ σ' h x hx;have ⟨_,σ1,h1,h2⟩:=bG h;split at h2
  ·rename_i YC;rcases List.mem_cons.1 hx with rfl|hx
   ·simp_all
   ·exact ih h1 x hx
  ·simp[SP.run]at h2
theorem rZ.nodup{i:Nat}{vals:List TV}{asq us:List Value}{K:List (GP×Addr)}(h:rZ w i vals asq K us):la (K.map λx=>x.1.i)=true/\∀x∈K,i<=x.1.i:=by
 induction h with
 |nil=>exact⟨rfl,λx hx=>by simp_all⟩
 |ptr hr hb hs h0 hh hu hc hok h ih=>
  refine⟨?_,λx hx=>?_⟩
  ·simp only[List.map_cons,la,oBA,Bool.not_eq_true',List.contains_eq_mem,decide_eq_false_iff_not];refine⟨λhm=>?_,ih.1⟩;have ⟨y,hy,e⟩:=List.mem_map.1 hm;have:=ih.2 y hy;omega
  ·rcases List.mem_cons.1 hx with rfl|hx
   ·simp_all
   ·have:=ih.2 x hx;omega
 |arg ha h ih=>exact⟨ih.1,λx hx=>by have:=ih.2 x hx;omega⟩
 |own h ih=>exact⟨ih.1,λx hx=>by have:=ih.2 x hx;omega⟩
theorem Mf{K:List (GP×Addr)}(Zu:la (K.map λx=>x.1.i)=true):∀x∈K,prK K (2*x.1.i+2)=some (x.2.block,x.2.off,x.1.cells.length):=by
 induction K with
 |nil=>simp_all
 |cons y K ih=>
  intro x hx;simp only[List.map_cons,la,oBA,Bool.not_eq_true',List.contains_eq_mem,decide_eq_false_iff_not]at Zu;simp[prK];rcases List.mem_cons.1 hx with rfl|hx
  ·simp
  ·rw[oIN]
   ·exact ih Zu.2 x hx
   ·intro e;exact Zu.1 (List.mem_map.2 ⟨x,hx,by omega⟩)
theorem DA{α β:Type}{K:List (GP×Addr)}{f:GP×Addr->List α}{g:GP×Addr->List β}(h:∀x∈K,(f x).length=(g x).length):(K.flatMap f).length=(K.flatMap g).length:=by
 induction K with
 |nil=>rfl
 |cons x K ih=>simp_all
theorem yX{α β:Type}:∀{a:List α}{b c:List β},a.length<=b.length->a.zip (b++c)=a.zip b:=by
 intro a
 induction a with
 |nil=>simp_all
 |cons x a ih=>
  intro b c h
  cases b with
  |nil=>simp at h
  |cons y b=>simp_all
def rl(σ:St)(x:GP×Addr):List TV:=(b9 σ.ce (2*x.1.i+2)).getD []
def wb(σ:St)(G:Gh)(w:World)(x:GP×Addr):List Value:=(List.range (rl σ x).length).map (G.val w (2*x.1.i+2))
def IP(σ:St)(ow:List (Nat×TV)):List TV:=ow.map λx=>σ.c (2*x.1+3) 0
def Fo(w:World)(G:Gh)(ow:List (Nat×TV)):List Value:=ow.map λx=>G.val w (2*x.1+3) 0
def rtK(K:List (GP×Addr))(ow:List (Nat×TV))(r:Nat):Option Nat:=match prK K r with
 |some x=>some x.2.2
 |none=>(owK ow r).map λ_=>1
def bsR(n:Nat)(K:List (GP×Addr))(ow:List (Nat×TV))(r:Nat):Nat:=match prK K r with
 |some _=>n+ow.length+bsK K r
 |none=>n+(owK ow r).getD 0
theorem rZ.hands2{vals:List TV}{asq us:List Value}{K:List (GP×Addr)}{ow:List (Nat×TV)}{l0:List (Option Nat×TV)}{zs:List Value}{N:Nat}{kp:Nat->Option Value}{σ2:St}{res ys:_}{ts2:Array Value}{w2:World}{G2:Gh}(h:rZ w 0 vals asq K us)(UR:Fl 0 l0 asq ow zs)(Z4:∀x∈K,0<x.1.cells.length)
 (h2:Inv (M.into w G (prK K) N kp) σ2 res ys ts2 w2 G2)(hlen:∀x∈K,(rl σ2 x).length=x.1.cells.length):
 Lj res ys (res++IP σ2 ow++K.flatMap (rl σ2)) (ys++Fo w2 G2 ow++K.flatMap (wb σ2 G2 w2)) (b5 (M.into w G (prK K) N kp) σ2 res) G2 w2 (rtK K ow) (bsR res.length K ow):=by
 have Qf:∀x∈K,(wb σ2 G2 w2 x).length=x.1.cells.length:=λx hx=>by simp[wb,hlen x hx]
 have Vi:(IP σ2 ow).length=ow.length:=by simp[IP]
 have SE:(Fo w2 G2 ow).length=ow.length:=by simp[Fo]
 have hand:=h2.hand
 have Vr:∀{r b o n:Nat},prK K r=some (b,o,n)->∃m,r=2*m+2:=λhp=>by
  obtain⟨x,_,x2,_⟩:=iE hp;exact⟨_,x2⟩
 have X0:∀{r j:Nat},owK ow r=some j->∃h:j<ow.length,r=2*ow[j].1+3:=λhp=>by
  obtain⟨h1,h2,_⟩:=mu hp;exact⟨h1,h2⟩
 have split:∀{r n:Nat},rtK K ow r=some n->(∃b o,prK K r=some (b,o,n)/\bsR res.length K ow r=res.length+ow.length+bsK K r)\/(prK K r=none/\n=1/\∃j,owK ow r=some j/\bsR res.length K ow r=res.length+j):=by
  intro r n hr;unfold rtK at hr;unfold bsR
  cases hp:prK K r with
  |some x=>
   obtain⟨b,o,m⟩:=x;rw[hp]at hr
   injection hr with hr
   subst hr;exact .inl ⟨b,o,rfl,rfl⟩
  |none=>
   rw[hp]at hr
   cases ho:owK ow r with
   |none=>rw[ho]at hr;simp at hr
   |some j=>
    rw[ho]at hr;simp only[oMS,oSJ]at hr;exact .inr ⟨rfl,hr.symm,j,rfl,rfl⟩
 refine⟨?_,λj hj=>⟨by simp;omega,?_,?_⟩,λr n hr=>?_,λj hj=>?_,λr n r' n' hr X7 j j' hj ZY e=>?_⟩
 ·rw[List.length_append,List.length_append,List.length_append,List.length_append,h2.hand,Vi,SE,DA (f:=rl σ2) (g:=wb σ2 G2 w2) λx hx=>by rw[hlen x hx,Qf x hx]]
 ·rw[List.getElem_append_left (by simp;omega),List.getElem_append_left hj]
 ·rw[oGD,oGD,List.getElem?_append_left (by simp;omega),List.getElem?_append_left (by rw[<- h2.hand];exact hj)]
 ·rcases split hr with⟨b,o,hp,hb⟩|⟨_,rfl,j,ho,hb⟩
  ·obtain⟨m,hm⟩:=Vr hp;refine⟨by omega,λt ht=>?_⟩;rw[hb];obtain⟨x,x1,x2,x3,x4,x5,x6,x7⟩:=Ar hlen hp;obtain⟨y,y1,y2,y3,y4,y5,y6,y7⟩:=Ar Qf hp;have Ul:x=y:=rF h.nodup.1 x1 y1 (by omega);subst Ul
   have VW:t<(rl σ2 x).length:=by rw[hlen x x1];omega
   have e1:=x7 t ht;rw[oGE VW]at e1;obtain⟨k1,k2⟩:=oGS e1;refine⟨by rw[List.length_append,List.length_append,Vi];omega,by omega,?_,?_⟩
   ·have e2:(res++IP σ2 ow++K.flatMap (rl σ2))[res.length+ow.length+bsK K r+t]'(by rw[List.length_append,List.length_append,Vi];omega)=(K.flatMap (rl σ2))[bsK K r+t]:=by
     rw[List.getElem_append_right (by rw[List.length_append,Vi];omega)];congr 1;rw[List.length_append,Vi];omega
    rw[e2,k2]
    rw[bW (by have:r≠1:=by omega
              exact this)]
    unfold St.c
    have PX:rl σ2 x=(b9 σ2.ce r).getD []:=by rw[x2];rfl
    cases ha:b9 σ2.ce r with
    |none=>rw[PX,ha]at VW;simp at VW
    |some l=>
     simp only[PX,ha,Option.getD_some]at VW⊢;simp[VW]
   ·have e3:=y7 t ht;rw[oGD,List.getElem?_append_right (by rw[List.length_append,SE,<- h2.hand];omega)];rw[show res.length+ow.length+bsK K r+t-(ys++Fo w2 G2 ow).length=bsK K r+t by rw[List.length_append,SE,<- h2.hand];omega];rw[e3,x2];simp[wb,VW]
  ·obtain⟨hj,UU⟩:=X0 ho;refine⟨by omega,λt ht=>?_⟩
   obtain rfl:t=0:=by omega
   rw[hb,Nat.add_zero];refine⟨by rw[List.length_append,List.length_append,Vi];omega,by omega,?_,?_⟩
   ·rw[List.getElem_append_left (by rw[List.length_append,Vi];omega),List.getElem_append_right (by omega)]
    rw[bW (by have:r≠1:=by omega
              exact this)]
    simp[IP,UU]
   ·rw[oGD,List.getElem?_append_left (by rw[List.length_append,SE,<- h2.hand];omega),List.getElem?_append_right (by rw[<- h2.hand];omega),<- h2.hand];simp[Fo,UU,hj]
 ·by_cases hj1:j<res.length
  ·exact .inl hj1
  ·right;have hc:(K.flatMap (rl σ2)).length=(iK K).length:=DA hlen;rw[List.length_append,List.length_append,Vi]at hj;by_cases hj2:j<res.length+ow.length
   ·obtain⟨k1,_,_⟩:=UR.ix (j-res.length) (by omega)
    have SF:prK K (2*(ow[j-res.length]'(by omega)).1+3)=none:=by
     cases hp:prK K (2*(ow[j-res.length]'(by omega)).1+3)with
     |none=>rfl
     |some x=>obtain⟨b,o,n⟩:=x;obtain⟨m,hm⟩:=Vr hp;omega
    refine⟨2*(ow[j-res.length]'(by omega)).1+3,1,0,?_,by omega,?_⟩
    ·unfold rtK;rw[SF,k1];rfl
    ·unfold bsR;rw[SF,k1];simp only[Option.getD_some];omega
   ·obtain⟨r,b,o,n,t,c1,c2,c3⟩:=OB h.nodup.1 (j:=j-res.length-ow.length) (by omega);refine⟨r,n,t,?_,c2,?_⟩
    ·unfold rtK;rw[c1]
    ·unfold bsR;rw[c1];simp only;omega
 ·rcases split hr with⟨b,o,hp,hb⟩|⟨_,rfl,m,ho,hb⟩
  ·rcases split X7 with⟨b',o',hp',Zx⟩|⟨_,rfl,m',Zj,Zx⟩
   ·rw[hb,Zx]at e;exact Lf _ _ _ _ _ _ _ _ hp hp' j j' hj ZY (by omega)
   ·obtain⟨h3,_⟩:=X0 Zj;omega
  ·rcases split X7 with⟨b',o',hp',Zx⟩|⟨_,rfl,m',Zj,Zx⟩
   ·obtain⟨h3,_⟩:=X0 ho;omega
   ·obtain⟨h3,h4⟩:=X0 ho;obtain⟨h5,h6⟩:=X0 Zj
    have:m=m':=by omega
    subst this;rw[h4,h6]
theorem GL:∀{l:List TV}{p:bS}{σ σ':St},p.hops=[]->(putL p l).run σ=some ((),σ')->(∀o,o<p.off->σ'.c p.root o=σ.c p.root o)/\∀t (h:t<l.length),σ'.c p.root (p.off+t)=l[t]:=by
 intro l
 induction l with
 |nil=>
  intro p σ σ' _ h;simp only[putL,SP.run,oSJ,oPJ,true_and]at h
  simp_all
 |cons y l ih=>
  intro p σ σ' hp h;obtain⟨r,off,hops⟩:=p;simp only at hp;subst hp;simp only[putL]at h;obtain⟨_,σ1,h1,h2⟩:=bG h
  have Zt:(∀o,o≠off->σ1.c r o=σ.c r o)/\σ1.c r off=y:=by
   obtain⟨old,l1,vr,hg,hl,ho,hσ1,_⟩:=Dc h1;subst hσ1;refine⟨λo hne=>?_,?_⟩
   ·simp only[St.c,cg,if_true,hl];simp[List.getElem?_set,Ne.symm hne]
   ·simp only[St.c,cg,if_true];simp[eE,List.getElem?_set,ho]
  cases l with
  |nil=>
   simp only[SP.run,oSJ,oPJ,true_and]at h2;subst h2;refine⟨λo ho=>Zt.1 o (by simp only at ho;omega),λt ht=>?_⟩
   have:t=0:=by simp at ht;omega
   subst this;exact Zt.2
  |cons y2 l=>
   have X4:(⟨r,off,[]⟩:bS).add 1=⟨r,off+1,[]⟩:=rfl;rw[X4]at h2;obtain⟨k1,k2⟩:=ih (p:=⟨r,off+1,[]⟩) rfl h2;refine⟨λo ho=>?_,λt ht=>?_⟩
   ·simp only at ho;exact(k1 o (by show o<off+1;omega)).trans (Zt.1 o (by omega))
   ·cases t with
    |zero=>simp_all
    |succ t=>
     have:=k2 t (by simpa using ht);rw[show off+(t+1)=off+1+t by omega];simpa using this
theorem zA{x:GP×Addr}{f:GP×Addr->List TV}(hx:x.1.p.hops=[])(h:(putBack ([x].map λx=>(x.1,f x))).run σ=some ((),σ')):∀t,t<(f x).length->σ'.c x.1.p.root (x.1.p.off+t)=(f x).getD t .dead:=by
 intro t ht;have ⟨_,σ1,h1,h2⟩:=bG h;split at h2
 ·rw[(GL hx h2).2 t ht];simp[ht]
 ·simp[SP.run]at h2
set_option maxHeartbeats 1000000 in
theorem DR{F:cI}(hF:dF P F){asq:List Value}{vals:List TV}{ns:List (Option Nat)}{Zo:FuncId}{σ1:St}{G1:Gh}(hd:∀d,o.dst=some d->M.ok d/\M.pr (2*d+2)=none)(hI1:Inv M σ1 [] [] a.tmps w G1)(hns:ns.length=vals.length)(hal:asq.length=vals.length)
 (Xu:∀j (h:j<vals.length)(h':j<asq.length),TmR w (G1.F M.A) σ1.v (b5 M σ1 []) G1 vals[j] asq[j])(h2:(callV F o.dst Zo ns vals).run σ1=some ((),σ'))(ZH:gS P Zo->(execOp a.eval o).run P w=.ok (.enter Zo asq.toArray) w):KC P M σ' a o w:=by
 intro K' Q hK;unfold callV at h2;obtain⟨_,σL,h3L,h2L⟩:=bG h2;clear h2
 have TY:(ns.zip vals).length=vals.length:=by simp[hns]
 obtain⟨eL,Tm⟩:=EG hI1 (asq:=asq) (by omega) (λj h h'=>by
  have hj:j<vals.length:=by rw[<- TY];exact h
  have:=Xu j hj h'
  simpa using this) h3L
 subst eL;obtain⟨ow,σ0,E',h2⟩:=bG h2L;obtain⟨q,σ2,h3,h4⟩:=bG h2;obtain⟨Z,hZ⟩:∃Z,Z=(ns.zip vals).map normA:=⟨_,rfl⟩;rw[<- hZ]at E' h3
 have hn2:∀x:Option Nat×TV,(normA x).2=x.2:=λx=>by
  obtain⟨n,t⟩:=x
  cases n with
  |none=>rfl
  |some n=>cases t<;>rfl
 have W4:Z.length=vals.length:=by rw[hZ,List.length_map];exact TY
 have hz2:Z.map (·.2)=vals:=by
  rw[hZ,List.map_map,show((·.2) ∘ normA:Option Nat×TV->TV)=(·.2)from funext hn2,List.map_snd_zip];omega
 have QD:∀j (h:j<Z.length)(h':j<vals.length),Z[j].2=vals[j]:=λj h h'=>by
  have:(Z.map (·.2))[j]'(by simpa using h)=vals[j]:=by simp only[hz2]
  simpa using this
 have QE:∀{σ1:St}{H1:List TV}{G1:Gh},(∀j (h:j<vals.length)(h':j<asq.length),TmR w (G1.F M.A) σ1.v (b5 M σ1 H1) G1 vals[j] asq[j])->∀j (h:j<Z.length)(h':j<asq.length),TmR w (G1.F M.A) σ1.v (b5 M σ1 H1) G1 Z[j].2 asq[j]:=λh j h1 h2=>by
  have hj:j<vals.length:=by rw[<- W4];exact h1
  rw[QD j h1 hj];exact h j hj h2
 obtain⟨zs,G0,VF,UR,Tv⟩:=A6 hI1 (by omega) (QE Xu) E';obtain⟨us,G2,K,Rp,V7,hrel,TO⟩:=Ka (asq:=asq) VF.1 (by omega) (QE λj h h'=>VF.tm (Xu j h h')) h3;have Xr:=J9 h3;have ZL:=VF.trans Rp;rw[hz2]at hrel;obtain⟨_,σ3,h5,h6⟩:=bG h4
 have U6:([]:List TV)++ow.map (·.2)++q.flatMap (·.cells)=ow.map (·.2)++iK K:=by rw[<- V7];simp[iK,List.flatMap_map]
 rw[U6,List.nil_append]at ZL;rw[U6]at TO;have hz:zs.length=ow.length:=UR.facts.1
 have RS:∀j p vs,vals[j]?=some (.pk p vs)->∃x∈ow,x.1=j:=λj p vs hj=>by
  obtain⟨hjl,hje⟩:=oGS hj
  have Qa:j<Z.length:=by omega
  have R9:Z[j]?=some (Z[j].1,.pk p vs):=by
   rw[oGE Qa,<- hje,<- QD j Qa hjl]
  have hn:=Xr j _ p vs R9;rw[hn]at R9;obtain⟨x,h7,h8⟩:=Tv j p vs R9;exact⟨x,h7,by omega⟩
 obtain⟨rfl,hre⟩:=Jx ZL.1 h5;split at h6
 case isFalse=>simp[SP.run]at h6
 rename_i YC;simp only[oBA,List.all_eq_true,oDE]at YC;obtain⟨Zu,Z4⟩:=YC;have Xf:∀x∈K,0<x.1.cells.length:=λx hx=>Z4 x.1 (by rw[<- V7];exact List.mem_map_of_mem hx)
 have YW:∀j (h:j<vals.length)(h':j<asq.length),TmR w (G2.F M.A) σ3.v (b5 M σ3 (ow.map (·.2)++iK K)) G2 vals[j] asq[j]:=λj h h'=>by
  have:=ZL.tm (Xu j h (by omega));simpa using this
 have Xa:∀x∈K,x.1.p.root≠1/\G2.addr w x.1.p=some x.2/\(∃t,b7 (b5 M σ3 (ow.map (·.2)++iK K) x.1.p.root x.1.p.off) x.1.p.hops=some t)/\((∃o n,G2.β x.1.p.root=some (x.2.block,o,n))\/G2.φ x.1.p.root x.1.p.off x.2.block):=λx hx=>by
  obtain⟨r1,ad,r2,r3,_,r4,r5⟩:=hre x.1 (by rw[<- V7];exact List.mem_map_of_mem hx) _ (TO x hx)
  injection r2 with r2
  injection r2 with r2
  subst r2;exact⟨r1,r3,r4,r5⟩
 have hh:=hrel.hands ZL.1 UR (by rw[V7];exact Zu) Xf λx hx=>⟨(Xa x hx).1,(Xa x hx).2.2.2⟩;obtain⟨r,σ4,h7,h8⟩:=bG h6
 have Xi:F Zo (argTs 0 vals) (q.map (λg=>(2*g.i+2,g.cells))++ow.map λx=>(2*x.1+3,[x.2]))=some r/\σ4=σ3:=by
  cases hq:F Zo (argTs 0 vals) (q.map (λg=>(2*g.i+2,g.cells))++ow.map λx=>(2*x.1+3,[x.2]))with
  |none=>rw[hq]at h7;simp[ig,SP.run]at h7
  |some r'=>
   rw[hq]at h7;simp only[ig,SP.run,oSJ,oPJ]at h7;exact⟨by rw[h7.1],h7.2.symm⟩
 obtain⟨Xi,rfl⟩:=Xi;obtain⟨res,ZJ⟩:=r;simp only at h8;split at h8
 case isFalse=>simp[SP.run]at h8
 rename_i VC;simp only[oBA,oDE]at VC;obtain⟨_,σ5,h9,ZS⟩:=bG h8;obtain⟨_,σ6,Wb,SO⟩:=bG ZS;clear ZS;have ZS:=SO;clear SO;obtain⟨ZG,N,ks,hN,Wg⟩:=hF Zo _ _ _ _ Xi;rw[AU]at hN
 let kp:Nat->Option Value:=λi=>if ks.contains i=true/\(owK ow (2*i+3)).isSome=true then asq[i]? else none
 have hkp:∀i v,kp i=some v->(∃y∈ow,y.1=i)/\asq[i]?=some v:=λi v hv=>by
  simp only[kp]at hv;split at hv
  ·rename_i hc;obtain⟨j,hj⟩:=Option.isSome_iff_exists.1 hc.2;obtain⟨h1,h2,_⟩:=mu hj;exact⟨⟨ow[j],List.getElem_mem h1,by omega⟩,hv⟩
  ·cases hv
 have VP:(q.map (λg=>(2*g.i+2,g.cells))++ow.map λx=>(2*x.1+3,[x.2]))=ceK K++ceO ow:=by rw[<- V7];simp[ceK,ceO]
 have hin:=hrel.enter ZL.1 UR RS hh YW (N:=N) (by omega) (kp:=kp) hkp
 have Uy:=Wg (M.into w G2 (prK K) N kp) asq w (G2.into (prK K) (λr=>ow.length+bsK K r) (owK ow) (zs++us)) (by rw[AU];exact hal) rfl rfl (λr hr=>by
  have hr:prK K r≠none:=hr
  cases hp:prK K r with
  |none=>exact absurd hp hr
  |some y=>
   obtain⟨b,o,n⟩:=y;obtain⟨x,x1,x2,_⟩:=iE hp;obtain⟨_,_,p,vs,s1⟩:=hrel.slot x x1;refine⟨x.1.i,⟨2*x.1.i+2,0,p.hops⟩,List.replicate (p.hops.length+1) 0,?_,x2⟩;rw[AV];have s1:vals[x.1.i]?=some (.ptr p vs):=s1;rw[s1]
   simp[argT]) (λi hi=>by
  have hi:kp i≠none:=hi;simp only[kp]at hi;split at hi
  ·rename_i hc;simpa using hc.1
  ·exact absurd rfl hi) (by rw[VP];exact hin)
 have hrun:=ZH ZG;unfold Oper.wp;rw[hrun,Oper.upon_enter];refine Uy.mono λe w2 ⟨v,σc,he,Yt,Wv⟩=>?_;subst he;simp only
 have R8:q.zip (ZJ.map (·.2))=K.map λx=>(x.1,rl σc x):=by
  rw[Wv,VP,<- V7];simp only[ceK,List.map_append,List.map_map,List.append_assoc];rw[yX (by simp),List.zip_map'];rfl
 rw[R8]at h9;have Xc:∀x∈K,(rl σc x).length=x.1.cells.length:=λx hx=>Bv h9 _ (List.mem_map.2 ⟨x,hx,rfl⟩);have Zy:=Mf hrel.nodup.1
 have hlt:∀x∈K,x.2.block<w.heap.size:=λx hx=>by
  obtain⟨cur,e,fz,hb,_⟩:=oM (hh.here _ _ _ _ (Zy x hx) 0 (Xf x hx)).1;exact(Array.getElem?_eq_some_iff.1 hb).1
 have VI:∀x∈K,∀y∈K,x.2.block=y.2.block->x=y:=λx hx y hy e=>by
  have h1:=Zy x hx;have h2:=Zy y hy;rw[<- e]at h2;have:=hh.inj _ _ _ _ _ _ _ h1 h2;exact rF hrel.nodup.1 hx hy (by omega)
 have back:∀{Hc:List TV}{ys:List Value}{ts2:Array Value}{Gc:Gh},Inv (M.into w G2 (prK K) N kp) σc Hc ys ts2 w2 Gc->∃G4,Inv M σ5 (Hc++IP σc ow) (ys++Fo w2 Gc ow) a.tmps w2 G4/\G4.β=G2.β:=by
  intro Hc ys ts2 Gc XB;have hH2:=hrel.hands2 (M:=M) (G:=G2) (N:=N) UR Xf XB Xc;have hsz:w.heap.size<=w2.heap.size:=XB.fram.size
  obtain⟨G3,Yl,hm3,hβ3⟩:=ZL.1.leave hh XB hH2 (w':=RWs w K w2) KE yT.1 yT.2.1 yT.2.2 (λk hk=>ON λx hx=>hk _ _ _ _ (Zy x hx)) (λr b o n hp=>by
   obtain⟨x,x1,x2,x3,_⟩:=iE hp;rw[x3]
   exact OO (hlt x x1) (Nat.lt_of_lt_of_le (hlt x x1) hsz) ⟨x,x1,rfl⟩)
  obtain⟨G4,WQ,htm4,hm4,hβ4⟩:=Es (w:=w) (f:=rl σc) (v:=wb σc Gc w2) (λx=>by simp[wb]) (K:=K) (W:=w2) (H0:=Hc++IP σc ow) (x0:=ys++Fo w2 Gc ow) (by rw[List.length_append,List.length_append,XB.hand];simp[IP,Fo]) Yl (λx hx=>by
   have hp:=Zy x hx;obtain⟨hβ,cur0,cur,e,fz,p1,p2,p3,p4⟩:=XB.fram.par _ _ _ _ hp
   have UX:(wb σc Gc w2 x).length=x.1.cells.length:=by simp[wb,Xc x hx]
   refine⟨cur0,cur,e,fz,p1,p2,p3,λj hj=>p4 j (by rw[UX]at hj;exact hj),λj hj=>?_⟩;have hcb:=XB.core.boxcell hβ (o:=j) (by omega);obtain⟨YB,e',fz',c1,c2,c3⟩:=oM hcb;rw[p2]at c1
   injection c1 with c1
   injection c1 with c1 _ _
   subst c1;rw[c3]
   simp[wb]) (λx hx e=>by have h1:=Xc x hx;have h2:=Xf x hx;rw[e,List.length_nil]at h1;omega) VI (by rw[<- V7]at Zu;simpa[Function.comp_def]using Zu) (λx hx=>by
   obtain⟨r1,r2,⟨t,r3⟩,_⟩:=Xa x hx;obtain⟨t',k1,k2⟩:=hm3.keeps.ptr x.1.p x.2 t r1 rfl r2 r3
   exact⟨r1,k1,t',k2⟩) h9
  exact⟨G4,WQ,hβ4.trans hβ3⟩
 have hown:∀{Hc:List TV}{ys:List Value}{ts2:Array Value}{Gc:Gh},Inv (M.into w G2 (prK K) N kp) σc Hc ys ts2 w2 Gc->∃G5,Inv M σ6 Hc ys a.tmps w2 G5/\G5.β=G2.β/\(ow=[]->σ6=σ5):=by
  intro Hc ys ts2 Gc XB;obtain⟨G4,WQ,hβ4⟩:=back XB
  have SG:q.length=K.length:=by rw[<- V7,List.length_map]
  have Uj:(ZJ.drop q.length).map (·.2)=(ow.map λ(x:Nat×TV)=>(b9 σc.ce (2*x.1+3)).getD [])++ks.map λ_=>([]:List TV):=by
   rw[Wv,VP,SG];simp only[List.map_append,ceK,List.map_map];rw[List.append_assoc,List.drop_append_of_le_length (by simp),List.drop_of_length_le (by simp),List.nil_append,List.map_append];simp only[ceO,List.map_map];rfl
  rw[Uj]at Wb
  have RC:(ZJ.drop (q.length+ow.length)).map (·.1)=ks.map λm=>1000000+m:=by
   rw[Wv,VP,SG];simp only[List.map_append,ceK,ceO,List.map_map];rw[List.drop_append_of_le_length (by simp),List.drop_of_length_le (by simp),List.nil_append,List.map_map];rfl
  rw[RC]at Wb
  have htk:(((ow.map λ(x:Nat×TV)=>(b9 σc.ce (2*x.1+3)).getD [])++ks.map λ_=>([]:List TV)).take ow.length).map (λ(l:List TV)=>l.getD 0 .dead)=IP σc ow:=by
   rw[List.take_append_of_le_length (by simp),List.take_of_length_le (by simp),List.map_map];unfold IP;refine List.map_congr_left λx _=>?_;show((b9 σc.ce (2*x.1+3)).getD []).getD 0 .dead=σc.c (2*x.1+3) 0;unfold St.c;cases b9 σc.ce (2*x.1+3)<;>rfl
  obtain⟨G5,W8,hβ5⟩:=B3 (M:=M) (ts:=a.tmps) (xv:=Fo w2 Gc ow) (by simp[Fo]) (λj hj k hk hm hne=>by
   obtain⟨x1,x2,_⟩:=UR.ix j hj;obtain⟨y,y1,y2,y3⟩:=Tm _ _ hk
   have hmk:ks.contains ow[j].1=true:=by
    obtain⟨m,SB,hm2⟩:=List.mem_map.1 hm
    have:m=ow[j].1:=by omega
    subst this;simpa using SB
   have RE:kp ow[j].1=some y:=by
    simp only[kp];rw[oIP ⟨hmk,by rw[x1];rfl⟩,y1]
   have hη:=XB.kept _ _ hne RE
   have hv:(Fo w2 Gc ow).getD j undef=y:=by
    unfold Fo;simp only[oGD,List.getElem?_map,oGE hj,oMS,Option.getD_some];unfold Gh.val;rw[XB.odd_none];exact hη
   rw[hv]
   exact⟨y2,y3⟩) (by rw[htk];exact WQ) Wb
  refine⟨G5,W8,hβ5.trans hβ4,λh=>?_⟩;subst h;simp only[giveBack,SP.run,oSJ,oPJ,true_and]at Wb;exact Wb.symm
 rcases Yt with⟨ys,ts2,Gc,rfl,XB,W1⟩|⟨pl,pvs,fl,pv,ts2,Gc,ZV,⟨shr,hsh⟩,ZE,rfl,XB,Vm⟩
 ·obtain⟨G4,WQ,_⟩:=hown XB
  have hP:isP res=false:=by
   cases hp:isP res with
   |false=>rfl
   |true=>
    unfold isP at hp;split at hp
    ·rename_i sh1 p vs l1 e1 e2;have:=W1 0 (by rw[e2];simp);simp[e2,cq,kf]at this
    ·cases hp
  rw[hP]at ZS VC;simp only[Bool.false_eq_true,if_false,Bool.false_or]at ZS VC;obtain⟨G5,W8⟩:=Mw WQ W1 VC.2 (dst:=o.dst) (λd hd'=>(hd d hd').1) ZS;refine hK (a.put o.dst (kz res.sh ys)) w2 G5 ?_ (gu _ _ _)
  cases hdst:o.dst with
  |none=>rw[hdst]at W8;exact W8
  |some d=>rw[hdst]at W8;exact W8
 ·obtain⟨G4,WQ,hβ4,hσ6⟩:=hown XB
  have hP:isP res=true:=by unfold isP;rw[ZV,hsh]
  rw[hP]at ZS;simp only[if_true]at ZS;split at ZS
  case isFalse=>simp[SP.run]at ZS
  rename_i RQ;have hσ6:=hσ6 (by simpa using RQ);subst hσ6
  have Rl:∃G5,Inv M σ' [] [] (match o.dst with|some d=>a.tmps.setIfInBounds d (wm pv (fl.map unV))|none=>a.tmps) w2 G5:=by
   cases hdst:o.dst with
   |none=>
    rw[hdst]at ZS;simp only[landP,SP.run,oSJ,oPJ,true_and]at ZS;subst ZS;exact⟨G4,WQ⟩
   |some d=>
    rw[hdst,ZV]at ZS;simp only[landP]at ZS;split at ZS
    case h_2=>simp[SP.run]at ZS
    rename_i pl' vs' l' g US XC
    injection US with US SG
    injection US with US _
    subst US;subst SG;split at ZS
    case isFalse=>simp[SP.run]at ZS
    rename_i SX;simp only[oBA,beq_iff_eq,List.isEmpty_iff]at SX;obtain⟨Z7,YE⟩:=SX;obtain⟨nvs,σ6,Xz,U3⟩:=bG ZS;rw[p7,mz]at Xz
    injection Xz with Xz
    injection Xz with Xz h13
    subst Xz;subst h13;simp only[wr,SP.run,oSJ,oPJ,true_and]at U3;subst U3;obtain⟨x,rfl⟩:∃x,K=[x]:=List.length_eq_one_iff.1 (by have:=congrArg List.length V7;simpa using this)
    have R5:x.1=g:=by simpa using V7
    have R6:x∈[x]:=by simp
    obtain⟨r1,r2,_,_⟩:=Xa x R6;have hp:=Zy x R6;obtain⟨hβc,_⟩:=XB.fram.par _ _ _ _ hp
    have P6:x.1.p.hops=[]:=by rw[R5];exact YE
    have X8:pl.root=2*x.1.i+2:=by rw[R5];exact Z7
    obtain⟨b0,o0,n0,hβ0,SU⟩:∃b0 o0 n0,G4.β x.1.p.root=some (b0,o0,n0)/\x.2=⟨b0,o0+x.1.p.off,none⟩:=by
     rw[hβ4];unfold Gh.addr at r2;rw[P6]at r2;simp only at r2
     cases hb:G2.β x.1.p.root with
     |none=>rw[hb]at r2;simp at r2
     |some y=>
      obtain⟨b0,o0,n0⟩:=y;rw[hb]at r2
      injection r2 with r2
      exact⟨b0,o0,n0,rfl,r2.symm⟩
    have Wi:=zA P6 h9;refine⟨G4,WQ.wrT (hd d hdst).1 (Gp (.ptr _ (λ_=>Nat.le_refl _) rfl λ_=>?_) ZE)⟩;rw[<- R5];obtain⟨_,ad,t,ha,hv,ht⟩:=Vm;refine⟨r1,ad,?_⟩
    have hval:G4.val w2 x.1.p.root (x.1.p.off+pl.off)=Gc.val w2 pl.root pl.off:=by
     unfold Gh.val;rw[hβ0,X8,hβc];simp only[SU,Nat.add_assoc]
    cases hho:pl.hops with
    |nil=>
     rw[hho]at ht;refine⟨_,?_,hv,rfl⟩;rw[<- ha];unfold Gh.addr;simp only[hho,hβ0,X8,hβc,SU,Nat.add_assoc]
    |cons h1 hs=>
     rw[hho]at ht;refine⟨t,?_,hv,?_⟩
     ·rw[<- ha];unfold Gh.addr;simp only[hho];rw[hval]
     ·have RM:x.1.p.root≠M.hr:=r1;rw[bW RM]
      have YZ:pl.off<x.1.cells.length:=by
       rcases Nat.lt_or_ge pl.off x.1.cells.length with h|h
       ·exact h
       ·have:=XB.core.boxc _ _ _ _ hβc pl.off h;rw[X8]at ht;rw[this]at ht;simp[b7]at ht
      have Zp:=Wi pl.off (by rw[Xc x R6];exact YZ)
      have Ud:b5 (M.into w G2 (prK [x]) N kp) σc [] pl.root pl.off=(rl σc x).getD pl.off .dead:=by
       rw[X8,bW (by show 2*x.1.i+2≠1;omega)];unfold rl St.c
       cases b9 σc.ce (2*x.1.i+2)with
       |none=>simp
       |some l=>rfl
      rw[Ud]at ht;rw[Zp];exact ht
  obtain⟨G5,W8⟩:=Rl;refine hK (a.put o.dst (wm pv (fl.map unV))) w2 G5 ?_ (gu _ _ _)
  cases hdst:o.dst with
  |none=>rw[hdst]at W8;exact W8
  |some d=>rw[hdst]at W8;exact W8
theorem nF{Zo:FuncId}{args':Array Operand}{caps:Array Value}{fo:Operand}{Vu:Array TypeId}(ho:o.op=.call ⟨.value fo,args',Vu⟩)(hv:a.eval fo=.func (.func Zo) #[] caps)(ZG:gS P Zo):
 (execOp a.eval o).run P w=.ok (.enter Zo (args'.map a.eval++caps)) w:=by
 unfold execOp;simp only[resolve];simp[Deferred.ofValue,invoke];have:=ZG (args'.map a.eval++caps) w
 simp_all
theorem Kg{E:Env}(hB:wd P E){asq:List Value}{vals:List TV}{Zo:FuncId}{n:Nat}{tm:List BxC}(Rc:E.box Zo=some (n,tm))(hn:vals.length=n){σ1:St}{G1:Gh}(hd:∀d,o.dst=some d->M.ok d/\M.pr (2*d+2)=none)(hI1:Inv M σ1 [] [] a.tmps w G1)(hal:asq.length=vals.length)
 (Xu:∀j (h:j<vals.length)(h':j<asq.length),TmR w (G1.F M.A) σ1.v (b5 M σ1 []) G1 vals[j] asq[j])(h2:(evBox o.dst tm vals).run σ1=some ((),σ'))(ZH:gS P Zo->(execOp a.eval o).run P w=.ok (.enter Zo asq.toArray) w):KC P M σ' a o w:=by
 intro K' Q hK;obtain⟨ZG,ZE,ty,Wg⟩:=hB.box Zo n tm Rc
 cases hdst:o.dst with
 |none=>rw[hdst]at h2;simp[evBox,SP.run]at h2
 |some d=>
  rw[hdst]at h2;obtain⟨hdN,Y4⟩:=hd d hdst;simp only[evBox]at h2;obtain⟨l,σ2,h3,h4⟩:=bG h2
  obtain⟨Uh,Zt,G2,ZL⟩:=ox (ys:=tm.map (bxV asq)) hI1 (by simp) (λj h=>by
   have hj:j<tm.length:=by simpa using h
   simp only[List.getElem_map,oGD,List.getElem?_map,oGE hj,oMS,Option.getD_some]
   cases hb:tm[j]with
   |val x=>exact .v (ZE x (by rw[<- hb];exact List.getElem_mem hj))
   |arg i=>
    simp only[bxT,bxV];by_cases hi:i<vals.length
    ·have:=Xu i hi (by omega);simpa[hi,show i<asq.length by omega]using this
    ·have:vals.getD i .dead=.dead:=by simp[oGD,oGN (by omega:vals.length<=i)]
     rw[this];exact .dead) h3
  simp only[List.nil_append]at ZL;obtain⟨G3,Yl,_,hβ⟩:=ZL.1.newBox (2*d+2) ty (by omega) Y4 (by omega);have X7:(wr d (.ptr ⟨2*d+2,0,[]⟩ [(σ2.root (2*d+2) l).v (2*d+2,0,0)])).run (σ2.root (2*d+2) l)=some ((),σ'):=h4;simp only[wr,SP.run,oSJ,oPJ,true_and]at X7;subst X7;unfold Oper.wp;rw[ZH ZG,Oper.upon_enter];refine(Wg asq w (by omega) Zt).mono λe w2 ⟨he,hw⟩=>?_;subst he;subst hw;simp only;refine hK (a.put o.dst (.pointer (some ⟨w.heap.size,0,none⟩))) _ G3 ?_ (gu _ _ _);rw[hdst];refine Yl.wrT hdN (.ptr (σ2.root (2*d+2) l).v (λ_=>Nat.le_refl _) (by simp[gY]) λ_=>⟨by show(2*d+2:Nat)≠1;omega,⟨w.heap.size,0,none⟩,_,?_,rfl,rfl⟩);unfold Gh.addr;simp only[hβ]
theorem C6{E:Env}{F:cI}(hB:wd P E)(hF:dF P F):vi P M gw (evCall E F):=by
 intro o t σ σ' a w G hc hd hI hr;rcases hc with rfl|hc
 ·simp[evop,evCall,MZ,SP.run]at hr
 cases ho:o.op with
 |call c=>
  rw[ho]at hc;obtain⟨callee,args,Vu⟩:=c
  cases callee with
  |value fo=>
   cases t with
   |call k f' args'=>
    simp only[nU]at hc;obtain⟨hf,hlen,Ys⟩:=hc;simp only[evop]at hr
    cases f' with
    |f Zo=>
     have S9:fo=.func Zo:=by cases fo<;>simp[bK]at hf;rw[hf]
     have WU:∀Zo,fo=.func Zo->gS P Zo->(execOp a.eval o).run P w=.ok (.enter Zo (args.toList.map a.eval).toArray) w:=λZo S9 ZG=>by
      have:=nF (a:=a) (w:=w) ho (by rw[S9];rfl:a.eval fo=.func (.func Zo) #[] #[]) ZG
      have ea:(args.toList.map a.eval).toArray=args.map a.eval:=by apply Array.ext';rw[Array.toList_map]
      rw[ea];simpa using this
     have WU:=WU Zo S9;simp only[evCall]at hr
     have nrm:(evNrm E F o.dst k Zo args').run σ=some ((),σ')->KC P M σ' a o w:=by
      intro hr;simp only[evNrm]at hr
      cases k with
      |false=>
       simp only[Bool.false_eq_true,if_false]at hr;obtain⟨vals,σ1,h1,h2⟩:=bG hr;obtain⟨rfl,YX,Xu⟩:=Ju (l':=args.toList) hI (by simp[hlen]) (λj h h'=>by have:=Ys j (by simpa using h) (by simpa using h');simpa using this) h1
       have TQ:vals.length=args'.length:=by rw[YX];simp
       exact Kt hF hd hI (by simp;omega) (λj h h'=>by have:=Xu j h (by simpa using h');simpa using this) h2 WU
      |true=>
      simp only[if_true]at hr;obtain⟨vals,σ1,h1,h2⟩:=bG hr;obtain⟨G1,ZB,YX,Xu⟩:=DT (l':=args.toList) hI (by simp[hlen]) (λj h h'=>by have:=Ys j (by simpa using h) (by simpa using h');simpa using this) h1;have TQ:vals.length=args'.length:=YX;split at h2
      ·rename_i x Rc;split at h2
       case isFalse=>simp[SP.run]at h2
       rename_i hn;exact Kg hB Rc hn hd ZB.1 (by simp;omega) (λj h h'=>by have:=Xu j h (by simpa using h');simpa using this) h2 WU
      ·exact DR hF hd ZB.1 (by simp;omega) (by simp;omega) (λj h h'=>by have:=Xu j h (by simpa using h');simpa using this) h2 WU
     split at hr
     ·rename_i hrow;obtain⟨r12,r3⟩:=hB.2 Zo hrow
      cases args' with
      |nil=>simp[evRowA,SP.run]at hr
      |cons x args'=>
       cases args' with
       |cons y args'=>
        cases args' with
        |cons z args'=>simp[evRowA,SP.run]at hr
        |nil=>
         simp only[evRowA]at hr;split at hr
         case isFalse=>simp[SP.run]at hr
         rename_i Tl;obtain⟨t,σ1,h1,h2⟩:=bG hr;obtain⟨rfl,_⟩:=cr hI.tmr (Ys 0 (by simp) (by simp only[oLC,List.length_nil]at hlen;omega)) h1;split at h2
         ·have hsz:args.size=2:=by simpa using hlen.symm
          have ea:args.toList.map a.eval=[a.eval args[0],a.eval args[1]]:=by
           apply List.ext_getElem
           ·simp[hsz]
           ·intro i h1 h2
            have hi:i=0\/i=1:=by simp at h2;omega
            rcases hi with rfl|rfl<;>simp
          exact Mj (r3 Tl) hd hI (Ys 0 (by simp) (by omega)) (Ys 1 (by simp) (by omega)) h1 h2 (λZG=>by rw[WU ZG,ea])
         ·exact nrm h2
       |nil=>
        simp only[evRowA]at hr;split at hr
        ·simp[SP.run]at hr
        rename_i Tl;obtain⟨r1,r2,r3⟩:=r12 Tl
        have hsz:args.size=1:=by simpa using hlen.symm
        have ea:args.toList.map a.eval=[a.eval args[0]]:=by
         apply List.ext_getElem
         ·simp[hsz]
         ·intro i h1 h2
          have:i=0:=by simp at h2;omega
          subst this;simp
        exact NW ⟨r1,r2,r3⟩ hd hI (Ys 0 (by simp) (by omega)) hr (λZG=>by rw[WU ZG,ea])
     ·exact nrm hr
    |t i=>
     simp only[evCall,SP.run]at hr;split at hr
     case h_2=>simp[SP.run]at hr
     rename_i Zo caps htv;obtain⟨vals,σ1,h1,h2⟩:=bG hr;obtain⟨G1,ZB,YX,Xu⟩:=DT (l':=args.toList) hI (by simp[hlen]) (λj h h'=>by have:=Ys j (by simpa using h) (by simpa using h');simpa using this) h1;have TQ:vals.length=args'.length:=YX
     have S9:fo=.tmp i:=by cases fo<;>simp[bK]at hf;rw[hf]
     have Zv:=hI.tmr i;rw[htv]at Zv
     have Yn:a.eval fo=a.tmps.getD i undef:=by rw[S9];rfl
     generalize hz:a.tmps.getD i undef=z at Zv Yn
     cases Zv with
     | @fn _ _ xs Zi S2=>
      have WU:gS P Zo->(execOp a.eval o).run P w=.ok (.enter Zo (args.toList.map a.eval++xs.toList).toArray) w:=λZG=>by
       have:=nF (a:=a) (w:=w) ho Yn ZG
       have ea:(args.toList.map a.eval++xs.toList).toArray=args.map a.eval++xs:=by apply Array.ext';simp
       rw[ea];exact this
      have SY:xs.toList.length=caps.length:=by simpa using Zi
      exact DR hF hd ZB.1 (by simp[Ir];omega) (by simp;omega) (λj h h'=>by
       by_cases hj:j<vals.length
       ·have:=Xu j hj (by simp;omega);simpa[List.getElem_append_left,hj,List.getElem_append,show j<args.size by omega]using this
       ·have hj2:j-vals.length<caps.length:=by simp at h;omega
        have:=ZB.tm (S2 (j-vals.length) hj2)
        have UH:¬j<args.size:=by omega
        have e1:args.size=vals.length:=by omega
        simp only[List.getElem_append,hj,dite_false,List.length_map,Array.length_toList,UH,Array.getElem_toList];simp only[e1]
        have e2:xs.getD (j-vals.length) undef=xs[j-vals.length]:=by simp[Array.getD_eq_getD_getElem?,show j-vals.length<xs.size by omega]
        rw[<- e2]
        exact this) h2 WU
    |_=>simp[evCall,SP.run]at hr
   |_=>simp[nU]at hc
  |_=>cases t<;>simp[nU]at hc
 |_=>rw[ho]at hc;cases t<;>simp[nU]at hc
end
theorem ov{P:Program}{ops:Array Oper}{Q:Exit->Act->World->Prop}{i:Nat}{L:List Nat}{a:Act}{w:World}{o:Oper}{v:Value}(ho:ops[i]?=some o)(hg:o.guard=none)(hrun:(execOp a.eval o).run P w=.ok (.value v) w)(h:wpOps P ops Q L (a.put o.dst v) w):wpOps P ops Q (i::L) a w:=by
 simp[wpOps,ho];rw[oIP (by simp[Region.wanted,hg])];left;unfold Oper.wp;rw[hrun];exact h
structure IO (P:Program)(c rest:Code):Prop where
 ex:∃(i0 i1 i2:Nat)(o0 o1 o2 o3:Oper)(ty ty2 e:TypeId),c=.seq (.region i0 #[o0] false) (.seq (.seq (.region i1 #[o1,o2] false) (.cond (.tmp 4) (.seq (.region i2 #[o3] false) .ret) .skip)) rest)/\
  (o0.dst=some 2/\o0.guard=none/\o0.op=.assign (.const (.slice none 0 0)))/\(o1.dst=some 3/\o1.guard=none/\o1.op=.move (.tmp 0))/\
  (o2.dst=some 4/\o2.guard=none/\o2.op=.binOp .eql ty (.tmp 3) (.const (.slice none 0 0)) ty2)/\(o3.dst=some 2/\o3.guard=none/\o3.op=.assign (.const (.slice none 0 0)))/\P.underlying ty=some (.slice e)
def uV(ts:Array Value)(x:Value)(b:Bool):Array Value:=((ts.setIfInBounds 2 (.slice none 0 0)).setIfInBounds 3 x).setIfInBounds 4 (.bool b)
theorem Ko{P:Program}{c rest:Code}(hc:IO P c rest){ad:Option Addr}{n cap:Nat}{ts:Array Value}{w:World}{Q:Exit->Act->World->Prop}(h0:ts.getD 0 undef=.slice ad n cap)(hN:4<ts.size)
 (hnil:ad=none->Q .ret ⟨(uV ts (.slice ad n cap) true).setIfInBounds 2 (.slice none 0 0),[]⟩ w)(ZW:ad≠none->rest.wp P Q ⟨uV ts (.slice ad n cap) false,[]⟩ w):c.wp P Q ⟨ts,[]⟩ w:=by
 obtain⟨i0,i1,i2,o0,o1,o2,o3,ty,ty2,e,rfl,⟨d0,g0,p0⟩,⟨d1,g1,p1⟩,⟨d2,g2,p2⟩,⟨d3,g3,p3⟩,hu⟩:=hc.ex
 have WC:∀{o:Oper}{a:Act}{x:Operand},(o.op=.assign x\/o.op=.move x)->(execOp a.eval o).run P w=.ok (.value (a.eval x)) w:=λho=>by rcases ho with ho|ho<;>simp[execOp,ho]
 refine wp_seq (wp_region ?_);show wpOps P #[o0] _ [0] _ w;refine ov (o:=o0) rfl g0 (WC (.inl p0)) ?_;rw[d0];refine wp_seq (wp_seq (wp_region ?_));show wpOps P #[o1,o2] _ [0,1] _ w;refine ov (o:=o1) rfl g1 (WC (.inr p1)) ?_;rw[d1]
 have e0:(ts.setIfInBounds 2 (.slice none 0 0)).getD 0 undef=.slice ad n cap:=by
  rw[<- h0];simp[Array.getD_eq_getD_getElem?,Array.getElem?_setIfInBounds]
 have e3:((ts.setIfInBounds 2 (.slice none 0 0)).setIfInBounds 3 (.slice ad n cap)).getD 3 undef=.slice ad n cap:=by
  simp[Array.getD_eq_getD_getElem?,Array.getElem?_setIfInBounds,show 3<ts.size by omega]
 have Xg:(execOp (Act.mk ((ts.setIfInBounds 2 (.slice none 0 0)).setIfInBounds 3 (.slice ad n cap)) []).eval o2).run P w=.ok (.value (.bool ad.isNone)) w:=by
  have hb:=Lib.run_eql_slice_nil (P:=P) w ty e ad n cap 0 0 hu;have ex:(Act.mk ((ts.setIfInBounds 2 (.slice none 0 0)).setIfInBounds 3 (.slice ad n cap)) []).eval (.tmp 3)=.slice ad n cap:=e3;have ey:∀a:Act,a.eval (.const (.slice none 0 0))=.slice none 0 0:=λ_=>rfl;have hg:(eqGuard .eql ty (.tmp 3) (.const (.slice none 0 0)) (.slice ad n cap) (.slice none 0 0)).run P w=.ok () w:=rfl;simp[execOp,p2,ex,ey,hb,hg]
 refine ov (o:=o2) (v:=.bool ad.isNone) rfl g2 ?_ ?_
 ·show(execOp (Act.mk ((ts.setIfInBounds 2 (.slice none 0 0)).setIfInBounds 3 ((ts.setIfInBounds 2 (.slice none 0 0)).getD 0 undef)) []).eval o2).run P w=_;rw[e0];exact Xg
 rw[d2];show(Code.cond (.tmp 4) _ _).wp P _ ⟨((ts.setIfInBounds 2 (.slice none 0 0)).setIfInBounds 3 ((ts.setIfInBounds 2 (.slice none 0 0)).getD 0 undef)).setIfInBounds 4 (.bool ad.isNone),[]⟩ w;rw[e0]
 have e4:∀b,(uV ts (.slice ad n cap) b).getD 4 undef=.bool b:=λb=>by
  unfold uV;simp[Array.getD_eq_getD_getElem?,Array.getElem?_setIfInBounds,hN]
 cases ad with
 |none=>
  refine wp_cond_true (e4 true) (wp_seq (wp_region ?_));show wpOps P #[o3] _ [0] _ w;refine ov (o:=o3) rfl g3 (WC (.inl p3)) ?_;rw[d3];exact wp_ret (hnil rfl)
 |some ad=>exact wp_cond_false (e4 false) (wp_skip (ZW (by simp)))
def AE(sz:Nat)(b:Bool)(bytes:Nat)(mv fl:Bool)(id:Nat):gF:=
 .seq (.reg id none [⟨some 5,none,.bsl sz b 0 []⟩,⟨some 6,none,.mov (.t 0)⟩,⟨some 7,none,.app sz bytes mv fl (.t 5) (.t 6)⟩,⟨some 2,none,.asn true (.t 7)⟩] ([2],[7])) .ret
def AC(call:Option Nat->TOp->SP Unit)(N:Nat)(tc:gF):Option (List TV×List RSh):=(runC call N tc (mkSt [.sl []] [])).bind λx=>match x.1 with|.exit _=>none|_=>((resF 1 [.tmp 2]).run x.2).map (·.1)
theorem E7(call:Option Nat->TOp->SP Unit)(N sz:Nat)(b:Bool)(bytes:Nat)(mv fl:Bool)(id:Nat):AC call N (AE sz b bytes mv fl id)=AC (λ_ _=>.fail) 0 (AE sz b bytes mv fl id):=rfl
def tE(tc:gF):Bool:=match AC (λ_ _=>.fail) 0 tc with
 |some ([.ow []],[.one])=>true
 |_=>false
theorem Cv{tc:gF}(h:tE tc=true):AC (λ_ _=>.fail) 0 tc=some ([.ow []],[.one]):=by
 unfold tE at h
 grind
def kZ(pp:List Nat):Nat->List TV->Bool
 |_,[]=>true
 |i,.ptr _ _::r=>pp.contains i&&kZ pp (i+1) r
 |i,.sl _::r=>kZ pp (i+1) r
 |i,_::r=>!pp.contains (1000+i)&&kZ pp (i+1) r
theorem GO{pp:List Nat}:∀{l:List TV}{i:Nat},kZ pp i l=true->∀j p vs,l[j]?=some (.ptr p vs)->i+j∈pp:=by
 intro l
 induction l with
 |nil=>simp_all
 |cons t l ih=>
  intro i h j p vs hj
  have hr:kZ pp (i+1) l=true:=by
   cases t<;>simp only[kZ,oBA]at h<;>first|exact h.2|exact h
  cases j with
  |zero=>
   have:t=.ptr p vs:=by simp_all
   subst this;simp[kZ,List.contains_eq_mem,oDE]at h;exact h.1
  |succ j=>
   have:=ih hr j p vs (by simp_all);rw[show i+(j+1)=i+1+j by omega];exact this
def BH(pp:List Nat):List Nat:=pp.filterMap λk=>if 1000000<=k/\pp.contains (k-1000000)=true then some (k-1000000)else none
def kpE(pp:List Nat):Pts:=(BH pp).map λk=>(1000000+k,[])
def runT(E:Env)(F:cI)(n:Nat)(tf:TFn)(vals:List TV)(pts:Pts):Option (vl×Pts):=
 if vals.length=tf.np/\(kZ tf.pp 0 vals&&(!tf.pp.contains 1000||pts.isEmpty))=true then
  (runC (evCall E F) n tf.body (mkSt vals pts)).bind λx=>match x.1 with
   |.exit _=>none
   |_=>((resF tf.np tf.res).run x.2).bind λy=>some (⟨y.1.1,y.1.2⟩,(pts.map λx=>(x.1,(b9 y.2.ce x.1).getD []))++kpE tf.pp)
 else none
def Bc(E:Env)(T:FuncId->Option TFn)(B F:cI)(n:Nat):cI:=λf vals pts=>
 match T f with
 |none=>B f vals pts
 |some tf=>runT E F n tf vals pts
def runF(E:Env)(T:FuncId->Option TFn)(B:cI):Nat->cI
 |0=>λ_ _ _=>none
 |n+1=>Bc E T B (runF E T B n) n
def IN(P:Program)(tf:TFn)(c:Code):Prop:=
 tf.np=1/\tf.pp=[1000]/\tf.nt=8/\tf.res=[.tmp 2]/\tE tf.body=true/\(∃sz b bytes mv fl id,tf.body=AE sz b bytes mv fl id)/\
  ∃rest,IO P c rest/\∀M:Fm,M.N=tf.nt->(∀r,M.pr r≠none->∃i∈tf.pp,r=2*i+2)->(∀i,M.kp i≠none->i∈BH tf.pp)->fJ P M gw tf.body rest
def yS(P:Program)(T:FuncId->Option TFn):Prop:=
 ∀f tf,T f=some tf->∃fn c,P.funcs[f]?=some fn/\(fn.name=="runtime.NumGoroutine")=false/\fn.body=some c/\fn.ntmps=tf.nt/\tf.np<=tf.nt /\
  ((∀M:Fm,M.N=tf.nt->(∀r,M.pr r≠none->∃i∈tf.pp,r=2*i+2)->(∀i,M.kp i≠none->i∈BH tf.pp)->fJ P M gw tf.body c)\/IN P tf c)/\tf.res.length=fn.results.size/\∀k (h:k<tf.res.length)(h':k<fn.results.size),CH P tf.res[k] fn.results[k]
section
variable {P:Program} {E:Env} {T:FuncId->Option TFn} {B F:cI}
def O0(tf:TFn)(pts:Pts)(x:iO×St):Option (vl×Pts):=match x.1 with
 |.exit _=>none
 |_=>((resF tf.np tf.res).run x.2).bind λy=>some ((⟨y.1.1,y.1.2⟩:vl),(pts.map λ(x:Nat×List TV)=>(x.1,(b9 y.2.ce x.1).getD []))++kpE tf.pp)
theorem CD{tf:TFn}{fn:Func}{M:Fm}{σ1:St}{a':Act}{w':World}{G':Gh}{pts ZJ:Pts}{res:vl}{e:iO}(VR:tf.res.length=fn.results.size)(YG:∀k (h:k<tf.res.length)(h':k<fn.results.size),CH P tf.res[k] fn.results[k])
 (ZK:Inv M σ1 [] [] a'.tmps w' G')(hd:a'.defers=[])(h2:O0 tf pts (e,σ1)=some (res,ZJ)):
 bodyPost P fn (λe w2=>∃v σ2,e=.returned v/\O5 M res v σ2 w2/\ZJ=(pts.map λ(x:Nat×List TV)=>(x.1,(b9 σ2.ce x.1).getD []))++kpE tf.pp) e.toExit a' w':=by
 unfold O0 at h2
 have TZ:∀y,(resL tf.np tf.res).run σ1=some y->some ((⟨y.1.1,y.1.2⟩:vl),(pts.map λx=>(x.1,(b9 y.2.ce x.1).getD []))++kpE tf.pp)=some (res,ZJ)->a'.defers=[]/\∃v,(results fn a'.tmps).run P w'=.ok v w' /\
  ∃v' σ2,Ending.returned v=.returned v'/\O5 M res v' σ2 w'/\ZJ=(pts.map λx=>(x.1,(b9 σ2.ce x.1).getD []))++kpE tf.pp:=by
  rintro⟨r,σ2⟩ hr he;obtain⟨vs,ys,G2,hrun,hg,hl,hok,hrv⟩:=Ma (qs':=fn.results.toList) ZK (by simpa using VR) (λk h h'=>by have:=YG k h (by simpa using h');simpa using this) hr
  injection he with he
  injection he with S5 Ri
  subst S5;subst Ri;refine⟨hd,kz r.2 ys,?_,kz r.2 ys,σ2,rfl,.inl ⟨ys,a'.tmps,G2,rfl,by simpa using hg.1,hok⟩,rfl⟩;unfold results;rw[Array.mapM_eq_mapM_toList];simp only[Sem.run_bind,Sem.run_map]
  erw[hrun]
  unfold kz;rw[hrv]
  cases vs with
  |nil=>rfl
  |cons v vs=>
   cases vs with
   |nil=>rfl
   |cons v2 vs=>rfl
 have Z0:∀y,(resF tf.np tf.res).run σ1=some y->some ((⟨y.1.1,y.1.2⟩:vl),(pts.map λx=>(x.1,(b9 y.2.ce x.1).getD []))++kpE tf.pp)=some (res,ZJ)->a'.defers=[]/\∃v,(results fn a'.tmps).run P w'=.ok v w' /\
  ∃v' σ2,Ending.returned v=.returned v'/\O5 M res v' σ2 w'/\ZJ=(pts.map λx=>(x.1,(b9 σ2.ce x.1).getD []))++kpE tf.pp:=by
  intro y hr he;unfold resF at hr;split at hr
  ·rename_i t rs TN;simp only[SP.run]at hr;split at hr
   ·rename_i p vs htv;obtain⟨_,σ2,h3,h4⟩:=bG hr;have e1:σ2=σ1:=(bU h3).1;have e2:=(bU h3).2;subst e1;obtain⟨fl,σ3,h5,h6⟩:=bG h4;simp only[SP.run,oSJ]at h6;subst h6
    injection he with he
    injection he with S5 Ri
    subst S5;subst Ri;have Zv:=ZK.tmr t;rw[htv]at Zv
    obtain⟨q0,qs',Uj⟩:∃q0 qs',fn.results.toList=q0::qs':=by
     have hlen:fn.results.toList.length=rs.length+1:=by rw[Array.length_toList,<- VR,TN];rfl
     cases hl:fn.results.toList with
     |nil=>rw[hl]at hlen;simp at hlen
     |cons q0 qs'=>exact⟨q0,qs',rfl⟩
    have Vn:∀(L:List TRs)(L':List ResultVar),tf.res=L->fn.results.toList=L'->∀k (h:k<L.length)(h':k<L'.length),CH P L[k] L'[k]:=by
     rintro _ _ rfl rfl k h h';have:=YG k h (by simpa using h');simpa using this
    have hq0:q0=.tmp t:=Vn _ _ TN Uj 0 (by simp) (by simp)
    have Wq:rs.length=qs'.length:=by
     have h7:fn.results.toList.length=rs.length+1:=by rw[Array.length_toList,<- VR,TN];rfl
     rw[Uj]at h7;simpa using h7.symm
    obtain⟨rfl,ZX,hrun⟩:=H6 (qs':=qs') ZK Wq (λk h h'=>Vn _ _ TN Uj (k+1) (by simpa using h) (by simpa using h')) h5
    have Xg:(fn.results.toList.mapM λ(q:ResultVar)=>(match q with|.tmp t=>(pure (a'.tmps.getD t undef):Sem Value)|.cell a t=>do loadVar t (<- asAddr (a'.tmps.getD a undef)))).run P w'=.ok (a'.tmps.getD t undef::fl.map unV) w':=by
     rw[Uj,hq0,List.mapM_cons,Sem.run_bind];show Result.andThen (.ok (a'.tmps.getD t undef) w') _=_;simp only[Result.andThen_ok,Sem.run_bind];refine(congrArg (λr=>Result.andThen r _) hrun).trans ?_;simp only[Result.andThen_ok,Sem.run_pure]
    generalize a'.tmps.getD t undef=z at Zv Xg
    cases Zv with
    |ptr V0 h0 hv hok=>
     have hp:=hok e2;refine⟨hd,wm z (fl.map unV),?_,wm z (fl.map unV),σ3,rfl,.inr ⟨p,vs,fl,z,a'.tmps,G',rfl,⟨_,rfl⟩,ZX,rfl,ZK,hp⟩,rfl⟩;unfold results;rw[Array.mapM_eq_mapM_toList];simp only[Sem.run_bind,Sem.run_map]
     erw[Xg]
     cases fl with
     |nil=>rfl
     |cons y l=>rfl
   ·exact TZ y (by rw[TN];exact hr) he
  ·exact TZ y hr he
 cases e with
 |exit i=>simp at h2
 |normal=>
  simp only at h2;obtain⟨y,h3,h4⟩:=bO h2;exact Z0 y h3 h4
 |ret=>
  simp only at h2;obtain⟨y,h3,h4⟩:=bO h2;exact Z0 y h3 h4
theorem I0(hT:yS P T)(hE:wd P E)(hB:dF P B)(hF:dF P F)(n:Nat):dF P (Bc E T B F n):=by
 intro f vals pts res ZJ h;unfold Bc at h
 cases ht:T f with
 |none=>rw[ht]at h;exact hB f vals pts res ZJ h
 |some tf=>
  rw[ht]at h;simp only[runT]at h;split at h
  case isFalse=>simp at h
  rename_i hnp;obtain⟨hnp,TA⟩:=hnp;simp only[oBA]at TA;obtain⟨RT,Qn⟩:=TA;obtain⟨⟨e,σ1⟩,h1,h2⟩:=bO h;obtain⟨fn,c,hf,Vf,hb,hnt,YN,XH,VR,YG⟩:=hT f tf ht;refine⟨iJ hf Vf hb,tf.nt,BH tf.pp,by omega,λM asq w G hal hN SI Y4 hkp hI=>?_⟩;refine calls_of_wp hf hb ?_
  have hN2:fn.ntmps-asq.toArray.size=tf.nt-asq.length:=by rw[hnt];simp
  rw[hN2]
  have TF:∀r,M.pr r≠none->∃i∈tf.pp,r=2*i+2:=λr hr=>by obtain⟨i,p,vs,h3,h4⟩:=Y4 r hr;exact⟨i,by simpa using GO RT i p vs h3,h4⟩
  rcases XH with XH|⟨c1,c2,c3,c4,c5,⟨sz,b,bytes,mv,fl,id,c6⟩,rest,Zi,XH⟩
  ·exact C5 (C6 hE hF) n tf.body c _ e σ1 ⟨asq.toArray++Array.replicate (tf.nt-asq.length) undef,[]⟩ w G _ (XH M hN TF hkp) h1 hI λa' w' G' ZK hd=>CD VR YG ZK hd h2
  ·
   obtain⟨v0,rfl⟩:∃v,vals=[v]:=List.length_eq_one_iff.1 (by rw[hnp,c1]);obtain⟨x0,rfl⟩:∃x,asq=[x]:=List.length_eq_one_iff.1 (by rw[hal];rfl)
   have RR:pts=[]:=by rw[c2]at Qn;simpa using Qn
   have Rz:kpE tf.pp=[]:=by rw[c2];rfl
   have YJ:M.kp 2=none:=by
    cases h:M.kp 2 with
    |none=>rfl
    |some v=>exact absurd (hkp 2 (by rw[h];simp)) (by rw[c2];simp[BH])
   subst RR
   obtain⟨l0,rfl⟩:∃l,v0=.sl l:=by
    rw[c2]at RT;cases v0<;>simp[kZ]at RT;exact⟨_,rfl⟩
   have hv:=hI.tmr 0;have e0:(mkSt [TV.sl l0] ([]:Pts)).t 0=.sl l0:=rfl
   have e1:(#[x0]++Array.replicate (tf.nt-1) undef).getD 0 undef=x0:=by simp[Array.getD_eq_getD_getElem?,Array.getElem?_append]
   have hv:TmR w (G.F M.A) (mkSt [TV.sl l0] ([]:Pts)).v (b5 M (mkSt [TV.sl l0] ([]:Pts)) []) G (.sl l0) x0:=by
    have:=hI.tmr 0;rw[e0]at this;rw[show([x0]:List Value).toArray=#[x0]from rfl,show([x0]:List Value).length=1 from rfl,e1]at this;exact this
   cases hv with
   |sl hs=>
    cases hs with
    | @sl _ ad cap zz u hsz hcap hmax Tr hcell hrec=>
     have hdead:∀(H:List TV)(xs:List Value)(ts:Array Value)(d:Nat)(v:Value),0<d->Inv M (mkSt [TV.sl l0] []) H xs ts w G->Inv M (mkSt [TV.sl l0] []) H xs (ts.setIfInBounds d v) w G:=by
      intro H xs ts d v hd hI;refine⟨hI.core,λi=>?_,hI.fram,hI.keys,by rw[Array.size_setIfInBounds];exact hI.size,hI.hand,hI.hval,hI.shape,hI.kept⟩;by_cases hi:i=d
      ·subst hi
       have:(mkSt [TV.sl l0] ([]:Pts)).t i=.dead:=by
        simp[St.t,mkSt,eP,b9,show ¬ 0=i by omega]
       rw[this];exact .dead
      ·have:(ts.setIfInBounds d v).getD i undef=ts.getD i undef:=by simp[Array.getD_eq_getD_getElem?,Array.getElem?_setIfInBounds,Ne.symm hi]
       rw[this];exact hI.tmr i
     refine Ko Zi (ad:=ad) (n:=l0.length) (cap:=cap) (by simp[Array.getD_eq_getD_getElem?,Array.getElem?_append]) (by simp[c3]) (λZf=>?_) (λ_=>?_)
     ·have Yl:=hdead _ _ _ 4 (.bool true) (by decide) (hdead _ _ _ 3 (.slice ad l0.length cap) (by decide) (hdead _ _ _ 2 (.slice none 0 0) (by decide) hI));subst Zf;have U8:=Tr rfl;have WY:l0=[]:=oEN (by omega);subst WY;have WQ:=Yl.wrT (d:=2) ⟨by omega,YJ⟩ (t:=.ow []) (x:=.slice none 0 0) .nil;have hrun:=Cv c5;rw[c6,<- E7 (evCall E F) n,<- c6]at hrun;unfold AC at hrun;rw[h1]at hrun;simp only[oBS]at hrun h2
      have TH:res=⟨[.ow []],[.one]⟩/\ZJ=[]:=by
       cases e with
       |exit i=>simp at hrun
       |normal=>
        simp only[c1,c4]at h2;simp only at hrun;obtain⟨y,hy,Um⟩:=ge hrun;rw[hy]at h2;simp only[oBS,oSJ,oPJ]at h2;rw[Um]at h2;exact⟨h2.1.symm,by simpa[Rz]using h2.2.symm⟩
       |ret=>
        simp only[c1,c4]at h2;simp only at hrun;obtain⟨y,hy,Um⟩:=ge hrun;rw[hy]at h2;simp only[oBS,oSJ,oPJ]at h2;rw[Um]at h2;exact⟨h2.1.symm,by simpa[Rz]using h2.2.symm⟩
      obtain⟨rfl,rfl⟩:=TH
      have h5:O0 tf [] (.ret,{ mkSt [TV.sl []] ([]:Pts)with tm:=dp (mkSt [TV.sl []] ([]:Pts)).tm 2 (.ow []) })=some (⟨[.ow []],[.one]⟩,[]):=by
       unfold O0;simp only[c1,c4,Rz];rfl
      obtain⟨T,hT⟩:∃T:Array Value,T=(uV ([Value.slice none ([]:List (List TV)).length cap].toArray++Array.replicate (tf.nt - [Value.slice none ([]:List (List TV)).length cap].length) undef) (.slice none ([]:List (List TV)).length cap) true).setIfInBounds 2 (.slice none 0 0):=⟨_,rfl⟩;have W8:=WQ;unfold uV at hT;rw[<- hT]at W8;have h7:=CD (tf:=tf) (fn:=fn) (P:=P) (pts:=[]) (e:=.ret) (a':=⟨T,[]⟩) (w':=w) (G':=G) VR YG W8 rfl h5;rw[hT]at h7;exact h7
     ·have Z3:=hdead _ _ _ 4 (.bool false) (by decide) (hdead _ _ _ 3 (.slice ad l0.length cap) (by decide) (hdead _ _ _ 2 (.slice none 0 0) (by decide) hI));exact C5 (C6 hE hF) n tf.body rest _ e σ1 ⟨uV _ (.slice ad l0.length cap) false,[]⟩ w G _ (XH M hN TF hkp) h1 Z3 λa' w' G' ZK hd=>CD VR YG ZK hd h2
theorem runF_ok(hT:yS P T)(hE:wd P E)(hB:dF P B):∀n,dF P (runF E T B n):=by
 intro n
 induction n with
 |zero=>intro f vals pts res ZJ h;simp[runF]at h
 |succ n ih=>exact I0 hT hE hB ih n
end
def oK(P:Program)(own:Nat->Bool):Nat->List TypeId->List Operand->Option (List (Option Nat×Opd))
 |_,_,[]=>some []
 |i,ts,x::xs=>
  match bK x,oK P own (i+1) ts.tail xs with
  |some y,some l=>
   match ts with
   |t::_=>match P.underlying t with
    |some (.pointer e)=>match vo P e with
     |some n=>some ((some n,y)::l)
     |none=>none
    |some (.slice _)=>some ((if own i then some 0 else none,y)::l)
    |_=>some ((none,y)::l)
   | []=>some ((none,y)::l)
  |_,_=>none
def On(P:Program)(t:TypeId):Bool:=match P.underlying t with
 |some (.int _)=>true
 |some .bool=>true
 |some .string=>true
 |some (.struct _)=>(oW P 50 t).isSome
 |_=>false
def Hj(P:Program)(fn:Func):Bool:=fn.resultTypes.toList.all (On P)&&fn.params.toList.all λt=>match P.underlying t with|some (.pointer _)=>false|_=>true
def iF:Code->List Oper
 |.region _ ops _=>ops.toList
 |.seq a b=>iF a++iF b
 |.cond _ a b=>iF a++iF b
 |.block _ b=>iF b
 |.scope b=>iF b
 |.loop b=>iF b
 |_=>[]
def K0(ops:List Oper)(j:Nat):Option Operand->Bool
 |some (.tmp t)=>t==j||ops.any λo=>o.dst==some t&&match o.op with|.move (.tmp u)=>u==j|_=>false
 |_=>false
def Oh(P:Program):Nat->Func->Nat->Bool
 |0,_,_=>false
 |n+1,fn,j=>match fn.body with
  |some c=>(iF c).any λo=>match o.op with
   |.call ⟨.builtin .append,args,_⟩=>K0 (iF c) j args[0]?
   |.call ⟨.value (.func g),args,_⟩=>match P.funcs[g]? with
    |some fg=>args.toList.zipIdx.any λx=>K0 (iF c) j (some x.1)&&Oh P n fg x.2
    |none=>false
   |_=>false
  |none=>false
def tB(P:Program):Op->Option TOp
 |.call ⟨.value (.func f),args,_⟩=>
  match P.funcs[f]? with
  |some fn=>(oK P (Oh P 3 fn) 0 fn.params.toList args.toList).map λl=>.call (!Hj P fn) (.f f) l
  |none=>none
 |.call ⟨.value (.tmp i),args,tys⟩=>(oK P (λ_=>false) 0 tys.toList args.toList).map λl=>.call true (.t i) l
 |_=>none
def jb:Nat->List (Option Nat×Opd)->List (Option Nat×Opd)
 |_,[]=>[]
 |m,x::r=>(if m%1000=0 then x else(some (m%1000),x.2))::jb (m/1000) r
def Cg(mv:Nat):TOp->TOp
 |.call k f args=>if 100000000<=mv then .call true f (jb (mv-100000000) args)else .call k f (if 10<=mv then args.map λx=>(x.1.map λn=>min n (mv-10),x.2)else args)
 |t=>t
def n8(P:Program)(mv:Nat)(op:Op):TOp:=
 match eY P mv op with
 |some t=>t
 |none=>match tB P op with
  |some t=>Cg mv t
  |none=>MZ
def Ox(pp:List Nat)(nt:Nat):Option Nat->Bool
 |some d=>decide (d<nt) && !pp.contains d
 |none=>true
def yM(P:Program)(pp:List Nat)(nt:Nat)(ops:Array Oper)(mv:Nat)(o:Oper):Option gE:=
 if Ox pp nt o.dst then
  match o.guard with
  |none=>some ⟨o.dst,none,n8 P mv o.op⟩
  |some (j,want)=>match(ops[j]?).bind (·.dst)with
   |some d=>some ⟨o.dst,some (d,want),n8 P mv o.op⟩
   |none=>none
 else none
def l9(P:Program)(pp:List Nat)(nt:Nat)(ops:Array Oper):List Nat->List Oper->Option (List gE)
 |_,[]=>some []
 |m,o::r=>match yM P pp nt ops (m.headD 0) o,l9 P pp nt ops m.tail r with
  |some t,some l=>some (t::l)
  |_,_=>none
def Av:List Oper->List (List Nat)->List (List Nat)
 | [],acc=>acc
 |o::r,acc=>Av r (acc++[((o.after.toList.filter (Region.binds .any)).flatMap λe=>e.on::acc.getD e.on []).eraseDups])
def yD(ops:List Oper)(deps:List (List Nat)):Nat->Bool
 |0=>true
 |i+1=>yD ops deps i&&match ops[i]? with
  |some o=>(o.after.toList.all λe=>!Region.binds .any e||decide (e.on<i))&&((deps.getD i []).all λj=>o.after.toList.any λe=>Region.binds .any e&&(e.on==j||(deps.getD e.on []).contains j))
  |none=>true
def yN(P:Program)(ops:Array Oper)(tops:List gE)(draw:Bool):Option (Option (List (List Nat))):=
 if draw then
  if P.follows .mixedOrders&&yD ops.toList (Av ops.toList []) ops.size then
   if wi (Av ops.toList []) tops (List.range tops.length)then some none else some (some (Av ops.toList []))
  else none
 else some none
def pu:Code->Option Nat
 |.region id _ _=>some id
 |.seq _ b=>pu b
 |.cond _ a b=>match pu b with|some i=>some i|none=>pu a
 |.block _ b=>pu b
 |.scope b=>pu b
 |_=>none
def CQ(pers:Nat->Prs)(a:Code)(l:List (Nat×Option Nat)):gF->gF
 |.skip=>match pu a with
  |some i=>.nrm (pers i)
  |none=>match l with
   | []=>.skip
   |_::_=>.nrm (l.filterMap λx=>match x.2 with|none=>some x.1|some _=>none,l.filterMap (·.2))
 |t=>t
def OA:Operand->Nat
 |.tmp t=>2000000+t
 |_=>2000000
def ql:Code->Nat
 |.seq a b=>ql a+ql b
 |.cond _ a b=>ql a+ql b
 |.block _ b=>ql b
 |.scope b=>ql b
 |.loop b=>ql b+1
 |_=>0
def NR(nt:Nat)(pp:List Nat)(l:List (Nat×Option Nat)):Bool:=l.all λy=>decide (y.1<nt) && !pp.contains (1000000+y.1)
def OX(nt:Nat)(pp:List Nat)(l:List (Nat×Option Nat))(a:gF):gF:=match l with | []=>a|_::_=>if NR nt pp l then .pre l a else a
def JC(nt:Nat)(pp:List Nat)(l:List (Nat×Option Nat))(a:gF):gF:=match l with | []=>a|_::_=>if NR nt pp l then .post a l else a
def Pl(pp:List Nat)(nt:Nat)(l:List (Nat×Option Nat))(a:gF):gF:=match l with
 | [(i,some n)]=>if decide (i<nt) && !pp.contains i then .frz i n a else a
 |_=>a
def dE(P:Program)(pp:List Nat)(nt:Nat)(mv:Nat->List Oper->Bool->List Nat)(pers:Nat->Prs)(H:Nat->List (Nat×Option Nat)):Code->Nat->Option gF
 |.skip,_=>some .skip
 |.region id ops draw,_=>match l9 P pp nt ops (mv id ops.toList draw) ops.toList with
  |some l=>match yN P ops l draw with
   |some d=>some (Pl pp nt (H (4000000+id)) (OX nt pp (H (3000000+id)) (.reg id d l (pers id))))
   |none=>none
  |none=>none
 |.seq a b,i=>match dE P pp nt mv pers H a i,dE P pp nt mv pers H b (i+ql a)with
  |some x,some y=>some (.seq x y)
  |_,_=>none
 |.cond c a b,i=>match bK c,dE P pp nt mv pers H a i,dE P pp nt mv pers H b (i+ql a)with
  |some k,some x,some y=>some (.cond k (CQ pers b (H (OA c)) x) (CQ pers a (H (OA c)) y))
  |_,_,_=>none
 |.block id b,i=>(dE P pp nt mv pers H b i).map (.block id)
 |.scope b,i=>(dE P pp nt mv pers H b i).map .sc
 |.label _,_=>some (.sc .skip)
 |.loop b,i=>(dE P pp nt mv pers H b (i+1)).map λx=>OX nt pp (H (i+1)) (.loop (JC nt pp (H (i+1)) x))
 |.exit id,_=>some (.exit id)
 |.ret,_=>some .ret
 |_,_=>none
def n7(P:Program):List ResultVar->Option (List TRs)
 | []=>some []
 |.tmp t::r=>(n7 P r).map (.tmp t :: ·)
 |.cell t ty::r=>match zG P ty,n7 P r with
  |some n,some l=>some (.cell t n::l)
  |_,_=>none
def y9(l:List Operand):List Nat:=l.filterMap λx=>match x with|.tmp t=>some t|_=>none
def L9(l:List ResultVar):List Nat:=l.map λr=>match r with|.tmp t=>t|.cell t _=>t
def Hb:Op->Bool
 |.load _ _=>true
 |.move (.tmp _)=>true
 |.field _ _ _=>true
 |.fieldAddr _ _ _=>true
 |.indexAddr _ _ _=>true
 |.slice _ _ _ _ _=>true
 |.nilCheck _=>true
 |.extract _ _=>true
 |.pick _ _ _=>true
 |_=>false
def oo(l:List Nat):Nat:=l.foldl (λb i=>b ||| (1 <<< i)) 0
def KK(nt b:Nat):List Nat:=(List.range nt).filter λi=>b.testBit i
def Oy(b i:Nat):Nat:=if b.testBit i then b-(1 <<< i)else b
def HW(ops:List Oper)(o:Oper):List Nat:=match o.guard with|some (j,_)=>((ops[j]?).bind (·.dst)).toList|none=>[]
def BC(ops:List Oper):List Oper->Nat->Nat
 | [],out=>out
 |o::r,out=>
  let b:=BC ops r out
  (match o.dst with|some d=>Oy b d|none=>b) ||| oo (y9 o.op.operands.toList++HW ops o)
def vq(rt:Nat):Code->Nat->List (Nat×Nat)->Nat×List (Nat×Nat)
 |.region id ops _,out,_=>(BC ops.toList ops.toList out,[(id,out)])
 |.seq a b,out,ex=>let y:=vq rt b out ex;let x:=vq rt a y.1 ex;(x.1,x.2++y.2)
 |.cond c a b,out,ex=>let x:=vq rt a out ex;let y:=vq rt b out ex;(x.1 ||| y.1 ||| oo (y9 [c]),x.2++y.2)
 |.block id b,out,ex=>vq rt b out ((id,out)::ex)
 |.scope b,out,ex=>vq rt b out ex
 |.loop b,_,ex=>let l:=(vq rt b 0 ex).1;vq rt b l ex
 |.exit id,_,ex=>((b9 ex id).getD 0,[])
 |.ret,_,_=>(rt,[])
 |_,out,_=>(out,[])
def Hv(P:Program)(t:TypeId):Bool:=match P.underlying t with|some (.pointer _)=>true|_=>false
def xe(P:Program)(b:Nat)(o:Oper):Nat:=
 match o.dst with
 |some d=>
  if(match o.op with
   |.box _ _=>true
   |.alloc _=>true
   |.fieldAddr _ _ _=>true
   |.indexAddr _ _ _=>true
   |.nilCheck _=>true
   |.load t _=>Hv P t
   |.move (.tmp s)=>b.testBit s
   |.assign (.tmp s)=>b.testBit s
   |.call ⟨.value (.func f),_,_⟩=>match P.funcs[f]? with|some fn=>fn.resultTypes.toList.map (Hv P)==[true]|none=>false
   |_=>false)then b ||| (1 <<< d)else b
 |none=>b
def IG(b:Nat)(o:Oper):List (Nat×Nat):=
 match o.dst with
 |some d=>if Hb o.op then(y9 o.op.operands.toList).map λs=>(d,s)else match o.op with
  |.assign (.tmp s)=>if b.testBit s then[(d,s)]else[]
  |_=>[]
 |none=>[]
def M7(P:Program)(pp:List Nat)(c:Code):List (Nat×Nat):=
 let ops:=iF c
 let b:=ops.foldl (xe P) (ops.foldl (xe P) (oo pp))
 ops.flatMap (IG b)
def Pk(o:Oper):Bool:=match o.op with
 |.extract _ _=>true
 |_=>false
def Ky(P:Program)(pp:List Nat)(c:Code):List (Nat×Nat):=
 let ops:=iF c
 let b:=ops.foldl (xe P) (ops.foldl (xe P) (oo pp))
 (ops.filter λo=>!Pk o).flatMap (IG b)
def wI(al:List (Nat×Nat))(b:Nat):Nat:=al.foldr (λx b=>if b.testBit x.1 then b ||| (1 <<< x.2)else b) b
def L8(l:List Nat):List Nat:=l.flatMap λi=>[2*i+2,2*i+3]
def Lt:Op->List Operand
 |.store _ _ x=>[x]
 |.call ⟨.builtin .append,args,_⟩=>args.toList.tail
 |op=>op.operands.toList
def Pt(el:Nat)(al:List (Nat×Nat))(after:Nat)(o:Oper):Bool:=
 let live:=wI al (wI al after)
 (y9 (Lt o.op)).all λt=>!el.testBit t&&(wI al (wI al (1 <<< t))) &&& live==0
def N8(el:Nat)(al:List (Nat×Nat))(ops:List Oper)(out:Nat):List Oper->List Bool
 | []=>[]
 |o::r=>Pt el al (BC ops r out) o::N8 el al ops out r
def DI(b:Nat)(o:Oper):Nat:=
 match o.dst with
 |some d=>
  if(match o.op with
   |.indexAddr _ _ _=>true
   |.fieldAddr _ (.tmp s) _=>b.testBit s
   |.load _ (.tmp s)=>b.testBit s
   |.nilCheck (.tmp s)=>b.testBit s
   |.move (.tmp s)=>b.testBit s
   |.field _ (.tmp s) _=>b.testBit s
   |_=>false)then b ||| (1 <<< d)else b
 |none=>b
def Hd(el:Nat)(al:List (Nat×Nat))(ops:List Oper)(out:Nat):List (Nat×Oper)->List Bool
 | []=>[]
 |(i,o)::r=>Pt el al (out ||| oo ((ops.zipIdx.filter λx=>x.2 != i).flatMap λx=>y9 x.1.op.operands.toList)) o::Hd el al ops out r
def PC(P:Program)(pp:List Nat)(c:Code)(res:List Nat):Nat->List Oper->Bool->List Bool:=
 let tb:=(vq (oo res) c (oo res) []).2
 let al:=Ky P pp c
 let Sk:=oo pp
 let el:=(iF c).foldl DI ((iF c).foldl DI 0)
 λid ops draw=>
  let out:=((b9 tb id).getD 0) ||| Sk
  if draw then Hd el al ops out (ops.zipIdx.map λx=>(x.2,x.1))else N8 el al ops out ops
def N2(P:Program)(pp:List Nat)(nt:Nat)(c:Code)(res:List Nat):Nat->Prs:=
 let tb:=(vq (oo res) c (oo res) []).2
 let al:=M7 P pp c
 let Sk:=oo pp
 λid=>
  let b:=((b9 tb id).getD 0) ||| Sk
  (KK nt b,L8 (KK nt (wI al (wI al b))))
def ub(P:Program):Nat->List TypeId->List Nat
 |_,[]=>[]
 |i,t::r=>match P.underlying t with
  |some (.pointer _)=>i::ub P (i+1) r
  |_=>ub P (i+1) r
def mvH(H:Nat->List (Nat×Option Nat))(mv:Nat->List Oper->Bool->List Bool):Nat->List Oper->Bool->List Nat:=
 λid ops draw=>match H (1000000+id)with
  | []=>(mv id ops draw).map λb=>if b then 1 else 0
  |l=>(mv id ops draw).zipIdx.map λx=>match l.find? λy=>y.1==x.2 with
   |some y=>y.2.getD 0
   |none=>if x.1 then 1 else 0
def uW(P:Program):Code->Option Code
 |.seq (.region _ a0 false) (.seq (.seq (.region _ a1 false) (.cond (.tmp 4) (.seq (.region _ a2 false) .ret) .skip)) rest)=>
  match a0.toList,a1.toList,a2.toList with
  | [⟨some 2,.assign (.const (.slice none 0 0)),_,_,_,none⟩],[⟨some 3,.move (.tmp 0),_,_,_,none⟩,⟨some 4,.binOp .eql ty (.tmp 3) (.const (.slice none 0 0)) _,_,_,_,none⟩],[⟨some 2,.assign (.const (.slice none 0 0)),_,_,_,none⟩]=>
   match P.underlying ty with
   |some (.slice _)=>some rest
   |_=>none
  |_,_,_=>none
 |_=>none
def uS(P:Program)(fn:Func)(c:Code):Option TFn:=
 match uW P c with
 |some (.seq (.region id ops false) .ret)=>
  match l9 P [1000] 8 ops [0,0,0,1] ops.toList with
  |some [⟨some 5,none,.bsl sz b 0 []⟩,⟨some 6,none,.mov (.t 0)⟩,⟨some 7,none,.app sz2 bytes mv fl (.t 5) (.t 6)⟩,⟨some 2,none,.asn true (.t 7)⟩]=>
   if sz2=sz/\tE (AE sz b bytes mv fl id)=true/\fn.params.size=1/\fn.ntmps=8 then
    match n7 P fn.results.toList with
    |some [.tmp 2]=>some ⟨1,[1000],8,AE sz b bytes mv fl id,[.tmp 2]⟩
    |_=>none
   else none
  |_=>none
 |_=>none
def n9(P:Program)(H:Nat->List (Nat×Option Nat))(f:FuncId):Option TFn:=
 match P.funcs[f]? with
 |some fn=>
  match fn.body with
  |some c=>
   match uS P fn c with
   |some tf=>some tf
   |none=>
   let np:=fn.params.size+fn.nfree
   let pp:=ub P 0 fn.params.toList++(List.range fn.nfree).map (fn.params.size + ·)
   let rt:=L9 fn.results.toList
   let pq:=pp++(H 5000000).map (·.1)
   let pers:=N2 P pq fn.ntmps c rt
   let pl:=pq++(H 5000000).map (λx=>1000000+x.1)
   match dE P pl fn.ntmps (mvH H (PC P pq c rt)) pers H c 0,n7 P fn.results.toList with
   |some tc,some rs=>some ⟨np,pl,fn.ntmps,JC fn.ntmps pl (H 0) tc,rs⟩
   |_,_=>none
  |none=>none
 |none=>none
section
variable {P:Program} {M:Fm} {pp:List Nat} {nt:Nat}
theorem wG:∀{qs:List ResultVar}{l:List TRs},n7 P qs=some l->l.length=qs.length/\∀k (h:k<l.length)(h':k<qs.length),CH P l[k] qs[k]:=by
 intro qs
 induction qs with
 |nil=>
  intro l h;simp only[n7]at h
  simp_all
 |cons q qs ih=>
  intro l h
  cases q with
  |tmp t=>
   obtain⟨l',h1,rfl⟩:=ge h;obtain⟨e,h2⟩:=ih h1;refine⟨by simp[e],λk hk YI=>?_⟩
   cases k with
   |zero=>exact rfl
   |succ k=>exact h2 k (by simpa using hk) (by simp_all)
  |cell t ty=>
   simp only[n7]at h;split at h
   ·rename_i n l' h1 h2
    injection h with h
    subst h;obtain⟨e,h3⟩:=ih h2;refine⟨by simp[e],λk hk YI=>?_⟩
    cases k with
    |zero=>exact⟨ty,rfl,ui h1⟩
    |succ k=>exact h3 k (by simp_all) (by simp_all)
   ·simp at h
theorem uT{own:Nat->Bool}:∀{xs:List Operand}{i:Nat}{ts:List TypeId}{l:List (Option Nat×Opd)},oK P own i ts xs=some l->l.length=xs.length/\∀j (h:j<l.length)(h':j<xs.length),bK xs[j]=some l[j].2:=by
 intro xs
 induction xs with
 |nil=>
  intro i ts l h;simp only[oK]at h
  simp_all
 |cons x xs ih=>
  intro i ts l h;simp only[oK]at h;split at h
  ·rename_i y l' h1 h2;obtain⟨e,h3⟩:=ih h2
   obtain⟨n,rfl⟩:∃n,l=(n,y)::l':=by
    (repeat' split at h)<;>first|(injection h with h;exact⟨_,h.symm⟩)|simp at h
   refine⟨by simp[e],λj hj ZY=>?_⟩
   cases j with
   |zero=>exact h1
   |succ j=>exact h3 j (by simp_all) (by simp_all)
  ·simp at h
theorem Ct{op:Op}{t:TOp}(h:tB P op=some t):nU op t:=by
 unfold tB at h;split at h
 ·rename_i f args tys;split at h
  ·obtain⟨l,h1,rfl⟩:=ge h;have ⟨e,h2⟩:=uT h1;exact⟨rfl,by omega,λj hj ZY=>by simp_all⟩
  ·simp at h
 ·rename_i i args tys;obtain⟨l,h1,rfl⟩:=ge h;have ⟨e,h2⟩:=uT h1;exact⟨rfl,by omega,λj hj ZY=>by simp_all⟩
 ·simp at h
theorem JU{pp:List Nat}{i:Nat}(h:i∈BH pp):i∈pp/\1000000+i∈pp:=by
 unfold BH at h;obtain⟨k,hk,h2⟩:=List.mem_filterMap.1 h;split at h2
 ·rename_i hc
  injection h2 with h2
  refine⟨by rw[<- h2];simpa using hc.2,by rw[<- h2,Nat.add_sub_cancel' hc.1];exact hk⟩
 ·cases h2
theorem xn(hkp:∀i,M.kp i≠none->i∈BH pp){d:Nat}(h:d ∉ pp\/1000000+d ∉ pp):M.kp d=none:=by
 cases hk:M.kp d with
 |none=>rfl
 |some v=>
  obtain⟨h1,h2⟩:=JU (hkp d (by rw[hk];simp));rcases h with h|h
  ·exact absurd h1 h
  ·exact absurd h2 h
theorem BE:∀{l:List (Option Nat×Opd)}{m:Nat},(jb m l).length=l.length/\∀j (h:j<(jb m l).length)(h':j<l.length),(jb m l)[j].2=l[j].2:=by
 intro l
 induction l with
 |nil=>intro m;exact⟨rfl,λj h=>by simp[jb]at h⟩
 |cons x l ih=>
  intro m;obtain⟨e,h2⟩:=ih (m:=m/1000);refine⟨by simp[jb,e],λj h h'=>?_⟩
  cases j with
  |zero=>simp only[jb,List.getElem_cons_zero];split<;>rfl
  |succ j=>simp only[jb,List.getElem_cons_succ];exact h2 j (by simpa[jb]using h) (by simpa using h')
theorem EW{mv:Nat}{op:Op}{t:TOp}(h:nU op t):nU op (Cg mv t):=by
 unfold Cg;split
 ·rename_i k f args;split
  ·cases op with
   |call c=>
    obtain⟨callee,asq,tys⟩:=c
    cases callee with
    |value fo=>
     obtain⟨h1,h2,h3⟩:=h;obtain⟨e,h4⟩:=BE (l:=args) (m:=mv-100000000);exact⟨h1,by rw[e];exact h2,λj hj ZY=>by rw[h4 j hj (by omega)];exact h3 j (by omega) ZY⟩
    |_=>exact h
   |_=>exact h
  split
  ·cases op with
   |call c=>
    obtain⟨callee,asq,tys⟩:=c
    cases callee with
    |value fo=>
     obtain⟨h1,h2,h3⟩:=h;exact⟨h1,by simpa using h2,λj hj ZY=>by simpa using h3 j (by simpa using hj) ZY⟩
    |_=>exact h
   |_=>exact h
  ·exact h
 ·exact h
theorem Co{ops:Array Oper}{mv:Nat}{o:Oper}{t:gE}(hN:M.N=nt)(Y4:∀r,M.pr r≠none->∃i∈pp,r=2*i+2)(hkp:∀i,M.kp i≠none->i∈BH pp)(h:yM P pp nt ops mv o=some t):sD P M gw ops o t:=by
 unfold yM at h;split at h
 case isFalse=>simp at h
 rename_i hd
 have hd':∀d,o.dst=some d->M.ok d/\M.pr (2*d+2)=none:=λd e=>by
  rw[e]at hd;simp only[Ox,oBA,oDE,Bool.not_eq_true',List.contains_eq_mem,decide_eq_false_iff_not]at hd;refine⟨⟨by rw[hN];exact hd.1,xn hkp (.inl hd.2)⟩,?_⟩
  cases hp:M.pr (2*d+2)with
  |none=>rfl
  |some x=>
   obtain⟨i,hi,e2⟩:=Y4 (2*d+2) (by rw[hp];simp);have e3:d=i:=Nat.eq_of_mul_eq_mul_left (by decide:0<2) (Nat.add_right_cancel e2);rw[<- e3]at hi;exact absurd hi hd.2
 have Tx:(∃QF,eY P QF o.op=some (n8 P mv o.op))\/gw o.op (n8 P mv o.op):=by
  unfold n8
  cases h1:eY P mv o.op with
  |some t1=>exact .inl ⟨mv,h1⟩
  |none=>
   cases h2:tB P o.op with
   |some t1=>exact .inr (.inr (EW (Ct h2)))
   |none=>exact .inr (.inl rfl)
 split at h
 ·rename_i hg
  injection h with h
  subst h;exact⟨rfl,hd',.inl ⟨hg,rfl⟩,Tx⟩
 ·rename_i j want hg;split at h
  ·rename_i d hj
   injection h with h
   subst h;exact⟨rfl,hd',.inr ⟨j,want,d,hg,rfl,hj⟩,Tx⟩
  ·simp at h
theorem sq{ops:Array Oper}(hN:M.N=nt)(Y4:∀r,M.pr r≠none->∃i∈pp,r=2*i+2)(hkp:∀i,M.kp i≠none->i∈BH pp):∀{l:List Oper}{mv:List Nat}{ts:List gE},l9 P pp nt ops mv l=some ts->ts.length=l.length/\∀i (h:i<l.length)(h':i<ts.length),sD P M gw ops l[i] ts[i]:=by
 intro l
 induction l with
 |nil=>
  intro mv ts h;simp only[l9,oSJ]at h;subst h;exact⟨rfl,λk h=>by simp at h⟩
 |cons o l ih=>
  intro mv ts h;simp only[l9]at h;split at h
  ·rename_i t l' h1 h2
   injection h with h
   subst h;obtain⟨e,h3⟩:=ih h2;refine⟨by simp[e],λj hj ZY=>?_⟩
   cases j with
   |zero=>exact Co hN Y4 hkp h1
   |succ j=>exact h3 j (by simpa using hj) (by simpa using ZY)
  ·simp at h
theorem wF{ops:List Oper}{deps:List (List Nat)}:∀{n:Nat},yD ops deps n=true->∀i,i<n->∀(h:i<ops.length),(∀e∈ops[i].after.toList,Region.binds .any e=true->e.on<i)/\∀j∈deps.getD i [],∃e∈ops[i].after.toList,Region.binds .any e=true/\(e.on=j\/j∈deps.getD e.on []):=by
 intro n
 induction n with
 |zero=>intro _ i hi;omega
 |succ n ih=>
  intro h i hi hl;simp only[yD,oBA]at h;by_cases e:i<n
  ·exact ih h.1 i e hl
  ·obtain rfl:i=n:=by omega
   have h2:=h.2;rw[oGE hl]at h2;simp only[oBA,List.all_eq_true,List.any_eq_true,Bool.or_eq_true,Bool.not_eq_true',oDE,beq_iff_eq,List.contains_eq_mem]at h2;refine⟨λe he hb=>?_,λj hj=>?_⟩
   ·rcases h2.1 e he with h3|h3
    ·simp_all
    ·exact h3
   ·simp_all
def OT(P:Program)(ops:Array Oper)(tops:List gE)(draw:Bool)(d:Option (List (List Nat))):Prop:=match d with
 |some deps=>draw=true/\vh ops deps/\P.follows .mixedOrders=true
 |none=>draw=true->∃deps,vh ops deps/\P.follows .mixedOrders=true/\wi deps tops (List.range tops.length)=true
theorem Cq{ops:Array Oper}{tops:List gE}{draw:Bool}{d:Option (List (List Nat))}(h:yN P ops tops draw=some d):OT P ops tops draw d:=by
 unfold yN at h;split at h
 ·rename_i hd;split at h
  case isFalse=>simp at h
  rename_i hc;simp at hc
  have hD:vh ops (Av ops.toList []):=by
   refine⟨λi hi e he hb=>?_,λi hi j hj=>?_⟩
   ·exact(wF hc.2 i hi (by simpa using hi)).1 e (by simp_all) hb
   ·have ⟨e,he,h3⟩:=(wF hc.2 i hi (by omega)).2 j hj;exact⟨e,by simp_all,h3⟩
  split at h
  ·rename_i hs
   injection h with h
   subst h;exact λ_=>⟨_,hD,hc.1,hs⟩
  ·injection h with h
   subst h;exact⟨hd,hD,hc.1⟩
 ·rename_i hd
  injection h with h
  subst h;exact λh'=>absurd h' (by omega)
theorem zf{isCall:Op->TOp->Prop}{pers:Nat->Prs}{a c:Code}{l:List (Nat×Option Nat)}{t:gF}(h:fJ P M isCall t c):fJ P M isCall (CQ pers a l t) c:=by
 cases t with
 |skip=>
  unfold CQ
  cases pu a with
  |some i=>exact h
  |none=>cases l<;>exact h
 |_=>exact h
theorem GQ(hN:M.N=nt)(hkp:∀i,M.kp i≠none->i∈BH pp){l:List (Nat×Option Nat)}{x:gF}{c:Code}(h:fJ P M gw x c):fJ P M gw (OX nt pp l x) c:=by
 unfold OX;split
 ·exact h
 ·split
  ·rename_i hl;refine⟨λy hy=>?_,h⟩;have:=List.all_eq_true.1 hl y hy;simp only[oBA,oDE,Bool.not_eq_true',List.contains_eq_mem,decide_eq_false_iff_not]at this;exact⟨by rw[hN];exact this.1,xn hkp (.inr this.2)⟩
  ·exact h
theorem De(hN:M.N=nt)(hkp:∀i,M.kp i≠none->i∈BH pp){l:List (Nat×Option Nat)}{x:gF}{c:Code}(h:fJ P M gw x c):fJ P M gw (JC nt pp l x) c:=by
 unfold JC;split
 ·exact h
 ·split
  ·rename_i hl;refine⟨λy hy=>?_,h⟩;have:=List.all_eq_true.1 hl y hy;simp only[oBA,oDE,Bool.not_eq_true',List.contains_eq_mem,decide_eq_false_iff_not]at this;exact⟨by rw[hN];exact this.1,xn hkp (.inr this.2)⟩
  ·exact h
theorem MK(hN:M.N=nt)(Y4:∀r,M.pr r≠none->∃i∈pp,r=2*i+2)(hkp:∀i,M.kp i≠none->i∈BH pp){l:List (Nat×Option Nat)}{x:gF}{c:Code}(h:fJ P M gw x c):fJ P M gw (Pl pp nt l x) c:=by
 unfold Pl;split
 ·rename_i i n;split
  ·rename_i hc;simp only[oBA,oDE,Bool.not_eq_true']at hc;refine⟨⟨⟨by rw[hN];exact hc.1,xn hkp (.inl (by simpa using hc.2))⟩,?_⟩,h⟩
   cases hp:M.pr (2*i+2)with
   |none=>rfl
   |some y=>
    obtain⟨j,hj,e⟩:=Y4 (2*i+2) (by rw[hp];simp)
    have e2:i=j:=by omega
    subst e2;have:=hc.2;simp[List.contains_iff_mem,hj]at this
  ·exact h
 ·exact h
theorem Cr{mv:Nat->List Oper->Bool->List Nat}{pers:Nat->Prs}{H:Nat->List (Nat×Option Nat)}(hN:M.N=nt)(Y4:∀r,M.pr r≠none->∃i∈pp,r=2*i+2)(hkp:∀i,M.kp i≠none->i∈BH pp):∀{c:Code}{i:Nat}{tc:gF},dE P pp nt mv pers H c i=some tc->fJ P M gw tc c:=by
 intro c
 induction c with
 |skip=>intro i tc h;simp only[dE,oSJ]at h;subst h;exact rfl
 |exit id=>intro i tc h;simp only[dE,oSJ]at h;subst h;exact rfl
 |ret=>intro i tc h;simp only[dE,oSJ]at h;subst h;exact rfl
 |region id ops draw=>
  intro i tc h;simp only[dE]at h;split at h
  case h_2=>simp at h
  rename_i l h1;split at h
  case h_2=>simp at h
  rename_i d hd
  injection h with h
  subst h;obtain⟨e,h2⟩:=sq hN Y4 hkp h1;exact MK hN Y4 hkp (GQ hN hkp ⟨id,ops,draw,rfl,by simpa using e,λi hi ZT=>by have:=h2 i (by simpa using hi) ZT;simpa using this,Cq hd⟩)
 |seq a b Zc Y7=>
  intro i tc h;simp only[dE]at h;split at h
  ·rename_i x y h1 h2
   injection h with h
   subst h;exact⟨a,b,rfl,Zc h1,Y7 h2⟩
  ·simp at h
 |cond k a b Zc Y7=>
  intro i tc h;simp only[dE]at h;split at h
  ·rename_i k' x y h1 h2 h3
   injection h with h
   subst h;exact⟨k,a,b,rfl,h1,zf (Zc h2),zf (Y7 h3)⟩
  ·simp at h
 |block id b ih=>
  intro i tc h;simp only[dE]at h;obtain⟨x,h1,rfl⟩:=ge h;exact⟨b,rfl,ih h1⟩
 |loop b ih=>
  intro i tc h;simp only[dE]at h;obtain⟨x,h1,rfl⟩:=ge h;exact GQ hN hkp ⟨b,rfl,De hN hkp (ih h1)⟩
 |scope b ih=>
  intro i tc h;simp only[dE]at h;obtain⟨x,h1,rfl⟩:=ge h;exact .inr ⟨b,rfl,ih h1⟩
 |label l=>intro i tc h;simp only[dE,oSJ]at h;subst h;exact .inl ⟨l,rfl,rfl⟩
 |_=>intro i tc h;simp[dE]at h
theorem rr{α:Type}{a:Array α}{l:List α}(h:a.toList=l):a=l.toArray:=by rw[<- h]
theorem AB{c rest:Code}(h:uW P c=some rest):IO P c rest:=by
 unfold uW at h;split at h
 case h_2=>cases h
 rename_i i0 a0 i1 a1 i2 a2 QH;split at h
 case h_2=>cases h
 rename_i t0 s0 f0 t1 s1 f1 ty ty2 t2 s2 f2 t3 s3 f3 e0 e1 e2;split at h
 case h_2=>cases h
 rename_i e hu
 injection h with h
 subst h;exact⟨i0,i1,i2,_,_,_,_,ty,_,e,by rw[rr e0,rr e1,rr e2],⟨rfl,rfl,rfl⟩,⟨rfl,rfl,rfl⟩,⟨rfl,rfl,rfl⟩,⟨rfl,rfl,rfl⟩,hu⟩
theorem sr{fn:Func}{c:Code}{tf:TFn}(h:uS P fn c=some tf):IN P tf c/\tf.nt=fn.ntmps/\tf.np=fn.params.size/\n7 P fn.results.toList=some tf.res:=by
 unfold uS at h;split at h
 case h_2=>cases h
 rename_i id ops hr;split at h
 case h_2=>cases h
 rename_i sz b sz2 bytes mv fl hops;split at h
 case isFalse=>cases h
 rename_i hc;obtain⟨rfl,Rg,hp,hn⟩:=hc;split at h
 case h_2=>cases h
 rename_i YG
 injection h with h
 subst h;refine⟨⟨rfl,rfl,rfl,rfl,Rg,⟨_,_,_,_,_,_,rfl⟩,_,AB hr,λM hN Y4 hkp=>?_⟩,hn.symm,hp.symm,YG⟩;obtain⟨e,h2⟩:=sq (nt:=8) (pp:=[1000]) hN Y4 hkp hops;exact⟨_,_,rfl,⟨id,ops,false,rfl,by simpa using e,λi hi ZT=>by have:=h2 i (by simpa using hi) ZT;simpa using this,λh=>by cases h⟩,rfl⟩
theorem IX{T:FuncId->Option TFn}(h:∀f tf,T f=some tf->(∃H,n9 P H f=some tf)/\tf.np<=tf.nt/\∀fn,P.funcs[f]?=some fn->(fn.name=="runtime.NumGoroutine")=false):yS P T:=by
 intro f tf hT;obtain⟨⟨H,h1⟩,h2,h3⟩:=h f tf hT;unfold n9 at h1;split at h1
 case h_2=>simp at h1
 rename_i fn hf;split at h1
 case h_2=>simp at h1
 rename_i c hb;split at h1
 ·rename_i tf' Zi
  injection h1 with h1
  subst h1;obtain⟨g1,g2,g3,g4⟩:=sr Zi;obtain⟨e,YG⟩:=wG g4;exact⟨fn,c,hf,h3 fn hf,hb,g2.symm,h2,.inr g1,by simpa using e,λk hk YI=>by have:=YG k hk (by simpa using YI);simpa using this⟩
 simp only at h1;split at h1
 ·rename_i tc rs hc hr
  injection h1 with h1
  subst h1;obtain⟨e,YG⟩:=wG hr;exact⟨fn,c,hf,h3 fn hf,hb,rfl,h2,.inl λM hN Y4 hkp=>De hN hkp (Cr hN Y4 hkp hc),by simpa using e,λk hk YI=>by have:=YG k hk (by simpa using YI);simpa using this⟩
 ·simp at h1
end
theorem D5{E:Env}{T:FuncId->Option TFn}{B F:cI}{n:Nat}{f:FuncId}{tf:TFn}(h:T f=some tf)(vals:List TV)(pts:Pts):Bc E T B F n f vals pts=runT E F n tf vals pts:=by
 unfold Bc;rw[h]
def arR(op:BinOp)(k:IntKind)(a b:Int):Int:=
 match op with
 |.add=>k.wrap (a+b)
 |.sub=>k.wrap (a-b)
 |.mul=>k.wrap (a*b)
 |.quo=>k.wrap (a.tdiv b)
 |.rem=>a.tmod b
 |.and=>k.wrap (BitVec.ofInt k.bits a &&& BitVec.ofInt k.bits b).toNat
 |.or=>k.wrap (BitVec.ofInt k.bits a ||| BitVec.ofInt k.bits b).toNat
 |.xor=>k.wrap (BitVec.ofInt k.bits a ^^^ BitVec.ofInt k.bits b).toNat
 |.andNot=>k.wrap (BitVec.ofInt k.bits a &&& ~~~BitVec.ofInt k.bits b).toNat
 |_=>0
def shR(op:BinOp)(k:IntKind)(a:Int)(n:Nat):Int:=
 match op with
 |.shl=>k.wrap (a*2 ^ (min n k.bits))
 |.shr=>a.fdiv (2 ^ (min n k.bits))
 |_=>0
def cmR(op:BinOp)(a b:Int):Bool:=
 match op with
 |.eql=>a==b
 |.neq=>a != b
 |.lss=>decide (a<b)
 |.leq=>decide (a<=b)
 |.gtr=>decide (a>b)
 |.geq=>decide (a>=b)
 |_=>false
def O2{α:Type}(f:α->Bool):List α->Bool
 | []=>true
 |x::r=>match f x with|true=>O2 f r|false=>false
def Nr{α:Type}(f:α->Bool):List α->Bool
 | []=>false
 |x::r=>match f x with|true=>true|false=>Nr f r
def ED(a b:List Loc):Bool:=Nr (λw=>Nr (λx=>w.hit x) b) a
def In(a b:oN):Bool:=match ED a.2 b.1 with
 |true=>true
 |false=>match ED a.2 b.2 with
  |true=>true
  |false=>match ED b.2 a.1 with
   |true=>true
   |false=>ED b.2 a.2
def xf(d:List Nat)(j:Nat)(F F':oN):Bool:=match d.contains j with
 |true=>true
 |false=>!In F F'
def qc(deps:List (List Nat)):List (Nat×oN)->Bool
 | []=>true
 |(j,F)::r=>match O2 (λy=>xf (deps.getD y.1 []) j F y.2) r with|true=>qc deps r|false=>false
theorem M6{α:Type}(f:α->Bool)(l:List α):O2 f l=l.all f:=by
 induction l with
 |nil=>rfl
 |cons x l ih=>simp[O2];cases f x<;>simp[ih]
theorem IC{α:Type}(f:α->Bool)(l:List α):Nr f l=l.any f:=by
 induction l with
 |nil=>rfl
 |cons x l ih=>simp[Nr];cases f x<;>simp[ih]
theorem JR(a b:List Loc):ED a b=EE a b:=by
 have e:(λw:Loc=>Nr (λx=>w.hit x) b)=λw:Loc=>b.any λx=>w.hit x:=funext λw=>IC _ _;unfold ED EE;rw[IC,e]
theorem Im(a b:oN):In a b=mG a b:=by
 unfold In mG;simp[JR]
 grind
theorem Ey(d:List Nat)(j:Nat)(a b:oN):xf d j a b=(!mG a b||d.contains j):=by
 unfold xf;rw[Im];cases d.contains j<;>simp
theorem By(deps:List (List Nat))(fs:List (Nat×oN)):qc deps fs=gB deps fs:=by
 induction fs with
 |nil=>rfl
 |cons x r ih=>
  have ⟨j,F⟩:=x;have e:(λy:Nat×oN=>xf (deps.getD y.1 []) j F y.2)=λy=>!mG F y.2||(deps.getD y.1 []).contains j:=funext λy=>Ey _ _ _ _;simp only[qc,gB,M6,ih,e];cases r.all λy=>!mG F y.2||(deps.getD y.1 []).contains j<;>simp
theorem wrap_i64{x:Int}(h1:-9223372036854775808<=x)(h2:x<=9223372036854775807):IntKind.wrap .i64 x=x:=by
 have e1:(2:Int) ^ IntKind.bits .i64=18446744073709551616:=by rfl
 have e2:(2:Int) ^ (IntKind.bits .i64-1)=9223372036854775808:=by rfl
 have e3:IntKind.signed .i64=true:=rfl;unfold IntKind.wrap;simp[e1,e3];omega
inductive CT where
 |int (k:IntKind)
 |bool
 |str
 |nat
 |row (own:Bool) (t:CT)
 |nilr (own:Bool)
 |pair (a b:CT)
def mF:CT->CT->Bool
 |.int k,.int k'=>decide (k=k')
 |.bool,.bool=>true
 |.str,.str=>true
 |.nat,.nat=>true
 |.row o t,.row o' t'=>(o==o')&&mF t t'
 |.nilr o,.nilr o'=>o==o'
 |.pair a b,.pair a' b'=>mF a a'&&mF b b'
 |_,_=>false
theorem lh:∀{a b:CT},mF a b=true->a=b:=by
 intro a
 induction a with
 |int k=>intro b h;cases b<;>simp_all [mF]
 |bool=>intro b h;cases b<;>simp_all [mF]
 |str=>intro b h;cases b<;>simp_all [mF]
 |nat=>intro b h;cases b<;>simp_all [mF]
 |row o t ih=>intro b h;cases b<;>simp[mF]at h;rw[h.1,ih h.2]
 |nilr o=>intro b h;cases b<;>simp_all [mF]
 |pair x y Yb UY=>intro b h;cases b<;>simp[mF]at h;rw[Yb h.1,UY h.2]
def ia:CT->CT->Bool
 |.int k,.int k'=>decide (k=k')
 |.bool,.bool=>true
 |.str,.str=>true
 |.nat,.nat=>true
 |.row _ t,.row _ t'=>ia t t'
 |.nilr _,.nilr _=>true
 |.pair a b,.pair a' b'=>ia a a'&&ia b b'
 |_,_=>false
def EX:CT->CT->Bool
 |.int k,.int k'=>decide (k=k')
 |.bool,.bool=>true
 |.str,.str=>true
 |.nat,.nat=>true
 |.row o t,.row o' t'=>(o==o')&&EX t t'
 |.nilr o,.nilr o'=>o==o'
 |.nilr o,.row o' _=>o==o'
 |.pair a b,.pair a' b'=>EX a a'&&EX b b'
 |_,_=>false
def ii:CT->Nat
 |.pair a b=>ii a+ii b
 |.nat=>0
 |_=>1
def oV:CT->CT
 |.row true t=>.row false (oV t)
 |.nilr _=>.nilr false
 |.pair a b=>.pair (oV a) (oV b)
 |t=>t
def shT:CT->Nat->List Nat->Option CT
 |.pair a b,o,os=>if o<ii a then(shT a o os).map (.pair · b)else(shT b (o-ii a) os).map (.pair a ·)
 |t,0,[]=>some (oV t)
 |.row true t,0,o::os=>(shT t o os).map (.row true)
 |t,_,_=>some t
abbrev den:CT->Type
 |.int _=>Int
 |.bool=>Bool
 |.str=>ByteArray
 |.nat=>Nat
 |.row _ t=>List (den t)
 |.nilr _=>Unit
 |.pair a b=>den a×den b
theorem fF:∀{a b:CT},ia a b=true->den a=den b:=by
 intro a
 induction a with
 |int k=>intro b h;cases b<;>simp[ia]at h;rfl
 |bool=>intro b h;cases b<;>simp[ia]at h;rfl
 |str=>intro b h;cases b<;>simp[ia]at h;rfl
 |nat=>intro b h;cases b<;>simp[ia]at h;rfl
 |row o t ih=>intro b h;cases b<;>simp[ia]at h;simp only[den];rw[ih h]
 |nilr o=>intro b h;cases b<;>simp[ia]at h;rfl
 |pair x y Yb UY=>intro b h;cases b<;>simp[ia]at h;simp only[den];rw[Yb h.1,UY h.2]
def Nq:(t:CT)->den t
 |.int _=>(0:Int)
 |.bool=>false
 |.str=>ByteArray.empty
 |.nat=>(0:Nat)
 |.row _ _=>[]
 |.nilr _=>()
 |.pair a b=>(Nq a,Nq b)
def K8:(a b:CT)->den a->den b
 |.row _ t,.row _ t',xs=>List.map (K8 t t') xs
 |.pair a b,.pair a' b',x=>(K8 a a' x.1,K8 b b' x.2)
 |.int _,.int _,x=>x
 |.bool,.bool,x=>x
 |.str,.str,x=>x
 |.nat,.nat,x=>x
 |_,b,_=>Nq b
def enc:(t:CT)->den t->List TV
 |.int k,x=>[.v (.int k x)]
 |.bool,x=>[.v (.bool x)]
 |.str,x=>[.v (.string x)]
 |.nat,_=>[]
 |.row true t,xs=>[.ow (List.map (enc t) xs)]
 |.row false t,xs=>[.sl (List.map (enc t) xs)]
 |.nilr true,_=>[.ow []]
 |.nilr false,_=>[.sl []]
 |.pair a b,x=>enc a x.1++enc b x.2
def HL(D:CT->Type):List CT->Type
 | []=>Unit
 |t::ts=>D t×HL D ts
def xg:List (List CT)->Nat->List CT
 | [],_=>[]
 |l::_,0=>l
 |_::r,i+1=>xg r i
def wS:List (List CT)->Type
 | []=>Empty
 | [l]=>HL den l
 |l::m::r=>HL den l⊕wS (m::r)
def rI:(ls:List (List CT))->(i:Nat)->HL den (xg ls i)->Option (wS ls)
 | [],_,_=>none
 | [_],0,h=>some h
 | [_],_+1,_=>none
 |_::_::_,0,h=>some (.inl h)
 |_::m::r,i+1,h=>(rI (m::r) i h).map .inr
def Ou{α:Type}:(ls:List (List CT))->((i:Nat)->HL den (xg ls i)->α)->wS ls->α
 | [],_,o=>Empty.elim o
 | [_],f,o=>f 0 o
 |_::m::r,f,o=>match o with
  |.inl h=>f 0 h
  |.inr o'=>Ou (m::r) (λi h=>f (i+1) h) o'
def jI{α:Type}(ls:List (List CT))(o:wS ls)(f:(i:Nat)->HL den (xg ls i)->α):α:=Ou ls f o
structure Alg (D:CT->Type)(M:Type->Type) where
 lit:(k:IntKind)->Int->D (.int k)
 litB:Bool->D .bool
 litS:ByteArray->D .str
 litN:Nat->D .nat
 nilv:(o:Bool)->D (.nilr o)
 nil:(o:Bool)->(t:CT)->D (.row o t)
 recast:(t t':CT)->ia t t'=true->D t->D t'
 coe:(t t':CT)->D t->D t'
 mkp:(a b:CT)->D a->D b->D (.pair a b)
 fst:(a b:CT)->D (.pair a b)->D a
 snd:(a b:CT)->D (.pair a b)->D b
 ar:BinOp->(k:IntKind)->D (.int k)->D (.int k)->D (.int k)
 cm:BinOp->(k:IntKind)->D (.int k)->D (.int k)->D .bool
 sh:BinOp->(k:IntKind)->D (.int k)->D .nat->D (.int k)
 neg:(k:IntKind)->D (.int k)->D (.int k)
 not:D .bool->D .bool
 cv:(k k':IntKind)->D (.int k)->D (.int k')
 mm:Bool->(k:IntKind)->D (.int k)->D (.int k)->D (.int k)
 eqB:D .bool->D .bool->D .bool
 eqS:D .str->D .str->D .bool
 eqT:D .str->D .str->D .bool
 catOk:D .str->D .str->D .bool
 catS:D .str->D .str->D .str
 andB:D .bool->D .bool->D .bool
 ite:(t:CT)->D .bool->D t->D t->D t
 natI:D .nat->D (.int .i64)
 addN:D .nat->D .nat->D .nat
 subN:D .nat->D .nat->D .nat
 minN:D .nat->D .nat->D .nat
 len:(o:Bool)->(t:CT)->D (.row o t)->D .nat
 slOk:D .nat->D .nat->D .nat->D .bool
 ltN:D .nat->D .nat->D .bool
 eqN:D .nat->D .nat->D .bool
 win:(o:Bool)->(t:CT)->D (.row o t)->D .nat->D .nat->D (.row o t)
 appOk:Nat->D .nat->D .nat->D .bool
 cat:(t:CT)->(o:Bool)->D (.row true t)->D (.row o t)->D (.row true t)
 rowl:(o:Bool)->(t:CT)->List (D t)->D (.row o t)
 mkOk:D .nat->D .nat->Nat->D .bool
 rep:(t:CT)->D .nat->D t->D (.row true t)
 upd:(t:CT)->D (.row true t)->D .nat->(D t->D t)->D (.row true t)
 rowF:Nat->D (.row true (.int .i64))->D (.row true (.int .i64))
 rowN:D (.row true (.int .i64))->D .nat
 splice:(t:CT)->(o:Bool)->D (.row true t)->D .nat->D .nat->D (.row o t)->D (.row true t)
 strLen:D .str->D (.int .i64)
 strB:D .str->D (.row false (.int .u8))
 strOk:D .str->D .bool
 fail:{X:Type}->M X
 br:{X:Type}->D .bool->M X->M X->M X
 nat:{X:Type}->(k:IntKind)->D (.int k)->(D .nat->M X)->M X
 get:{X:Type}->(o:Bool)->(t:CT)->D (.row o t)->D .nat->(D t->M X)->M X
 strAt:{X:Type}->D .str->D .nat->(D (.int .u8)->M X)->M X
 bstr:{X:Type}->D (.row false (.int .u8))->(D .str->M X)->M X
 lt:{X:Type}->(t:CT)->D t->(D t->M X)->M X
 call:{X:Type}->Nat->(ins:List CT)->(outs:List (List CT))->(HL den ins->Option (wS outs))->HL D ins->((i:Nat)->HL D (xg outs i)->M X)->M X
 loop:{X:Type}->Nat->(s:List CT)->(outs:List (List CT))->HL D s->(HL D s->M (HL den s⊕wS outs))->((i:Nat)->HL D (xg outs i)->M X)->M X
 join:{X:Type}->(outs:List (List CT))->M (wS outs)->((i:Nat)->HL D (xg outs i)->M X)->M X
 next:(s:List CT)->(outs:List (List CT))->HL D s->M (HL den s⊕wS outs)
 exitL:(s:List CT)->(outs:List (List CT))->(i:Nat)->HL D (xg outs i)->M (HL den s⊕wS outs)
 out:(outs:List (List CT))->(i:Nat)->HL D (xg outs i)->M (wS outs)
def cl:Int->Option Nat
 |.ofNat n=>some n
 |.negSucc _=>none
def bV{α:Type}(xs:List α)(i:Nat):Option α:=xs[i]?
def PH(a b:Bool):Bool:=a==b
def PF(a b:ByteArray):Bool:=a==b
def IS(a b:ByteArray):Bool:=a.toList==b.toList
def Lb(a b:ByteArray):Bool:=decide (a.size+b.size<=9223372036854775807)
def OC(a b:ByteArray):ByteArray:=a++b
def bJ(n:Nat):Int:=(n:Int)
def PB(k:IntKind)(a:Int):Int:=k.wrap (0-a)
def mmR(mx:Bool)(a b:Int):Int:=if mx then(if a<b then b else a)else(if b<a then b else a)
def pO{α:Type}(xs:List α)(l n:Nat):List α:=(xs.drop l).take n
def df(l h n:Nat):Bool:=l<=h&&decide (h<=n)
def b6(bytes n m:Nat):Bool:=decide (n+m<=1099511627776)&&decide ((n+m)*bytes<=140737488355328)
def gk(n m sz:Nat):Bool:=decide (n=m)&&decide (n*sz<=16777216)
def pi{α:Type}(xs:List α)(lo m:Nat)(ys:List α):List α:=xs.take lo++ys.take m++xs.drop (lo+m)
def Lv(s:ByteArray):List Int:=s.data.toList.map λb=>(b.toNat:Int)
def FF(s:ByteArray)(k:Nat):Option Int:=(s[k]?).map λb=>(b.toNat:Int)
def mK(l:List Int):ByteArray:=l.foldl (λr n=>r.push (UInt8.ofNat n.toNat)) ByteArray.empty
def bM{S T:Type}(f:S->Option (S⊕T)):Nat->S->Option T
 |0,_=>none
 |n+1,s=>(f s).bind λx=>match x with|.inl s'=>bM f n s'|.inr t=>some t
def NN:Nat:=18446744073709551616
def bI:Alg den Option where
 lit _ n:=n
 litB b:=b
 litS s:=s
 litN n:=n
 nilv _:=()
 nil _ _:=[]
 recast _ _ h x:=cast (fF h) x
 coe t t' x:=K8 t t' x
 mkp _ _ x y:=(x,y)
 fst _ _ x:=x.1
 snd _ _ x:=x.2
 ar op k a b:=arR op k a b
 cm op _ a b:=cmR op a b
 sh op k a n:=shR op k a n
 neg k a:=PB k a
 not b:=!b
 cv _ k' n:=k'.wrap n
 mm mx _ a b:=mmR mx a b
 eqB a b:=PH a b
 eqS a b:=PF a b
 eqT a b:=IS a b
 catOk a b:=Lb a b
 catS a b:=OC a b
 andB a b:=a&&b
 ite _ c a b:=bif c then a else b
 natI n:=bJ n
 addN a b:=Nat.add a b
 subN a b:=Nat.sub a b
 minN a b:=Nat.min a b
 len _ _ xs:=List.length xs
 slOk l h n:=df l h n
 ltN a b:=Nat.blt a b
 eqN a b:=Nat.beq a b
 win _ _ xs l n:=pO xs l n
 appOk b n m:=b6 b n m
 cat _ _ xs ys:=List.append xs ys
 rowl _ _ l:=l
 mkOk n m sz:=gk n m sz
 rep _ n x:=List.replicate n x
 upd _ xs i f:=List.modify xs i f
 rowF k xs:=t6 k xs
 rowN xs:=rowN xs
 splice _ _ xs lo m ys:=pi xs lo m ys
 strLen s:=(ByteArray.size s:Int)
 strB s:=Lv s
 strOk s:=decide (ByteArray.size s<4294967296)
 fail:=none
 br c a b:=bif c then a else b
 nat _ n k:=(cl n).bind k
 get _ _ xs i k:=(bV xs i).bind k
 strAt s i k:=(FF s i).bind k
 bstr l k:=k (mK l)
 lt _ x k:=k x
 call _ _ outs g h k:=(g h).bind λo=>jI outs o k
 loop _ _ outs h body k:=(bM body NN h).bind λo=>jI outs o k
 join outs m k:=m.bind λo=>jI outs o k
 next _ _ h:=some (.inl h)
 exitL _ outs i h:=(rI outs i h).map .inr
 out outs i h:=rI outs i h
structure XP (D:CT->Type) where
 root:Nat
 off:Nat
 hops:List (D .nat×Nat×Nat)
inductive XV (D:CT->Type) where
 |d (t:CT) (x:D t)
 |k (x:Value)
 |dead
 |ptr (p:XP D) (vs:List Nat)
 |ip (cs:List (XV D))
 |pk (p:XP D) (vs:List Nat)
 |pw (p:XP D) (vs:List Nat) (sz:Nat) (lo n:D .nat)
 |agg (l:List (XV D))
 |tup (l:List (XV D))
 |fn (f:FuncId) (cap:List (XV D))
 |gap (t:CT) (x:D (.row true t)) (i:D .nat) (o:Nat)
 |half (t:CT) (x:D (.row true (.row true t))) (m:D .nat)
structure XS (D:CT->Type) where
 tm:List (Nat×XV D)
 ce:List (Nat×List (XV D))
 vr:List (Key×Nat)
 lg:oN
abbrev Sh:=XV λ_=>Unit
abbrev Shs:=XS λ_=>Unit
abbrev shU(t:CT):Sh:=.d t ()
structure XO where
 cells:List Sh
 sh:List RSh
 pts:List (Nat×List Sh)
def BR:List (Unit×Nat×Nat)->List CT->List CT
 | [],r=>r
 |_::hs,r=>.nat::BR hs r
mutual
def lv:Sh->List CT->List CT
 |.d t _,r=>t::r
 |.ip l,r=>lvL l r
 |.agg l,r=>lvL l r
 |.tup l,r=>lvL l r
 |.fn _ l,r=>lvL l r
 |.k _,r=>r
 |.dead,r=>r
 |.ptr p _,r=>BR p.hops r
 |.pk p _,r=>BR p.hops r
 |.pw _ _ _ _ _,r=>r
 |.gap t _ _ _,r=>.row true t :: .nat::r
 |.half t _ _,r=>.row true (.row true t) :: .nat::r
def lvL:List Sh->List CT->List CT
 | [],r=>r
 |x::xs,r=>lv x (lvL xs r)
end
def lvP:List (Nat×List Sh)->List CT->List CT
 | [],r=>r
 |x::xs,r=>lvL x.2 (lvP xs r)
def lvT:List (Nat×Sh)->List CT->List CT
 | [],r=>r
 |x::xs,r=>lv x.2 (lvT xs r)
def lvS(s:Shs):List CT:=lvT s.tm (lvP s.ce [])
def lvO(o:XO):List CT:=lvL o.cells (lvP o.pts [])
structure Ctr where
 f:FuncId
 id:Nat
 ins:List Sh
 pts:List (Nat×List Sh)
 outs:List XO
 g:HL den (lvL ins (lvP pts []))->Option (wS (outs.map lvO))
structure AY where
 i:Nat
 nm:Nat
 s:Shs
 outs:List (iO×Shs)
section
variable {D:CT->Type}
def XP.bare(p:XP D):Bool:=match p.hops with | []=>true|_::_=>false
def Ps(p:XP λ_=>Unit):XP D:=⟨p.root,p.off,[]⟩
def uJ:(hs:List (Unit×Nat×Nat))->(r:List CT)->HL D (BR hs r)->List (D .nat×Nat×Nat)×HL D r
 | [],_,h=>([],h)
 |(_,sz,o)::hs,r,h=>((h.1,sz,o)::(uJ hs r h.2).1,(uJ hs r h.2).2)
def Ci:(hs:List (Unit×Nat×Nat))->List (D .nat×Nat×Nat)->(r:List CT)->HL D r->Option (HL D (BR hs r))
 | [],[],_,h=>some h
 |(_,sz,o)::hs,(i,sz',o')::hs',r,h=>if sz=sz'/\o=o' then(Ci hs hs' r h).map λh1=>(i,h1)else none
 |_,_,_,_=>none
mutual
def fill:(s:Sh)->(r:List CT)->HL D (lv s r)->XV D×HL D r
 |.d t _,_,h=>(.d t h.1,h.2)
 |.ip l,r,h=>(.ip (gP l r h).1,(gP l r h).2)
 |.agg l,r,h=>(.agg (gP l r h).1,(gP l r h).2)
 |.tup l,r,h=>(.tup (gP l r h).1,(gP l r h).2)
 |.fn f l,r,h=>(.fn f (gP l r h).1,(gP l r h).2)
 |.k x,_,h=>(.k x,h)
 |.dead,_,h=>(.dead,h)
 |.ptr p vs,r,h=>(.ptr ⟨p.root,p.off,(uJ p.hops r h).1⟩ vs,(uJ p.hops r h).2)
 |.pk p vs,r,h=>(.pk ⟨p.root,p.off,(uJ p.hops r h).1⟩ vs,(uJ p.hops r h).2)
 |.pw _ _ _ _ _,_,h=>(.dead,h)
 |.gap t _ _ o,_,h=>(.gap t h.1 h.2.1 o,h.2.2)
 |.half t _ _,_,h=>(.half t h.1 h.2.1,h.2.2)
def gP:(s:List Sh)->(r:List CT)->HL D (lvL s r)->List (XV D)×HL D r
 | [],_,h=>([],h)
 |x::xs,r,h=>((fill x (lvL xs r) h).1::(gP xs r (fill x (lvL xs r) h).2).1,(gP xs r (fill x (lvL xs r) h).2).2)
end
def qG:(s:List (Nat×List Sh))->(r:List CT)->HL D (lvP s r)->List (Nat×List (XV D))×HL D r
 | [],_,h=>([],h)
 |x::xs,r,h=>((x.1,(gP x.2 (lvP xs r) h).1)::(qG xs r (gP x.2 (lvP xs r) h).2).1,(qG xs r (gP x.2 (lvP xs r) h).2).2)
def yA:(s:List (Nat×Sh))->(r:List CT)->HL D (lvT s r)->List (Nat×XV D)×HL D r
 | [],_,h=>([],h)
 |x::xs,r,h=>((x.1,(fill x.2 (lvT xs r) h).1)::(yA xs r (fill x.2 (lvT xs r) h).2).1,(yA xs r (fill x.2 (lvT xs r) h).2).2)
def B8(s:Shs)(h:HL D (lvS s)):XS D:=⟨(yA s.tm _ h).1,(qG s.ce [] (yA s.tm _ h).2).1,s.vr,([],[])⟩
def j7:(outs:List XO)->(i:Nat)->HL D (xg (outs.map lvO) i)->Option (List (XV D)×List RSh×List (Nat×List (XV D)))
 | [],_,_=>none
 |o::_,0,h=>some ((gP o.cells _ h).1,o.sh,(qG o.pts [] (gP o.cells _ h).2).1)
 |_::r,i+1,h=>j7 r i h
def so:(outs:List (iO×Shs))->(i:Nat)->HL D (xg (outs.map λx=>lvS x.2) i)->Option (iO×XS D)
 | [],_,_=>none
 |o::_,0,h=>some (o.1,B8 o.2 h)
 |_::r,i+1,h=>so r i h
end
section
variable {D:CT->Type} {M:Type->Type} (A:Alg D M)
def H7:Value->Value->Bool
 |.pointer none,.pointer none=>true
 |.nilFunc,.nilFunc=>true
 |.nilIface,.nilIface=>true
 |_,_=>false
def asT(t u:CT)(x:D t):Option (D u):=
 if h:mF t u=true then some (lh h▸x)else if EX t u then some (A.coe t u x)else none
def KQ(p:XP λ_=>Unit)(q:XP D):Bool:=p.root==q.root&&p.off==q.off&&p.bare&&q.bare
mutual
def conv:(s:Sh)->XV D->(r:List CT)->HL D r->Option (HL D (lv s r))
 |.d u _,.d t x,_,h=>(asT A t u x).map λy=>(y,h)
 |.ip l,.ip l',r,h=>s9 l l' r h
 |.agg l,.agg l',r,h=>s9 l l' r h
 |.tup l,.tup l',r,h=>s9 l l' r h
 |.fn f l,.fn f' l',r,h=>if f=f' then s9 l l' r h else none
 |.k x,.k y,_,h=>if H7 x y then some h else none
 |.dead,.dead,_,h=>some h
 |.ptr p vs,.ptr q ws,r,h=>if p.root==q.root&&p.off==q.off&&vs==ws then Ci p.hops q.hops r h else none
 |.pk p vs,.pk q ws,r,h=>if p.root==q.root&&p.off==q.off&&vs==ws then Ci p.hops q.hops r h else none
 |.gap t _ _ o,.gap t' x i o',_,h=>if o=o' then(asT A (.row true t') (.row true t) x).map λy=>(y,i,h)else none
 |.half t _ _,.half t' x m,_,h=>if e:mF t' t=true then some (lh e▸x,m,h)else none
 |_,_,_,_=>none
def s9:(s:List Sh)->List (XV D)->(r:List CT)->HL D r->Option (HL D (lvL s r))
 | [],[],_,h=>some h
 |s::ss,x::xs,r,h=>(s9 ss xs r h).bind λh1=>conv s x (lvL ss r) h1
 |_,_,_,_=>none
end
end
abbrev XM(D:CT->Type)(M:Type->Type)(X α:Type):=XS D->(α->XS D->M X)->M X
def JI{α:Type}:List α->Nat->Option α
 | [],_=>none
 |x::_,0=>some x
 |_::r,i+1=>JI r i
namespace X
section
variable {D:CT->Type} {M:Type->Type} {X:Type} (A:Alg D M) {α β:Type}
def ret(a:α):XM D M X α:=fun σ k=>k a σ
def bind(m:XM D M X α)(f:α->XM D M X β):XM D M X β:=fun σ k=>m σ λa σ'=>f a σ' k
def fail:XM D M X α:=λ_ _=>A.fail
def brM(c:D .bool)(m:XM D M X α):XM D M X α:=fun σ k=>A.br c (m σ k) A.fail
def forkM(c:D .bool)(m m':XM D M X α):XM D M X α:=fun σ k=>A.br c (m σ k) (m' σ k)
def caseM(k:D .nat):Nat->(Nat->XM D M X α)->Nat->XM D M X α
 |0,_,_=>fail A
 |n+1,f,i=>forkM A (A.eqN k (A.litN i)) (f i) (caseM k n f (i+1))
def optM(o:Option α):XM D M X α:=fun σ k=>match o with|some a=>k a σ |none=>A.fail
def tOf(σ:XS D)(i:Nat):XV D:=(b9 σ.tm i).getD .dead
def cOf(σ:XS D)(r o:Nat):XV D:=match b9 σ.ce r with|some l=>l.getD o .dead|none=>.dead
def lgR(x:Loc)(σ:XS D):XS D:=⟨σ.tm,σ.ce,σ.vr,(x :: σ.lg.1,σ.lg.2)⟩
def letL:List (XV D)->(List (XV D)->M X)->M X
 | [],k=>k []
 |.d t x::r,k=>A.lt t x λy=>letL r λr'=>k (.d t y::r')
 |t::r,k=>letL r λr'=>k (t::r')
def letX(t:XV D)(k:XV D->M X):M X:=
 match t with
 |.d t x=>A.lt t x λy=>k (.d t y)
 |.agg l=>letL A l λl'=>k (.agg l')
 |t=>k t
def rdT(i:Nat):XM D M X (XV D):=fun σ k=>k (tOf σ i) (lgR (.t i) σ)
def rdC(r o:Nat):XM D M X (XV D):=fun σ k=>k (cOf σ r o) (lgR (.c r o) σ)
def rdK(r o:Nat):XM D M X (XV D):=fun σ k=>k (cOf σ r o) (lgR (.h r o) σ)
def rdV(q:Key):XM D M X Nat:=fun σ k=>k (pd σ.vr q) (lgR (.v q) σ)
def wrT(i:Nat)(t:XV D):XM D M X Unit:=fun σ k=>letX A t λt'=>k () ⟨dp σ.tm i t',σ.ce,σ.vr,(σ.lg.1,.t i :: σ.lg.2)⟩
def wrC(r o:Nat)(t:XV D):XM D M X Unit:=fun σ k=>match b9 σ.ce r with
 |some l=>if o<l.length then letX A t λt'=>k () ⟨σ.tm,dp σ.ce r (l.set o t'),σ.vr,(.n r :: .h r o :: σ.lg.1,.c r o :: .h r o :: σ.lg.2)⟩else A.fail
 |none=>A.fail
def wrI(r o:Nat)(t:XV D):XM D M X Unit:=fun σ k=>match b9 σ.ce r with
 |some l=>if o<l.length then letX A t λt'=>k () ⟨σ.tm,dp σ.ce r (l.set o t'),σ.vr,(.n r :: .h r o :: σ.lg.1,.c r o :: σ.lg.2)⟩else A.fail
 |none=>A.fail
def new(r:Nat)(l:List (XV D)):XM D M X Unit:=fun σ k=>letL A l λl'=>k () ⟨σ.tm,dp σ.ce r l',nv σ.vr (r,0,0),(.v (r,0,0) :: σ.lg.1,.n r :: .v (r,0,0) :: σ.lg.2)⟩
def bump(q:Key):XM D M X Unit:=fun σ k=>k () ⟨σ.tm,σ.ce,nv σ.vr q,(.v q :: σ.lg.1,.v q :: σ.lg.2)⟩
def cellX:Value->XV D
 |.slice none 0 0=>.d (.nilr true) (A.nilv true)
 |.int k n=>.d (.int k) (A.lit k n)
 |.bool b=>.d .bool (A.litB b)
 |.string s=>.d .str (A.litS s)
 |x=>if gc x then .k x else .dead
def constX:Value->XV D
 |.agg cs=>.agg (cs.toList.map (cellX A))
 |x=>cellX A x
def opd:Opd->XM D M X (XV D)
 |.t i=>rdT i
 |.c x=>ret (constX A x)
 |.f f=>ret (.fn f [])
def rdVs:List Key->XM D M X (List Nat)
 | []=>ret []
 |q::qs=>bind (rdV q) λn=>bind (rdVs qs) λl=>ret (n::l)
def chk(p:XP D)(n:Nat)(vs:List Nat):XM D M X Unit:=bind (rdVs (nN p.root p.off n)) λl=>if l=vs then ret ()else fail A
def addP(p:XP D)(n:Nat):XP D:=
 match p.hops.reverse with
 | []=>⟨p.root,p.off+n,[]⟩
 |(i,sz,o)::r=>⟨p.root,p.off,((i,sz,o+n)::r).reverse⟩
def atP(p:XP D)(i:D .nat)(sz:Nat):XP D:=⟨p.root,p.off,p.hops++[(i,sz,0)]⟩
def fitsP(p:XP D)(n:Nat):Bool:=
 match p.hops.reverse with
 | []=>true
 |(_,sz,o)::_=>decide (o+n<sz)
def splitX:(t:CT)->D t->List (XV D)
 |.pair a b,x=>splitX a (A.fst a b x)++splitX b (A.snd a b x)
 |.nat,_=>[]
 |.int k,x=>[.d (.int k) x]
 |.bool,x=>[.d .bool x]
 |.str,x=>[.d .str x]
 |.row o t,x=>[.d (.row o t) x]
 |.nilr o,x=>[.d (.nilr o) x]
def getX:XV D->List (D .nat×Nat×Nat)->(XV D->M X)->M X
 |t,[],k=>k t
 |.d (.row true t) xs,(i,sz,o)::hs,k=>if ii t=sz then A.get true t xs i λe=>match JI (splitX A t e) o with|some v=>getX v hs k|none=>A.fail else A.fail
 |.half t xs m,[(i,sz,o)],k=>if hh:sz=1/\o=0/\ia (.row true t) (.row false t)=true then A.br (A.slOk m i i) (A.get true (.row true t) xs i λe=>k (.d (.row false t) (A.recast (.row true t) (.row false t) hh.2.2 e))) A.fail else A.fail
 |_,_::_,_=>A.fail
def elemX:XV D->List (D .nat×Nat×Nat)->((t:CT)->D t->M X)->M X
 |.d (.row true t) xs,[(i,sz,_)],k=>if ii t=sz then A.get true t xs i (k t)else A.fail
 |.d (.row true t) xs,(i,sz,o)::h::hs,k=>if ii t=sz then A.get true t xs i λe=>match JI (splitX A t e) o with|some v=>elemX v (h::hs) k|none=>A.fail else A.fail
 |_,_,_=>A.fail
def getM(tv:XV D)(hs:List (D .nat×Nat×Nat))(g:XV D->XM D M X α):XM D M X α:=fun σ k=>getX A tv hs λv=>g v σ k
def elemM(tv:XV D)(hs:List (D .nat×Nat×Nat))(g:(t:CT)->D t->XM D M X α):XM D M X α:=fun σ k=>elemX A tv hs λt e=>g t e σ k
def atM(o:Bool)(t:CT)(xs:D (.row o t))(i:D .nat)(g:D t->XM D M X α):XM D M X α:=fun σ k=>A.get o t xs i λe=>g e σ k
def natM(kd:IntKind)(n:D (.int kd))(g:D .nat->XM D M X α):XM D M X α:=fun σ k=>A.nat kd n λm=>g m σ k
def NL(s:D .str)(i:D .nat)(g:D (.int .u8)->XM D M X α):XM D M X α:=fun σ k=>A.strAt s i λb=>g b σ k
def Po(c:D (.row false (.int .u8)))(g:D .str->XM D M X α):XM D M X α:=fun σ k=>A.bstr c λs=>g s σ k
def lastO:List (D .nat×Nat×Nat)->Nat
 | []=>0
 | [(_,_,o)]=>o
 |_::h::hs=>lastO (h::hs)
def setD:(t:CT)->Nat->((u:CT)->Option (D u->D u))->Option (D t->D t)
 |.pair a b,o,g=>if o<ii a then(setD a o g).map λh e=>A.mkp a b (h (A.fst a b e)) (A.snd a b e)else(setD b (o-ii a) g).map λh e=>A.mkp a b (A.fst a b e) (h (A.snd a b e))
 |.nat,_,_=>none
 |.int k,0,g=>g (.int k)
 |.bool,0,g=>g .bool
 |.str,0,g=>g .str
 |.row o t,0,g=>g (.row o t)
 |.nilr o,0,g=>g (.nilr o)
 |_,_+1,_=>none
def asF(v:XV D)(u:CT):Option (D u->D u):=
 match v with
 |.d t x=>(asT A t u x).map λy _=>y
 |_=>none
def setDs(t:CT):Nat->List (XV D)->Option (D t->D t)
 |_,[]=>none
 |o,[v]=>setD A t o (asF A v)
 |o,v::w::vs=>match setD A t o (asF A v),setDs t (o+1) (w::vs)with|some f,some g=>some λe=>g (f e)|_,_=>none
def setH:List (D .nat×Nat×Nat)->XV D->(u:CT)->Option (D u->D u)
 | [],v,u=>asF A v u
 |(i,sz,o)::hs,v,.row true t=>if ii t=sz then(setD A t o (setH hs v)).map λf xs=>A.upd t xs i f else none
 |_::_,_,_=>none
def setX:XV D->List (D .nat×Nat×Nat)->XV D->Option (XV D)
 |_,[],v=>some v
 |.d u x,h::hs,v=>(setH A (h::hs) v u).map λf=>.d u (f x)
 |_,_::_,_=>none
def setHs:List (D .nat×Nat×Nat)->List (XV D)->(u:CT)->Option (D u->D u)
 | [(i,sz,o)],vs,.row true t=>if ii t=sz then(setDs A t o vs).map λf xs=>A.upd t xs i f else none
 |(i,sz,o)::h::hs,vs,.row true t=>if ii t=sz then(setD A t o (setHs (h::hs) vs)).map λf xs=>A.upd t xs i f else none
 |_,_,_=>none
def setXs:XV D->List (D .nat×Nat×Nat)->List (XV D)->Option (XV D)
 |.d u x,hs,vs=>(setHs A hs vs u).map λf=>.d u (f x)
 |_,_,_=>none
def immX:XV D->Option (XV D)
 |.d (.int k) x=>some (.d (.int k) x)
 |.d .bool x=>some (.d .bool x)
 |.d .str x=>some (.d .str x)
 |.d (.row false t) x=>some (.d (.row false t) x)
 |.d (.nilr _) _=>some (.d (.nilr false) (A.nilv false))
 |.d (.row true t) x=>if h:ia (.row true t) (.row false (oV t))=true then some (.d (.row false (oV t)) (A.recast _ _ h x))else none
 |.k x=>some (.k x)
 |_=>none
def immXL:List (XV D)->Option (List (XV D))
 | []=>some []
 |x::r=>match immX A x,immXL r with|some y,some l=>some (y::l)|_,_=>none
def shareX:XV D->List Nat->Option (XV D)
 |.d t x,os=>match shT t 0 os with|some t'=>if h:ia t t'=true then some (.d t' (A.recast t t' h x))else none|none=>none
 |_,_=>none
def getPl(p:XP D):XM D M X (XV D):=bind (rdC p.root p.off) λtv=>getM A tv p.hops ret
def hdPl(p:XP D):XM D M X (XV D):=match p.hops with
 | []=>rdK p.root p.off
 |_::_=>getPl A p
def hopOs(hs:List (D .nat×Nat×Nat)):List Nat:=hs.map λh=>h.2.2
def Pj:CT->Bool
 |.int _=>false
 |.bool=>false
 |.str=>false
 |_=>true
def oneT:CT->Bool
 |.nat=>false
 |.pair _ _=>false
 |_=>true
def isOwT:CT->Bool
 |.row o _=>o
 |.nilr o=>o
 |_=>false
def isOwX:XV D->Bool
 |.d t _=>isOwT t
 |.gap _ _ _ _=>true
 |.half _ _ _=>true
 |_=>false
def isHdrX:XV D->Bool
 |.d t _=>Pj t
 |.k _=>false
 |_=>true
def winX(lo n:D .nat):XV D->Option (XV D)
 |.d (.row true t) xs=>match immX A (.d (.row true t) xs)with|some (.d (.row false t') ys)=>some (.d (.row false t') (A.win false t' ys lo n))|_=>none
 |.d (.nilr true) _=>some (.d (.nilr false) (A.nilv false))
 |_=>none
def gapX:XV D->List (D .nat×Nat×Nat)->Option (XV D)
 |.d (.row true t) xs,[(i,_,o)]=>some (.gap t xs i o)
 |_,_=>none
def take1(mv:Bool):XV D->XM D M X (XV D)
 |.d (.row true _) _=>fail A
 |.d .nat _=>fail A
 |.d (.pair _ _) _=>fail A
 |.d (.nilr o) x=>if mv then ret (.d (.nilr o) x)else ret (.d (.nilr false) (A.nilv false))
 |.d t x=>ret (.d t x)
 |.k x=>ret (.k x)
 |.pk p vs=>bind (chk A p (p.hops.length+1) vs) λ_=>bind (rdC p.root p.off) λtv=>getM A tv p.hops λv=>
  if isOwX v then
   if mv then(if XP.bare p then(bind (wrC A p.root p.off .dead) λ_=>bind (bump (p.root,p.off,p.hops.length+1)) λ_=>ret v)else bind (optM A (gapX tv p.hops)) λYq=>bind (wrI A p.root p.off Yq) λ_=>bind (bump (p.root,p.off,p.hops.length+1)) λ_=>ret v)
   else bind (optM A (shareX A tv (hopOs p.hops))) λYq=>bind (optM A (immX A v)) λv'=>bind (if XP.bare p then wrC A p.root p.off Yq else wrI A p.root p.off Yq) λ_=>bind (bump (p.root,p.off,p.hops.length+1)) λ_=>ret v'
  else fail A
 |.pw p vs _ lo n=>bind (chk A p (p.hops.length+1) vs) λ_=>bind (rdC p.root p.off) λtv=>getM A tv p.hops λv=>
  bind (optM A (shareX A tv (hopOs p.hops))) λYq=>bind (optM A (winX A lo n v)) λv'=>bind (wrC A p.root p.off Yq) λ_=>bind (bump (p.root,p.off,p.hops.length+1)) λ_=>ret v'
 |_=>fail A
def takeL(mv:Bool):List (XV D)->XM D M X (List (XV D))
 | []=>ret []
 |t::r=>bind (take1 A mv t) λt'=>bind (takeL mv r) λr'=>ret (t'::r')
def cellsX:XV D->List (XV D)
 |.agg l=>l
 |t=>[t]
def takeV(mv:Bool)(t:XV D):XM D M X (List (XV D)×Bool):=
 match t with
 |.agg l=>bind (takeL A mv l) λl'=>ret (l',true)
 |t=>bind (take1 A mv t) λt'=>ret ([t'],false)
def putB(r:Nat):Nat->List (XV D)->XM D M X Unit
 |_,[]=>ret ()
 |o,t::l=>bind (rdC r o) λold=>bind (wrC A r o t) λ_=>bind (if isHdrX old||isHdrX t then bump (r,o,1)else ret ()) λ_=>putB r (o+1) l
def bumps(q:Key):Nat->XM D M X Unit
 |0=>ret ()
 |n+1=>bind (bump q) λ_=>bumps q n
def hdrs:List (XV D)->List (XV D)->Nat
 |a::r,b::s=>(if isHdrX a||isHdrX b then 1 else 0)+hdrs r s
 |_,_=>0
def putEl(r off:Nat)(i:D .nat)(sz o:Nat)(l:List (XV D)):XV D->XM D M X Unit
 |.d (.row true t) xs=>if ii t=sz/\o+l.length<=sz/\0<l.length then atM A true t xs i λe=>bind (optM A (setDs A t o l)) λf=>bind (wrI A r off (.d (.row true t) (A.upd t xs i f))) λ_=>bumps (r,off,2) (hdrs ((splitX A t e).drop o) l)else fail A
 |.gap t xs i' o'=>if ii t=sz/\o=o'/\o<sz/\l.length=1 then atM A true t xs i λ_=>brM A (A.eqN i i') (bind (optM A (setDs A t o l)) λf=>bind (wrI A r off (.d (.row true t) (A.upd t xs i f))) λ_=>bump (r,off,2))else fail A
 |.half t xs m=>match l with
  | [.d u y]=>match asT A u (.row true t) y with
   |some z=>if sz=1/\o=0 then atM A true (.row true t) xs i λ_=>brM A (A.eqN i m) (bind (wrI A r off (.half t (A.upd (.row true t) xs i λ_=>z) (A.addN m (A.litN 1)))) λ_=>bump (r,off,2))else fail A
   |none=>fail A
  |_=>fail A
 |_=>fail A
def putL(p:XP D)(l:List (XV D)):XM D M X Unit:=
 match p.hops with
 | []=>putB A p.root p.off l
 | [(i,sz,o)]=>bind (rdC p.root p.off) (putEl A p.root p.off i sz o l)
 |hs=>bind (rdC p.root p.off) λtv=>elemM A tv hs λt e=>
  if lastO hs+l.length<=ii t/\0<l.length/\(((splitX A t e).drop (lastO hs)).take l.length).all (λv=>!isHdrX v)=true/\l.all (λv=>!isHdrX v)=true then bind (optM A (setXs A tv hs l)) λYq=>wrI A p.root p.off Yq else fail A
def peek1(p:XP D):XV D->XM D M X (XV D)
 |.k x=>ret (.k x)
 |.d t x=>if isOwT t then bind (rdVs (nN p.root p.off (p.hops.length+1))) λvs=>ret (.pk p vs)else if oneT t then ret (.d t x)else fail A
 |_=>fail A
def peekP(p:XP D):XM D M X (XV D):=match p.hops with
 | []=>bind (rdK p.root p.off) λt=>if isOwX t then bind (rdVs (nN p.root p.off 1)) λvs=>ret (.pk p vs)else bind (getPl A p) (peek1 A p)
 |_::_=>bind (getPl A p) (peek1 A p)
def peekB(r:Nat):Nat->Nat->XM D M X (List (XV D))
 |_,0=>ret []
 |o,n+1=>bind (rdC r o) λt=>bind (peek1 A ⟨r,o,[]⟩ t) λt'=>bind (peekB r (o+1) n) λl=>ret (t'::l)
def peekCs(p:XP D):List (XV D)->XM D M X (List (XV D))
 | []=>ret []
 |t::r=>bind (peek1 A p t) λt'=>bind (peekCs (addP p 1) r) λl=>ret (t'::l)
def peekL(p:XP D)(n:Nat):XM D M X (List (XV D)):=
 match p.hops with
 | []=>peekB A p.root p.off n
 |_::_=>bind (rdC p.root p.off) λtv=>elemM A tv p.hops λt e=>if lastO p.hops+n<=ii t/\0<n then peekCs A p (((splitX A t e).drop (lastO p.hops)).take n)else fail A
def nameL(r:Nat):Nat->List (XV D)->XM D M X (List (XV D))
 |_,[]=>ret []
 |i,t::l=>if isOwX t then bind (rdV (r,0,0)) λg=>bind (rdV (r,i,1)) λh=>bind (nameL r (i+1) l) λl'=>ret (.pk ⟨r,i,[]⟩ [g,h]::l')else bind (nameL r (i+1) l) λl'=>ret (t::l')
def names(d:Nat)(l:List (XV D)):XM D M X (List (XV D)):=if l.any isOwX then bind (new A (2*d+3) l) λ_=>nameL (2*d+3) 0 l else ret l
def shapedX(agg:Bool)(l:List (XV D)):XV D:=if agg then .agg l else l.headD .dead
def inst(d:Nat)(agg:Bool)(l:List (XV D)):XM D M X Unit:=bind (names A d l) λl'=>wrT A d (shapedX agg l')
def natOf:XV D->XM D M X (D .nat)
 |.d (.int k) n=>natM A k n ret
 |_=>fail A
def lenOf:XV D->XM D M X (D .nat)
 |.d (.row false t) xs=>ret (A.len false t xs)
 |.d (.nilr _) _=>ret (A.litN 0)
 |.pk p vs=>bind (chk A p (p.hops.length+1) vs) λ_=>bind (hdPl A p) λt=>match t with
  |.d (.row true t) xs=>ret (A.len true t xs)
  |.d (.nilr true) _=>ret (A.litN 0)
  |.half t xs _=>ret (A.len true (.row true t) xs)
  |_=>fail A
 |.pw p vs _ _ n=>bind (chk A p (p.hops.length+1) vs) λ_=>ret n
 |_=>fail A
def optNat:Option Opd->D .nat->XM D M X (D .nat)
 |some o,_=>bind (opd A o) (natOf A)
 |none,d=>ret d
def takeParts(mv:Bool):List (Nat×Nat×Opd)->XM D M X (List (XV D))
 | []=>ret []
 |(_,n,x)::r=>bind (opd A x) λt=>bind (takeL A mv (cellsX t)) λl=>if l.length=n then bind (takeParts mv r) λl'=>ret (l++l')else fail A
def placeX(cells:List (XV D))(off:Nat):List (XV D)->List (XV D)
 | []=>cells
 |t::r=>placeX (cells.set off t) (off+1) r
def assembleX(cells:List (XV D)):List (Nat×Nat×Opd)->List (XV D)->List (XV D)
 | [],_=>cells
 |(off,n,_)::r,l=>assembleX (placeX cells off (l.take n)) r (l.drop n)
def chunksX(sz:Nat):Nat->List (XV D)->List (List (XV D))
 |0,_=>[]
 |n+1,l=>l.take sz::chunksX sz n (l.drop sz)
def isVSX:XV D->Bool
 |.d (.int _) _=>true
 |.d .bool _=>true
 |.d .str _=>true
 |.k _=>true
 |_=>false
def okCellX:XV D->Bool
 |.d (.row true _) _=>false
 |.d .nat _=>false
 |.d (.pair _ _) _=>false
 |.d _ _=>true
 |.k _=>true
 |_=>false
def OW:List (XV D)->Option CT
 | []=>none
 | [.d t _]=>some t
 |.d t _::r=>(OW r).map (.pair t)
 |_::_=>none
def CJ:CT->CT->CT
 |.nilr _,.row o t=>.row o t
 |.row o t,.row _ t'=>.row o (CJ t t')
 |.pair a b,.pair a' b'=>.pair (CJ a a') (CJ b b')
 |t,_=>t
def joinC(t:CT):List (XV D)->Option (D t×List (XV D))
 |.d u x::r=>(asT A u t x).map λy=>(y,r)
 |_=>none
def joinX:(t:CT)->List (XV D)->Option (D t×List (XV D))
 |.pair a b,l=>match joinX a l with
  |some (x,r)=>match joinX b r with
   |some (y,r')=>some (A.mkp a b x y,r')
   |none=>none
  |none=>none
 |.nat,_=>none
 |.int k,l=>joinC A (.int k) l
 |.bool,l=>joinC A .bool l
 |.str,l=>joinC A .str l
 |.row o t,l=>joinC A (.row o t) l
 |.nilr o,l=>joinC A (.nilr o) l
def joinOne(t:CT)(l:List (XV D)):Option (D t):=match joinX A t l with|some (x,[])=>some x|_=>none
def joinAll(t:CT):List (List (XV D))->Option (List (D t))
 | []=>some []
 |l::r=>match joinOne A t l,joinAll t r with|some x,some xs=>some (x::xs)|_,_=>none
def NE:List (List (XV D))->Option CT
 | []=>none
 | [l]=>OW l
 |l::r=>match OW l,NE r with|some t,some t'=>some (CJ t t')|_,_=>none
def Dw:CT->Bool
 |.nilr _=>true
 |.row _ t=>Dw t
 |.pair a b=>Dw a||Dw b
 |_=>false
def CK:CT->CT->CT
 |.nilr o,.row _ t=>.row o t
 |.row o t,.row _ t'=>.row o (CK t t')
 |.pair a b,.pair a' b'=>.pair (CK a a') (CK b b')
 |t,_=>t
def resT(Zs:Option CT)(t:CT):CT:=if Dw t then CK t (Zs.getD t)else t
def rowOf(Zs:Option CT)(ls:List (List (XV D))):Option (XV D):=
 match ls with
 | []=>some (.d (.nilr true) (A.nilv true))
 |_=>match NE ls with
  |some t=>(joinAll A (resT Zs t) ls).map λes=>.d (.row true (resT Zs t)) (A.rowl true (resT Zs t) es)
  |none=>none
def repOf(Zs:Option CT)(n:D .nat)(l:List (XV D)):Option (XV D):=
 match OW l with
 |some t=>(joinOne A (resT Zs t) l).map λe=>.d (.row true (resT Zs t)) (A.rep (resT Zs t) n e)
 |none=>none
def contentOf:XV D->XM D M X (XV D)
 |.d (.row false t) xs=>ret (.d (.row false t) xs)
 |.d (.nilr _) _=>ret (.d (.nilr false) (A.nilv false))
 |.pk p vs=>bind (chk A p (p.hops.length+1) vs) λ_=>bind (getPl A p) λt=>match t with|.d (.row true t) xs=>ret (.d (.row true t) xs)|.d (.nilr true) _=>ret (.d (.nilr false) (A.nilv false))|_=>fail A
 |.pw p vs _ lo n=>bind (chk A p (p.hops.length+1) vs) λ_=>bind (getPl A p) λt=>match t with|.d (.row true t) xs=>ret (.d (.row true t) (A.win true t xs lo n))|_=>fail A
 |_=>fail A
def flat1:CT->Bool
 |.int _=>true
 |.bool=>true
 |.str=>true
 |_=>false
def flatT:CT->Bool
 |.int _=>true
 |.bool=>true
 |.str=>true
 |.pair a b=>flatT a&&flatT b
 |_=>false
def isNameX:XV D->Bool
 |.pk _ _=>true
 |.pw _ _ _ _ _=>true
 |_=>false
def flatRow:XV D->Bool
 |.d (.row _ t) _=>flatT t
 |.d (.nilr _) _=>true
 |_=>false
def cpyX(d sz:Nat)(p:XP D)(lo:D .nat)(n:Option (D .nat))(tv c2:XV D):XM D M X Unit:=getM A tv p.hops λv=>
 match v,c2 with
  |.d (.row true t) xs,.d (.row o t2) ys=>if h:mF t2 t=true/\ii t=sz/\flatT t=true then
   bind (optM A (setX A tv p.hops (.d (.row true t) (A.splice t o xs lo (A.minN (A.len o t2 ys) (n.getD (A.len true t xs))) (lh h.1▸ys))))) λYq=>
    brM A (A.slOk lo (A.addN lo (A.minN (A.len o t2 ys) (n.getD (A.len true t xs)))) (A.len true t xs)) (forkM A (A.ltN (A.litN 0) (A.minN (A.len o t2 ys) (n.getD (A.len true t xs)))) (bind (wrC A p.root p.off Yq) λ_=>wrT A d (.d (.int .i64) (A.natI (A.minN (A.len o t2 ys) (n.getD (A.len true t xs)))))) (wrT A d (.d (.int .i64) (A.natI (A.minN (A.len o t2 ys) (n.getD (A.len true t xs)))))))
   else fail A
  |.d (.row true _) _,.d (.nilr _) _=>if 0<sz then wrT A d (.d (.int .i64) (A.lit .i64 0))else fail A
  |_,_=>fail A
def eqAll:List FK->List (XV D)->List (XV D)->Option (D .bool)
 | [],[],[]=>some (A.litB true)
 |.i::ks,.d (.int k) a::xs,.d (.int k') b::ys=>if h:k'=k then(eqAll ks xs ys).map (A.andB (A.cm .eql k a (h▸b)))else none
 |.b::ks,.d .bool a::xs,.d .bool b::ys=>(eqAll ks xs ys).map (A.andB (A.eqB a b))
 |.s::ks,.d .str a::xs,.d .str b::ys=>(eqAll ks xs ys).map (A.andB (A.eqS a b))
 |_,_,_=>none
def mapM'(f:α->XM D M X β):List α->XM D M X (List β)
 | []=>ret []
 |x::r=>bind (f x) λy=>bind (mapM' f r) λl=>ret (y::l)
def intOf:XV D->XM D M X (XV D)
 |.d (.int k) n=>ret (.d (.int k) n)
 |_=>fail A
def capOf:XV D->XM D M X (XV D)
 |.ptr p vs=>ret (.ptr p vs)
 |.ip cs=>ret (.ip cs)
 |t=>if okCellX t && !isOwX t then ret t else fail A
def mmAll(mx:Bool)(k:IntKind):D (.int k)->List (XV D)->Option (D (.int k))
 |a,[]=>some a
 |a,.d (.int k') b::r=>if h:k'=k then mmAll mx k (A.mm mx k a (h▸b)) r else none
 |_,_=>none
def wr(d:Nat)(t:XV D):XM D M X Unit:=wrT A d t
def binX(d:Nat)(op:BinOp):XV D->XV D->XM D M X Unit
 |.d (.int k) a,.d (.int k') b=>
  match op with
  |.shl=>natM A k' b λn=>wr A d (.d (.int k) (A.sh .shl k a n))
  |.shr=>natM A k' b λn=>wr A d (.d (.int k) (A.sh .shr k a n))
  |.quo=>if h:k'=k then brM A (A.cm .neq k' b (A.lit k' 0)) (wr A d (.d (.int k) (A.ar .quo k a (h▸b))))else fail A
  |.rem=>if h:k'=k then brM A (A.cm .neq k' b (A.lit k' 0)) (wr A d (.d (.int k) (A.ar .rem k a (h▸b))))else fail A
  |.add=>if h:k'=k then wr A d (.d (.int k) (A.ar .add k a (h▸b)))else fail A
  |.sub=>if h:k'=k then wr A d (.d (.int k) (A.ar .sub k a (h▸b)))else fail A
  |.mul=>if h:k'=k then wr A d (.d (.int k) (A.ar .mul k a (h▸b)))else fail A
  |.and=>if h:k'=k then wr A d (.d (.int k) (A.ar .and k a (h▸b)))else fail A
  |.or=>if h:k'=k then wr A d (.d (.int k) (A.ar .or k a (h▸b)))else fail A
  |.xor=>if h:k'=k then wr A d (.d (.int k) (A.ar .xor k a (h▸b)))else fail A
  |.andNot=>if h:k'=k then wr A d (.d (.int k) (A.ar .andNot k a (h▸b)))else fail A
  |op=>if h:k'=k then wr A d (.d .bool (A.cm op k a (h▸b)))else fail A
 |.d .str a,.d .str b=>
  match op with
  |.eql=>wr A d (.d .bool (A.eqT a b))
  |.neq=>wr A d (.d .bool (A.not (A.eqT a b)))
  |.add=>brM A (A.catOk a b) (wr A d (.d .str (A.catS a b)))
  |_=>fail A
 |_,_=>fail A
def pickX(d:Nat)(tc ta tb:XV D):XM D M X Unit:=match tc,ta,tb with
 |.d .bool c,.d (.int k) x,.d (.int k') y=>if h:k'=k then wr A d (.d (.int k) (A.ite (.int k) c x (h▸y)))else fail A
 |.d .bool c,.d .bool x,.d .bool y=>wr A d (.d .bool (A.ite .bool c x y))
 |.d .bool c,.d .str x,.d .str y=>wr A d (.d .str (A.ite .str c x y))
 |.d .bool c,.d t x,_=>if flat1 t then brM A c (wr A d (.d t x))else fail A
 |.d .bool c,_,.d t x=>if flat1 t then brM A (A.not c) (wr A d (.d t x))else fail A
 |_,_,_=>fail A
def appX(d sz bytes:Nat)(Zs:Option CT)(s x:XV D):XM D M X Unit:=
 match s,x with
 |.d (.row true t) c,.d (.row o t2) c2=>if ii t=sz then bind (optM A (asT A (.row o t2) (.row o t) c2)) λc3=>brM A (A.appOk bytes (A.len true t c) (A.len o t2 c2)) (inst A d false [.d (.row true t) (A.cat t o c c3)])else fail A
 |.d (.row true t) c,.d (.nilr _) _=>if ii t=sz then brM A (A.appOk bytes (A.len true t c) (A.litN 0)) (inst A d false [.d (.row true t) c])else fail A
 |.d (.nilr true) _,.d (.row o t2) c2=>if ii t2=sz then bind (optM A (asT A (.row o t2) (.row o (resT Zs t2)) c2)) λc3=>brM A (A.appOk bytes (A.litN 0) (A.len o t2 c2)) (inst A d false [.d (.row true (resT Zs t2)) (A.cat _ o (A.nil true (resT Zs t2)) c3)])else fail A
 |.d (.nilr true) _,.d (.nilr _) _=>brM A (A.appOk bytes (A.litN 0) (A.litN 0)) (inst A d false [.d (.nilr true) (A.nilv true)])
 |_,_=>fail A
def immCX:XV D->Bool
 |.ip _=>true
 |t=>okCellX t && !isOwX t
def immFX:XV D->Bool
 |.fn _ l=>l.all immCX
 |t=>immCX t
def isNA:XV D->Bool
 |.agg _=>true
 |.pk _ _=>true
 |_=>false
def loadIp(n:Option Nat)(cs:List (XV D)):Option (XV D):=
 match n with
 |none=>match cs with
  |.ip l::_=>some (.ip l)
  |.fn f l::_=>some (.fn f l)
  |t::_=>if okCellX t && !isOwX t then some t else none
  | []=>none
 |some n=>if n<=cs.length&&(cs.take n).all (λt=>okCellX t && !isOwX t)then some (.agg (cs.take n))else none
def ev1(HT:List (Nat×CT))(d:Nat):TOp->XM D M X Unit
 |.mov x=>bind (opd A x) λt=>match t with
  |.d t y=>if isOwT t then(match x with|.c _=>inst A d false [.d t y]|_=>fail A)else wr A d (.d t y)
  |.agg l=>if l.any isOwX then fail A else wr A d (.agg l)
  |.gap _ _ _ _=>fail A
  |.half _ _ _=>fail A
  |t=>wr A d t
 |.asn mv x=>bind (opd A x) λt=>match t with
  |.ptr p vs=>wr A d (.ptr p vs)
  |.ip cs=>wr A d (.ip cs)
  |.fn f cap=>wr A d (.fn f cap)
  |t=>bind (takeV A mv t) λl=>inst A d l.2 l.1
 |.pick c a b=>bind (opd A c) λtc=>bind (opd A a) λta=>bind (opd A b) λtb=>pickX A d tc ta tb
 |.alloc z=>if(z.map (cellX A)).all okCellX then bind (new A (2*d+2) (z.map (cellX A))) λ_=>bind (rdV (2*d+2,0,0)) λg=>wr A d (.ptr ⟨2*d+2,0,[]⟩ [g])else fail A
 |.box n mv x=>bind (opd A x) λt=>bind (takeL A mv (cellsX t)) λl=>if l.length=n then bind (new A (2*d+2) l) λ_=>bind (rdV (2*d+2,0,0)) λg=>wr A d (.ptr ⟨2*d+2,0,[]⟩ [g])else fail A
 |.boxi n x=>bind (opd A x) λt=>if immFX t then(if n=1 then wr A d (.ip [t])else fail A)else if isNA t then bind (takeL A false (cellsX t)) λl=>bind (optM A (immXL A l)) λl'=>if l.length=n then wr A d (.ip l')else fail A else fail A
 |.load n a=>bind (opd A a) λt=>match t with
  |.ptr p vs=>bind (chk A p p.hops.length vs) λ_=>match n with
   |none=>bind (peekP A p) λt'=>wr A d t'
   |some n=>bind (peekL A p n) λl=>wr A d (.agg l)
  |.ip cs=>match loadIp n cs with|some t=>wr A d t|none=>fail A
  |_=>fail A
 |.store n mv a x=>bind (opd A a) λta=>match ta with
  |.ptr p vs=>bind (opd A x) λtx=>bind (takeL A mv (cellsX tx)) λl=>if l.length=n then bind (chk A p p.hops.length vs) λ_=>putL A p l else fail A
  |_=>fail A
 |.nilc x=>bind (opd A x) λt=>match t with
  |.ptr p vs=>bind (chk A p p.hops.length vs) λ_=>wr A d (.ptr p vs)
  |.ip cs=>wr A d (.ip cs)
  |.fn f cap=>wr A d (.fn f cap)
  |_=>fail A
 |.fld off a=>bind (opd A a) λt=>match t with
  |.ptr p vs=>bind (chk A p p.hops.length vs) λ_=>if fitsP p off then wr A d (.ptr (addP p off) vs)else fail A
  |.ip cs=>if off<cs.length then wr A d (.ip (cs.drop off))else fail A
  |_=>fail A
 |.fldv off n x=>bind (opd A x) λt=>match t with
  |.agg l=>match n with
   |none=>if off<l.length then wr A d (l.getD off .dead)else fail A
   |some n=>if off+n<=l.length then wr A d (.agg ((l.drop off).take n))else fail A
  |_=>fail A
 |.idx sz x i=>bind (opd A x) λt=>bind (opd A i) λti=>bind (natOf A ti) λk=>match t with
  |.pk p vs=>bind (chk A p (p.hops.length+1) vs) λ_=>bind (hdPl A p) λt=>match t with
   |.d (.row true t) xs=>if ii t=sz/\0<sz then atM A true t xs k λ_=>wr A d (.ptr (atP p k sz) vs)else fail A
   |.gap t xs _ _=>if ii t=sz/\0<sz then atM A true t xs k λ_=>wr A d (.ptr (atP p k sz) vs)else fail A
   |.half t xs _=>if 1=sz then atM A true (.row true t) xs k λ_=>wr A d (.ptr (atP p k sz) vs)else fail A
   |_=>fail A
  |.pw p vs sz' lo n=>bind (chk A p (p.hops.length+1) vs) λ_=>bind (getPl A p) λt=>match t with
   |.d (.row true t) xs=>if ii t=sz/\0<sz/\sz'=sz then brM A (A.ltN k n) (atM A true t xs (A.addN lo k) λ_=>wr A d (.ptr (atP p (A.addN lo k) sz) vs))else fail A
   |_=>fail A
  |.d (.row false t) xs=>if ii t=sz/\0<sz then atM A false t xs k λe=>wr A d (.ip (splitX A t e))else fail A
  |_=>fail A
 |.ext x i=>bind (opd A x) λt=>match t with
  |.tup l=>if i<l.length then wr A d (l.getD i .dead)else fail A
  |_=>fail A
 |.bin op x y=>bind (opd A x) λa=>bind (opd A y) λb=>binX A d op a b
 |.bnb neg x y=>bind (opd A x) λa=>bind (opd A y) λb=>match a,b with
  |.d .bool a,.d .bool b=>wr A d (.d .bool (if neg then A.not (A.eqB a b)else A.eqB a b))
  |_,_=>fail A
 |.eqa ks neg x y=>bind (opd A x) λa=>bind (opd A y) λb=>match a,b with
  |.agg a,.agg b=>match eqAll A ks a b with|some r=>wr A d (.d .bool (if neg then A.not r else r))|none=>fail A
  |_,_=>fail A
 |.un op x=>bind (opd A x) λa=>match op,a with
  |.not,.d .bool b=>wr A d (.d .bool (A.not b))
  |.neg,.d (.int k) n=>wr A d (.d (.int k) (A.neg k n))
  |_,_=>fail A
 |.conv k x=>bind (opd A x) λa=>match a with|.d (.int k0) n=>wr A d (.d (.int k) (A.cv k0 k n))|_=>fail A
 |.bld z mv parts=>if(z.map (cellX A)).all okCellX then bind (takeParts A mv parts) λl=>bind (names A d l) λl'=>wr A d (.agg (assembleX (z.map (cellX A)) parts l'))else fail A
 |.bsl sz mv len parts=>bind (takeParts A mv (parts.map λp=>(0,sz,p))) λl=>if parts.length=len then bind (optM A (rowOf A (b9 HT d) (chunksX sz len l))) λv=>inst A d false [v]else fail A
 |.mks sz z l c=>if(z.map (cellX A)).all okCellX&&z.length==sz then bind (opd A l) λtl=>bind (opd A c) λtc=>bind (natOf A tl) λn=>bind (natOf A tc) λm=>
  brM A (A.mkOk n m sz) (bind (optM A (repOf A (b9 HT d) n (z.map (cellX A)))) λv=>inst A d false [v])else fail A
 |.mki sz z l c=>if(z.map (cellX A)).all okCellX&&z.length==sz then bind (opd A l) λtl=>bind (opd A c) λtc=>bind (natOf A tl) λn=>bind (natOf A tc) λm=>
  brM A (A.mkOk n m sz) (bind (optM A (immXL A (z.map (cellX A)))) λz'=>bind (optM A (repOf A (b9 HT d) n z')) λv=>inst A d false [v])else fail A
 |.sla n x hi=>bind (opd A x) λt=>bind (optNat A hi (A.litN n)) λh=>if n<=16777216 then brM A (A.slOk (A.litN 0) h (A.litN n)) (
  match t with
  |.ip cs=>if cs.length=n&&cs.all isVSX then bind (optM A (rowOf A none (chunksX 1 n cs))) λv=>bind (optM A (immX A v)) λv=>match v with
   |.d (.row false t) xs=>wr A d (.d (.row false t) (A.win false t xs (A.litN 0) h))
   |_=>fail A
   else fail A
  |_=>fail A)else fail A
 |.slc sz x lo hi=>bind (opd A x) λt=>bind (lenOf A t) λn=>bind (optNat A lo (A.litN 0)) λl=>bind (optNat A hi n) λh=>brM A (A.slOk l h n) (
  match t with
  |.d (.row false t) xs=>if ii t=sz then wr A d (.d (.row false t) (A.win false t xs l (A.subN h l)))else fail A
  |.d (.nilr false) x=>wr A d (.d (.nilr false) x)
  |.pk p vs=>bind (getPl A p) λt=>match t with|.d (.row true t) _=>if ii t=sz then wr A d (.pw p vs sz l (A.subN h l))else fail A|.d (.nilr true) _=>wr A d (.pw p vs sz l (A.subN h l))|_=>fail A
  |.pw p vs sz' lo' _=>if sz'=sz then wr A d (.pw p vs sz (A.addN lo' l) (A.subN h l))else fail A
  |.d (.nilr true) x=>inst A d false [.d (.nilr true) x]
  |_=>fail A)
 |.app sz bytes mv fl s x=>bind (opd A s) λts=>bind (opd A x) λtx=>
  if fl && !mv&&isNameX tx then bind (contentOf A tx) λc2=>if flatRow c2 then bind (take1 A true ts) λs=>appX A d sz bytes (b9 HT d) s c2 else fail A
  else bind (take1 A true ts) λs=>bind (take1 A mv tx) λx=>appX A d sz bytes (b9 HT d) s x
 |.apz sz bytes z s x=>if(z.map (cellX A)).all okCellX&&z.length==sz then bind (opd A s) λts=>bind (opd A x) λtx=>bind (natOf A tx) λn=>bind (take1 A true ts) λs=>bind (optM A (repOf A (b9 HT d) n (z.map (cellX A)))) λv=>appX A d sz bytes (b9 HT d) s v else fail A
 |.del sz s x=>bind (opd A s) λts=>bind (opd A x) λtx=>match ts,tx with
  |.pw p vs s1 l1 k,.pw p2 vs2 s2 lo m=>if p.hops.isEmpty&&p2.hops.isEmpty&&p2.root==p.root&&p2.off==p.off&&vs2==vs&&s1==sz&&s2==sz then bind (take1 A true (.pk p vs)) λt=>match t with
   |.d (.row true t) xs=>if ii t=sz then brM A (A.slOk l1 (A.litN 0) k) (brM A (A.slOk k lo (A.addN lo m)) (brM A (A.slOk lo (A.addN lo m) (A.len true t xs)) (bind (optM A (immX A (.d (.row true t) (A.cat t true (A.win true t xs (A.litN 0) k) (A.win true t xs lo m))))) λv=>inst A d false [v])))else fail A
   |_=>fail A
   else fail A
  |_,_=>fail A
 |.len x=>bind (opd A x) λt=>bind (lenOf A t) λn=>wr A d (.d (.int .i64) (A.natI n))
 |.lens x=>bind (opd A x) λt=>match t with
  |.d .str s=>wr A d (.d (.int .i64) (A.strLen s))
  |_=>fail A
 |.ixs x i=>bind (opd A x) λt=>bind (opd A i) λti=>bind (natOf A ti) λk=>match t with
  |.d .str s=>NL A s k λb=>wr A d (.d (.int .u8) b)
  |_=>fail A
 |.mm mx xs=>bind (mapM' (λx=>bind (opd A x) (intOf A)) xs) λl=>match l with
  |.d (.int k) a::r=>match mmAll A mx k a r with|some m=>wr A d (.d (.int k) m)|none=>fail A
  |_=>fail A
 |.mkf f caps=>bind (mapM' (λx=>bind (opd A x) (capOf A)) caps) λl=>wr A d (.fn f l)
 |.idxa n sz x i=>bind (opd A x) λt=>bind (opd A i) λti=>bind (natOf A ti) λk=>match t with
  |.ptr p vs=>bind (chk A p p.hops.length vs) λ_=>caseM A k n (λj=>if fitsP p (j*sz)then wr A d (.ptr (addP p (j*sz)) vs)else fail A) 0
  |_=>fail A
 |.s2b x=>bind (opd A x) λt=>match t with
  |.d .str s=>brM A (A.strOk s) (wr A d (.d (.row false (.int .u8)) (A.strB s)))
  |_=>fail A
 |.b2s x=>bind (opd A x) λt=>bind (take1 A false t) λt'=>match t' with
  |.d (.row false (.int .u8)) c=>Po A c λs=>wr A d (.d .str s)
  |_=>fail A
 |.cpy sz x y=>bind (opd A x) λt=>bind (opd A y) λu=>bind (contentOf A u) λc2=>match t with
  |.pk p vs=>bind (chk A p (p.hops.length+1) vs) λ_=>bind (rdC p.root p.off) λtv=>cpyX A d sz p (A.litN 0) none tv c2
  |.pw p vs sz' lo n=>if sz'=sz then bind (chk A p (p.hops.length+1) vs) λ_=>bind (rdC p.root p.off) λtv=>cpyX A d sz p lo (some n) tv c2 else fail A
  |_=>fail A
 |.emp x=>bind (opd A x) λt=>bind (lenOf A t) λ_=>inst A d false [.d (.nilr true) (A.nilv true)]
 |.call _ _ _=>fail A
end
end X
structure XGP (D:CT->Type) where
 i:Nat
 p:XP D
 vs:List Nat
 cells:List (XV D)
namespace X
section
variable {D:CT->Type} {M:Type->Type} {X:Type} (A:Alg D M) {α β:Type}
def isNmX:XV D->Bool
 |.pk _ _=>true
 |.d (.nilr true) _=>true
 |_=>false
def argV0:XV D->XM D M X (XV D)
 |.ip cs=>ret (.ip cs)
 |.fn f cap=>ret (.fn f cap)
 |.ptr p vs=>ret (.ptr p vs)
 |t=>bind (takeV A false t) λl=>bind (optM A (immXL A l.1)) λl'=>ret (shapedX l.2 l')
def isPkX:XV D->Bool
 |.pk _ _=>true
 |_=>false
def wv:XV D->XM D M X (XV D)
 |.d (.nilr true) y=>bind (names A 1000000 [.d (.nilr true) y]) λl=>ret (l.headD .dead)
 |t=>ret t
def argV(x:Option Nat×Opd):XM D M X (XV D):=bind (opd A x.2) λt=>if(x.1==some 0&&isNmX t)=true then wv A t else if(x.1.isSome&&isPkX t)=true then ret t else argV0 A t
def argVs:List (Option Nat×Opd)->XM D M X (List (XV D))
 | []=>ret []
 |x::r=>bind (argV A x) λt=>bind (argVs r) λl=>ret (t::l)
def takeOwns:Nat->List (Option Nat×XV D)->XM D M X (List (Nat×XV D))
 |_,[]=>ret []
 |i,(some 0,.pk p vs)::r=>bind (take1 A true (.pk p vs)) λt=>if isOwX t=true then bind (takeOwns (i+1) r) λq=>ret ((i,t)::q)else fail A
 |i,_::r=>takeOwns (i+1) r
def grabB(r:Nat):Nat->Nat->XM D M X (List (XV D))
 |_,0=>ret []
 |o,n+1=>bind (rdC r o) λt=>bind (peek1 A ⟨r,o,[]⟩ t) λt'=>bind (take1 A true t') λt2=>bind (grabB r (o+1) n) λl=>ret (t2::l)
def Pp(p:XP D):XP D:=⟨p.root,p.off,[]⟩
def baseXN(p:XP D)(n:Nat):Nat:=match p.hops with
 | []=>n
 |_::_=>1
def rooted(p:XP D):XM D M X Unit:=match p.hops with
 | []=>ret ()
 |_::_=>bind (rdT ((p.root-2)/2)) λt=>match t with
  |.ptr q ws=>if q.root==p.root&&q.hops.isEmpty then chk A q 0 ws else fail A
  |_=>fail A
def isArgX:XV D->Bool
 |.ip _=>true
 |.d (.nilr true) _=>true
 |.fn _ l=>l.all immCX
 |.agg l=>l.all λt=>okCellX t && !isOwX t
 |t=>okCellX t && !isOwX t
def grabs:Nat->List (Option Nat×XV D)->XM D M X (List (XGP D))
 |_,[]=>ret []
 |i,(some n,.ptr p vs)::r=>bind (chk A p p.hops.length vs) λ_=>bind (rooted A p) λ_=>bind (grabB A p.root p.off (baseXN p n)) λl=>bind (grabs (i+1) r) λq=>ret (⟨i,Pp p,vs.take 1,l⟩::q)
 |i,(some 0,.pk _ _)::r=>grabs (i+1) r
 |i,(_,t)::r=>if isArgX t then grabs (i+1) r else fail A
def touch(p:XP D):XM D M X Unit:=bind (rdC p.root p.off) λtv=>wrC A p.root p.off tv
def rechk:List (XGP D)->XM D M X Unit
 | []=>ret ()
 |g::r=>bind (chk A g.p g.p.hops.length g.vs) λ_=>bind (touch A g.p) λ_=>rechk r
def argT(i:Nat):XV D->XV D
 |.ptr p _=>.ptr ⟨2*i+2,0,p.hops⟩ (List.replicate (p.hops.length+1) 0)
 |.pk _ _=>.pk ⟨2*i+3,0,[]⟩ [0,0]
 |t=>t
def argTs:Nat->List (XV D)->List (XV D)
 |_,[]=>[]
 |i,t::r=>argT i t::argTs (i+1) r
def mkSt(vals:List (XV D))(pts:List (Nat×List (XV D))):XS D:=⟨eP 0 vals,pts,[],([],[])⟩
def isDeadX:XV D->Bool
 |.dead=>true
 |.d t _=>!oneT t
 |_=>false
def putBack:List (XGP D×List (XV D))->XM D M X Unit
 | []=>ret ()
 |(g,l)::r=>bind (putBack r) λ_=>if l.length=g.cells.length/\0<l.length/\(l.all λt=>!isDeadX t)=true then putL A g.p l else fail A
def shapeRX:List RSh->List (XV D)->List (XV D)
 | [],_=>[]
 |.one::r,l=>l.headD .dead::shapeRX r l.tail
 |.agg n::r,l=>.agg (l.take n)::shapeRX r (l.drop n)
 |.ptr::r,l=>.dead::shapeRX r l
def shapeTX(sh:List RSh)(l:List (XV D)):XV D:=
 match shapeRX sh l with
 | [x]=>x
 |l=>.tup l
def landR(dst:Option Nat)(cells:List (XV D))(sh:List RSh):XM D M X Unit:=
 match dst with
 |some d=>bind (names A d cells) λl=>wr A d (shapeTX sh l)
 |none=>ret ()
def convP:(s:List (Nat×List Sh))->List (Nat×List (XV D))->(r:List CT)->HL D r->Option (HL D (lvP s r))
 | [],[],_,h=>some h
 |s::ss,x::xs,r,h=>if s.1=x.1 then(convP ss xs r h).bind λh1=>s9 A s.2 x.2 (lvP ss r) h1 else none
 |_,_,_,_=>none
def convT:(s:List (Nat×Sh))->List (Nat×XV D)->(r:List CT)->HL D r->Option (HL D (lvT s r))
 | [],[],_,h=>some h
 |s::ss,x::xs,r,h=>if s.1=x.1 then(convT ss xs r h).bind λh1=>conv A s.2 x.2 (lvT ss r) h1 else none
 |_,_,_,_=>none
def sameVr:List (Key×Nat)->List (Key×Nat)->Bool
 | [],[]=>true
 |(q,n)::r,(q',n')::r'=>q==q'&&n==n'&&sameVr r r'
 |_,_=>false
def convS(s:Shs)(σ:XS D)(u:HL D []):Option (HL D (lvS s)):=if sameVr s.vr σ.vr then(convP A s.ce σ.ce [] u).bind λh=>convT A s.tm σ.tm _ h else none
def convIn(c:Ctr)(vals:List (XV D))(pts:List (Nat×List (XV D)))(u:HL D []):Option (HL D (lvL c.ins (lvP c.pts []))):=(convP A c.pts pts [] u).bind λh=>s9 A c.ins vals _ h
def sameSh:List RSh->List RSh->Bool
 | [],[]=>true
 |.one::r,.one::r'=>sameSh r r'
 |.agg n::r,.agg n'::r'=>n==n'&&sameSh r r'
 |.ptr::r,.ptr::r'=>sameSh r r'
 |_,_=>false
def convO(o:XO)(cells:List (XV D))(sh:List RSh)(pts:List (Nat×List (XV D)))(u:HL D []):Option (HL D (lvO o)):=if sameSh o.sh sh then(convP A o.pts pts [] u).bind λh=>s9 A o.cells cells _ h else none
def injO(cells:List (XV D))(sh:List RSh)(pts:List (Nat×List (XV D)))(u:HL D []):(outs:List XO)->Option ((i:Nat)×HL D (xg (outs.map lvO) i))
 | []=>none
 |o::r=>match convO A o cells sh pts u with
  |some h=>some ⟨0,h⟩
  |none=>match injO cells sh pts u r with|some x=>some ⟨x.1+1,x.2⟩|none=>none
def exEq:iO->iO->Bool
 |.normal,.normal=>true
 |.exit i,.exit j=>i==j
 |.ret,.ret=>true
 |_,_=>false
def injE(e:iO)(σ:XS D)(u:HL D []):(outs:List (iO×Shs))->Option ((i:Nat)×HL D (xg (outs.map λx=>lvS x.2) i))
 | []=>none
 |o::r=>match(if exEq o.1 e then convS A o.2 σ u else none)with
  |some h=>some ⟨0,h⟩
  |none=>match injE e σ u r with|some x=>some ⟨x.1+1,x.2⟩|none=>none
def onOut(o:Option α)(K:α->M X):M X:=match o with
 |some x=>K x
 |none=>A.fail
def isPX(sh:List RSh)(cells:List (XV D)):Bool:=match sh,cells with
 |.ptr::_,.ptr _ _::_=>true
 |_,_=>false
def shapePX(t:XV D):List (XV D)->XV D
 | []=>t
 |y::l=>.tup (t::y::l)
def landP(dst:Option Nat)(q:List (XGP D))(cells:List (XV D)):XM D M X Unit:=
 match dst with
 |none=>ret ()
 |some d=>match cells,q with
  |.ptr pl _::l,[g]=>if pl.root==2*g.i+2&&g.p.hops.isEmpty then bind (rdVs (nN g.p.root (g.p.off+pl.off) pl.hops.length)) λvs=>wr A d (shapePX (.ptr ⟨g.p.root,g.p.off+pl.off,pl.hops⟩ vs) l)else fail A
  |_,_=>fail A
def normA:Option Nat×XV D->Option Nat×XV D
 |(some _,.pk p vs)=>(some 0,.pk p vs)
 |x=>x
def lentTo(z:List (Option Nat×XV D))(i:Nat):Option Nat:=match z[i]? with
 |some (some (k+1),.pk _ _)=>some k
 |_=>none
def lendChk:List (Option Nat×XV D)->XM D M X Unit
 | []=>ret ()
 |(some (k+1),.pk p vs)::r=>bind (chk A p (p.hops.length+1) vs) λ_=>bind (rdT k) λt=>match t with
  |.pk q ws=>if p.root=2*k+3/\p.off=0/\p.hops.isEmpty=true/\q.root=2*k+3/\q.off=0/\q.hops.isEmpty=true/\vs=ws then lendChk r else fail A
  |_=>fail A
 |_::r=>lendChk r
def giveBack(z:List (Option Nat×XV D))(ks:List Nat):List (Nat×XV D)->List (List (XV D))->XM D M X Unit
 | [],_=>ret ()
 |x::ow,y::rs=>bind (giveBack z ks ow rs) λ_=>match lentTo z x.1 with
  |none=>ret ()
  |some k=>match y with
   | [v]=>if isOwX v=true/\ks.contains (1000000+x.1)=true/\x.1≠1000000 then bind (names A k [v]) λl=>wrT A k (l.headD .dead)else fail A
   |_=>fail A
 |_::_,[]=>fail A
def afterC(dst:Option Nat)(q:List (XGP D))(ow:List (Nat×XV D))(z:List (Option Nat×XV D))(x:List (XV D)×List RSh×List (Nat×List (XV D))):XM D M X Unit:=
 if(x.2.2.map (·.1)).take (q.length+ow.length)=q.map (λg=>2*g.i+2)++ow.map (λy=>2*y.1+3)/\(isPX x.2.1 x.1||nH x.2.1 x.1.length)=true then bind (putBack A (q.zip (x.2.2.map (·.2)))) λ_=>bind (giveBack A z ((x.2.2.drop (q.length+ow.length)).map (·.1)) ow ((x.2.2.drop q.length).map (·.2))) λ_=>if isPX x.2.1 x.1 then(if ow.isEmpty then landP A dst q x.1 else fail A)else landR A dst x.1 x.2.1 else fail A
def callTB(dst:Option Nat)(f:FuncId)(vals:List (XV D))(q:List (XGP D))(ow:List (Nat×XV D))(z:List (Option Nat×XV D))(u:HL D []):List Ctr->XM D M X Unit
 | []=>fail A
 |c::r=>match(if c.f=f then convIn A c vals (q.map (λg=>(2*g.i+2,g.cells))++ow.map λy=>(2*y.1+3,[y.2])) u else none)with
  |some h=>fun σ k=>A.call c.id (lvL c.ins (lvP c.pts [])) (c.outs.map lvO) c.g h λi ho=>onOut A (j7 c.outs i ho) λx=>afterC A dst q ow z x σ k
  |none=>callTB dst f vals q ow z u r
def callV(TB:List Ctr)(u:HL D [])(dst:Option Nat)(f:FuncId)(ns:List (Option Nat))(vals:List (XV D)):XM D M X Unit:=
 bind (lendChk A (ns.zip vals)) λ_=>bind (takeOwns A 0 ((ns.zip vals).map normA)) λow=>bind (grabs A 0 ((ns.zip vals).map normA)) λq=>bind (rechk A q) λ_=>
  if la (q.map (·.p.root))&&q.all (λg=>decide (0<g.cells.length))then callTB A dst f (argTs 0 vals) q ow (ns.zip vals) u TB else fail A
def see1:XV D->XM D M X (XV D)
 |.d (.row true _) _=>fail A
 |.d .nat _=>fail A
 |.d (.pair _ _) _=>fail A
 |.d (.nilr _) _=>ret (.d (.nilr false) (A.nilv false))
 |.d t x=>ret (.d t x)
 |.k x=>ret (.k x)
 |.pk p vs=>bind (chk A p (p.hops.length+1) vs) λ_=>bind (rdC p.root p.off) λtv=>getM A tv p.hops λv=>if isOwX v then optM A (immX A v)else fail A
 |_=>fail A
def seeL:List (XV D)->XM D M X (List (XV D))
 | []=>ret []
 |t::r=>bind (see1 A t) λt'=>bind (seeL r) λl=>ret (t'::l)
def seeA:XV D->XM D M X (XV D)
 |.agg l=>bind (seeL A l) λl'=>ret (.agg l')
 |.ip cs=>ret (.ip cs)
 |.fn f cap=>if cap.all immCX then ret (.fn f cap)else fail A
 |t=>see1 A t
def seeAs:List Opd->XM D M X (List (XV D))
 | []=>ret []
 |x::r=>bind (opd A x) λt=>bind (seeA A t) λt'=>bind (seeAs r) λl=>ret (t'::l)
def flatX:XV D->Bool
 |.d (.int _) _=>true
 |.d .bool _=>true
 |.d .str _=>true
 |.k x=>gc x
 |_=>false
def afterB(dst:Option Nat)(x:List (XV D)×List RSh×List (Nat×List (XV D))):XM D M X Unit:=
 if x.2.2.length=0/\x.1.all flatX=true/\nH x.2.1 x.1.length=true then(match dst with|some d=>wr A d (shapeTX x.2.1 x.1)|none=>ret ())else fail A
def callB(dst:Option Nat)(f:FuncId)(vals:List (XV D))(u:HL D []):List Ctr->XM D M X Unit
 | []=>fail A
 |c::r=>match(if c.f=f then convIn A c vals [] u else none)with
  |some h=>fun σ k=>A.call c.id (lvL c.ins (lvP c.pts [])) (c.outs.map lvO) c.g h λi ho=>onOut A (j7 c.outs i ho) λx=>afterB A dst x σ k
  |none=>callB dst f vals u r
def bxX(vals:List (XV D)):BxC->XV D
 |.arg i=>vals.getD i .dead
 |.val x=>cellX A x
def evBox(dst:Option Nat)(tm:List BxC)(vals:List (XV D)):XM D M X Unit:=
 match dst with
 |some d=>bind (takeL A false (tm.map (bxX A vals))) λl=>bind (new A (2*d+2) l) λ_=>bind (rdV (2*d+2,0,0)) λg=>wr A d (.ptr ⟨2*d+2,0,[]⟩ [g])
 |none=>fail A
def boxOk:BxC->Bool
 |.arg _=>true
 |.val x=>match x with|.slice none 0 0=>false|x=>gc x
def rowLand(dst:Option Nat)(k:Nat)(p:XP D)(vs:List Nat)(m:D .nat):XM D M X Unit:=match dst with
 |none=>ret ()
 |some d=>if k=1 then wr A d (.tup [])else wr A d (.pw p vs 1 (A.litN 0) m)
def evRow(dst:Option Nat)(k:Nat):XV D->XM D M X Unit
 |.pk p vs=>bind (chk A p 1 vs) λ_=>match p.hops with
  | []=>bind (rdC p.root p.off) λtv=>match tv with
   |.d (.row true (.int .i64)) xs=>brM A (A.ltN (A.len true (.int .i64) xs) (A.litN 4611686018427387904)) (bind (wrC A p.root p.off (.d (.row true (.int .i64)) (A.rowF k xs))) λ_=>rowLand A dst k p vs (A.rowN xs))
   |.d (.nilr true) y=>bind (wrC A p.root p.off (.d (.nilr true) y)) λ_=>rowLand A dst k p vs (A.litN 0)
   |_=>fail A
  |_::_=>fail A
 |_=>fail A
def oct(j:D .nat):D .nat:=A.addN (A.addN (A.addN j j) (A.addN j j)) (A.addN (A.addN j j) (A.addN j j))
def evPart(dst:Option Nat)(t:XV D):XV D->XM D M X Unit
 |.d (.int .i64) i=>bind (lenOf A t) λn=>bind (natOf A (.d (.int .i64) i)) λj=>brM A (A.ltN j (A.litN 33)) (brM A (A.ltN (oct A j) n) (brM A (A.ltN n (A.litN 1099511627777)) (match dst with
  |some d=>match t with
   |.pk p vs=>bind (getPl A p) λt=>match t with
    |.d (.row true t) _=>if ii t=4 then wr A d (.pw p vs 4 (oct A j) (A.minN (A.litN 8) (A.subN n (oct A j))))else fail A
    |_=>fail A
   |_=>fail A
  |none=>fail A)))
 |_=>fail A
def evRowA(dst:Option Nat)(k:Nat)(nrm:XM D M X Unit):List (Option Nat×Opd)->XM D M X Unit
 | [x]=>if k=3 then fail A else bind (opd A x.2) (evRow A dst k)
 | [x,y]=>if k=3 then bind (opd A x.2) λt=>if isPkX t then bind (opd A y.2) (evPart A dst t)else nrm else fail A
 |_=>fail A
def evNrm(E:Env)(TB:List Ctr)(u:HL D [])(dst:Option Nat)(k:Bool)(f:FuncId)(args:List (Option Nat×Opd)):XM D M X Unit:=
 if k then bind (argVs A args) λvals=>match E.box f with
  |some x=>if vals.length=x.1/\x.2.all boxOk=true then evBox A dst x.2 vals else fail A
  |none=>callV A TB u dst f (args.map (·.1)) vals
 else bind (seeAs A (args.map (·.2))) λvals=>callB A dst f vals u TB
def evCall(E:Env)(TB:List Ctr)(u:HL D [])(dst:Option Nat):TOp->XM D M X Unit
 |.call k (.f f) args=>
  if E.row f≠0 then evRowA A dst (E.row f) (evNrm A E TB u dst k f args) args else
  evNrm A E TB u dst k f args
 |.call _ (.t i) args=>bind (rdT i) λt=>match t with
  |.fn f caps=>bind (argVs A args) λvals=>callV A TB u dst f (args.map (·.1)++Ir E f args.length caps.length) (vals++caps)
  |_=>fail A
 |_=>fail A
structure Cfg where
 E:Env
 TB:List Ctr
 HT:List (Nat×CT)
 HL:List AY
def evop(C:Cfg)(u:HL D [])(dst:Option Nat)(op:TOp):XM D M X Unit:=
 match op with
 |.call k f args=>evCall A C.E C.TB u dst (.call k f args)
 |.store n mv a x=>match dst with|none=>ev1 A C.HT 0 (.store n mv a x)|some _=>fail A
 |op=>match dst with|some d=>ev1 A C.HT d op|none=>fail A
def setNo(dst:Option Nat):XM D M X Unit:=match dst with|some d=>wrT A d (.tup [])|none=>ret ()
def known(j:Nat)(b:Bool)(σ:XS D):XS D:=⟨dp σ.tm j (.d .bool (A.litB b)),σ.ce,σ.vr,σ.lg⟩
def knownO(c:Opd)(b:Bool)(σ:XS D):XS D:=match c with|.t j=>known A j b σ |_=>σ
def condX(m m':M X):XV D->M X
 |.d .bool x=>A.br x m m'
 |_=>A.fail
def guardX(j:Nat)(want:Bool)(m m':XM D M X Unit):XV D->XM D M X Unit
 |.d .bool b=>fun σ k=>A.br b ((if want then m else m') (known A j true σ) k) ((if want then m' else m) (known A j false σ) k)
 |.tup []=>m'
 |_=>fail A
def spOp(C:Cfg)(u:HL D [])(o:gE):XM D M X Unit:=
 match o.guard with
 |none=>evop A C u o.dst o.op
 |some (j,want)=>bind (rdT j) (guardX A j want (evop A C u o.dst o.op) (setNo A o.dst))
def spOps(C:Cfg)(u:HL D []):List gE->XM D M X Unit
 | []=>ret ()
 |o::r=>bind (spOp A C u o) λ_=>spOps C u r
def spFL(C:Cfg)(u:HL D [])(ops:List gE):List Nat->XM D M X (List (Nat×oN))
 | []=>ret []
 |i::r=>fun σ k=>spOp A C u (ops.getD i A0) ⟨σ.tm,σ.ce,σ.vr,([],[])⟩ λ_ σ1=>spFL C u ops r σ1 λfs σ2=>k ((i,σ1.lg)::fs) σ2
def renorm0(L:List Nat)(σ:XS D):XV D->XV D
 |.ptr p vs=>if L.contains p.root&&vs==gY (pd σ.vr) p.root p.off p.hops.length then .ptr p (gY (λ_=>0) p.root p.off p.hops.length)else .dead
 |.pk p vs=>if L.contains p.root&&vs==gY (pd σ.vr) p.root p.off (p.hops.length+1)then .pk p (gY (λ_=>0) p.root p.off (p.hops.length+1))else .dead
 |.pw p vs sz lo n=>if L.contains p.root&&vs==gY (pd σ.vr) p.root p.off (p.hops.length+1)then .pw p (gY (λ_=>0) p.root p.off (p.hops.length+1)) sz lo n else .dead
 |.k x=>.k x
 |.ip cs=>.ip cs
 |.d (.row true _) _=>.dead
 |.d t x=>.d t x
 |.tup []=>.tup []
 |_=>.dead
def renorm(L:List Nat)(σ:XS D):XV D->XV D
 |.agg l=>.agg (l.map (renorm0 L σ))
 |.fn f l=>.fn f (l.map (renorm0 L σ))
 |t=>renorm0 L σ t
def normT(L:List Nat)(σ:XS D):List Nat->List (Nat×XV D)
 | []=>[]
 |i::r=>match b9 σ.tm i with|some t=>(i,renorm L σ t)::normT L σ r|none=>normT L σ r
def normC(σ:XS D):List Nat->List (Nat×List (XV D))
 | []=>[]
 |r::l=>match b9 σ.ce r with|some c=>(r,c)::normC σ l|none=>normC σ l
def norm(σ:XS D)(pers:Prs):XS D:=⟨normT pers.2 σ pers.1,normC σ pers.2,[],([],[])⟩
def anew(σ:XS D):XS D:=norm σ (σ.tm.map (·.1),σ.ce.map (·.1))
def selH(i:Nat)(σ:XS D)(u:HL D []):List AY->Option ((H:AY)×HL D (lvS H.s))
 | []=>none
 |H::r=>match(if H.i=i then convS A H.s σ u else none)with
  |some h=>some ⟨H,h⟩
  |none=>selH i σ u r
def selJ(i:Nat):List AY->Option AY
 | []=>none
 |H::r=>if H.i=i then some H else selJ i r
def marks:gF->Nat
 |.seq a b=>marks a+marks b+1
 |.cond _ a b=>marks a+marks b
 |.block _ b=>marks b
 |.sc b=>marks b
 |.loop b=>marks b+1
 |.pre _ b=>marks b
 |.frz _ _ b=>marks b
 |.post b _=>marks b
 |_=>0
def okN0:XV D->Bool
 |.d (.row true _) _=>false
 |.d .nat _=>false
 |.d (.pair _ _) _=>false
 |.gap _ _ _ _=>false
 |.half _ _ _=>false
 |_=>true
def okN:XV D->Bool
 |.agg l=>l.all okN0
 |.fn _ l=>l.all okN0
 |t=>okN0 t
def okS(σ:XS D):Bool:=σ.tm.all λx=>okN x.2
def shr1(x:Nat×Option Nat):XM D M X Unit:=bind (rdT x.1) λt=>match x.2,t with
 |none,.pk p vs=>bind (take1 A false (.pk p vs)) λt'=>bind (optM A (immX A t')) λt2=>wrT A x.1 t2
 |some off,.ptr p vs=>bind (chk A p p.hops.length vs) λ_=>if fitsP p off then bind (getPl A (addP p off)) λt=>if isOwX t then bind (peek1 A (addP p off) t) λt'=>bind (take1 A false t') λ_=>ret ()else(match t with|.d _ _=>ret ()|_=>fail A)else fail A
 |none,.d _ _=>ret ()
 |none,.agg l=>if l.any isOwX then fail A else ret ()
 |_,_=>fail A
def shrs:List (Nat×Option Nat)->XM D M X Unit
 | []=>ret ()
 |x::r=>bind (shr1 A x) λ_=>shrs r
def rdImmM(r:Nat):Nat->Nat->XM D M X (List (XV D))
 |0,_=>ret []
 |n+1,o=>bind (rdC r o) λt=>if immCX t then bind (rdImmM r n (o+1)) λl=>ret (t::l)else fail A
def halfX(n:Nat):XV D->(XV D->M X)->M X
 |.d (.row true (.row false t)) xs,k=>if h:ia (.row true (.row false t)) (.row true (.row true t))=true then(if n%2=0 then k (.half t (A.recast _ _ h xs) (A.litN 0))else A.fail)else A.fail
 |.half t xs m,k=>if n%2=1 then A.br (A.eqN m (A.len true (.row true t) xs)) (k (.d (.row true (.row true t)) xs)) A.fail else A.fail
 |.d (.nilr true) x,k=>if n%2=1 then k (.d (.nilr true) x)else A.fail
 |_,_=>A.fail
def halfM(r o n:Nat):XM D M X Unit:=fun σ k=>match b9 σ.ce r with
 |some l=>if o<l.length then halfX A n (l.getD o .dead) λt=>k () ⟨σ.tm,dp σ.ce r (l.set o t),σ.vr,σ.lg⟩else A.fail
 |none=>A.fail
def frzM(i n:Nat):XM D M X Unit:=
 if 1000<=n then halfM A (2*i+2) ((n-1000)/2) n else
 bind (rdT i) λt=>match t with
 |.ptr p vs=>if p.root=2*i+2/\p.off=0/\p.hops=[]then bind (chk A p 0 vs) λ_=>bind (rdImmM A p.root n 0) λl=>bind (new A p.root []) λ_=>wrT A i (.ip l)else fail A
 |_=>fail A
def roundK(H:AY)(u:HL D [])(e:iO)(σ:XS D):M (HL den (lvS H.s)⊕wS (H.outs.map λx=>lvS x.2)):=
 match e with
 |.normal=>onOut A (convS A H.s σ u) (A.next (lvS H.s) (H.outs.map λx=>lvS x.2))
 |e=>onOut A (injE A e σ u H.outs) λx=>A.exitL (lvS H.s) (H.outs.map λx=>lvS x.2) x.1 x.2
def runC(C:Cfg)(u:HL D []):gF->Nat->{X:Type}->XS D->(iO->XS D->M X)->M X
 |.skip,_,_,σ,k=>k .normal σ
 |.nrm pers,_,_,σ,k=>if okS σ then k .normal (norm σ pers)else A.fail
 |.reg _ draw ops pers,_,_,σ,k=>
  match draw with
  |none=>spOps A C u ops σ λ_ σ'=>if okS σ' then k .normal (norm σ' pers)else A.fail
  |some deps=>spFL A C u ops (List.range ops.length) σ λfs σ'=>if qc deps fs&&okS σ' then k .normal (norm σ' pers)else A.fail
 |.seq a b,i,_,σ,k=>match selJ i C.HL with
  |none=>runC C u a (i+1) σ λe σ'=>match e with|.normal=>runC C u b (i+1+marks a) σ' k|e=>k e σ'
  |some H=>A.join (H.outs.map λx=>lvS x.2) (runC C u a (i+1) σ λe σ'=>match injE A e σ' u H.outs with|some x=>A.out (H.outs.map λx=>lvS x.2) x.1 x.2|none=>A.fail)
   λj ho=>onOut A (so H.outs j ho) λx=>match x.1 with|.normal=>runC C u b (i+1+marks a) x.2 k|e=>k e x.2
 |.cond c a b,i,_,σ,k=>opd A c σ λt _=>condX A (runC C u a i (knownO A c true σ) k) (runC C u b (i+marks a) (knownO A c false σ) k) t
 |.block id b,i,_,σ,k=>runC C u b i σ λe σ'=>match e with|.exit j=>if j=id then k .normal σ' else k (.exit j) σ'|e=>k e σ'
 |.loop b,i,_,σ,k=>match selH A i σ u C.HL with
  |some ⟨H,h⟩=>A.loop H.nm (lvS H.s) (H.outs.map λx=>lvS x.2) h
   (λh=>runC C u b (i+1) (B8 H.s h) (roundK A H u))
   λj ho=>onOut A (so H.outs j ho) λx=>k x.1 x.2
  |none=>A.fail
 |.exit id,_,_,σ,k=>k (.exit id) σ
 |.sc b,i,_,σ,k=>runC C u b i σ k
 |.ret,_,_,σ,k=>k .ret σ
 |.frz j n a,i,_,σ,k=>frzM A j n σ λ_ σ'=>if okS σ' then runC C u a i (anew σ') k else A.fail
 |.pre l a,i,_,σ,k=>shrs A l σ λ_ σ'=>if okS σ' then runC C u a i (anew σ') k else A.fail
 |.post a l,i,_,σ,k=>runC C u a i σ λe σ'=>shrs A l σ' λ_ σ2=>if okS σ2 then k e (anew σ2)else A.fail
def takeR1(np:Nat)(t:XV D):XM D M X (XV D):=
 match t with
 |.pk p vs=>take1 A (!Oe np p.root) (.pk p vs)
 |t=>take1 A true t
def takeRL(np:Nat):List (XV D)->XM D M X (List (XV D))
 | []=>ret []
 |t::r=>bind (takeR1 A np t) λt'=>bind (takeRL np r) λr'=>ret (t'::r')
def takeRV(np:Nat)(t:XV D):XM D M X (List (XV D)×RSh):=
 match t with
 |.agg l=>bind (takeRL A np l) λl'=>ret (l',.agg l'.length)
 |t=>bind (takeR1 A np t) λt'=>ret ([t'],.one)
def res1(np:Nat):TRs->XM D M X (List (XV D)×RSh)
 |.tmp t=>bind (rdT t) λtv=>takeRV A np tv
 |.cell t n=>bind (rdT t) λtv=>match tv with
  |.ptr p vs=>bind (chk A p p.hops.length vs) λ_=>match n with
   |none=>bind (getPl A p) λt=>bind (peek1 A p t) λt'=>takeRV A np t'
   |some n=>bind (peekL A p n) λl=>takeRV A np (.agg l)
  |_=>fail A
def resL(np:Nat):List TRs->XM D M X (List (XV D)×List RSh)
 | []=>ret ([],[])
 |r::rs=>bind (res1 A np r) λx=>bind (resL np rs) λy=>ret (x.1++y.1,x.2::y.2)
def onesOf:List (XV D)->List RSh
 | []=>[]
 |_::r=>.one::onesOf r
def flatsR:List TRs->XM D M X (List (XV D))
 | []=>ret []
 |.tmp t::r=>bind (rdT t) λtv=>if flatX tv then bind (flatsR r) λl=>ret (tv::l)else fail A
 |.cell _ _::_=>fail A
def resF(np:Nat)(l:List TRs):XM D M X (List (XV D)×List RSh):=
 match l with
 |.tmp t::r=>bind (rdT t) λtv=>match tv with
  |.ptr p vs=>bind (chk A p p.hops.length vs) λ_=>bind (flatsR A r) λl=>ret (.ptr p vs::l,.ptr::onesOf l)
  |_=>resL A np (.tmp t::r)
 |qs=>resL A np qs
def isPtrX:XV D->Bool
 |.ptr _ _=>true
 |_=>false
def isShX:XV D->Bool
 |.d (.row false _) _=>true
 |.d (.nilr false) _=>true
 |_=>false
def ptrsInX(pp:List Nat):Nat->List (XV D)->Bool
 |_,[]=>true
 |i,t::r=>(!isPtrX t||pp.contains i)&&(isPtrX t||isShX t || !pp.contains (1000+i))&&ptrsInX pp (i+1) r
def ptsOf(σ:XS D):List (Nat×List (XV D))->List (Nat×List (XV D))
 | []=>[]
 |x::r=>(x.1,(b9 σ.ce x.1).getD [])::ptsOf σ r
def kpX(pp:List Nat):List (Nat×List (XV D)):=(BH pp).map λk=>(1000000+k,[])
def runT(C:Cfg)(u:HL D [])(tf:TFn)(outs:List XO)(vals:List (XV D))(pts:List (Nat×List (XV D))):M (wS (outs.map lvO)):=
 if vals.length=tf.np/\(ptrsInX tf.pp 0 vals&&(!tf.pp.contains 1000||pts.isEmpty))=true then
  runC A C u tf.body 0 (mkSt vals pts) λe σ=>match e with
   |.exit _=>A.fail
   |_=>resF A tf.np tf.res σ λy σ'=>onOut A (injO A y.1 y.2 (ptsOf σ' pts++kpX tf.pp) u outs) λx=>A.out (outs.map lvO) x.1 x.2
 else A.fail
end
end X
def er1:(t:CT)->den t->TV
 |.int k,x=>.v (.int k x)
 |.bool,x=>.v (.bool x)
 |.str,x=>.v (.string x)
 |.nat,_=>.dead
 |.row true t,xs=>.ow (List.map (enc t) xs)
 |.row false t,xs=>.sl (List.map (enc t) xs)
 |.nilr true,_=>.ow []
 |.nilr false,_=>.sl []
 |.pair _ _,_=>.dead
def gO(t:CT):Nat->List (List (den t))->List (List TV)
 |_,[]=>[]
 |0,x::r=>[.sl (List.map (enc t) x)]::gO t 0 r
 |m+1,x::r=>[.ow (List.map (enc t) x)]::gO t m r
theorem kE{t:CT}:∀(xs:List (List (den t)))(m i:Nat),(gO t m xs)[i]?=xs[i]?.map λx=>if i<m then[.ow (List.map (enc t) x)]else[.sl (List.map (enc t) x)]
 | [],m,i=>by simp[gO]
 |x::r,0,0=>by simp[gO]
 |x::r,0,i+1=>by simpa[gO]using kE r 0 i
 |x::r,m+1,0=>by simp[gO]
 |x::r,m+1,i+1=>by simpa[gO]using kE r m i
theorem uv{t:CT}:∀(xs:List (List (den t)))(m:Nat),(gO t m xs).length=xs.length
 | [],m=>rfl
 |x::r,0=>by simp[gO,uv r 0]
 |x::r,m+1=>by simp[gO,uv r m]
theorem EN{t:CT}(xs:List (List (den t))):gO t 0 xs=List.map (enc (.row false t)) xs:=by
 induction xs with
 |nil=>rfl
 |cons x r ih=>simp only[gO,ih,List.map_cons];rfl
theorem HV{t:CT}(xs:List (List (den t))):gO t xs.length xs=List.map (enc (.row true t)) xs:=by
 induction xs with
 |nil=>rfl
 |cons x r ih=>simp only[gO,oLC,ih,List.map_cons];rfl
theorem HU{t:CT}{xs:List (List (den t))}{m:Nat}(z:List (den t)):gO t (m+1) (xs.modify m λ_=>z)=(gO t m xs).modify m λel=>el.modify 0 λ_=>.ow (List.map (enc t) z):=by
 apply List.ext_getElem?;intro i;rw[kE,List.getElem?_modify,List.getElem?_modify,kE]
 cases xs[i]? with
 |none=>simp
 |some x=>
  by_cases h:m=i
  ·subst h;simp
  ·by_cases h2:i<m
   ·simp[h,h2,show i<m+1 by omega]
   ·simp[h,h2,show ¬i<m+1 by omega]
theorem wA{t:CT}(xs:List (List (den t)))(m:Nat):(gO t m xs).map List.length=xs.map λ_=>1:=by
 apply List.ext_getElem?;intro i;rw[List.getElem?_map,kE,List.getElem?_map]
 cases xs[i]? with
 |none=>rfl
 |some x=>
  simp only[oMS];split<;>rfl
def erP(p:XP den):bS:=⟨p.root,p.off,p.hops⟩
mutual
def er:XV den->TV
 |.d t x=>er1 t x
 |.k x=>.v x
 |.dead=>.dead
 |.ptr p vs=>.ptr (erP p) vs
 |.ip l=>.ip (erL l)
 |.pk p vs=>.pk (erP p) vs
 |.pw p vs sz lo n=>.pw (erP p) vs sz lo n
 |.agg l=>.agg (erL l)
 |.tup l=>.tup (erL l)
 |.fn f l=>.fn f (erL l)
 |.gap t x i o=>eE (er1 (.row true t) x) [(i,0,o)] .dead
 |.half t x m=>.ow (gO t m x)
def erL:List (XV den)->List TV
 | []=>[]
 |x::r=>er x::erL r
end
def erC(l:List (Nat×List (XV den))):List (Nat×List TV):=l.map λx=>(x.1,erL x.2)
def erS(σ:XS den):St:=⟨σ.tm.map λx=>(x.1,er x.2),erC σ.ce,σ.vr⟩
theorem gQ(l:List (XV den)):erL l=l.map er:=by
 induction l with
 |nil=>rfl
 |cons x r ih=>simp only[erL,List.map_cons,ih]
theorem dT(l:List (XV den)):(erL l).length=l.length:=by rw[gQ];simp
theorem oH(a b:List (XV den)):erL (a++b)=erL a++erL b:=by simp[gQ]
theorem oG(l:List (XV den))(n:Nat):erL (l.take n)=(erL l).take n:=by simp[gQ,List.map_take]
theorem qI(l:List (XV den))(n:Nat):erL (l.drop n)=(erL l).drop n:=by simp[gQ,List.map_drop]
theorem qH(l:List (XV den))(i:Nat):er (l.getD i .dead)=(erL l).getD i .dead:=by
 rw[gQ];simp only[oGD,List.getElem?_map];cases l[i]?<;>rfl
theorem rS(l:List (XV den))(i:Nat)(t:XV den):erL (l.set i t)=(erL l).set i (er t):=by simp[gQ,List.map_set]
theorem Au(l:List (XV den)):er (l.headD .dead)=(erL l).headD .dead:=by cases l<;>rfl
theorem L7{o:Bool}{t t':CT}(xs:List (den t))(f:den t->den t')(h:∀y,enc t' (f y)=enc t y):enc (.row o t') (List.map f xs)=enc (.row o t) xs:=by
 have e:List.map (enc t') (List.map f xs)=List.map (enc t) xs:=by
  rw[List.map_map];exact List.map_congr_left λy _=>h y
 cases o
 ·show[TV.sl (List.map (enc t') (List.map f xs))]=[TV.sl (List.map (enc t) xs)];rw[e]
 ·show[TV.ow (List.map (enc t') (List.map f xs))]=[TV.ow (List.map (enc t) xs)];rw[e]
theorem pG{t:CT}(h:X.oneT t=true)(x:den t):enc t x=[er1 t x]:=by
 cases t with
 |row o t=>cases o<;>rfl
 |nilr o=>cases o<;>rfl
 |nat=>simp[X.oneT]at h
 |pair a b=>simp[X.oneT]at h
 |_=>rfl
theorem dN:∀(t:CT)(x:den t),(enc t x).length=ii t:=by
 intro t
 induction t with
 |pair a b Zc Y7=>intro x;simp only[enc,List.length_append,Zc,Y7,ii]
 |row o t=>intro x;cases o<;>rfl
 |nilr o=>intro x;cases o<;>rfl
 |_=>intro x;rfl
theorem pS:∀(t:CT)(x:den t),erL (X.splitX bI t x)=enc t x:=by
 intro t
 induction t with
 |pair a b Zc Y7=>
  intro x;simp only[X.splitX,oH,enc];rw[Zc,Y7];rfl
 |row o t=>intro x;cases o<;>rfl
 |nilr o=>intro x;cases o<;>rfl
 |_=>intro x;rfl
theorem ue{α:Type}(l:List α):∀i,JI l i=l[i]?:=by
 induction l with
 |nil=>intro i;rfl
 |cons x r ih=>intro i;cases i with|zero=>rfl|succ i=>simp[JI,ih]
theorem pR{t:CT}{x:den t}{o:Nat}{v:XV den}(h:JI (X.splitX bI t x) o=some v):(enc t x)[o]?=some (er v):=by
 rw[ue]at h;rw[<- pS,gQ,List.getElem?_map,h];rfl
theorem Oc:∀{t u:CT}(x:den t),EX t u=true->enc u (K8 t u x)=enc t x:=by
 intro t
 induction t with
 |int k=>intro u x h;cases u<;>simp[EX]at h;subst h;rfl
 |bool=>intro u x h;cases u<;>simp[EX]at h;rfl
 |str=>intro u x h;cases u<;>simp[EX]at h;rfl
 |nat=>intro u x h;cases u<;>simp[EX]at h;rfl
 |row o t ih=>
  intro u x h;cases u<;>simp[EX]at h;rename_i o' t';obtain⟨rfl,h⟩:=h;exact L7 x (K8 t t') λy=>ih y h
 |nilr o=>
  intro u x h;cases u<;>simp[EX]at h
  ·subst h;cases o<;>rfl
  ·subst h;cases o<;>rfl
 |pair a b Zc Y7=>
  intro u x h;cases u<;>simp[EX]at h;rename_i a' b';show enc a' (K8 a a' x.1)++enc b' (K8 b b' x.2)=enc a x.1++enc b x.2;rw[Zc _ h.1,Y7 _ h.2]
theorem CE{t u:CT}{x:den t}{y:den u}(h:asT bI t u x=some y):enc u y=enc t x:=by
 unfold asT at h;split at h
 ·rename_i he;have:=lh he;subst this
  injection h with h
  rw[<- h]
 ·split at h
  ·rename_i hl
   injection h with h
   rw[<- h];exact Oc x hl
  ·simp at h
theorem M0{t u:CT}{x:den t}{y:den u}(h:asT bI t u x=some y):X.oneT u=X.oneT t:=by
 unfold asT at h;split at h
 ·rename_i he;rw[lh he]
 ·split at h
  ·rename_i hl;cases t<;>cases u<;>simp[EX]at hl<;>rfl
  ·simp at h
theorem AT{t u:CT}{x:den t}{y:den u}(h:asT bI t u x=some y):er1 u y=er1 t x:=by
 have h1:=CE h;have h2:=M0 h
 cases ht:X.oneT t with
 |true=>
  rw[pG (by rw[h2,ht]),pG ht]at h1;injection h1
 |false=>
  rw[ht]at h2;cases t<;>simp[X.oneT]at ht<;>cases u<;>simp[X.oneT]at h2<;>rfl
theorem DQ{α β:Type}(h:α=β)(h2:List α=List β)(xs:List α):cast h2 xs=xs.map (cast h):=by
 subst h;exact(List.map_id xs).symm
theorem uY{α β γ δ:Type}(h1:α=γ)(h2:β=δ)(h:(α×β)=(γ×δ))(x:α×β):cast h x=(cast h1 x.1,cast h2 x.2):=by
 subst h1;subst h2;rfl
theorem kX:∀t,ia t t=true:=by
 intro t
 induction t with
 |row o t ih=>simpa[ia]using ih
 |pair a b Zc Y7=>simp[ia,Zc,Y7]
 |_=>simp[ia]
theorem ry:∀t,ia t (oV t)=true:=by
 intro t
 induction t with
 |row o t ih=>cases o with
  |true=>simpa[oV,ia]using ih
  |false=>simpa[oV]using kX (.row false t)
 |pair a b Zc Y7=>simp[oV,ia,Zc,Y7]
 |nilr o=>simp[oV,ia]
 |_=>simp[oV,ia]
theorem yC:∀(t:CT)(h:den t=den (oV t))(x:den t),enc (oV t) (cast h x)=fe (enc t x):=by
 intro t
 induction t with
 |row o t ih=>
  intro h x
  cases o with
  |false=>rfl
  |true=>
   have h':den t=den (oV t):=fF (ry t);have e:(cast h x:den (.row false (oV t)))=(List.map (cast h') (x:List (den t)):List (den (oV t))):=DQ h' h x;show enc (.row false (oV t)) (cast h x)=fe [TV.ow (List.map (enc t) (x:List (den t)))];rw[e];show[TV.sl (List.map (enc (oV t)) (List.map (cast h') (x:List (den t))))]=[TV.sl (kg (List.map (enc t) (x:List (den t))))];rw[List.map_map,lw,List.map_map];congr 2;refine List.map_congr_left λy _=>?_;simp only[Function.comp_apply];rw[ih h' y,mf]
 |nilr o=>intro h x;cases o<;>rfl
 |pair a b Zc Y7=>
  intro h x;have ha:=fF (ry a);have hb:=fF (ry b);have e:(cast h x:den (.pair (oV a) (oV b)))=((cast ha x.1,cast hb x.2):den (oV a)×den (oV b)):=uY ha hb h x;show enc (.pair (oV a) (oV b)) (cast h x)=fe (enc a x.1++enc b x.2);rw[e];show enc (oV a) (cast ha x.1)++enc (oV b) (cast hb x.2)=_;rw[Zc ha,Y7 hb];simp[mf]
 |_=>intro h x;rfl
theorem pB{x y:XV den}(h:X.immX bI x=some y):er y=(er x).imm:=by
 unfold X.immX at h;split at h
 ·injection h with h;subst h;rfl
 ·injection h with h;subst h;rfl
 ·injection h with h;subst h;rfl
 ·injection h with h;subst h;rfl
 ·rename_i o _
  injection h with h;subst h
  cases o<;>rfl
 ·rename_i t xs;split at h
  ·rename_i hs
   injection h with h
   subst h;have:=yC (.row true t) (fF hs) xs;simp only[oV]at this;have e1:enc (.row false (oV t)) (cast (fF hs) xs)=[er1 (.row false (oV t)) (cast (fF hs) xs)]:=rfl;rw[e1]at this;show er1 (.row false (oV t)) (cast (fF hs) xs)=(er1 (.row true t) xs).imm;simpa[fe,enc,er1]using this
  ·simp at h
 ·injection h with h;subst h;rfl
 ·simp at h
theorem xQ:∀{l l':List (XV den)},X.immXL bI l=some l'->erL l'=(erL l).map TV.imm:=by
 intro l
 induction l with
 |nil=>intro l' h;simp only[X.immXL,oSJ]at h;subst h;rfl
 |cons x l ih=>
  intro l' h;simp only[X.immXL]at h;split at h
  ·rename_i y r h1 h2
   injection h with h
   subst h;simp only[erL,List.map_cons];rw[pB h1,ih h2]
  ·simp at h
theorem Bl:∀{t:CT}{o:Nat}{os:List Nat}{t':CT},shT t o os=some t'->ia t t'=true:=by
 intro t
 induction t with
 |pair a b Zc Y7=>
  intro o os t' h;simp only[shT]at h;split at h
  ·obtain⟨u,h1,rfl⟩:=ge h;simp[ia,Zc h1,kX]
  ·obtain⟨u,h1,rfl⟩:=ge h;simp[ia,Y7 h1,kX]
 |row ow t ih=>
  intro o os t' h
  cases ow with
  |true=>
   cases o with
   |zero=>
    cases os with
    |nil=>simp only[shT,oSJ]at h;subst h;exact ry _
    |cons o os=>
     simp only[shT]at h;obtain⟨u,h1,rfl⟩:=ge h;simpa[ia]using ih h1
   |succ o=>simp only[shT,oSJ]at h;subst h;exact kX _
  |false=>
   cases o with
   |zero=>
    cases os with
    |nil=>simp only[shT,oSJ]at h;subst h;exact ry _
    |cons o os=>simp only[shT,oSJ]at h;subst h;exact kX _
   |succ o=>simp only[shT,oSJ]at h;subst h;exact kX _
 |_=>
  intro o os t' h
  cases o with
  |zero=>
   cases os with
   |nil=>simp only[shT,oSJ]at h;subst h;exact ry _
   |cons o os=>simp only[shT,oSJ]at h;subst h;exact kX _
  |succ o=>simp only[shT,oSJ]at h;subst h;exact kX _
theorem rG(l:List TV)(h:l.length<=1):fe l=l.modify 0 λy=>cW y []:=by
 match l,h with
 | [],_=>rfl
 | [y],_=>cases y<;>rfl
theorem rH(l:List TV)(h:l.length<=1)(o:Nat)(f:TV->TV):l.modify (o+1) f=l:=List.modify_eq_self (by omega)
theorem Dl{α:Type}(l l':List α)(f:α->α){o:Nat}(h:o<l.length):(l++l').modify o f=l.modify o f++l':=by
 apply List.ext_getElem?;intro i;simp only[List.getElem?_modify,List.getElem?_append,oLM];by_cases hi:i<l.length
 ·simp only[hi,if_true]
 ·have:¬o=i:=by omega
  simp only[hi,if_false,this];simp
theorem zD{α:Type}(l l':List α)(f:α->α){o:Nat}(h:l.length<=o):(l++l').modify o f=l++l'.modify (o-l.length) f:=by
 apply List.ext_getElem?;intro i;simp only[List.getElem?_modify,List.getElem?_append];by_cases hi:i<l.length
 ·have:¬o=i:=by omega
  simp only[hi,if_true,this,if_false];simp
 ·have:(o=i)↔(o-l.length=i-l.length):=by omega
  simp only[hi,if_false,this]
theorem Ic:∀(t:CT)(o:Nat)(os:List Nat)(t':CT)(h:den t=den t')(x:den t),shT t o os=some t'->enc t' (cast h x)=(enc t x).modify o λy=>cW y os:=by
 intro t
 induction t with
 |pair a b Zc Y7=>
  intro o os t' h x hs;simp only[shT]at hs;show _=(enc a x.1++enc b x.2).modify o λy=>cW y os;split at hs
  ·rename_i ho;obtain⟨u,h1,rfl⟩:=ge hs;have ha:=fF (Bl h1);have e:(cast h x:den (.pair u b))=((cast ha x.1,cast rfl x.2):den u×den b):=uY ha rfl h x;rw[e];show enc u (cast ha x.1)++enc b x.2=_;rw[Zc o os u ha x.1 h1,Dl _ _ _ (by rw[dN];exact ho)]
  ·rename_i ho;obtain⟨u,h1,rfl⟩:=ge hs;have hb:=fF (Bl h1);have e:(cast h x:den (.pair a u))=((cast rfl x.1,cast hb x.2):den a×den u):=uY rfl hb h x;rw[e];show enc a x.1++enc u (cast hb x.2)=_;rw[Y7 _ os u hb x.2 h1,zD _ _ _ (by rw[dN];omega),dN]
 |row ow t ih=>
  intro o os t' h x hs
  have hl:(enc (.row ow t) x).length<=1:=by rw[dN];exact Nat.le_refl _
  cases o with
  |succ o=>
   rw[rH _ hl];cases ow<;>simp only[shT,oSJ]at hs<;>subst hs<;>rfl
  |zero=>
   cases os with
   |nil=>
    rw[<- rG _ hl]
    have e:t'=oV (.row ow t):=by cases ow<;>simp only[shT,oSJ]at hs<;>exact hs.symm
    subst e;exact yC _ h x
   |cons o os=>
    cases ow with
    |false=>simp only[shT,oSJ]at hs;subst hs;rfl
    |true=>
     simp only[shT]at hs;obtain⟨u,h1,rfl⟩:=ge hs;have h':den t=den u:=fF (Bl h1);have e:(cast h x:den (.row true u))=(List.map (cast h') (x:List (den t)):List (den u)):=DQ h' h x;rw[e];show[TV.ow (List.map (enc u) (List.map (cast h') (x:List (den t))))]=[TV.ow ((List.map (enc t) (x:List (den t))).map λel=>el.modify o λt=>cW t os)];rw[List.map_map,List.map_map];congr 2;exact List.map_congr_left λy _=>ih o os u h' y h1
 |nilr ow=>
  intro o os t' h x hs
  have hl:(enc (.nilr ow) x).length<=1:=by rw[dN];exact Nat.le_refl _
  cases o with
  |succ o=>
   rw[rH _ hl];simp only[shT,oSJ]at hs;subst hs;rfl
  |zero=>
   cases os with
   |nil=>
    rw[<- rG _ hl];simp only[shT,oSJ]at hs;subst hs;exact yC _ h x
   |cons o os=>simp only[shT,oSJ]at hs;subst hs;cases ow<;>rfl
 |_=>
  intro o os t' h x hs
  cases o with
  |succ o=>
   rw[rH _ (by rw[dN];simp[ii])];simp only[shT,oSJ]at hs;subst hs;rfl
  |zero=>
   cases os with
   |nil=>
    rw[<- rG _ (by rw[dN];simp[ii])];simp only[shT,oSJ]at hs;subst hs;exact yC _ h x
   |cons o os=>simp only[shT,oSJ]at hs;subst hs;rfl
theorem tU{x y:XV den}{os:List Nat}(h:X.shareX bI x os=some y):er y=cW (er x) os:=by
 unfold X.shareX at h;split at h
 ·rename_i t xs;split at h
  ·rename_i t' hs;split at h
   ·rename_i VS
    injection h with h
    subst h;have:=Ic t 0 os t' (fF VS) xs hs;show er1 t' (cast (fF VS) xs)=cW (er1 t xs) os
    cases ht:X.oneT t with
    |true=>
     have YS:X.oneT t'=true:=by cases t<;>simp[X.oneT]at ht<;>cases t'<;>simp[ia]at VS<;>rfl
     rw[pG ht,pG YS]at this;simpa using this
    |false=>
     cases t<;>simp[X.oneT]at ht<;>cases t'<;>simp[ia]at VS<;>cases os<;>rfl
   ·simp at h
  ·simp at h
 ·simp at h
theorem HY{Y:Type}:∀{hs:List (den .nat×Nat×Nat)}{tv:XV den}{k:XV den->Option Y}{o:Y},X.getX bI tv hs k=some o->∃v,b7 (er tv) hs=some (er v)/\k v=some o:=by
 intro hs
 induction hs with
 |nil=>intro tv k o h;exact⟨tv,rfl,h⟩
 |cons h1 hs ih=>
  intro tv k o h;obtain⟨i,sz,off⟩:=h1;unfold X.getX at h;split at h
  ·rename_i S6;cases S6
  ·rename_i t xs i' sz' o' hs' S6
   injection S6 with e1 e2
   injection e1 with e3 e4
   injection e4 with e4 e5
   subst e3;subst e4;subst e5;subst e2;split at h
   ·rename_i hsz;obtain⟨e,he,h2⟩:=bO (show(bV xs i).bind _=some o from h);split at h2
    ·rename_i v hv;obtain⟨w,hw,hk⟩:=ih h2;refine⟨w,?_,hk⟩
     have h3:(List.map (enc t) xs)[i]?=some (enc t e):=by
      have:xs[i]?=some e:=he;rw[List.getElem?_map,this];rfl
     show(match(List.map (enc t) xs)[i]? with|some el=>if el.length=sz then(match el[off]? with|some t=>b7 t hs|none=>none)else none|none=>none)=_;rw[h3];simp only[dN,hsz,if_true,pR hv];exact hw
    ·cases h2
   ·cases h
  ·rename_i t xs m i' sz' o' S6
   injection S6 with e1 e2
   injection e1 with e3 e4
   injection e4 with e4 e5
   subst e3;subst e4;subst e5;subst e2;split at h
   ·rename_i hh;obtain⟨h1,h2,h3⟩:=hh;subst h1;subst h2;have h:bI.br (df m i i) _ none=some o:=h
    cases hc:df m i i with
    |false=>rw[hc]at h;cases h
    |true=>
    rw[hc]at h;obtain⟨e,he,h2⟩:=bO (show(bV xs i).bind _=some o from h);have he:xs[i]?=some e:=he;refine⟨_,?_,h2⟩
    have hm:Nat.le m i:=by
     have h:=hc;simp only[df,Nat.le_refl,decide_true,Bool.and_true,oDE]at h;exact h
    show(match(gO t m xs)[i]? with|some el=>if el.length=1 then(match el[0]? with|some t=>b7 t []|none=>none)else none|none=>none)=_;rw[kE,he];simp only[oMS];rw[oIN (Nat.not_lt.2 hm)];rfl
   ·cases h
  ·cases h
theorem w6{G:(u:CT)->Option (den u->den u)}{φ:TV->TV}(hG:∀u h,G u=some h->X.oneT u=true->∀x,er1 u (h x)=φ (er1 u x)):∀{t:CT}{o:Nat}{g:den t->den t},X.setD bI t o G=some g->∀x,enc t (g x)=(enc t x).modify o φ:=by
 intro t
 induction t with
 |pair a b Zc Y7=>
  intro o g h x;simp only[X.setD]at h;show _=(enc a x.1++enc b x.2).modify o φ;split at h
  ·rename_i ho;obtain⟨f,h1,rfl⟩:=ge h;show enc a (f x.1)++enc b x.2=_;rw[Zc h1,Dl _ _ _ (by rw[dN];exact ho)]
  ·rename_i ho;obtain⟨f,h1,rfl⟩:=ge h;show enc a x.1++enc b (f x.2)=_;rw[Y7 h1,zD _ _ _ (by rw[dN];omega),dN]
 |nat=>intro o g h;simp[X.setD]at h
 |_=>
  intro o g h x
  cases o with
  |succ o=>simp[X.setD]at h
  |zero=>
   simp only[X.setD]at h;have h1:=hG _ g h rfl x;refine(pG rfl (g x)).trans ?_;rw[h1];exact(congrArg (λl=>List.modify l 0 φ) (pG rfl x)).symm
theorem IB{v:XV den}{u:CT}{f:den u->den u}(h:X.asF bI v u=some f)(x:den u):er1 u (f x)=er v:=by
 unfold X.asF at h;split at h
 ·obtain⟨y,h1,rfl⟩:=ge h;exact AT h1
 ·simp at h
theorem Bo:∀{hs:List (den .nat×Nat×Nat)}{v:XV den}{u:CT}{f:den u->den u},X.setH bI hs v u=some f->∀x,er1 u (f x)=eE (er1 u x) hs (er v):=by
 intro hs
 induction hs with
 |nil=>intro v u f h x;exact IB h x
 |cons h1 hs ih=>
  intro v u f h x;obtain⟨i,sz,o⟩:=h1
  cases u with
  |row ow t=>cases ow with
   |false=>simp[X.setH]at h
   |true=>
    simp only[X.setH]at h;split at h
    ·rename_i hsz;obtain⟨g,hg,rfl⟩:=ge h;have:=w6 (φ:=λt1=>eE t1 hs (er v)) (λu h hu _ x=>ih hu x) hg;show TV.ow (List.map (enc t) (List.modify (x:List (den t)) i g))=TV.ow ((List.map (enc t) x).modify i λel=>el.modify o λt1=>eE t1 hs (er v));congr 1;apply List.ext_getElem?;intro j;simp only[List.getElem?_map,List.getElem?_modify];by_cases hij:i=j
     ·simp only[hij,if_true]
      cases(x:List (den t))[j]? with
      |none=>rfl
      |some e=>exact congrArg some (this e)
     ·simp only[hij,if_false];simp
    ·simp at h
  |_=>simp[X.setH]at h
theorem LZ{tv v w:XV den}{hs:List (den .nat×Nat×Nat)}(h:X.setX bI tv hs v=some w):er w=eE (er tv) hs (er v):=by
 unfold X.setX at h;split at h
 ·injection h with h;subst h;rfl
 ·obtain⟨f,h1,rfl⟩:=ge h;exact Bo h1 _
 ·simp at h
theorem tH{α β:Type}(l:List (Nat×α))(f:α->β)(i:Nat):b9 (l.map λx=>(x.1,f x.2)) i=(b9 l i).map f:=by
 induction l with
 |nil=>rfl
 |cons x r ih=>simp[b9];split<;>simp_all
theorem mM{α β:Type}(l:List (Nat×α))(f:α->β)(i:Nat)(v:α):dp (l.map λx=>(x.1,f x.2)) i (f v)=(dp l i v).map λx=>(x.1,f x.2):=by
 induction l with
 |nil=>rfl
 |cons x r ih=>
  simp[dp];split
  ·simp
  ·simp_all
theorem Kh(σ:XS den)(i:Nat):(erS σ).t i=er (X.tOf σ i):=by
 unfold St.t X.tOf erS;simp[tH];cases b9 σ.tm i<;>rfl
theorem uO(σ:XS den)(r o:Nat):(erS σ).c r o=er (X.cOf σ r o):=by
 unfold St.c X.cOf erS erC;simp[tH]
 cases b9 σ.ce r with
 |none=>rfl
 |some l=>exact(qH l o).symm
theorem uN(σ:XS den)(r:Nat):b9 (erS σ).ce r=(b9 σ.ce r).map erL:=tH _ _ _
structure lK (σ σ':XS den)(f:oN):Prop where
 r:∀x∈f.1,x∈σ'.lg.1
 w:∀x∈f.2,x∈σ'.lg.2
 r0:∀x∈σ.lg.1,x∈σ'.lg.1
 w0:∀x∈σ.lg.2,x∈σ'.lg.2
theorem lK.refl(σ:XS den):lK σ σ ([],[]):=⟨λx h=>by simp at h,λx h=>by simp at h,λ_ h=>h,λ_ h=>h⟩
theorem lK.by{σ σ':XS den}{f:oN}(R W:List Loc)(e1:σ'.lg.1=R++σ.lg.1)(e2:σ'.lg.2=W++σ.lg.2)(h1:f.1=R)(h2:f.2=W):lK σ σ' f:=
 ⟨λx h=>by simp_all,λx h=>by simp_all,λx h=>by simp_all,λx h=>by simp_all⟩
def Sim{α β Y:Type}(m:XM den Option Y α)(s:SP β)(f:α->β):Prop:=
 ∀(σ:XS den)(k:α->XS den->Option Y)(o:Y),m σ k=some o->∃a σ',s.run (erS σ)=some (f a,erS σ')/\lK σ σ' (s.foot (erS σ))/\k a σ'=some o
theorem cn{α β:Type}(s:SP α)(g:α->SP β):∀{σ σ1:St}{a:α},s.run σ=some (a,σ1)->(s.bind g).foot σ=((s.foot σ).1++((g a).foot σ1).1,(s.foot σ).2++((g a).foot σ1).2):=by
 induction s with
 |ret a=>intro σ σ1 b h;obtain⟨rfl,rfl⟩:=h;simp[SP.bind,SP.foot]
 |fail=>intro σ σ1 b h;simp[SP.run]at h
 |rdT i k ih=>intro σ σ1 b h;simp only[SP.bind,SP.foot];rw[ih _ h];simp
 |rdC r o k ih=>intro σ σ1 b h;simp only[SP.bind,SP.foot];rw[ih _ h];simp
 |rdH r o k ih=>intro σ σ1 b h;simp only[SP.bind,SP.foot];rw[ih _ h];simp
 |rdV q k ih=>intro σ σ1 b h;simp only[SP.bind,SP.foot];rw[ih _ h];simp
 |wrT i t k ih=>intro σ σ1 b h;simp only[SP.bind,SP.foot];rw[ih h];simp
 |wrC r o t k ih=>
  intro σ σ1 b h;obtain⟨l,hl,ho,h2⟩:=b8 h;simp only[SP.bind,SP.foot,hl,ho,if_true];rw[ih h2];simp
 |new r l k ih=>intro σ σ1 b h;simp only[SP.bind,SP.foot];rw[ih h];simp
 |bump q k ih=>intro σ σ1 b h;simp[SP.bind,SP.foot];rw[ih h];simp
section
variable {α β γ δ Y:Type}
theorem Sim.ret{a:α}{b:β}{f:α->β}(h:f a=b):Sim (Y:=Y) (X.ret a) (.ret b) f:=fun σ k o hk=>⟨a,σ,by rw[h];rfl,lK.refl σ,hk⟩
theorem Sim.fail{s:SP β}{f:α->β}:Sim (Y:=Y) (X.fail bI) s f:=fun σ k o hk=>by cases hk
theorem Sim.bind{m:XM den Option Y α}{s:SP β}{f:α->β}{g:α->XM den Option Y γ}{h:β->SP δ}{f':γ->δ}(h1:Sim m s f)(h2:∀a,Sim (g a) (h (f a)) f'):Sim (X.bind m g) (s.bind h) f':=by
 intro σ k o hk;have ⟨a,σ1,r1,n1,k1⟩:=h1 σ _ o hk;have ⟨c,σ2,r2,n2,k2⟩:=h2 a σ1 k o k1;refine⟨c,σ2,by rw[SP.run_bind,r1];exact r2,?_,k2⟩;rw[cn s h r1];refine⟨λx hx=>?_,λx hx=>?_,λx hx=>n2.r0 x (n1.r0 x hx),λx hx=>n2.w0 x (n1.w0 x hx)⟩
 ·rcases List.mem_append.1 hx with hx|hx
  ·exact n2.r0 x (n1.r x hx)
  ·exact n2.r x hx
 ·rcases List.mem_append.1 hx with hx|hx
  ·exact n2.w0 x (n1.w x hx)
  ·exact n2.w x hx
theorem Sim.map{m:XM den Option Y α}{s:SP β}{f f':α->β}(h:Sim m s f)(e:∀a,f a=f' a):Sim m s f':=by
 have:=funext e
 simp_all
theorem Sim.opt{o:Option α}{g:α->XM den Option Y γ}{s:SP δ}{f:γ->δ}(h:∀a,o=some a->Sim (g a) s f):Sim (X.bind (X.optM bI o) g) s f:=by
 intro σ k y hk
 cases o with
 |none=>cases hk
 |some a=>exact h a rfl σ k y hk
theorem Sim.br{c:Bool}{m:XM den Option Y α}{s:SP β}{f:α->β}(h:c=true->Sim m s f):Sim (X.brM bI c m) s f:=by
 intro σ k y hk
 cases c with
 |false=>cases hk
 |true=>exact h rfl σ k y hk
theorem Sim.get{ow:Bool}{t:CT}{xs:List (den t)}{i:Nat}{g:den t->XM den Option Y γ}{s:SP δ}{f:γ->δ}(h:∀e,xs[i]?=some e->Sim (g e) s f):Sim (X.atM bI ow t xs i g) s f:=by
 intro σ k y hk;have ⟨e,h1,h2⟩:=bO (show(bV xs i).bind _=some y from hk);exact h e h1 σ k y h2
theorem Sim.nat{kd:IntKind}{n:Int}{g:Nat->XM den Option Y γ}{s:SP δ}{f:γ->δ}(h:∀m:Nat,n=m->Sim (g m) s f):Sim (X.natM bI kd n g) s f:=by
 intro σ k y hk;have ⟨e,h1,h2⟩:=bO (show(cl n).bind _=some y from hk);refine h e ?_ σ k y h2
 cases n with
 |ofNat m=>simp[cl]at h1;rw[h1];rfl
 |negSucc m=>simp[cl]at h1
theorem Sim.ite{c:Prop}[Decidable c]{m m':XM den Option Y α}{s:SP β}{f:α->β}(h:c->Sim m s f)(h':¬c->Sim m' s f):Sim (if c then m else m') s f:=by
 grind
theorem zI{Y:Type}:∀(l:List (XV den))(k:List (XV den)->Option Y),X.letL bI l k=k l:=by
 intro l
 induction l with
 |nil=>intro k;rfl
 |cons x r ih=>
  intro k
  cases x<;>first|exact ih _|(simp;exact ih _)
theorem nM{Y:Type}(t:XV den)(k:XV den->Option Y):X.letX bI t k=k t:=by
 cases t with
 |agg l=>exact zI l _
 |_=>rfl
theorem FV(i:Nat):Sim (Y:=Y) (X.rdT i) (.rdT i .ret) er:=fun σ k o hk=>⟨X.tOf σ i,X.lgR (.t i) σ,by simp only[SP.run];rw[Kh];rfl,.by [.t i] [] rfl rfl rfl rfl,hk⟩
theorem FY(r o:Nat):Sim (Y:=Y) (X.rdC r o) (.rdC r o .ret) er:=fun σ k y hk=>⟨X.cOf σ r o,X.lgR (.c r o) σ,by simp only[SP.run];rw[uO];rfl,.by [.c r o] [] rfl rfl rfl rfl,hk⟩
theorem FU(q:Key):Sim (Y:=Y) (X.rdV q) (.rdV q .ret) id:=fun σ k o hk=>⟨pd σ.vr q,X.lgR (.v q) σ,rfl,.by [.v q] [] rfl rfl rfl rfl,hk⟩
theorem ru(i:Nat)(t:XV den):Sim (Y:=Y) (X.wrT bI i t) (.wrT i (er t) (.ret ())) id:=fun σ k o hk=>by
 unfold X.wrT at hk;rw[nM]at hk;refine⟨(),⟨dp σ.tm i t,σ.ce,σ.vr,(σ.lg.1,.t i :: σ.lg.2)⟩,?_,.by [] [.t i] rfl rfl rfl rfl,hk⟩;simp[SP.run,erS];rw[mM]
theorem FW(r o:Nat):Sim (Y:=Y) (X.rdK r o) (.rdH r o .ret) λv=>(er v).hd:=fun σ k y hk=>⟨X.cOf σ r o,X.lgR (.h r o) σ,by simp only[SP.run];rw[uO];rfl,.by [.h r o] [] rfl rfl rfl rfl,hk⟩
theorem MF{r o:Nat}{t t':TV}{x:Loc}(h:x∈hdW r o t t'):x=.h r o:=by
 unfold hdW at h
 simp_all
def jA{α β Y:Type}(σ:XS den)(m:XM den Option Y α)(s:SP β)(f:α->β):Prop:=
 ∀(k:α->XS den->Option Y)(o:Y),m σ k=some o->∃a σ',s.run (erS σ)=some (f a,erS σ')/\lK σ σ' (s.foot (erS σ))/\k a σ'=some o
theorem jA.bind{σ:XS den}{m:XM den Option Y α}{s:SP β}{f:α->β}{g:α->XM den Option Y γ}{h:β->SP δ}{f':γ->δ}(h1:jA σ m s f)(h2:∀a,Sim (g a) (h (f a)) f'):jA σ (X.bind m g) (s.bind h) f':=by
 intro k o hk;have ⟨a,σ1,r1,n1,k1⟩:=h1 _ o hk;have ⟨c,σ2,r2,n2,k2⟩:=h2 a σ1 k o k1;refine⟨c,σ2,by rw[SP.run_bind,r1];exact r2,?_,k2⟩;rw[cn s h r1];refine⟨λx hx=>?_,λx hx=>?_,λx hx=>n2.r0 x (n1.r0 x hx),λx hx=>n2.w0 x (n1.w0 x hx)⟩
 ·rcases List.mem_append.1 hx with hx|hx
  ·exact n2.r0 x (n1.r x hx)
  ·exact n2.r x hx
 ·rcases List.mem_append.1 hx with hx|hx
  ·exact n2.w0 x (n1.w x hx)
  ·exact n2.w x hx
theorem jA.opt{σ:XS den}{o:Option α}{g:α->XM den Option Y γ}{s:SP δ}{f:γ->δ}(h:∀a,o=some a->jA σ (g a) s f):jA σ (X.bind (X.optM bI o) g) s f:=by
 intro k y hk
 cases o with
 |none=>cases hk
 |some a=>exact h a rfl k y hk
theorem yZ{r o:Nat}{g:XV den->XM den Option Y γ}{h:TV->SP δ}{f:γ->δ}(H:∀ σ tv,(erS σ).c r o=er tv->jA σ (g tv) (h (er tv)) f):Sim (X.bind (X.rdC r o) g) (.rdC r o h) f:=by
 intro σ k y hk;have ⟨a,σ',h1,h2,h3⟩:=H (X.lgR (.c r o) σ) (X.cOf σ r o) (uO σ r o) k y hk;refine⟨a,σ',by simp[SP.run];rw[uO];exact h1,⟨λx hx=>?_,λx hx=>?_,λx hx=>h2.r0 x (by simp[X.lgR,hx]),λx hx=>h2.w0 x hx⟩,h3⟩
 ·simp[SP.foot]at hx;rcases hx with rfl|hx
  ·exact h2.r0 _ (by simp[X.lgR])
  ·rw[uO]at hx;exact h2.r x hx
 ·simp[SP.foot]at hx;rw[uO]at hx;exact h2.w x hx
theorem jA.wrI{σ:XS den}{r o:Nat}{t:XV den}(hh:(er t).hd=((erS σ).c r o).hd):jA (Y:=Y) σ (X.wrI bI r o t) (.wrC r o (er t) (.ret ())) id:=λk y hk=>by
 unfold X.wrI at hk;split at hk
 ·rename_i l hl;split at hk
  ·rename_i ho;rw[nM]at hk
   have Yw:b9 (erS σ).ce r=some (erL l):=by rw[uN,hl];rfl
   have Zj:o<(erL l).length:=by rw[dT];exact ho
   refine⟨(),⟨σ.tm,dp σ.ce r (l.set o t),σ.vr,(.n r :: .h r o :: σ.lg.1,.c r o :: σ.lg.2)⟩,?_,.by [.n r,.h r o] [.c r o] rfl rfl (by simp[SP.foot,Yw,Zj]) (by simp[SP.foot,Yw,Zj,if_true,hdW,oIP hh]),hk⟩;simp[SP.run,Yw,Zj,if_true,id_eq];unfold erS erC;rw[<- rS,mM]
  ·cases hk
 ·cases hk
theorem FP(r o:Nat)(t:XV den):Sim (Y:=Y) (X.wrC bI r o t) (.wrC r o (er t) (.ret ())) id:=fun σ k y hk=>by
 unfold X.wrC at hk;split at hk
 ·rename_i l hl;split at hk
  ·rename_i ho;rw[nM]at hk
   have Yw:b9 (erS σ).ce r=some (erL l):=by rw[uN,hl];rfl
   have Zj:o<(erL l).length:=by rw[dT];exact ho
   refine⟨(),⟨σ.tm,dp σ.ce r (l.set o t),σ.vr,(.n r :: .h r o :: σ.lg.1,.c r o :: .h r o :: σ.lg.2)⟩,?_,⟨λx hx=>?_,λx hx=>?_,λx hx=>by simp[hx],λx hx=>by simp[hx]⟩,hk⟩
   rotate_left
   ·simp only[SP.foot,Yw,Zj,if_true,List.mem_cons,List.not_mem_nil,or_false]at hx
    rcases hx with rfl|rfl<;>simp
   ·simp[SP.foot,Yw,Zj,if_true,List.mem_cons,List.mem_append,List.not_mem_nil,or_false]at hx;rcases hx with rfl|hx
    ·simp
    ·simp[MF hx]
   simp[SP.run,Yw,Zj,if_true,id_eq];unfold erS erC;rw[<- rS,mM]
  ·cases hk
 ·cases hk
theorem LC(r:Nat)(l:List (XV den)):Sim (Y:=Y) (X.new bI r l) (.new r (erL l) (.ret ())) id:=fun σ k y hk=>by
 unfold X.new at hk;rw[zI]at hk;refine⟨(),⟨σ.tm,dp σ.ce r l,nv σ.vr (r,0,0),(.v (r,0,0) :: σ.lg.1,.n r :: .v (r,0,0) :: σ.lg.2)⟩,?_,.by [.v (r,0,0)] [.n r,.v (r,0,0)] rfl rfl rfl rfl,hk⟩;simp[SP.run,erS,erC];rw[mM]
theorem wZ(q:Key):Sim (Y:=Y) (X.bump q) (.bump q (.ret ())) id:=fun σ k y hk=>⟨(),⟨σ.tm,σ.ce,nv σ.vr q,(.v q :: σ.lg.1,.v q :: σ.lg.2)⟩,rfl,.by [.v q] [.v q] rfl rfl rfl rfl,hk⟩
theorem tF(x:Value):er (X.cellX bI x)=cf x:=by
 unfold X.cellX;split
 ·rfl
 ·rfl
 ·rfl
 ·rfl
 ·rename_i h1 h2 h3 h4
  have:cf x=if gc x then .v x else .dead:=by
   unfold cf
   simp_all
  rw[this];split<;>rfl
theorem Ij(x:Value):er (X.constX bI x)=pt x:=by
 unfold X.constX;split
 ·simp[er,gQ];congr 1;exact List.map_congr_left λy _=>tF y
 ·rename_i h;rw[tF];unfold pt
  simp_all
theorem ms(x:Opd):Sim (Y:=Y) (X.opd bI x) (opd x) er:=by
 cases x with
 |t i=>exact FV i
 |c x=>exact .ret (Ij x)
 |f f=>exact .ret rfl
theorem te:∀qs:List Key,Sim (Y:=Y) (X.rdVs qs) (rdVs qs) id:=by
 intro qs
 induction qs with
 |nil=>exact .ret rfl
 |cons q qs ih=>exact(FU q).bind λn=>ih.bind λl=>.ret rfl
theorem dL(p:XP den)(n:Nat)(vs:List Nat):Sim (Y:=Y) (X.chk bI p n vs) (chk (erP p) n vs) id:=by
 refine(te _).bind λl=>?_;refine Sim.ite (λh=>?_) λh=>.fail;rw[oIP (by exact h)];exact .ret rfl
theorem Ca(p:XP den)(n:Nat):erP (X.addP p n)=(erP p).add n:=by
 unfold X.addP bS.add erP
 cases h:List.reverse p.hops with
 |nil=>rfl
 |cons x r=>rfl
theorem yB(p:XP den)(n:Nat):X.fitsP p n=(erP p).fits n:=by
 unfold X.fitsP bS.fits erP
 grind
theorem tg{tv:XV den}{hs:List (den .nat×Nat×Nat)}{g:XV den->XM den Option Y γ}{s:SP δ}{f:γ->δ}(h:∀v,b7 (er tv) hs=some (er v)->Sim (g v) s f):Sim (X.getM bI tv hs g) s f:=by
 intro σ k y hk;have ⟨v,h1,h2⟩:=HY hk;exact h v h1 σ k y h2
theorem jA.getX{σ:XS den}{tv:XV den}{hs:List (den .nat×Nat×Nat)}{g:XV den->XM den Option Y γ}{s:SP δ}{f:γ->δ}(h:∀v,b7 (er tv) hs=some (er v)->jA σ (g v) s f):jA σ (X.getM bI tv hs g) s f:=by
 intro k y hk;have ⟨v,h1,h2⟩:=HY hk;exact h v h1 k y h2
theorem jA.ite{σ:XS den}{c:Prop}[Decidable c]{m m':XM den Option Y α}{s:SP β}{f:α->β}(h:c->jA σ m s f)(h':¬c->jA σ m' s f):jA σ (if c then m else m') s f:=by
 grind
theorem gN(p:XP den):Sim (Y:=Y) (X.getPl bI p) (getPl (erP p)) er:=by
 refine(FY p.root p.off).bind λtv=>?_;refine tg λv hv=>?_;show Sim _ (match b7 (er tv) p.hops with|some t=>.ret t|none=>.fail) er;have:=hv;rw[this];exact .ret rfl
theorem CZ(p:XP den):Sim (Y:=Y) (X.hdPl bI p) (MG (erP p)) λv=>(er v).hd:=by
 have ⟨r,o,hs⟩:=p
 cases hs with
 |nil=>exact FW r o
 |cons h hs=>
  intro σ k y hk;have ⟨a,σ',h1,h2,h3⟩:=gN ⟨r,o,h::hs⟩ σ k y hk;refine⟨a,σ',?_,?_,h3⟩
  ·show((getPl (erP ⟨r,o,h::hs⟩)).bind λt=>.ret t.hd).run (erS σ)=_;rw[SP.run_bind,h1];rfl
  ·show lK σ σ' (((getPl (erP ⟨r,o,h::hs⟩)).bind λt=>.ret t.hd).foot (erS σ));rw[cn _ _ h1];simpa[SP.foot]using h2
end
section
variable {α β γ δ Y:Type}
theorem Sim.rdT{i:Nat}{g:XV den->XM den Option Y γ}{h:TV->SP δ}{f:γ->δ}(H:∀t,Sim (g t) (h (er t)) f):Sim (X.bind (X.rdT i) g) (.rdT i h) f:=(FV i).bind H
theorem Sim.rdC{r o:Nat}{g:XV den->XM den Option Y γ}{h:TV->SP δ}{f:γ->δ}(H:∀t,Sim (g t) (h (er t)) f):Sim (X.bind (X.rdC r o) g) (.rdC r o h) f:=(FY r o).bind H
theorem Sim.rdK{r o:Nat}{g:XV den->XM den Option Y γ}{h:Option (List Nat)->SP δ}{f:γ->δ}(H:∀t,Sim (g t) (h (er t).hd) f):Sim (X.bind (X.rdK r o) g) (.rdH r o h) f:=(FW r o).bind H
theorem Sim.rdV{q:Key}{g:Nat->XM den Option Y γ}{h:Nat->SP δ}{f:γ->δ}(H:∀t,Sim (g t) (h t) f):Sim (X.bind (X.rdV q) g) (.rdV q h) f:=(FU q).bind H
theorem Sim.wrT{i:Nat}{t:XV den}{t':TV}{g:Unit->XM den Option Y γ}{h:SP δ}{f:γ->δ}(e:er t=t')(H:Sim (g ()) h f):Sim (X.bind (X.wrT bI i t) g) (.wrT i t' h) f:=by subst e;exact(ru i t).bind (h:=λ_=>h) λ_=>H
theorem Sim.wrC{r o:Nat}{t:XV den}{t':TV}{g:Unit->XM den Option Y γ}{h:SP δ}{f:γ->δ}(e:er t=t')(H:Sim (g ()) h f):Sim (X.bind (X.wrC bI r o t) g) (.wrC r o t' h) f:=by subst e;exact(FP r o t).bind (h:=λ_=>h) λ_=>H
theorem Sim.new{r:Nat}{l:List (XV den)}{l':List TV}{g:Unit->XM den Option Y γ}{h:SP δ}{f:γ->δ}(e:erL l=l')(H:Sim (g ()) h f):Sim (X.bind (X.new bI r l) g) (.new r l' h) f:=by subst e;exact(LC r l).bind (h:=λ_=>h) λ_=>H
theorem Sim.bump{q:Key}{g:Unit->XM den Option Y γ}{h:SP δ}{f:γ->δ}(H:Sim (g ()) h f):Sim (X.bind (X.bump q) g) (.bump q h) f:=(wZ q).bind (h:=λ_=>h) λ_=>H
theorem HQ{α:Type}(c:List (List α))(i o:Nat)(f:α->α):(c.modify i λel=>el.modify o f).map List.length=c.map List.length:=by
 apply List.ext_getElem?;intro j;by_cases h:i=j
 ·simp
  grind
 ·simp[h]
theorem uu{tv:TV}{hs:List Hop}{t:TV}(h:hs≠[]):(eE tv hs t).hd=tv.hd:=by
 cases hs with
 |nil=>simp_all
 |cons x hs=>
  cases tv with
  |ow c=>simp[eE,TV.hd,HQ]
  |_=>rfl
theorem HP{tv:TV}{os:List Nat}(h:os≠[]):(cW tv os).hd=tv.hd:=by
 cases os with
 |nil=>simp_all
 |cons o os=>
  cases tv with
  |ow c=>
   simp only[cW,TV.hd]
   simp_all
  |_=>rfl
theorem Dv{r o:Nat}{tv:TV}{hs:List Hop}{t:TV}(h:hs≠[]):hdW r o tv (eE tv hs t)=[]:=by unfold hdW;rw[oIP (uu h)]
theorem ME{x:XV den}(h:X.isOwX x=false)(h2:kf (er x)=X.isOwX x):(er x).hd=none:=by
 rw[h]at h2
 cases hx:er x<;>first|rfl|(rw[hx]at h2;simp[kf]at h2)
theorem qw(x:XV den):kf (er x)=X.isOwX x:=by
 cases x with
 |d t y=>cases t with
  |row o t=>cases o<;>rfl
  |nilr o=>cases o<;>rfl
  |_=>rfl
 |_=>rfl
theorem qx(x:XV den):lG (er x)=X.isHdrX x:=by
 cases x with
 |d t y=>cases t with
  |row o t=>cases o<;>rfl
  |nilr o=>cases o<;>rfl
  |_=>rfl
 |_=>rfl
theorem EA{x:XV den}(h:X.okCellX x=true):cq (er x)=true:=by
 cases x with
 |d t y=>cases t with
  |row o t=>cases o<;>first|rfl|simp[X.okCellX]at h
  |nilr o=>cases o<;>rfl
  |nat=>simp[X.okCellX]at h
  |pair a b=>simp[X.okCellX]at h
  |_=>rfl
 |k y=>rfl
 |_=>simp[X.okCellX]at h
theorem lR{x:XV den}(h:X.okCellX x=true)(h2:X.isOwX x=false):(∃y,er x=.v y)\/∃c,er x=.sl c:=by
 cases x with
 |d t y=>cases t with
  |int k=>exact .inl ⟨_,rfl⟩
  |bool=>exact .inl ⟨_,rfl⟩
  |str=>exact .inl ⟨_,rfl⟩
  |row o t=>cases o<;>first|exact .inr ⟨_,rfl⟩|simp[X.okCellX]at h
  |nilr o=>cases o<;>first|exact .inr ⟨_,rfl⟩|simp[X.isOwX,X.isOwT]at h2
  |nat=>simp[X.okCellX]at h
  |pair a b=>simp[X.okCellX]at h
 |k y=>exact .inl ⟨_,rfl⟩
 |_=>simp[X.okCellX]at h
theorem xR{x:XV den}(h:X.immCX x=true):zS (er x)=true:=by
 have Z0:(X.okCellX x && !X.isOwX x)=true->zS (er x)=true:=λh=>by
  simp at h
  rcases lR h.1 h.2 with⟨y,hy⟩|⟨c,hc⟩
  ·rw[hy];rfl
  ·rw[hc];rfl
 cases x with
 |ip cs=>rfl
 |_=>exact Z0 h
theorem xS{l:List (XV den)}(h:l.all X.immCX=true):(erL l).all zS=true:=by
 rw[gQ,List.all_map,List.all_eq_true];rw[List.all_eq_true]at h;exact λx hx=>xR (h x hx)
theorem J0{x:XV den}(h:X.immFX x=true):J1 (er x)=true:=by
 have Z0:∀t:TV,zS t=true->J1 t=true:=λt h=>by
  cases t with
  |fn f l=>simp[zS]at h
  |_=>exact h
 cases x with
 |fn f l=>exact xS h
 |_=>exact Z0 _ (xR h)
theorem Mz{x:XV den}(h:X.isNA x=true):¬J1 (er x)=true:=by
 cases x with
 |agg l=>simp[er,J1,zS]
 |pk p vs=>simp[er,J1,zS]
 |_=>simp[X.isNA]at h
theorem j6{v:XV den}(h:X.isOwX v=true):∃c,er v=.ow c:=by
 rw[<- qw]at h;cases hv:er v<;>rw[hv]at h<;>simp[kf]at h
 simp_all
theorem MY{p:XP den}(h:XP.bare p=true):(erP p).hops=[]:=by
 have ⟨r,o,hs⟩:=p
 cases hs with
 |nil=>rfl
 |cons=>simp[XP.bare]at h
theorem Ln{lo n:Nat}{v w:XV den}(h:X.winX bI lo n v=some w):∃c,er v=.ow c/\er w=.sl (((c.drop lo).take n).map λe=>e.map TV.imm):=by
 unfold X.winX at h;split at h
 ·rename_i t xs;split at h
  ·rename_i t' ys hi
   injection h with h
   subst h;refine⟨_,rfl,?_⟩;have h1:=pB hi;have h2:TV.sl (List.map (enc t') (ys:List (den t')))=(TV.ow (List.map (enc t) (xs:List (den t)))).imm:=h1;rw[fH]at h2;show TV.sl (List.map (enc t') ((List.drop lo (ys:List (den t'))).take n))=_
   simp_all
  ·simp at h
 ·injection h with h;subst h;exact⟨[],rfl,by simp[er,er1]⟩
 ·simp at h
theorem MJ{tv w:XV den}{hs:List (den .nat×Nat×Nat)}(h:X.gapX tv hs=some w):er w=eE (er tv) hs .dead:=by
 unfold X.gapX at h;split at h
 ·injection h with h
  subst h;rfl
 ·simp at h
theorem eu(mv:Bool)(x:XV den):Sim (Y:=Y) (X.take1 bI mv x) (take1 mv (er x)) er:=by
 cases x with
 |d t y=>cases t with
  |int k=>exact .ret rfl
  |bool=>exact .ret rfl
  |str=>exact .ret rfl
  |nat=>exact .fail
  |row o t=>cases o<;>first|exact .fail|exact .ret rfl
  |nilr o=>cases o<;>cases mv<;>exact .ret rfl
  |pair a b=>exact .fail
 |k y=>exact .ret rfl
 |pk p vs=>
  refine(dL p _ vs).bind λ_=>yZ fun σ tv hσ=>jA.getX λv hv=>?_;refine jA.ite (λho=>?_) λ_=>Sim.fail σ;obtain⟨c,hc⟩:=j6 ho
  have YL:b7 (er tv) (erP p).hops=some (.ow c):=by rw[<- hc];exact hv
  simp only[YL]
  cases mv with
  |true=>
   simp only[if_true];refine jA.ite (λhb=>?_) λhb=>?_
   ·exact(show Sim _ _ _ from Sim.wrC (by rw[MY hb];rfl) (Sim.bump (g:=λ_=>X.ret v) (.ret hc))) σ
   ·refine jA.opt λYq h1=>?_;have h3:=MJ h1
    have hne:p.hops≠[]:=by
     obtain⟨r,o,hs⟩:=p
     cases hs with
     |nil=>simp[XP.bare]at hb
     |cons=>simp
    have:=(jA.wrI (Y:=Y) (σ:=σ) (r:=p.root) (o:=p.off) (t:=Yq) (by rw[h3,hσ,uu hne])).bind (g:=λ_=>X.bind (X.bump (p.root,p.off,p.hops.length+1)) λ_=>X.ret v) (h:=λ_=>.bump (p.root,p.off,p.hops.length+1) (.ret (TV.ow c))) (f':=er) λ_=>Sim.bump (.ret hc);rw[h3]at this;exact this
  |false=>
   refine jA.opt λYq h1=>jA.opt λv' h2=>?_
   have hr:er v'=(TV.ow c).imm:=by rw[pB h2,hc]
   by_cases hb:XP.bare p=true
   ·rw[oIP hb];exact(show Sim _ _ _ from Sim.wrC (tU h1) (Sim.bump (g:=λ_=>X.ret v') (.ret hr))) σ
   ·rw[oIN hb];have h3:=tU h1
    have hne:X.hopOs p.hops≠[]:=by
     obtain⟨r,o,hs⟩:=p
     cases hs with
     |nil=>simp[XP.bare]at hb
     |cons=>simp[X.hopOs]
    have:=(jA.wrI (Y:=Y) (σ:=σ) (o:=p.off) (t:=Yq) (by rw[h3,hσ,HP hne])).bind (g:=λ_=>X.bind (X.bump (p.root,p.off,p.hops.length+1)) λ_=>X.ret v') (h:=λ_=>.bump (p.root,p.off,p.hops.length+1) (.ret (TV.ow c).imm)) (f':=er) λ_=>Sim.bump (.ret hr);rw[h3]at this;exact this
 |pw p vs sz lo n=>
  refine(dL p _ vs).bind λ_=>Sim.rdC λtv=>tg λv hv=>?_;refine Sim.opt λYq h1=>Sim.opt λv' h2=>?_;obtain⟨c,hc,hw⟩:=Ln h2
  have YL:b7 (er tv) (erP p).hops=some (.ow c):=by rw[<- hc];exact hv
  simp only[YL];exact Sim.wrC (tU h1) (Sim.bump (.ret hw))
 |_=>exact .fail
theorem lO(mv:Bool):∀l:List (XV den),Sim (Y:=Y) (X.takeL bI mv l) (takeL mv (erL l)) erL:=by
 intro l
 induction l with
 |nil=>exact .ret rfl
 |cons t r ih=>exact(eu mv t).bind λt'=>ih.bind λr'=>.ret rfl
theorem qM(t:XV den):lk (er t)=erL (X.cellsX t):=by
 cases t with
 |d t y=>cases t with
  |row o t=>cases o<;>rfl
  |nilr o=>cases o<;>rfl
  |_=>rfl
 |_=>rfl
theorem Ot{t:XV den}:(∃l,t=.agg l)\/((∀l,t≠.agg l)/\∀l,er t≠.agg l):=by
 cases t with
 |agg l=>exact .inl ⟨l,rfl⟩
 |d t y=>cases t with
  |row o t=>cases o<;>exact .inr ⟨by simp,by simp[er,er1]⟩
  |nilr o=>cases o<;>exact .inr ⟨by simp,by simp[er,er1]⟩
  |_=>exact .inr ⟨by simp,by simp[er,er1]⟩
 |gap t x i o=>exact .inr ⟨by simp,λl h=>by cases h⟩
 |half t x m=>exact .inr ⟨by simp,λl h=>by cases h⟩
 |_=>exact .inr ⟨by simp,by simp[er]⟩
theorem nD(mv:Bool)(t:XV den):Sim (Y:=Y) (X.takeV bI mv t) (takeV mv (er t)) λx=>(erL x.1,x.2):=by
 rcases Ot (t:=t)with⟨l,rfl⟩|⟨h1,h2⟩
 ·exact(lO mv l).bind λl'=>.ret rfl
 ·have e1:X.takeV (X:=Y) bI mv t=X.bind (X.take1 bI mv t) λt'=>X.ret ([t'],false):=by
   unfold X.takeV
   simp_all
  have e2:takeV mv (er t)=(take1 mv (er t)).bind λt'=>.ret ([t'],false):=by
   unfold takeV
   simp_all
  rw[e1,e2];exact(eu mv t).bind λt'=>.ret rfl
theorem Jh(r:Nat):∀(l:List (XV den))(o:Nat),Sim (Y:=Y) (X.putB bI r o l) (putL ⟨r,o,[]⟩ (erL l)) id:=by
 intro l
 induction l with
 |nil=>intro o;exact .ret rfl
 |cons t l ih=>
  intro o
  have step:∀(g:Unit->XM den Option Y Unit)(s:SP Unit),Sim (g ()) s id->Sim (X.bind (X.rdC r o) λold=>X.bind (X.wrC bI r o t) λ_=>X.bind (if X.isHdrX old||X.isHdrX t then X.bump (r,o,1)else X.ret ()) g) ((sK ⟨r,o,[]⟩ (er t)).bind λ_=>s) id:=by
   intro g s hg;refine Sim.rdC λold=>?_;simp only[b7,qx];by_cases hh:(X.isHdrX old||X.isHdrX t)=true
   ·rw[oIP hh,oIP hh];exact Sim.wrC rfl (Sim.bump hg)
   ·rw[oIN hh,oIN hh];exact Sim.wrC rfl ((Sim.ret (a:=()) (b:=()) (f:=id) rfl).bind λ_=>hg)
  cases l with
  |nil=>exact step _ (.ret ()) (.ret rfl)
  |cons u l=>exact step _ _ (ih (o+1))
def Lp(q:Key):Nat->List (Key×Nat)->List (Key×Nat)
 |0,v=>v
 |n+1,v=>Lp q n (nv v q)
theorem rn{α:Type}(l:List (Nat×α))(i:Nat)(a:α):b9 (dp l i a) i=some a:=by rw[cg];simp
theorem wn{t:CT}(xs:List (den t))(i o:Nat)(f:den t->den t)(φ:TV->TV)(h:∀x,enc t (f x)=(enc t x).modify o φ):er1 (.row true t) (List.modify xs i f)=.ow ((List.map (enc t) xs).modify i λel=>el.modify o φ):=by
 show TV.ow (List.map (enc t) (List.modify xs i f))=_;congr 1;apply List.ext_getElem?;intro j;simp only[List.getElem?_map,List.getElem?_modify];by_cases hij:i=j
 ·simp
  cases xs[j]? with
  |none=>rfl
  |some e=>simp_all
 ·simp_all
theorem HM{t:CT}(e e':den t):(X.splitX bI t e).map X.isHdrX=(X.splitX bI t e').map X.isHdrX:=by
 induction t with
 |pair a b Zc Y7=>
  simp[X.splitX]
  grind
 |_=>rfl
theorem EM:∀(a a' l:List (XV den)),a.map X.isHdrX=a'.map X.isHdrX->X.hdrs a l=X.hdrs a' l:=by
 intro a
 induction a with
 |nil=>simp_all
 |cons x a ih=>
  intro a' l h
  cases a' with
  |nil=>simp at h
  |cons x' a'=>
   simp at h
   cases l with
   |nil=>rfl
   |cons b l=>simp[X.hdrs];rw[h.1,ih a' l h.2]
def GM(r off n:Nat)(f:oN):Prop:=(∀x∈f.1,x=.c r off\/(x=.n r\/x=.h r off)\/(x=.v (r,off,2)/\0<n))/\∀x∈f.2,x=.c r off\/(x=.v (r,off,2)/\0<n)
theorem GI{r off i sz o:Nat}{t:CT}(hsz:ii t=sz){v old:XV den}{f:den t->den t}{xs:List (den t)}{e:den t}{σ:St}{L:List TV}(hf:X.setD bI t o (X.asF bI v)=some f)(he:xs[i]?=some e)(ZA:JI (X.splitX bI t e) o=some old)
 (hc:σ.c r off=er1 (.row true t) xs)(hL:b9 σ.ce r=some L)(ho:off<L.length):
 (sK ⟨r,off,[(i,sz,o)]⟩ (er v)).run σ=some ((),⟨σ.tm,dp σ.ce r (L.set off (er1 (.row true t) (List.modify xs i f))),if X.isHdrX old||X.isHdrX v then nv σ.vr (r,off,2)else σ.vr⟩)/\
 GM r off (if X.isHdrX old||X.isHdrX v then 1 else 0) ((sK ⟨r,off,[(i,sz,o)]⟩ (er v)).foot σ):=by
 have Z6:b7 (er1 (.row true t) xs) [(i,sz,o)]=some (er old):=by
  have h3:(List.map (enc t) xs)[i]?=some (enc t e):=by simp_all
  show(match(List.map (enc t) xs)[i]? with|some el=>if el.length=sz then(match el[o]? with|some t=>b7 t []|none=>none)else none|none=>none)=_;rw[h3];simp only[dN,hsz,if_true,pR ZA];rfl
 have hset:eE (er1 (.row true t) xs) [(i,sz,o)] (er v)=er1 (.row true t) (List.modify xs i f):=by
  rw[wn xs i o f (λ_=>er v) (w6 (λu h hu _ x=>IB hu x) hf)];rfl
 have hW:hdW r off (er1 (.row true t) xs) (er1 (.row true t) (List.modify xs i f))=[]:=by rw[<- hset];exact Dv (by simp)
 unfold sK;simp only[SP.run,SP.foot,hc,Z6,qx,hset];by_cases hh:(X.isHdrX old||X.isHdrX v)=true
 ·rw[oIP hh,oIP hh,oIP hh,oIP (by simp)];simp only[SP.run,SP.foot,hL,ho,if_true,hc,hW];refine⟨rfl,λx hx=>?_,λx hx=>?_⟩
  ·simp at hx;rcases hx with h|h|h|h
   all_goals simp_all
  ·simp_all
 ·rw[oIN hh,oIN hh,oIN hh];simp only[SP.run,SP.foot,hL,ho,if_true,hc,hW,List.nil_append];refine⟨by simp_all,λx hx=>?_,λx hx=>?_⟩
  ·simp_all
  ·simp_all
theorem Me{r off i sz:Nat}{t:CT}(hsz:ii t=sz):∀(l:List (XV den)){o:Nat}{f:den t->den t}{xs:List (den t)}{e:den t}{σ:St}{L:List TV},X.setDs bI t o l=some f->xs[i]?=some e->o+l.length<=sz ->
 σ.c r off=er1 (.row true t) xs->b9 σ.ce r=some L->off<L.length ->
 (putL ⟨r,off,[(i,sz,o)]⟩ (erL l)).run σ=some ((),⟨σ.tm,dp σ.ce r (L.set off (er1 (.row true t) (List.modify xs i f))),Lp (r,off,2) (X.hdrs ((X.splitX bI t e).drop o) l) σ.vr⟩)/\
 GM r off (X.hdrs ((X.splitX bI t e).drop o) l) ((putL ⟨r,off,[(i,sz,o)]⟩ (erL l)).foot σ):=by
 intro l
 induction l with
 |nil=>intro o f xs e σ L h;simp[X.setDs]at h
 |cons v l ih=>
  intro o f xs e σ L hf he ho hc hL YZ
  have hlen:(X.splitX bI t e).length=sz:=by rw[<- dT,pS,dN,hsz]
  simp only[oLC]at ho
  obtain⟨old,ZA⟩:∃old,JI (X.splitX bI t e) o=some old:=by
   rw[ue];exact⟨_,oGE (by omega)⟩
  have Vj:(X.splitX bI t e).drop o=old::(X.splitX bI t e).drop (o+1):=by
   rw[ue]at ZA
   have Qk:o<(X.splitX bI t e).length:=by omega
   rw[List.drop_eq_getElem_cons Qk];rw[oGE Qk]at ZA
   injection ZA with ZA
   rw[ZA]
  cases l with
  |nil=>
   simp only[X.setDs]at hf;obtain⟨h1,h2⟩:=GI (r:=r) (off:=off) (i:=i) hsz hf he ZA hc hL YZ
   have e1:X.hdrs ((X.splitX bI t e).drop o) [v]=if X.isHdrX old||X.isHdrX v then 1 else 0:=by rw[Vj];simp[X.hdrs]
   have e2:putL ⟨r,off,[(i,sz,o)]⟩ (erL [v])=(sK ⟨r,off,[(i,sz,o)]⟩ (er v)).bind λ_=>.ret ():=rfl;refine⟨?_,?_⟩
   ·rw[e2,SP.run_bind,h1,e1];by_cases hh:(X.isHdrX old||X.isHdrX v)=true
    ·rw[oIP hh,oIP hh];rfl
    ·rw[oIN hh,oIN hh];rfl
   ·rw[e2,cn _ _ h1,e1];simpa[SP.foot]using h2
  |cons w vs=>
   simp only[X.setDs]at hf;split at hf
   case h_2=>simp at hf
   rename_i f1 g h1 h2
   injection hf with hf
   subst hf;obtain⟨p1,p2⟩:=GI (r:=r) (off:=off) (i:=i) hsz h1 he ZA hc hL YZ
   have S5:(List.modify xs i f1)[i]?=some (f1 e):=by simp[List.getElem?_modify,he]
   have RO:∀(vr:List (Key×Nat)),(⟨σ.tm,dp σ.ce r (L.set off (er1 (.row true t) (List.modify xs i f1))),vr⟩:St).c r off=er1 (.row true t) (List.modify xs i f1):=by
    intro vr;unfold St.c;simp only[rn];simp[YZ]
   have hIH:=ih (o:=o+1) (σ:=⟨σ.tm,dp σ.ce r (L.set off (er1 (.row true t) (List.modify xs i f1))),if X.isHdrX old||X.isHdrX v then nv σ.vr (r,off,2)else σ.vr⟩) h2 S5 (by simp only[oLC]at ho⊢;omega) (RO _) (rn _ _ _) (by simpa using YZ);obtain⟨q1,q2⟩:=hIH
   have e2:putL ⟨r,off,[(i,sz,o)]⟩ (erL (v::w::vs))=(sK ⟨r,off,[(i,sz,o)]⟩ (er v)).bind λ_=>putL ⟨r,off,[(i,sz,o+1)]⟩ (erL (w::vs)):=by
    have Zl:bS.fits ⟨r,off,[(i,sz,o)]⟩ 1=true:=by simp only[bS.fits,List.reverse_cons,List.reverse_nil,List.nil_append];simp only[oLC]at ho;simpa using(by omega:o+1<sz)
    show(sK ⟨r,off,[(i,sz,o)]⟩ (er v)).bind (λ_=>if bS.fits ⟨r,off,[(i,sz,o)]⟩ 1 then putL ⟨r,off,[(i,sz,o+1)]⟩ (erL (w::vs))else .fail)=_;rw[Zl];rfl
   have e3:X.hdrs ((X.splitX bI t e).drop o) (v::w::vs)=(if X.isHdrX old||X.isHdrX v then 1 else 0)+X.hdrs ((X.splitX bI t (f1 e)).drop (o+1)) (w::vs):=by
    rw[Vj];show _+X.hdrs ((X.splitX bI t e).drop (o+1)) (w::vs)=_;rw[EM _ ((X.splitX bI t (f1 e)).drop (o+1)) _ (by rw[List.map_drop,List.map_drop,HM e (f1 e)])]
   have e4:List.modify (List.modify xs i f1) i g=List.modify xs i λe=>g (f1 e):=by
    apply List.ext_getElem?;intro j;simp only[List.getElem?_modify];by_cases hij:i=j
    ·simp only[hij,if_true];cases xs[j]?<;>rfl
    ·simp[hij]
   refine⟨?_,?_⟩
   ·rw[e2,SP.run_bind,p1];simp only[oBS];rw[q1,e3,rm,List.set_set,e4];congr 2;by_cases hh:(X.isHdrX old||X.isHdrX v)=true
    ·rw[oIP hh,oIP hh,Nat.add_comm 1];rfl
    ·rw[oIN hh,oIN hh,Nat.zero_add]
   ·rw[e2,cn _ _ p1,e3];refine⟨λx hx=>?_,λx hx=>?_⟩
    ·rcases List.mem_append.1 hx with hx|hx
     ·rcases p2.1 x hx with h|h|⟨h,h'⟩
      ·exact .inl h
      ·exact .inr (.inl h)
      ·exact .inr (.inr ⟨h,by omega⟩)
     ·rcases q2.1 x hx with h|h|⟨h,h'⟩
      ·exact .inl h
      ·exact .inr (.inl h)
      ·exact .inr (.inr ⟨h,by omega⟩)
    ·rcases List.mem_append.1 hx with hx|hx
     ·rcases p2.2 x hx with h|⟨h,h'⟩
      ·exact .inl h
      ·exact .inr ⟨h,by omega⟩
     ·rcases q2.2 x hx with h|⟨h,h'⟩
      ·exact .inl h
      ·exact .inr ⟨h,by omega⟩
theorem It(q:Key):∀(n:Nat){σ:XS den}{k:Unit->XS den->Option Y}{y:Y},X.bumps q n σ k=some y->∃ σ',erS σ'=⟨(erS σ).tm,(erS σ).ce,Lp q n σ.vr⟩/\(∀x∈σ.lg.1,x∈σ'.lg.1)/\(∀x∈σ.lg.2,x∈σ'.lg.2)/\(0<n->Loc.v q∈σ'.lg.1/\Loc.v q∈σ'.lg.2)/\k () σ'=some y:=by
 intro n
 induction n with
 |zero=>intro σ k y h;exact⟨σ,rfl,λ_ h=>h,λ_ h=>h,λh=>by omega,h⟩
 |succ n ih=>
  intro σ k y h;have ⟨σ',h1,h2,h3,h4,h5⟩:=ih (show X.bumps q n ⟨σ.tm,σ.ce,nv σ.vr q,(.v q :: σ.lg.1,.v q :: σ.lg.2)⟩ k=some y from h);exact⟨σ',h1,λx hx=>h2 x (by simp[hx]),λx hx=>h3 x (by simp[hx]),λ_=>⟨h2 _ (by simp),h3 _ (by simp)⟩,h5⟩
theorem Em{G G1 G2:(u:CT)->Option (den u->den u)}(hG:∀u f,G u=some f->∃f1 g,G1 u=some f1/\G2 u=some g/\∀x,f x=g (f1 x)):∀{t:CT}{o:Nat}{f:den t->den t},X.setD bI t o G=some f->∃f1 g,X.setD bI t o G1=some f1/\X.setD bI t o G2=some g/\∀x,f x=g (f1 x):=by
 intro t
 induction t with
 |pair a b Zc Y7=>
  intro o f h;simp only[X.setD]at h⊢;by_cases ho:o<ii a
  ·rw[oIP ho]at h;obtain⟨h1,e1,rfl⟩:=ge h;have ⟨f1,g,e2,e3,e4⟩:=Zc e1;rw[oIP ho,oIP ho,e2,e3];exact⟨_,_,rfl,rfl,λx=>by show(h1 x.1,x.2)=(g (f1 x.1),x.2);rw[e4]⟩
  ·rw[oIN ho]at h;obtain⟨h1,e1,rfl⟩:=ge h;have ⟨f1,g,e2,e3,e4⟩:=Y7 e1;rw[oIN ho,oIN ho,e2,e3];exact⟨_,_,rfl,rfl,λx=>by show(x.1,h1 x.2)=(x.1,g (f1 x.2));rw[e4]⟩
 |nat=>intro o f h;simp[X.setD]at h
 |_=>
  intro o f h
  cases o with
  |succ o=>simp[X.setD]at h
  |zero=>
   first
    |exact hG _ f h
    |(have ⟨a,b,c,d,_⟩:=hG _ f h;exact⟨a,b,c,d,λ_=>trivial⟩)
theorem FC{t:CT}(xs:List (den t))(i:Nat)(f1 g f:den t->den t)(h:∀x,f x=g (f1 x)):List.modify xs i f=List.modify (List.modify xs i f1) i g:=by
 apply List.ext_getElem?
 grind
theorem Bn{pl:List (den .nat×Nat×Nat)}{i sz o:Nat}{v w:XV den}{vs:List (XV den)}:∀{u:CT}{f:den u->den u},X.setHs bI (pl++[(i,sz,o)]) (v::w::vs) u=some f->∃f1 g,X.setH bI (pl++[(i,sz,o)]) v u=some f1/\X.setHs bI (pl++[(i,sz,o+1)]) (w::vs) u=some g/\∀x,f x=g (f1 x):=by
 induction pl with
 |nil=>
  intro u f h
  cases u with
  |row ow t=>cases ow with
   |false=>simp[X.setHs]at h
   |true=>
    simp only[List.nil_append,X.setHs,X.setH]at h⊢;split at h
    ·rename_i hsz;obtain⟨F,h1,rfl⟩:=ge h;simp only[X.setDs]at h1;split at h1
     ·rename_i f1 g e1 e2
      injection h1 with h1
      have e1':=e1;rw[oIP hsz,oIP hsz,e2];refine⟨λxs=>List.modify xs i f1,λxs=>List.modify xs i g,?_,rfl,λx=>FC x i f1 g F λy=>by rw[<- h1]⟩;rw[e1'];rfl
     ·simp_all
    ·simp at h
  |_=>simp[X.setHs]at h
 |cons hp pl ih=>
  intro u f h;obtain⟨i0,Za,o0⟩:=hp
  obtain⟨q,qs,hq⟩:∃q qs,pl++[(i,sz,o)]=q::qs:=by cases pl with|nil=>exact⟨_,_,rfl⟩|cons a b=>exact⟨_,_,rfl⟩
  obtain⟨q',qs',Qo⟩:∃q qs,pl++[(i,sz,o+1)]=q::qs:=by cases pl with|nil=>exact⟨_,_,rfl⟩|cons a b=>exact⟨_,_,rfl⟩
  cases u with
  |row ow t=>cases ow with
   |false=>simp only[List.cons_append,hq]at h;simp[X.setHs]at h
   |true=>
    simp only[List.cons_append,hq,Qo,X.setHs,X.setH]at h⊢;split at h
    ·rename_i hsz;obtain⟨F,h1,rfl⟩:=ge h
     obtain⟨f1,g,e1,e2,e3⟩:=Em (G1:=X.setH bI (q::qs) v) (G2:=X.setHs bI (q'::qs') (w::vs)) (λu f hf=>by
      rw[<- hq]at hf;obtain⟨a,b,c,d,e⟩:=ih hf;rw[hq]at c;rw[Qo]at d
      exact⟨a,b,c,d,e⟩) h1
     rw[oIP hsz,oIP hsz,e1,e2];exact⟨_,_,rfl,rfl,λx=>FC x i0 f1 g F e3⟩
    ·simp at h
  |_=>simp only[List.cons_append,hq]at h;simp[X.setHs]at h
theorem Gs(v:XV den):∀(hs:List (den .nat×Nat×Nat)),hs≠[]->X.setHs bI hs [v]=X.setH bI hs v:=by
 intro hs
 induction hs with
 |nil=>simp_all
 |cons h1 hs ih=>
  intro _;funext u
  cases hs with
  |nil=>cases u with
   |row ow t=>cases ow with
    |true=>rfl
    |false=>rfl
   |_=>rfl
  |cons h2 hs=>cases u with
   |row ow t=>cases ow with
    |true=>
     simp[X.setHs,X.setH]
     simp_all
    |false=>rfl
   |_=>rfl
theorem EP{pl:List Hop}{i sz o j:Nat}(hj:o≠j)(v:TV):∀{t:TV},b7 (eE t (pl++[(i,sz,o)]) v) (pl++[(i,sz,j)])=b7 t (pl++[(i,sz,j)]):=by
 induction pl with
 |nil=>
  intro t
  cases t with
  |ow c=>
   show b7 (.ow (c.modify i λel=>el.modify o λt1=>eE t1 [] v)) [(i,sz,j)]=b7 (.ow c) [(i,sz,j)];simp[b7]
   cases hc:c[i]? with
   |none=>rfl
   |some el=>simp_all
  |_=>rfl
 |cons h pl ih=>
  intro t;have ⟨i0,Za,o0⟩:=h
  cases t with
  |ow c=>
   show b7 (.ow (c.modify i0 λel=>el.modify o0 λt1=>eE t1 (pl++[(i,sz,o)]) v)) ((i0,Za,o0)::(pl++[(i,sz,j)]))=b7 (.ow c) ((i0,Za,o0)::(pl++[(i,sz,j)]));simp[b7]
   cases hc:c[i0]? with
   |none=>rfl
   |some el=>
    simp;split
    ·cases he:el[o0]? with
     |none=>rfl
     |some t1=>exact ih
    ·rfl
  |_=>rfl
theorem GK{r off:Nat}{pl:List (den .nat×Nat×Nat)}{i sz:Nat}{u:CT}:∀(l:List (XV den)){o:Nat}{f:den u->den u}{x:den u}{σ:St}{L:List TV},X.setHs bI (pl++[(i,sz,o)]) l u=some f->0<l.length->o+l.length<=sz ->
 (∀j,j<l.length->∃old,b7 (er1 u x) (pl++[(i,sz,o+j)])=some old/\lG old=false)->(∀v∈l,X.isHdrX v=false)->σ.c r off=er1 u x->b9 σ.ce r=some L->off<L.length ->
 (putL ⟨r,off,pl++[(i,sz,o)]⟩ (erL l)).run σ=some ((),⟨σ.tm,dp σ.ce r (L.set off (er1 u (f x))),σ.vr⟩)/\
 (∀z∈((putL ⟨r,off,pl++[(i,sz,o)]⟩ (erL l)).foot σ).1,z=.c r off\/z=.n r\/z=.h r off)/\∀z∈((putL ⟨r,off,pl++[(i,sz,o)]⟩ (erL l)).foot σ).2,z=.c r off:=by
 intro l
 induction l with
 |nil=>intro o f x σ L _ h;simp at h
 |cons v l ih=>
  intro o f x σ L hf _ ho ZA hh hc hL YZ;obtain⟨old,hg,hoh⟩:=ZA 0 (by simp);rw[Nat.add_zero]at hg
  have hvh:lG (er v)=false:=by rw[qx];exact hh v (by simp)
  have XT:∀(f1:den u->den u),X.setH bI (pl++[(i,sz,o)]) v u=some f1->(sK ⟨r,off,pl++[(i,sz,o)]⟩ (er v)).run σ=some ((),⟨σ.tm,dp σ.ce r (L.set off (er1 u (f1 x))),σ.vr⟩)/\(sK ⟨r,off,pl++[(i,sz,o)]⟩ (er v)).foot σ=([.c r off,.n r,.h r off],[.c r off]):=by
   intro f1 h1;have hs:=Bo h1 x;unfold sK;simp only[SP.run,SP.foot,hc];rw[hg];simp only[hoh,hvh,Bool.or_false,Bool.false_eq_true,if_false,SP.run,SP.foot,hL,YZ,if_true,hc,Dv (show pl++[(i,sz,o)]≠[] by simp),List.nil_append];rw[hs];exact⟨by first|rfl|trivial,by first|rfl|trivial⟩
  cases l with
  |nil=>
   rw[Gs v _ (by simp)]at hf;obtain⟨h1,h2⟩:=XT f hf;have e2:putL ⟨r,off,pl++[(i,sz,o)]⟩ (erL [v])=(sK ⟨r,off,pl++[(i,sz,o)]⟩ (er v)).bind λ_=>.ret ():=rfl;rw[e2,SP.run_bind,h1,cn _ _ h1,h2];refine⟨rfl,λz hz=>?_,λz hz=>?_⟩
   all_goals simp only[SP.foot,List.append_nil,List.mem_cons,List.not_mem_nil,or_false]at hz;exact hz
  |cons w vs=>
   obtain⟨f1,g,h1,h2,h3⟩:=Bn hf;obtain⟨p1,p2⟩:=XT f1 h1;have hs:=Bo h1 x;simp only[oLC]at ho
   obtain⟨q1,q2,q3⟩:=ih (o:=o+1) (x:=f1 x) (σ:=⟨σ.tm,dp σ.ce r (L.set off (er1 u (f1 x))),σ.vr⟩) h2 (by simp) (by simp only[oLC];omega) (λj hj=>by
    obtain⟨Sg,h4,h5⟩:=ZA (j+1) (by simp only[oLC]at hj⊢;omega);refine⟨Sg,?_,h5⟩;rw[hs,EP (by omega),show o+1+j=o+(j+1) by omega]
    exact h4) (λv' YL=>hh v' (by simp[YL])) (by
    unfold St.c;simp only[rn]
    simp[YZ]) (rn _ _ _) (by simpa using YZ)
   have e2:putL ⟨r,off,pl++[(i,sz,o)]⟩ (erL (v::w::vs))=(sK ⟨r,off,pl++[(i,sz,o)]⟩ (er v)).bind λ_=>putL ⟨r,off,pl++[(i,sz,o+1)]⟩ (erL (w::vs)):=by
    have Zl:bS.fits ⟨r,off,pl++[(i,sz,o)]⟩ 1=true:=by
     simp only[bS.fits,List.reverse_append,List.reverse_cons,List.reverse_nil,List.nil_append,List.cons_append];simpa using(by omega:o+1<sz)
    have X4:bS.add ⟨r,off,pl++[(i,sz,o)]⟩ 1=⟨r,off,pl++[(i,sz,o+1)]⟩:=by simp[bS.add]
    show(sK ⟨r,off,pl++[(i,sz,o)]⟩ (er v)).bind (λ_=>if bS.fits ⟨r,off,pl++[(i,sz,o)]⟩ 1 then putL (bS.add ⟨r,off,pl++[(i,sz,o)]⟩ 1) (erL (w::vs))else .fail)=_;rw[Zl,X4];rfl
   rw[e2,SP.run_bind,p1,cn _ _ p1,p2];simp only[oBS];rw[q1,rm,List.set_set,h3 x];refine⟨rfl,λz hz=>?_,λz hz=>?_⟩
   ·rcases List.mem_append.1 hz with hz|hz
    ·simpa using hz
    ·exact q2 z hz
   ·rcases List.mem_append.1 hz with hz|hz
    ·simpa using hz
    ·exact q3 z hz
theorem sb(l:List (den .nat×Nat×Nat))(i:Nat)(sz o:Nat):X.lastO (l++[(i,sz,o)])=o:=by
 induction l with
 |nil=>rfl
 |cons h l ih=>
  cases l with
  |nil=>rfl
  |cons h2 l=>simpa[X.lastO]using ih
theorem DH:∀{hs:List (den .nat×Nat×Nat)}{tv:XV den}{k:(t:CT)->den t->Option Y}{y:Y},X.elemX bI tv hs k=some y->∃l i sz o t e,hs=l++[(i,sz,o)]/\ii t=sz/\(∀j v,JI (X.splitX bI t e) j=some v->b7 (er tv) (l++[(i,sz,j)])=some (er v))/\k t e=some y:=by
 intro hs
 induction hs with
 |nil=>
  intro tv k y h
  cases tv with
  |d u x=>cases u with
   |row ow t=>cases ow<;>cases h
   |_=>cases h
  |_=>cases h
 |cons h1 hs ih=>
  intro tv k y h;obtain⟨i,sz,o⟩:=h1
  cases tv with
  |d u x=>cases u with
   |row ow t=>cases ow with
    |true=>
     cases hs with
     |nil=>
      simp only[X.elemX]at h;split at h
      ·rename_i hsz;obtain⟨e,he,h2⟩:=bO (show(bV (x:List (den t)) i).bind _=some y from h);have he:(x:List (den t))[i]?=some e:=he;refine⟨[],i,sz,o,t,e,rfl,hsz,λj v hv=>?_,h2⟩
       have h3:(List.map (enc t) (x:List (den t)))[i]?=some (enc t e):=by rw[List.getElem?_map,he];rfl
       show(match(List.map (enc t) (x:List (den t)))[i]? with|some el=>if el.length=sz then(match el[j]? with|some t=>b7 t []|none=>none)else none|none=>none)=_;rw[h3];simp only[dN,hsz,if_true,pR hv];rfl
      ·cases h
     |cons h2 hs=>
      simp only[X.elemX]at h;split at h
      ·rename_i hsz;obtain⟨e,he,h3⟩:=bO (show(bV (x:List (den t)) i).bind _=some y from h);have he:(x:List (den t))[i]?=some e:=he;split at h3
       ·rename_i v hv;obtain⟨l,i',sz',o',t',e',e1,e2,e3,e4⟩:=ih h3;refine⟨(i,sz,o)::l,i',sz',o',t',e',by rw[e1];rfl,e2,λj w hw=>?_,e4⟩
        have h4:(List.map (enc t) (x:List (den t)))[i]?=some (enc t e):=by rw[List.getElem?_map,he];rfl
        have:=e3 j w hw;show(match(List.map (enc t) (x:List (den t)))[i]? with|some el=>if el.length=sz then(match el[o]? with|some t=>b7 t (l++[(i',sz',j)])|none=>none)else none|none=>none)=_;rw[h4];simp only[dN,hsz,if_true,pR hv];exact this
       ·cases h3
      ·cases h
    |false=>cases hs<;>cases h
   |_=>cases hs<;>cases h
  |_=>cases hs<;>cases h
theorem Bh(r off:Nat)(hs:List (den .nat×Nat×Nat))(l:List (XV den))(h2:2<=hs.length):Sim (Y:=Y) (X.bind (X.rdC r off) λtv=>X.elemM bI tv hs λt e=>
 if X.lastO hs+l.length<=ii t/\0<l.length/\(((X.splitX bI t e).drop (X.lastO hs)).take l.length).all (λv=>!X.isHdrX v)=true/\l.all (λv=>!X.isHdrX v)=true then X.bind (X.optM bI (X.setXs bI tv hs l)) λYq=>X.wrI bI r off Yq else X.fail bI) (putL ⟨r,off,hs⟩ (erL l)) id:=by
 intro σ k y hk;obtain⟨pl,i,sz,o,t,e,e1,e2,e3,e4⟩:=DH hk
 have e5:X.lastO hs=o:=by rw[e1,sb]
 rw[e5]at e4;dsimp only at e4;split at e4
 case isFalse=>cases e4
 rename_i hc;obtain⟨Zg,Zp,Ud,PY⟩:=hc
 have hlen:(X.splitX bI t e).length=sz:=by rw[<- dT,pS,dN,e2]
 cases hset:X.setXs bI (X.cOf σ r off) hs l with
 |none=>rw[hset]at e4;cases e4
 |some Yq=>
  rw[hset]at e4;have e4:X.wrI bI r off Yq (X.lgR (.c r off) σ) k=some y:=e4
  cases htv:X.cOf σ r off with
  |d u x=>
   rw[htv]at hset e3;obtain⟨f,hf,hf2⟩:=ge (show(X.setHs bI hs l u).map (λf=>(XV.d u (f x):XV den))=some Yq from hset);subst hf2;unfold X.wrI at e4;split at e4
   case h_2=>cases e4
   rename_i L hL;have hL:b9 σ.ce r=some L:=hL;split at e4
   case isFalse=>cases e4
   rename_i YZ;rw[nM]at e4;rw[e1]at hf
   obtain⟨q1,q2,q3⟩:=GK (r:=r) (off:=off) (σ:=erS σ) (L:=erL L) l (x:=x) hf Zp (by rw[<- e2];exact Zg) (λj hj=>by
    have hjs:o+j<(X.splitX bI t e).length:=by omega
    refine⟨er (X.splitX bI t e)[o+j],e3 (o+j) _ (by rw[ue];exact oGE hjs),?_⟩;rw[qx]
    have:=List.all_eq_true.1 Ud (X.splitX bI t e)[o+j] (List.mem_of_getElem? (i:=j) (by
     rw[List.getElem?_take,oIP hj,List.getElem?_drop]
     exact oGE hjs))
    simpa using this) (λv hv=>by simp_all) (by rw[uO,htv];rfl) (by rw[uN,hL];rfl) (by rw[dT];exact YZ)
   rw[<- e1]at q1 q2 q3;refine⟨(),⟨σ.tm,dp σ.ce r (L.set off (.d u (f x))),σ.vr,(.n r :: .h r off :: .c r off :: σ.lg.1,.c r off :: σ.lg.2)⟩,?_,⟨λz hz=>?_,λz hz=>?_,λz hz=>by simp[hz],λz hz=>by simp[hz]⟩,e4⟩
   ·rw[q1];unfold erS erC;simp only;rw[<- mM,rS];rfl
   ·rcases q2 z hz with h|h|h<;>simp[h]
   ·simp[q3 z hz]
  |_=>rw[htv]at hset;cases hset
theorem GN{r off i sz o:Nat}{l:List (XV den)}{tv:XV den}{σ:XS den}{k:Unit->XS den->Option Y}{y:Y}(h:X.putEl bI r off i sz o l tv σ k=some y):
 (∃t xs,tv=.d (.row true t) xs/\(ii t=sz/\o+l.length<=sz/\0<l.length)/\(X.atM bI true t xs i λe=>X.bind (X.optM bI (X.setDs bI t o l)) λf=>X.bind (X.wrI bI r off (.d (.row true t) (bI.upd t xs i f))) λ_=>X.bumps (r,off,2) (X.hdrs ((X.splitX bI t e).drop o) l)) σ k=some y)\/
 (∃t xs i' o',tv=.gap t xs i' o'/\(ii t=sz/\o=o'/\o<sz/\l.length=1)/\(X.atM bI true t xs i λ_=>X.brM bI (bI.eqN i i') (X.bind (X.optM bI (X.setDs bI t o l)) λf=>X.bind (X.wrI bI r off (.d (.row true t) (bI.upd t xs i f))) λ_=>X.bump (r,off,2))) σ k=some y)\/
 ∃t xs m u v z,tv=.half t xs m/\l=[.d u v]/\asT bI u (.row true t) v=some z/\(sz=1/\o=0)/\(X.atM bI true (.row true t) xs i λ_=>X.brM bI (bI.eqN i m) (X.bind (X.wrI bI r off (.half t (bI.upd (.row true t) xs i λ_=>z) (bI.addN m (bI.litN 1)))) λ_=>X.bump (r,off,2))) σ k=some y:=by
 cases tv with
 |d u xs=>cases u with
  |row ow t=>cases ow with
   |true=>
    by_cases hc:ii t=sz/\o+l.length<=sz/\0<l.length
    ·simp only[X.putEl,oIP hc]at h;exact .inl ⟨t,xs,rfl,hc,h⟩
    ·simp only[X.putEl,oIN hc]at h;cases h
   |false=>cases h
  |_=>cases h
 |gap t xs i' o'=>
  by_cases hc:ii t=sz/\o=o'/\o<sz/\l.length=1
  ·simp only[X.putEl,oIP hc]at h;exact .inr (.inl ⟨t,xs,i',o',rfl,hc,h⟩)
  ·simp only[X.putEl,oIN hc]at h;cases h
 |half t xs m=>
  cases l with
  |nil=>cases h
  |cons x r=>cases r with
   |cons y r=>cases x<;>cases h
   |nil=>cases x with
    |d u v=>
     cases hz:asT bI u (.row true t) v with
     |none=>simp only[X.putEl,hz]at h;cases h
     |some z=>
      by_cases hc:sz=1/\o=0
      ·simp only[X.putEl,hz,oIP hc]at h;exact .inr (.inr ⟨t,xs,m,u,v,z,rfl,rfl,hz,hc,h⟩)
      ·simp only[X.putEl,hz,oIN hc]at h;cases h
    |_=>cases h
 |_=>cases h
theorem Iu{c:Bool}{m:XM den Option Y α}{σ:XS den}{k:α->XS den->Option Y}{y:Y}(h:X.brM bI c m σ k=some y):c=true/\m σ k=some y:=by
 cases c with
 |false=>cases h
 |true=>exact⟨rfl,h⟩
theorem Kc{t:CT}{xs:List (den t)}{i sz o:Nat}{e:den t}(hsz:ii t=sz)(he:xs[i]?=some e)(ho:o<sz):b7 (eE (er1 (.row true t) xs) [(i,0,o)] .dead) [(i,sz,o)]=some .dead:=by
 have h3:(List.map (enc t) xs)[i]?=some (enc t e):=by simp_all
 show(match((List.map (enc t) xs).modify i λel=>el.modify o λ_=>TV.dead)[i]? with|some el=>if el.length=sz then(match el[o]? with|some t=>b7 t []|none=>none)else none|none=>none)=_;rw[List.getElem?_modify,h3]
 have h4:o<(enc t e).length:=by rw[dN,hsz];exact ho
 simp[dN,hsz,oGE h4,b7]
theorem Jt{tv:TV}{i sz sz' o:Nat}{u v:TV}:eE (eE tv [(i,sz',o)] u) [(i,sz,o)] v=eE tv [(i,sz,o)] v:=by
 cases tv with
 |ow c=>
  simp only[eE];congr 1;apply List.ext_getElem?;intro j;simp only[List.getElem?_modify];by_cases h:i=j
  ·simp only[h,if_true]
   cases c[j]? with
   |none=>rfl
   |some el=>
    show some ((el.modify o λ_=>u).modify o λ_=>v)=some (el.modify o λ_=>v);congr 1;apply List.ext_getElem?;intro k;simp only[List.getElem?_modify];by_cases h:o=k
    ·simp only[h,if_true];cases el[k]?<;>rfl
    ·simp[h]
  ·simp[h]
 |_=>rfl
theorem Ec{r off i sz o:Nat}{t:CT}{xs:List (den t)}{l:List (XV den)}{σ:XS den}{k:Unit->XS den->Option Y}{y:Y}(hcell:X.cOf σ r off=.gap t xs i o)(hc:ii t=sz/\o<sz/\l.length=1){e:den t}(he:xs[i]?=some e)
 (hk:(X.bind (X.optM bI (X.setDs bI t o l)) λf=>X.bind (X.wrI bI r off (.d (.row true t) (bI.upd t xs i f))) λ_=>X.bump (r,off,2)) (X.lgR (.c r off) σ) k=some y):
 ∃a σ',(putL ⟨r,off,[(i,sz,o)]⟩ (erL l)).run (erS σ)=some (id a,erS σ')/\lK σ σ' ((putL ⟨r,off,[(i,sz,o)]⟩ (erL l)).foot (erS σ))/\k a σ'=some y:=by
 obtain⟨hsz,ho,hl⟩:=hc
 obtain⟨v,rfl⟩:∃v,l=[v]:=by
  match l,hl with
  | [v],_=>simp_all
 cases hf:X.setDs bI t o [v]with
 |none=>rw[hf]at hk;cases hk
 |some f=>
  rw[hf]at hk
  have hset:eE (er1 (.row true t) xs) [(i,sz,o)] (er v)=er1 (.row true t) (List.modify xs i f):=by
   rw[wn xs i o f (λ_=>er v) (w6 (λu h hu _ x=>IB hu x) hf)];rfl
  have Yu:(erS σ).c r off=eE (er1 (.row true t) xs) [(i,0,o)] .dead:=by rw[uO,hcell];rfl
  have Td:=(jA.wrI (Y:=Y) (σ:=X.lgR (.c r off) σ) (t:=.d (.row true t) (List.modify xs i f)) (by
   show(er1 (.row true t) (List.modify xs i f)).hd=((erS σ).c r off).hd
   rw[Yu,uu (by simp),<- hset,uu (by simp)])).bind (g:=λ_=>X.bump (r,off,2)) (h:=λ_=>.bump (r,off,2) (.ret ())) (f':=id) λ_=>wZ (r,off,2)
  have ⟨a,σ',h1,h2,h3⟩:=Td k y hk
  have e1:putL ⟨r,off,[(i,sz,o)]⟩ (erL [v])=.rdC r off λtv=>(match b7 tv [(i,sz,o)]with
   |some old=>if lG old||lG (er v)then(if 1<=1 then SP.wrC r off (eE tv [(i,sz,o)] (er v)) (.bump (r,off,2) (.ret ()))else .fail)else .wrC r off (eE tv [(i,sz,o)] (er v)) (.ret ())
   |none=>.fail).bind λ_=>.ret ():=rfl
  have e2:∀s:TV,s=(erS σ).c r off->((match b7 s [(i,sz,o)]with
   |some old=>if lG old||lG (er v)then(if 1<=1 then SP.wrC r off (eE s [(i,sz,o)] (er v)) (.bump (r,off,2) (.ret ()))else .fail)else .wrC r off (eE s [(i,sz,o)] (er v)) (.ret ())
   |none=>.fail:SP Unit).bind λ_=>.ret ())=.wrC r off (er1 (.row true t) (List.modify xs i f)) (.bump (r,off,2) (.ret ())):=by
   intro s hs;rw[hs,Yu,Kc hsz he ho,Jt,hset];rfl
  refine⟨a,σ',?_,⟨λx hx=>?_,λx hx=>?_,λx hx=>h2.r0 x (by simp[X.lgR,hx]),λx hx=>h2.w0 x hx⟩,h3⟩
  ·rw[e1];simp only[SP.run];rw[e2 _ rfl];exact h1
  ·rw[e1]at hx;simp only[SP.foot,List.mem_cons]at hx;rcases hx with rfl|hx
   ·exact h2.r0 _ (by simp[X.lgR])
   ·rw[e2 _ rfl]at hx;exact h2.r x hx
  ·rw[e1]at hx;simp only[SP.foot]at hx;rw[e2 _ rfl]at hx;exact h2.w x hx
theorem H3{t:CT}{xs:List (List (den t))}{i m:Nat}{e:List (den t)}(he:xs[i]?=some e):∃u,b7 (.ow (gO t m xs)) [(i,1,0)]=some u/\lG u=true:=by
 show ∃u,(match(gO t m xs)[i]? with|some el=>if el.length=1 then(match el[0]? with|some t=>b7 t []|none=>none)else none|none=>none)=some u/\lG u=true;rw[kE,he];simp only[oMS];split
 ·exact⟨_,rfl,rfl⟩
 ·exact⟨_,rfl,rfl⟩
theorem Bg{r off i:Nat}{t:CT}{xs:List (List (den t))}{u:CT}{v:den u}{z:List (den t)}{σ:XS den}{k:Unit->XS den->Option Y}{y:Y}(hcell:X.cOf σ r off=.half t xs i)(hz:asT bI u (.row true t) v=some z){e:List (den t)}(he:xs[i]?=some e)
 (hk:(X.bind (X.wrI bI r off (.half t (List.modify xs i λ_=>z) (i+1))) λ_=>X.bump (r,off,2)) (X.lgR (.c r off) σ) k=some y):
 ∃a σ',(putL ⟨r,off,[(i,1,0)]⟩ (erL [.d u v])).run (erS σ)=some (id a,erS σ')/\lK σ σ' ((putL ⟨r,off,[(i,1,0)]⟩ (erL [.d u v])).foot (erS σ))/\k a σ'=some y:=by
 have hv:er (.d u v)=.ow (List.map (enc t) z):=(AT hz).symm
 have hset:eE (.ow (gO t i xs)) [(i,1,0)] (er (.d u v))=.ow (gO t (i+1) (xs.modify i λ_=>z)):=by
  rw[hv,HU];rfl
 have Yu:(erS σ).c r off=.ow (gO t i xs):=by rw[uO,hcell];rfl
 have Td:=(jA.wrI (Y:=Y) (σ:=X.lgR (.c r off) σ) (r:=r) (o:=off) (t:=.half t (List.modify xs i λ_=>z) (i+1)) (by
  show(TV.ow (gO t (i+1) (xs.modify i λ_=>z))).hd=((erS σ).c r off).hd;rw[Yu];simp only[TV.hd,wA];congr 1
  rw[List.map_const',List.map_const',oLM])).bind (g:=λ_=>X.bump (r,off,2)) (h:=λ_=>.bump (r,off,2) (.ret ())) (f':=id) λ_=>wZ (r,off,2)
 obtain⟨a,σ',h1,h2,h3⟩:=Td k y hk;obtain⟨old,ho,hh⟩:=H3 (m:=i) he
 have e1:putL ⟨r,off,[(i,1,0)]⟩ (erL [.d u v])=.rdC r off λtv=>(match b7 tv [(i,1,0)]with
  |some old=>if lG old||lG (er (.d u v))then(if 1<=1 then SP.wrC r off (eE tv [(i,1,0)] (er (.d u v))) (.bump (r,off,2) (.ret ()))else .fail)else .wrC r off (eE tv [(i,1,0)] (er (.d u v))) (.ret ())
  |none=>.fail).bind λ_=>.ret ():=rfl
 have e2:∀s:TV,s=(erS σ).c r off->((match b7 s [(i,1,0)]with
  |some old=>if lG old||lG (er (.d u v))then(if 1<=1 then SP.wrC r off (eE s [(i,1,0)] (er (.d u v))) (.bump (r,off,2) (.ret ()))else .fail)else .wrC r off (eE s [(i,1,0)] (er (.d u v))) (.ret ())
  |none=>.fail:SP Unit).bind λ_=>.ret ())=.wrC r off (.ow (gO t (i+1) (xs.modify i λ_=>z))) (.bump (r,off,2) (.ret ())):=by
  intro s hs;rw[hs,Yu,ho];simp only[hh,Bool.true_or,if_true];rw[hset];rfl
 refine⟨a,σ',?_,⟨λx hx=>?_,λx hx=>?_,λx hx=>h2.r0 x (by simp[X.lgR,hx]),λx hx=>h2.w0 x hx⟩,h3⟩
 ·rw[e1];simp only[SP.run];rw[e2 _ rfl];exact h1
 ·rw[e1]at hx;simp only[SP.foot,List.mem_cons]at hx;rcases hx with rfl|hx
  ·exact h2.r0 _ (by simp[X.lgR])
  ·rw[e2 _ rfl]at hx;exact h2.r x hx
 ·rw[e1]at hx;simp only[SP.foot]at hx;rw[e2 _ rfl]at hx;exact h2.w x hx
theorem CX(p:XP den)(l:List (XV den)):Sim (Y:=Y) (X.putL bI p l) (putL (erP p) (erL l)) id:=by
 obtain⟨r,off,hops⟩:=p
 match hops with
 | []=>exact Jh r l off
 | [(i,sz,o)]=>
  intro σ k y hk;show ∃a σ',(putL ⟨r,off,[(i,sz,o)]⟩ (erL l)).run (erS σ)=some (id a,erS σ')/\_;have hk:X.putEl bI r off i sz o l (X.cOf σ r off) (X.lgR (.c r off) σ) k=some y:=hk
  rcases GN hk with⟨t,xs,hcell,⟨hsz,hol,WY⟩,hk⟩|⟨t,xs,i',o',hcell,⟨hsz,hoo,hol,WY⟩,hk⟩|⟨t,xs,m,u,v,z,hcell,rfl,hz,⟨rfl,rfl⟩,Tl⟩
  rotate_left
  ·obtain⟨e,he,hk⟩:=bO (show(bV xs i).bind _=some y from hk);have he:(xs:List (den t))[i]?=some e:=he;dsimp only at hk;obtain⟨hb,Ry⟩:=Iu hk;have hii:i=i':=Nat.eq_of_beq_eq_true hb;subst hii;subst hoo;exact Ec hcell ⟨hsz,hol,WY⟩ he Ry
  ·obtain⟨e,he,Qb⟩:=bO (show(bV xs i).bind _=some y from Tl);have he:(xs:List (List (den t)))[i]?=some e:=he;dsimp only at Qb;obtain⟨hb,Ry⟩:=Iu Qb;have hii:i=m:=Nat.eq_of_beq_eq_true hb;subst hii;exact Bg hcell hz he Ry
  ··skip
    obtain⟨e,he,hk⟩:=bO (show(bV xs i).bind _=some y from hk);have he:(xs:List (den t))[i]?=some e:=he
    cases hf:X.setDs bI t o l with
    |none=>rw[hf]at hk;cases hk
    |some f=>
     rw[hf]at hk;have hk:X.wrI bI r off (.d (.row true t) (bI.upd t xs i f)) (X.lgR (.c r off) σ) (λ_ σ'=>X.bumps (r,off,2) (X.hdrs ((X.splitX bI t e).drop o) l) σ' k)=some y:=hk;unfold X.wrI at hk;split at hk
     case h_2=>cases hk
     rename_i L hL;have hL:b9 σ.ce r=some L:=hL;split at hk
     case isFalse=>cases hk
     rename_i YZ;rw[nM]at hk;obtain⟨σ',h1,h2,h3,h4,h5⟩:=It _ _ hk
     have hc:(erS σ).c r off=er1 (.row true t) xs:=by rw[uO,hcell];rfl
     have hL':b9 (erS σ).ce r=some (erL L):=by rw[uN,hL];rfl
     obtain⟨q1,q2⟩:=Me hsz l (σ:=erS σ) hf he hol hc hL' (by rw[dT];exact YZ);refine⟨(),σ',?_,⟨λx hx=>?_,λx hx=>?_,λx hx=>h2 x (by simp[X.lgR,hx]),λx hx=>h3 x (by simp[X.lgR,hx])⟩,h5⟩
     ·rw[q1,h1];simp only[id_eq,oSJ,oPJ,true_and];congr 1;show dp (erC σ.ce) r _=erC (dp σ.ce r _);unfold erC;rw[<- mM,rS];rfl
     ·rcases q2.1 x hx with h|(h|h)|⟨h,h'⟩
      ·exact h2 x (by simp[X.lgR,h])
      ·exact h2 x (by simp[X.lgR,h])
      ·exact h2 x (by simp[X.lgR,h])
      ·rw[h];exact(h4 h').1
     ·rcases q2.2 x hx with h|⟨h,h'⟩
      ·exact h3 x (by simp[X.lgR,h])
      ·rw[h];exact(h4 h').2
 |h1::h2::hs=>exact Bh r off (h1::h2::hs) l (by simp)
end
section
variable {α β γ δ Y:Type}
theorem iC(p:XP den)(t:XV den):Sim (Y:=Y) (X.peek1 bI p t) (peek1 (erP p) (er t)) er:=by
 cases t with
 |k x=>exact .ret rfl
 |d t x=>
  have own:X.isOwT t=true->Sim (Y:=Y) (X.peek1 bI p (.d t x)) (peek1 (erP p) (er (.d t x))) er:=by
   intro h;have h1:X.isOwX (.d t x:XV den)=true:=h;have ⟨c,hc⟩:=j6 h1;rw[hc];show Sim (if X.isOwT t then _ else _) (SP.bind _ _) er;rw[oIP h];exact(te _).bind λvs=>.ret rfl
  cases t with
  |row o t=>cases o<;>first|exact .ret rfl|exact own rfl
  |nilr o=>cases o<;>first|exact .ret rfl|exact own rfl
  |int k=>exact .ret rfl
  |bool=>exact .ret rfl
  |str=>exact .ret rfl
  |nat=>exact .fail
  |pair a b=>exact .fail
 |_=>exact .fail
theorem FZ(p:XP den):Sim (Y:=Y) (X.peekP bI p) (peekP (erP p)) er:=by
 have ⟨r,o,hs⟩:=p
 cases hs with
 |nil=>
  refine Sim.rdK λt=>Sim.ite (λh=>?_) λh=>?_
  ·have ⟨c,hc⟩:=j6 h;rw[hc];exact(te _).bind λvs=>.ret rfl
  ·rw[ME (by simp_all) (qw t)];exact(gN ⟨r,o,[]⟩).bind λt=>iC _ t
 |cons h hs=>exact(gN ⟨r,o,h::hs⟩).bind λt=>iC _ t
theorem F0(r:Nat):∀(n o:Nat),Sim (Y:=Y) (X.peekB bI r o n) (peekL ⟨r,o,[]⟩ n) erL:=by
 intro n
 induction n with
 |zero=>intro o;exact .ret rfl
 |succ n ih=>
  intro o
  cases n with
  |zero=>
   refine Sim.rdC λt=>(iC ⟨r,o,[]⟩ t).bind λt'=>?_;exact(Sim.ret (f:=erL) rfl).bind (h:=λl=>.ret (er t'::l)) λl=>.ret rfl
  |succ n=>
   exact Sim.rdC λt=>(iC ⟨r,o,[]⟩ t).bind λt'=>(ih (o+1)).bind λl=>.ret rfl
theorem KA{r o:Nat}{l:List Hop}{i sz f n:Nat}:(⟨r,o,l++[(i,sz,f)]⟩:bS).add n=⟨r,o,l++[(i,sz,f+n)]⟩:=by
 simp[bS.add]
theorem H8{r o:Nat}{l:List Hop}{i sz f n:Nat}:(⟨r,o,l++[(i,sz,f)]⟩:bS).fits n=decide (f+n<sz):=by
 simp[bS.fits]
theorem GF:∀{qs:List Key}{σ:St}{a:List Nat}{τ:St},(rdVs qs).run σ=some (a,τ)->τ=σ:=by
 intro qs
 induction qs with
 |nil=>intro σ a τ h;simp[rdVs,SP.run]at h;exact h.2.symm
 |cons q qs ih=>
  intro σ a τ h;have ⟨l,σ1,h1,h2⟩:=bG h;simp[SP.run]at h2;rw[<- h2.2];exact ih h1
theorem Ev{p:bS}{t:TV}{σ:St}{y:TV×St}(h:(peek1 p t).run σ=some y):y.2=σ:=by
 cases t with
 |v x=>simp[peek1,SP.run]at h;rw[<- h]
 |sl c=>simp[peek1,SP.run]at h;rw[<- h]
 |ow c=>
  have ⟨l,σ1,h1,h2⟩:=bG h;simp[SP.run]at h2;rw[<- h2];exact GF h1
 |_=>simp[peek1,SP.run]at h
theorem Eu{r off:Nat}{l:List (den .nat×Nat×Nat)}{i:Nat}{sz:Nat}{tv:TV}:∀(cs:List (XV den))(o:Nat){σ:XS den}{k:List (XV den)->XS den->Option Y}{y:Y},X.peekCs bI ⟨r,off,l++[(i,sz,o)]⟩ cs σ k=some y ->
 (erS σ).c r off=tv->Loc.c r off∈σ.lg.1->(∀j v,cs[j]?=some v->b7 tv (l++[(i,sz,o+j)])=some (er v))->0<cs.length->o+cs.length<=sz ->
 ∃vs σ',(peekL ⟨r,off,l++[(i,sz,o)]⟩ cs.length).run (erS σ)=some (erL vs,erS σ')/\lK σ σ' ((peekL ⟨r,off,l++[(i,sz,o)]⟩ cs.length).foot (erS σ))/\k vs σ'=some y:=by
 intro cs
 induction cs with
 |nil=>simp_all
 |cons t cs ih=>
  intro o σ k y h hc RF hg h0 hsz;obtain⟨t',σ1,r1,n1,k1⟩:=iC ⟨r,off,l++[(i,sz,o)]⟩ t σ _ y h;have r1:(peek1 ⟨r,off,l++[(i,sz,o)]⟩ (er t)).run (erS σ)=some (er t',erS σ1):=r1;have hs:erS σ1=erS σ:=Ev r1
  have Vm:(getPl ⟨r,off,l++[(i,sz,o)]⟩).run (erS σ)=some (er t,erS σ):=by
   have h3:b7 tv (l++[(i,sz,o)])=some (er t):=hg 0 t rfl;simp only[getPl,SP.run,hc];rw[h3];rfl
  have A':(getPl ⟨r,off,l++[(i,sz,o)]⟩).foot (erS σ)=([.c r off],[]):=by
   simp only[getPl,SP.foot,hc];have:=hg 0 t rfl;simp only[Nat.add_zero]at this;rw[this];rfl
  cases cs with
  |nil=>
   have k1:k [t'] σ1=some y:=k1;have e:peekL ⟨r,off,l++[(i,sz,o)]⟩ 1=(getPl ⟨r,off,l++[(i,sz,o)]⟩).bind λt=>(peek1 ⟨r,off,l++[(i,sz,o)]⟩ t).bind λt'=>.ret [t']:=rfl;refine⟨[t'],σ1,?_,?_,k1⟩
   ·show(peekL _ 1).run _=_;rw[e,SP.run_bind,Vm];simp only[oBS,SP.run_bind,r1];rfl
   ·show lK σ σ1 ((peekL _ 1).foot _);rw[e,cn _ _ Vm,cn _ _ r1,A'];refine⟨λx hx=>?_,λx hx=>?_,n1.r0,n1.w0⟩
    ·simp only[SP.foot,List.cons_append,List.nil_append,List.append_nil,List.mem_cons]at hx;rcases hx with h|h
     ·rw[h];exact n1.r0 _ RF
     ·exact n1.r x h
    ·simp only[SP.foot,List.nil_append,List.append_nil]at hx;exact n1.w x hx
  |cons u cs=>
   have QS:X.addP (⟨r,off,l++[(i,sz,o)]⟩:XP den) 1=⟨r,off,l++[(i,sz,o+1)]⟩:=by simp[X.addP]
   rw[QS]at k1;simp only[oLC]at hsz h0
   obtain⟨vs,σ2,r2,n2,k2⟩:=ih (o+1) k1 (by rw[hs];exact hc) (n1.r0 _ RF) (λj v hv=>by
    have:=hg (j+1) v (by simpa using hv)
    rw[show o+1+j=o+(j+1) by omega];exact this) (by simp) (by simp only[oLC];omega)
   have e:peekL ⟨r,off,l++[(i,sz,o)]⟩ (u::cs).length.succ=(getPl ⟨r,off,l++[(i,sz,o)]⟩).bind λt=>(peek1 ⟨r,off,l++[(i,sz,o)]⟩ t).bind λt'=>(peekL ⟨r,off,l++[(i,sz,o+1)]⟩ (u::cs).length).bind λr=>.ret (t'::r):=by
    show(getPl _).bind (λt=>(peek1 _ t).bind λt'=>if bS.fits ⟨r,off,l++[(i,sz,o)]⟩ 1 then(peekL (bS.add ⟨r,off,l++[(i,sz,o)]⟩ 1) (cs.length+1)).bind λr=>.ret (t'::r)else .fail)=_
    have h3:decide (o+1<sz)=true:=by simpa using(by omega:o+1<sz)
    rw[H8,KA,h3];rfl
   refine⟨t'::vs,σ2,?_,?_,k2⟩
   ·show(peekL _ (u::cs).length.succ).run _=_;rw[e,SP.run_bind,Vm];simp only[oBS,SP.run_bind,r1,r2];rfl
   ·show lK σ σ2 ((peekL _ (u::cs).length.succ).foot _);rw[e,cn _ _ Vm,cn _ _ r1,cn _ _ r2,A'];refine⟨λx hx=>?_,λx hx=>?_,λx hx=>n2.r0 x (n1.r0 x hx),λx hx=>n2.w0 x (n1.w0 x hx)⟩
    ·simp only[SP.foot,List.cons_append,List.nil_append,List.append_nil,List.mem_cons,List.mem_append]at hx;rcases hx with h|h|h
     ·rw[h];exact n2.r0 _ (n1.r0 _ RF)
     ·exact n2.r0 _ (n1.r x h)
     ·exact n2.r x h
    ·simp only[SP.foot,List.nil_append,List.append_nil,List.mem_append]at hx;rcases hx with h|h
     ·exact n2.w0 _ (n1.w x h)
     ·exact n2.w x h
theorem zh(p:XP den)(n:Nat):Sim (Y:=Y) (X.peekL bI p n) (peekL (erP p) n) erL:=by
 obtain⟨r,off,hops⟩:=p
 cases hops with
 |nil=>exact F0 r n off
 |cons h1 hs=>
  intro σ k y hk;have hk:X.elemM bI (X.cOf σ r off) (h1::hs) (λt e=>if X.lastO (h1::hs)+n<=ii t/\0<n then X.peekCs bI ⟨r,off,h1::hs⟩ (((X.splitX bI t e).drop (X.lastO (h1::hs))).take n)else X.fail bI) (X.lgR (.c r off) σ) k=some y:=hk;obtain⟨l,i,sz,o,t,e,e1,e2,e3,e4⟩:=DH hk
  have e5:X.lastO (h1::hs)=o:=by rw[e1,sb]
  rw[e5]at e4;dsimp only at e4;split at e4
  ·rename_i hc
   have hlen:(X.splitX bI t e).length=sz:=by rw[<- dT,pS,dN,e2]
   have Zi:(((X.splitX bI t e).drop o).take n).length=n:=by rw[oLT,List.length_drop,hlen];omega
   rw[e1]at e4
   have ⟨vs,σ',r1,n1,k1⟩:=Eu (tv:=er (X.cOf σ r off)) _ o e4 (uO σ r off) (by simp[X.lgR]) (λj v hv=>e3 (o+j) v (by
    rw[ue];rw[List.getElem?_take]at hv;split at hv
    ·simp_all
    ·simp at hv)) (by omega) (by omega)
   rw[Zi]at r1 n1
   have ep:erP ⟨r,off,h1::hs⟩=⟨r,off,l++[(i,sz,o)]⟩:=by unfold erP;rw[e1]
   rw[ep];exact⟨vs,σ',r1,⟨n1.r,n1.w,λx hx=>n1.r0 x (by simp[X.lgR,hx]),λx hx=>n1.w0 x hx⟩,k1⟩
  ·cases e4
theorem F2(r:Nat):∀(l:List (XV den))(i:Nat),Sim (Y:=Y) (X.nameL r i l) (nameL r i (erL l)) erL:=by
 intro l
 induction l with
 |nil=>intro i;exact .ret rfl
 |cons t l ih=>
  intro i
  cases ho:X.isOwX t with
  |true=>
   obtain⟨c,hc⟩:=j6 ho
   have e:nameL r i (erL (t::l))=.rdV (r,0,0) λg=>.rdV (r,i,1) λh=>(nameL r (i+1) (erL l)).bind λl'=>.ret (.pk ⟨r,i,[]⟩ [g,h]::l'):=by
    simp[erL,hc,nameL]
   rw[e];simp[X.nameL,ho];exact Sim.rdV λg=>Sim.rdV λh=>(ih (i+1)).bind λl'=>.ret rfl
  |false=>
   have e:nameL r i (erL (t::l))=(nameL r (i+1) (erL l)).bind λl'=>.ret (er t::l'):=by
    have h1:kf (er t)=false:=by rw[qw,ho]
    simp[erL]
    cases he:er t with
    |ow c=>rw[he]at h1;simp[kf]at h1
    |_=>rfl
   rw[e];simp[X.nameL,ho,if_false];exact(ih (i+1)).bind λl'=>.ret rfl
theorem Lg(l:List (XV den)):(erL l).any kf=l.any X.isOwX:=by
 induction l with
 |nil=>rfl
 |cons t l ih=>simp[erL,qw,ih]
theorem nE(d:Nat)(l:List (XV den)):Sim (Y:=Y) (X.names bI d l) (names d (erL l)) erL:=by
 unfold X.names names;rw[Lg];by_cases h:l.any X.isOwX=true
 ·rw[oIP h,oIP h];exact Sim.new rfl (F2 _ l 0)
 ·rw[oIN h,oIN h];exact .ret rfl
theorem wl(agg:Bool)(l:List (XV den)):er (X.shapedX agg l)=mV agg (erL l):=by
 cases agg with
 |true=>rfl
 |false=>exact Au l
theorem cj(d:Nat){t:XV den}{t':TV}(e:er t=t'):Sim (Y:=Y) (X.wr bI d t) (wr d t') id:=by subst e;exact ru d t
theorem gX(d:Nat)(agg:Bool){l:List (XV den)}{l':List TV}(e:erL l=l'):Sim (Y:=Y) (X.inst bI d agg l) (inst d agg l') id:=by
 subst e;exact(nE d l).bind λl'=>cj d (wl agg l')
theorem gM(t:XV den):Sim (Y:=Y) (X.natOf bI t) (natOf (er t)) id:=by
 cases t with
 |d t x=>cases t with
  |int k=>
   refine Sim.nat λm hm=>?_;subst hm;exact .ret rfl
  |_=>exact .fail
 |_=>exact .fail
theorem pU(t:XV den):Sim (Y:=Y) (X.lenOf bI t) (jq (er t)) id:=by
 cases t with
 |d t x=>cases t with
  |row o t=>cases o with
   |false=>exact .ret (List.length_map _).symm
   |true=>exact .fail
  |nilr o=>cases o<;>exact .ret rfl
  |_=>exact .fail
 |pk p vs=>
  refine(dL p _ vs).bind λ_=>(CZ p).bind λt=>?_
  cases t with
  |d t x=>cases t with
   |row o t=>cases o with
    |true=>exact .ret (show _=(List.map List.length (List.map (enc t) x)).length by simp;rfl)
    |false=>exact .fail
   |nilr o=>cases o with
    |true=>exact .ret rfl
    |false=>exact .fail
   |_=>exact .fail
  |half t x m=>exact .ret (show _=(List.map List.length (gO t m x)).length by rw[List.length_map,uv];rfl)
  |_=>exact .fail
 |pw p vs sz lo n=>exact(dL p _ vs).bind λ_=>.ret rfl
 |_=>exact .fail
theorem rx(o:Option Opd)(d:Nat):Sim (Y:=Y) (X.optNat bI o d) (optNat o d) id:=by
 cases o with
 |none=>exact .ret rfl
 |some o=>exact(ms o).bind λt=>gM t
theorem pT(mv:Bool):∀l:List (Nat×Nat×Opd),Sim (Y:=Y) (X.takeParts bI mv l) (takeParts mv l) erL:=by
 intro l
 induction l with
 |nil=>exact .ret rfl
 |cons x l ih=>
  have ⟨off,n,x⟩:=x;refine(ms x).bind λt=>?_;rw[qM];refine(lO mv _).bind λl1=>?_;refine Sim.ite (λhn=>?_) λ_=>.fail;rw[oIP (by rw[dT];exact hn)];exact ih.bind λl'=>.ret (oH _ _)
theorem GR:∀(l cells:List (XV den))(off:Nat),erL (X.placeX cells off l)=iZ (erL cells) off (erL l):=by
 intro l
 induction l with
 |nil=>intros;rfl
 |cons t l ih=>intro cells off;simp[X.placeX,erL,iZ];rw[ih,rS]
theorem AS:∀(ps:List (Nat×Nat×Opd))(cells l:List (XV den)),erL (X.assembleX cells ps l)=mL (erL cells) ps (erL l):=by
 intro ps
 induction ps with
 |nil=>intros;rfl
 |cons p ps ih=>
  intro cells l;simp[X.assembleX,mL];rw[ih,GR,oG,qI]
theorem wJ(sz:Nat):∀(n:Nat)(l:List (XV den)),(X.chunksX sz n l).map erL=ju sz n (erL l):=by
 intro n
 induction n with
 |zero=>intros;rfl
 |succ n ih=>intro l;simp only[X.chunksX,List.map_cons,ju];rw[ih,oG,qI]
theorem oL(z:List Value):erL (z.map (X.cellX bI))=z.map cf:=by
 rw[gQ,List.map_map];exact List.map_congr_left λy _=>tF y
theorem lT{z:List Value}(h:(z.map (X.cellX bI)).all X.okCellX=true):(z.map cf).all cq=true:=by
 rw[<- oL,gQ,List.all_map];rw[List.all_eq_true]at h⊢;intro x hx;exact EA (h x hx)
end
section
variable {α β γ δ Y:Type}
theorem xb(v:Value):Bw (pure v)=some v:=rfl
theorem OF{k:IntKind}{a b:Int}{op:BinOp}(h:op=.add\/op=.sub\/op=.mul\/op=.and\/op=.or\/op=.xor\/op=.andNot):dM op (.int k a) (.int k b)=some (.int k (arR op k a b)):=by
 rcases h with rfl|rfl|rfl|rfl|rfl|rfl|rfl<;>simp[dM,Go.binOp,Op.intArith,Op.intBits,arR,xb]
theorem OE{k:IntKind}{a b:Int}{op:BinOp}(h:op=.eql\/op=.neq\/op=.lss\/op=.leq\/op=.gtr\/op=.geq):dM op (.int k a) (.int k b)=some (.bool (cmR op a b)):=by
 rcases h with rfl|rfl|rfl|rfl|rfl|rfl<;>simp[dM,Go.binOp,Op.intCmp,cmR,xb]
theorem OD{k:IntKind}{a b:Int}{op:BinOp}(h:op=.quo\/op=.rem)(hb:b≠0):dM op (.int k a) (.int k b)=some (.int k (arR op k a b)):=by
 rcases h with rfl|rfl<;>simp[dM,Go.binOp,Op.intDiv,arR,xb,hb]
theorem Le{k k':IntKind}{a:Int}{n:Nat}{op:BinOp}(h:op=.shl\/op=.shr):dM op (.int k a) (.int k' n)=some (.int k (shR op k a n)):=by
 rcases h with rfl|rfl<;>simp[dM,Go.binOp,Op.shift,shR,xb,show ¬((n:Int)<0) by omega]
theorem Ld{a b:ByteArray}:dM .eql (.string a) (.string b)=some (.bool (IS a b))/\dM .neq (.string a) (.string b)=some (.bool (!(IS a b))):=⟨rfl,rfl⟩
theorem MW{a b:ByteArray}(h:Lb a b=true):dM .add (.string a) (.string b)=some (.string (OC a b)):=by
 have h:a.size+b.size<=9223372036854775807:=of_decide_eq_true h
 have e:¬(((a.size+b.size:Nat):Int)>IntKind.i64.max):=by
  show ¬(((a.size+b.size:Nat):Int)>9223372036854775807);omega
 show Bw (if((a.size+b.size:Nat):Int)>IntKind.i64.max then _ else _)=_;rw[oIN e];rfl
theorem r6(d:Nat){op:BinOp}{x y r:Value}{t:XV den}(h:dM op x y=some r)(hf:gc r=true)(e:er t=.v r):Sim (Y:=Y) (X.wr bI d t) ((ig (dM op x y)).bind λr=>if gc r then wr d (.v r)else .fail) id:=by
 rw[h];show Sim _ (if gc r then wr d (.v r)else .fail) id;rw[oIP hf];exact cj d e
theorem Nz(d:Nat)(op:BinOp)(a b:XV den):Sim (Y:=Y) (X.binX bI d op a b) ((rq (er a)).bind λa=>(rq (er b)).bind λb=>(ig (dM op a b)).bind λr=>if gc r then wr d (.v r)else .fail) id:=by
 cases a with
 |d t x=>cases t with
  |int k=>cases b with
   |d u y=>cases u with
    |int k'=>
     show Sim _ ((ig (dM op (.int k x) (.int k' y))).bind _) id
     have ar:(op=.add\/op=.sub\/op=.mul\/op=.and\/op=.or\/op=.xor\/op=.andNot)->Sim (Y:=Y) (if h:k'=k then X.wr bI d (.d (.int k) (bI.ar op k x (h▸y)))else X.fail bI) ((ig (dM op (.int k x) (.int k' y))).bind λr=>if gc r then wr d (.v r)else .fail) id:=by
      intro hop;by_cases h:k'=k
      ·subst h;rw[dif_pos rfl];exact r6 d (OF hop) rfl rfl
      ·rw[dif_neg h];exact .fail
     have cm:(op=.eql\/op=.neq\/op=.lss\/op=.leq\/op=.gtr\/op=.geq)->Sim (Y:=Y) (if h:k'=k then X.wr bI d (.d .bool (bI.cm op k x (h▸y)))else X.fail bI) ((ig (dM op (.int k x) (.int k' y))).bind λr=>if gc r then wr d (.v r)else .fail) id:=by
      intro hop;by_cases h:k'=k
      ·subst h;rw[dif_pos rfl];exact r6 d (OE hop) rfl rfl
      ·rw[dif_neg h];exact .fail
     have dv:(op=.quo\/op=.rem)->Sim (Y:=Y) (if h:k'=k then X.brM bI (bI.cm .neq k' y (bI.lit k' 0)) (X.wr bI d (.d (.int k) (bI.ar op k x (h▸y))))else X.fail bI) ((ig (dM op (.int k x) (.int k' y))).bind λr=>if gc r then wr d (.v r)else .fail) id:=by
      intro hop;by_cases h:k'=k
      ·subst h;rw[dif_pos rfl];refine Sim.br λhb=>r6 d (OD hop ?_) rfl rfl;have hb:((y:Int) != 0)=true:=hb;simpa using hb
      ·rw[dif_neg h];exact .fail
     cases op with
     |add=>exact ar (by simp)
     |sub=>exact ar (by simp)
     |mul=>exact ar (by simp)
     |and=>exact ar (by simp)
     |or=>exact ar (by simp)
     |xor=>exact ar (by simp)
     |andNot=>exact ar (by simp)
     |eql=>exact cm (by simp)
     |neq=>exact cm (by simp)
     |lss=>exact cm (by simp)
     |leq=>exact cm (by simp)
     |gtr=>exact cm (by simp)
     |geq=>exact cm (by simp)
     |quo=>exact dv (by simp)
     |rem=>exact dv (by simp)
     |shl=>
      refine Sim.nat λn hn=>?_;have hn:y=(n:Int):=hn;subst hn;exact r6 d (Le (.inl rfl)) rfl rfl
     |shr=>
      refine Sim.nat λn hn=>?_;have hn:y=(n:Int):=hn;subst hn;exact r6 d (Le (.inr rfl)) rfl rfl
    |_=>exact .fail
   |_=>exact .fail
  |str=>cases b with
   |d u y=>cases u with
    |str=>
     show Sim _ ((ig (dM op (.string x) (.string y))).bind _) id
     cases op with
     |eql=>exact r6 d Ld.1 rfl rfl
     |neq=>exact r6 d Ld.2 rfl rfl
     |add=>exact Sim.br λh=>r6 d (MW h) rfl rfl
     |_=>exact .fail
    |_=>exact .fail
   |_=>exact .fail
  |_=>exact .fail
 |_=>exact .fail
theorem Ki:∀{ks:List FK}{xs ys:List (XV den)}{c:Bool},X.eqAll bI ks xs ys=some c->∃vs ws,co (erL xs)=some vs/\co (erL ys)=some ws/\cA ks vs ws=some c:=by
 intro ks
 induction ks with
 |nil=>
  intro xs ys c h
  cases xs with
  |nil=>cases ys with
   |nil=>simp only[X.eqAll,oSJ]at h;subst h;exact⟨[],[],rfl,rfl,rfl⟩
   |cons=>simp[X.eqAll]at h
  |cons=>simp[X.eqAll]at h
 |cons f ks ih=>
  intro xs ys c h
  cases xs with
  |nil=>cases f<;>simp[X.eqAll]at h
  |cons x xs=>cases ys with
   |nil=>cases f<;>simp[X.eqAll]at h
   |cons y ys=>
    cases x with
    |d t a=>cases y with
     |d u b=>
      cases f with
      |i=>cases t with
       |int k=>cases u with
        |int k'=>
         simp only[X.eqAll]at h;split at h
         ·rename_i hk;subst hk;obtain⟨c',h1,rfl⟩:=ge h;obtain⟨vs,ws,e1,e2,e3⟩:=ih h1;refine⟨.int k' a::vs,.int k' b::ws,by simp only[erL,er,er1,co,e1,oMS],by simp only[erL,er,er1,co,e2,oMS],?_⟩;simp only[cA,if_true,e3,oMS];rfl
         ·simp at h
        |_=>simp[X.eqAll]at h
       |_=>simp[X.eqAll]at h
      |b=>cases t with
       |bool=>cases u with
        |bool=>
         simp only[X.eqAll]at h;obtain⟨c',h1,rfl⟩:=ge h;obtain⟨vs,ws,e1,e2,e3⟩:=ih h1;refine⟨.bool a::vs,.bool b::ws,by simp only[erL,er,er1,co,e1,oMS],by simp only[erL,er,er1,co,e2,oMS],?_⟩;simp only[cA,e3,oMS];rfl
        |_=>simp[X.eqAll]at h
       |_=>simp[X.eqAll]at h
      |s=>cases t with
       |str=>cases u with
        |str=>
         simp only[X.eqAll]at h;obtain⟨c',h1,rfl⟩:=ge h;obtain⟨vs,ws,e1,e2,e3⟩:=ih h1;refine⟨.string a::vs,.string b::ws,by simp only[erL,er,er1,co,e1,oMS],by simp only[erL,er,er1,co,e2,oMS],?_⟩;simp only[cA,e3,oMS];rfl
        |_=>simp[X.eqAll]at h
       |_=>simp[X.eqAll]at h
     |_=>cases f<;>simp[X.eqAll]at h
    |_=>cases f<;>simp[X.eqAll]at h
theorem CY{f:Opd->XM den Option Y (XV den)}{g:Opd->SP β}{e:XV den->β}(h:∀x,Sim (f x) (g x) e):∀l:List Opd,Sim (X.mapM' f l) (Nl g l) (List.map e):=by
 intro l
 induction l with
 |nil=>exact .ret rfl
 |cons x l ih=>exact(h x).bind λy=>ih.bind λl'=>.ret rfl
def OV(x:XV den):Value:=match x with|.d (.int k) n=>.int k n|_=>undef
theorem F6(t:XV den):Sim (Y:=Y) (X.intOf bI t) (rq (er t)) OV:=by
 cases t with
 |d t x=>cases t with
  |int k=>exact .ret rfl
  |_=>exact .fail
 |_=>exact .fail
theorem JQ{mx:Bool}{k:IntKind}:∀{r:List (XV den)}{a m:Int},X.mmAll bI mx k a r=some m->sn mx k a (r.map OV)=some m:=by
 intro r
 induction r with
 |nil=>intro a m h;exact h
 |cons x r ih=>
  intro a m h
  cases x with
  |d t b=>cases t with
   |int k'=>
    simp only[X.mmAll]at h;split at h
    ·rename_i hk;subst hk;have:=ih h;simp[OV,sn];exact this
    ·simp at h
   |_=>simp[X.mmAll]at h
  |_=>simp[X.mmAll]at h
theorem Ge(t:XV den):Sim (Y:=Y) (X.capOf bI t) (match er t with|.ptr p vs=>.ret (.ptr p vs)|.ip cs=>.ret (.ip cs)|.v x=>.ret (.v x)|.sl c=>.ret (.sl c)|_=>.fail) er:=by
 have V5:Sim (Y:=Y) (if X.okCellX t && !X.isOwX t then X.ret t else X.fail bI) (match er t with|.ptr p vs=>.ret (.ptr p vs)|.ip cs=>.ret (.ip cs)|.v x=>.ret (.v x)|.sl c=>.ret (.sl c)|_=>.fail) er:=by
  refine Sim.ite (λh=>?_) λ_=>.fail;simp at h
  rcases lR h.1 h.2 with⟨y,hy⟩|⟨c,hc⟩
  ·rw[hy];exact .ret hy
  ·rw[hc];exact .ret hc
 cases t with
 |ptr p vs=>exact .ret rfl
 |ip cs=>exact .ret rfl
 |_=>exact V5
theorem JV:∀{t:CT}{l r:List (XV den)}{x:den t},X.joinX bI t l=some (x,r)->erL l=enc t x++erL r:=by
 have one:∀{u:CT}(hu:X.oneT u=true){l r:List (XV den)}{x:den u},X.joinC bI u l=some (x,r)->erL l=enc u x++erL r:=by
  intro u hu l r x h;unfold X.joinC at h;split at h
  ·rename_i t y r';have ⟨z,h1,h2⟩:=ge h
   injection h2 with h2 h3
   subst h2;subst h3;rw[pG hu,AT h1];rfl
  ·simp at h
 intro t
 induction t with
 |pair a b Zc Y7=>
  intro l r x h;simp[X.joinX]at h;split at h
  ·rename_i x1 r1 h1;split at h
   ·rename_i y1 r2 h2
    injection h with h
    injection h with h h3
    subst h;subst h3;rw[Zc h1,Y7 h2,<- List.append_assoc];rfl
   ·simp at h
  ·simp at h
 |nat=>intro l r x h;simp[X.joinX]at h
 |int k=>intro l r x h;exact one rfl h
 |bool=>intro l r x h;exact one rfl h
 |str=>intro l r x h;exact one rfl h
 |row o t=>intro l r x h;exact one rfl h
 |nilr o=>intro l r x h;exact one rfl h
theorem wx{t:CT}{l:List (XV den)}{x:den t}(h:X.joinOne bI t l=some x):erL l=enc t x:=by
 unfold X.joinOne at h;split at h
 ·rename_i y h1
  injection h with h
  subst h;rw[JV h1];simp[erL]
 ·simp at h
theorem EI{t:CT}:∀{ls:List (List (XV den))}{xs:List (den t)},X.joinAll bI t ls=some xs->ls.map erL=xs.map (enc t):=by
 intro ls
 induction ls with
 |nil=>intro xs h;simp[X.joinAll]at h;subst h;rfl
 |cons l ls ih=>
  intro xs h;simp[X.joinAll]at h;split at h
  ·rename_i x xs' h1 h2
   injection h with h
   subst h;simp only[List.map_cons];rw[wx h1,ih h2]
  ·simp at h
theorem C9{Zs:Option CT}{ls:List (List (XV den))}{v:XV den}(h:X.rowOf bI Zs ls=some v):er v=.ow (ls.map erL):=by
 unfold X.rowOf at h;split at h
 ·injection h with h;subst h;rfl
 ·split at h
  ·obtain⟨es,h1,rfl⟩:=ge h;rw[EI h1];rfl
  ·simp at h
theorem xa{Zs:Option CT}{n:Nat}{l:List (XV den)}{v:XV den}(h:X.repOf bI Zs n l=some v):er v=.ow (List.replicate n (erL l)):=by
 unfold X.repOf at h;split at h
 ·obtain⟨e,h1,rfl⟩:=ge h;rw[wx h1];show TV.ow (List.map _ (List.replicate n e))=_
  simp_all
 ·simp at h
theorem mN(t:CT)(xs:List (den t)):(List.map (enc t) xs).all (λe=>e.length==ii t)=true:=by
 simp[dN]
theorem Kx{sz bytes:Nat}{c c2:List (List TV)}(h1:c.all (λe=>e.length==sz)=true)(h2:c2.all (λe=>e.length==sz)=true)(h:b6 bytes c.length c2.length=true):
 ((c++c2).all (λe=>e.length==sz)&&decide (c.length+c2.length<=1099511627776)&&decide ((c.length+c2.length)*bytes<=140737488355328))=true:=by
 rw[List.all_append,h1,h2];simpa[b6]using h
theorem Fu(d sz bytes:Nat)(Zs:Option CT)(s x:XV den):Sim (Y:=Y) (X.appX bI d sz bytes Zs s x) (match er s,er x with
 |.ow c,.ow c2=>if(c++c2).all (λe=>e.length==sz)&&decide (c.length+c2.length<=1099511627776)&&decide ((c.length+c2.length)*bytes<=140737488355328)then inst d false [.ow (c++c2)]else .fail
 |.ow c,.sl c2=>if(c++c2).all (λe=>e.length==sz)&&decide (c.length+c2.length<=1099511627776)&&decide ((c.length+c2.length)*bytes<=140737488355328)then inst d false [.ow (c++c2)]else .fail
 |_,_=>.fail) id:=by
 have Z0:∀{t:CT}{c c3:List (den t)}{c' Vv:List (List TV)}{a:XV den},ii t=sz\/(c'=[]/\Vv=[])->c'=c.map (enc t)->Vv=c3.map (enc t)->er a=.ow (c'++Vv)->b6 bytes c'.length Vv.length=true ->
  Sim (Y:=Y) (X.inst bI d false [a]) (if(c'++Vv).all (λe=>e.length==sz)&&decide (c'.length+Vv.length<=1099511627776)&&decide ((c'.length+Vv.length)*bytes<=140737488355328)then inst d false [.ow (c'++Vv)]else .fail) id:=by
  intro t c c3 c' Vv a hsz e1 e2 ea hok;rw[oIP]
  ·exact gX d false (by simp only[erL,ea])
  ·refine Kx ?_ ?_ hok
   ·rcases hsz with hsz|⟨h1,h2⟩
    ·rw[e1,<- hsz];exact mN t c
    ·rw[h1];rfl
   ·rcases hsz with hsz|⟨h1,h2⟩
    ·rw[e2,<- hsz];exact mN t c3
    ·rw[h2];rfl
 cases s with
 |d ts c=>cases ts with
  |row ow t=>cases ow with
   |false=>exact .fail
   |true=>cases x with
    |d tx c2=>cases tx with
     |row o t2=>
      refine Sim.ite (λhsz=>Sim.opt λc3 h3=>Sim.br λhok=>?_) λ_=>.fail;have h4:=CE h3;have hok:b6 bytes (List.length c) (List.length c2)=true:=hok
      have h5:List.map (enc t2) (c2:List (den t2))=List.map (enc t) (c3:List (den t)):=by
       cases o with
       |true=>
        have h6:=h4
        injection h6 with h6
        injection h6 with h6
        exact h6.symm
       |false=>
        have h6:=h4
        injection h6 with h6
        injection h6 with h6
        exact h6.symm
      cases o<;>exact Z0 (t:=t) (c:=c) (c3:=c3) (.inl hsz) rfl h5 (by show TV.ow (List.map (enc t) (List.append c c3))=_;rw[h5,<- List.map_append];rfl) (by simpa using hok)
     |nilr o=>
      refine Sim.ite (λhsz=>Sim.br λhok=>?_) λ_=>.fail;have hok:b6 bytes (List.length c) 0=true:=hok;cases o<;>exact Z0 (t:=t) (c:=c) (c3:=[]) (.inl hsz) rfl rfl (by simp[er,er1]) (by simpa using hok)
     |_=>exact .fail
    |_=>exact .fail
  |nilr ow=>cases ow with
   |false=>exact .fail
   |true=>cases x with
    |d tx c2=>cases tx with
     |row o t2=>
      refine Sim.ite (λhsz=>Sim.opt λc3 h3=>Sim.br λhok=>?_) λ_=>.fail;have h4:=CE h3;have hok:b6 bytes 0 (List.length c2)=true:=hok
      have h5:List.map (enc t2) (c2:List (den t2))=List.map (enc (X.resT Zs t2)) (c3:List (den (X.resT Zs t2))):=by
       cases o with
       |true=>
        have h6:=h4
        injection h6 with h6
        injection h6 with h6
        exact h6.symm
       |false=>
        have h6:=h4
        injection h6 with h6
        injection h6 with h6
        exact h6.symm
      cases o<;>exact Z0 (t:=t2) (c:=[]) (c3:=c2) (.inl hsz) rfl rfl (by show TV.ow (List.map (enc (X.resT Zs t2)) (List.append [] c3))=_;rw[h5];rfl) (by simpa using hok)
     |nilr o=>
      refine Sim.br λhok=>?_;have hok:b6 bytes 0 0=true:=hok;cases o<;>exact Z0 (t:=.bool) (c:=[]) (c3:=[]) (.inr ⟨rfl,rfl⟩) rfl rfl rfl hok
     |_=>exact .fail
    |_=>exact .fail
  |_=>exact .fail
 |_=>exact .fail
end
section
variable {α β γ δ Y:Type}
theorem tk{x:Opd}{σ:XS den}{k:XV den->XS den->Option Y}{y:Y}(h:X.opd bI x σ k=some y):∃t σ',(opd x).run (erS σ)=some (er t,erS σ)/\erS σ'=erS σ/\lK σ σ' ((opd x).foot (erS σ))/\k t σ'=some y:=by
 have ⟨t,σ',h1,h2,h3⟩:=ms x σ k y h
 have e:erS σ'=erS σ:=by
  cases x with
  |t i=>simp[opd,SP.run]at h1;exact h1.2.symm
  |c v=>simp[opd,SP.run]at h1;exact h1.2.symm
  |f f=>simp[opd,SP.run]at h1;exact h1.2.symm
 rw[e]at h1;exact⟨t,σ',h1,e,h2,h3⟩
theorem tA{t:CT}(h:X.flat1 t=true):∀x:den t,∃v,er (.d t x)=.v v:=by
 cases t<;>simp[X.flat1]at h
 all_goals exact λx=>⟨_,rfl⟩
theorem JE{d:Nat}{tc ta tb:XV den}{σ:XS den}{k:Unit->XS den->Option Y}{y:Y}(h:X.pickX bI d tc ta tb σ k=some y):∃c v t,er tc=.v (.bool c)/\er (if c then ta else tb)=.v v/\er t=.v v/\X.wr bI d t σ k=some y:=by
 unfold X.pickX at h;split at h
 ·rename_i c k1 x k2 z;split at h
  ·rename_i hk;subst hk;refine⟨c,.int k2 (bif c then x else z),_,rfl,?_,rfl,h⟩;cases c<;>rfl
  ·cases h
 ·rename_i c x z;refine⟨c,.bool (bif c then x else z),_,rfl,?_,rfl,h⟩;cases c<;>rfl
 ·rename_i c x z;refine⟨c,.string (bif c then x else z),_,rfl,?_,rfl,h⟩;cases c<;>rfl
 ·split at h
  ·rename_i hf
   rename den .bool=>c
   cases c with
   |true=>exact⟨true,_,_,rfl,(tA hf _).choose_spec,(tA hf _).choose_spec,h⟩
   |false=>cases h
  ·cases h
 ·split at h
  ·rename_i hf
   rename den .bool=>c
   cases c with
   |false=>exact⟨false,_,_,rfl,(tA hf _).choose_spec,(tA hf _).choose_spec,h⟩
   |true=>cases h
  ·cases h
 ·cases h
theorem Ll(HT:List (Nat×CT))(d:Nat)(c a b:Opd):Sim (Y:=Y) (X.ev1 bI HT d (.pick c a b)) (ev1 d (.pick c a b)) id:=by
 intro σ k y hk;obtain⟨tc,σ1,r1,e1,n1,hk⟩:=tk (show X.opd bI c σ (λtc σ1=>X.opd bI a σ1 λta σ2=>X.opd bI b σ2 λtb σ3=>X.pickX bI d tc ta tb σ3 k)=some y from hk);obtain⟨ta,σ2,r2,e2,n2,hk⟩:=tk hk;obtain⟨tb,σ3,r3,e3,n3,hk⟩:=tk hk;obtain⟨cv,v,t,h1,h2,h3,hk⟩:=JE hk;obtain⟨u,σ',r4,n4,hk⟩:=cj d h3 σ3 k y hk
 have qN:erS σ3=erS σ:=by rw[e3,e2,e1]
 have hx:(opd (if cv then a else b)).run (erS σ)=some (.v v,erS σ)/\lK σ1 σ3 ((opd (if cv then a else b)).foot (erS σ)):=by
  rw[e1]at r2 n2;rw[e2,e1]at r3 n3
  cases cv with
  |true=>exact⟨by simp_all,⟨λx hx=>n3.r0 x (n2.r x hx),λx hx=>n3.w0 x (n2.w x hx),λx hx=>n3.r0 x (n2.r0 x hx),λx hx=>n3.w0 x (n2.w0 x hx)⟩⟩
  |false=>exact⟨by simp_all,⟨λx hx=>n3.r x hx,λx hx=>n3.w x hx,λx hx=>n3.r0 x (n2.r0 x hx),λx hx=>n3.w0 x (n2.w0 x hx)⟩⟩
 obtain⟨Z2,WP⟩:=hx
 have rc:(opd c).run (erS σ)=some (.v (.bool cv),erS σ):=by rw[r1,h1]
 refine⟨(),σ',?_,?_,hk⟩
 ·simp only[ev1];rw[SP.run_bind,rc];simp;rw[SP.run_bind,Z2]
  simp_all
 ·simp only[ev1];rw[cn _ _ rc];simp only;rw[cn _ _ Z2];rw[qN]at n4;refine⟨λx hx=>?_,λx hx=>?_,λx hx=>n4.r0 x (WP.r0 x (n1.r0 x hx)),λx hx=>n4.w0 x (WP.w0 x (n1.w0 x hx))⟩
  ·rcases List.mem_append.1 hx with hx|hx
   ·exact n4.r0 x (WP.r0 x (n1.r x hx))
   ·rcases List.mem_append.1 hx with hx|hx
    ·exact n4.r0 x (WP.r x hx)
    ·exact n4.r x hx
  ·rcases List.mem_append.1 hx with hx|hx
   ·exact n4.w0 x (WP.w0 x (n1.w x hx))
   ·rcases List.mem_append.1 hx with hx|hx
    ·exact n4.w0 x (WP.w x hx)
    ·exact n4.w x hx
theorem Hk{n:Option Nat}{cs:List (XV den)}{t:XV den}(h:X.loadIp n cs=some t):loadIp n (erL cs)=some (er t):=by
 cases n with
 |none=>
  cases cs with
  |nil=>simp[X.loadIp]at h
  |cons x cs=>
   have Z0:(if X.okCellX x && !X.isOwX x then some x else none)=some t->loadIp none (erL (x::cs))=some (er t):=λh=>by
    split at h
    ·rename_i hc
     injection h with h
     subst h;simp at hc
     rcases lR hc.1 hc.2 with⟨y,hy⟩|⟨c,hc⟩
     ·simp only[loadIp,erL,hy]
     ·simp only[loadIp,erL,hc]
    ·simp at h
   cases x with
   |ip l=>simp only[X.loadIp,oSJ]at h;subst h;rfl
   |fn f l=>simp only[X.loadIp,oSJ]at h;subst h;rfl
   |_=>exact Z0 h
 |some n=>
  simp only[X.loadIp]at h;split at h
  ·rename_i hc
   injection h with h
   subst h;simp only[oBA,oDE]at hc;simp only[loadIp];rw[oIP]
   ·simp only[er,oG]
   ·simp only[oBA,oDE];refine⟨by rw[dT];exact hc.1,?_⟩;rw[<- oG,gQ,List.all_map,List.all_eq_true];intro x hx;have:=List.all_eq_true.1 hc.2 x hx;simp at this;simp
    rcases lR this.1 this.2 with⟨y,hy⟩|⟨c,hc⟩
    ·rw[hy]
    ·rw[hc]
  ·simp at h
theorem uE:∀{t:CT}(x:den t),X.flatT t=true->∃vs,co (enc t x)=some vs/\vs.length=ii t/\(vs.all gc=true)/\enc t x=vs.map TV.v/\0<ii t:=by
 intro t
 induction t with
 |int k=>intro x _;exact⟨[.int k x],rfl,rfl,rfl,rfl,Nat.one_pos⟩
 |bool=>intro x _;exact⟨[.bool x],rfl,rfl,rfl,rfl,by decide⟩
 |str=>intro x _;exact⟨[.string x],rfl,rfl,rfl,rfl,by decide⟩
 |pair a b Zc Y7=>
  intro x h;simp only[X.flatT,oBA]at h;obtain⟨vs,e1,e2,e3,e4,e5⟩:=Zc x.1 h.1;obtain⟨ws,f1,f2,f3,f4,f5⟩:=Y7 x.2 h.2;refine⟨vs++ws,?_,by simp[e2,f2,ii],by simp_all,by show enc a x.1++enc b x.2=_;rw[e4,f4];simp,by simp[ii];omega⟩;show co (enc a x.1++enc b x.2)=_;rw[e4,f4]
  have:∀l:List Value,co (l.map TV.v)=some l:=by
   intro l
   induction l with
   |nil=>rfl
   |cons y l ih=>simp[co,ih]
  rw[<- List.map_append,this]
 |_=>intro x h;simp[X.flatT]at h
theorem GX(sz:Nat)(h0:0<sz):∀(vs:List Value)(c:List (List TV))(lo j:Nat)(rest:List Value),j+vs.length=sz->(∀el,c[lo]?=some el->el.length=sz)->lS sz c (lo*sz+j) (vs++rest)=lS sz (c.modify lo λel=>el.take j++vs.map TV.v) ((lo+1)*sz) rest:=by
 intro vs
 induction vs with
 |nil=>
  intro c lo j rest hj Zd
  have hj:j=sz:=by simpa using hj
  subst hj;simp
  have e:(c.modify lo λel=>el.take j)=c:=by
   apply List.ext_getElem?;intro i;rw[List.getElem?_modify];by_cases h:lo=i
   ·subst h
    cases hc:c[lo]? with
    |none=>rfl
    |some el=>simp only[if_true];show some (el.take j)=some el;rw[List.take_of_length_le (by rw[Zd el hc];exact Nat.le_refl _)]
   ·simp only[oIN h];cases c[i]?<;>rfl
  rw[e,Nat.succ_mul]
 |cons v vs ih=>
  intro c lo j rest hj Zd;simp only[oLC]at hj
  have hjs:j<sz:=by omega
  show lS sz (c.modify ((lo*sz+j)/sz) λel=>el.modify ((lo*sz+j)%sz) λ_=>.v v) (lo*sz+j+1) (vs++rest)=_
  have e1:(lo*sz+j)/sz=lo:=by rw[Nat.mul_comm,Nat.mul_add_div h0,Nat.div_eq_of_lt hjs];rfl
  have e2:(lo*sz+j)%sz=j:=by rw[Nat.mul_comm,Nat.mul_add_mod,Nat.mod_eq_of_lt hjs]
  rw[e1,e2,show lo*sz+j+1=lo*sz+(j+1) by omega]
  have UE:∀el,(c.modify lo λel=>el.modify j λ_=>.v v)[lo]?=some el->el.length=sz:=by simp_all
  rw[ih _ lo (j+1) rest (by omega) UE];congr 1;apply List.ext_getElem?;intro i;simp only[List.getElem?_modify];by_cases h:lo=i
  ·subst h;simp only[if_true]
   cases hc:c[lo]? with
   |none=>rfl
   |some el=>
    simp only[Option.map_eq_map,oMS,oSJ];have hl:=Zd el hc;apply List.ext_getElem?;intro m;simp only[List.map_cons];by_cases hm:m<j
    ·rw[List.getElem?_append_left (by rw[oLT,oLM];omega),List.getElem?_append_left (by rw[oLT];omega),List.getElem?_take,List.getElem?_take,oIP (by omega),oIP (by omega),List.getElem?_modify]
     have:¬j=m:=by omega
     simp only[this,if_false];simp
    ·by_cases hm2:m=j
     ·subst hm2;rw[List.getElem?_append_left (by rw[oLT,oLM];omega),List.getElem?_append_right (by rw[oLT];omega),List.getElem?_take,oIP (by omega),List.getElem?_modify,oLT]
      have:m-min m el.length=0:=by omega
      rw[this]
      have h3:m<el.length:=by omega
      rw[oGE h3];simp
     ·rw[List.getElem?_append_right (by rw[oLT,oLM];omega),List.getElem?_append_right (by rw[oLT];omega),oLT,oLT,oLM]
      have:m-min j el.length=(m-min (j+1) el.length)+1:=by omega
      rw[this,List.getElem?_cons_succ]
  ·simp only[oIN h];cases c[i]?<;>rfl
theorem Ew{t:CT}(hf:X.flatT t=true):∀(ys xs:List (den t))(lo:Nat)(vals:List Value),co ((ys.map (enc t)).flatten)=some vals->lo+ys.length<=xs.length->lS (ii t) (xs.map (enc t)) (lo*ii t) vals=(xs.take lo++ys++xs.drop (lo+ys.length)).map (enc t):=by
 intro ys
 induction ys with
 |nil=>
  intro xs lo vals h hl;simp only[List.map_nil,List.flatten_nil,co,oSJ]at h;subst h;simp[lS]
 |cons y ys ih=>
  intro xs lo vals h hl;simp only[oLC]at hl;obtain⟨vs,e1,e2,e3,e4,e5⟩:=uE y hf
  obtain⟨ws,h2,rfl⟩:∃ws,co ((ys.map (enc t)).flatten)=some ws/\vals=vs++ws:=by
   simp only[List.map_cons,List.flatten_cons,e4]at h
   have:∀(l:List Value)(r:List TV),co (l.map TV.v++r)=(co r).map (l++·):=by
    intro l r
    induction l with
    |nil=>simp
    |cons z l ih=>simp only[List.map_cons,List.cons_append,co,ih];cases co r<;>rfl
   rw[this]at h;obtain⟨ws,h3,h4⟩:=ge h
   simp_all
  have:=GX (ii t) e5 vs (xs.map (enc t)) lo 0 ws (by omega) (λel Zd=>by
   rw[List.getElem?_map]at Zd
   cases hx:xs[lo]? with
   |none=>rw[hx]at Zd;simp at Zd
   |some z=>rw[hx]at Zd;simp only[oMS,oSJ]at Zd;rw[<- Zd,dN])
  rw[Nat.add_zero]at this;rw[this]
  have e6:((xs.map (enc t)).modify lo λel=>el.take 0++vs.map TV.v)=(xs.set lo y).map (enc t):=by
   apply List.ext_getElem?;intro i;by_cases hi:lo=i
   ·subst hi
    have hlt:lo<xs.length:=by omega
    simp[hlt,e4]
   ·simp[hi]
  rw[e6,ih (xs.set lo y) (lo+1) ws h2 (by rw[List.length_set];omega)];congr 1;rw[List.take_set,List.drop_set,oIP (by omega)]
  have:(xs.take (lo+1)).set lo y=xs.take lo++[y]:=by
   rw[List.take_succ_eq_append_getElem (by omega:lo<xs.length),List.set_append_right _ _ (by rw[oLT];omega)];congr 1
   have:lo-(xs.take lo).length=0:=by rw[oLT];omega
   rw[this];rfl
  rw[this];simp;rw[show lo+1+ys.length=lo+(ys.length+1) by omega]
end
section
variable {α β γ δ Y:Type}
theorem tJ{c:Bool}{m m':XM den Option Y α}{s:SP β}{f:α->β}(h:c=true->Sim m s f)(h':c=false->Sim m' s f):Sim (X.forkM bI c m m') s f:=by
 intro σ k y hk
 cases c with
 |true=>exact h rfl σ k y hk
 |false=>exact h' rfl σ k y hk
def E2(v:XV den):List (List TV):=match er v with|.sl c=>c|.ow c=>c|_=>[]
theorem wg(t:XV den):Sim (Y:=Y) (X.contentOf bI t) (contentOf (er t)) E2:=by
 cases t with
 |d t x=>cases t with
  |row o t=>cases o with
   |false=>exact .ret rfl
   |true=>exact .fail
  |nilr o=>cases o<;>exact .ret rfl
  |_=>exact .fail
 |pk p vs=>
  refine(dL p _ vs).bind λ_=>(gN p).bind λt=>?_
  cases t with
  |d t x=>cases t with
   |row o t=>cases o with
    |true=>exact .ret rfl
    |false=>exact .fail
   |nilr o=>cases o with
    |true=>exact .ret rfl
    |false=>exact .fail
   |_=>exact .fail
  |_=>exact .fail
 |pw p vs sz lo n=>
  refine(dL p _ vs).bind λ_=>(gN p).bind λt=>?_
  cases t with
  |d t x=>cases t with
   |row o t=>cases o with
    |true=>
     refine .ret ?_;show List.map (enc t) ((List.drop lo x).take n)=((List.map (enc t) x).drop lo).take n
     simp_all
    |false=>exact .fail
   |_=>exact .fail
  |_=>exact .fail
 |_=>exact .fail
theorem Gz{t:CT}(hf:X.flatT t=true):∀zs:List (den t),∃vals,co ((zs.map (enc t)).flatten)=some vals/\vals.all gc=true/\(zs≠[]->∃v vs,vals=v::vs)/\(zs=[]->vals=[]):=by
 intro zs
 induction zs with
 |nil=>exact⟨[],rfl,rfl,λh=>absurd rfl h,λ_=>rfl⟩
 |cons z zs ih=>
  obtain⟨ws,h1,h2,_⟩:=ih;obtain⟨vs,e1,e2,e3,e4,e5⟩:=uE z hf
  have:∀(l:List Value)(r:List TV),co (l.map TV.v++r)=(co r).map (l++·):=by
   intro l r
   induction l with
   |nil=>simp
   |cons z l ih=>simp[List.map_cons,co,ih];cases co r<;>rfl
  refine⟨vs++ws,?_,by simp_all,λ_=>?_,λh=>by simp at h⟩
  ·simp_all
  ·cases vs with
   |nil=>simp_all
   |cons v vs=>simp_all
theorem Ht{t:CT}(hf:X.flatT t=true)(x:den t):(enc t x).all isV=true:=by
 have ⟨vs,_,_,_,e4,_⟩:=uE x hf;rw[e4,List.all_map,List.all_eq_true];intro y _;rfl
theorem Ig{t:CT}(hf:X.flatT t=true)(xs ys:List (den t))(lo n:Nat)(YN:lo+min ys.length n<=xs.length):
 Kl (ii t) (xs.map (enc t)) (ys.map (enc t)) lo n=if 0<min ys.length n then some (min ys.length n,some ((pi xs lo (min ys.length n) ys).map (enc t)))else some (min ys.length n,none):=by
 obtain⟨vals,h1,h2,h3,h4⟩:=Gz hf (ys.take (min ys.length n))
 have e5:0<ii t:=by
  clear h1 h2 h3 h4 YN
  induction t with
  |pair a b Zc Y7=>
   simp only[X.flatT,oBA]at hf;simp only[ii];have:=Zc hf.1 [] [];omega
  |int k=>exact Nat.one_pos
  |bool=>exact Nat.one_pos
  |str=>exact Nat.one_pos
  |_=>simp[X.flatT]at hf
 unfold Kl;rw[List.length_map,<- List.map_take,h1];by_cases hm:0<min ys.length n
 ·rw[oIP hm];obtain⟨v,vs,hv⟩:=h3 (by intro h;have:=congrArg List.length h;rw[oLT,List.length_nil]at this;omega);rw[hv];simp only;rw[oIP,<- hv]
  ·have hp:=Ew hf (ys.take (min ys.length n)) xs lo vals h1 (by rw[oLT];omega);rw[hp]
   have e:(List.take (min ys.length n) ys).length=min ys.length n:=by rw[oLT];omega
   rw[e];rfl
  ·simp only[oBA,oDE];refine⟨⟨⟨⟨⟨e5,mN t xs⟩,mN t ys⟩,by rw[List.length_map];exact YN⟩,?_⟩,by rw[<- hv];exact h2⟩;rw[<- List.map_drop,<- List.map_take,List.all_map,List.all_eq_true];intro x _;exact Ht hf x
 ·rw[oIN hm]
  have:ys.take (min ys.length n)=[]:=by simp_all
  rw[h4 this];rw[oIP];simp only[oBA,oDE];exact⟨e5,mN t ys⟩
theorem KI(d sz:Nat)(p:XP den)(lo:Nat)(n:Option Nat)(tv c2:XV den):Sim (Y:=Y) (X.cpyX bI d sz p lo n tv c2) (match b7 (er tv) p.hops with|some (.ow c)=>yG d (erP p) (er tv) (Kl sz c (E2 c2) lo (n.getD c.length))|_=>.fail) id:=by
 refine tg λv hv=>?_;rw[hv]
 cases v with
 |d tt x=>cases tt with
  |row o t=>cases o with
   |false=>exact .fail
   |true=>cases c2 with
    |d t2 y=>cases t2 with
     |row o2 t2=>
      by_cases hc:mF t2 t=true/\ii t=sz/\X.flatT t=true
      ·have he:=lh hc.1;subst he;show Sim (if h:mF t2 t2=true/\ii t2=sz/\X.flatT t2=true then _ else _) _ id;rw[dif_pos hc];refine Sim.opt λYq htv=>Sim.br λhok=>?_
       have hok:df lo (lo+min (List.length (y:List (den t2))) (n.getD (List.length (x:List (den t2))))) (List.length (x:List (den t2)))=true:=by
        have h9:=hok;cases n<;>exact h9
       have YN:lo+min (List.length (y:List (den t2))) (n.getD (List.length (x:List (den t2))))<=List.length (x:List (den t2)):=by
        simp only[df,oBA,oDE]at hok;exact hok.2
       have S2:E2 (.d (.row o2 t2) y:XV den)=List.map (enc t2) (y:List (den t2)):=by cases o2<;>rfl
       have hrow:er (.d (.row true t2) x:XV den)=.ow (List.map (enc t2) (x:List (den t2))):=rfl;rw[hrow,S2];simp only[List.length_map];rw[<- hc.2.1,Ig hc.2.2 x y lo _ YN];have hset:=LZ htv;refine tJ (λhb=>?_) λhb=>?_
       ·have hb:Nat.blt 0 (min (List.length (y:List (den t2))) (n.getD (List.length (x:List (den t2)))))=true:=by cases n<;>exact hb
        rw[oIP (by simp_all)];refine Sim.wrC ?_ (cj d ?_)
        ·rw[hset];cases n<;>rfl
        ·cases n<;>rfl
       ·have hb:Nat.blt 0 (min (List.length (y:List (den t2))) (n.getD (List.length (x:List (den t2)))))=false:=by cases n<;>exact hb
        rw[oIN (by intro h;rw[Bool.eq_false_iff]at hb;exact hb (by simpa using h))];refine cj d ?_;cases n<;>rfl
      ·show Sim (if h:mF t2 t=true/\ii t=sz/\X.flatT t=true then _ else _) _ id;rw[dif_neg hc];exact .fail
     |nilr o2=>
      refine Sim.ite (λh0=>?_) λ_=>.fail
      have S2:E2 (.d (.nilr o2) y:XV den)=[]:=by cases o2<;>rfl
      have hrow:er (.d (.row true t) x:XV den)=.ow (List.map (enc t) (x:List (den t))):=rfl;rw[hrow,S2]
      have:Kl sz (List.map (enc t) (x:List (den t))) [] lo (n.getD (List.map (enc t) (x:List (den t))).length)=some (0,none):=by
       simp[Kl,co,h0]
      simp only[this];exact cj d rfl
     |_=>exact .fail
    |_=>exact .fail
  |_=>exact .fail
 |_=>exact .fail
end
end Go.Proofs.YtakfoejcjdcgbaaGreat
