/- Part of the proof; no condition. -/
import Derived.Test.YtffnecakpdhpcaaGreatKa
import Derived.Laws.BytesString
import Derived.Laws.NewFold
import Derived.Laws.IdiomCopy
import Derived.LoopN
import Derived.Orders
import Derived.Lib.SliceRun
set_option linter.unusedVariables false
set_option linter.unusedSimpArgs false
namespace Go.Proofs.YtffnecakpdhpcaaGreat
open Go.RowKit
section
variable {P:Program} {M:Fm} {σ σ':St} {H:List TV} {xs:List Value} {ts:Array Value} {w:World} {G:Gh} {a:Act} {o:Oper}
theorem Mx(mx:Bool)(k:IntKind):∀(r:List Value)(x m:Int),zN mx k x r=some m->(r.foldlM (if mx then Builtin.max2 else Builtin.min2) (.int k x)).run P w=.ok (.int k m) w:=by
 intro r
 induction r with
 |nil=>
  intro x m h;simp[zN]at h
  simp_all
 |cons y r ih=>
  intro x m h
  cases y with
  |int k' b=>
   simp only[zN]at h;split at h
   ·rename_i hk;have:=ih _ _ h
    cases mx with
    |true=>
     simpa[Builtin.max2]using this
    |false=>
     simpa[Builtin.min2]using this
   ·simp at h
  |_=>simp[zN]at h
theorem Rf(hI:Inv M σ [] [] a.tmps w G){d:Nat}(hd:o.dst=some d)(hN:d<M.N){mx:Bool}{l:List Opd}{args:Array Operand}{U':Array TypeId}(hc:args.toList.map dZ=l.map some)(ho:o.op=.call { callee:=.builtin (if mx then .max else .min),args:=args,argTypes:=U' })
 (hr:(ev1 d (.mm mx l)).run σ=some ((),σ')):pM P M σ' a o w:=by
 simp only[ev1]at hr;obtain⟨r,σ1,h1,h2⟩:=dN hr
 obtain⟨rfl,e2,e3⟩:=Ol (R:=λy x'=>y=a.eval x') (λx x' y σ' hx hy=>by
  obtain⟨t,σ2,q1,q2⟩:=dN hy;obtain⟨rfl,ht⟩:=fJ hI.tmr hx q1;obtain⟨rfl,rfl⟩:=rX q2
  exact⟨rfl,(ht.v_inv).1.symm⟩) hc h1
 have X2:args.toList.map a.eval=r:=by
  apply List.ext_getElem
  ·simp[e2]
  ·simp_all
 split at h2
 case h_2=>simp[SP.run]at h2
 rename_i k x rest;obtain⟨m,σ2,h3,h4⟩:=dN h2;obtain⟨hm,rfl⟩:=sm h3;refine jA hI hd hN (x:=.int k m) (.v rfl) h4 ?_;have hf:=Mx (P:=P) (w:=w) mx k rest x m hm
 cases mx with
 |true=>
  simp only[if_true]at hf ho;simp[execOp,ho,resolve,invoke,builtin,Builtin.max_,X2,hf]
 |false=>
  simp only[Bool.false_eq_true,if_false]at hf ho;simp[execOp,ho,resolve,invoke,builtin,Builtin.min_,X2,hf]
theorem PV(hI:Inv M σ [] [] a.tmps w G){d:Nat}(hd:o.dst=some d)(hN:d<M.N){x i:Opd}{x' i':Operand}{t e n sz:Nat}(hx:dZ x'=some x)(hi:dZ i'=some i)(ho:o.op=.indexAddr t x' i')
 (hu:P.underlying t=some (.array n e))(hs:(P.info? e).map (·.size)=some sz)(hr:(ev1 d (.idxa n sz x i)).run σ=some ((),σ')):pM P M σ' a o w:=by
 have YF:(sizeOf e).run P w=.ok sz w:=by
  unfold sizeOf typeInfo
  cases hi:P.info? e with
  |none=>simp[hi]at hs
  |some i=>simp[hi]at hs;simp[hi,hs]
 simp only[ev1]at hr;obtain⟨tx,σ1,h1,h2⟩:=dN hr;obtain⟨rfl,Z0⟩:=fJ hI.tmr hx h1;obtain⟨ti,σ2,h3,h4⟩:=dN h2;obtain⟨rfl,W1⟩:=fJ hI.tmr hi h3;obtain⟨k,σ3,h5,h6⟩:=dN h4;obtain⟨ik,m,rfl,X9,hk,rfl⟩:=vl h5;obtain⟨ei,_⟩:=W1.v_inv
 cases tx with
 |ptr p vs=>
  simp only at h6;obtain⟨_,σ2,h7,h8⟩:=dN h6;have e1:σ2=σ3:=(eI h7).1;have e2:=(eI h7).2;subst e1;split at h8
  case isFalse=>simp[SP.run]at h8
  rename_i hc;simp only[oBA,oDE]at hc;obtain⟨hkn,ZU⟩:=hc;generalize hz:a.eval x'=z at Z0
  cases Z0 with
  |ptr V0 h0 hv h=>
   obtain⟨Z7,ad,t0,ha,rfl,VG⟩:=h e2
   have hmn:m<(n:Int):=by omega
   refine jA hI hd hN (x:=.pointer (some (ad.add (k*sz)))) ?_ h8 (by subst hk;simp[execOp,ho,hz,ei,Instr.indexAt,asIntOf,Instr.sureAddr,run_underlying hu,X9,hmn,YF]);refine .ptr V0 h0 (by rw[Kk];exact hv) λ_=>⟨by rw[fT];exact Z7,⟨ad.block,ad.off+k*sz,none⟩,?_⟩;have ZD:=nU ha
   have X5:ad.add (k*sz)=⟨ad.block,ad.off+k*sz,none⟩:=by
    obtain⟨b,ob,sp⟩:=ad;simp only at ZD;subst ZD;exact gz b ob (k*sz)
   rcases p.add_cases (k*sz)with⟨q1,q2⟩|⟨hs',i,sz',o',q1,q2⟩
   ·exact⟨eU M σ2 [] p.root (p.off+k*sz),qP _ ha,by rw[X5],by rw[q2];rfl⟩
   ·have hlt:o'+k*sz<sz':=by
     unfold ew.fits at ZU;rw[q1]at ZU;simpa using ZU
    rw[q1]at VG;obtain⟨t',ZL⟩:=KZ VG hlt;exact⟨t',qP _ ha,by rw[X5],by rw[q2];exact ZL⟩
 |_=>simp[SP.run]at h6
theorem Pc{c:List (List TV)}:∀{ns:List Int},DE c=some ns->ns.length=c.length/\∀i (h:i<c.length)(h':i<ns.length),c[i]=[.v (.int .u8 ns[i])]:=by
 induction c with
 |nil=>intro ns h;simp only[DE,oSJ]at h;subst h;exact⟨rfl,λi h=>by simp at h⟩
 |cons e c ih=>
  intro ns h;unfold DE at h;split at h
  ·simp_all
  ·rename_i n r h1
   injection h1 with h1 h2
   subst h1;subst h2
   cases hb:DE c with
   |none=>simp_all
   |some l=>
    simp[hb]at h;subst h;obtain⟨e1,e2⟩:=ih hb;refine⟨by simp[e1],λi hi Zt=>?_⟩
    cases i with
    |zero=>rfl
    |succ i=>simp_all
  ·simp at h
theorem R4(hI:Inv M σ [] [] a.tmps w G){d:Nat}(hd:o.dst=some d)(hN:d<M.N){x:Opd}{x':Operand}{s t e:TypeId}(hx:dZ x'=some x)(ho:o.op=.convert s t x')(hs:P.underlying s=some (.slice e))(ht:P.underlying t=some .string)(he:P.underlying e=some (.int .u8))
 (hr:(ev1 d (.b2s x)).run σ=some ((),σ')):pM P M σ' a o w:=by
 simp only[ev1]at hr;obtain⟨tx,σ1,h1,h2⟩:=dN hr;obtain⟨rfl,Z0⟩:=fJ hI.tmr hx h1;obtain⟨t',σ2,h3,h4⟩:=dN h2;obtain⟨G1,Zv,_⟩:=j6 hI Z0 h3;simp only[List.nil_append]at Zv;obtain⟨G2,ZF,_⟩:=Zv.1.drop
 have ZZ:∀str ad len cap,a.eval x'=.slice ad len cap->(Conv.bytesToString (.slice ad len cap)).run P w=.ok (.string str) w->(wr d (.v (.string str))).run σ2=some ((),σ')->pM P M σ' a o w:=by
  intro str ad len cap ex hrun hw;refine jA ZF.1 hd hN (x:=.string str) (.v rfl) hw ?_;simp only[execOp,ho,Sem.run_bind,ex]
  have:(convert s t (.slice ad len cap)).run P w=.ok (.string str) w:=by
   unfold convert;simp only[Sem.run_bind,run_underlying hs,run_underlying ht,run_underlying he,Result.andThen_ok];exact hrun
  rw[this];rfl
 have hown:=λh=>Zv.1.hand_own (j:=0) (by simp) h;split at h4
 ·rename_i c;obtain⟨str,σ3,h5,h6⟩:=dN h4;obtain⟨hb,rfl⟩:=sm h5;have hown:=hown (by simp);generalize hz:a.eval x'=z at hown
  cases hown with
  |sl hfp h=>
   cases h with
   | @sl _ ad cap sz u hsz hcap hmax hnil hcell hrec=>
    unfold bstr at hb
    cases hbn:DE c with
    |none=>simp[hbn]at hb
    |some ns=>
     simp only[hbn,oMS,oSJ]at hb;obtain⟨hl,Z5⟩:=Pc hbn;refine ZZ str _ _ _ hz ?_ h6
     cases ad with
     |none=>
      have hc0:c.length=0:=by have:=hnil rfl;omega
      have hns:ns=[]:=oEN (by omega);subst hns;rw[<- hb];rfl
     |some ad=>
      rw[<- hb];refine run_bytesToString w ad c.length cap ns ?_
      have:=run_loadCells_list (P:=P) w ad (ns.map (Value.int .u8)) λj v hj=>by
       have hjl:j<ns.length:=by
        rcases Nat.lt_or_ge j ns.length with h|h
        ·exact h
        ·rw[oGN (by simpa using h)]at hj;simp at hj
       have hjc:j<c.length:=by omega
       have e1:=Z5 j hjc hjl
       have hs1:sz=1:=by rw[<- hsz j hjc,e1];rfl
       subst hs1;obtain⟨b,o',Wh,hF,Zd⟩:=hcell j 0 hjc (by omega)
       injection Wh with Wh
       subst Wh;have hr:=hrec j 0 hjc (by rw[e1];simp)
       have e2:c[j][0]'(by rw[e1];simp)=.v (.int .u8 ns[j]):=by simp[e1]
       rw[e2]at hr
       have hu:u j 0=.int .u8 ns[j]:=by
        generalize u j 0=y at hr;cases hr;rfl
       have hv:v=.int .u8 ns[j]:=by simpa[hjl]using hj.symm
       rw[hv,<- hu,gz];simpa using Zd
      simpa[hl]using this
 ·have hown:=hown (by simp);generalize hz:a.eval x'=z at hown
  cases hown with
  | @nil _ ad hfp=>
   refine ZZ .empty _ _ _ hz ?_ h4
   cases ad with
   |none=>rfl
   |some ad=>
    have:=run_bytesToString (P:=P) w ad 0 0 [] (by simp[loadCells,loadCellsFrom]);simpa using this
  | @ow _ _ b cap cur e' sz' u f hfp hb hsz hcap hz0 hmax hcur hcell hrec hnb hdis=>
   refine ZZ .empty _ _ _ hz ?_ h4;have:=run_bytesToString (P:=P) w ⟨b,0,none⟩ 0 cap [] (by simp[loadCells,loadCellsFrom]);simpa using this
 ·simp[SP.run]at h4
theorem PY(hI:Inv M σ [] [] a.tmps w G){d:Nat}{mv:Bool}(hd:o.dst=some d)(hN:d<M.N){t e n sz:TypeId}{parts:Array (Nat×Operand)}{ps:List (Nat×Nat×Opd)}{z:List Value}(ho:o.op=.build t parts)(hu:P.underlying t=some (.array n e))
 (hz:(P.info? t).bind (·.zero.map (·.cells.toList))=some z)(hs:(P.info? e).map (·.size)=some sz)(hp1:parts.size=ps.length)
 (hp2:∀k (h:k<parts.size)(h':k<ps.length),dZ parts[k].2=some ps[k].2.2/\ps[k].1=parts[k].1*sz/\ps[k].2.1=sz/\ps[k].1+ps[k].2.1<=z.length)
 (hr:(ev1 d (.bld z mv ps)).run σ=some ((),σ')):pM P M σ' a o w:=by
 simp only[ev1]at hr;split at hr
 case isFalse=>simp[SP.run]at hr
 rename_i hok;obtain⟨l,σ1,h1,h2⟩:=dN hr;obtain⟨l',σ2,h3,h4⟩:=dN h2
 obtain⟨G1,g1,hokl,XW⟩:=tQ (a:=a) (pv:=parts.toList.map (·.2)) hI (by
  apply List.ext_getElem
  ·simp[hp1]
  ·intro k hk YD;have:=(hp2 k (by simpa using hk) (by simpa using YD)).1
   simpa using this) h1
 obtain⟨G2,ZH,_,hl2,YY⟩:=AW g1.1 hokl h3;obtain⟨ys,V7⟩:∃ys,ys=(parts.toList.map (·.2)).flatMap (λx=>(a.eval x).cells.toList):=⟨_,rfl⟩;rw[<- V7]at g1 YY
 have hlen:l'.length=ys.length:=by rw[hl2];exact g1.1.hand
 have hzc:∀j (h:j<(z.map gw).length)(h':j<z.length),TmR w (G2.F M.A) σ2.v (eU M σ2 []) G2 (z.map gw)[j] z[j]:=λj h h'=>by simp only[List.getElem_map];exact xk _
 obtain⟨r1,r2⟩:=s7 (R:=TmR w (G2.F M.A) σ2.v (eU M σ2 []) G2) ps l' ys (z.map gw) z (by simp) hzc hlen (λj h h'=>by have:=YY j h;simpa[h']using this);refine jA ZH hd hN (x:=.agg (pD z ps ys).toArray) (.agg (by simp[r1]) λj hj=>by have:=r2 j hj (by omega);simpa[show j<(pD z ps ys).length by omega]using this) h4 ?_
 cases hi:P.info? t with
 |none=>simp[hi]at hz
 |some i=>
  simp only[hi,oBS]at hz
  cases hiz:i.zero with
  |none=>simp[hiz]at hz
  |some v=>
   simp only[hiz,oMS,oSJ]at hz
   have V9:(zeroValue t).run P w=.ok v w:=by simp[zeroValue,typeInfo,hi,hiz]
   have YF:(sizeOf e).run P w=.ok sz w:=by
    unfold sizeOf typeInfo
    cases hi:P.info? e with
    |none=>simp[hi]at hs
    |some i=>simp_all
   have YI:=Cd (place:=λi=>some (i*sz,sz)) (parts.toList.map λp=>(p.1,a.eval p.2)) ps v.cells (by simp[hp1]) (λk h h'=>by
    have hk:k<parts.size:=by simpa using h
    obtain⟨q1,q2,q3,q5⟩:=hp2 k hk h';have q4:=XW k h' (by simpa using hk);refine⟨by simp[q2,q3],by simpa using q4,?_⟩;rw[<- hz]at q5
    simpa using q5)
   have Zz:((parts.toList.map λp=>(p.1,a.eval p.2)).flatMap (·.2.cells.toList))=ys:=by rw[V7];simp[List.flatMap_map]
   rw[Zz,hz]at YI;simp only[execOp,ho,Instr.build,Sem.run_bind,V9,Result.andThen_ok,run_underlying hu,YF,Array.toList_map];rw[YI];simp
end
theorem zu{α:Type}{l:List α}{i:Nat}{x:α}{f g:α->α}(h:l[i]?=some x)(e:f x=g x):l.modify i f=l.modify i g:=by
 apply List.ext_getElem?
 grind
theorem JO{hs:List Hop}{i sz j:Nat}{c:List (List TV)}{el:List TV}{t1:TV}:∀{t:TV},eO t hs=some (.ow c)->c[i]?=some el->el.length=sz->el[j]?=some t1->eO t (hs++[(i,sz,j)])=some t1:=by
 induction hs with
 |nil=>
  intro t h h1 h2 h3;simp[eO]at h;subst h;simp[eO,h1,h2,h3]
 |cons hp hs ih=>
  intro t h h1 h2 h3;obtain⟨c0,el0,t0,rfl,k1,k2,k3,k4⟩:=gR h;simp[eO]
  simp_all
theorem IZ{hs:List Hop}{i sz j:Nat}{c:List (List TV)}{x:TV}:∀{t:TV},eO t hs=some (.ow c)->iw t (hs++[(i,sz,j)]) x=iw t hs (.ow (c.modify i λel=>el.modify j λ_=>x)):=by
 induction hs with
 |nil=>
  intro t h;simp[eO]at h;subst h;simp[iw]
 |cons hp hs ih=>
  intro t h;obtain⟨c0,el0,t0,rfl,k1,k2,k3,k4⟩:=gR h;simp only[List.cons_append,iw];congr 1;refine zu k1 (zu k3 (ih k4))
theorem Nx{hs:List Hop}{x y:TV}:∀{t:TV},iw (iw t hs y) hs x=iw t hs x:=by
 induction hs with
 |nil=>intro t;rfl
 |cons hp hs ih=>
  obtain⟨a,b,d⟩:=hp;intro t
  cases t with
  |ow c=>
   simp only[iw];congr 1;apply List.ext_getElem?;intro k;simp only[List.getElem?_modify];by_cases hk:a=k
   ·subst hk
    cases c[a]? with
    |none=>rfl
    |some el=>
     simp only[if_true,Option.map_eq_map,oMS];congr 1;apply List.ext_getElem?;intro k;simp only[List.getElem?_modify,Option.map_eq_map];by_cases hk:d=k
     ·subst hk
      cases el[d]? with
      |none=>rfl
      |some t1=>simp[ih]
     ·cases el[k]?<;>simp[hk]
   ·cases c[k]?<;>simp[hk]
  |_=>rfl
theorem CE{α:Type}(l:List (Nat×α))(i:Nat)(x y:α):gS (gS l i x) i y=gS l i y:=by
 induction l with
 |nil=>simp[gS]
 |cons h r ih=>
  have ⟨k,v⟩:=h;by_cases hk:k=i
  ·subst hk;simp[gS]
  ·simp[hk,gS,ih]
theorem II{w:World}{hs:List Hop}{k sz n cap j:Nat}{ad:Addr}:∀{x:Value},hvT w x hs=some (.slice (some ad) n cap)->k<n->fi w x (hs++[(k,sz,j)])=some ⟨ad.block,ad.off+(k*sz+j),none⟩:=by
 induction hs with
 |nil=>
  intro x h hk;simp only[hvT,oSJ]at h;subst h;simp[fi,hk]
 |cons hp hs ih=>
  intro x h hk;simp only[hvT]at h
  cases x with
  |slice a l c=>
   cases a with
   |none=>cases hs<;>simp[fi]at h
   |some a=>
    obtain⟨hd,tl,Xf⟩:∃hd tl,hs++[(k,sz,j)]=hd::tl:=by cases hs<;>exact⟨_,_,rfl⟩
    cases hs with
    |nil=>
     simp only[fi]at h;split at h
     ·rename_i hi;simp at h;simp only[List.cons_append,List.nil_append,fi,hi,if_true,h,hk]
     ·simp at h
    |cons hp2 Y'=>
     simp only[fi]at h;split at h
     ·rename_i hi;split at h
      ·rename_i y hy;rw[List.cons_append,Xf];simp[fi,hi,if_true,hy];rw[<- Xf];exact ih (by simpa[hvT]using h) hk
      ·simp at h
     ·simp at h
  |_=>cases hs<;>simp[fi]at h
section
variable {P:Program} {M:Fm} {σ σ':St} {H:List TV} {xs:List Value} {ts:Array Value} {w:World} {G:Gh} {a:Act} {o:Oper}
def St.sub(σ:St)(p:ew)(l:List TV)(t:TV):St:=⟨σ.tm,gS σ.ce p.root (l.set p.off (iw (σ.c p.root p.off) p.hops t)),σ.vr⟩
theorem IO{p:ew}{l:List TV}{t:TV}(hl:p.off<l.length):(σ.sub p l t).c p.root p.off=iw (σ.c p.root p.off) p.hops t:=by
 simp[St.c,St.sub,ft];simp[hl]
theorem Qb(hI:Inv M σ [] [] ts w G){p:ew}{c:List (List TV)}{el:List TV}{b n cap i sz j:Nat}{old v:Value}(Z7:p.root≠1)(ZG:G.hv w p=some (.slice (some ⟨b,0,none⟩) n cap))(hg:eO (σ.c p.root p.off) p.hops=some (.ow c))(hin:i<n)
 (hi:c[i]?=some el)(hl:el.length=sz)(hj:el[j]?=some (.v old))(hv:jJ v=true){l:List TV}(hal:eV σ.ce p.root=some l)(hol:p.off<l.length):
 ∃G',Inv M (σ.sub p l (.ow (c.modify i λel=>el.modify j λ_=>.v v))) [] [] ts (w.setCell ⟨b,i*sz+j,none⟩ v) G'/\(w.cell? ⟨b,i*sz+j,none⟩).isSome=true/\w.frozen? ⟨b,i*sz+j,none⟩=false/\G'.hv (w.setCell ⟨b,i*sz+j,none⟩ v) p=some (.slice (some ⟨b,0,none⟩) n cap):=by
 obtain⟨G1,Zv⟩:=hI.addHand (x:=v) (.v (λ_ h=>h) hv)
 have hgE:eO (eU M σ [] p.root p.off) p.hops=some (.ow c):=by rw[eQ (Z7)];exact hg
 obtain⟨c1,Wq,_,_⟩:=Zv.2.2.1.hdr p _ c Z7 rfl ZG hgE
 obtain⟨hd,tl,Xf⟩:∃hd tl,p.hops++[(i,sz,j)]=hd::tl:=by cases p.hops<;>exact⟨_,_,rfl⟩
 have Z6:G1.addrB w ⟨p.root,p.off,p.hops++[(i,sz,j)]⟩=some ⟨b,i*sz+j,none⟩:=by
  have:=II (sz:=sz) (j:=j) Wq hin;unfold Gh.addrB
  simp_all
 have hgq:=JO hg hi hl hj
 have hgqE:eO (eU M σ [.v v] p.root p.off) (p.hops++[(i,sz,j)])=some (.v old):=by rw[eQ (Z7)];exact hgq
 have hrun:(CL ⟨p.root,p.off,p.hops++[(i,sz,j)]⟩ (.v v)).run σ=some ((),σ.sub p l (.ow (c.modify i λel=>el.modify j λ_=>.v v))):=by
  simp only[CL,SP.run,hgq,xF,Bool.or_self,Bool.false_eq_true,if_false,hal,hol,if_true];rw[IZ hg];rfl
 obtain⟨⟨u,hu⟩,Xt,G2,ZH,hm,Zm,hβ⟩:=Zv.1.put (p:=⟨p.root,p.off,p.hops++[(i,sz,j)]⟩) (j:=0) Z7 Z6 hgqE (by simp) (by simp) (by simpa using hrun)
 have WY:=ZH.clear (by intro k hk;have:k=0:=by simp at hk;omega
                       simp)
 have hgE1:eO (eU M σ [.v v] p.root p.off) p.hops=some (.ow c):=by rw[eQ (Z7)];exact hg
 obtain⟨c2,YC,_,_⟩:=hm.keeps.hdr p _ c Z7 rfl Wq hgE1;exact⟨G2,WY,by simp_all,Xt,YC⟩
theorem AK{c:List (List TV)}{i j i' j':Nat}{x:TV}{el:List TV}{y:TV}(h:c[i']?=some el)(hy:el[j']?=some y)(hne:¬(i'=i/\j'=j)):
 ∃Wf,(c.modify i λel=>el.modify j λ_=>x)[i']?=some Wf/\Wf[j']?=some y:=by
 by_cases hi:i=i'
 ·subst hi
  have hj:¬j=j':=by omega
  simp_all
 ·simp_all
theorem Qh{p:ew}{b n cap sz:Nat}(Z7:p.root≠1)(hsz:0<sz):∀(vals:List Value)(c:List (List TV))(o:Nat)(σ:St)(w:World)(G:Gh)(l:List TV),vals≠[]->Inv M σ [] [] ts w G->G.hv w p=some (.slice (some ⟨b,0,none⟩) n cap)->eO (σ.c p.root p.off) p.hops=some (.ow c)->n=c.length ->
 (∀el∈c,el.length=sz)->(∀v∈vals,jJ v=true)->(∀t,o<=t->t<o+vals.length->∃el y,c[t/sz]?=some el/\el[t%sz]?=some (.v y))->eV σ.ce p.root=some l->p.off<l.length ->
 (∃G',Inv M (σ.sub p l (.ow (rE sz c o vals))) [] [] ts (w.setCells b o vals) G')/\∀j,j<vals.length->(w.cell? ⟨b,o+j,none⟩).isSome=true/\w.frozen? ⟨b,o+j,none⟩=false:=by
 intro vals
 induction vals with
 |nil=>intro c o σ w G l h;exact absurd rfl h
 |cons v vals ih=>
  intro c o σ w G l _ hI ZG hg hn hlen hvf Zz hal hol;obtain⟨el,y,h1,h2⟩:=Zz o (Nat.le_refl _) (by simp);have Y3:el.length=sz:=hlen el (List.mem_of_getElem? h1)
  have hio:o/sz<n:=by rw[hn];exact(oGS h1).1
  have ho:o/sz*sz+o%sz=o:=by rw[Nat.mul_comm];exact Nat.div_add_mod o sz
  obtain⟨G1,hI1,hs1,hf1,Wq⟩:=Qb hI Z7 ZG hg hio h1 Y3 h2 (hvf v (by simp)) hal hol;rw[ho]at hI1 hs1 hf1 Wq
  cases vals with
  |nil=>
   refine⟨⟨G1,hI1⟩,λj hj=>?_⟩
   obtain rfl:j=0:=by simp at hj;omega
   exact⟨hs1,hf1⟩
  |cons v2 vals=>
   obtain⟨c1,ZS⟩:∃c1,c1=c.modify (o/sz) λel=>el.modify (o%sz) λ_=>.v v:=⟨_,rfl⟩;rw[<- ZS]at hI1;obtain⟨l1,Xv⟩:∃l1,l1=l.set p.off (iw (σ.c p.root p.off) p.hops (.ow c1)):=⟨_,rfl⟩;have hsc:(σ.sub p l (.ow c1)).c p.root p.off=iw (σ.c p.root p.off) p.hops (.ow c1):=IO hol
   obtain⟨⟨G2,ZH⟩,ZK⟩:=ih c1 (o+1) (σ.sub p l (.ow c1)) _ G1 l1 (by simp) hI1 Wq (by rw[hsc];exact Dz hg) (by rw[hn,ZS];simp) (λWf hel'=>by
    have hml:=qW c (o/sz) (o%sz) (λ_=>.v v);have:Wf.length∈c1.map List.length:=List.mem_map_of_mem hel';rw[ZS,hml]at this;obtain⟨e3,e4,e5⟩:=List.mem_map.1 this
    rw[<- e5];exact hlen e3 e4) (λx hx=>hvf x (by simp at hx⊢;exact .inr hx)) (λt X4 YY=>by
    obtain⟨Wf,y',q1,q2⟩:=Zz t (by omega) (by simp at YY⊢;omega)
    obtain⟨el2,q3,q4⟩:=AK (x:=.v v) q1 q2 (i:=o/sz) (j:=o%sz) (by
     rintro⟨e1,e2⟩;have h3:=Nat.div_add_mod t sz;have h4:=Nat.div_add_mod o sz;rw[e1,e2]at h3
     omega)
    exact⟨el2,y',by rw[ZS];exact q3,q4⟩) (by simp[St.sub,ft,Xv]) (by rw[Xv];simpa using hol)
   refine⟨⟨G2,?_⟩,λj hj=>?_⟩
   ·have e:(σ.sub p l (.ow c1)).sub p l1 (.ow (rE sz c1 (o+1) (v2::vals)))=σ.sub p l (.ow (rE sz c o (v::v2::vals))):=by
     unfold St.sub;have hsc':(St.c ⟨σ.tm,gS σ.ce p.root (l.set p.off (iw (σ.c p.root p.off) p.hops (.ow c1))),σ.vr⟩ p.root p.off)=iw (σ.c p.root p.off) p.hops (.ow c1):=hsc;rw[hsc',Nx,CE,Xv,List.set_set];simp only[rE,<- ZS]
    rw[e]at ZH;exact ZH
   ·cases j with
    |zero=>exact⟨hs1,hf1⟩
    |succ j=>
     have:=ZK j (by simpa using hj);rw[show o+1+j=o+(j+1) by omega,World.frozen?_setCell]at this;refine⟨?_,this.2⟩
     have hne:(⟨b,o,none⟩:Addr)≠⟨b,o+(j+1),none⟩:=λe=>by have:=congrArg Addr.off e;simp at this
     rw[World.cell?_setCell_other w _ _ _ hne]at this;exact this.1
theorem Il:∀{l:List TV}{vs:List Value},fa l=some vs->vs.length=l.length/\∀j (h:j<l.length)(h':j<vs.length),l[j]=.v vs[j]:=by
 intro l
 induction l with
 |nil=>intro vs h;simp[fa]at h;subst h;exact⟨rfl,λj h=>by simp at h⟩
 |cons t l ih=>
  intro vs h
  cases t with
  |v x=>
   simp[fa]at h
   cases hl:fa l with
   |none=>simp_all
   |some r=>
    simp[hl]at h;subst h;have ⟨e1,e2⟩:=ih hl;refine⟨by simp[e1],λj hj ZQ=>?_⟩
    cases j with
    |zero=>rfl
    |succ j=>simp_all
  |_=>simp[fa]at h
theorem Gq{c:List (List TV)}{sz m:Nat}(hs:∀i (h:i<c.length),c[i].length=sz)(hm:m<=c.length):(c.take m).flatten.length=m*sz:=by
 rw[Ca (sz:=sz) λi h=>by simp_all];simp[hm]
theorem yC{F fp:Nat->Prop}{t:TV}{v x:Value}{c c2:List (List TV)}{sz lo n cap:Nat}{ad:Option Addr}(h:jw w F fp t v)(ht:t=.ow c\/t=.sl c)(hs:∀i (h:i<c.length),c[i].length=sz)(ZV:0<sz)(ZK:c2=(c.drop lo).take n)(hln:lo+n<=c.length)
 (hx:x=.slice ad n cap)(Zc:0<n->∃b o len ZX,v=.slice (some ⟨b,o,none⟩) len ZX/\ad=some ⟨b,o+lo*sz,none⟩)(hnone:ad=none->n=0){m:Nat}{vs:List Value}(hm:m<=c2.length)(hf:fa (c2.take m).flatten=some vs):(Builtin.firstCells sz m x).run P w=.ok vs.toArray w:=by
 subst hx
 have hc2l:c2.length=n:=by rw[ZK];simp;omega
 have Y':∀i (h:i<c2.length),c2[i].length=sz:=λi h=>by
  subst ZK;simp only[List.getElem_take,List.getElem_drop];exact hs _ (by simp at h;omega)
 obtain⟨e1,e2⟩:=Il hf;have Zz:=Gq Y' hm
 cases ad with
 |none=>
  have hn:=hnone rfl
  have hm0:m=0:=by omega
  subst hm0;have:vs=[]:=oEN (by rw[e1,Zz];omega);subst this;rfl
 |some ad=>
  show(loadCells ad (m*sz)).run P w=_;obtain⟨a,capX,vals,f,rfl,YU,ZP,hrec,_⟩:=h.rows ht hs
  have hvl2:vs.length=m*sz:=by rw[e1,Zz]
  have:=run_loadCells_list (P:=P) w ad vs λj y hj=>by
   have hjl:j<vs.length:=by
    rcases Nat.lt_or_ge j vs.length with h|h
    ·exact h
    ·rw[oGN h]at hj;simp at hj
   have hjm:j<m*sz:=by omega
   have hq:j/sz<m:=(Nat.div_lt_iff_lt_mul ZV).2 hjm;have hr:j%sz<sz:=Nat.mod_lt _ ZV
   have hqc:j/sz<c2.length:=by omega
   have XQ:lo+j/sz<c.length:=by omega
   have X3:j%sz<(c[lo+j/sz]).length:=by rw[hs _ XQ];exact hr
   have Y7:(lo+j/sz)*sz+j%sz=lo*sz+j:=by
    rw[Nat.add_mul];have:=Nat.div_add_mod j sz;rw[Nat.mul_comm]at this;omega
   have hown:=hrec (lo+j/sz) (j%sz) XQ X3;rw[Y7]at hown
   have Y3:c[lo+j/sz][j%sz]=.v y:=by
    have h1:=e2 j (by rw[Zz];exact hjm) hjl;have h2:=wJ (c:=c2.take m) (sz:=sz) (λi h=>by simpa using Y' i (by simp at h;omega)) (i:=j/sz) (j:=j%sz) (by simp;omega) (by rw[List.getElem_take,Y' _ hqc];exact hr);rw[show j/sz*sz+j%sz=j by rw[Nat.mul_comm];exact Nat.div_add_mod j sz,oGE (by rw[Zz];exact hjm),h1]at h2
    injection h2 with h2
    have h3:(c2.take m)[j/sz]'(by simp;omega)=c[lo+j/sz]:=by
     subst ZK;simp
    have hy:vs[j]=y:=by simpa[hjl]using hj
    rw[<- hy,h2];simp only[h3]
   rw[Y3]at hown
   have WV:vals.getD (lo*sz+j) undef=y:=by
    cases hown with
    |v hfp Zz=>rfl
   have hlt:lo*sz+j<vals.length:=by
    rw[YU]
    have:(lo+j/sz)*sz+sz<=c.length*sz:=by
     have:(lo+j/sz+1)*sz<=c.length*sz:=Nat.mul_le_mul_right _ XQ;rw[Nat.add_mul,Nat.one_mul]at this;exact this
    omega
   obtain⟨b,o,Wh,Zd⟩:=ZP (lo*sz+j) y (by rw[oGE hlt];rw[oGD,oGE hlt]at WV;simpa using WV);obtain⟨b',o',len,ZX,Y5,had'⟩:=Zc (by rw[<- hc2l];exact Nat.lt_of_le_of_lt (Nat.zero_le _) hqc)
   injection Y5 with Y5 _ _
   rw[Y5]at Wh
   injection Wh with Wh
   injection Wh with hb ho _
   subst hb;subst ho
   injection had' with had'
   rw[had',gz,show o'+lo*sz+j=o'+(lo*sz+j) by omega];exact Zd
  rw[hvl2]at this;exact this
theorem MC(hI:Inv M σ [] [] ts w G){u:TV}{v:Value}(hu:TmR w (G.F M.A) σ.v (eU M σ []) G u v){c2:List (List TV)}(hr:(contentOf u).run σ=some (c2,σ')):σ'=σ/\∀sz,0<sz->(∀i (h:i<c2.length),c2[i].length=sz)->
 ∃ad cap,v=.slice ad c2.length cap/\∀m vs,m<=c2.length->fa (c2.take m).flatten=some vs->(Builtin.firstCells sz m v).run P w=.ok vs.toArray w:=by
 cases u with
 |sl c=>
  simp only[contentOf,SP.run,oSJ,oPJ]at hr;obtain⟨rfl,rfl⟩:=hr;refine⟨rfl,λsz ZV hs=>?_⟩
  cases hu with
  |sl h=>
   have hown:jw w (G.F M.A) (λ_=>False) (.sl c) v:=.sl (λ_ h=>h) h;obtain⟨ad,cap,hv,_⟩:=h.hdr;refine⟨ad,cap,hv,λm vs hm hf=>yC (lo:=0) (n:=c.length) hown (.inr rfl) hs ZV (by simp) (by simp) hv (λhn=>?_) (λhe=>?_) hm hf⟩
   ·cases h with
    | @sl _ a cap sz' u hsz hcap hmax hnil hcell hrec=>
     have e:sz'=sz:=by rw[<- hsz 0 hn,hs 0 hn]
     subst e;obtain⟨b,o,ha,_,_⟩:=hcell 0 0 hn ZV
     injection hv with hv _ _
     exact⟨b,o,_,_,by rw[ha],by rw[<- hv,ha];simp⟩
   ·cases h with
    | @sl _ a cap sz' u hsz hcap hmax hnil hcell hrec=>
     injection hv with hv _ _
     rw[hv]at hnil;have:=hnil he;omega
 |ow c=>
  cases hu with
  | @nil ad=>
   obtain⟨rfl,rfl⟩:=hr;refine⟨rfl,λsz ZV hs=>⟨ad,0,rfl,λm vs hm hf=>?_⟩⟩
   have hm0:m=0:=by simpa using hm
   subst hm0;simp only[List.take_zero,List.flatten_nil,fa,oSJ]at hf;subst hf;cases ad<;>simp[Builtin.firstCells,loadCells,loadCellsFrom]
 |pk p vs=>
  simp only[contentOf]at hr;obtain⟨_,σ1,h1,h2⟩:=dN hr;have e1:σ1=σ:=(eI h1).1;have e2:=(eI h1).2;subst e1;obtain⟨tt,σ2,h3,h4⟩:=dN h2;obtain⟨e3,hg⟩:=gy h3;have e3:σ2=σ1:=e3;subst e3
  cases hu with
  |pk V0 h0 hv h=>
   obtain⟨Z7,c,ZG,ZJ⟩:=h e2
   have Zw:eO (σ2.c p.root p.off) p.hops=some (.ow c):=by rw[eQ (by exact Z7)]at ZJ;exact ZJ
   rw[Zw]at hg
   injection hg with hg
   subst hg;simp only[SP.run,oSJ,oPJ]at h4;obtain⟨rfl,rfl⟩:=h4;refine⟨rfl,λsz ZV hs=>?_⟩;obtain⟨fp,hown⟩:=zr hI ZG ZJ;obtain⟨ad,cap,Y5,_⟩:=hown.hdr;refine⟨ad,cap,Y5,λm vs hm hf=>yC (lo:=0) (n:=c.length) hown (.inl rfl) hs ZV (by simp) (by simp) Y5 (λhn=>?_) (λhe=>?_) hm hf⟩
   ·cases hown with
    |nil=>simp at hn
    | @ow _ _ b cap cur e' sz' u f hfp hb hsz hcap hz0 hmax hcur hcell hrec hnb hdis=>
     injection Y5 with Y5 _ _
     exact⟨b,0,_,_,rfl,by rw[<- Y5];simp⟩
   ·cases hown with
    |nil=>rfl
    | @ow _ _ b cap cur e' sz' u f hfp hb hsz hcap hz0 hmax hcur hcell hrec hnb hdis=>
     injection Y5 with Y5 _ _
     rw[he]at Y5;simp at Y5
 |pw p vs YV lo n=>
  simp only[contentOf]at hr;obtain⟨_,σ1,h1,h2⟩:=dN hr;have e1:σ1=σ:=(eI h1).1;have e2:=(eI h1).2;subst e1;obtain⟨tt,σ2,h3,h4⟩:=dN h2;obtain⟨e3,hg⟩:=gy h3;have e3:σ2=σ1:=e3;subst e3
  cases hu with
  |pw V0 h0 hv h=>
   obtain⟨Z7,c,hd,ZG,ZJ,hln,a,cap,hx,Xj,W2,hnil,XB,Zc⟩:=h e2
   have Zw:eO (σ2.c p.root p.off) p.hops=some (.ow c):=by rw[eQ (by exact Z7)]at ZJ;exact ZJ
   rw[Zw]at hg
   injection hg with hg
   subst hg;obtain⟨rfl,rfl⟩:=h4;refine⟨rfl,λsz ZV hs=>?_⟩
   have hl2:((c.drop lo).take n).length=n:=by simp;omega
   obtain⟨fp,hown⟩:=zr hI ZG ZJ;by_cases hn:n=0
   ·subst hn;refine⟨a,cap,by rw[hl2];exact hx,λm vs hm hf=>?_⟩
    have hm0:m=0:=by omega
    subst hm0;simp only[List.take_zero,List.flatten_nil,fa,oSJ]at hf;subst hf;rw[hx]
    cases a with
    |none=>rfl
    |some a=>simp[Builtin.firstCells,loadCells,loadCellsFrom]
   ·have hsz0:YV=sz:=by
     rw[<- hs 0 (by omega)];simp only[List.getElem_take,List.getElem_drop];exact(XB _ (by omega)).symm
    subst hsz0;refine⟨a,cap,by rw[hl2];exact hx,λm vs hm hf=>yC (lo:=lo) (n:=n) hown (.inl rfl) XB ZV rfl hln hx (λhn=>?_) (λhe=>?_) hm hf⟩
    ·obtain⟨b,len,ZX,q1,q2⟩:=Zc hn;exact⟨b,0,len,ZX,q1,by rw[q2];simp⟩
    ·obtain⟨b,len,ZX,q1,q2⟩:=Zc (by omega);rw[he]at q2;simp at q2
 |_=>simp[contentOf,SP.run]at hr
theorem w9{t t' ty e:TypeId}{sz:Nat}(hu:P.underlying t=some (.slice e))(hs:(P.info? e).map (·.size)=some sz){v:Value}{W9:Option Addr}{n2 We:Nat}(hv:v=.slice W9 n2 We){ad:Option Addr}{n cap:Nat}{vs:List Value}(hf:(Builtin.firstCells sz (min n2 n) v).run P w=.ok vs.toArray w)
 {w':World}(hst:match ad with|some a=>(storeCells a vs).run P w=.ok () w'|none=>w'=w):
 (Builtin.copy_ #[t,t'] ty #[.slice ad n cap,v]).run P w=.ok (goInt ((min n2 n:Nat):Int)) w':=by
 subst hv
 cases hq:P.info? e with
 |none=>simp_all
 |some i=>
  have hi:i.size=sz:=by simp_all
  cases ad with
  |none=>
   subst hst;simp[Builtin.copy_,run_underlying hu,Builtin.lenOf,sizeOf,typeInfo,hq,hi,hf]
  |some a=>
   simp[Builtin.copy_,run_underlying hu,Builtin.lenOf,sizeOf,typeInfo,hq,hi,hf,hst]
theorem RZ(hI:Inv M σ [] [] a.tmps w G){d:Nat}(hd:o.dst=some d)(hN:d<M.N){x y:Opd}{x' y':Operand}{t t' e sz:TypeId}(hx:dZ x'=some x)(hy:dZ y'=some y)(ho:o.op=.call { callee:=.builtin .copy,args:=#[x',y'],argTypes:=#[t,t'] })
 (hu:P.underlying t=some (.slice e))(hs:(P.info? e).map (·.size)=some sz)(hr:(ev1 d (.cpy sz x y)).run σ=some ((),σ')):pM P M σ' a o w:=by
 simp only[ev1]at hr;obtain⟨tx,σ1,h1,h2⟩:=dN hr;obtain⟨rfl,Z0⟩:=fJ hI.tmr hx h1;obtain⟨ty,σ2,h3,h4⟩:=dN h2;obtain⟨rfl,XI⟩:=fJ hI.tmr hy h3;obtain⟨c2,σ3,h5,h6⟩:=dN h4;obtain⟨rfl,ds⟩:=MC hI XI h5
 have YH:∀r w',(Builtin.copy_ #[t,t'] o.type #[a.eval x',a.eval y']).run P w=.ok r w'->(execOp a.eval o).run P w=.ok (.value r) w':=by
  intro r w' h;simp[execOp,ho,resolve,invoke,builtin,h]
 have ZZ:∀(p:ew)(c:List (List TV))(lo n:Nat)(vd hdv:Value)(ad:Option Addr)(cap:Nat),p.root≠1->G.hv w p=some hdv->eO (σ3.c p.root p.off) p.hops=some (.ow c)->a.eval x'=vd->vd=.slice ad n cap->lo+n<=c.length ->
  (∀b0 len ZX,hdv=.slice (some ⟨b0,0,none⟩) len ZX->True)->(0<n->∃b len ZX,hdv=.slice (some ⟨b,0,none⟩) len ZX/\len=c.length/\ad=some ⟨b,lo*sz,none⟩)->(F3 d p (σ3.c p.root p.off) (QR sz c c2 lo n)).run σ3=some ((),σ')->pM P M σ' a o w:=by
  intro p c lo n vd hdv ad cap Z7 ZG hg hvd hvs hln _ hbase hrun;unfold QR at hrun;split at hrun
  ·rename_i Zz;split at hrun
   case isFalse=>simp[F3,SP.run]at hrun
   rename_i YA;simp only[oBA,oDE,List.all_eq_true,beq_iff_eq]at YA;obtain⟨W9,We,WU,Xs⟩:=ds sz YA.1 λi h=>YA.2 _ (List.getElem_mem h);have hf:=Xs (min c2.length n) [] (Nat.min_le_left _ _) Zz;have hcp:=w9 (t':=t') (ty:=o.type) (ad:=ad) (n:=n) (cap:=cap) (w':=w) hu hs WU hf (by cases ad<;>rfl);simp only[F3]at hrun;refine jA hI hd hN (.v rfl) hrun (YH _ _ ?_);rw[hvd,hvs];exact hcp
  ·rename_i v vs Zz;split at hrun
   case isFalse=>simp[F3,SP.run]at hrun
   rename_i YA;simp only[oBA,oDE,List.all_eq_true,beq_iff_eq]at YA;obtain⟨⟨⟨⟨⟨k1,k2⟩,k3⟩,k4⟩,k5⟩,k6⟩:=YA;have XW:∀i (h:i<c2.length),c2[i].length=sz:=λi h=>k3 _ (List.getElem_mem h);obtain⟨W9,We,WU,Xs⟩:=ds sz k1 XW;have hf:=Xs (min c2.length n) (v::vs) (Nat.min_le_left _ _) Zz
   have YU:(v::vs).length=min c2.length n*sz:=by rw[(Il Zz).1,Gq XW (Nat.min_le_left _ _)]
   have X9:0<n:=by
    rcases Nat.eq_zero_or_pos n with h|h
    ·subst h;simp at YU
    ·exact h
   obtain⟨b,len,ZX,hhd,hlen,Zc⟩:=hbase X9;subst hlen;rw[hhd]at ZG;simp only[F3]at hrun;obtain⟨l,hl,hol,h7⟩:=eS hrun;have hmn:min c2.length n<=n:=Nat.min_le_right _ _
   obtain⟨⟨G1,hI1⟩,hcell⟩:=Qh Z7 k1 (v::vs) c (lo*sz) σ3 w G l (by simp) hI ZG hg rfl (λel Y3=>k2 el Y3) k6 (λt X4 YY=>by
    rw[YU]at YY;have hq1:lo<=t/sz:=(Nat.le_div_iff_mul_le k1).2 X4;have Yv:t/sz<lo+min c2.length n:=(Nat.div_lt_iff_lt_mul k1).2 (by rw[Nat.add_mul];exact YY);have X2:t%sz<sz:=Nat.mod_lt _ k1;have hic:t/sz<c.length:=Nat.lt_of_lt_of_le Yv k4
    have Zx:c[t/sz]∈(c.drop lo).take (min c2.length n):=by
     obtain⟨q,hq⟩:∃q,t/sz=lo+q:=⟨t/sz-lo,by rw[Nat.add_sub_cancel' hq1]⟩;simp only[hq];rw[hq]at Yv;refine List.mem_of_getElem? (i:=q) ?_;rw[List.getElem?_take,oIP (Nat.lt_of_add_lt_add_left Yv),List.getElem?_drop];exact oGE _
    have hlt:t%sz<c[t/sz].length:=by rw[k2 _ (List.getElem_mem hic)];exact X2
    have hisv:=k5 _ Zx _ (List.getElem_mem hlt);refine⟨c[t/sz],?_⟩
    cases hcv:c[t/sz][t%sz]with
    |v y=>exact⟨y,oGE hic,by rw[oGE hlt,hcv]⟩
    |_=>rw[hcv]at hisv;simp[isV]at hisv) hl hol
   have hst:=run_storeCells_cells (P:=P) b (lo*sz) (v::vs) 0 w (λj hj=>by simpa using(hcell j hj).1) (λj hj=>by simpa using(hcell j hj).2) (λu hu=>wU (k6 u hu));have hcp:=w9 (t':=t') (ty:=o.type) (ad:=ad) (n:=n) (cap:=cap) (w':=w.setCells b (lo*sz) (v::vs)) hu hs WU hf (by rw[Zc];simpa using hst);have hrn:=YH _ _ (by rw[hvd,hvs];exact hcp);simp only[wr,SP.run,oSJ,oPJ,true_and]at h7;have e9:σ'={ σ3.sub p l (.ow (rE sz c (lo*sz) (v::vs)))with tm:=gS (σ3.sub p l (.ow (rE sz c (lo*sz) (v::vs)))).tm d (.v (.int .i64 ((min c2.length n:Nat):Int))) }:=h7.symm;rw[e9];refine⟨_,_,_,G1,hrn,.inl rfl,?_⟩;rw[hd];exact hI1.wrT hN (.v rfl)
  ·simp[F3,SP.run]at hrun
 cases tx with
 |pk p vs=>
  simp only at h6;obtain⟨_,σ4,h7,h8⟩:=dN h6;have e1:σ4=σ3:=(eI h7).1;have e2:=(eI h7).2;subst e1;simp only[SP.run]at h8;generalize hz:a.eval x'=z at Z0
  cases Z0 with
  |pk V0 h0 hv h=>
   obtain⟨Z7,c,ZG,ZJ⟩:=h e2
   have Zw:eO (σ4.c p.root p.off) p.hops=some (.ow c):=by rw[eQ (by exact Z7)]at ZJ;exact ZJ
   rw[Zw]at h8;simp only at h8;obtain⟨fp,hown⟩:=zr hI ZG ZJ;obtain⟨ad,cap,V9,_⟩:=hown.hdr;refine ZZ p c 0 c.length z z ad cap Z7 ZG Zw hz V9 (by simp) (λ_ _ _ _=>trivial) (λhn=>?_) h8
   cases hown with
   |nil=>simp at hn
   | @ow _ _ b cap0 cur e' sz' u f hfp hb hsz hcap hz0 hmax hcur hcell hrec hnb hdis=>
    injection V9 with V9 _ _
    exact⟨b,_,_,rfl,rfl,by rw[<- V9];simp⟩
 |pw p vs sz' lo n=>
  simp only at h6;obtain⟨_,σ4,h7,h8⟩:=dN h6;have e1:σ4=σ3:=(eI h7).1;have e2:=(eI h7).2;subst e1;simp only[SP.run]at h8;generalize hz:a.eval x'=z at Z0
  cases Z0 with
  |pw V0 h0 hv h=>
   obtain⟨Z7,c,Yx,ZG,ZJ,hln,ad,cap,hxv,Xj,W2,hnil,XB,Zc⟩:=h e2
   have Zw:eO (σ4.c p.root p.off) p.hops=some (.ow c):=by rw[eQ (by exact Z7)]at ZJ;exact ZJ
   rw[Zw]at h8;simp only at h8;split at h8
   case isFalse=>simp[SP.run]at h8
   rename_i WC;subst WC;obtain⟨fp,hown⟩:=zr hI ZG ZJ;refine ZZ p c lo n z Yx ad cap Z7 ZG Zw hz hxv hln (λ_ _ _ _=>trivial) (λhn=>?_) h8;obtain⟨b,len,ZX,q1,q2⟩:=Zc hn;obtain⟨ad3,cap3,q3,_⟩:=hown.hdr;rw[q1]at q3
   injection q3 with _ q3 _
   exact⟨b,len,ZX,q1,q3,q2⟩
 |_=>simp[SP.run]at h6
end
def Er(P:Program)(t:TypeId):Option Nat:=(P.info? t).map (·.size)
def Q9(P:Program)(t:TypeId):Option (List Value):=(P.info? t).bind (·.zero.map (·.cells.toList))
def KO(P:Program)(t:TypeId):Option (Option Nat):=
 match P.underlying t with
 |some (.struct _)=>(Er P t).map some
 |some (.array _ _)=>(Er P t).map some
 |some _=>some none
 |none=>none
def GN:Option Operand->Option (Option Opd)
 |none=>some none
 |some x=>(dZ x).map some
def uh{α β:Type}(f:α->Option β):List α->Option (List β)
 | []=>some []
 |x::r=>match f x,uh f r with|some y,some l=>some (y::l)|_,_=>none
def zL(b:Bool):Option Unit:=if b then some ()else none
def Ur(mv n:Nat)(x:Opd):TOp:=if mv=3 then .boxi n x else .box n (mv==1) x
def iW(P:Program)(mv:Nat):Op->Option TOp
 |.move x=>match x with
  |.const (.agg cs)=>some (.asn true (.c (.agg cs)))
  |x=>(dZ x).map .mov
 |.assign x=>if mv=2 then(dZ x).map .mov else(dZ x).map (.asn (mv==1))
 |.pick c a b=>do some (.pick (<- dZ c) (<- dZ a) (<- dZ b))
 |.alloc e=>(Q9 P e).map .alloc
 |.box e x=>do some (Ur mv (<- Er P e) (<- dZ x))
 |.load t a=>do some (.load (<- KO P t) (<- dZ a))
 |.store t a x=>do
  let n <- Er P t
  zL (decide (0<n))
  some (.store n (mv==1) (<- dZ a) (<- dZ x))
 |.nilCheck x=>(dZ x).map .nilc
 |.binOp op t x y _=>
  match P.underlying t with
  |some .bool=>match op with
   |.eql=>do some (.bnb false (<- dZ x) (<- dZ y))
   |.neq=>do some (.bnb true (<- dZ x) (<- dZ y))
   |_=>none
  |some (.int _)=>do some (.bin op (<- dZ x) (<- dZ y))
  |some .string=>do some (.bin op (<- dZ x) (<- dZ y))
  |some (.struct _)=>
   if P.eqGuardType P.depth t then none
   else match vR P 50 t with
    |some ks=>match op with
     |.eql=>do some (.eqa ks false (<- dZ x) (<- dZ y))
     |.neq=>do some (.eqa ks true (<- dZ x) (<- dZ y))
     |_=>none
    |none=>none
  |_=>none
 |.unOp op _ x=>(dZ x).map (.un op)
 |.convert s d x=>
  match P.underlying s,P.underlying d with
  |some (.int _),some (.int k)=>(dZ x).map (.conv k)
  |some (.slice e),some .string=>match P.underlying e with
   |some (.int .u8)=>(dZ x).map .b2s
   |_=>none
  |_,_=>none
 |.fieldAddr s x f=>
  match P.underlying s with
  |some (.struct fs)=>match fs[f]? with
   |some fd=>match Er P fd.type with
    |some (_+1)=>(dZ x).map (.fld fd.offset)
    |_=>none
   |none=>none
  |_=>none
 |.indexAddr t x i=>
  match P.underlying t with
  |some (.slice e)=>do some (.idx (<- Er P e) (<- dZ x) (<- dZ i))
  |some (.array n e)=>do some (.idxa n (<- Er P e) (<- dZ x) (<- dZ i))
  |_=>none
 |.index t x i=>
  match P.underlying t with
  |some .string=>do some (.ixs (<- dZ x) (<- dZ i))
  |_=>none
 |.extract x i=>(dZ x).map λx=>.ext x i
 |.makeSlice t l c=>
  match P.underlying t with
  |some (.slice e)=>match P.info? e with
   |some i=>match i.zero with
    |some z=>do
     zL (decide (i.bytes<=16777216*i.size)&&decide (0<i.size))
     some (.mks i.size z.cells.toList (<- dZ l) (<- dZ c))
    |none=>none
   |none=>none
  |_=>none
 |.slice t x lo hi mx=>
  match mx with
  |some m=>none
  |none=>match P.underlying t with
   |some (.slice e)=>do some (.slc (<- Er P e) (<- dZ x) (<- GN lo) (<- GN hi))
   |_=>none
 |.makeFunc fn first caps=>
  match fn with
  |.func f=>do
   zL (first.size==0)
   some (.mkf f (<- uh dZ caps.toList))
  |_=>none
 |.buildSlice t len parts=>
  match P.underlying t with
  |some (.slice e)=>match P.info? e with
   |some i=>do
    zL ((i.zero.isSome||len*i.size==0)&&decide (len*i.size<=16777216)&&decide (len<=16777216)&&parts.toList.map (·.1)==List.range len)
    some (.bsl i.size (mv==1) len (<- uh (λp=>dZ p.2) parts.toList))
   |none=>none
  |_=>none
 |.build t parts=>
  match P.underlying t,Q9 P t with
  |some (.struct fs),some z=>do
   zL (fs.toList.all λf=>(Er P f.type).isSome)
   let ps <- uh (λp=>match fs[p.1]? with
    |some f=>match Er P f.type,dZ p.2 with
     |some n,some x=>if f.offset+n<=z.length then some (f.offset,n,x)else none
     |_,_=>none
    |none=>none) parts.toList
   some (.bld z (mv==1) ps)
  |some (.array _ e),some z=>match Er P e with
   |some sz=>do
    let ps <- uh (λp=>match dZ p.2 with
     |some x=>if p.1*sz+sz<=z.length then some (p.1*sz,sz,x)else none
     |none=>none) parts.toList
    some (.bld z (mv==1) ps)
   |none=>none
  |_,_=>none
 |.call c=>
  match c with
  | { callee:=.builtin .append,args,argTypes }=>match args.toList,argTypes.toList with
   | [s,x],[t,t']=>if t=t' then
    match P.underlying t with
    |some (.slice e)=>match P.info? e with
     |some i=>match i.zero with
      |some z=>do
       zL (z.cells.size==i.size&&decide (0<i.size))
       some (.app i.size i.bytes (mv==1) (z.cells.all jJ) (<- dZ s) (<- dZ x))
      |none=>none
     |none=>none
    |_=>none
    else none
   |_,_=>none
  | { callee:=.builtin .copy,args,argTypes }=>match args.toList,argTypes.toList with
   | [x,y],[t,_]=>match P.underlying t with
    |some (.slice e)=>do some (.cpy (<- Er P e) (<- dZ x) (<- dZ y))
    |_=>none
   |_,_=>none
  | { callee:=.builtin .min,args,argTypes:=_ }=>(uh dZ args.toList).map (.mm false)
  | { callee:=.builtin .max,args,argTypes:=_ }=>(uh dZ args.toList).map (.mm true)
  | { callee:=.builtin .len,args,argTypes }=>match args.toList,argTypes.toList with
   | [x],[t]=>match P.underlying t with
    |some (.slice _)=>(dZ x).map .len
    |some .string=>(dZ x).map .lens
    |_=>none
   |_,_=>none
  |_=>none
 |_=>none
theorem GU{P:Program}{t:TypeId}{n:Option Nat}(h:KO P t=some n):Pn P t n:=by
 unfold KO at h;split at h
 ·rename_i f hu
  cases hs:Er P t with
  |none=>simp_all
  |some k=>simp[hs]at h;subst h;exact⟨⟨_,hu,.inl ⟨_,rfl⟩⟩,hs⟩
 ·rename_i n e hu
  cases hs:Er P t with
  |none=>simp_all
  |some k=>simp[hs]at h;subst h;exact⟨⟨_,hu,.inr ⟨_,_,rfl⟩⟩,hs⟩
 ·rename_i d YB hd2 hu
  injection h with h
  subst h;exact⟨d,hu,λf e=>YB f (by rw[<- e]),λn e' e=>hd2 n e' (by rw[<- e])⟩
 ·simp at h
theorem GM{x:Option Operand}{y:Option Opd}(h:GN x=some y):x.map dZ=y.map some:=by
 cases x with
 |none=>simp[GN]at h;subst h;rfl
 |some x=>
  simp[GN]at h
  cases hc:dZ x with
  |none=>simp_all
  |some z=>simp[hc]at h;subst h;simp[hc]
theorem rF{α β:Type}{f:α->Option β}:∀{l:List α}{r:List β},uh f l=some r->l.map f=r.map some:=by
 intro l
 induction l with
 |nil=>intro r h;simp[uh]at h;subst h;rfl
 |cons x l ih=>
  intro r h;simp[uh]at h
  cases hx:f x with
  |none=>simp_all
  |some y=>
   cases hl:uh f l with
   |none=>simp_all
   |some q=>simp[hx,hl]at h;subst h;simp[hx,ih hl]
theorem rM{b:Bool}{u:Unit}(h:zL b=some u):b=true:=by
 unfold zL at h
 simp_all
theorem d9{α β:Type}{x:Option α}{f:α->Option β}{y:β}(h:(x >>= f)=some y):∃a,x=some a/\f a=some y:=by
 cases x with
 |none=>simp_all
 |some a=>simp_all
theorem jW{α β:Type}{x:Option α}{f:α->β}{y:β}(h:x.map f=some y):∃a,x=some a/\f a=y:=by
 simp_all
section
variable {P:Program} {M:Fm} {σ σ':St} {ts:Array Value} {w:World} {G:Gh} {a:Act} {o:Oper}
theorem RP(hI:Inv M σ [] [] a.tmps w G){d:Nat}(hd:o.dst=some d)(hN:d<M.N)(YE:M.pr (2*d+2)=none){mv:Nat}{t:TOp}(hc:iW P mv o.op=some t)(hr:(ev1 d t).run σ=some ((),σ'))(hns:¬ ∃ty x y,o.op=.store ty x y):pM P M σ' a o w:=by
 cases ho:o.op with
 |move x=>
  rw[ho]at hc;simp only[iW]at hc;split at hc
  ·injection hc with hc
   subst hc;exact Nr hI hd hN rfl (.inr ho) hr
  ·obtain⟨y,hy,rfl⟩:=jW hc;exact Nf hI hd hN hy (.inl ho) hr
 |assign x=>
  rw[ho]at hc;simp only[iW]at hc;split at hc
  ·obtain⟨y,hy,rfl⟩:=jW hc;exact Nf hI hd hN hy (.inr ho) hr
  ·obtain⟨y,hy,rfl⟩:=jW hc;exact Nr hI hd hN hy (.inl ho) hr
 |pick c x y=>
  rw[ho]at hc;simp only[iW]at hc;obtain⟨c1,h1,hc⟩:=d9 hc;obtain⟨x1,h2,hc⟩:=d9 hc;obtain⟨y1,h3,hc⟩:=d9 hc
  injection hc with hc
  subst hc;exact PR hI hd hN h1 h2 h3 ho hr
 |alloc e=>
  rw[ho]at hc;obtain⟨z,hz,rfl⟩:=jW hc;exact Ns hI hd hN YE ho hz hr
 |box e x=>
  rw[ho]at hc;simp only[iW]at hc;obtain⟨n,h1,hc⟩:=d9 hc;obtain⟨y,h2,hc⟩:=d9 hc
  injection hc with hc
  subst hc;unfold Ur at hr;split at hr
  ·exact PX hI hd hN h2 ho hr
  ·exact R1 hI hd hN YE h2 ho hr
 |load t' x=>
  rw[ho]at hc;simp only[iW]at hc;obtain⟨n,h1,hc⟩:=d9 hc;obtain⟨y,h2,hc⟩:=d9 hc
  injection hc with hc
  subst hc;exact PT hI hd hN h2 ho (GU h1) hr
 |nilCheck x=>
  rw[ho]at hc;obtain⟨y,hy,rfl⟩:=jW hc;exact PS hI hd hN hy ho hr
 |binOp op ty x y yt=>
  rw[ho]at hc;simp only[iW]at hc
  have key:(do some (TOp.bin op (<- dZ x) (<- dZ y)):Option TOp)=some t->pM P M σ' a o w:=by
   intro hc;obtain⟨x1,h2,hc⟩:=d9 hc;obtain⟨y1,h3,hc⟩:=d9 hc
   injection hc with hc
   subst hc;exact R3 hI hd hN h2 h3 ho hr
  split at hc
  ·rename_i hu;split at hc
   ·obtain⟨x1,h2,hc⟩:=d9 hc;obtain⟨y1,h3,hc⟩:=d9 hc
    injection hc with hc
    subst hc;exact Nq hI hd hN h2 h3 ho (.inl ⟨rfl,rfl⟩) hu hr
   ·obtain⟨x1,h2,hc⟩:=d9 hc;obtain⟨y1,h3,hc⟩:=d9 hc
    injection hc with hc
    subst hc;exact Nq hI hd hN h2 h3 ho (.inr ⟨rfl,rfl⟩) hu hr
   ·simp at hc
  ·exact key hc
  ·exact key hc
  ·rename_i fs hu;split at hc
   case isTrue=>simp at hc
   rename_i V5;split at hc
   case h_2=>simp at hc
   rename_i ks hk;split at hc
   ·obtain⟨x1,h2,hc⟩:=d9 hc;obtain⟨y1,h3,hc⟩:=d9 hc
    injection hc with hc
    subst hc;exact Nm hI hd hN h2 h3 ho (.inl ⟨rfl,rfl⟩) hu hk (by simpa using V5) hr
   ·obtain⟨x1,h2,hc⟩:=d9 hc;obtain⟨y1,h3,hc⟩:=d9 hc
    injection hc with hc
    subst hc;exact Nm hI hd hN h2 h3 ho (.inr ⟨rfl,rfl⟩) hu hk (by simpa using V5) hr
   ·simp at hc
  ·simp at hc
 |unOp op ty x=>
  rw[ho]at hc;obtain⟨y,hy,rfl⟩:=jW hc;exact Tv hI hd hN hy ho hr
 |convert s dd x=>
  rw[ho]at hc;simp only[iW]at hc;split at hc
  ·rename_i ks k hs p';obtain⟨y,hy,rfl⟩:=jW hc;exact PW hI hd hN hy ho hs p' hr
  ·rename_i e hs p';split at hc
   ·rename_i he;obtain⟨y,hy,rfl⟩:=jW hc;exact R4 hI hd hN hy ho hs p' he hr
   ·simp at hc
  ·simp at hc
 |fieldAddr s x f=>
  rw[ho]at hc;simp only[iW]at hc;split at hc
  ·rename_i fs hu;split at hc
   ·rename_i fd hf;split at hc
    ·rename_i n hs;obtain⟨y,hy,rfl⟩:=jW hc;exact RX hI hd hN hy ho hu hf ⟨_,hs⟩ hr
    ·simp at hc
   ·simp at hc
  ·simp at hc
 |indexAddr ty x i=>
  rw[ho]at hc;simp only[iW]at hc;split at hc
  ·rename_i e hu;obtain⟨n,h1,hc⟩:=d9 hc;obtain⟨y,h2,hc⟩:=d9 hc;obtain⟨z,h3,hc⟩:=d9 hc
   injection hc with hc
   subst hc;exact RV hI hd hN h2 h3 ho hu h1 hr
  ·rename_i n e hu;obtain⟨sz,h1,hc⟩:=d9 hc;obtain⟨y,h2,hc⟩:=d9 hc;obtain⟨z,h3,hc⟩:=d9 hc
   injection hc with hc
   subst hc;exact PV hI hd hN h2 h3 ho hu h1 hr
  ·simp at hc
 |index ty x i=>
  rw[ho]at hc;simp only[iW]at hc;split at hc
  ·rename_i hu;obtain⟨y,h2,hc⟩:=d9 hc;obtain⟨z,h3,hc⟩:=d9 hc
   injection hc with hc
   subst hc;exact RU hI hd hN h2 h3 ho hu hr
  ·simp at hc
 |extract x i=>
  rw[ho]at hc;obtain⟨y,hy,rfl⟩:=jW hc;exact RY hI hd hN hy ho hr
 |makeSlice ty l c=>
  rw[ho]at hc;simp only[iW]at hc;split at hc
  ·rename_i e hu;split at hc
   ·rename_i i hi;split at hc
    ·rename_i z hz;obtain⟨u,h1,hc⟩:=d9 hc;obtain⟨y,h2,hc⟩:=d9 hc;obtain⟨y2,h3,hc⟩:=d9 hc
     injection hc with hc
     subst hc;have hg:=rM h1;simp only[oBA,oDE]at hg;exact RR hI hd hN h2 h3 ho hu hi hz rfl rfl hg.1 hg.2 hr
    ·simp at hc
   ·simp at hc
  ·simp at hc
 |slice ty x lo hi mx=>
  rw[ho]at hc;simp only[iW]at hc;split at hc
  ·simp at hc
  ·split at hc
   ·rename_i e hu;obtain⟨n,h1,hc⟩:=d9 hc;obtain⟨y,h2,hc⟩:=d9 hc;obtain⟨l1,h3,hc⟩:=d9 hc;obtain⟨h4,h5,hc⟩:=d9 hc
    injection hc with hc
    subst hc;exact RN hI hd hN h2 (GM h3) (GM h5) ho hu h1 hr
   ·simp at hc
 |makeFunc fn first caps=>
  rw[ho]at hc;simp only[iW]at hc;split at hc
  ·rename_i f;obtain⟨u,h1,hc⟩:=d9 hc;obtain⟨l,h2,hc⟩:=d9 hc
   injection hc with hc
   subst hc;have hg:=rM h1
   have hf:first=#[]:=by simpa using hg
   subst hf;exact RS hI hd hN (rF h2) ho hr
  ·simp at hc
 |buildSlice ty len parts=>
  rw[ho]at hc;simp only[iW]at hc;split at hc
  ·rename_i e hu;split at hc
   ·rename_i i hi;obtain⟨u,h1,hc⟩:=d9 hc;obtain⟨l,h2,hc⟩:=d9 hc
    injection hc with hc
    subst hc;have hg:=rM h1;simp only[oBA,Bool.or_eq_true,oDE,beq_iff_eq]at hg;obtain⟨⟨⟨g1,g2⟩,g3⟩,g4⟩:=hg;refine R0 hI hd hN ho hu hi rfl (λh0=>?_) g4 (rF h2) g2 g3 hr;rcases g1 with g1|g1
    ·exact Option.isSome_iff_exists.1 g1
    ·omega
   ·simp at hc
  ·simp at hc
 |build ty parts=>
  rw[ho]at hc;simp only[iW]at hc;split at hc
  ·rename_i fs z hu hz;obtain⟨u,h1,hc⟩:=d9 hc;obtain⟨ps,h2,hc⟩:=d9 hc
   injection hc with hc
   subst hc;have hg:=rM h1;simp only[List.all_eq_true]at hg;have hm:=rF h2;refine R2 hI hd hN (szf:=λf=>(Er P f.type).getD 0) ho hu hz (λf hf=>?_) ?_ (λk h h'=>?_) hr
   ·have:=hg f hf;obtain⟨n,hn⟩:=Option.isSome_iff_exists.1 this;rw[hn];exact hn
   ·have:=congrArg List.length hm;simpa using this
   ·have hk:(parts.toList.map (λp=>match fs[p.1]? with
     |some f=>match Er P f.type,dZ p.2 with
      |some n,some x=>if f.offset+n<=z.length then some (f.offset,n,x)else none
      |_,_=>none
     |none=>none))[k]?=(ps.map some)[k]?:=by rw[hm]
    simp only[List.getElem?_map,oGE h',oMS,Array.getElem?_toList,Array.getElem?_eq_getElem h]at hk
    cases hf:fs[parts[k].1]? with
    |none=>simp[hf]at hk
    |some f=>
     cases hs:Er P f.type with
     |none=>simp[hf,hs]at hk
     |some n=>
      cases hx:dZ parts[k].2 with
      |none=>simp[hf,hs,hx]at hk
      |some x=>
       simp only[hf,hs,hx,oSJ]at hk;split at hk
       ·rename_i X8
        injection hk with hk
        rw[<- hk];exact⟨rfl,by simp[hs],X8⟩
       ·simp at hk
  ·rename_i n e z hu hz;split at hc
   ·rename_i sz hsz;obtain⟨ps,h2,hc⟩:=d9 hc
    injection hc with hc
    subst hc;have hm:=rF h2;refine PY hI hd hN ho hu hz hsz ?_ (λk h h'=>?_) hr
    ·have:=congrArg List.length hm;simpa using this
    ·have hk:(parts.toList.map (λp=>match dZ p.2 with
      |some x=>if p.1*sz+sz<=z.length then some (p.1*sz,sz,x)else none
      |none=>none))[k]?=(ps.map some)[k]?:=by rw[hm]
     simp only[List.getElem?_map,oGE h',oMS,Array.getElem?_toList,Array.getElem?_eq_getElem h]at hk
     cases hx:dZ parts[k].2 with
     |none=>simp[hx]at hk
     |some x=>
      simp only[hx,oSJ]at hk;split at hk
      ·rename_i X8
       injection hk with hk
       rw[<- hk];exact⟨rfl,rfl,rfl,X8⟩
      ·simp at hk
   ·simp at hc
  ·simp at hc
 |call c=>
  rw[ho]at hc;simp only[iW]at hc;split at hc
  ·rename_i args argTypes;split at hc
   ·rename_i s x t1 t2 ea et
    have ea:args=#[s,x]:=by rw[<- Array.toArray_toList (xs:=args),ea]
    have et:argTypes=#[t1,t2]:=by rw[<- Array.toArray_toList (xs:=argTypes),et]
    subst ea;subst et;split at hc
    ·rename_i hteq;subst hteq;split at hc
     ·rename_i e hu;split at hc
      ·rename_i i hi;split at hc
       ·rename_i z hz;obtain⟨u,h1,hc⟩:=d9 hc;obtain⟨y,h2,hc⟩:=d9 hc;obtain⟨y2,h3,hc⟩:=d9 hc
        injection hc with hc
        subst hc;have hg:=rM h1;simp only[oBA,oDE,beq_iff_eq]at hg;exact R5 hI hd hN h2 h3 ho hu hi hz hg.1 rfl rfl hg.2 hr
       ·simp at hc
      ·simp at hc
     ·simp at hc
    ·simp at hc
   ·simp at hc
  ·rename_i args argTypes;split at hc
   ·rename_i x y t1 t2 ea et
    have ea:args=#[x,y]:=by rw[<- Array.toArray_toList (xs:=args),ea]
    have et:argTypes=#[t1,t2]:=by rw[<- Array.toArray_toList (xs:=argTypes),et]
    subst ea;subst et;split at hc
    ·rename_i e hu;obtain⟨sz,h1,hc⟩:=d9 hc;obtain⟨y1,h2,hc⟩:=d9 hc;obtain⟨y2,h3,hc⟩:=d9 hc
     injection hc with hc
     subst hc;exact RZ hI hd hN h2 h3 ho hu h1 hr
    ·simp at hc
   ·simp at hc
  ·rename_i args argTypes;obtain⟨l,h1,rfl⟩:=jW hc;exact Rf (mx:=false) hI hd hN (rF h1) ho hr
  ·rename_i args argTypes;obtain⟨l,h1,rfl⟩:=jW hc;exact Rf (mx:=true) hI hd hN (rF h1) ho hr
  ·rename_i args argTypes;split at hc
   ·rename_i x t1 ea et
    have ea:args=#[x]:=by rw[<- Array.toArray_toList (xs:=args),ea]
    have et:argTypes=#[t1]:=by rw[<- Array.toArray_toList (xs:=argTypes),et]
    subst ea;subst et;split at hc
    ·rename_i e hu;obtain⟨y,hy,rfl⟩:=jW hc;exact RT hI hd hN hy ho hu hr
    ·rename_i hu;obtain⟨y,hy,rfl⟩:=jW hc;exact PU hI hd hN hy ho hu hr
    ·simp at hc
   ·simp at hc
  ·simp at hc
 |store ty x y=>
  rw[ho]at hc;simp only[iW]at hc;obtain⟨n,h1,hc⟩:=d9 hc;obtain⟨u,h2,hc⟩:=d9 hc;obtain⟨x1,h3,hc⟩:=d9 hc;obtain⟨y1,h4,hc⟩:=d9 hc
  injection hc with hc
  subst hc;exact absurd hns (by simp[ho])
 |_=>rw[ho]at hc;simp[iW]at hc
end
inductive Loc where
 |t (i:Nat)
 |c (r o:Nat)
 |h (r o:Nat)
 |n (r:Nat)
 |v (q:Key)
 deriving DecidableEq
def Loc.hit:Loc->Loc->Bool
 |.t i,.t j=>i==j
 |.c r o,.c r' o'=>r==r'&&o==o'
 |.n r,.n r'=>r==r'
 |.n r,.c r' _=>r==r'
 |.h r o,.h r' o'=>r==r'&&o==o'
 |.n r,.h r' _=>r==r'
 |.v q,.v q'=>q==q'
 |_,_=>false
abbrev vy:=List Loc×List Loc
def hdW(r o:Nat)(t t':TV):List Loc:=if t'.hd=t.hd then[]else[.h r o]
def SP.foot{α:Type}:SP α->St->vy
 |.ret _,_=>([],[])
 |.fail,_=>([],[])
 |.rdT i k,σ=>(.t i::((k (σ.t i)).foot σ).1,((k (σ.t i)).foot σ).2)
 |.rdC r o k,σ=>(.c r o::((k (σ.c r o)).foot σ).1,((k (σ.c r o)).foot σ).2)
 |.rdH r o k,σ=>(.h r o::((k (σ.c r o).hd).foot σ).1,((k (σ.c r o).hd).foot σ).2)
 |.rdV q k,σ=>(.v q::((k (σ.v q)).foot σ).1,((k (σ.v q)).foot σ).2)
 |.wrT i t k,σ=>((k.foot { σ with tm:=gS σ.tm i t }).1,.t i::(k.foot { σ with tm:=gS σ.tm i t }).2)
 |.wrC r o t k,σ=>
  match eV σ.ce r with
  |some l=>if o<l.length then(.n r :: .h r o::(k.foot { σ with ce:=gS σ.ce r (l.set o t) }).1,.c r o::(hdW r o (σ.c r o) t++(k.foot { σ with ce:=gS σ.ce r (l.set o t) }).2))else([],[])
  |none=>([],[])
 |.new r l k,σ=>(.v (r,0,0)::(k.foot { σ with ce:=gS σ.ce r l,vr:=tP σ.vr (r,0,0) }).1,.n r :: .v (r,0,0)::(k.foot { σ with ce:=gS σ.ce r l,vr:=tP σ.vr (r,0,0) }).2)
 |.bump q k,σ=>(.v q::(k.foot { σ with vr:=tP σ.vr q }).1,.v q::(k.foot { σ with vr:=tP σ.vr q }).2)
def kD(σ σ':St):Loc->Prop
 |.t i=>eV σ.tm i=eV σ'.tm i
 |.c r o=>σ.c r o=σ'.c r o
 |.h r o=>(σ.c r o).hd=(σ'.c r o).hd
 |.n r=>(eV σ.ce r).map List.length=(eV σ'.ce r).map List.length
 |.v q=>σ.v q=σ'.v q
def Td(σ σ':St):Prop:=∀x,kD σ σ' x
theorem kD.refl(σ:St)(x:Loc):kD σ σ x:=by cases x<;>rfl
theorem kD.symm{σ σ':St}{x:Loc}(h:kD σ σ' x):kD σ' σ x:=by cases x<;>exact Eq.symm h
theorem kD.trans{σ σ' σ'':St}{x:Loc}(h:kD σ σ' x)(h':kD σ' σ'' x):kD σ σ'' x:=by cases x<;>exact Eq.trans h h'
theorem Pv{σ:St}{r o:Nat}{t:TV}{l:List TV}(h:eV σ.ce r=some l)(ho:o<l.length)(r' o':Nat):St.c { σ with ce:=gS σ.ce r (l.set o t) } r' o'=if r'=r/\o'=o then t else σ.c r' o':=by
 have:=congrFun (congrFun (DI (t:=t) h ho) r') o';exact this
theorem UB{σ:St}{r:Nat}{l l':List TV}(h:eV σ.ce r=some l)(hl:l'.length=l.length)(r':Nat):(eV (gS σ.ce r l') r').map List.length=(eV σ.ce r').map List.length:=by
 rw[ft]
 grind
theorem MK{σ:St}{r:Nat}{l:List TV}{vr:List (Key×Nat)}(r' o':Nat):St.c { σ with ce:=gS σ.ce r l,vr:=vr } r' o'=if r'=r then l.getD o' .dead else σ.c r' o':=by
 unfold St.c;simp[ft];by_cases e:r=r'
 ·simp_all
 ·rw[oIN e,oIN (Ne.symm e)]
theorem lH{α:Type}{s:SP α}:∀{σ:St}{a:α}{τ:St},s.run σ=some (a,τ)->∀x,(∀w∈(s.foot σ).2,w.hit x=false)->kD σ τ x:=by
 induction s with
 |ret a=>intro σ b τ h x _;simp only[SP.run,oSJ,oPJ]at h;rw[h.2];exact kD.refl _ _
 |fail=>intro σ b τ h;simp[SP.run]at h
 |rdT i k ih=>intro σ b τ h x hx;exact ih _ h x hx
 |rdC r o k ih=>intro σ b τ h x hx;exact ih _ h x hx
 |rdH r o k ih=>intro σ b τ h x hx;exact ih _ h x hx
 |rdV q k ih=>intro σ b τ h x hx;exact ih _ h x hx
 |wrT i t k ih=>
  intro σ b τ h x hx;refine kD.trans ?_ (ih h x λw hw=>hx w (by simp[SP.foot,hw]));have h1:=hx (.t i) (by simp[SP.foot])
  cases x with
  |t j=>
   simp only[Loc.hit,beq_eq_false_iff_ne,ne_eq]at h1;simp[kD,ft,h1]
  |_=>exact rfl
 |wrC r o t k ih=>
  intro σ b τ h x hx;obtain⟨l,hl,ho,h2⟩:=eS h;simp only[SP.foot,hl,ho,if_true]at hx;refine kD.trans ?_ (ih h2 x λw hw=>hx w (by simp[hw]));have h1:=hx (.c r o) (by simp)
  cases x with
  |c r' o'=>
   simp only[Loc.hit,Bool.and_eq_false_imp,beq_iff_eq,beq_eq_false_iff_ne,ne_eq]at h1;show σ.c r' o'=_;rw[Pv hl ho,oIN];omega
  |h r' o'=>
   show(σ.c r' o').hd=TV.hd (St.c _ r' o');rw[Pv hl ho];split
   ·rename_i e;obtain⟨e1,e2⟩:=e;subst e1;subst e2;by_cases hh:t.hd=(σ.c r' o').hd
    ·exact hh.symm
    ·have:=hx (.h r' o') (by simp[hdW,hh]);simp[Loc.hit]at this
   ·rfl
  |n r'=>exact(UB hl (by simp) r').symm
  |_=>exact rfl
 |new r l k ih=>
  intro σ b τ h x hx;refine kD.trans ?_ (ih h x λw hw=>hx w (by simp[SP.foot,hw]));have h1:=hx (.n r) (by simp[SP.foot]);have h2:=hx (.v (r,0,0)) (by simp[SP.foot])
  cases x with
  |t j=>exact rfl
  |c r' o'=>
   simp only[Loc.hit,beq_eq_false_iff_ne,ne_eq]at h1;show σ.c r' o'=_;rw[MK,oIN (Ne.symm h1)]
  |h r' o'=>
   simp only[Loc.hit,beq_eq_false_iff_ne,ne_eq]at h1;show(σ.c r' o').hd=TV.hd (St.c _ r' o');rw[MK,oIN (Ne.symm h1)]
  |n r'=>
   simp only[Loc.hit,beq_eq_false_iff_ne,ne_eq]at h1;simp[kD,ft,h1]
  |v q=>
   simp only[Loc.hit,beq_eq_false_iff_ne,ne_eq]at h2;show wv σ.vr q=wv (tP σ.vr (r,0,0)) q;rw[iC,oIN h2];rfl
 |bump q k ih=>
  intro σ b τ h x hx;refine kD.trans ?_ (ih h x λw hw=>hx w (by simp[SP.foot,hw]));have h2:=hx (.v q) (by simp[SP.foot])
  cases x with
  |v q'=>
   simp only[Loc.hit,beq_eq_false_iff_ne,ne_eq]at h2;show wv σ.vr q'=wv (tP σ.vr q) q';rw[iC,oIN h2];rfl
  |_=>exact rfl
theorem o9{α:Type}{s:SP α}:∀{σ σ':St}{a:α}{τ:St},s.run σ=some (a,τ)->(∀x∈(s.foot σ).1,kD σ σ' x)->
 s.foot σ'=s.foot σ/\∃ τ',s.run σ'=some (a,τ')/\∀x,(kD σ σ' x\/∃w∈(s.foot σ).2,w.hit x=true)->kD τ τ' x:=by
 induction s with
 |ret a=>
  intro σ σ' b τ h hr;obtain⟨rfl,rfl⟩:=h;exact⟨rfl,σ',rfl,λx hx=>hx.elim id λ⟨w,hw,_⟩=>by simp[SP.foot]at hw⟩
 |fail=>intro σ σ' b τ h;simp[SP.run]at h
 |rdT i k ih=>
  intro σ σ' b τ h hr
  have h1:σ.t i=σ'.t i:=by
   have:eV σ.tm i=eV σ'.tm i:=hr (.t i) (by simp[SP.foot]);simp[St.t,this]
  obtain⟨e,τ',h2,h3⟩:=ih _ h λx hx=>hr x (by simp[SP.foot,hx]);refine⟨by simp only[SP.foot];rw[<- h1,e],τ',by simp only[SP.run];rw[<- h1];exact h2,h3⟩
 |rdC r o k ih=>
  intro σ σ' b τ h hr;have h1:σ.c r o=σ'.c r o:=hr (.c r o) (by simp[SP.foot]);obtain⟨e,τ',h2,h3⟩:=ih _ h λx hx=>hr x (by simp[SP.foot,hx]);refine⟨by simp only[SP.foot];rw[<- h1,e],τ',by simp only[SP.run];rw[<- h1];exact h2,h3⟩
 |rdH r o k ih=>
  intro σ σ' b τ h hr;have h1:(σ.c r o).hd=(σ'.c r o).hd:=hr (.h r o) (by simp[SP.foot]);obtain⟨e,τ',h2,h3⟩:=ih _ h λx hx=>hr x (by simp[SP.foot,hx]);refine⟨by simp only[SP.foot];rw[<- h1,e],τ',by simp only[SP.run];rw[<- h1];exact h2,h3⟩
 |rdV q k ih=>
  intro σ σ' b τ h hr;have h1:σ.v q=σ'.v q:=hr (.v q) (by simp[SP.foot]);obtain⟨e,τ',h2,h3⟩:=ih _ h λx hx=>hr x (by simp[SP.foot,hx]);refine⟨by simp only[SP.foot];rw[<- h1,e],τ',by simp only[SP.run];rw[<- h1];exact h2,h3⟩
 |wrT i t k ih=>
  intro σ σ' b τ h hr
  have hal:∀x,(kD σ σ' x\/x=.t i)->kD { σ with tm:=gS σ.tm i t } { σ' with tm:=gS σ'.tm i t } x:=by
   rintro x (hx|rfl)
   ·cases x with
    |t j=>
     show eV (gS σ.tm i t) j=eV (gS σ'.tm i t) j;rw[ft,ft];split
     ·rfl
     ·exact hx
    |_=>exact hx
   ·show eV (gS σ.tm i t) i=eV (gS σ'.tm i t) i;rw[ft,ft];simp
  obtain⟨e,τ',h2,h3⟩:=ih (σ':={ σ' with tm:=gS σ'.tm i t }) h λx hx=>hal x (.inl (hr x (by simp[SP.foot,hx])));refine⟨by simp only[SP.foot];rw[e],τ',h2,λx hx=>h3 x ?_⟩;rcases hx with hx|⟨w,hw,hh⟩
  ·exact .inl (hal x (.inl hx))
  ·simp only[SP.foot,List.mem_cons]at hw;rcases hw with rfl|hw
   ·left;refine hal x (.inr ?_);cases x<;>simp[Loc.hit]at hh;rw[hh]
   ·exact .inr ⟨w,hw,hh⟩
 |wrC r o t k ih=>
  intro σ σ' b τ h hr;obtain⟨l,hl,ho,h0⟩:=eS h;simp only[SP.foot,hl,ho,if_true]at hr⊢;have hn:(eV σ.ce r).map List.length=(eV σ'.ce r).map List.length:=hr (.n r) (by simp)
  obtain⟨l',Zi,Ws⟩:∃l',eV σ'.ce r=some l'/\l'.length=l.length:=by
   rw[hl]at hn
   cases ha:eV σ'.ce r with
   |none=>rw[ha]at hn;simp at hn
   |some l'=>rw[ha]at hn;exact⟨l',rfl,by simpa using hn.symm⟩
  have Zl:o<l'.length:=by omega
  have hh:(σ.c r o).hd=(σ'.c r o).hd:=hr (.h r o) (by simp)
  have hW:hdW r o (σ'.c r o) t=hdW r o (σ.c r o) t:=by unfold hdW;rw[hh]
  have hal:∀x,(kD σ σ' x\/x=.c r o\/x=.h r o)->kD { σ with ce:=gS σ.ce r (l.set o t) } { σ' with ce:=gS σ'.ce r (l'.set o t) } x:=by
   rintro x (hx|rfl|rfl)
   ·cases x with
    |c r' o'=>
     show St.c _ r' o'=St.c _ r' o';rw[Pv hl ho,Pv Zi Zl];split
     ·rfl
     ·exact hx
    |h r' o'=>
     show TV.hd (St.c _ r' o')=TV.hd (St.c _ r' o');rw[Pv hl ho,Pv Zi Zl];split
     ·rfl
     ·exact hx
    |n r'=>
     show Option.map _ _=Option.map _ _;rw[UB hl (by simp),UB Zi (by simp)];exact hx
    |_=>exact hx
   ·show St.c _ r o=St.c _ r o;rw[Pv hl ho,Pv Zi Zl];simp
   ·show TV.hd (St.c _ r o)=TV.hd (St.c _ r o);rw[Pv hl ho,Pv Zi Zl];simp
  obtain⟨e,τ',h2,h3⟩:=ih (σ':={ σ' with ce:=gS σ'.ce r (l'.set o t) }) h0 λx hx=>hal x (.inl (hr x (by simp[hx])));refine⟨by simp only[Zi,Zl,if_true];rw[e,hW],τ',by simp only[SP.run,Zi,Zl,if_true];exact h2,λx hx=>h3 x ?_⟩;rcases hx with hx|⟨w,hw,hh⟩
  ·exact .inl (hal x (.inl hx))
  ·simp only[List.mem_cons,List.mem_append]at hw;rcases hw with rfl|hw|hw
   ·left;refine hal x (.inr (.inl ?_));cases x<;>simp[Loc.hit]at hh;rw[hh.1,hh.2]
   ·left;refine hal x (.inr (.inr ?_));unfold hdW at hw;split at hw
    ·simp at hw
    ·simp only[List.mem_singleton]at hw;subst hw;cases x<;>simp[Loc.hit]at hh;rw[hh.1,hh.2]
   ·exact .inr ⟨w,hw,hh⟩
 |new r l k ih=>
  intro σ σ' b τ h hr;have hv:σ.v (r,0,0)=σ'.v (r,0,0):=hr (.v (r,0,0)) (by simp[SP.foot])
  have hal:∀x,(kD σ σ' x\/(Loc.n r).hit x=true)->kD { σ with ce:=gS σ.ce r l,vr:=tP σ.vr (r,0,0) } { σ' with ce:=gS σ'.ce r l,vr:=tP σ'.vr (r,0,0) } x:=by
   intro x hx
   cases x with
   |t j=>rcases hx with hx|hx
         ·exact hx
         ·simp[Loc.hit]at hx
   |c r' o'=>
    show St.c _ r' o'=St.c _ r' o';rw[MK,MK];split
    ·rfl
    ·rename_i e;rcases hx with hx|hx
     ·exact hx
     ·simp[Loc.hit]at hx;exact absurd hx.symm e
   |h r' o'=>
    show TV.hd (St.c _ r' o')=TV.hd (St.c _ r' o');rw[MK,MK];split
    ·rfl
    ·rename_i e;rcases hx with hx|hx
     ·exact hx
     ·simp[Loc.hit]at hx;exact absurd hx.symm e
   |n r'=>
    show Option.map _ (eV (gS _ _ _) _)=Option.map _ (eV (gS _ _ _) _);rw[ft,ft];split
    ·rfl
    ·rename_i e;rcases hx with hx|hx
     ·exact hx
     ·simp[Loc.hit]at hx;exact absurd hx e
   |v q=>
    show wv (tP _ _) q=wv (tP _ _) q;rw[iC,iC];rcases hx with hx|hx
    ·have hx:wv σ.vr q=wv σ'.vr q:=hx;rw[hx]
    ·simp[Loc.hit]at hx
  obtain⟨e,τ',h2,h3⟩:=ih (σ':={ σ' with ce:=gS σ'.ce r l,vr:=tP σ'.vr (r,0,0) }) h λx hx=>hal x (.inl (hr x (by simp[SP.foot,hx])));refine⟨by simp only[SP.foot];rw[e],τ',h2,λx hx=>h3 x ?_⟩;rcases hx with hx|⟨w,hw,hh⟩
  ·exact .inl (hal x (.inl hx))
  ·simp only[SP.foot,List.mem_cons]at hw;rcases hw with rfl|rfl|hw
   ·exact .inl (hal x (.inr hh))
   ·left;refine hal x (.inl ?_);cases x<;>simp[Loc.hit]at hh;rw[<- hh];exact hv
   ·exact .inr ⟨w,hw,hh⟩
 |bump q k ih=>
  intro σ σ' b τ h hr;have hv:σ.v q=σ'.v q:=hr (.v q) (by simp[SP.foot])
  have hal:∀x,kD σ σ' x->kD { σ with vr:=tP σ.vr q } { σ' with vr:=tP σ'.vr q } x:=by
   intro x hx
   cases x with
   |v q'=>
    show wv (tP _ _) q'=wv (tP _ _) q';rw[iC,iC];have hx:wv σ.vr q'=wv σ'.vr q':=hx;rw[hx]
   |_=>exact hx
  obtain⟨e,τ',h2,h3⟩:=ih (σ':={ σ' with vr:=tP σ'.vr q }) h λx hx=>hal x (hr x (by simp[SP.foot,hx]));refine⟨by simp only[SP.foot];rw[e],τ',h2,λx hx=>h3 x ?_⟩;rcases hx with hx|⟨w,hw,hh⟩
  ·exact .inl (hal x hx)
  ·simp only[SP.foot,List.mem_cons]at hw;rcases hw with rfl|hw
   ·left;refine hal x ?_;cases x<;>simp[Loc.hit]at hh;rw[<- hh];exact hv
   ·exact .inr ⟨w,hw,hh⟩
def Me(a b:List Loc):Bool:=a.any λw=>b.any λx=>w.hit x
def sJ(a b:vy):Bool:=Me a.2 b.1||Me a.2 b.2||Me b.2 a.1||Me b.2 a.2
theorem vm{a b:List Loc}(h:Me a b=false):∀w∈a,∀x∈b,w.hit x=false:=by
 simp[Me]at h
 simp_all
theorem QB{w w' x:Loc}(h:w.hit x=true)(h':w'.hit x=true):w.hit w'=true\/w'.hit w=true:=by
 cases x<;>cases w<;>simp[Loc.hit]at h<;>cases w'<;>simp[Loc.hit]at h'⊢<;>simp_all
theorem Lt{A B:SP Unit}{σ σ1 σ2:St}(hA:A.run σ=some ((),σ1))(hB:B.run σ1=some ((),σ2))(hc:sJ (A.foot σ) (B.foot σ1)=false):
 ∃ σ1' σ2',B.run σ=some ((),σ1')/\A.run σ1'=some ((),σ2')/\Td σ2 σ2'/\B.foot σ=B.foot σ1/\A.foot σ1'=A.foot σ:=by
 simp only[sJ,Bool.or_eq_false_iff]at hc;obtain⟨⟨⟨c1,c2⟩,c3⟩,c4⟩:=hc;have hR:=λx hx=>(lH hA x λw hw=>vm c1 w hw x hx).symm;obtain⟨e1,σ1',hB',hB2⟩:=o9 hB hR;have Xt:∀x,(∀w∈(B.foot σ1).2,w.hit x=false)->kD σ σ1' x:=λx hx=>lH hB' x (by simp_all);have hR2:=λx hx=>Xt x λw hw=>vm c3 w hw x hx;obtain⟨e2,σ2',hA',hA2⟩:=o9 hA hR2;refine⟨σ1',σ2',hB',hA',λx=>?_,e1,e2⟩;by_cases hx:∃w∈(B.foot σ1).2,w.hit x=true
 ·obtain⟨w,hw,hh⟩:=hx;refine kD.trans (hB2 x (.inr ⟨w,hw,hh⟩)) (lH hA' x λw' WJ=>?_);rw[e2]at WJ
  cases hh':w'.hit x with
  |false=>rfl
  |true=>
   rcases QB hh hh' with h|h
   ·rw[vm c4 w hw w' WJ]at h;simp at h
   ·rw[vm c2 w' WJ w hw]at h;simp at h
 ·have VZ:∀w∈(B.foot σ1).2,w.hit x=false:=λw hw=>by
   simp_all
  refine kD.trans (lH hB x VZ).symm (hA2 x ?_)
  simp_all
theorem CM{α:Type}{s:SP α}{σ σ':St}{a:α}{τ:St}(h:s.run σ=some (a,τ))(hs:Td σ σ'):s.foot σ'=s.foot σ/\∃ τ',s.run σ'=some (a,τ')/\Td τ τ':=by
 have ⟨e,τ',h1,h2⟩:=o9 h λx _=>hs x;exact⟨e,τ',h1,λx=>h2 x (.inl (hs x))⟩
def vA(pg:Nat->SP Unit):List Nat->St->Option (List (Nat×vy)×St)
 | [],σ=>some ([],σ)
 |i::r,σ=>((pg i).run σ).bind λx=>(vA pg r x.2).bind λy=>some ((i,(pg i).foot σ)::y.1,y.2)
theorem LR{pg:Nat->SP Unit}:∀{L:List Nat}{σ σ':St}{fs:List (Nat×vy)}{τ:St},vA pg L σ=some (fs,τ)->Td σ σ'->∃ τ',vA pg L σ'=some (fs,τ')/\Td τ τ':=by
 intro L
 induction L with
 |nil=>
  intro σ σ' fs τ h hs;obtain⟨rfl,rfl⟩:=h;exact⟨σ',rfl,hs⟩
 |cons i L ih=>
  intro σ σ' fs τ h hs;have ⟨⟨u,σ1⟩,h1,h2⟩:=d9 h;have ⟨⟨fs',τ0⟩,h3,h4⟩:=d9 h2
  injection h4 with h4
  injection h4 with h4 h5
  subst h5;have ⟨e,σ1',k1,k2⟩:=CM h1 hs;have ⟨τ',k3,k4⟩:=ih h3 k2;exact⟨τ',by simp[vA,k1,k3,e];rw[h4],k4⟩
theorem I4{pg:Nat->SP Unit}{i:Nat}{post:List Nat}:∀{pre:List Nat}{σ:St}{fs:List (Nat×vy)}{τ:St},vA pg (pre++i::post) σ=some (fs,τ)->
 (∀Yd F Xa,fs=Yd++(i,F)::Xa->Yd.map (·.1)=pre->∀y∈Yd,sJ y.2 F=false)->
 ∃ σ' τ' Yd F Xa,fs=Yd++(i,F)::Xa/\Yd.map (·.1)=pre/\(pg i).run σ=some ((),σ')/\(pg i).foot σ=F/\vA pg (pre++post) σ'=some (Yd++Xa,τ')/\Td τ τ':=by
 intro pre
 induction pre with
 |nil=>
  intro σ fs τ h _;obtain⟨⟨u,σ1⟩,h1,h2⟩:=d9 h;obtain⟨⟨fs',τ0⟩,h3,h4⟩:=d9 h2
  injection h4 with h4
  injection h4 with h4 h5
  subst h5;exact⟨σ1,τ0,[],_,fs',h4.symm,rfl,h1,rfl,h3,λx=>kD.refl _ _⟩
 |cons j pre ih=>
  intro σ fs τ h hc;obtain⟨⟨u,σ1⟩,h1,h2⟩:=d9 h;obtain⟨⟨fs',τ0⟩,h3,h4⟩:=d9 h2
  injection h4 with h4
  injection h4 with h4 h5
  subst h5;obtain⟨σ2,τ',Yd,F,Xa,e1,e2,k1,k2,k3,k4⟩:=ih h3 λYd F Xa e e' y hy=>hc ((j,(pg j).foot σ)::Yd) F Xa (by rw[<- h4,e];rfl) (by simp[e']) y (by simp[hy])
  have Zd:sJ ((pg j).foot σ) ((pg i).foot σ1)=false:=by
   rw[k2];exact hc ((j,(pg j).foot σ)::Yd) F Xa (by rw[<- h4,e1];rfl) (by simp[e2]) (j,(pg j).foot σ) (by simp)
  obtain⟨σ1',σ2',m1,m2,m3,m4,m5⟩:=Lt h1 k1 Zd;obtain⟨τ2,n1,n2⟩:=LR k3 m3;refine⟨σ1',τ2,(j,(pg j).foot σ)::Yd,F,Xa,by rw[<- h4,e1];rfl,by simp[e2],m1,m4.trans k2,?_,λx=>(k4 x).trans (n2 x)⟩;simp only[List.cons_append,vA,m2,oBS,n1,m5]
def kz(deps:List (List Nat)):List (Nat×vy)->Bool
 | []=>true
 |(j,F)::r=>(r.all λy=>!sJ F y.2||(deps.getD y.1 []).contains j)&&kz deps r
structure kC where
 dst:Option Nat
 guard:Option (Nat×Bool)
 op:TOp
inductive mF where
 |skip
 |nrm (pers:List Nat×List Nat)
 |reg (id:Nat) (draw:Option (List (List Nat))) (ops:List kC) (pers:List Nat×List Nat)
 |seq (a b:mF)
 |cond (c:Opd) (a b:mF)
 |block (id:Nat) (b:mF)
 |loop (b:mF)
 |exit (id:Nat)
 |ret
 |pre (l:List (Nat×Option Nat)) (a:mF)
 |post (a:mF) (l:List (Nat×Option Nat))
inductive mE where
 |normal
 |exit (id:Nat)
 |ret
def renorm0(L:List Nat)(σ:St):TV->TV
 |.ptr p vs=>if L.contains p.root&&vs==lJ σ.v p.root p.off p.hops.length then .ptr p (lJ (λ_=>0) p.root p.off p.hops.length)else .dead
 |.pk p vs=>if L.contains p.root&&vs==lJ σ.v p.root p.off (p.hops.length+1)then .pk p (lJ (λ_=>0) p.root p.off (p.hops.length+1))else .dead
 |.pw p vs sz lo n=>if L.contains p.root&&vs==lJ σ.v p.root p.off (p.hops.length+1)then .pw p (lJ (λ_=>0) p.root p.off (p.hops.length+1)) sz lo n else .dead
 |.v x=>.v x
 |.sl c=>.sl c
 |.ip cs=>.ip cs
 |.ow []=>.ow []
 |.tup []=>.tup []
 |_=>.dead
def renorm(L:List Nat)(σ:St):TV->TV
 |.agg l=>.agg (l.map (renorm0 L σ))
 |.fn f l=>.fn f (l.map (renorm0 L σ))
 |t=>renorm0 L σ t
def normT(L:List Nat)(σ:St):List Nat->List (Nat×TV)
 | []=>[]
 |i::r=>match eV σ.tm i with|some t=>(i,renorm L σ t)::normT L σ r|none=>normT L σ r
def normC(σ:St):List Nat->List (Nat×List TV)
 | []=>[]
 |r::l=>match eV σ.ce r with|some c=>(r,c)::normC σ l|none=>normC σ l
abbrev Prs:=List Nat×List Nat
def St.norm(σ:St)(pers:Prs):St:=⟨normT pers.2 σ pers.1,normC σ pers.2,[]⟩
def evop(call:Option Nat->TOp->SP Unit)(dst:Option Nat)(op:TOp):SP Unit:=
 match op with
 |.call k f args=>call dst (.call k f args)
 |.store n mv a x=>match dst with|none=>ev1 0 (.store n mv a x)|some _=>.fail
 |op=>match dst with|some d=>ev1 d op|none=>.fail
def Ey(call:Option Nat->TOp->SP Unit)(o:kC)(σ:St):Option St:=
 match o.guard with
 |none=>((evop call o.dst o.op).run σ).map (·.2)
 |some (j,want)=>
  match σ.t j with
  |.v (.bool b)=>if b=want then((evop call o.dst o.op).run σ).map (·.2)else match o.dst with|some d=>some { σ with tm:=gS σ.tm d (.tup []) } |none=>some σ
  |.tup []=>match o.dst with|some d=>some { σ with tm:=gS σ.tm d (.tup []) } |none=>some σ
  |_=>none
def xd(call:Option Nat->TOp->SP Unit):List kC->St->Option St
 | [],σ=>some σ
 |o::r,σ=>(Ey call o σ).bind (xd call r)
def setNo(dst:Option Nat):SP Unit:=match dst with|some d=>.wrT d (.tup []) (.ret ())|none=>.ret ()
def spOp(call:Option Nat->TOp->SP Unit)(o:kC):SP Unit:=
 match o.guard with
 |none=>evop call o.dst o.op
 |some (j,want)=>.rdT j λt=>match t with
  |.v (.bool b)=>if b=want then evop call o.dst o.op else setNo o.dst
  |.tup []=>setNo o.dst
  |_=>.fail
def IM:kC:=⟨none,none,.lens (.t 0)⟩
theorem Kr{call:Option Nat->TOp->SP Unit}{o:kC}{σ σ':St}(h:(spOp call o).run σ=some ((),σ')):Ey call o σ=some σ':=by
 have YL:∀{σ'},(setNo o.dst).run σ=some ((),σ')->(match o.dst with|some d=>some { σ with tm:=gS σ.tm d (.tup []) } |none=>some σ)=some σ':=by
  intro σ' h;unfold setNo at h
  cases hd:o.dst with
  |none=>rw[hd]at h;simp only[SP.run,oSJ,oPJ,true_and]at h;simp[h]
  |some d=>rw[hd]at h;simp only[SP.run,oSJ,oPJ,true_and]at h;simp[h]
 unfold spOp at h;unfold Ey
 cases hg:o.guard with
 |none=>simp_all
 |some g=>
  rw[hg]at h;simp[SP.run]at h⊢;split at h
  ·grind
  ·simp_all
  ·simp[SP.run]at h
def SG(f:St->Option (mE×St)):Nat->St->Option (mE×St)
 |0,_=>none
 |n+1,σ=>(f σ).bind λx=>match x.1 with|.normal=>SG f n x.2|e=>some (e,x.2)
def shr1(x:Nat×Option Nat):SP Unit:=.rdT x.1 λt=>match x.2,t with
 |none,.pk p vs=>(take1 false (.pk p vs)).bind λt'=>.wrT x.1 t'.imm (.ret ())
 |some off,.ptr p vs=>(chk p p.hops.length vs).bind λ_=>if p.fits off then(getPl (p.add off)).bind λt=>match t with
  |.ow c=>(peek1 (p.add off) (.ow c)).bind λt'=>(take1 false t').bind λ_=>.ret ()
  |_=>.ret ()
  else .fail
 |_,_=>.ret ()
def shrs:List (Nat×Option Nat)->SP Unit
 | []=>.ret ()
 |x::r=>(shr1 x).bind λ_=>shrs r
def St.anew(σ:St):St:=σ.norm (σ.tm.map (·.1),σ.ce.map (·.1))
def runC(call:Option Nat->TOp->SP Unit)(N:Nat):mF->St->Option (mE×St)
 |.skip,σ=>some (.normal,σ)
 |.nrm pers,σ=>some (.normal,σ.norm pers)
 |.reg _ draw ops pers,σ=>
  match draw with
  |none=>(xd call ops σ).map fun σ'=>(.normal,σ'.norm pers)
  |some deps=>(vA (λi=>spOp call (ops.getD i IM)) (List.range ops.length) σ).bind λx=>if kz deps x.1 then some (.normal,x.2.norm pers)else none
 |.seq a b,σ=>(runC call N a σ).bind λx=>match x.1 with|.normal=>runC call N b x.2|e=>some (e,x.2)
 |.cond c a b,σ=>((opd c).run σ).bind λx=>match x.1 with|.v (.bool true)=>runC call N a σ |.v (.bool false)=>runC call N b σ |_=>none
 |.block id b,σ=>(runC call N b σ).bind λx=>match x.1 with|.exit i=>if i=id then some (.normal,x.2)else some (.exit i,x.2)|e=>some (e,x.2)
 |.loop b,σ=>SG (runC call N b) N σ
 |.exit id,σ=>some (.exit id,σ)
 |.ret,σ=>some (.ret,σ)
 |.pre l a,σ=>((shrs l).run σ).bind λx=>runC call N a x.2.anew
 |.post a l,σ=>(runC call N a σ).bind λx=>((shrs l).run x.2).bind λy=>some (x.1,y.2.anew)
section norm
variable {M:Fm} {σ σ':St} {ts:Array Value} {w:World} {G:Gh}
theorem ML(L:List Nat)(σ:St)(l:List Nat)(i:Nat):eV (normT L σ l) i=if i∈l then(eV σ.tm i).map (renorm L σ)else none:=by
 induction l with
 |nil=>simp[normT,eV]
 |cons j r ih=>
  simp[normT];by_cases hj:j=i
  ·subst hj
   cases h:eV σ.tm j with
   |none=>simp_all
   |some t=>simp[eV]
  ·cases h:eV σ.tm j with
   |none=>simp[ih,Ne.symm hj]
   |some t=>simp[eV,hj,ih,Ne.symm hj]
theorem zg(σ:St)(l:List Nat)(r:Nat):eV (normC σ l) r=if r∈l then eV σ.ce r else none:=by
 induction l with
 |nil=>simp[normC,eV]
 |cons j l ih=>
  simp[normC];by_cases hj:j=r
  ·subst hj
   cases h:eV σ.ce j with
   |none=>simp_all
   |some t=>simp[eV]
  ·cases h:eV σ.ce j with
   |none=>simp[ih,Ne.symm hj]
   |some t=>simp[eV,hj,ih,Ne.symm hj]
theorem Inv.norm(hI:Inv M σ [] [] ts w G)(pers:Prs):∃G',Inv M (σ.norm pers) [] [] ts w G':=by
 obtain⟨L,hL⟩:∃L,L=pers.2:=⟨_,rfl⟩
 have hc:∀r o,(σ.norm pers).c r o=if r∈L then σ.c r o else .dead:=by
  intro r o;unfold St.c St.norm;simp only[<- hL,zg];by_cases h:r∈L<;>simp[h]
 have hE:∀r o,eU M (σ.norm pers) [] r o=if r∈L then eU M σ [] r o else .dead:=by
  intro r o;unfold eU;by_cases h:r=M.hr
  ·simp[h]
  ·simp only[oIN h,hc]
 let G':Gh:=⟨G.β,G.η,λr o k=>if r∈L then G.φ r o k else False⟩
 have Z9:∀r o k,G'.φ r o k->G.φ r o k:=by
  intro r o k hk;simp only[G']at hk
  simp_all
 have Yh:=ny.ghost (C':=eU M (σ.norm pers) []) (G':=G') hI.core rfl (λk ⟨r,o,h⟩=>⟨r,o,Z9 r o k h⟩) (λr1 o1 r2 o2 k h1 h2=>hI.core.dis _ _ _ _ k (Z9 _ _ k h1) (Z9 _ _ k h2))
  (λr b o0 n hb o ho=>by
   rw[hE];split
   ·exact hI.core.boxc r b o0 n hb o ho
   ·rfl)
  (λr o=>by
   by_cases h:r∈L
   ·left;exact⟨by rw[hE,oIP h],λk=>by simp[G',h],rfl⟩
   ·right;left;exact⟨by rw[hE,oIN h],λk hk=>by simp[G',h]at hk⟩)
 have Yp:(σ.norm pers).v=λ_=>0:=by funext q;rfl
 have hrn0:∀{t:TV}{x:Value},TmR w (G.F M.A) σ.v (eU M σ []) G t x->TmR w (G'.F M.A) (σ.norm pers).v (eU M (σ.norm pers) []) G' (renorm0 L σ t) x:=by
  intro t x h;rw[Yp]
  cases h with
  |v h=>exact .v h
  |nil=>exact .nil
  |sl h=>exact .sl (h.frame (λ_ _ _=>rfl) λk hk _=>Yh.2 k hk)
  |dead=>exact .dead
  | @ptr p vs x V0 h0 hv hok=>
   simp only[renorm0];split
   ·rename_i hc;simp only[oBA,List.contains_iff_mem,beq_iff_eq]at hc;refine .ptr (λ_=>0) (λ_=>Nat.le_refl _) rfl λ_=>?_;obtain⟨h1,ad,t,h2,h3,h4⟩:=hok hc.2;exact⟨h1,ad,t,o4 h2 rfl λ_=>rfl,h3,by rw[hE,oIP hc.1];exact h4⟩
   ·exact .dead
  |ip u Zd hr=>exact .ip u (λj hj=>⟨Yh.2 _ (Zd j hj).1,(Zd j hj).2⟩) λj hj=>(hr j hj).frame (λ_ _ _=>rfl) λk hk _=>Yh.2 k hk
  | @pk p vs x V0 h0 hv hok=>
   simp only[renorm0];split
   ·rename_i hc;simp only[oBA,List.contains_iff_mem,beq_iff_eq]at hc;refine .pk (λ_=>0) (λ_=>Nat.le_refl _) rfl λ_=>?_;obtain⟨h1,c,h2,h3⟩:=hok hc.2;exact⟨h1,c,h2,by rw[hE,oIP hc.1];exact h3⟩
   ·exact .dead
  | @pw p vs sz lo n x V0 h0 hv hok=>
   simp only[renorm0];split
   ·rename_i hc;simp at hc;refine .pw (λ_=>0) (λ_=>Nat.le_refl _) rfl λ_=>?_;obtain⟨h1,c,hd,h2,h3,h4⟩:=hok hc.2;exact⟨h1,c,hd,h2,by rw[hE,oIP hc.1];exact h3,h4⟩
   ·exact .dead
  |agg hl h=>exact .dead
  | @tup l xs hl h=>
   cases l with
   |nil=>exact .tup hl λj hj=>by simp at hj
   |cons=>exact .dead
  |fn hl h=>exact .dead
 have hrn:∀{t:TV}{x:Value},TmR w (G.F M.A) σ.v (eU M σ []) G t x->TmR w (G'.F M.A) (σ.norm pers).v (eU M (σ.norm pers) []) G' (renorm L σ t) x:=by
  intro t x h;have h0:=hrn0 h
  cases h with
  | @agg l xs hl h=>exact .agg (by simpa using hl) λj hj=>by simpa using hrn0 (h j (by simpa using hj))
  | @fn f l xs hl h=>exact .fn (by simpa using hl) λj hj=>by simpa using hrn0 (h j (by simpa using hj))
  |_=>exact h0
 refine⟨G',Yh.1,λi=>?_,hI.fram.ghost rfl (λk ⟨r,o,h⟩=>⟨r,o,Z9 r o k h⟩),λr l h=>?_,hI.size,rfl,λj hj=>by simp at hj,λr b o n hb l h=>?_⟩
 ·have e:(σ.norm pers).t i=if i∈pers.1 then(match eV σ.tm i with|some t=>renorm L σ t|none=>.dead)else .dead:=by
   unfold St.t St.norm;simp only[<- hL,ML];by_cases h:i∈pers.1
   ·simp only[h,if_true];cases eV σ.tm i<;>rfl
   ·simp[h]
  rw[e];split
  ·cases ha:eV σ.tm i with
   |none=>exact .dead
   |some t=>
    have:=hI.tmr i
    have et:σ.t i=t:=by simp[St.t,ha]
    rw[et]at this;exact hrn this
  ·exact .dead
 ·have:eV (normC σ L) r=some l:=by rw[hL];exact h
  rw[zg]at this;split at this
  ·exact hI.keys r l this
  ·simp at this
 ·have:eV (normC σ L) r=some l:=by rw[hL];exact h
  rw[zg]at this;split at this
  ·exact hI.shape r b o n hb l this
  ·simp at this
end norm
def Tj(P:Program)(M:Fm)(σ':St)(a:Act)(o:Oper)(w:World):Prop:=
 ∀(K:Act->World->Prop)(Q:Exit->Act->World->Prop),(∀a' w' G',Inv M σ' [] [] a'.tmps w' G'->a'.defers=a.defers->K a' w')->o.wp P a w K Q
theorem rC(a:Act)(d:Option Tmp)(v:Value):(a.put d v).defers=a.defers:=by cases d<;>rfl
theorem pM.simO{P:Program}{M:Fm}{σ':St}{a:Act}{o:Oper}{w:World}(h:pM P M σ' a o w):Tj P M σ' a o w:=by
 have ⟨nx,x,w',G',hrun,W4,hI⟩:=h;intro K Q hK;unfold Oper.wp;rw[hrun];rcases W4 with rfl|⟨rfl,rfl⟩
 all_goals exact hK _ w' G' hI (rC _ _ _)
structure Ap (P:Program)(M:Fm)(isCall:Op->TOp->Prop)(ops:Array Oper)(o:Oper)(t:kC):Prop where
 dst:t.dst=o.dst
 lt:∀d,o.dst=some d->d<M.N/\M.pr (2*d+2)=none
 guard:(o.guard=none/\t.guard=none)\/∃j want dj,o.guard=some (j,want)/\t.guard=some (dj,want)/\(ops[j]?).bind (·.dst)=some dj
 op:(∃mv,iW P mv o.op=some t.op)\/isCall o.op t.op
def CK(P:Program)(M:Fm)(isCall:Op->TOp->Prop)(call:Option Nat->TOp->SP Unit):Prop:=
 ∀(o:Oper)(t:TOp)(σ σ':St)(a:Act)(w:World)(G:Gh),isCall o.op t->(∀d,o.dst=some d->d<M.N/\M.pr (2*d+2)=none)->Inv M σ [] [] a.tmps w G->(evop call o.dst t).run σ=some ((),σ')->Tj P M σ' a o w
section
variable {P:Program} {M:Fm} {σ σ':St} {w:World} {G:Gh} {a:Act} {o:Oper} {isCall:Op->TOp->Prop} {call:Option Nat->TOp->SP Unit} {ops:Array Oper}
theorem J3{mv:Nat}{op:Op}{t:TOp}(h:iW P mv op=some t):∀k f args,t≠.call k f args:=by
 rintro k f args rfl;cases op<;>simp only[iW]at h
 case move x=>split at h<;>first|(simp at h;done)|(obtain⟨_,_,h⟩:=jW h;simp at h)
 case assign x=>split at h<;>(obtain⟨_,_,h⟩:=jW h;simp at h)
 case pick=>obtain⟨_,_,h⟩:=d9 h;obtain⟨_,_,h⟩:=d9 h;obtain⟨_,_,h⟩:=d9 h;simp at h
 case alloc=>obtain⟨_,_,h⟩:=jW h;simp at h
 case box=>obtain⟨_,_,h⟩:=d9 h;obtain⟨_,_,h⟩:=d9 h;unfold Ur at h;split at h<;>simp at h
 case build=>(repeat' split at h)<;>first|(simp at h;done)|(obtain⟨_,_,h⟩:=d9 h;obtain⟨_,_,h⟩:=d9 h;simp at h)|(obtain⟨_,_,h⟩:=d9 h;simp at h)
 case buildSlice=>(repeat' split at h)<;>first|(simp at h;done)|(obtain⟨_,_,h⟩:=d9 h;obtain⟨_,_,h⟩:=d9 h;simp at h)
 case load=>obtain⟨_,_,h⟩:=d9 h;obtain⟨_,_,h⟩:=d9 h;simp at h
 case store=>obtain⟨_,_,h⟩:=d9 h;obtain⟨_,_,h⟩:=d9 h;obtain⟨_,_,h⟩:=d9 h;obtain⟨_,_,h⟩:=d9 h;simp at h
 case nilCheck=>obtain⟨_,_,h⟩:=jW h;simp at h
 case binOp=>(repeat' split at h)<;>first|(simp at h;done)|(obtain⟨_,_,h⟩:=d9 h;obtain⟨_,_,h⟩:=d9 h;simp at h)
 case unOp=>obtain⟨_,_,h⟩:=jW h;simp at h
 case convert=>(repeat' split at h)<;>first|(simp at h;done)|(obtain⟨_,_,h⟩:=jW h;simp at h)
 case makeFunc=>split at h<;>first|(simp at h;done)|(obtain⟨_,_,h⟩:=d9 h;obtain⟨_,_,h⟩:=d9 h;simp at h)
 case makeSlice=>(repeat' split at h)<;>first|(simp at h;done)|(obtain⟨_,_,h⟩:=d9 h;obtain⟨_,_,h⟩:=d9 h;obtain⟨_,_,h⟩:=d9 h;simp at h)
 case slice=>(repeat' split at h)<;>first|(simp at h;done)|(obtain⟨_,_,h⟩:=d9 h;obtain⟨_,_,h⟩:=d9 h;obtain⟨_,_,h⟩:=d9 h;simp at h;done)|(obtain⟨_,_,h⟩:=d9 h;obtain⟨_,_,h⟩:=d9 h;obtain⟨_,_,h⟩:=d9 h;obtain⟨_,_,h⟩:=d9 h;simp at h)
 case fieldAddr=>(repeat' split at h)<;>first|(simp at h;done)|(obtain⟨_,_,h⟩:=jW h;simp at h)
 case field=>(repeat' split at h)<;>first|(simp at h;done)|(obtain⟨_,_,h⟩:=d9 h;obtain⟨_,_,h⟩:=d9 h;simp at h)
 case indexAddr=>(repeat' split at h)<;>first|(simp at h;done)|(obtain⟨_,_,h⟩:=d9 h;obtain⟨_,_,h⟩:=d9 h;obtain⟨_,_,h⟩:=d9 h;simp at h)
 case index=>(repeat' split at h)<;>first|(simp at h;done)|(obtain⟨_,_,h⟩:=d9 h;obtain⟨_,_,h⟩:=d9 h;simp at h)
 case extract=>simp_all
 case call=>(repeat' split at h)<;>first|(simp at h;done)|(obtain⟨_,_,h⟩:=d9 h;obtain⟨_,_,h⟩:=d9 h;obtain⟨_,_,h⟩:=d9 h;simp at h)|(obtain⟨_,_,h⟩:=jW h;simp at h)
 all_goals simp at h
theorem Kz(hI:Inv M σ [] [] a.tmps w G){t:kC}(hok:Ap P M isCall ops o t)(hcall:CK P M isCall call)(hr:(evop call t.dst t.op).run σ=some ((),σ')):Tj P M σ' a o w:=by
 rcases hok.op with⟨mv,hc⟩|hc
 ·have hnc:=J3 hc;by_cases hst:∃ty x y,o.op=.store ty x y
  ·obtain⟨ty,x,y,ho⟩:=hst;rw[ho]at hc;simp only[iW]at hc;obtain⟨n,h1,hc⟩:=d9 hc;obtain⟨u,h2,hc⟩:=d9 hc;obtain⟨x1,h3,hc⟩:=d9 hc;obtain⟨y1,h4,hc⟩:=d9 hc
   injection hc with hc
   rw[<- hc]at hr;simp only[evop]at hr
   cases hd:t.dst with
   |some d=>simp[hd,SP.run]at hr
   |none=>
    simp only[hd]at hr;have hg:=rM h2;exact(M3 hI (d:=0) (by rw[<- hok.dst,hd]) h3 h4 ho h1 (by simpa using hg) hr).simO
  ·cases hd:t.dst with
   |none=>
    exfalso;rw[hd]at hr
    cases ht:t.op<;>rw[ht]at hr<;>simp only[evop,SP.run]at hr<;>first|(simp at hr;done)|skip
    ·rename_i n mv' a' x';rw[ht]at hc;cases ho:o.op<;>rw[ho]at hc hst<;>simp only[iW]at hc
     case store=>exact hst ⟨_,_,_,rfl⟩
     case move x=>split at hc<;>first|(simp at hc;done)|(obtain⟨_,_,h⟩:=jW hc;simp at h)
     case assign x=>split at hc<;>(obtain⟨_,_,h⟩:=jW hc;simp at h)
     case pick=>obtain⟨_,_,h⟩:=d9 hc;obtain⟨_,_,h⟩:=d9 h;obtain⟨_,_,h⟩:=d9 h;simp at h
     case alloc=>obtain⟨_,_,h⟩:=jW hc;simp at h
     case box=>obtain⟨_,_,h⟩:=d9 hc;obtain⟨_,_,h⟩:=d9 h;unfold Ur at h;split at h<;>simp at h
     case build=>(repeat' split at hc)<;>first|(simp at hc;done)|(obtain⟨_,_,h⟩:=d9 hc;obtain⟨_,_,h⟩:=d9 h;simp at h)|(obtain⟨_,_,h⟩:=d9 hc;simp at h)
     case buildSlice=>(repeat' split at hc)<;>first|(simp at hc;done)|(obtain⟨_,_,h⟩:=d9 hc;obtain⟨_,_,h⟩:=d9 h;simp at h)
     case load=>obtain⟨_,_,h⟩:=d9 hc;obtain⟨_,_,h⟩:=d9 h;simp at h
     case nilCheck=>obtain⟨_,_,h⟩:=jW hc;simp at h
     case binOp=>(repeat' split at hc)<;>first|(simp at hc;done)|(obtain⟨_,_,h⟩:=d9 hc;obtain⟨_,_,h⟩:=d9 h;simp at h)
     case unOp=>obtain⟨_,_,h⟩:=jW hc;simp at h
     case convert=>(repeat' split at hc)<;>first|(simp at hc;done)|(obtain⟨_,_,h⟩:=jW hc;simp at h)
     case makeFunc=>split at hc<;>first|(simp at hc;done)|(obtain⟨_,_,h⟩:=d9 hc;obtain⟨_,_,h⟩:=d9 h;simp at h)
     case makeSlice=>(repeat' split at hc)<;>first|(simp at hc;done)|(obtain⟨_,_,h⟩:=d9 hc;obtain⟨_,_,h⟩:=d9 h;obtain⟨_,_,h⟩:=d9 h;simp at h)
     case slice=>(repeat' split at hc)<;>first|(simp at hc;done)|(obtain⟨_,_,h⟩:=d9 hc;obtain⟨_,_,h⟩:=d9 h;obtain⟨_,_,h⟩:=d9 h;simp at h;done)|(obtain⟨_,_,h⟩:=d9 hc;obtain⟨_,_,h⟩:=d9 h;obtain⟨_,_,h⟩:=d9 h;obtain⟨_,_,h⟩:=d9 h;simp at h)
     case fieldAddr=>(repeat' split at hc)<;>first|(simp at hc;done)|(obtain⟨_,_,h⟩:=jW hc;simp at h)
     case field=>(repeat' split at hc)<;>first|(simp at hc;done)|(obtain⟨_,_,h⟩:=d9 hc;obtain⟨_,_,h⟩:=d9 h;simp at h)
     case indexAddr=>(repeat' split at hc)<;>first|(simp at hc;done)|(obtain⟨_,_,h⟩:=d9 hc;obtain⟨_,_,h⟩:=d9 h;obtain⟨_,_,h⟩:=d9 h;simp at h)
     case index=>(repeat' split at hc)<;>first|(simp at hc;done)|(obtain⟨_,_,h⟩:=d9 hc;obtain⟨_,_,h⟩:=d9 h;simp at h)
     case extract=>obtain⟨_,_,h⟩:=jW hc;simp at h
     case call=>(repeat' split at hc)<;>first|(simp at hc;done)|(obtain⟨_,_,h⟩:=d9 hc;obtain⟨_,_,h⟩:=d9 h;obtain⟨_,_,h⟩:=d9 h;simp at h)|(obtain⟨_,_,h⟩:=jW hc;simp at h)
     all_goals simp at hc
    ·exact absurd ht (hnc _ _ _)
   |some d=>
    have p':o.dst=some d:=by rw[<- hok.dst,hd]
    obtain⟨h1,h2⟩:=hok.lt d p'
    have XH:(ev1 d t.op).run σ=some ((),σ'):=by
     rw[hd]at hr
     cases ht:t.op<;>rw[ht]at hr<;>simp only[evop]at hr<;>first|exact hr|(simp[SP.run]at hr;done)|exact absurd ht (hnc _ _ _)
    exact(RP hI p' h1 h2 hc XH hst).simO
 ·exact hcall o t.op σ σ' a w G hc hok.lt hI (by rw[<- hok.dst];exact hr)
theorem Gl{F:Nat->Prop}{V:Vs}{C:Cs}:TmR w F V C G (.tup []) undef:=.tup (by simp) λj hj=>by simp at hj
theorem RO{tops:List kC}(hlen:tops.length=ops.size)(hok:∀i (h:i<ops.size)(h':i<tops.length),Ap P M isCall ops ops[i] tops[i])(hcall:CK P M isCall call){Q:Exit->Act->World->Prop}:
 ∀(L:List Nat)(σ:St)(a:Act)(w:World)(G:Gh),(∀i∈L,i<ops.size)->Inv M σ [] [] a.tmps w G->xd call (L.map λi=>tops.getD i ⟨none,none,.lens (.t 0)⟩) σ=some σ' ->
  (∀a' w' G',Inv M σ' [] [] a'.tmps w' G'->a'.defers=a.defers->Q .normal a' w')->wpOps P ops Q L a w:=by
 intro L
 induction L with
 |nil=>
  intro σ a w G _ hI hr hQ;simp only[List.map_nil,xd,oSJ]at hr;subst hr;exact hQ a w G hI rfl
 |cons i L ih=>
  intro σ a w G hL hI hr hQ;have hi:i<ops.size:=hL i (by simp)
  have Zt:i<tops.length:=by omega
  simp only[List.map_cons,xd]at hr
  have e:tops.getD i ⟨none,none,.lens (.t 0)⟩=tops[i]:=by simp[Zt]
  rw[e]at hr
  cases hro:Ey call tops[i] σ with
  |none=>simp[hro]at hr
  |some σ1=>
   simp only[hro,oBS]at hr;have hop:=hok i hi Zt;simp only[wpOps,Array.getElem?_eq_getElem hi]
   have go:(evop call tops[i].dst tops[i].op).run σ=some ((),σ1)->ops[i].wp P a w (wpOps P ops Q L) Q:=λh=>by
    refine Kz hI hop hcall h _ _ λa' w' G' ZE hd=>?_;exact ih σ1 a' w' G' (λj hj=>hL j (by simp[hj])) ZE hr (λa2 w2 G2 h2 hd2=>hQ a2 w2 G2 h2 (hd2.trans hd))
   have skip:(match tops[i].dst with|some d=>some { σ with tm:=gS σ.tm d (.tup []) } |none=>some σ)=some σ1->wpOps P ops Q L (a.put ops[i].dst undef) w:=λh=>by
    rw[hop.dst]at h
    cases hd:ops[i].dst with
    |none=>
     rw[hd]at h
     injection h with h
     subst h;exact ih σ a w G (λj hj=>hL j (by simp[hj])) hI hr hQ
    |some d=>
     rw[hd]at h
     injection h with h
     subst h;exact ih _ (a.put (some d) undef) w G (λj hj=>hL j (by simp[hj])) (hI.wrT (hop.lt d hd).1 Gl) hr (λa2 w2 G2 h2 hd2=>hQ a2 w2 G2 h2 hd2)
   unfold Ey at hro
   rcases hop.guard with⟨g1,g2⟩|⟨j,want,dj,g1,g2,g3⟩
   ·rw[oIP (by simp[Region.wanted,g1])];left;simp only[g2]at hro;obtain⟨⟨u,σ2⟩,h1,h2⟩:=jW hro;exact go (by rw[h1];simp only at h2;rw[h2])
   ·simp only[g2]at hro
    have hy:yielded ops a.tmps j=match(a.tmps[dj]?:Option Value)with|some (.bool b)=>some b|_=>none:=by
     unfold yielded;rw[g3];rfl
    have Zm:=hI.tmr dj
    cases hs:σ.t dj with
    |v x=>
     rw[hs]at Zm hro;obtain⟨hx,_⟩:=Zm.v_inv
     cases x with
     |bool b=>
      have Z5:a.tmps[dj]?=some (.bool b):=by
       rw[Array.getD_eq_getD_getElem?]at hx
       cases hq:a.tmps[dj]? with
       |none=>rw[hq]at hx;simp[undef]at hx
       |some v=>rw[hq]at hx;simp at hx;rw[hx]
      have WM:yielded ops a.tmps j=some b:=by rw[hy,Z5]
      simp only at hro;by_cases hb:b=want
      ·rw[oIP hb]at hro;rw[oIP (by simp[Region.wanted,g1,WM,hb])];left;obtain⟨⟨u,σ2⟩,h1,h2⟩:=jW hro;exact go (by rw[h1];simp only at h2;rw[h2])
      ·rw[oIN hb]at hro;rw[oIN (by simp[Region.wanted,g1,WM,hb])];exact skip hro
     |_=>simp at hro
    |tup l=>
     rw[hs]at Zm hro
     cases l with
     |nil=>
      have hu:a.tmps.getD dj undef=undef:=by
       generalize a.tmps.getD dj undef=z at Zm
       cases Zm with
       | @tup _ xs hl _=>have:xs=#[]:=by apply Array.eq_empty_of_size_eq_zero;simpa using hl
                         rw[this];rfl
      have WM:yielded ops a.tmps j=none:=by
       rw[hy];rw[Array.getD_eq_getD_getElem?]at hu
       cases hq:a.tmps[dj]? with
       |none=>rfl
       |some v=>
        rw[hq]at hu;simp only[Option.getD_some]at hu;rw[hu];rfl
      simp only at hro;rw[oIN (by simp[Region.wanted,g1,WM])];exact skip hro
     |cons=>simp at hro
    |_=>rw[hs]at hro;simp at hro
end
section
variable {P:Program} {M:Fm} {σ σ':St} {H:List TV} {xs:List Value} {ts:Array Value} {w:World} {G:Gh} {a:Act} {o:Oper} {isCall:Op->TOp->Prop} {call:Option Nat->TOp->SP Unit} {ops:Array Oper}
theorem Inv.congr(hI:Inv M σ H xs ts w G)(hs:Td σ σ'):Inv M σ' H xs ts w G:=by
 have hc:eU M σ' H=eU M σ H:=by
  funext r o;unfold eU;split
  ·rfl
  ·exact(hs (.c r o)).symm
 have hv:σ'.v=σ.v:=by funext q;exact(hs (.v q)).symm
 have hn:∀r l,eV σ'.ce r=some l->∃l0,eV σ.ce r=some l0/\l0.length=l.length:=by
  intro r l h;have h1:(eV σ.ce r).map List.length=(eV σ'.ce r).map List.length:=hs (.n r)
  simp_all
 refine⟨by rw[hc];exact hI.core,λi=>?_,hI.fram,λr l h=>?_,hI.size,hI.hand,hI.hval,λr b o n hb l h=>?_⟩
 ·have ht:σ'.t i=σ.t i:=by
   have:eV σ.tm i=eV σ'.tm i:=hs (.t i);simp[St.t,this]
  rw[hc,hv,ht];exact hI.tmr i
 ·have ⟨l0,h1,_⟩:=hn r l h;exact hI.keys r l0 h1
 ·have ⟨l0,h1,h2⟩:=hn r l h;rw[<- h2];exact hI.shape r b o n hb l0 h1
theorem PI{t:kC}{i:Nat}{Q:Exit->Act->World->Prop}{K:Act->World->Prop}(hi:i<ops.size)(hop:Ap P M isCall ops ops[i] t)(hcall:CK P M isCall call)(hI:Inv M σ [] [] a.tmps w G)(hro:Ey call t σ=some σ')
 (hK:∀a' w' G',Inv M σ' [] [] a'.tmps w' G'->a'.defers=a.defers->K a' w'):wpOp P ops Q i K a w:=by
 unfold wpOp;simp only[Array.getElem?_eq_getElem hi]
 have go:(evop call t.dst t.op).run σ=some ((),σ')->ops[i].wp P a w K Q:=λh=>by
  exact Kz hI hop hcall h _ _ hK
 have skip:(match t.dst with|some d=>some { σ with tm:=gS σ.tm d (.tup []) } |none=>some σ)=some σ'->K (a.put ops[i].dst undef) w:=λh=>by
  rw[hop.dst]at h
  cases hd:ops[i].dst with
  |none=>
   rw[hd]at h
   injection h with h
   subst h;exact hK a w G hI rfl
  |some d=>
   rw[hd]at h
   injection h with h
   subst h;exact hK (a.put (some d) undef) w G (hI.wrT (hop.lt d hd).1 Gl) rfl
 unfold Ey at hro
 rcases hop.guard with⟨g1,g2⟩|⟨j,want,dj,g1,g2,g3⟩
 ·rw[oIP (by simp[Region.wanted,g1])];left;simp only[g2]at hro;obtain⟨⟨u,σ2⟩,h1,h2⟩:=jW hro;exact go (by rw[h1];simp only at h2;rw[h2])
 ·simp only[g2]at hro
  have hy:yielded ops a.tmps j=match(a.tmps[dj]?:Option Value)with|some (.bool b)=>some b|_=>none:=by
   unfold yielded;rw[g3];rfl
  have Zm:=hI.tmr dj
  cases hs:σ.t dj with
  |v x=>
   rw[hs]at Zm hro;obtain⟨hx,_⟩:=Zm.v_inv
   cases x with
   |bool b=>
    have Z5:a.tmps[dj]?=some (.bool b):=by
     rw[Array.getD_eq_getD_getElem?]at hx
     cases hq:a.tmps[dj]? with
     |none=>rw[hq]at hx;simp[undef]at hx
     |some v=>rw[hq]at hx;simp at hx;rw[hx]
    have WM:yielded ops a.tmps j=some b:=by rw[hy,Z5]
    simp only at hro;by_cases hb:b=want
    ·rw[oIP hb]at hro;rw[oIP (by simp[Region.wanted,g1,WM,hb])];left;obtain⟨⟨u,σ2⟩,h1,h2⟩:=jW hro
     simp_all
    ·rw[oIN hb]at hro;rw[oIN (by simp[Region.wanted,g1,WM,hb])];exact skip hro
   |_=>simp at hro
  |tup l=>
   rw[hs]at Zm hro
   cases l with
   |nil=>
    have hu:a.tmps.getD dj undef=undef:=by
     generalize a.tmps.getD dj undef=z at Zm
     cases Zm with
     | @tup _ xs hl _=>have:xs=#[]:=by apply Array.eq_empty_of_size_eq_zero;simpa using hl
                       rw[this];rfl
    have WM:yielded ops a.tmps j=none:=by
     rw[hy];rw[Array.getD_eq_getD_getElem?]at hu
     cases hq:a.tmps[dj]? with
     |none=>rfl
     |some v=>
      rw[hq]at hu;simp only[Option.getD_some]at hu;rw[hu];rfl
    rw[oIN (by simp[Region.wanted,g1,WM])];exact skip hro
   |cons=>simp at hro
  |_=>rw[hs]at hro;simp at hro
structure CJ (ops:Array Oper)(deps:List (List Nat)):Prop where
 back:∀i (h:i<ops.size),∀e∈ops[i].after,Region.binds .any e=true->e.on<i
 dep:∀i (h:i<ops.size),∀j∈deps.getD i [],∃e∈ops[i].after,Region.binds .any e=true/\(e.on=j\/j∈deps.getD e.on [])
theorem zt{deps:List (List Nat)}{x:Nat×vy}:∀{l l':List (Nat×vy)},kz deps (l++x::l')=true->kz deps (l++l')=true/\∀y∈l,sJ y.2 x.2=false\/y.1∈deps.getD x.1 []:=by
 intro l
 induction l with
 |nil=>
  intro l' h;simp only[List.nil_append,kz,oBA]at h
  simp_all
 |cons z l ih=>
  intro l' h;simp only[List.cons_append,kz,oBA,List.all_eq_true]at h;obtain⟨h1,h2⟩:=ih h.2;refine⟨by simp only[List.cons_append,kz,oBA,List.all_eq_true];exact⟨λy hy=>h.1 y (by rcases List.mem_append.1 hy with hy|hy<;>simp[hy]),h1⟩,λy hy=>?_⟩;rcases List.mem_cons.1 hy with rfl|hy
  ·simp_all
  ·exact h2 y hy
theorem R6{tops:List kC}{deps:List (List Nat)}(hlen:tops.length=ops.size)(hok:∀i (h:i<ops.size)(h':i<tops.length),Ap P M isCall ops ops[i] tops[i])(hcall:CK P M isCall call)(YG:CJ ops deps){Q:Exit->Act->World->Prop}:
 ∀(n:Nat)(C:List Nat)(ZW:Array Bool)(σ:St)(a:Act)(w:World)(G:Gh)(fs:List (Nat×vy))(τ:St),C.length=n->ZW.size=ops.size->C.Pairwise (· < ·)->(∀j,j∈C↔j<ops.size/\ZW.getD j true=false)->
  (∀i,ZW.getD i false=true->∀j∈deps.getD i [],ZW.getD j false=true)->Inv M σ [] [] a.tmps w G->vA (λi=>spOp call (tops.getD i IM)) C σ=some (fs,τ)->kz deps fs=true ->
  (∀a' w' G',Inv M τ [] [] a'.tmps w' G'->a'.defers=a.defers->Q .normal a' w')->wpAny P .any ops Q n ZW a w:=by
 have V5:∀{ZW:Array Bool},ZW.size=ops.size->∀j,j<ops.size->(ZW.getD j true=false↔¬ZW.getD j false=true):=by
  intro ZW hs j hj
  have:j<ZW.size:=by omega
  simp[Array.getD_eq_getD_getElem?,this]
 intro n
 induction n with
 |zero=>
  intro C ZW σ a w G fs τ hC hs Yk Zx Zd hI hr hp hQ;have hC:C=[]:=oEN hC;subst hC;obtain⟨rfl,rfl⟩:=hr;refine⟨?_,hQ a w G hI rfl⟩;apply List.eq_nil_iff_forall_not_mem.2;intro j hj;obtain⟨h1,o,h2,_⟩:=mem_ready.1 hj;have:=(Zx j).2 ⟨(Array.getElem?_eq_some_iff.1 h2).1,h1⟩;simp at this
 |succ n ih=>
  intro C ZW σ a w G fs τ hC hs Yk Zx Zd hI hr hp hQ;refine⟨λhnil=>?_,λi hi=>?_⟩
  ·exfalso
   cases C with
   |nil=>simp at hC
   |cons h C=>
    have hh:=(Zx h).1 (by simp)
    have:h∈Region.ready .any ops ZW:=by
     refine mem_ready.2 ⟨hh.2,ops[h]'hh.1,Array.getElem?_eq_getElem hh.1,λe he hb=>?_⟩;have hlt:=YG.back h hh.1 e he hb
     have hes:e.on<ops.size:=by omega
     cases hl:ZW.getD e.on false with
     |true=>rfl
     |false=>
      have hm:=(Zx e.on).2 ⟨hes,(V5 hs _ hes).2 (by rw[hl];simp)⟩;rcases List.mem_cons.1 hm with e1|e1
      ·omega
      ·have:=(List.pairwise_cons.1 Yk).1 _ e1;omega
    rw[hnil]at this;simp at this
  ·obtain⟨h1,o,h2,h3⟩:=mem_ready.1 hi;have his:i<ops.size:=(Array.getElem?_eq_some_iff.1 h2).1
   have hoe:o=ops[i]:=by rw[Array.getElem?_eq_getElem his]at h2;injection h2 with h2;exact h2.symm
   subst hoe;have hiC:=(Zx i).2 ⟨his,h1⟩;obtain⟨pre,post,rfl⟩:=List.append_of_mem hiC
   have hdep:∀j∈deps.getD i [],ZW.getD j false=true:=λj hj=>by
    obtain⟨e,he,hb,h4⟩:=YG.dep i his j hj;have hl:=h3 e he hb;rcases h4 with rfl|h4
    ·exact hl
    ·exact Zd _ hl j h4
   have hclash:∀Yd F Xa,fs=Yd++(i,F)::Xa->Yd.map (·.1)=pre->∀y∈Yd,sJ y.2 F=false:=by
    rintro Yd F Xa rfl W5 y hy
    rcases(zt hp).2 y hy with h|h
    ·exact h
    ·have hyC:y.1∈pre++i::post:=by rw[<- W5];exact List.mem_append_left _ (List.mem_map_of_mem hy)
     have:=(Zx y.1).1 hyC;exact absurd (hdep _ h) ((V5 hs _ this.1).1 this.2)
   obtain⟨σ',τ',Yd,F,Xa,rfl,W5,hrun,_,ZT,Yj⟩:=I4 hr hclash
   have Zt:i<tops.length:=by omega
   have e:tops.getD i IM=tops[i]:=by simp[Zt]
   simp only[e]at hrun;refine PI his (hok i his Zt) hcall hI (Kr hrun) λa' w' G' ZE hd=>?_
   have hne:∀j∈pre++post,j≠i:=λj hj e=>by
    subst e;rw[List.pairwise_append]at Yk;rcases List.mem_append.1 hj with hj|hj
    ·have:=Yk.2.2 j hj j (by simp);omega
    ·have:=(List.pairwise_cons.1 Yk.2.1).1 j hj;omega
   refine ih (pre++post) (ZW.setIfInBounds i true) σ' a' w' G' (Yd++Xa) τ' (by simp at hC⊢;omega) (by simp[hs]) ?_ (λj=>?_) (λk hk j hj=>?_) ZE ZT (zt hp).1 λa2 w2 G2 h4 h5=>hQ a2 w2 G2 (h4.congr λx=>(Yj x).symm) (h5.trans hd)
   ·refine Yk.sublist ?_;exact List.Sublist.append_left (List.sublist_cons_self i post) pre
   ·constructor
    ·intro hj
     have hjC:j∈pre++i::post:=by rcases List.mem_append.1 hj with hj|hj<;>simp[hj]
     have:=(Zx j).1 hjC;exact⟨this.1,by rw[getD_set_ne true (Ne.symm (hne j hj))];exact this.2⟩
    ·rintro⟨hj1,Xh⟩
     have hji:j≠i:=by
      rintro rfl
      have:j<ZW.size:=by omega
      simp[Array.getD_eq_getD_getElem?,this]at Xh
     rw[getD_set_ne true (Ne.symm hji)]at Xh;have:=(Zx j).2 ⟨hj1,Xh⟩;rcases List.mem_append.1 this with h|h
     ·exact List.mem_append_left _ h
     ·rcases List.mem_cons.1 h with h|h
      ·exact absurd h hji
      ·exact List.mem_append_right _ h
   ·by_cases hki:k=i
    ·subst hki;exact getD_set_true (hdep j hj)
    ·rw[getD_set_ne false (Ne.symm hki)]at hk;exact getD_set_true (Zd k hk j hj)
theorem KA{tops:List kC}{deps:List (List Nat)}{id:Nat}(hm:P.follows .mixedOrders=true)(hlen:tops.length=ops.size)(hok:∀i (h:i<ops.size)(h':i<tops.length),Ap P M isCall ops ops[i] tops[i])(hcall:CK P M isCall call)(YG:CJ ops deps)
 {Q:Exit->Act->World->Prop}{fs:List (Nat×vy)}{τ:St}(hI:Inv M σ [] [] a.tmps w G)(hr:vA (λi=>spOp call (tops.getD i IM)) (List.range tops.length) σ=some (fs,τ))(hp:kz deps fs=true)
 (hQ:∀a' w' G',Inv M τ [] [] a'.tmps w' G'->a'.defers=a.defers->Q .normal a' w'):(Code.region id ops true).wp P Q a w:=by
 refine wp_region_any hm ?_
 have ZE:Inv M σ [] [] a.tmps { w with drawn:=w.drawn+1 } G:=by
  exact(hI.grow (w':={ w with drawn:=w.drawn+1 }) (λ_ _=>rfl) (Nat.le_refl _) rfl rfl rfl).1
 refine R6 hlen hok hcall YG ops.size (List.range ops.size) _ σ a _ G fs τ (by simp) (by simp) List.pairwise_lt_range (λj=>?_) (λi hi=>?_) ZE (by simp_all) hp hQ
 ·simp_all
 ·exfalso;rw[Array.getD_eq_getD_getElem?,Array.getElem?_replicate]at hi;split at hi<;>simp at hi
end
def SP.quiet{α:Type}(d:Nat)(S:List Nat):SP α->Prop
 |.ret _=>True
 |.fail=>True
 |.rdT i k=>i∈S/\∀t,(k t).quiet d S
 |.rdC _ _ k=>∀t,(k t).quiet d S
 |.rdH _ _ k=>∀t,(k t).quiet d S
 |.rdV _ k=>∀n,(k n).quiet d S
 |.wrT i _ k=>i=d/\k.quiet d S
 |.wrC _ _ _ _=>False
 |.new _ _ _=>False
 |.bump _ _=>False
theorem dQ{α β:Type}{d:Nat}{S:List Nat}{s:SP α}{f:α->SP β}(h:s.quiet d S)(hf:∀a,(f a).quiet d S):(s.bind f).quiet d S:=by
 induction s with
 |ret a=>exact hf a
 |fail=>exact trivial
 |rdT i k ih=>exact⟨h.1,λt=>ih t (h.2 t)⟩
 |rdC r o k ih=>exact λt=>ih t (h t)
 |rdH r o k ih=>exact λt=>ih t (h t)
 |rdV q k ih=>exact λn=>ih n (h n)
 |wrT i t k ih=>exact⟨h.1,ih h.2⟩
 |wrC r o t k ih=>exact h.elim
 |new r l k ih=>exact h.elim
 |bump q k ih=>exact h.elim
theorem s8{α:Type}{d:Nat}{S:List Nat}{s:SP α}(h:s.quiet d S)(σ:St):(∀x∈(s.foot σ).2,x=.t d)/\∀i,Loc.t i∈(s.foot σ).1->i∈S:=by
 induction s generalizing σ with
 |ret a=>exact⟨λx hx=>by simp[SP.foot]at hx,λi hi=>by simp[SP.foot]at hi⟩
 |fail=>exact⟨λx hx=>by simp[SP.foot]at hx,λi hi=>by simp[SP.foot]at hi⟩
 |rdT i k ih=>
  obtain⟨h1,h2⟩:=ih _ (h.2 (σ.t i)) σ;refine⟨h1,λj hj=>?_⟩;simp only[SP.foot,List.mem_cons]at hj;rcases hj with hj|hj
  ·injection hj with hj;subst hj;exact h.1
  ·exact h2 j hj
 |rdC r o k ih=>
  obtain⟨h1,h2⟩:=ih _ (h (σ.c r o)) σ;refine⟨h1,λj hj=>?_⟩;simp only[SP.foot]at hj
  simp_all
 |rdH r o k ih=>
  obtain⟨h1,h2⟩:=ih _ (h (σ.c r o).hd) σ;refine⟨h1,λj hj=>?_⟩;simp only[SP.foot,List.mem_cons]at hj
  simp_all
 |rdV q k ih=>
  obtain⟨h1,h2⟩:=ih _ (h (σ.v q)) σ;refine⟨h1,λj hj=>?_⟩;simp only[SP.foot,List.mem_cons]at hj
  simp_all
 |wrT i t k ih=>
  obtain⟨h1,h2⟩:=ih h.2 { σ with tm:=gS σ.tm i t };refine⟨λx hx=>?_,h2⟩;simp only[SP.foot,List.mem_cons]at hx;rcases hx with hx|hx
  ·rw[hx,h.1]
  ·exact h1 x hx
 |wrC r o t k ih=>exact h.elim
 |new r l k ih=>exact h.elim
 |bump q k ih=>exact h.elim
def i4:Opd->List Nat
 |.t i=>[i]
 |_=>[]
def gZ:TOp->Option (List Nat)
 |.mov (.t i)=>some [i]
 |.mov (.c x)=>match yJ x with|.v _=>some []|_=>none
 |.pick c a b=>some (i4 c++(i4 a++i4 b))
 |.load _ a=>some (i4 a)
 |.nilc x=>some (i4 x)
 |.fld _ a=>some (i4 a)
 |.idx _ x i=>some (i4 x++i4 i)
 |.idxa _ _ x i=>some (i4 x++i4 i)
 |.ext x _=>some (i4 x)
 |.bin _ x y=>some (i4 x++i4 y)
 |.bnb _ x y=>some (i4 x++i4 y)
 |.eqa _ _ x y=>some (i4 x++i4 y)
 |.un _ x=>some (i4 x)
 |.conv _ x=>some (i4 x)
 |.len x=>some (i4 x)
 |.lens x=>some (i4 x)
 |.ixs x i=>some (i4 x++i4 i)
 |_=>none
section
variable {d:Nat} {S:List Nat}
theorem fr{x:Opd}(h:∀i∈i4 x,i∈S):(opd x).quiet d S:=by
 cases x with
 |t i=>exact⟨h i (by simp[i4]),λ_=>trivial⟩
 |_=>exact trivial
theorem yH{l:List Key}:(rdVs l).quiet d S:=by
 induction l with
 |nil=>exact trivial
 |cons q l ih=>exact λn=>dQ ih λ_=>trivial
theorem nL{p:ew}{n:Nat}{vs:List Nat}:(chk p n vs).quiet d S:=dQ yH λl=>by split<;>exact trivial
theorem px{p:ew}:(getPl p).quiet d S:=λtv=>by
 show SP.quiet d S (match eO tv p.hops with|some t=>SP.ret t|none=>SP.fail);cases eO tv p.hops<;>exact trivial
theorem D3{p:ew}:(SM p).quiet d S:=by
 unfold SM;split
 ·exact λ_=>trivial
 ·exact dQ px λ_=>trivial
theorem wy{p:ew}{t:TV}:(peek1 p t).quiet d S:=by
 cases t with
 |ow c=>exact dQ yH λ_=>trivial
 |_=>exact trivial
theorem I6{p:ew}:(peekP p).quiet d S:=by
 unfold peekP;split
 ·refine λh=>?_
  cases h with
  |some ls=>exact dQ yH λ_=>trivial
  |none=>exact dQ px λ_=>wy
 ·exact dQ px λ_=>wy
theorem I7:∀{n:Nat}{p:ew},(peekL p n).quiet d S:=by
 intro n
 induction n with
 |zero=>intro p;exact trivial
 |succ n ih=>
  refine dQ px λt=>dQ wy λt'=>?_;split
  ·exact trivial
  ·split
   ·exact dQ ih λ_=>trivial
   ·exact trivial
theorem fI{t:TV}:(wr d t).quiet d S:=⟨rfl,trivial⟩
theorem mV{t:TV}:(yu t).quiet d S:=by cases t<;>exact trivial
theorem wz{t:TV}:(natOf t).quiet d S:=by
 cases t with
 |v x=>
  cases x with
  |int k n=>cases n<;>exact trivial
  |_=>exact trivial
 |_=>exact trivial
theorem pu{α:Type}{o:Option α}:(mB o).quiet d S:=by cases o<;>exact trivial
theorem GG{t:TV}:(tw t).quiet d S:=by
 cases t with
 |pk p vs=>exact dQ nL λ_=>dQ D3 λt=>by cases t<;>exact trivial
 |pw p vs sz lo n=>exact dQ nL λ_=>trivial
 |ow c=>cases c<;>exact trivial
 |_=>exact trivial
theorem GH{op:TOp}(h:gZ op=some S):(ev1 d op).quiet d S:=by
 cases op with
 |mov x=>
  cases x with
  |t i=>
   simp only[gZ,oSJ]at h;subst h;refine dQ (fr λj hj=>by simpa[i4]using hj) λt=>?_
   cases t with
   |ow c=>exact trivial
   |agg l=>
    simp only;split
    ·exact trivial
    ·exact fI
   |_=>exact fI
  |c x=>
   simp only[gZ]at h;split at h
   ·rename_i y hy
    have e:ev1 d (.mov (.c x))=wr d (.v y):=by simp only[ev1,opd,hy,SP.bind]
    rw[e];exact fI
   ·simp at h
  |f _=>simp[gZ]at h
 |pick c a b=>
  simp only[gZ,oSJ]at h;subst h;refine dQ (fr λj hj=>by simp[hj]) λt=>?_;split
  ·rename_i bb
   refine dQ ?_ λt=>by split<;>first|exact fI|exact trivial
   cases bb
   ·exact fr λj hj=>by simp at hj;simp[hj]
   ·exact fr λj hj=>by simp at hj;simp[hj]
  ·exact trivial
 |load n a=>
  simp only[gZ,oSJ]at h;subst h;refine dQ (fr λj hj=>by simpa using hj) λt=>?_;split
  ·refine dQ nL λ_=>?_
   cases n with
   |none=>exact dQ I6 λ_=>fI
   |some n=>exact dQ I7 λ_=>fI
  ·split<;>first|exact fI|exact trivial
  ·exact trivial
 |nilc x=>
  simp only[gZ,oSJ]at h;subst h;refine dQ (fr λj hj=>by simpa using hj) λt=>?_;split
  ·exact dQ nL λ_=>fI
  ·exact fI
  ·exact fI
  ·exact trivial
 |fld off a=>
  simp only[gZ,oSJ]at h;subst h;refine dQ (fr λj hj=>by simpa using hj) λt=>?_;split
  ·refine dQ nL λ_=>?_
   split<;>first|exact fI|exact trivial
  ·split<;>first|exact fI|exact trivial
  ·exact trivial
 |idx sz x i=>
  simp only[gZ,oSJ]at h;subst h;refine dQ (fr λj hj=>by simp[hj]) λt=>dQ (fr λj hj=>by simp[hj]) λti=>dQ wz λk=>?_;split
  ·exact dQ nL λ_=>dQ D3 λt=>by(repeat' split)<;>first|exact fI|exact trivial
  ·exact dQ nL λ_=>dQ px λt=>by(repeat' split)<;>first|exact fI|exact trivial
  ·split<;>first|exact fI|exact trivial
  ·exact trivial
 |idxa n sz x i=>
  simp only[gZ,oSJ]at h;subst h;refine dQ (fr λj hj=>by simp[hj]) λt=>dQ (fr λj hj=>by simp[hj]) λti=>dQ wz λk=>?_;split
  ·exact dQ nL λ_=>by split<;>first|exact fI|exact trivial
  ·exact trivial
 |ext x i=>
  simp only[gZ,oSJ]at h;subst h;refine dQ (fr λj hj=>by simpa using hj) λt=>?_
  (repeat' split)<;>first|exact fI|exact trivial
 |bin op x y=>
  simp only[gZ,oSJ]at h;subst h;refine dQ (fr λj hj=>by simp[hj]) λt=>dQ (fr λj hj=>by simp[hj]) λti=>dQ mV λ_=>dQ mV λ_=>dQ pu λr=>?_
  split<;>first|exact fI|exact trivial
 |bnb neg x y=>
  simp only[gZ,oSJ]at h;subst h;refine dQ (fr λj hj=>by simp[hj]) λt=>dQ (fr λj hj=>by simp[hj]) λti=>dQ mV λ_=>dQ mV λ_=>?_
  split<;>first|exact fI|exact trivial
 |eqa ks neg x y=>
  simp only[gZ,oSJ]at h;subst h;refine dQ (fr λj hj=>by simp[hj]) λt=>dQ (fr λj hj=>by simp[hj]) λti=>?_;split
  ·exact dQ pu λ_=>dQ pu λ_=>dQ pu λ_=>fI
  ·exact trivial
 |un op x=>
  simp only[gZ,oSJ]at h;subst h;refine dQ (fr λj hj=>by simpa using hj) λt=>dQ mV λ_=>dQ pu λr=>?_
  split<;>first|exact fI|exact trivial
 |conv k x=>
  simp only[gZ,oSJ]at h;subst h;refine dQ (fr λj hj=>by simpa using hj) λt=>dQ mV λ_=>?_
  split<;>first|exact fI|exact trivial
 |len x=>
  simp only[gZ,oSJ]at h;subst h;exact dQ (fr λj hj=>by simpa using hj) λt=>dQ GG λ_=>fI
 |lens x=>
  simp only[gZ,oSJ]at h;subst h;refine dQ (fr λj hj=>by simpa using hj) λt=>?_
  split<;>first|exact fI|exact trivial
 |ixs x i=>
  simp only[gZ,oSJ]at h;subst h;refine dQ (fr λj hj=>by simp[hj]) λt=>dQ (fr λj hj=>by simp[hj]) λti=>dQ wz λk=>?_
  (repeat' split)<;>first|exact fI|exact trivial
 |_=>simp[gZ]at h
end
def KI(t:kC):Option (Nat×List Nat):=
 match t.dst,gZ t.op with
 |some d,some S=>some (d,(match t.guard with|some (j,_)=>j::S|none=>S))
 |_,_=>none
theorem Ar{α:Type}{d:Nat}{S S':List Nat}(hs:∀i∈S,i∈S'){s:SP α}(h:s.quiet d S):s.quiet d S':=by
 induction s with
 |ret a=>exact trivial
 |fail=>exact trivial
 |rdT i k ih=>exact⟨hs i h.1,λt=>ih t (h.2 t)⟩
 |rdC r o k ih=>exact λt=>ih t (h t)
 |rdH r o k ih=>exact λt=>ih t (h t)
 |rdV q k ih=>exact λn=>ih n (h n)
 |wrT i t k ih=>exact⟨h.1,ih h.2⟩
 |wrC r o t k ih=>exact h.elim
 |new r l k ih=>exact h.elim
 |bump q k ih=>exact h.elim
theorem D2{call:Option Nat->TOp->SP Unit}{t:kC}{d:Nat}{S:List Nat}(h:KI t=some (d,S)):(spOp call t).quiet d S:=by
 unfold KI at h;split at h
 case h_2=>simp at h
 rename_i d' S' hd hq
 injection h with h
 injection h with h1 h2
 subst h1
 have X0:(evop call t.dst t.op)=ev1 d' t.op:=by
  rw[hd]
  cases hop:t.op<;>rw[hop]at hq<;>first|rfl|simp[gZ]at hq
 have YL:(setNo t.dst).quiet d' S:=by rw[hd];exact⟨rfl,trivial⟩
 unfold spOp
 cases hg:t.guard with
 |none=>
  rw[hg]at h2;subst h2;rw[X0];exact GH hq
 |some g=>
  obtain⟨j,want⟩:=g;rw[hg]at h2;subst h2;refine⟨by simp,λtv=>?_⟩;show SP.quiet d' (j::S') (match tv with|.v (.bool b)=>if b=want then evop call t.dst t.op else setNo t.dst|.tup []=>setNo t.dst|_=>.fail);split
  ·split
   ·rw[X0];exact Ar (by simp +contextual) (GH hq)
   ·exact YL
  ·exact YL
  ·exact trivial
def Rk(deps:List (List Nat))(tops:List kC)(i j:Nat):Bool:=
 (deps.getD j []).contains i||(match KI (tops.getD i IM),KI (tops.getD j IM)with
  |some (di,Si),some (dj,Sj)=>di != dj && !Sj.contains di && !Si.contains dj
  |_,_=>false)
def DS(deps:List (List Nat))(tops:List kC):List Nat->Bool
 | []=>true
 |i::r=>(r.all λj=>Rk deps tops i j)&&DS deps tops r
theorem I8{a b:vy}{da db:Nat}{Sa Sb:List Nat}(ha:(∀x∈a.2,x=.t da)/\∀i,Loc.t i∈a.1->i∈Sa)(hb:(∀x∈b.2,x=.t db)/\∀i,Loc.t i∈b.1->i∈Sb)(h1:da≠db)(h2:da ∉ Sb)(h3:db ∉ Sa):sJ a b=false:=by
 have hm:∀(l l':List Loc)(d d':Nat)(S:List Nat),(∀x∈l,x=.t d)->((∀x∈l',x=.t d')/\d≠d'\/(∀i,Loc.t i∈l'->i∈S)/\d ∉ S)->Me l l'=false:=by
  intro l l' d d' S hl Zi;unfold Me;simp;intro w hw x hx;rw[hl w hw]
  cases x with
  |t i=>
   simp[Loc.hit,beq_eq_false_iff_ne];intro e
   rcases Zi with⟨q1,q2⟩|⟨q1,q2⟩
   ·have:=q1 _ hx;injection this with this;omega
   ·simp_all
  |_=>rfl
 unfold sJ;rw[hm a.2 b.1 da 0 Sb ha.1 (.inr ⟨hb.2,h2⟩),hm a.2 b.2 da db [] ha.1 (.inl ⟨hb.1,h1⟩),hm b.2 a.1 db 0 Sa hb.1 (.inr ⟨ha.2,h3⟩),hm b.2 a.2 db da [] hb.1 (.inl ⟨ha.1,Ne.symm h1⟩)];rfl
theorem LQ{call:Option Nat->TOp->SP Unit}{tops:List kC}{deps:List (List Nat)}:∀{L:List Nat}{σ τ:St}{fs:List (Nat×vy)},DS deps tops L=true->vA (λi=>spOp call (tops.getD i IM)) L σ=some (fs,τ)->
 kz deps fs=true/\fs.map (·.1)=L/\∀y∈fs,∃ σ1,y.2=(spOp call (tops.getD y.1 IM)).foot σ1:=by
 intro L
 induction L with
 |nil=>
  intro σ τ fs _ hr;obtain⟨rfl,rfl⟩:=hr;exact⟨rfl,rfl,λy hy=>by simp at hy⟩
 |cons i L ih=>
  intro σ τ fs hs hr;simp only[DS,oBA,List.all_eq_true]at hs;simp only[vA]at hr;obtain⟨x,h1,h2⟩:=d9 hr;obtain⟨y,h3,h4⟩:=d9 h2;obtain⟨rfl,rfl⟩:=h4;obtain⟨Yd,τ1⟩:=y;obtain⟨q1,q2,q3⟩:=ih hs.2 h3;refine⟨?_,by simp[q2],λz hz=>?_⟩
  ·simp only[kz,oBA,List.all_eq_true];refine⟨λz hz=>?_,q1⟩
   have hzL:z.1∈L:=by rw[<- q2];exact List.mem_map_of_mem hz
   have hp:=hs.1 z.1 hzL;unfold Rk at hp;simp only[Bool.or_eq_true]at hp⊢;rcases hp with hp|hp
   ·exact .inr hp
   ·left;split at hp
    ·rename_i di Si dj Sj e1 e2;simp only[oBA,bne_iff_ne,ne_eq,Bool.not_eq_true',List.contains_eq_mem,decide_eq_false_iff_not]at hp;obtain⟨σ1,e3⟩:=q3 z hz;have:=I8 (s8 (D2 (call:=call) e1) σ) (s8 (D2 (call:=call) e2) σ1) hp.1.1 hp.1.2 hp.2
     simp_all
    ·simp at hp
  ·rcases List.mem_cons.1 hz with rfl|hz
   ·exact⟨σ,rfl⟩
   ·exact q3 z hz
theorem P4{call:Option Nat->TOp->SP Unit}{o:kC}{σ σ':St}(h:Ey call o σ=some σ'):(spOp call o).run σ=some ((),σ'):=by
 have YL:∀{σ'},(match o.dst with|some d=>some { σ with tm:=gS σ.tm d (.tup []) } |none=>some σ)=some σ'->(setNo o.dst).run σ=some ((),σ'):=by
  intro σ' h;unfold setNo
  cases hd:o.dst with
  |none=>rw[hd]at h;simp at h;simp[SP.run,h]
  |some d=>rw[hd]at h;simp at h;simp[SP.run,h]
 have hm:∀{s:SP Unit}{σ'},(s.run σ).map (·.2)=some σ'->s.run σ=some ((),σ'):=by simp_all
 unfold Ey at h;unfold spOp
 cases hg:o.guard with
 |none=>rw[hg]at h;exact hm h
 |some g=>
  rw[hg]at h;simp only[SP.run]at h⊢;split at h
  ·split at h
   ·rename_i hbw;rw[oIP hbw];exact hm h
   ·rename_i hbw;rw[oIN hbw];exact YL h
  ·exact YL h
  ·simp at h
theorem NF{call:Option Nat->TOp->SP Unit}{tops:List kC}:∀{L:List Nat}{σ τ:St},xd call (L.map λi=>tops.getD i IM) σ=some τ->∃fs,vA (λi=>spOp call (tops.getD i IM)) L σ=some (fs,τ):=by
 intro L
 induction L with
 |nil=>intro σ τ h;simp[xd]at h;subst h;exact⟨[],rfl⟩
 |cons i L ih=>
  intro σ τ h;have ⟨σ1,h1,h2⟩:=d9 h;have ⟨fs,h3⟩:=ih h2;refine⟨(i,(spOp call (tops.getD i IM)).foot σ)::fs,?_⟩;simp only[vA,P4 h1,oBS,h3]
theorem LU(tops:List kC):(List.range tops.length).map (λi=>tops.getD i IM)=tops:=by
 apply List.ext_getElem?;intro i;by_cases h:i<tops.length
 ·simp[h]
 ·simp_all
def kv(P:Program)(M:Fm)(isCall:Op->TOp->Prop):mF->Code->Prop
 |.skip,c=>c=.skip
 |.nrm _,c=>c=.skip
 |.reg _ draw tops _,c=>∃id ops dr,c=.region id ops dr/\tops.length=ops.size/\(∀i (h:i<ops.size)(h':i<tops.length),Ap P M isCall ops ops[i] tops[i])/\match draw with
  |some deps=>dr=true/\CJ ops deps/\P.follows .mixedOrders=true
  |none=>dr=true->∃deps,CJ ops deps/\P.follows .mixedOrders=true/\DS deps tops (List.range tops.length)=true
 |.seq x y,c=>∃x' y',c=.seq x' y'/\kv P M isCall x x'/\kv P M isCall y y'
 |.cond k x y,c=>∃k' x' y',c=.cond k' x' y'/\dZ k'=some k/\kv P M isCall x x'/\kv P M isCall y y'
 |.block id x,c=>∃x',c=.block id x'/\kv P M isCall x x'
 |.loop x,c=>∃x',c=.loop x'/\kv P M isCall x x'
 |.exit id,c=>c=.exit id
 |.ret,c=>c=.ret
 |.pre l x,c=>(∀y∈l,y.1<M.N)/\kv P M isCall x c
 |.post x l,c=>(∀y∈l,y.1<M.N)/\kv P M isCall x c
def mE.toExit:mE->Exit
 |.normal=>.normal
 |.exit id=>.exit id
 |.ret=>.ret
section
variable {P:Program} {M:Fm} {isCall:Op->TOp->Prop} {call:Option Nat->TOp->SP Unit}
theorem ri.toTm{w:World}{F:Nat->Prop}{V:Vs}{C:Cs}{G:Gh}{t:TV}{x:Value}(h:ri w F t x):TmR w F V C G t x:=by
 exact(ImF.im h).toTm
theorem R7{σ σ':St}{ts:Array Value}{w:World}{G:Gh}(hI:Inv M σ [] [] ts w G){x:Nat×Option Nat}(hx:x.1<M.N)(hr:(shr1 x).run σ=some ((),σ')):∃G',Inv M σ' [] [] ts w G':=by
 obtain⟨i,off⟩:=x
 have same:some ((),σ)=some ((),σ')->∃G',Inv M σ' [] [] ts w G':=λh=>by
  simp only[oSJ,oPJ,true_and]at h;exact⟨G,h▸hI⟩
 have Zm:=hI.tmr i
 have drop:∀{t t':TV}{v:Value}{σ1:St}{H:List TV},TmR w (G.F M.A) σ.v (eU M σ []) G t v->(take1 false t).run σ=some (t',σ1)->t'≠.dead->∃G2,Inv M σ1 [] [] ts w G2/\TmR w (G2.F M.A) σ1.v (eU M σ1 []) G2 t'.imm v/\σ1.tm=σ.tm:=by
  intro t t' v σ1 H ht h1 Zu;obtain⟨G1,hg,_⟩:=j6 hI ht h1
  obtain⟨G2,ZF,ZM⟩:=hg.1.dropImm (λj hj=>by
   obtain rfl:j=0:=by simpa using hj
   exact Zu)
  have h0:=ZM 0 (by simp);refine⟨G2,ZF.1,?_,ZF.2.2.2.trans hg.2.2.2⟩;exact h0.toTm
 unfold shr1 at hr;simp only[SP.run]at hr
 cases off with
 |none=>
  cases ht:σ.t i with
  |pk p vs=>
   rw[ht]at hr Zm;simp only at hr;obtain⟨t',σ1,h1,h2⟩:=dN hr;simp only[SP.run,oSJ,oPJ,true_and]at h2
   have Zu:t'≠.dead:=by
    intro e
    rcases mQ h1 with h|h<;>rw[e]at h<;>simp[fQ,pV]at h
   obtain⟨G2,ZH,YY,_⟩:=drop (H:=[]) Zm h1 Zu;refine⟨G2,?_⟩;rw[<- h2];have:=ZH.wrT hx YY
   have e:ts.setIfInBounds i (ts.getD i undef)=ts:=by
    apply Array.ext
    ·simp
    ·intro j h3 h4;rw[Array.getElem_setIfInBounds (by simpa using h4)]
     simp_all
   rw[e]at this;exact this
  |_=>rw[ht]at hr;exact same hr
 |some off=>
  cases ht:σ.t i with
  |ptr p vs=>
   rw[ht]at hr Zm;simp only at hr;obtain⟨_,σ1,h1,h2⟩:=dN hr;have e1:σ1=σ:=(eI h1).1;have e2:=(eI h1).2;subst e1;split at h2
   case isFalse=>simp[SP.run]at h2
   obtain⟨t,σ2,h3,h4⟩:=dN h2;obtain⟨e3,hg⟩:=gy h3;have e3:σ2=σ1:=e3;subst e3
   cases t with
   |ow c=>
    simp only at h4;obtain⟨t',σ3,h5,h6⟩:=dN h4;obtain⟨t2,σ4,h7,h8⟩:=dN h6;simp only[SP.run,oSJ,oPJ,true_and]at h8;subst h8
    cases Zm with
    |ptr V0 h0 hv h=>
     obtain⟨Z7,ad,t0,ha,_,_⟩:=h e2
     have X2:(p.add off).root≠1:=by rw[fT];exact Z7
     obtain⟨hB,u,fp,Y2,hown,WU⟩:=hI.named X2 (qP off ha) hg (by simp);obtain⟨rfl,ZL⟩:=xg hI X2 hg hown WU h5
     have Zu:t2≠.dead:=by
      intro e
      rcases mQ h7 with h|h<;>rw[e]at h<;>simp[fQ,pV]at h
     obtain⟨G2,ZH,_,_⟩:=drop (H:=[]) ZL h7 Zu;exact⟨G2,ZH⟩
   |_=>exact same h4
  |_=>rw[ht]at hr;exact same hr
theorem Nt{ts:Array Value}{w:World}:∀{l:List (Nat×Option Nat)}{σ σ':St}{G:Gh},Inv M σ [] [] ts w G->(∀y∈l,y.1<M.N)->(shrs l).run σ=some ((),σ')->∃G',Inv M σ' [] [] ts w G':=by
 intro l
 induction l with
 |nil=>
  intro σ σ' G hI _ hr;simp[shrs,SP.run]at hr;exact⟨G,hr▸hI⟩
 |cons x l ih=>
  intro σ σ' G hI hl hr;have ⟨_,σ1,h1,h2⟩:=dN hr;have ⟨G1,hI1⟩:=R7 hI (hl x (by simp)) h1;exact ih hI1 (λy hy=>hl y (by simp[hy])) h2
theorem KB(hcall:CK P M isCall call)(N:Nat):∀(tc:mF)(c:Code)(σ:St)(e:mE)(σ':St)(a:Act)(w:World)(G:Gh)(Q:Exit->Act->World->Prop),kv P M isCall tc c->runC call N tc σ=some (e,σ')->Inv M σ [] [] a.tmps w G ->
 (∀a' w' G',Inv M σ' [] [] a'.tmps w' G'->a'.defers=a.defers->Q e.toExit a' w')->c.wp P Q a w:=by
 intro tc
 induction tc with
 |skip=>
  intro c σ e σ' a w G Q hc hr hI hQ;simp only[kv]at hc;subst hc;simp only[runC,oSJ,oPJ]at hr;obtain⟨rfl,rfl⟩:=hr;exact wp_skip (hQ a w G hI rfl)
 |nrm pers=>
  intro c σ e σ' a w G Q hc hr hI hQ;simp only[kv]at hc;subst hc;obtain⟨rfl,rfl⟩:=hr;obtain⟨G2,ZH⟩:=hI.norm pers;exact wp_skip (hQ a w G2 ZH rfl)
 |reg id draw tops pers=>
  intro c σ e σ' a w G Q hc hr hI hQ;obtain⟨id',ops,dr,rfl,hlen,hok,hdr⟩:=hc;simp only[runC]at hr
  cases draw with
  |some deps=>
   simp only at hr;obtain⟨⟨fs,τ⟩,h1,h2⟩:=d9 hr;simp only at h2;split at h2
   ·rename_i hp
    injection h2 with h2
    injection h2 with h2 h3
    subst h2;subst h3;obtain⟨rfl,YG,hm⟩:=hdr;refine KA hm hlen hok hcall YG hI h1 hp λa' w' G' ZE Yx=>?_;obtain⟨G2,ZH⟩:=ZE.norm pers;exact hQ a' w' G2 ZH Yx
   ·simp at h2
  |none=>
   simp only at hr;obtain⟨σ1,h1,h2⟩:=jW hr
   injection h2 with h2 h3
   subst h2;subst h3
   cases dr with
   |true=>
    obtain⟨deps,YG,hm,hst⟩:=hdr rfl;obtain⟨fs,Zz⟩:=NF (tops:=tops) (L:=List.range tops.length) (by rw[LU];exact h1);refine KA hm hlen hok hcall YG hI Zz (LQ hst Zz).1 λa' w' G' ZE Yx=>?_;obtain⟨G2,ZH⟩:=ZE.norm pers;exact hQ a' w' G2 ZH Yx
   |false=>
   refine wp_region ?_
   have hm:(List.range ops.size).map (λi=>tops.getD i ⟨none,none,.lens (.t 0)⟩)=tops:=by
    apply List.ext_getElem?;intro i;by_cases h:i<ops.size
    ·simp[h,hlen]
    ·rw[oGN (by simpa using h),oGN (by omega)]
   refine RO hlen hok hcall (List.range ops.size) σ a w G (λi hi=>by simpa using hi) hI (by rw[hm];exact h1) λa' w' G' ZE Yx=>?_;obtain⟨G2,ZH⟩:=ZE.norm pers;exact hQ a' w' G2 ZH Yx
 |seq x y XD ihy=>
  intro c σ e σ' a w G Q hc hr hI hQ;obtain⟨x',y',rfl,hx,hy⟩:=hc;simp only[runC]at hr;obtain⟨⟨e1,σ1⟩,h1,h2⟩:=d9 hr;refine wp_seq (XD x' σ e1 σ1 a w G _ hx h1 hI λa' w' G' ZE hd=>?_)
  cases e1 with
  |normal=>exact ihy y' σ1 e σ' a' w' G' Q hy h2 ZE λa2 w2 G2 h3 h4=>hQ a2 w2 G2 h3 (h4.trans hd)
  |exit id=>
   simp only[oSJ,oPJ]at h2;obtain⟨rfl,rfl⟩:=h2;exact hQ a' w' G' ZE hd
  |ret=>
   simp only[oSJ,oPJ]at h2;obtain⟨rfl,rfl⟩:=h2;exact hQ a' w' G' ZE hd
 |cond k x y XD ihy=>
  intro c σ e σ' a w G Q hc hr hI hQ;obtain⟨k',x',y',rfl,hk,hx,hy⟩:=hc;simp only[runC]at hr;obtain⟨⟨t,σ1⟩,h1,h2⟩:=d9 hr;obtain⟨rfl,ht⟩:=fJ hI.tmr hk h1
  cases t with
  |v z=>
   obtain⟨hz,_⟩:=ht.v_inv
   cases z with
   |bool b=>
    cases b with
    |true=>exact wp_cond_true hz (XD x' _ e σ' a w G Q hx h2 hI hQ)
    |false=>exact wp_cond_false hz (ihy y' _ e σ' a w G Q hy h2 hI hQ)
   |_=>simp at h2
  |_=>simp at h2
 |block id x XD=>
  intro c σ e σ' a w G Q hc hr hI hQ;obtain⟨x',rfl,hx⟩:=hc;simp only[runC]at hr;obtain⟨⟨e1,σ1⟩,h1,h2⟩:=d9 hr;refine wp_block (XD x' σ e1 σ1 a w G _ hx h1 hI λa' w' G' ZE hd=>?_)
  cases e1 with
  |normal=>
   simp only[oSJ,oPJ]at h2;obtain⟨rfl,rfl⟩:=h2;exact hQ a' w' G' ZE hd
  |exit i=>
   simp only at h2;simp only[mE.toExit,Exit.inBlock];split at h2
   ·rename_i hi;simp only[oSJ,oPJ]at h2;obtain⟨rfl,rfl⟩:=h2;rw[oIP hi];exact hQ a' w' G' ZE hd
   ·rename_i hi;simp only[oSJ,oPJ]at h2;obtain⟨rfl,rfl⟩:=h2;rw[oIN hi];exact hQ a' w' G' ZE hd
  |ret=>
   simp only[oSJ,oPJ]at h2;obtain⟨rfl,rfl⟩:=h2;exact hQ a' w' G' ZE hd
 |loop x XD=>
  intro c σ e σ' a w G Q hc hr hI hQ;obtain⟨x',rfl,hx⟩:=hc;simp only[runC]at hr
  have key:∀(n:Nat)(σ:St)(a:Act)(w:World)(G:Gh)(d:List Deferred),a.defers=d->SG (runC call N x) n σ=some (e,σ')->Inv M σ [] [] a.tmps w G->(∀a' w' G',Inv M σ' [] [] a'.tmps w' G'->a'.defers=d->Q e.toExit a' w')->Code.rounds P x' Q n a w:=by
   intro n
   induction n with
   |zero=>intro σ a w G d _ hr;simp[SG]at hr
   |succ n ih=>
    intro σ a w G d hd hr hI hQ;simp only[SG]at hr;obtain⟨⟨e1,σ1⟩,h1,h2⟩:=d9 hr;rw[rounds_succ];refine XD x' σ e1 σ1 a w G _ hx h1 hI λa' w' G' ZE Yx=>?_
    cases e1 with
    |normal=>exact ih σ1 a' w' G' d (Yx.trans hd) h2 ZE hQ
    |exit i=>
     simp only[oSJ,oPJ]at h2;obtain⟨rfl,rfl⟩:=h2;exact hQ a' w' G' ZE (Yx.trans hd)
    |ret=>
     simp only[oSJ,oPJ]at h2;obtain⟨rfl,rfl⟩:=h2;exact hQ a' w' G' ZE (Yx.trans hd)
  exact wp_loop_rounds N (key N σ a w G a.defers rfl hr hI hQ)
 |exit id=>
  intro c σ e σ' a w G Q hc hr hI hQ;simp only[kv]at hc;subst hc;obtain⟨rfl,rfl⟩:=hr;exact wp_exit (hQ a w G hI rfl)
 |ret=>
  intro c σ e σ' a w G Q hc hr hI hQ;simp only[kv]at hc;subst hc;obtain⟨rfl,rfl⟩:=hr;exact wp_ret (hQ a w G hI rfl)
 |pre l x XD=>
  intro c σ e σ' a w G Q hc hr hI hQ;obtain⟨hl,hx⟩:=hc;simp only[runC]at hr;obtain⟨⟨u,σ1⟩,h1,h2⟩:=d9 hr;obtain⟨G1,hI1⟩:=Nt hI hl h1;obtain⟨G2,ZH⟩:=hI1.norm (σ1.tm.map (·.1),σ1.ce.map (·.1));exact XD c σ1.anew e σ' a w G2 Q hx h2 ZH hQ
 |post x l XD=>
  intro c σ e σ' a w G Q hc hr hI hQ;obtain⟨hl,hx⟩:=hc;simp only[runC]at hr;obtain⟨⟨e1,σ1⟩,h1,h2⟩:=d9 hr;obtain⟨⟨u,σ2⟩,h3,h4⟩:=d9 h2;simp only[oSJ,oPJ]at h4;obtain⟨rfl,rfl⟩:=h4;refine XD c σ e1 σ1 a w G Q hx h1 hI λa' w' G' ZE hd=>?_;obtain⟨G2,ZH⟩:=Nt ZE hl h3;obtain⟨G3,WY⟩:=ZH.norm (σ2.tm.map (·.1),σ2.ce.map (·.1));exact hQ a' w' G3 WY hd
end
inductive TRs where
 |tmp (t:Nat)
 |cell (t:Nat) (n:Option Nat)
structure TFn where
 np:Nat
 pp:List Nat
 nt:Nat
 body:mF
 res:List TRs
def TS(np r:Nat):Bool:=r%2==0&&decide (r<2*np+2)
def takeR1(np:Nat)(t:TV):SP TV:=
 match t with
 |.pk p vs=>take1 (!TS np p.root) (.pk p vs)
 |t=>take1 true t
def takeRL(np:Nat):List TV->SP (List TV)
 | []=>.ret []
 |t::r=>(takeR1 np t).bind λt'=>(takeRL np r).bind λr'=>.ret (t'::r')
def takeRV(np:Nat)(t:TV):SP (List TV×RSh):=
 match t with
 |.agg l=>(takeRL np l).bind λl'=>.ret (l',.agg l'.length)
 |t=>(takeR1 np t).bind λt'=>.ret ([t'],.one)
def res1(np:Nat):TRs->SP (List TV×RSh)
 |.tmp t=>.rdT t λtv=>takeRV np tv
 |.cell t n=>.rdT t λtv=>match tv with
  |.ptr p vs=>(chk p p.hops.length vs).bind λ_=>match n with
   |none=>(getPl p).bind λt=>(peek1 p t).bind λt'=>takeRV np t'
   |some n=>(peekL p n).bind λl=>takeRV np (.agg l)
  |_=>.fail
def resL(np:Nat):List TRs->SP (List TV×List RSh)
 | []=>.ret ([],[])
 |r::rs=>(res1 np r).bind λx=>(resL np rs).bind λy=>.ret (x.1++y.1,x.2::y.2)
def IN:TV->Bool
 |.v x=>jJ x
 |_=>false
def unV:TV->Value
 |.v x=>x
 |_=>undef
def onesOf:List TV->List RSh
 | []=>[]
 |_::r=>.one::onesOf r
def flatsR:List TRs->SP (List TV)
 | []=>.ret []
 |.tmp t::r=>.rdT t λtv=>if IN tv then(flatsR r).bind λl=>.ret (tv::l)else .fail
 |.cell _ _::_=>.fail
def resF(np:Nat):List TRs->SP (List TV×List RSh)
 |.tmp t::r=>.rdT t λtv=>match tv with
  |.ptr p vs=>(chk p p.hops.length vs).bind λ_=>(flatsR r).bind λl=>.ret (.ptr p vs::l,.ptr::onesOf l)
  |_=>resL np (.tmp t::r)
 |qs=>resL np qs
def KE(t:TV):List TV->TV
 | []=>t
 |y::l=>.tup (t::y::l)
def DW(x:Value):List Value->Value
 | []=>x
 |y::l=>.tuple (x::y::l).toArray
theorem Nw{w:World}{F:Nat->Prop}{V:Vs}{C:Cs}{G:Gh}{t:TV}{x:Value}(h:TmR w F V C G t x):∀{l:List TV},l.all IN=true->TmR w F V C G (KE t l) (DW x (l.map unV)):=by
 intro l hl
 have ZO:∀j (hj:j<l.length),TmR w F V C G l[j] (unV l[j]):=by
  intro j hj;have:=List.all_eq_true.1 hl l[j] (List.getElem_mem hj)
  cases hc:l[j]with
  |v y=>rw[hc]at this;exact .v this
  |_=>rw[hc]at this;simp[IN]at this
 cases l with
 |nil=>exact h
 |cons y l=>
  refine .tup (by simp) λj hj=>?_
  cases j with
  |zero=>exact h
  |succ j=>
   have ZQ:j<(y::l).length:=by simp_all
   have e:(x::unV y::l.map unV).toArray.getD (j+1) undef=unV (y::l)[j]:=by
    have e0:((y::l).map unV)[j]?=some (unV (y::l)[j]):=by rw[List.getElem?_map,oGE ZQ];rfl
    simp_all
   simp_all
def iS:List RSh->List Value->List Value
 | [],_=>[]
 |.one::r,ys=>ys.headD undef::iS r ys.tail
 |.agg n::r,ys=>.agg (ys.take n).toArray::iS r (ys.drop n)
 |.ptr::r,ys=>undef::iS r ys
def rB(sh:List RSh)(ys:List Value):Value:=
 match iS sh ys with
 | [x]=>x
 |l=>.tuple l.toArray
section
variable {P:Program} {M:Fm} {σ σ':St} {H:List TV} {xs:List Value} {ts:Array Value} {w:World} {G:Gh}
theorem Gr(np:Nat)(t:TV):∃mv,takeR1 np t=take1 mv t:=by
 cases t<;>first|exact⟨true,rfl⟩|exact⟨_,rfl⟩
theorem MW{np:Nat}:∀{l l':List TV}{ys:List Value}{σ σ':St}{H:List TV}{xs:List Value}{G:Gh},Inv M σ H xs ts w G->l.length=ys.length->(∀j (h:j<l.length),TmR w (G.F M.A) σ.v (eU M σ H) G l[j] (ys.getD j undef))->
 (takeRL np l).run σ=some (l',σ')->l'.length=l.length/\(∃G',o5 M w ts σ H G σ' (H++l') (xs++ys) G')/\∀j (h:j<l'.length),fQ l'[j]=true\/pV l'[j]=true:=by
 intro l
 induction l with
 |nil=>
  intro l' ys σ σ' H xs G hI hl _ hr;obtain⟨rfl,rfl⟩:=hr;have:=oEN (by simpa using hl.symm);subst this;exact⟨rfl,⟨G,by simpa using o5.refl hI⟩,λj h=>by simp at h⟩
 |cons t l ih=>
  intro l' ys σ σ' H xs G hI hl ht hr
  cases ys with
  |nil=>simp at hl
  |cons y ys=>
   obtain⟨t',σ1,h1,h2⟩:=dN hr;obtain⟨r',σ2,h3,h4⟩:=dN h2;obtain⟨rfl,rfl⟩:=h4;obtain⟨mv,hmv⟩:=Gr np t;rw[hmv]at h1;obtain⟨G1,Zv,ho⟩:=j6 hI (ht 0 (by simp)) h1;obtain⟨e,⟨G2,ZF⟩,hok⟩:=ih (l':=r') Zv.1 (by simpa using hl) (λj hj=>Zv.tm (by have:=ht (j+1) (by simpa using hj);simpa using this)) h3;refine⟨by simp[e],⟨G2,by simpa using Zv.trans ZF⟩,λj hj=>?_⟩
   cases j with
   |zero=>exact mQ h1
   |succ j=>exact hok j (by simpa using hj)
theorem Bg{np:Nat}{t:TV}{x:Value}{r:List TV×RSh}(hI:Inv M σ H xs ts w G)(hx:TmR w (G.F M.A) σ.v (eU M σ H) G t x)(hr:(takeRV np t).run σ=some (r,σ')):
 ∃ys G',o5 M w ts σ H G σ' (H++r.1) (xs++ys) G'/\r.1.length=ys.length/\(∀j (h:j<r.1.length),fQ r.1[j]=true\/pV r.1[j]=true)/\∀(rest:List RSh)(zs:List Value),iS (r.2::rest) (ys++zs)=x::iS rest zs:=by
 by_cases ht:∃q,t=.agg q
 ·obtain⟨q,rfl⟩:=ht;obtain⟨l',σ1,h1,h2⟩:=dN hr;obtain⟨rfl,rfl⟩:=h2;obtain⟨vs,rfl,hl,hj⟩:=Pj hx;obtain⟨e1,⟨G',hg⟩,hok⟩:=MW (ys:=vs.toList) hI (by simp[hl]) (λj h=>by simp_all) h1;refine⟨vs.toList,G',hg,by simp[e1,hl],hok,λrest zs=>?_⟩
  have hn:l'.length=vs.toList.length:=by simp_all
  simp only[iS,hn,List.take_left,List.drop_left,Array.toArray_toList]
 ·have e:takeRV np t=(takeR1 np t).bind λt'=>.ret ([t'],.one):=by
   cases t<;>first|rfl|exact absurd ⟨_,rfl⟩ ht
  rw[e]at hr;obtain⟨t',σ1,h1,h2⟩:=dN hr;obtain⟨rfl,rfl⟩:=h2;obtain⟨mv,hmv⟩:=Gr np t;rw[hmv]at h1;obtain⟨G',hg,ho⟩:=j6 hI hx h1;refine⟨[x],G',hg,rfl,λj hj=>?_,λrest zs=>rfl⟩
  obtain rfl:j=0:=by simp_all
  exact mQ h1
def Kc(P:Program):TRs->ResultVar->Prop
 |.tmp t,r=>r=.tmp t
 |.cell t n,r=>∃ty,r=.cell t ty/\Pn P ty n
theorem Sp{np:Nat}{q:TRs}{q':ResultVar}{r:List TV×RSh}(hI:Inv M σ H xs ts w G)(hq:Kc P q q')(hr:(res1 np q).run σ=some (r,σ')):
 ∃x ys G',(match q' with|.tmp t=>(pure (ts.getD t undef):Sem Value)|.cell a t=>do loadVar t (<- asAddr (ts.getD a undef))).run P w=.ok x w/\o5 M w ts σ H G σ' (H++r.1) (xs++ys) G'/\r.1.length=ys.length /\
  (∀j (h:j<r.1.length),fQ r.1[j]=true\/pV r.1[j]=true)/\∀(rest:List RSh)(zs:List Value),iS (r.2::rest) (ys++zs)=x::iS rest zs:=by
 cases q with
 |tmp t=>
  have hq:q'=.tmp t:=hq;subst hq;obtain⟨ys,G',h1,h2,h3,h4⟩:=Bg hI (hI.tmr t) hr;exact⟨_,ys,G',rfl,h1,h2,h3,h4⟩
 |cell t n=>
  obtain⟨ty,rfl,hn⟩:=hq;simp only[res1,SP.run]at hr;have Zm:=hI.tmr t
  cases hs:σ.t t with
  |ptr p vs=>
   rw[hs]at hr Zm;simp only at hr;obtain⟨_,σ2,h3,h4⟩:=dN hr;have e1:σ2=σ:=(eI h3).1;have e2:=(eI h3).2;subst e1;generalize hz:ts.getD t undef=z at Zm
   cases Zm with
   |ptr V0 h0 hv h=>
    obtain⟨Z7,ad,t0,ha,rfl,_⟩:=h e2
    cases n with
    |none=>
     obtain⟨dd,hu,YB,hd2⟩:=hn;simp only at h4;obtain⟨t1,σ3,h5,h6⟩:=dN h4;obtain⟨e3,hg⟩:=gy h5;have e3:σ3=σ2:=e3;subst e3;obtain⟨t',σ4,h7,h8⟩:=dN h6;obtain⟨hB,u,fp,Y2,hown,ZG⟩:=hI.named Z7 ha hg (vk h7);obtain⟨rfl,ZL⟩:=xg hI Z7 hg hown ZG h7;obtain⟨ys,G',k1,k2,k3,k4⟩:=Bg hI ZL h8;refine⟨u,ys,G',?_,k1,k2,k3,k4⟩;show((do loadVar ty (<- asAddr (ts.getD t undef))):Sem Value).run P w=_;rw[hz];simp[asAddr,loadVar,ud hu YB hd2,Y2]
    |some n=>
     obtain⟨⟨dd,hu,YB⟩,hsz⟩:=hn;simp only at h4;obtain⟨l,σ3,h5,h6⟩:=dN h4;obtain⟨rfl,e3,us,e4,e5⟩:=KM hI Z7 ha h5
     have hagg:TmR w (G.F M.A) σ3.v (eU M σ3 H) G (.agg l) (.agg us.toArray):=.agg (by simp[e3,e4]) λj hj=>by have:=(e5 j hj (by omega)).2;simpa[show j<us.length by omega]using this
     obtain⟨ys,G',k1,k2,k3,k4⟩:=Bg hI hagg h6;refine⟨_,ys,G',?_,k1,k2,k3,k4⟩;have ZD:=nU ha
     have ZP:=run_loadCells_list (P:=P) w ad us λj v hj=>by
      obtain⟨hlt,rfl⟩:=oGS hj;have:=(e5 j (by omega) hlt).1;obtain⟨b,o,s⟩:=ad;simp only at ZD;subst ZD;rw[gz];exact this
     have YF:(sizeOf ty).run P w=.ok n w:=by
      unfold sizeOf typeInfo
      cases hi:P.info? ty with
      |none=>simp[hi]at hsz
      |some i=>simp[hi]at hsz;simp[hi,hsz]
     rw[e4]at ZP;show((do loadVar ty (<- asAddr (ts.getD t undef))):Sem Value).run P w=_;rw[hz];simp[asAddr,loadVar,sn hu YB,YF,ZP]
  |_=>rw[hs]at hr;simp[SP.run]at hr
theorem Sm{np:Nat}:∀{qs:List TRs}{qs':List ResultVar}{r:List TV×List RSh}{σ σ':St}{H:List TV}{xs:List Value}{G:Gh},Inv M σ H xs ts w G->qs.length=qs'.length->(∀k (h:k<qs.length)(h':k<qs'.length),Kc P qs[k] qs'[k])->(resL np qs).run σ=some (r,σ')->
 ∃vs ys G',(qs'.mapM λ(q:ResultVar)=>(match q with|.tmp t=>(pure (ts.getD t undef):Sem Value)|.cell a t=>do loadVar t (<- asAddr (ts.getD a undef)))).run P w=.ok vs w/\o5 M w ts σ H G σ' (H++r.1) (xs++ys) G'/\r.1.length=ys.length /\
  (∀j (h:j<r.1.length),fQ r.1[j]=true\/pV r.1[j]=true)/\iS r.2 ys=vs:=by
 intro qs
 induction qs with
 |nil=>
  intro qs' r σ σ' H xs G hI hl _ hr;have:qs'=[]:=oEN (by simpa using hl.symm);subst this;obtain⟨rfl,rfl⟩:=hr;exact⟨[],[],G,by simp,by simpa using o5.refl hI,rfl,λj h=>by simp at h,rfl⟩
 |cons q qs ih=>
  intro qs' r σ σ' H xs G hI hl hok hr
  cases qs' with
  |nil=>simp at hl
  |cons q' qs'=>
   obtain⟨x,σ1,h1,h2⟩:=dN hr;obtain⟨y,σ2,h3,h4⟩:=dN h2;obtain⟨rfl,rfl⟩:=h4;obtain⟨v,ys,G1,k1,k2,k3,k4,k5⟩:=Sp hI (hok 0 (by simp) (by simp)) h1;obtain⟨vs,zs,G2,l1,l2,l3,l4,l5⟩:=ih (qs':=qs') k2.1 (by simpa using hl) (λk h h'=>hok (k+1) (by simpa using h) (by simpa using h')) h3;refine⟨v::vs,ys++zs,G2,?_,by simpa using k2.trans l2,by simp[k3,l3],λj hj=>?_,?_⟩
   ·rw[List.mapM_cons,Sem.run_bind];refine(congrArg (λr=>Result.andThen r _) k1).trans ?_;simp only[Result.andThen_ok,Sem.run_bind,l1,Sem.run_pure]
   ·by_cases hjl:j<x.1.length
    ·rw[List.getElem_append_left hjl];exact k4 j hjl
    ·rw[List.getElem_append_right (by omega)];exact l4 _ _
   ·rw[k5,l5]
theorem OS:∀{qs:List TRs}{qs':List ResultVar}{l:List TV}{σ σ':St}{G:Gh},Inv M σ [] [] ts w G->qs.length=qs'.length->(∀k (h:k<qs.length)(h':k<qs'.length),Kc P qs[k] qs'[k])->(flatsR qs).run σ=some (l,σ')->
 σ'=σ/\l.all IN=true/\(qs'.mapM λ(q:ResultVar)=>(match q with|.tmp t=>(pure (ts.getD t undef):Sem Value)|.cell a t=>do loadVar t (<- asAddr (ts.getD a undef)))).run P w=.ok (l.map unV) w:=by
 intro qs
 induction qs with
 |nil=>
  intro qs' l σ σ' G hI hl _ hr;have:qs'=[]:=oEN (by simpa using hl.symm);subst this;obtain⟨rfl,rfl⟩:=hr;exact⟨rfl,rfl,by simp⟩
 |cons q qs ih=>
  intro qs' l σ σ' G hI hl hok hr
  cases qs' with
  |nil=>simp at hl
  |cons q' qs'=>
   cases q with
   |cell t n=>simp[flatsR,SP.run]at hr
   |tmp t=>
    have hq:q'=.tmp t:=hok 0 (by simp) (by simp);subst hq;simp only[flatsR,SP.run]at hr;split at hr
    case isFalse=>simp[SP.run]at hr
    rename_i hf;obtain⟨r,σ1,h1,h2⟩:=dN hr;simp only[SP.run,oSJ,oPJ]at h2;obtain⟨rfl,rfl⟩:=h2;obtain⟨rfl,k2,k3⟩:=ih (qs':=qs') hI (by simpa using hl) (λk h h'=>hok (k+1) (by simpa using h) (by simpa using h')) h1;refine⟨rfl,by rw[List.all_cons,hf,k2];rfl,?_⟩;have hv:=hI.tmr t
    have e:ts.getD t undef=unV (σ1.t t):=by
     cases hc:σ1.t t with
     |v x=>
      rw[hc]at hv
      cases hv with
      |v _=>rfl
     |_=>rw[hc]at hf;simp[IN]at hf
    rw[List.mapM_cons,Sem.run_bind];simp only[Result.andThen_ok,Sem.run_bind,k3,Sem.run_pure];rw[e];rfl
end
section
variable {P:Program} {M:Fm} {σ σ':St} {H:List TV} {xs:List Value} {ts:Array Value} {w:World} {G:Gh}
theorem Inv.trunc(hI:Inv M σ H xs ts w G){k:Nat}(hd:∀j (h:j<H.length),k<=j->H[j]=.dead):Inv M σ (H.take k) (xs.take k) ts w G/\eU M σ (H.take k)=eU M σ H:=by
 have e:eU M σ (H.take k)=eU M σ H:=by
  funext r o;unfold eU;split
  ·simp
   grind
  ·rfl
 refine⟨⟨by rw[e];exact hI.core,λi=>by rw[e];exact hI.tmr i,hI.fram,hI.keys,hI.size,by simp[hI.hand],λj hj=>?_,hI.shape⟩,e⟩
 have h2:j<k/\j<xs.length:=by simp at hj;omega
 rw[hI.hval j h2.2]
 simp_all
theorem yB(b:Nat)(vs:List Value):∀(o:Nat)(w:World){k:Nat},k≠b->(w.setCells b o vs).heap[k]?=w.heap[k]?:=by
 induction vs with
 |nil=>intro o w k h;rfl
 |cons v r ih=>
  intro o w k h;simp[World.setCells];rw[ih _ _ h];exact eM w _ v h
theorem CO(b:Nat)(vs:List Value):∀(o:Nat)(w:World){cur:Array Value}{e:TypeId}{fz:Nat×Nat},w.heap[b]?=some (.cells cur e fz)->
 ∃Yy,(w.setCells b o vs).heap[b]?=some (.cells Yy e fz)/\Yy.size=cur.size/\∀j,Yy[j]?=if o<=j/\j<o+vs.length/\j<cur.size then vs[j-o]? else cur[j]?:=by
 induction vs with
 |nil=>intro o w cur e fz h;exact⟨cur,h,rfl,λj=>by rw[oIN (by simp;omega)]⟩
 |cons v r ih=>
  intro o w cur e fz h;obtain⟨Yy,h1,h2,h3⟩:=ih (o+1) _ (mh w b o v h);refine⟨Yy,h1,by rw[h2];simp,λj=>?_⟩;rw[h3];simp;by_cases hj:j=o
  ·subst hj;rw[oIN (by omega)];by_cases hs:j<cur.size
   ·rw[oIP (by omega)];simp[hs]
   ·rw[oIN (by omega)];simp[hs]
  ·by_cases hc:o+1<=j/\j<o+1+r.length/\j<cur.size
   ·rw[oIP hc,oIP (by omega)];rw[show j-o=(j-(o+1))+1 by omega];simp
   ·rw[oIN hc,oIN (by omega)];rw[Array.getElem?_setIfInBounds,oIN (Ne.symm hj)]
theorem Ex(b:Nat)(vs:List Value):∀(o:Nat)(w:World),w.setCells b o vs={ w with heap:=(w.setCells b o vs).heap }:=by
 induction vs with
 |nil=>intro o w;rfl
 |cons v r ih=>
  intro o w;simp[World.setCells]
  have h:w.setCell ⟨b,o,none⟩ v={ w with heap:=(w.setCell ⟨b,o,none⟩ v).heap }:=by
   unfold World.setCell
   simp_all
  rw[ih];rw[h]
def jC(w W:World)(b:Nat):World:=match w.heap[b]? with|some x=>{ W with heap:=W.heap.setIfInBounds b x } |none=>W
theorem vj{w W:World}{b k:Nat}(h:k≠b):(jC w W b).heap[k]?=W.heap[k]?:=by
 unfold jC;split
 ·simp[Ne.symm h]
 ·rfl
theorem yD{w W:World}{b:Nat}(h:b<W.heap.size)(h2:b<w.heap.size):(jC w W b).heap[b]?=w.heap[b]?:=by
 unfold jC
 simp_all
theorem qy{w W:World}{b:Nat}:(jC w W b).heap.size=W.heap.size:=by
 unfold jC
 grind
theorem zp{w W:World}{b:Nat}:(jC w W b).os=W.os/\(jC w W b).tape=W.tape/\(jC w W b).output=W.output/\(jC w W b).drawn=W.drawn:=by
 unfold jC
 grind
theorem Au{w W:World}{b o:Nat}{vs:List Value}{cur0 cur:Array Value}{e:TypeId}{fz:Nat×Nat}(h0:w.heap[b]?=some (.cells cur0 e fz))(h1:W.heap[b]?=some (.cells cur e fz))(hs:cur.size=cur0.size)
 (VR:∀j,(j<o\/o+vs.length<=j)->cur[j]?=cur0[j]?)(hin:∀j (h:j<vs.length),cur[o+j]?=some vs[j]):(jC w W b).setCells b o vs=W:=by
 have hbW:=(Array.getElem?_eq_some_iff.1 h1).1;have hbw:=(Array.getElem?_eq_some_iff.1 h0).1;rw[Ex];obtain⟨r1,r2,r3,r4⟩:=zp (w:=w) (W:=W) (b:=b)
 have qN:((jC w W b).setCells b o vs).heap=W.heap:=by
  apply Array.ext_getElem?;intro k;by_cases hk:k=b
  ·subst hk;obtain⟨Yy,e1,e2,e3⟩:=CO k vs o (jC w W k) ((yD hbW hbw).trans h0);rw[e1,h1];congr 2;apply Array.ext_getElem?;intro j;rw[e3];split
   ·rename_i hj;have:=hin (j-o) (by omega)
    simp_all
   ·rename_i hj;by_cases hjs:j<cur0.size
    ·exact(VR j (by omega)).symm
    ·simp_all
  ·rw[yB b vs o _ hk,vj hk]
 simp_all
end
structure MR (H:List TV)(xs:List Value)(w:World)(G:Gh)(A:Nat->Prop)(pr:Nat->Option (Nat×Nat×Nat))(bs:Nat->Nat)(ce:List (Nat×List TV))(ow:Nat->Option Nat):Prop where
 even:∀r b o n,pr r=some (b,o,n)->r%2=0/\0<n
 cells:∀r b o n,pr r=some (b,o,n)->∃l,eV ce r=some l/\l.length=n/\∀j (h:j<l.length),∃h':bs r+j<H.length,l[j]=H[bs r+j]/\l[j]≠.dead
 only:∀r l,eV ce r=some l->pr r≠none\/ow r≠none
 owc:∀r j,ow r=some j->r%2=1/\r≠1/\∃(c:List (List TV))(h:j<H.length),eV ce r=some [.ow c]/\H[j]=.ow c
 owa:∀r j r' b o n,ow r=some j->pr r'=some (b,o,n)->∀j',j'<n->bs r'+j'≠j
 owi:∀r r' j,ow r=some j->ow r'=some j->r=r'
 apart:∀r b o n r' b' o' n',pr r=some (b,o,n)->pr r'=some (b',o',n')->∀j j',j<n->j'<n'->bs r+j=bs r'+j'->r=r'
 inj:∀r b o n r' o' n',pr r=some (b,o,n)->pr r'=some (b,o',n')->r=r'
 notF:∀r b o n,pr r=some (b,o,n)->¬G.F A b
 notH:∀r b o n,pr r=some (b,o,n)->∀j,¬G.φ 1 j b
 here:∀r b o n,pr r=some (b,o,n)->∀j,j<n->w.cell? ⟨b,o+j,none⟩=some (xs.getD (bs r+j) undef)/\w.frozen? ⟨b,o+j,none⟩=false
def Fm.into(M:Fm)(w:World)(G:Gh)(pr:Nat->Option (Nat×Nat×Nat))(N:Nat):Fm where
 w0:=w
 A:=λk=>G.F M.A k\/(∃j,G.φ 1 j k)\/w.heap.size<=k
 W0:=λk=>∃j,G.φ 1 j k
 pr:=pr
 N:=N
 hA:=λk h=>.inr (.inr h)
def Gh.into(G:Gh)(pr:Nat->Option (Nat×Nat×Nat))(bs:Nat->Nat)(ow:Nat->Option Nat)(xs:List Value):Gh:=
 ⟨pr,λr _=>match ow r with|some j=>xs.getD j undef|none=>undef,λr o k=>(∃b o0 n,pr r=some (b,o0,n)/\o<n/\G.φ 1 (bs r+o) k)\/∃j,ow r=some j/\o=0/\G.φ 1 j k⟩
theorem lI{G:Gh}{pr:Nat->Option (Nat×Nat×Nat)}{bs:Nat->Nat}{ow:Nat->Option Nat}{xs:List Value}{r o k:Nat}(h:(G.into pr bs ow xs).φ r o k):∃j,G.φ 1 j k:=by
 rcases h with⟨_,_,_,_,_,h⟩|⟨_,_,_,h⟩<;>exact⟨_,h⟩
section
variable {P:Program} {M:Fm} {σ σ':St} {H:List TV} {xs:List Value} {ts:Array Value} {w:World} {G:Gh}
variable {pr:Nat->Option (Nat×Nat×Nat)} {bs:Nat->Nat} {ce:List (Nat×List TV)} {ow:Nat->Option Nat}
theorem MR.F(hh:MR H xs w G M.A pr bs ce ow){N k:Nat}(h:G.F M.A k):(G.into pr bs ow xs).F (M.into w G pr N).A k:=
 ⟨.inl h,λr o hφ=>by have ⟨j,h3⟩:=lI hφ;exact h.2.1 _ _ h3,λr b o n hb e=>hh.notF r b o n hb (e▸h)⟩
theorem vq{w:World}{b o:Nat}{v:Value}(h:w.cell? ⟨b,o,none⟩=some v):∃cur e fz,w.heap[b]?=some (.cells cur e fz)/\o<cur.size/\cur[o]?=some v:=by
 unfold World.cell? at h;split at h
 ·rename_i cur e fz hb
  grind
 ·simp at h
theorem Inv.enter(hI:Inv M σ H xs ts w G)(hh:MR H xs w G M.A pr bs ce ow){tm:List (Nat×TV)}{Zr:Array Value}{N:Nat}(hN:Zr.size=N)
 (ht:∀i,TmR w ((G.into pr bs ow xs).F (M.into w G pr N).A) (λ_=>0) (eU (M.into w G pr N) ⟨tm,ce,[]⟩ []) (G.into pr bs ow xs) ((eV tm i).getD .dead) (Zr.getD i undef)):
 Inv (M.into w G pr N) ⟨tm,ce,[]⟩ [] [] Zr w (G.into pr bs ow xs):=by
 have X0:∀r b o n,pr r=some (b,o,n)->r≠1:=λr b o n h e=>by have:=(hh.even r b o n h).1;omega
 have YL:∀r b o n,pr r=some (b,o,n)->ow r=none:=λr b o n h=>by
  cases e:ow r with
  |none=>rfl
  |some j=>have:=(hh.even r b o n h).1;have:=(hh.owc r j e).1;omega
 have hne:∀r l,eV ce r=some l->r≠1:=by
  intro r l h;rcases hh.only r l h with h1|h1
  ·cases hp:pr r with
   |none=>exact absurd hp h1
   |some x=>exact X0 r _ _ _ hp
  ·cases hp:ow r with
   |none=>exact absurd hp h1
   |some j=>exact(hh.owc r j hp).2.1
 have hcell:∀r o,eU (M.into w G pr N) ⟨tm,ce,[]⟩ [] r o=match eV ce r with|some l=>l.getD o .dead|none=>.dead:=by
  intro r o;unfold eU;split
  ·rename_i e
   cases hc:eV ce r with
   |none=>simp
   |some l=>exact absurd e (hne r l hc)
  ·rfl
 refine⟨⟨λr o=>?_,λr b o0 n hb=>?_,λr b o0 n hb o ho=>?_,λr r' b o n o' n' h1 h2=>hh.inj r b o n r' o' n' h1 h2,λr b o n hb r' o' hφ=>by obtain⟨j,h3⟩:=lI hφ;exact hh.notH r b o n hb _ h3,λr1 o1 r2 o2 k YR XG=>?_,λr o k hφ=>.inr (.inl (lI hφ))⟩,ht,?_,λr l h=>hne r l h,hN,rfl,λj hj=>by simp at hj,λr b o n hb l hl=>?_⟩
 ·rw[hcell]
  cases hc:eV ce r with
  |none=>
   left;refine⟨rfl,λk hk=>?_⟩
   rcases hk with⟨b1,p1,n1,h1,h2,h3⟩|⟨j,h1,_⟩
   ·obtain⟨l,h4,_⟩:=hh.cells r _ _ _ h1;rw[hc]at h4;simp at h4
   ·obtain⟨_,_,c,_,h4,_⟩:=hh.owc r j h1;rw[hc]at h4;simp at h4
  |some l=>
   cases hp:pr r with
   |none=>
    obtain⟨j,hj⟩:∃j,ow r=some j:=by
     rcases hh.only r l hc with h1|h1
     ·exact absurd hp h1
     ·cases e:ow r with
      |none=>exact absurd e h1
      |some j=>exact⟨j,rfl⟩
    obtain⟨_,_,c,hjl,h4,h5⟩:=hh.owc r j hj;rw[hc]at h4
    injection h4 with h4
    subst h4
    cases o with
    |zero=>
     right;have hown:=hI.hand_own hjl (by rw[h5];simp)
     have hval:(G.into pr bs ow xs).val w r 0=xs.getD j undef:=by
      unfold Gh.val Gh.into;simp only[hp,hj]
     rw[hval];simp only[List.getD_cons_zero];rw[h5]at hown;refine(hown.frame (λ_ _=>rfl) (λ_ _ _=>rfl) λk hk _=>hh.F hk).refp λk=>?_;constructor
     ·intro hk;exact .inr ⟨j,hj,rfl,hk⟩
     ·rintro(⟨b1,p1,n1,h1,_,_⟩|⟨j',h1,_,hk⟩)
      ·rw[hp]at h1;simp at h1
      ·rw[hj]at h1;injection h1 with h1;rw[h1];exact hk
    |succ o=>
     left;refine⟨by simp,λk hk=>?_⟩
     rcases hk with⟨b1,p1,n1,h1,_,_⟩|⟨j',_,h1,_⟩
     ·rw[hp]at h1;simp at h1
     ·omega
   |some x=>
    obtain⟨b,o0,n⟩:=x;obtain⟨l',h4,h5,h6⟩:=hh.cells r _ _ _ hp;rw[hc]at h4
    injection h4 with h4
    subst h4;by_cases ho:o<l.length
    ·right;obtain⟨h7,h8,h9⟩:=h6 o ho;have hown:=hI.hand_own h7 (by rw[<- h8];exact h9)
     have hval:(G.into pr bs ow xs).val w r o=xs.getD (bs r+o) undef:=by
      unfold Gh.val Gh.into;simp only[hp];rw[(hh.here r _ _ _ hp o (by omega)).1];rfl
     rw[hval]
     have e:l.getD o .dead=l[o]:=by simp[ho]
     simp only[e];rw[h8];refine(hown.frame (λ_ _=>rfl) (λ_ _ _=>rfl) λk hk _=>hh.F hk).refp λk=>?_;constructor
     ·intro hk;exact .inl ⟨b,o0,n,hp,by omega,hk⟩
     ·rintro(⟨_,_,_,_,_,hk⟩|⟨j',h1,_,_⟩)
      ·exact hk
      ·rw[YL r _ _ _ hp]at h1;simp at h1
    ·left;refine⟨by simp only[];rw[oGD,oGN (by omega)];rfl,λk hk=>?_⟩
     rcases hk with⟨b1,p1,n1,h1,h2,h3⟩|⟨j',h1,_,_⟩
     ·rw[hp]at h1
      injection h1 with h1
      injection h1 with _ h1
      injection h1 with _ h1
      omega
     ·rw[YL r _ _ _ hp]at h1;simp at h1
 ·have hn:=(hh.even r _ _ _ hb).2;have YZ:pr r=some (b,o0,n):=hb;obtain⟨cur,e,fz,h1,h2,h3⟩:=vq (hh.here r _ _ _ YZ (n-1) (by omega)).1;exact⟨cur,e,fz,h1,by omega,λj hj=>(hh.here r _ _ _ YZ j hj).2⟩
 ·have YZ:pr r=some (b,o0,n):=hb;rw[hcell];obtain⟨l,h1,h2,_⟩:=hh.cells r _ _ _ YZ;rw[h1];show l.getD o .dead=.dead;rw[oGD,oGN (by omega)];rfl
 ·rcases YR with⟨b1,p1,n1,h1,h2,h3⟩|⟨j1,h1,h2,h3⟩<;>rcases XG with⟨b2,p2,n2,k1,k2,k3⟩|⟨j2,k1,k2,k3⟩
  ·obtain⟨_,h5⟩:=hI.core.dis _ _ _ _ k h3 k3;have:=hh.apart _ _ _ _ _ _ _ _ h1 k1 _ _ h2 k2 h5;subst this;exact⟨rfl,by omega⟩
  ·obtain⟨_,h5⟩:=hI.core.dis _ _ _ _ k h3 k3;exact absurd h5 (hh.owa _ _ _ _ _ _ k1 h1 _ h2)
  ·obtain⟨_,h5⟩:=hI.core.dis _ _ _ _ k h3 k3;exact absurd h5.symm (hh.owa _ _ _ _ _ _ h1 k1 _ k2)
  ·obtain⟨_,h5⟩:=hI.core.dis _ _ _ _ k h3 k3;subst h5;exact⟨hh.owi _ _ _ h1 k1,by omega⟩
 ·refine⟨rfl,rfl,rfl,Nat.le_refl _,λ_ _ _ _=>rfl,λr b o n hp=>⟨hp,?_⟩,λr o k hφ=>.inl (lI hφ),λr b o n hb=>.inl hb,λr hb=>?_⟩
  ·have hn:=(hh.even r _ _ _ hp).2;obtain⟨cur,e,fz,h1,h2,h3⟩:=vq (hh.here r _ _ _ hp (n-1) (by omega)).1;exact⟨cur,cur,e,fz,h1,h1,rfl,λ_ _=>rfl⟩
  ·cases hp:pr r with
   |none=>exact absurd hp hb
   |some x=>exact(hh.even r _ _ _ hp).1
 ·obtain⟨l',h1,h2,_⟩:=hh.cells r _ _ _ hb;have Zi:eV ce r=some l:=hl;rw[Zi]at h1
  injection h1 with h1
  rw[h1];exact h2
end
structure Rz (H2:List TV)(ys:List Value)(H':List TV)(xs':List Value)(C2:Cs)(G2:Gh)(w2:World)(pr:Nat->Option (Nat×Nat×Nat))(bs:Nat->Nat):Prop where
 len:H'.length=xs'.length
 low:∀j (h:j<H2.length),∃h':j<H'.length,H'[j]=H2[j]/\xs'.getD j undef=ys.getD j undef
 cells:∀r b o n,pr r=some (b,o,n)->∀t,t<n->∃h:bs r+t<H'.length,H2.length<=bs r+t/\H'[bs r+t]=C2 r t/\xs'.getD (bs r+t) undef=G2.val w2 r t
 cover:∀j,j<H'.length->j<H2.length\/∃r b o n t,pr r=some (b,o,n)/\t<n/\j=bs r+t
 apart:∀r b o n r' b' o' n',pr r=some (b,o,n)->pr r'=some (b',o',n')->∀j j',j<n->j'<n'->bs r+j=bs r'+j'->r=r'
section
variable {P:Program} {M:Fm} {σ σ2:St} {H H2 H':List TV} {xs ys xs':List Value} {ts ts2:Array Value} {w w2 w':World} {G G2:Gh}
variable {pr:Nat->Option (Nat×Nat×Nat)} {bs bs2:Nat->Nat} {ce:List (Nat×List TV)} {N:Nat} {ow:Nat->Option Nat}
theorem Inv.leave(hI:Inv M σ H xs ts w G)(hh:MR H xs w G M.A pr bs ce ow)(h2:Inv (M.into w G pr N) σ2 H2 ys ts2 w2 G2)(ZY:Rz H2 ys H' xs' (eU (M.into w G pr N) σ2 H2) G2 w2 pr bs2)
 (hs:w'.heap.size=w2.heap.size)(ho:w'.os=w2.os)(htp:w'.tape=w2.tape)(hu:w'.output=w2.output)(Yj:∀k,(∀r b o n,pr r=some (b,o,n)->k≠b)->w'.heap[k]?=w2.heap[k]?)
 (XL:∀r b o n,pr r=some (b,o,n)->w'.heap[b]?=w.heap[b]?):∃G',Inv M σ H' xs' ts w' G'/\mG M w σ H G w' σ H' G'/\G'.β=G.β:=by
 have Xq:=h2.fram
 let f:Nat->Nat->Prop:=λj k=>(j<H2.length/\G2.φ 1 j k)\/∃r b o n t,pr r=some (b,o,n)/\t<n/\j=bs2 r+t/\G2.φ r t k
 have hfφ:∀j k,f j k->∃r o,G2.φ r o k:=by
  rintro j k (⟨_,h⟩|⟨r,b,o,n,t,_,_,_,h⟩)
  ·exact⟨_,_,h⟩
  ·exact⟨_,_,h⟩
 have hβ2:=λr b o n h=>(Xq.par r b o n h).1
 have Z7:∀r b o n,pr r=some (b,o,n)->r≠1:=λr b o n h e=>by have:=(hh.even r b o n h).1;omega
 have hφw:∀r o k,G2.φ r o k->w'.heap[k]?=w2.heap[k]?:=λr o k h=>Yj k λr' b o' n hp e=>h2.core.boxf r' b o' n (hβ2 _ _ _ _ hp) _ _ (e▸h);have Ye:∀k,G2.F (M.into w G pr N).A k->w'.heap[k]?=w2.heap[k]?:=λk h=>Yj k λr' b o' n hp e=>h.2.2 r' b o' n (hβ2 _ _ _ _ hp) e
 obtain⟨G',a1,a2,a3,_⟩:=hI.rehandL (w':=w') (H':=H') (xs':=xs') (f:=f) (Fx:=G2.F (M.into w G pr N).A)
  (λk hk hn=>by
   by_cases hp:∃r b o n,pr r=some (b,o,n)/\k=b
   ·obtain⟨r,b,o,n,hp,rfl⟩:=hp;exact XL r k o n hp
   ·have hp':∀r b o n,pr r=some (b,o,n)->k≠b:=λr b o n h e=>hp ⟨r,b,o,n,h,e⟩;rw[Yj k hp']
    exact Xq.old k hk (λ⟨j,hj⟩=>hn j hj) hp')
  (by rw[hs];exact Xq.size) (ho.trans Xq.os) (htp.trans Xq.tape) (hu.trans Xq.output) ZY.len
  (λj k h=>by
   refine⟨?_,?_⟩
   ·rcases h with⟨h,_⟩|⟨r,b,o,n,t,hp,ht,rfl,_⟩
    ·exact(ZY.low j h).1
    ·exact(ZY.cells r b o n hp t ht).1
   ·obtain⟨r,o,hφ⟩:=hfφ j k h
    exact Xq.own r o k hφ)
  (λj j' k h h'=>by
   rcases h with⟨h1,h3⟩|⟨r,b,o,n,t,hp,ht,rfl,h3⟩
   ·rcases h' with⟨k1,k3⟩|⟨r',b',o',n',t',hp',ZL,rfl,k3⟩
    ·exact(h2.core.dis _ _ _ _ k h3 k3).2
    ·exact absurd (h2.core.dis _ _ _ _ k h3 k3).1.symm (Z7 _ _ _ _ hp')
   ·rcases h' with⟨k1,k3⟩|⟨r',b',o',n',t',hp',ZL,rfl,k3⟩
    ·exact absurd (h2.core.dis _ _ _ _ k h3 k3).1 (Z7 _ _ _ _ hp)
    ·obtain⟨e1,e2⟩:=h2.core.dis _ _ _ _ k h3 k3
     rw[e1,e2])
  (λk h=>⟨h.1,λj hf=>by obtain⟨r,o,hφ⟩:=hfφ j k hf;exact h.2.1 r o hφ⟩)
  (λj hj=>by
   rcases ZY.cover j hj with h|⟨r,b,o,n,t,hp,ht,rfl⟩
   ·obtain⟨_,e1,e2⟩:=ZY.low j h
    have YL:∀k,f j k↔G2.φ 1 j k:=λk=>by
     constructor
     ·rintro(⟨_,h⟩|⟨r,b,o,n,t,hp,ht,e,_⟩)
      ·exact h
      ·have:=(ZY.cells r b o n hp t ht).2.1;omega
     ·exact λhk=>.inl ⟨h,hk⟩
    by_cases hd:H2[j]=.dead
    ·left;refine⟨e1.trans hd,λk hk=>?_⟩;refine h2.phi_dead (r:=1) (o:=j) ?_ k ((YL k).1 hk);rw[show(1:Nat)=(M.into w G pr N).hr from rfl,pE];simp[h,hd]
    ·right;have:=h2.hand_own h hd;rw[e1,e2];exact(this.frame (λk hk=>hφw _ _ k hk) (λk hk _=>Ye k hk) λk hk _=>hk).refp λk=>(YL k).symm
   ·obtain⟨h1,h3,h4,h5⟩:=ZY.cells r b o n hp t ht
    have YL:∀k,f (bs2 r+t) k↔G2.φ r t k:=λk=>by
     constructor
     ·rintro(⟨h,_⟩|⟨r',b',o',n',t',hp',ZL,e,hk⟩)
      ·omega
      ·have:=ZY.apart _ _ _ _ _ _ _ _ hp hp' _ _ ht ZL e
       simp_all
     ·exact λhk=>.inr ⟨r,b,o,n,t,hp,ht,rfl,hk⟩
    rw[h4,h5]
    rcases h2.core.cell r t with⟨c1,c2⟩|c1
    ·left;exact⟨c1,λk hk=>c2 k ((YL k).1 hk)⟩
    ·right
     exact(c1.frame (λk hk=>hφw _ _ k hk) (λk hk _=>Ye k hk) λk hk _=>hk).refp λk=>(YL k).symm)
 exact⟨G',a1,a2,a3⟩
end
def vC:TV->Bool
 |.v _=>true
 |.sl _=>true
 |.ip _=>true
 |.ow []=>true
 |.fn _ l=>l.all Jv
 |.agg l=>l.all λt=>match t with|.v _=>true|.sl _=>true|_=>false
 |_=>false
def Up:TV->Bool
 |.pk _ _=>true
 |.ow []=>true
 |_=>false
def argV(x:Option Nat×Opd):SP TV:=(opd x.2).bind λt=>if x.1==some 0&&Up t then .ret t else match t with
 |.ip cs=>.ret (.ip cs)
 |.fn f cap=>.ret (.fn f cap)
 |.ptr p vs=>.ret (.ptr p vs)
 |t=>(takeV false t).bind λl=>.ret (tu l.2 (l.1.map TV.imm))
def argVs:List (Option Nat×Opd)->SP (List TV)
 | []=>.ret []
 |x::r=>(argV x).bind λt=>(argVs r).bind λl=>.ret (t::l)
def takeOwns:Nat->List (Option Nat×TV)->SP (List (Nat×TV))
 |_,[]=>.ret []
 |i,(some 0,.pk p vs)::r=>(take1 true (.pk p vs)).bind λt=>if pV t then(takeOwns (i+1) r).bind λq=>.ret ((i,t)::q)else .fail
 |i,_::r=>takeOwns (i+1) r
structure GP where
 i:Nat
 p:ew
 vs:List Nat
 cells:List TV
def Ii(p:ew):Nat->SP (List TV)
 |0=>.ret []
 |n+1=>(getPl p).bind λt=>(peek1 p t).bind λt'=>(take1 true t').bind λt2=>match n with
  |0=>.ret [t2]
  |_=>if p.fits 1 then(Ii (p.add 1) n).bind λr=>.ret (t2::r)else .fail
def ew.base(p:ew):ew:=⟨p.root,p.off,[]⟩
def SY(p:ew)(n:Nat):Nat:=match p.hops with
 | []=>n
 |_::_=>1
def rooted(p:ew):SP Unit:=match p.hops with
 | []=>.ret ()
 |_::_=>.rdT ((p.root-2)/2) λt=>match t with
  |.ptr q ws=>if q.root==p.root&&q.hops.isEmpty then chk q 0 ws else .fail
  |_=>.fail
def grabs:Nat->List (Option Nat×TV)->SP (List GP)
 |_,[]=>.ret []
 |i,(some n,.ptr p vs)::r=>(chk p p.hops.length vs).bind λ_=>(rooted p).bind λ_=>(Ii p.base (SY p n)).bind λl=>(grabs (i+1) r).bind λq=>.ret (⟨i,p.base,vs.take 1,l⟩::q)
 |i,(some 0,.pk _ _)::r=>grabs (i+1) r
 |i,(_,t)::r=>if vC t then grabs (i+1) r else .fail
def touch(p:ew):SP Unit:=.rdC p.root p.off λtv=>.wrC p.root p.off tv (.ret ())
def rechk:List GP->SP Unit
 | []=>.ret ()
 |g::r=>(chk g.p g.p.hops.length g.vs).bind λ_=>(touch g.p).bind λ_=>rechk r
def qA:List Nat->Bool
 | []=>true
 |x::r=>!r.contains x&&qA r
def argT(i:Nat):TV->TV
 |.ptr p _=>.ptr ⟨2*i+2,0,p.hops⟩ (List.replicate (p.hops.length+1) 0)
 |.pk _ _=>.pk ⟨2*i+3,0,[]⟩ [0,0]
 |t=>t
def argTs:Nat->List TV->List TV
 |_,[]=>[]
 |i,t::r=>argT i t::argTs (i+1) r
def iA{α:Type}:Nat->List α->List (Nat×α)
 |_,[]=>[]
 |i,t::r=>(i,t)::iA (i+1) r
def mkSt(vals:List TV)(pts:Pts):St:=⟨iA 0 vals,pts,[]⟩
def KS:TV->Bool
 |.dead=>true
 |_=>false
def putBack:List (GP×List TV)->SP Unit
 | []=>.ret ()
 |(g,l)::r=>(putBack r).bind λ_=>if l.length=g.cells.length&&l.all λt=>!KS t then putL g.p l else .fail
def lA:List RSh->List TV->List TV
 | [],_=>[]
 |.one::r,l=>l.headD .dead::lA r l.tail
 |.agg n::r,l=>.agg (l.take n)::lA r (l.drop n)
 |.ptr::r,l=>.dead::lA r l
def w8(sh:List RSh)(l:List TV):TV:=
 match lA sh l with
 | [x]=>x
 |l=>.tup l
def uf:List RSh->Nat->Bool
 | [],n=>n==0
 |.one::r,n=>decide (0<n)&&uf r (n-1)
 |.agg m::r,n=>decide (m<=n)&&uf r (n-m)
 |.ptr::_,_=>false
def landR(dst:Option Nat)(res:MQ):SP Unit:=
 match dst with
 |some d=>(names d res.cells).bind λl=>wr d (w8 res.sh l)
 |none=>.ret ()
def isP(r:MQ):Bool:=match r.sh,r.cells with
 |.ptr::_,.ptr _ _::_=>true
 |_,_=>false
def landP(dst:Option Nat)(q:List GP)(cells:List TV):SP Unit:=
 match dst with
 |none=>.ret ()
 |some d=>match cells,q with
  |.ptr pl _::l,[g]=>if pl.root==2*g.i+2&&g.p.hops.isEmpty then(rdVs (uj g.p.root (g.p.off+pl.off) pl.hops.length)).bind λvs=>wr d (KE (.ptr ⟨g.p.root,g.p.off+pl.off,pl.hops⟩ vs) l)else .fail
  |_,_=>.fail
def callV(F:gD)(dst:Option Nat)(f:FuncId)(ns:List (Option Nat))(vals:List TV):SP Unit:=
 (takeOwns 0 (ns.zip vals)).bind λow=>(grabs 0 (ns.zip vals)).bind λq=>(rechk q).bind λ_=>
  if qA (q.map (·.p.root))&&q.all (λg=>decide (0<g.cells.length))then
   (mB (F f (argTs 0 vals) (q.map (λg=>(2*g.i+2,g.cells))++ow.map λx=>(2*x.1+3,[x.2])))).bind λr=>
    if r.2.map (·.1)=q.map (λg=>2*g.i+2)++ow.map (λx=>2*x.1+3)&&(isP r.1||uf r.1.sh r.1.cells.length)then(putBack (q.zip (r.2.map (·.2)))).bind λ_=>if isP r.1 then landP dst q r.1.cells else landR dst r.1 else .fail
  else .fail
inductive BxC where
 |arg (i:Nat)
 |val (x:Value)
structure Env where
 box:FuncId->Option (Nat×List BxC)
 ps:FuncId->List (Option Nat)
def bxT(vals:List TV):BxC->TV
 |.arg i=>vals.getD i .dead
 |.val x=>.v x
def bxV(asq:List Value):BxC->Value
 |.arg i=>asq.getD i undef
 |.val x=>x
def evBox(dst:Option Nat)(tm:List BxC)(vals:List TV):SP Unit:=
 match dst with
 |some d=>(takeL false (tm.map (bxT vals))).bind λl=>.new (2*d+2) l (.rdV (2*d+2,0,0) λg=>wr d (.ptr ⟨2*d+2,0,[]⟩ [g]))
 |none=>.fail
def QV(E:Env)(f:FuncId)(n m:Nat):List (Option Nat):=(List.range m).map λk=>(E.ps f).getD (n+k) none
def see1:TV->SP TV
 |.v x=>.ret (.v x)
 |.sl c=>.ret (.sl c)
 |.ow []=>.ret (.sl [])
 |.pk p vs=>(chk p (p.hops.length+1) vs).bind λ_=>.rdC p.root p.off λtv=>match eO tv p.hops with|some (.ow c)=>.ret (TV.ow c).imm|_=>.fail
 |_=>.fail
def seeL:List TV->SP (List TV)
 | []=>.ret []
 |t::r=>(see1 t).bind λt'=>(seeL r).bind λl=>.ret (t'::l)
def seeA:TV->SP TV
 |.agg l=>(seeL l).bind λl'=>.ret (.agg l')
 |.ip cs=>.ret (.ip cs)
 |.fn f cap=>if cap.all Jv then .ret (.fn f cap)else .fail
 |t=>see1 t
def seeAs:List Opd->SP (List TV)
 | []=>.ret []
 |x::r=>(opd x).bind λt=>(seeA t).bind λt'=>(seeAs r).bind λl=>.ret (t'::l)
def callB(F:gD)(dst:Option Nat)(f:FuncId)(vals:List TV):SP Unit:=
 (mB (F f vals [])).bind λr=>if r.2.length=0&&r.1.cells.all IN&&uf r.1.sh r.1.cells.length then(match dst with|some d=>wr d (w8 r.1.sh r.1.cells)|none=>.ret ())else .fail
def evCall(E:Env)(F:gD)(dst:Option Nat):TOp->SP Unit
 |.call k (.f f) args=>
  if k then(argVs args).bind λvals=>match E.box f with
   |some x=>if vals.length=x.1 then evBox dst x.2 vals else .fail
   |none=>callV F dst f (args.map (·.1)) vals
  else(seeAs (args.map (·.2))).bind λvals=>callB F dst f vals
 |.call _ (.t i) args=>.rdT i λt=>match t with
  |.fn f caps=>(argVs args).bind λvals=>callV F dst f (args.map (·.1)++QV E f args.length caps.length) (vals++caps)
  |_=>.fail
 |_=>.fail
section
variable {P:Program} {M:Fm} {σ σ':St} {H:List TV} {xs:List Value} {ts:Array Value} {w:World} {G:Gh} {a:Act} {o:Oper}
theorem S3(hI:Inv M σ [] [] a.tmps w G){x:Option Nat×Opd}{x':Operand}(hx:dZ x'=some x.2){t:TV}(hr:(argV x).run σ=some (t,σ')):
 ∃G',o5 M w a.tmps σ [] G σ' [] [] G'/\TmR w (G'.F M.A) σ'.v (eU M σ' []) G' t (a.eval x'):=by
 unfold argV at hr;obtain⟨t0,σ1,h1,h2⟩:=dN hr;obtain⟨rfl,ht⟩:=fJ hI.tmr hx h1
 have Vu:∀(l:List TV×Bool)(σ2:St),(takeV false t0).run σ1=some (l,σ2)->t=tu l.2 (l.1.map TV.imm)->σ'=σ2->∃G',o5 M w a.tmps σ1 [] G σ' [] [] G'/\TmR w (G'.F M.A) σ'.v (eU M σ' []) G' t (a.eval x'):=by
  rintro l σ2 h3 rfl rfl;obtain⟨xs,G1,hg,hsh,hok,Zq⟩:=Ko hI ht h3;obtain⟨G2,ZF,ZM⟩:=hg.1.dropImm (zd hok);refine⟨G2,hg.trans ZF,?_⟩;have hlen:=hg.1.hand
  rcases hsh with⟨e1,e2⟩|⟨e1,y,e2,e3⟩
  ·rw[e1,e2];simp only[tu,if_true];refine .agg (by simp[hlen]) λj hj=>?_
   have ZQ:j<l.1.length:=by simpa using hj
   have:=ZM j ZQ;simp only[List.getElem_map]
   have e:xs.toArray.getD j undef=xs.getD j undef:=by simp
   rw[e];exact this.toTm
  ·rw[e1,e3];subst e2
   have Xv:l.1.length=1:=by simpa using hlen
   obtain⟨t1,X4⟩:∃t1,l.1=[t1]:=List.length_eq_one_iff.1 Xv;have:=ZM 0 (by omega);simp only[X4,List.getElem_cons_zero,List.getD_cons_zero]at this;simp only[X4,tu,List.map_cons,List.map_nil,List.headD_cons];exact this.toTm
 have Yc:t=t0->σ'=σ1->∃G',o5 M w a.tmps σ1 [] G σ' [] [] G'/\TmR w (G'.F M.A) σ'.v (eU M σ' []) G' t (a.eval x'):=by
  rintro rfl rfl;exact⟨G,o5.refl hI,ht⟩
 split at h2
 ·simp only[SP.run,oSJ,oPJ]at h2;exact Yc h2.1.symm h2.2.symm
 cases t0 with
 |ip cs=>
  simp only[SP.run,oSJ,oPJ]at h2;exact Yc h2.1.symm h2.2.symm
 |fn f cap=>
  simp only[SP.run,oSJ,oPJ]at h2;exact Yc h2.1.symm h2.2.symm
 |ptr p vs=>
  simp only[SP.run,oSJ,oPJ]at h2;exact Yc h2.1.symm h2.2.symm
 |_=>
  simp only at h2;obtain⟨l,σ2,h3,h4⟩:=dN h2;simp only[SP.run,oSJ,oPJ]at h4;exact Vu l σ2 h3 h4.1.symm h4.2.symm
theorem Lj:∀{l:List (Option Nat×Opd)}{l':List Operand}{Zr:List TV}{σ σ':St}{G:Gh},Inv M σ [] [] a.tmps w G->l'.length=l.length->(∀j (h:j<l.length)(h':j<l'.length),dZ l'[j]=some l[j].2)->(argVs l).run σ=some (Zr,σ')->
 ∃G',o5 M w a.tmps σ [] G σ' [] [] G'/\Zr.length=l.length/\∀j (h:j<Zr.length)(h':j<l'.length),TmR w (G'.F M.A) σ'.v (eU M σ' []) G' Zr[j] (a.eval l'[j]):=by
 intro l
 induction l with
 |nil=>
  intro l' Zr σ σ' G hI hl hc hr;obtain⟨rfl,rfl⟩:=hr;exact⟨G,o5.refl hI,rfl,λj h=>by simp at h⟩
 |cons x l ih=>
  intro l' Zr σ σ' G hI hl hc hr
  cases l' with
  |nil=>simp at hl
  |cons x' l'=>
   simp only[argVs]at hr;obtain⟨t,σ1,h1,h2⟩:=dN hr;obtain⟨r,σ2,h3,h4⟩:=dN h2;obtain⟨rfl,rfl⟩:=h4;obtain⟨G1,Zv,X4⟩:=S3 hI (by have:=hc 0 (by simp) (by simp);simpa using this) h1;obtain⟨G2,ZF,e,hts⟩:=ih (l':=l') Zv.1 (by simpa using hl) (λj h h'=>by have:=hc (j+1) (by simpa using h) (by simp_all);simpa using this) h3;refine⟨G2,Zv.trans ZF,by simp[e],λj h h'=>?_⟩
   cases j with
   |zero=>exact ZF.tm X4
   |succ j=>exact hts j (by simpa using h) (by simp_all)
end
section
variable {P:Program} {M:Fm} {σ σ':St} {H:List TV} {xs:List Value} {ts:Array Value} {w:World} {G:Gh} {a:Act} {o:Oper}
theorem LB{t t' t2:TV}{p:ew}{y:TV×St}(hp:(peek1 p t).run σ=some (t',σ'))(hr:(take1 true t').run σ=some y):lJ y.2.v p.root p.off p.hops.length=lJ σ.v p.root p.off p.hops.length:=by
 cases t with
 |v x=>
  obtain⟨rfl,rfl⟩:=hp;simp only[take1,SP.run,oSJ]at hr;rw[<- hr]
 |sl c=>
  obtain⟨rfl,rfl⟩:=hp;simp only[take1,SP.run,oSJ]at hr;rw[<- hr]
 |ow c=>
  simp only[peek1]at hp;obtain⟨vs,σ1,h1,h2⟩:=dN hp;obtain⟨rfl,_⟩:=h2;obtain⟨_,σ2,h3,h4⟩:=dN hr;have e1:σ2=σ:=(eI h3).1;subst e1;simp only[SP.run]at h4;split at h4
  ·simp only[if_true]at h4;obtain⟨l,hl,ho,h5⟩:=eS h4;simp only[SP.run,oSJ]at h5;rw[mP]
   have hv:∀q,y.2.v q=σ2.v q+if(p.root,p.off,p.hops.length+1)=q then 1 else 0:=λq=>by rw[<- h5];exact iC σ2.vr _ q
   refine⟨by simp_all,λd hd=>?_⟩;rw[hv,oIN]
   ·omega
   ·intro e
    simp_all
  ·simp[SP.run]at h4
 |_=>simp[peek1,SP.run]at hp
theorem QH:∀{n:Nat}{p:ew}{ad:Addr}{l:List TV}{σ σ':St}{H:List TV}{xs:List Value}{G:Gh},Inv M σ H xs ts w G->p.root≠1->G.addr w p=some ad->(Ii p n).run σ=some (l,σ')->
 l.length=n/\∃us G',o5 M w ts σ H G σ' (H++l) (xs++us) G'/\us.length=n/\(∀j (h:j<us.length),w.cell? ⟨ad.block,ad.off+j,none⟩=some us[j]/\w.frozen? ⟨ad.block,ad.off+j,none⟩=false)/\∀j (h:j<l.length),fQ l[j]=true\/pV l[j]=true:=by
 intro n
 induction n with
 |zero=>
  intro p ad l σ σ' H xs G hI h1 ha hr;obtain⟨rfl,rfl⟩:=hr;exact⟨rfl,[],G,by simpa using o5.refl hI,rfl,λj h=>by simp at h,λj h=>by simp at h⟩
 |succ n ih=>
  intro p ad l σ σ' H xs G hI h1 ha hr;simp only[Ii]at hr;obtain⟨t,σ1,h2,h3⟩:=dN hr;obtain⟨e1,hg⟩:=gy h2;have e1:σ1=σ:=e1;subst e1;obtain⟨t',σ2,h4,h5⟩:=dN h3;have hd:=vk h4;obtain⟨hB,u,fp,Y2,hown,hv⟩:=hI.named h1 ha hg hd;obtain⟨rfl,ZL⟩:=xg hI h1 hg hown hv h4;obtain⟨t2,σ3,h6,h7⟩:=dN h5;have XX:=LB (t2:=t2) h4 h6;obtain⟨G1,Zv,Zq⟩:=j6 hI ZL h6
  have hgE:eO (eU M σ2 H p.root p.off) p.hops=some t:=by rw[eQ (by exact h1)];exact hg
  obtain⟨u0,ZB,ZD,hcu0,Xt,_⟩:=hI.core.set p hB hgE;obtain⟨_,XF,_⟩:=Zv.2.2.1.ptr p ad t h1 XX ha hgE
  have Zc:(⟨ad.block,ad.off+0,none⟩:Addr)=ad:=by obtain⟨b,o,s⟩:=ad;simp only at ZD;subst ZD;rfl
  have hcell:=mQ h6
  cases n with
  |zero=>
   obtain⟨rfl,rfl⟩:=h7;refine⟨rfl,[u],G1,Zv,rfl,λj h=>?_,λj h=>?_⟩
   ·obtain rfl:j=0:=by simp at h;omega
    rw[Zc];exact⟨Y2,Xt⟩
   ·obtain rfl:j=0:=by simp at h;omega
    exact hcell
  |succ n=>
   simp only at h7;split at h7
   ·obtain⟨r,σ4,h8,h9⟩:=dN h7;obtain⟨rfl,rfl⟩:=h9;obtain⟨e2,us,G2,ZF,e3,e4,e5⟩:=ih Zv.1 (by rw[fT];exact h1) (qP 1 XF) h8;refine⟨by simp[e2],u::us,G2,by simpa using Zv.trans ZF,by simp[e3],λj h=>?_,λj h=>?_⟩
    ·cases j with
     |zero=>rw[Zc];exact⟨Y2,Xt⟩
     |succ j=>
      have:=e4 j (by simpa using h);simp only[List.getElem_cons_succ];rw[show ad.off+(j+1)=ad.off+1+j by omega];exact this
    ·cases j with
     |zero=>exact hcell
     |succ j=>exact e5 j (by simpa using h)
   ·simp[SP.run]at h7
theorem Mv{r o:Nat}{c:List (List TV)}{l:List TV}(hc:σ.c r o=.ow c)(h:(Ii ⟨r,o,[]⟩ 1).run σ=some (l,σ')):l=[.ow c]:=by
 simp only[Ii]at h;obtain⟨t,σ1,h1,h2⟩:=dN h;obtain⟨e1,hg⟩:=gy h1;subst e1;simp only[hc,eO,oSJ]at hg;subst hg;obtain⟨t',σ2,h3,h4⟩:=dN h2;obtain⟨vs,σ3,h5,h6⟩:=dN h3;obtain⟨rfl,rfl⟩:=h6;rw[AR]at h5
 injection h5 with h5
 injection h5 with _ h5
 subst h5;obtain⟨t2,σ4,h7,h8⟩:=dN h4;simp only[SP.run,oSJ,oPJ]at h8;rw[<- h8.1];obtain⟨_,σ5,h9,ZN⟩:=dN h7;have e2:σ5=σ1:=(eI h9).1;subst e2;simp only[SP.run,hc,eO,if_true]at ZN;split at ZN
 ·simp_all
 ·cases ZN
theorem NJ(hI:Inv M σ H xs ts w G){p:ew}(h:(rooted p).run σ=some ((),σ')):σ'=σ/\(p.hops≠[]->∃b o n,G.β p.root=some (b,o,n)):=by
 obtain⟨r,o,hops⟩:=p
 cases hops with
 |nil=>
  simp only[rooted,SP.run,oSJ,oPJ,true_and]at h
  simp_all
 |cons hp hs=>
  simp only[rooted,SP.run]at h;have ht:=hI.tmr ((r-2)/2)
  cases hq:σ.t ((r-2)/2)with
  |ptr q ws=>
   rw[hq]at h ht;simp only at h;split at h
   ·rename_i hc;simp at hc;have e1:σ'=σ:=(eI h).1;have e2:=(eI h).2;refine⟨e1,λ_=>?_⟩
    cases ht with
    |ptr V0 h0 hv hok=>
     obtain⟨_,ad,t,ha,_,_⟩:=hok (by rw[hc.2];exact e2);unfold Gh.addr at ha;rw[hc.2]at ha;rw[<- hc.1]
     cases hb:G.β q.root with
     |none=>rw[hb]at ha;simp at ha
     |some y=>obtain⟨b,o,n⟩:=y;exact⟨b,o,n,rfl⟩
   ·simp[SP.run]at h
  |_=>rw[hq]at h;simp[SP.run]at h
inductive zj (w:World):Nat->List TV->List Value->List (GP×Addr)->List Value->Prop
 |nil (i:Nat):zj w i [] [] [] []
 |ptr {i:Nat} {p:ew} {hp:List Hop} {vs vs0:List Nat} {cells:List TV} {ad ad0:Addr} {u:List Value} {ts:List TV} {xs:List Value} {K:List (GP×Addr)} {us:List Value} (hr:p.root≠1) (hb:p.hops=[]) (hs:ad.spot=none) (h0:hp=[]->ad0=ad)
  (hh:hp≠[]->fi w ((w.cell? ⟨ad.block,ad.off,none⟩).getD undef) hp=some ad0/\∃t,eO (cells.getD 0 .dead) hp=some t)(hu:u.length=cells.length)
  (hc:∀j (h:j<u.length),w.cell? ⟨ad.block,ad.off+j,none⟩=some u[j]/\w.frozen? ⟨ad.block,ad.off+j,none⟩=false)(hok:∀j (h:j<cells.length),fQ cells[j]=true\/pV cells[j]=true)
  (h:zj w (i+1) ts xs K us):zj w i (.ptr ⟨p.root,p.off,hp⟩ vs0::ts) (.pointer (some ad0)::xs) ((⟨i,p,vs,cells⟩,ad)::K) (u++us)
 |arg {i:Nat} {t:TV} {x:Value} {ts:List TV} {xs:List Value} {K:List (GP×Addr)} {us:List Value} (ha:vC t=true) (h:zj w (i+1) ts xs K us):zj w i (t::ts) (x::xs) K us
 |own {i:Nat} {p:ew} {vs:List Nat} {x:Value} {ts:List TV} {xs:List Value} {K:List (GP×Addr)} {us:List Value} (h:zj w (i+1) ts xs K us):zj w i (.pk p vs::ts) (x::xs) K us
inductive Px:Nat->List (Option Nat×TV)->List Value->List (Nat×TV)->List Value->Prop
 |nil (i:Nat):Px i [] [] [] []
 |own {i:Nat} {p:ew} {vs:List Nat} {l:List (Option Nat×TV)} {x:Value} {xs:List Value} {c:List (List TV)} {ow:List (Nat×TV)} {zs:List Value} (h:Px (i+1) l xs ow zs):Px i ((some 0,.pk p vs)::l) (x::xs) ((i,.ow c)::ow) (x::zs)
 |skip {i:Nat} {y:Option Nat×TV} {l:List (Option Nat×TV)} {x:Value} {xs:List Value} {ow:List (Nat×TV)} {zs:List Value} (h:Px (i+1) l xs ow zs):Px i (y::l) (x::xs) ow zs
theorem Ep{i:Nat}{y:Option Nat×TV}{l:List (Option Nat×TV)}(hn:∀p vs,y≠(some 0,.pk p vs)):takeOwns i (y::l)=takeOwns (i+1) l:=by
 have ⟨n,t⟩:=y
 cases t with
 |pk p vs=>
  cases n with
  |none=>rfl
  |some n=>
   cases n with
   |zero=>simp_all
   |succ n=>rfl
 |_=>cases n with
  |none=>rfl
  |some n=>cases n<;>rfl
theorem IT:∀{l:List (Option Nat×TV)}{asq:List Value}{i:Nat}{ow:List (Nat×TV)}{σ σ':St}{H:List TV}{xs:List Value}{G:Gh},Inv M σ H xs ts w G->asq.length=l.length->(∀j (h:j<l.length)(h':j<asq.length),TmR w (G.F M.A) σ.v (eU M σ H) G l[j].2 asq[j])->(takeOwns i l).run σ=some (ow,σ')->
 ∃zs G',o5 M w ts σ H G σ' (H++ow.map (·.2)) (xs++zs) G'/\Px i l asq ow zs/\∀(j:Nat)(p:ew)(vs:List Nat),l[j]?=some (some 0,TV.pk p vs)->∃x∈ow,x.1=i+j:=by
 intro l
 induction l with
 |nil=>
  intro asq i ow σ σ' H xs G hI hl _ hr;obtain⟨rfl,rfl⟩:=hr;have:asq=[]:=oEN (by simpa using hl);subst this;exact⟨[],G,by simpa using o5.refl hI,.nil i,λj p vs h=>by simp at h⟩
 |cons y l ih=>
  intro asq i ow σ σ' H xs G hI hl ht hr
  cases asq with
  |nil=>simp at hl
  |cons x asq=>
   have ht0:=ht 0 (by simp) (by simp);simp only[List.getElem_cons_zero]at ht0;by_cases hp:∃p vs,y=(some 0,.pk p vs)
   ·obtain⟨p,vs,rfl⟩:=hp;simp only[takeOwns]at hr;obtain⟨t,σ1,h1,h2⟩:=dN hr;split at h2
    case isFalse=>simp[SP.run]at h2
    rename_i how;obtain⟨q,σ2,h3,h4⟩:=dN h2;obtain⟨rfl,rfl⟩:=h4
    obtain⟨c,rfl⟩:∃c,t=.ow c:=by cases t<;>simp[pV]at how;exact⟨_,rfl⟩
    obtain⟨G1,Zv,_⟩:=j6 hI ht0 h1;obtain⟨zs,G2,ZF,k1,k2⟩:=ih (asq:=asq) Zv.1 (by simpa using hl) (λj h h'=>Zv.tm (by have:=ht (j+1) (by simpa using h) (by simpa using h');simpa only [List.getElem_cons_succ]using this)) h3;refine⟨x::zs,G2,by simpa[List.append_assoc]using Zv.trans ZF,.own k1,λj p vs h=>?_⟩
    cases j with
    |zero=>exact⟨_,List.mem_cons_self,rfl⟩
    |succ j=>
     obtain⟨z,h5,h6⟩:=k2 j p vs (by simpa using h);exact⟨z,List.mem_cons_of_mem _ h5,by omega⟩
   ·have hn:=λp vs e=>hp ⟨p,vs,e⟩;rw[Ep hn]at hr;obtain⟨zs,G2,ZF,k1,k2⟩:=ih (asq:=asq) hI (by simpa using hl) (λj h h'=>by have:=ht (j+1) (by simpa using h) (by simpa using h');simpa only [List.getElem_cons_succ]using this) hr;refine⟨zs,G2,ZF,.skip k1,λj p vs h=>?_⟩
    cases j with
    |zero=>exact absurd (by simpa using h) (hn p vs)
    |succ j=>
     obtain⟨z,h5,h6⟩:=k2 j p vs (by simpa using h);exact⟨z,h5,by omega⟩
theorem QF:∀{l:List (Option Nat×TV)}{i:Nat}{q:List GP}{σ σ':St},(grabs i l).run σ=some (q,σ')->∀(j:Nat)(n:Option Nat)(p:ew)(vs:List Nat),l[j]?=some (n,TV.pk p vs)->n=some 0:=by
 intro l
 induction l with
 |nil=>simp_all
 |cons y l ih=>
  intro i q σ σ' hr j n p vs h;obtain⟨m,t⟩:=y
  cases j with
  |zero=>
   simp at h;obtain⟨rfl,rfl⟩:=h
   cases m with
   |none=>simp[grabs,vC,SP.run]at hr
   |some m=>
    cases m with
    |zero=>rfl
    |succ m=>simp[grabs,vC,SP.run]at hr
  |succ j=>
   have hj:l[j]?=some (n,.pk p vs):=by simpa using h
   have Ys:∀{σ1 σ2:St}{q1:List GP},(grabs (i+1) l).run σ1=some (q1,σ2)->n=some 0:=λh1=>ih h1 j n p vs hj
   have arg:((if vC t then grabs (i+1) l else .fail:SP (List GP))).run σ=some (q,σ')->n=some 0:=by
    intro h1;split at h1
    ·exact Ys h1
    ·simp[SP.run]at h1
   cases t with
   |ptr p2 vs2=>
    cases m with
    |none=>exact arg hr
    |some m=>
     obtain⟨_,σ1,h1,h2⟩:=dN hr;obtain⟨_,σ0,_,h2⟩:=dN h2;obtain⟨cells,σ2,h3,h4⟩:=dN h2;obtain⟨q1,σ3,h5,h6⟩:=dN h4;exact Ys h5
   |pk p2 vs2=>
    cases m with
    |none=>exact arg hr
    |some m=>
     cases m with
     |zero=>exact Ys hr
     |succ m=>exact arg hr
   |_=>cases m with
    |none=>exact arg hr
    |some m=>cases m<;>exact arg hr
theorem QG:∀{l:List (Option Nat×TV)}{asq:List Value}{i:Nat}{q:List GP}{σ σ':St}{H:List TV}{xs:List Value}{G:Gh},Inv M σ H xs ts w G->asq.length=l.length->(∀j (h:j<l.length)(h':j<asq.length),TmR w (G.F M.A) σ.v (eU M σ H) G l[j].2 asq[j])->(grabs i l).run σ=some (q,σ')->
 ∃us G' K,o5 M w ts σ H G σ' (H++q.flatMap (·.cells)) (xs++us) G'/\K.map (·.1)=q/\zj w i (l.map (·.2)) asq K us/\∀x∈K,TmR w (G'.F M.A) σ'.v (eU M σ' (H++q.flatMap (·.cells))) G' (.ptr x.1.p x.1.vs) (.pointer (some x.2)):=by
 intro l
 induction l with
 |nil=>
  intro asq i q σ σ' H xs G hI hl _ hr;obtain⟨rfl,rfl⟩:=hr;have:asq=[]:=oEN (by simpa using hl);subst this;exact⟨[],G,[],by simpa using o5.refl hI,rfl,.nil i,λx hx=>by simp at hx⟩
 |cons x l ih=>
  intro asq i q σ σ' H xs G hI hl ht hr
  cases asq with
  |nil=>simp at hl
  |cons y asq=>
   obtain⟨n,t⟩:=x;have ht0:=ht 0 (by simp) (by simp);simp only[List.getElem_cons_zero]at ht0
   have ZT:∀{σ1:St}{H1:List TV}{xs1:List Value}{G1:Gh},o5 M w ts σ H G σ1 H1 xs1 G1->∀j (h:j<l.length)(h':j<asq.length),TmR w (G1.F M.A) σ1.v (eU M σ1 H1) G1 l[j].2 asq[j]:=λhg j h h'=>
    hg.tm (by have:=ht (j+1) (by simpa using h) (by simpa using h');simpa only [List.getElem_cons_succ]using this)
   have Zh:(∀p vs,t≠.ptr p vs)->(∀p vs,(n,t)≠(some 0,.pk p vs))->∃us G' K,o5 M w ts σ H G σ' (H++q.flatMap (·.cells)) (xs++us) G'/\K.map (·.1)=q/\zj w i (((n,t)::l).map (·.2)) (y::asq) K us/\∀x∈K,TmR w (G'.F M.A) σ'.v (eU M σ' (H++q.flatMap (·.cells))) G' (.ptr x.1.p x.1.vs) (.pointer (some x.2)):=by
    intro hne hne2
    have XH:(if vC t then grabs (i+1) l else .fail:SP (List GP)).run σ=some (q,σ'):=by
     cases n with
     |none=>cases t<;>exact hr
     |some n=>cases n<;>cases t<;>first|exact absurd rfl (hne _ _)|exact absurd rfl (hne2 _ _)|exact hr
    split at XH
    ·rename_i Vx;obtain⟨us,G',K,e1,e2,e3,e4⟩:=ih (asq:=asq) hI (by simpa using hl) (ZT (o5.refl hI)) XH;exact⟨us,G',K,e1,e2,.arg Vx e3,e4⟩
    ·simp[SP.run]at XH
   by_cases hp:∃p vs,t=.ptr p vs
   ·obtain⟨p,vs,rfl⟩:=hp
    cases n with
    |none=>simp[grabs,vC,SP.run]at hr
    |some n=>
     simp only[grabs]at hr;obtain⟨_,σ1,h1,h2⟩:=dN hr;have e1:σ1=σ:=(eI h1).1;have e2:=(eI h1).2;subst e1;obtain⟨_,σr,hR,h2'⟩:=dN h2;obtain⟨rfl,YJ⟩:=NJ hI hR;obtain⟨cells,σ2,h3,h4⟩:=dN h2';obtain⟨q1,σ3,h5,h6⟩:=dN h4;simp only[SP.run,oSJ,oPJ]at h6;obtain⟨rfl,rfl⟩:=h6;generalize hz:y=z at ht0
     cases ht0 with
     |ptr V0 h0 hv h=>
      obtain⟨Z7,ad0,t0,ha,rfl,Z5⟩:=h e2;obtain⟨r,o,hops⟩:=p
      have Wh:∃ad,G.addr w (⟨r,o,[]⟩:ew)=some ad/\(hops=[]->ad0=ad)/\(hops≠[]->fi w ((w.cell? ⟨ad.block,ad.off,none⟩).getD undef) hops=some ad0):=by
       cases hops with
       |nil=>exact⟨ad0,ha,λ_=>rfl,λe=>absurd rfl e⟩
       |cons hp1 hs=>
        obtain⟨b,o0,n0,hb⟩:=YJ (by simp);refine⟨⟨b,o0+o,none⟩,by simp only[Gh.addr];rw[hb],λe=>by simp at e,λ_=>?_⟩;have ha':fi w (G.val w r o) (hp1::hs)=some ad0:=ha;unfold Gh.val at ha';rw[hb]at ha';exact ha'
      obtain⟨ad,hba,hb0,hbh⟩:=Wh;have hrb:(⟨r,o,hops⟩:ew).base.root≠1:=Z7;obtain⟨k1,u,G1,Zv,k2,k3,k4⟩:=QH (p:=(⟨r,o,hops⟩:ew).base) hI hrb hba h3;obtain⟨us,G2,K,ZF,k5,k6,k7⟩:=ih (asq:=asq) Zv.1 (by simpa using hl) (ZT Zv) h5
      have Zm:TmR w (G.F M.A) σr.v (eU M σr H) G (.ptr (⟨r,o,hops⟩:ew).base (vs.take 1)) (.pointer (some ad)):=
       .ptr V0 h0 (by rw[hv];simp[lJ,ew.base]) λ_=>⟨Z7,ad,_,hba,rfl,rfl⟩
      refine⟨u++us,G2,(⟨i,(⟨r,o,hops⟩:ew).base,vs.take 1,cells⟩,ad)::K,by simpa[List.append_assoc]using Zv.trans ZF,by simp[k5],.ptr (p:=(⟨r,o,hops⟩:ew).base) (hp:=hops) Z7 rfl (nU hba) hb0 (λhne=>⟨hbh hne,?_⟩) (by omega) k3 k4 k6,λx hx=>?_⟩
      ·have Xd:eO (σr.c r o) hops=some t0:=by
        have:=Z5;rw[eQ (by exact Z7)]at this;exact this
       cases hops with
       |nil=>exact absurd rfl hne
       |cons h1 hs=>
        cases hc:σr.c r o with
        |ow c=>
         have:=Mv hc h3;rw[this];rw[hc]at Xd;exact⟨t0,Xd⟩
        |_=>rw[hc]at Xd;simp[eO]at Xd
      ·have e3:H++(({ i:=i,p:=(⟨r,o,hops⟩:ew).base,vs:=vs.take 1,cells:=cells }:GP)::q1).flatMap (·.cells)=H++cells++q1.flatMap (·.cells):=by simp[List.append_assoc]
       rw[e3];rcases List.mem_cons.1 hx with rfl|hx
       ·exact ZF.tm (Zv.tm Zm)
       ·exact k7 x hx
   ·by_cases hw:∃p vs,(n,t)=(some 0,.pk p vs)
    ·obtain⟨p,vs,hw⟩:=hw
     injection hw with h1 h2
     subst h1;subst h2;have XH:(grabs (i+1) l).run σ=some (q,σ'):=hr;obtain⟨us,G',K,e1,e2,e3,e4⟩:=ih (asq:=asq) hI (by simpa using hl) (ZT (o5.refl hI)) XH;exact⟨us,G',K,e1,e2,.own e3,e4⟩
    ·exact Zh (λp vs e=>hp ⟨p,vs,e⟩) λp vs e=>hw ⟨p,vs,e⟩
theorem IF{α:Type}:∀{l:List (Nat×α)}{r:Nat}{x:α},eV l r=some x->gS l r x=l:=by
 intro l
 induction l with
 |nil=>intro r x h;simp[eV]at h
 |cons y l ih=>
  intro r x h;simp[eV]at h;simp[gS]
  grind
theorem Pz{p:ew}(hr:(touch p).run σ=some ((),σ')):σ'=σ/\∃l,eV σ.ce p.root=some l/\p.off<l.length:=by
 simp[touch]at hr;obtain⟨l,hl,ho,h2⟩:=eS (k:=.ret ()) (by simpa[SP.run]using hr);simp[SP.run]at h2;refine⟨?_,l,hl,ho⟩;rw[<- h2]
 have e:l.set p.off (σ.c p.root p.off)=l:=by
  have:σ.c p.root p.off=l[p.off]:=by simp[St.c,hl,ho]
  simp_all
 rw[e,IF hl]
theorem P9(hI:Inv M σ H xs ts w G):∀{q:List GP}{σ':St},(rechk q).run σ=some ((),σ')->σ'=σ/\∀g∈q,∀x,TmR w (G.F M.A) σ.v (eU M σ H) G (.ptr g.p g.vs) x->g.p.root≠1/\∃ad,x=.pointer (some ad)/\G.addr w g.p=some ad/\g.vs=lJ σ.v g.p.root g.p.off g.p.hops.length/\(∃t,eO (eU M σ H g.p.root g.p.off) g.p.hops=some t)/\((∃o n,G.β g.p.root=some (ad.block,o,n))\/G.φ g.p.root g.p.off ad.block):=by
 intro q
 induction q with
 |nil=>
  intro σ' hr;simp only[rechk,SP.run,oPJ,true_and]at hr
  simp_all
 |cons g q ih=>
  intro σ' hr;obtain⟨_,σ1,h1,h2⟩:=dN hr;have e1:σ1=σ:=(eI h1).1;have e2:=(eI h1).2;subst e1;obtain⟨_,σ2,h3,h4⟩:=dN h2;obtain⟨rfl,l,hl,ho⟩:=Pz h3;obtain⟨rfl,hq⟩:=ih h4;refine⟨rfl,λg' hg' x hx=>?_⟩;rcases List.mem_cons.1 hg' with rfl|hg'
  ·cases hx with
   |ptr V0 h0 hv h=>
    obtain⟨Z7,ad,t0,ha,hx,Z5⟩:=h e2
    have hB:G.addrB w g'.p=some ad:=by
     refine pa ha λhp b o0 n hb=>?_;have:=hI.shape _ _ _ _ hb l hl;omega
    refine⟨Z7,ad,hx,ha,e2,⟨t0,Z5⟩,?_⟩
    rcases hI.core.where_ g'.p hB Z5 with⟨_,b,o0,n,h5,_,h6⟩|⟨_,h5⟩
    ·left;exact⟨o0,n,by rw[h5,h6]⟩
    ·right;exact h5
  ·exact hq g' hg' x hx
end
def prK:List (GP×Addr)->Nat->Option (Nat×Nat×Nat)
 | [],_=>none
 |(g,ad)::K,r=>if 2*g.i+2=r then some (ad.block,ad.off,g.cells.length)else prK K r
def bsK:List (GP×Addr)->Nat->Nat
 | [],_=>0
 |(g,_)::K,r=>if 2*g.i+2=r then 0 else g.cells.length+bsK K r
def ceK(K:List (GP×Addr)):List (Nat×List TV):=K.map λx=>(2*x.1.i+2,x.1.cells)
def ceO(ow:List (Nat×TV)):List (Nat×List TV):=ow.map λx=>(2*x.1+3,[x.2])
def owK:List (Nat×TV)->Nat->Option Nat
 | [],_=>none
 |(i,_)::q,r=>if 2*i+3=r then some 0 else(owK q r).map (· + 1)
def mJ(K:List (GP×Addr)):List TV:=K.flatMap λx=>x.1.cells
section
theorem nq{K:List (GP×Addr)}{r b o n:Nat}(h:prK K r=some (b,o,n)):∃x∈K,r=2*x.1.i+2/\b=x.2.block/\o=x.2.off/\n=x.1.cells.length/\eV (ceK K) r=some x.1.cells/\∀j (_:j<x.1.cells.length),(mJ K)[bsK K r+j]?=x.1.cells[j]?:=by
 induction K with
 |nil=>simp[prK]at h
 |cons y K ih=>
  obtain⟨g,ad⟩:=y;simp only[prK]at h;split at h
  ·rename_i e
   injection h with h
   injection h with h1 h
   injection h with h2 h3
   refine⟨(g,ad),by simp,e.symm,h1.symm,h2.symm,h3.symm,by simp[ceK,eV,e],λj hj=>?_⟩;simp only[bsK,e,if_true,mJ,Nat.zero_add];exact List.getElem?_append_left hj
  ·rename_i e;obtain⟨x,h1,h2,h3,h4,h5,h6,h7⟩:=ih h;refine⟨x,by simp[h1],h2,h3,h4,h5,by simpa[ceK,eV,e]using h6,λj hj=>?_⟩;simp only[bsK,e,if_false,mJ,List.flatMap_cons];rw[List.getElem?_append_right (by omega)];rw[show g.cells.length+bsK K r+j-g.cells.length=bsK K r+j by omega];exact h7 j hj
theorem Lb{K:List (GP×Addr)}{r:Nat}{l:List TV}(h:eV (ceK K) r=some l):prK K r≠none:=by
 induction K with
 |nil=>simp[ceK,eV]at h
 |cons y K ih=>
  simp[ceK,eV]at h;simp[prK];split
  ·simp
  ·rename_i e;rw[oIN e]at h;exact ih h
theorem Rw{K:List (GP×Addr)}:∀r b o n r' b' o' n',prK K r=some (b,o,n)->prK K r'=some (b',o',n')->∀j j',j<n->j'<n'->bsK K r+j=bsK K r'+j'->r=r':=by
 induction K with
 |nil=>intro r b o n r' b' o' n' h;simp[prK]at h
 |cons y K ih=>
  intro r b o n r' b' o' n' h h' j j' hj ZQ e;simp[prK,bsK]at h h' e
  grind
theorem zj.slot{w:World}{i:Nat}{ts:List TV}{asq us:List Value}{K:List (GP×Addr)}(h:zj w i ts asq K us):∀x∈K,i<=x.1.i/\x.1.p.hops=[]/\∃p vs,ts[x.1.i-i]?=some (.ptr p vs):=by
 induction h with
 |nil=>intro x hx;simp at hx
 | @ptr i p hp vs vs0 cells ad ad0 u ts xs K us hr hb hs h0 hh hu hc hok h ih=>
  intro x hx;rcases List.mem_cons.1 hx with rfl|hx
  ·simp_all
  ·obtain⟨h1,h3,p,vs,h2⟩:=ih x hx;refine⟨by omega,h3,p,vs,?_⟩;rw[show x.1.i-i=(x.1.i-(i+1))+1 by omega];simpa using h2
 | @arg i t x0 ts xs K us ha h ih=>
  intro x hx;obtain⟨h1,h3,p,vs,h2⟩:=ih x hx;refine⟨by omega,h3,p,vs,?_⟩;rw[show x.1.i-i=(x.1.i-(i+1))+1 by omega];simpa using h2
 | @own i p0 vs0 x0 ts xs K us h ih=>
  intro x hx;obtain⟨h1,h3,p,vs,h2⟩:=ih x hx;refine⟨by omega,h3,p,vs,?_⟩;rw[show x.1.i-i=(x.1.i-(i+1))+1 by omega];simpa using h2
theorem zj.len{w:World}{i:Nat}{ts:List TV}{asq us:List Value}{K:List (GP×Addr)}(h:zj w i ts asq K us):ts.length=asq.length/\us.length=(mJ K).length:=by
 induction h with
 |nil=>exact⟨rfl,rfl⟩
 |ptr hr hb hs h0 hh hu hc hok h ih=>exact⟨by simp_all,by simp[mJ,hu]at ih⊢;exact ih.2⟩
 |arg ha h ih=>simp_all
 |own h ih=>simp_all
theorem zj.ok{w:World}{i:Nat}{ts:List TV}{asq us:List Value}{K:List (GP×Addr)}(h:zj w i ts asq K us):∀x∈K,∀j (h:j<x.1.cells.length),fQ x.1.cells[j]=true\/pV x.1.cells[j]=true:=by
 induction h with
 |nil=>simp_all
 |ptr hr hb hs h0 hh hu hc hok h ih=>
  intro x hx;rcases List.mem_cons.1 hx with rfl|hx
  ·exact hok
  ·exact ih x hx
 |arg ha h ih=>exact ih
 |own h ih=>exact ih
theorem zj.here{w:World}{i:Nat}{ts:List TV}{asq us:List Value}{K:List (GP×Addr)}(h:zj w i ts asq K us):∀r b o n,prK K r=some (b,o,n)->∀j,j<n->w.cell? ⟨b,o+j,none⟩=some (us.getD (bsK K r+j) undef)/\w.frozen? ⟨b,o+j,none⟩=false:=by
 induction h with
 |nil=>intro r b o n h;simp[prK]at h
 | @ptr i p hp0 vs vs0 cells ad ad0 u ts xs K us hr hb hs h0 hh hu hc hok h ih=>
  intro r b o n hp j hj;simp only[prK]at hp;simp only[bsK];split at hp
  ·rename_i e
   injection hp with hp
   injection hp with h1 hp
   injection hp with h2 h3
   subst h1;subst h2;rw[oIP e,Nat.zero_add]
   have hju:j<u.length:=by omega
   have:=hc j hju;refine⟨?_,this.2⟩;rw[this.1,oGD,List.getElem?_append_left hju,oGE hju];rfl
  ·rename_i e;rw[oIN e];have:=ih r b o n hp j hj;refine⟨?_,this.2⟩;rw[this.1];simp;rw[List.getElem?_append_right (by omega)];rw[show cells.length+bsK K r+j-u.length=bsK K r+j by omega]
 |arg ha h ih=>exact ih
 |own h ih=>exact ih
end
theorem yK{α:Type}{f:α->Nat}:∀{l:List α},qA (l.map f)=true->∀{x y:α},x∈l->y∈l->f x=f y->x=y:=by
 intro l
 induction l with
 |nil=>simp_all
 |cons z l ih=>
  intro h x y hx hy e;simp only[List.map_cons,qA,oBA,Bool.not_eq_true',List.contains_eq_mem,decide_eq_false_iff_not]at h;rcases List.mem_cons.1 hx with Z0|Z0
  ·rcases List.mem_cons.1 hy with XI|XI
   ·rw[Z0,XI]
   ·exact absurd (by rw[<- Z0,e];exact List.mem_map_of_mem XI) h.1
  ·rcases List.mem_cons.1 hy with XI|XI
   ·simp_all
   ·exact ih h.2 Z0 XI e
section
variable {P:Program} {M:Fm} {σ σ':St} {H:List TV} {xs:List Value} {ts:Array Value} {w:World} {G:Gh} {a:Act} {o:Oper}
theorem sZ{α:Type}:∀{a b:List (Nat×α)}{r:Nat},eV (a++b) r=match eV a r with|some x=>some x|none=>eV b r:=by
 intro a
 induction a with
 |nil=>intro b r;rfl
 |cons y a ih=>
  intro b r;simp[eV];split
  ·rfl
  ·exact ih
theorem xj:∀{q:List (Nat×TV)}{r j:Nat},owK q r=some j->∃h:j<q.length,r=2*q[j].1+3/\eV (ceO q) r=some [q[j].2]:=by
 intro q
 induction q with
 |nil=>intro r j h;simp[owK]at h
 |cons y q ih=>
  intro r j h;obtain⟨i,t⟩:=y;simp only[owK]at h;split at h
  ·rename_i e
   injection h with h
   subst h;exact⟨by simp,e.symm,by simp[ceO,eV,e]⟩
  ·rename_i e
   cases hq:owK q r with
   |none=>simp_all
   |some k=>
    simp[hq,oMS]at h;subst h
    have:eV (ceO ((i,t)::q)) r=eV (ceO q) r:=by simp[ceO,eV,e]
    simp_all
theorem QU:∀{q:List (Nat×TV)}{r:Nat}{l:List TV},eV (ceO q) r=some l->owK q r≠none:=by
 intro q
 induction q with
 |nil=>intro r l h;simp[ceO,eV]at h
 |cons y q ih=>
  intro r l h;have ⟨i,t⟩:=y;simp[owK];split
  ·simp
  ·rename_i e
   have:eV (ceO ((i,t)::q)) r=eV (ceO q) r:=by simp[ceO,eV,e]
   simp_all
theorem Px.facts{i:Nat}{l:List (Option Nat×TV)}{asq:List Value}{ow:List (Nat×TV)}{zs:List Value}(h:Px i l asq ow zs):zs.length=ow.length/\(∀x∈ow,i<=x.1/\∃c,x.2=.ow c)/\∀x∈ow,∃k,owK ow (2*x.1+3)=some k/\asq[x.1-i]?=zs[k]?:=by
 induction h with
 |nil=>simp_all
 | @own i p vs l x xs c ow zs h ih=>
  obtain⟨h1,h2,h3⟩:=ih;refine⟨by simp[h1],λy hy=>?_,λy hy=>?_⟩
  ·rcases List.mem_cons.1 hy with rfl|hy
   ·exact⟨Nat.le_refl _,c,rfl⟩
   ·exact⟨by have:=(h2 y hy).1;omega,(h2 y hy).2⟩
  ·rcases List.mem_cons.1 hy with rfl|hy
   ·exact⟨0,by simp[owK],by simp⟩
   ·obtain⟨k,h4,h5⟩:=h3 y hy;have X8:=(h2 y hy).1;refine⟨k+1,by simp[owK];rw[oIN (by omega),h4];rfl,?_⟩;rw[show y.1-i=(y.1-(i+1))+1 by omega];simpa using h5
 | @skip i y0 l x xs ow zs h ih=>
  obtain⟨h1,h2,h3⟩:=ih;refine⟨h1,λy hy=>⟨by have:=(h2 y hy).1;omega,(h2 y hy).2⟩,λy hy=>?_⟩;obtain⟨k,h4,h5⟩:=h3 y hy;have X8:=(h2 y hy).1;refine⟨k,h4,?_⟩;rw[show y.1-i=(y.1-(i+1))+1 by omega];simpa using h5
theorem zj.hands{vals:List TV}{asq us:List Value}{K:List (GP×Addr)}{l:List (Option Nat×TV)}{ow:List (Nat×TV)}{zs:List Value}(hI:Inv M σ (ow.map (·.2)++mJ K) (zs++us) ts w G)(h:zj w 0 vals asq K us)(ho:Px 0 l asq ow zs)(Zu:qA ((K.map (·.1)).map (·.p.root))=true)(ZV:∀x∈K,0<x.1.cells.length)
 (P':∀x∈K,x.1.p.root≠1/\((∃o n,G.β x.1.p.root=some (x.2.block,o,n))\/G.φ x.1.p.root x.1.p.off x.2.block)):MR (ow.map (·.2)++mJ K) (zs++us) w G M.A (prK K) (λr=>ow.length+bsK K r) (ceK K++ceO ow) (owK ow):=by
 obtain⟨hz,Xx,_⟩:=ho.facts
 have hodd:∀r,r%2=1->eV (ceK K) r=none:=λr hr=>by
  cases hc:eV (ceK K) r with
  |none=>rfl
  |some l=>
   cases hp:prK K r with
   |none=>exact absurd hp (Lb hc)
   |some x=>obtain⟨b,o,n⟩:=x;obtain⟨x,_,h2,_⟩:=nq hp;omega
 refine⟨λr b o n hp=>?_,λr b o n hp=>?_,λr l hl=>?_,λr j hj=>?_,λr j r' b o n hj hp j' ZQ=>by have:=(xj hj).1;omega,λr r' j hj ZQ=>?_,λr b o n r' b' o' n' h1 h2 j j' hj ZQ e=>Rw _ _ _ _ _ _ _ _ h1 h2 _ _ hj ZQ (by omega),λr b o n r' o' n' h1 h2=>?_,λr b o n hp hF=>?_,λr b o n hp j hφ=>?_,λr b o n hp j hj=>?_⟩
 ·obtain⟨x,h1,h2,_,_,h5,_⟩:=nq hp;exact⟨by omega,by rw[h5];exact ZV x h1⟩
 ·obtain⟨x,h1,h2,_,_,h5,h6,h7⟩:=nq hp;refine⟨_,by rw[sZ,h6],h5.symm,λj hj=>?_⟩;have:=h7 j hj;rw[oGE hj]at this;obtain⟨k1,k2⟩:=oGS this;refine⟨by simp;omega,?_,zd (h.ok x h1) j hj⟩;rw[List.getElem_append_right (by simp;omega)];rw[<- k2];congr 1;simp;omega
 ·rw[sZ]at hl
  cases hc:eV (ceK K) r with
  |some l2=>exact .inl (Lb hc)
  |none=>rw[hc]at hl;exact .inr (QU hl)
 ·obtain⟨h1,h2,h3⟩:=xj hj;obtain⟨_,c,hc⟩:=Xx ow[j] (List.getElem_mem h1);refine⟨by omega,by omega,c,by simp;omega,?_,?_⟩
  ·rw[sZ,hodd r (by omega)];simp only;rw[h3,hc]
  ·rw[List.getElem_append_left (by simpa using h1)];simpa using hc
 ·obtain⟨_,h2,_⟩:=xj hj;obtain⟨_,h3,_⟩:=xj ZQ;omega
 ·obtain⟨x,x1,x2,x3,x4,x5,_⟩:=nq h1;obtain⟨y,y1,y2,y3,y4,y5,_⟩:=nq h2
  have Z8:x.1.p.root=y.1.p.root:=by
   rcases(P' x x1).2 with⟨o1,n1,hb1⟩|hb1
   ·rcases(P' y y1).2 with⟨o2,n2,ZY⟩|ZY
    ·rw[<- y3]at ZY;rw[<- x3]at hb1;exact hI.core.boxd _ _ _ _ _ _ _ hb1 ZY
    ·rw[<- y3]at ZY;rw[<- x3]at hb1;exact absurd ZY (hI.core.boxf _ _ _ _ hb1 _ _)
   ·rcases(P' y y1).2 with⟨o2,n2,ZY⟩|ZY
    ·rw[<- y3]at ZY;rw[<- x3]at hb1;exact absurd hb1 (hI.core.boxf _ _ _ _ ZY _ _)
    ·rw[<- y3]at ZY;rw[<- x3]at hb1;exact(hI.core.dis _ _ _ _ _ hb1 ZY).1
  have Xn:x.1=y.1:=yK Zu (List.mem_map_of_mem x1) (List.mem_map_of_mem y1) Z8;rw[x2,y2,Xn]
 ·obtain⟨x,x1,x2,x3,x4,x5,_⟩:=nq hp;subst x3
  rcases(P' x x1).2 with⟨o1,n1,hb1⟩|hb1
  ·exact hF.2.2 _ _ _ _ hb1 rfl
  ·exact hF.2.1 _ _ hb1
 ·obtain⟨x,x1,x2,x3,x4,x5,_⟩:=nq hp;subst x3
  rcases(P' x x1).2 with⟨o1,n1,hb1⟩|hb1
  ·exact hI.core.boxf _ _ _ _ hb1 _ _ hφ
  ·exact(P' x x1).1 (hI.core.dis _ _ _ _ _ hb1 hφ).1
 ·have:=h.here _ _ _ _ hp j hj;refine⟨?_,this.2⟩;rw[this.1,oGD,oGD,List.getElem?_append_right (by omega)];rw[show ow.length+bsK K r+j-zs.length=bsK K r+j by omega]
theorem TmR.handed{F F':Nat->Prop}{V V':Vs}{C C':Cs}{G G':Gh}{t:TV}{x:Value}(h:TmR w F V C G t x)(ha:vC t=true)(hF:∀k,F k->F' k):TmR w F' V' C' G' t x:=by
 cases h with
 |v h=>exact .v h
 |sl h=>exact .sl (h.frame (λ_ _ _=>rfl) λk hk _=>hF k hk)
 |nil=>exact .nil
 |ip u hc hr=>exact .ip u (λj hj=>⟨hF _ (hc j hj).1,(hc j hj).2⟩) λj hj=>(hr j hj).frame (λ_ _ _=>rfl) λk hk _=>hF k hk
 | @agg l xs hl h=>
  refine .agg hl λj hj=>?_;simp[vC,List.all_eq_true]at ha;have h1:=ha _ (List.getElem_mem hj);have h2:=h j hj;generalize l[j]=e at h1 h2;generalize xs.getD j undef=y at h2
  cases h2 with
  |v h=>exact .v h
  |sl h=>exact .sl (h.frame (λ_ _ _=>rfl) λk hk _=>hF k hk)
  |_=>simp_all
 | @fn f l xs hl h=>
  simp[vC]at ha;exact .fn hl λj hj=>(((h j hj).imC (ha _ (List.getElem_mem hj))).frame (λ_ _ _=>rfl) λk hk _=>hF k hk).toTm
 |_=>simp[vC]at ha
theorem Gb{α:Type}:∀{l:List α}{i j:Nat},eV (iA i l) j=if i<=j then l[j-i]? else none:=by
 intro l
 induction l with
 |nil=>intro i j;simp[iA,eV]
 |cons x l ih=>
  intro i j;simp[iA,eV];by_cases e:i=j
  ·simp_all
  ·rw[oIN e,ih]
   grind
theorem IH:∀{l:List TV}{i j:Nat},(argTs i l)[j]?=(l[j]?).map (argT (i+j)):=by
 intro l
 induction l with
 |nil=>intro i j;simp[argTs]
 |cons t l ih=>
  intro i j
  cases j with
  |zero=>simp[argTs]
  |succ j=>simp[argTs,ih];rw[show i+1+j=i+(j+1) by omega]
def Q8(w:World)(K:List (GP×Addr))(x:GP×Addr)(t:TV)(y:Option Value):Prop:=
 ∃hp vs ad0,t=.ptr ⟨x.1.p.root,x.1.p.off,hp⟩ vs/\y=some (.pointer (some ad0))/\prK K (2*x.1.i+2)=some (x.2.block,x.2.off,x.1.cells.length)/\eV (ceK K) (2*x.1.i+2)=some x.1.cells/\x.2.spot=none/\(hp=[]->ad0=x.2)/\
  (hp≠[]->fi w ((w.cell? ⟨x.2.block,x.2.off,none⟩).getD undef) hp=some ad0/\∃t,eO (x.1.cells.getD 0 .dead) hp=some t)
theorem Q8.cons{w:World}{K:List (GP×Addr)}{x z:GP×Addr}{t:TV}{y:Option Value}(h:Q8 w K x t y)(hne:z.1.i≠x.1.i):Q8 w (z::K) x t y:=by
 have ⟨hp,vs,ad0,h1,h2,h3,h4,h5,h6,h7⟩:=h;have ⟨g,ad⟩:=z;refine⟨hp,vs,ad0,h1,h2,?_,?_,h5,h6,h7⟩
 ·simp[prK];rw[oIN (by simp only at hne;omega)];exact h3
 ·simp[ceK,eV];rw[oIN (by simp only at hne;omega)];exact h4
theorem zj.slotArg{w:World}{i:Nat}{vals:List TV}{asq us:List Value}{K:List (GP×Addr)}(h:zj w i vals asq K us):∀j t,vals[j]?=some t->vC t=true\/(∃p vs,t=.pk p vs)\/∃x∈K,x.1.i=i+j/\Q8 w K x t asq[j]?:=by
 induction h with
 |nil=>intro j t h;simp at h
 | @ptr i p hp vs vs0 cells ad ad0 u ts xs K us hr hb hs h0 hh hu hc hok h ih=>
  intro j t ht
  cases j with
  |zero=>
   right;right;refine⟨(⟨i,p,vs,cells⟩,ad),by simp,rfl,hp,vs0,ad0,?_,by simp,by simp[prK],by simp[ceK,eV],hs,h0,hh⟩;simpa using ht.symm
  |succ j=>
   rcases ih j t (by simpa using ht)with h1|h1|⟨x,h1,h2,h3⟩
   ·exact .inl h1
   ·exact .inr (.inl h1)
   ·right;right;exact⟨x,by simp[h1],by omega,by simpa using h3.cons (z:=(⟨i,p,vs,cells⟩,ad)) (by show i≠x.1.i;omega)⟩
 | @arg i t0 x0 ts xs K us ha h ih=>
  intro j t ht
  cases j with
  |zero=>simp_all
  |succ j=>
   rcases ih j t (by simpa using ht)with h1|h1|⟨x,h1,h2,h3⟩
   ·exact .inl h1
   ·exact .inr (.inl h1)
   ·exact .inr (.inr ⟨x,h1,by omega,by simpa using h3⟩)
 | @own i p0 vs0 x0 ts xs K us h ih=>
  intro j t ht
  cases j with
  |zero=>right;left;have:TV.pk p0 vs0=t:=by simpa using ht
         exact⟨p0,vs0,this.symm⟩
  |succ j=>
   rcases ih j t (by simpa using ht)with h1|h1|⟨x,h1,h2,h3⟩
   ·exact .inl h1
   ·exact .inr (.inl h1)
   ·exact .inr (.inr ⟨x,h1,by omega,by simpa using h3⟩)
theorem zj.enter{vals:List TV}{asq us:List Value}{K:List (GP×Addr)}{l:List (Option Nat×TV)}{ow:List (Nat×TV)}{zs:List Value}(hI:Inv M σ (ow.map (·.2)++mJ K) (zs++us) ts w G)(h:zj w 0 vals asq K us)(ho:Px 0 l asq ow zs)(hpk:∀j p vs,vals[j]?=some (.pk p vs)->∃x∈ow,x.1=j)
 (hh:MR (ow.map (·.2)++mJ K) (zs++us) w G M.A (prK K) (λr=>ow.length+bsK K r) (ceK K++ceO ow) (owK ow))
 (ht:∀j (h:j<vals.length)(h':j<asq.length),TmR w (G.F M.A) σ.v (eU M σ (ow.map (·.2)++mJ K)) G vals[j] asq[j]){N:Nat}(hN:asq.length<=N):
 Inv (M.into w G (prK K) N) (mkSt (argTs 0 vals) (ceK K++ceO ow)) [] [] (asq.toArray++Array.replicate (N-asq.length) undef) w (G.into (prK K) (λr=>ow.length+bsK K r) (owK ow) (zs++us)):=by
 refine hI.enter hh (by simp;omega) λi=>?_;rw[Gb];simp only[Nat.zero_le,if_true,Nat.sub_zero,IH,Nat.zero_add]
 cases hv:vals[i]? with
 |none=>exact .dead
 |some t=>
  obtain⟨hi,hvi⟩:=oGS hv
  have Zt:i<asq.length:=by rw[<- h.len.1];exact hi
  have hx:(asq.toArray++Array.replicate (N-asq.length) undef).getD i undef=asq[i]:=by
   simp[Array.getD_eq_getD_getElem?,Array.getElem?_append,Zt]
  rw[hx];have Zm:=ht i hi Zt;rw[hvi]at Zm;simp only[oMS,Option.getD_some];rcases h.slotArg i t hv with Vx|⟨p,vs,rfl⟩|⟨x,x1,x2,hp,vs,ad0,rfl,x4,x5,x5c,x6,x7,x8⟩
  ·have e:argT i t=t:=by cases t<;>first|rfl|simp[vC]at Vx
   rw[e];exact Zm.handed Vx λk hk=>hh.F hk
  ·simp only[argT];obtain⟨x,Z0,rfl⟩:=hpk i p vs hv;obtain⟨hz,h2,h3⟩:=ho.facts;obtain⟨k,h4,h5⟩:=h3 x Z0;obtain⟨hk,_,h6⟩:=xj h4;have hodd:=(hh.owc _ _ h4);obtain⟨_,_,c',hj,h8,h9⟩:=hodd;refine .pk (λ_=>0) (λ_=>Nat.le_refl _) rfl λ_=>⟨by simp,c',?_,?_⟩
   ·have hpn:prK K (2*x.1+3)=none:=by
     cases hp:prK K (2*x.1+3)with
     |none=>rfl
     |some y=>obtain⟨b,o,n⟩:=y;have:=(hh.even _ _ _ _ hp).1;omega
    simp only[Gh.hv,hvT];unfold Gh.val Gh.into;simp only[hpn,h4];rw[Nat.sub_zero,oGE Zt,oGE (by omega)]at h5
    injection h5 with h5
    rw[oGD,List.getElem?_append_left (by omega),oGE (by omega),h5];rfl
   ·have:eU (M.into w G (prK K) N) ⟨iA 0 (argTs 0 vals),ceK K++ceO ow,[]⟩ [] (2*x.1+3) 0=.ow c':=by
     rw[eQ (by show 2*x.1+3≠1;omega)];simp[St.c,h8]
    rw[this];rfl
  ·simp only[argT]
   have e:asq[i]=.pointer (some ad0):=by
    rw[oGE Zt]at x4;injection x4
   rw[e]
   have hxi:x.1.i=i:=by omega
   rw[hxi]at x5 x5c
   have Zc:(⟨x.2.block,x.2.off+0,none⟩:Addr)=x.2:=by
    obtain⟨g,ad⟩:=x;obtain⟨b,o,s⟩:=ad;simp only at x6⊢;subst x6;rfl
   have hcell:eU (M.into w G (prK K) N) ⟨iA 0 (argTs 0 vals),ceK K++ceO ow,[]⟩ [] (2*i+2) 0=x.1.cells.getD 0 .dead:=by
    rw[eQ (by show 2*i+2≠1;omega)];simp only[St.c,sZ,x5c]
   refine .ptr (λ_=>0) (λ_=>Nat.le_refl _) (by simp[lJ,List.replicate_succ,List.map_const']) λ_=>?_
   cases hp with
   |nil=>
    refine⟨by simp,x.2,(eU (M.into w G (prK K) N) ⟨iA 0 (argTs 0 vals),ceK K++ceO ow,[]⟩ [] (2*i+2) 0),?_,by rw[x7 rfl],rfl⟩;unfold Gh.addr Gh.into;simp only[x5];rw[Zc]
   |cons h1 hs=>
    obtain⟨x9,t0,x10⟩:=x8 (by simp);refine⟨by simp,ad0,t0,?_,rfl,by show eO (eU _ _ [] (2*i+2) 0) (h1::hs)=_;rw[hcell];exact x10⟩;show fi w (Gh.val _ w (2*i+2) 0) (h1::hs)=some ad0;unfold Gh.val Gh.into;simp only[x5];exact x9
end
theorem Io{α:Type}{f:GP×Addr->List α}{K:List (GP×Addr)}(hf:∀x∈K,(f x).length=x.1.cells.length){r b o n:Nat}(h:prK K r=some (b,o,n)):∃x∈K,r=2*x.1.i+2/\b=x.2.block/\o=x.2.off/\n=x.1.cells.length/\eV (K.map λx=>(2*x.1.i+2,f x)) r=some (f x)/\∀j,j<n->(K.flatMap f)[bsK K r+j]?=(f x)[j]?:=by
 induction K with
 |nil=>simp[prK]at h
 |cons y K ih=>
  obtain⟨g,ad⟩:=y;simp only[prK]at h;split at h
  ·rename_i e
   injection h with h
   injection h with h1 h
   injection h with h2 h3
   have hl:=hf (g,ad) (by simp);simp only at hl;refine⟨(g,ad),by simp,e.symm,h1.symm,h2.symm,h3.symm,by simp[eV,e],λj hj=>?_⟩;simp only[bsK,e,if_true,Nat.zero_add];exact List.getElem?_append_left (by omega)
  ·rename_i e;obtain⟨x,h1,h2,h3,h4,h5,h6,h7⟩:=ih (λx hx=>hf x (by simp[hx])) h;have hl:=hf (g,ad) (by simp);simp only at hl;refine⟨x,by simp[h1],h2,h3,h4,h5,by simpa[eV,e]using h6,λj hj=>?_⟩;simp only[bsK,e,if_false,List.flatMap_cons];rw[List.getElem?_append_right (by omega)];rw[show g.cells.length+bsK K r+j-(f (g,ad)).length=bsK K r+j by omega];exact h7 j hj
theorem T5{K:List (GP×Addr)}(Zu:qA (K.map λx=>x.1.i)=true){j:Nat}(h:j<(mJ K).length):∃r b o n t,prK K r=some (b,o,n)/\t<n/\j=bsK K r+t:=by
 induction K generalizing j with
 |nil=>simp[mJ]at h
 |cons y K ih=>
  obtain⟨g,ad⟩:=y;simp only[List.map_cons,qA,oBA,Bool.not_eq_true',List.contains_eq_mem,decide_eq_false_iff_not]at Zu;simp only[mJ,List.flatMap_cons,List.length_append]at h;by_cases hj:j<g.cells.length
  ·exact⟨2*g.i+2,ad.block,ad.off,g.cells.length,j,by simp[prK],hj,by simp[bsK]⟩
  ·obtain⟨r,b,o,n,t,h1,h2,h3⟩:=ih Zu.2 (j:=j-g.cells.length) (by simp only[mJ];omega)
   have hne:2*g.i+2≠r:=λe=>by
    obtain⟨x,x1,x2,_⟩:=nq h1;exact Zu.1 (List.mem_map.2 ⟨x,x1,by omega⟩)
   exact⟨r,b,o,n,t,by simp[prK,hne,h1],h2,by simp[bsK,hne];omega⟩
def RWs(w:World):List (GP×Addr)->World->World
 | [],W=>W
 |x::K,W=>RWs w K (jC w W x.2.block)
theorem Q4{w:World}{K:List (GP×Addr)}:∀{W:World},(RWs w K W).heap.size=W.heap.size:=by
 induction K with
 |nil=>intro W;rfl
 |cons x K ih=>intro W;simp[RWs];rw[ih,qy]
theorem Gd{w:World}{K:List (GP×Addr)}:∀{W:World},(RWs w K W).os=W.os/\(RWs w K W).tape=W.tape/\(RWs w K W).output=W.output:=by
 induction K with
 |nil=>intro W;exact⟨rfl,rfl,rfl⟩
 |cons x K ih=>
  intro W;simp[RWs];have ⟨r1,r2,r3,_⟩:=zp (w:=w) (W:=W) (b:=x.2.block)
  simp_all
theorem Ud{w:World}{K:List (GP×Addr)}{k:Nat}:∀{W:World},(∀x∈K,k≠x.2.block)->(RWs w K W).heap[k]?=W.heap[k]?:=by
 induction K with
 |nil=>intro W h;rfl
 |cons x K ih=>
  intro W h;simp[RWs];rw[ih λy hy=>h y (by simp[hy]),vj (h x (by simp))]
theorem Q5{w:World}{K:List (GP×Addr)}{k:Nat}(h2:k<w.heap.size):∀{W:World},k<W.heap.size->W.heap[k]?=w.heap[k]?->(RWs w K W).heap[k]?=w.heap[k]?:=by
 induction K with
 |nil=>intro W h1 h;exact h
 |cons x K ih=>
  intro W h1 h;refine ih (by rw[qy];exact h1) ?_;by_cases e:k=x.2.block
  ·rw[<- e];exact yD h1 h2
  ·rw[vj e];exact h
theorem Ue{w:World}{K:List (GP×Addr)}{k:Nat}(h2:k<w.heap.size):∀{W:World},k<W.heap.size->(∃x∈K,k=x.2.block)->(RWs w K W).heap[k]?=w.heap[k]?:=by
 induction K with
 |nil=>simp_all
 |cons x K ih=>
  intro W h1 h;simp[RWs];have ⟨y,hy,e⟩:=h;rcases List.mem_cons.1 hy with rfl|hy
  ·exact Q5 h2 (by rw[qy];exact h1) (by rw[e];rw[e]at h1 h2;exact yD h1 h2)
  ·exact ih (by rw[qy];exact h1) ⟨y,hy,e⟩
section
variable {P:Program} {M:Fm} {σ σ':St} {H:List TV} {xs:List Value} {ts:Array Value} {w:World} {G:Gh} {a:Act} {o:Oper}
theorem NU{p:ew}{t:TV}(h:(CL p t).run σ=some ((),σ')){r:Nat}(hr:r≠p.root)(o n:Nat):lJ σ'.v r o n=lJ σ.v r o n:=by
 unfold CL at h;simp only[SP.run]at h
 have bump:∀{vr:List (Key×Nat)},σ'.vr=vr->(∀q,wv vr q=wv σ.vr q+if(p.root,p.off,p.hops.length+1)=q then 1 else 0)->lJ σ'.v r o n=lJ σ.v r o n:=by
  intro vr e hv
  have Y5:∀q,σ'.v q=σ.v q+if(p.root,p.off,p.hops.length+1)=q then 1 else 0:=λq=>by unfold St.v;rw[e];exact hv q
  rw[mP]
  have hne:∀o' d,((p.root,p.off,p.hops.length+1):Key)≠(r,o',d):=λo' d e=>by
   simp_all
  simp_all
 cases hg:eO (σ.c p.root p.off) p.hops with
 |none=>simp[hg,SP.run]at h
 |some old=>
  simp only[hg]at h;split at h
  ·split at h
   ·obtain⟨l,hl,ho,h3⟩:=eS h;simp only[SP.run,oSJ,oPJ,true_and]at h3;exact bump (vr:=tP σ.vr (p.root,p.off,p.hops.length+1)) (by rw[<- h3]) λq=>iC _ _ _
   ·simp[SP.run]at h
  ·obtain⟨l,hl,ho,h3⟩:=eS h;simp only[SP.run,oSJ,oPJ,true_and]at h3
   have hv:σ'.v=σ.v:=by rw[<- h3];rfl
   rw[hv]
theorem NW:∀{l:List TV}{p:ew}{σ σ':St},(putL p l).run σ=some ((),σ')->∀{r:Nat},r≠p.root->∀o n,lJ σ'.v r o n=lJ σ.v r o n:=by
 intro l
 induction l with
 |nil=>
  intro p σ σ' h r hr o n;simp[putL,SP.run]at h;rw[h]
 |cons t l ih=>
  intro p σ σ' h r hr o n;have ⟨_,σ1,h1,h2⟩:=dN h;rw[<- NU h1 hr o n]
  cases l with
  |nil=>
   simp[SP.run]at h2;rw[h2]
  |cons t2 l=>
   simp only at h2;split at h2
   ·exact ih h2 (by rw[fT];exact hr) o n
   ·simp[SP.run]at h2
theorem GI:∀{q:List (GP×List TV)}{σ σ':St},(putBack q).run σ=some ((),σ')->∀{r:Nat},(∀x∈q,r≠x.1.p.root)->∀o n,lJ σ'.v r o n=lJ σ.v r o n:=by
 intro q
 induction q with
 |nil=>
  intro σ σ' h r hr o n;simp[putBack,SP.run]at h;rw[h]
 |cons x q ih=>
  intro σ σ' h r hr o n;have ⟨g,l⟩:=x;have ⟨_,σ1,h1,h2⟩:=dN h;split at h2
  ·rw[NW h2 (hr (g,l) (by simp)) o n];exact ih h1 (λx hx=>hr x (by simp[hx])) o n
  ·simp[SP.run]at h2
def Seg(w W:World)(x:GP×Addr)(vs:List Value):Prop:=
 ∃cur0 cur e fz,w.heap[x.2.block]?=some (.cells cur0 e fz)/\W.heap[x.2.block]?=some (.cells cur e fz)/\cur.size=cur0.size/\(∀j,(j<x.2.off\/x.2.off+vs.length<=j)->cur[j]?=cur0[j]?)/\∀j (h:j<vs.length),cur[x.2.off+j]?=some vs[j]
theorem LW{f:GP×Addr->List TV}{v:GP×Addr->List Value}(hfv:∀x,(f x).length=(v x).length):∀{K:List (GP×Addr)}{σ σ':St}{H0:List TV}{x0:List Value}{W:World}{G:Gh},H0.length=x0.length ->
 Inv M σ (H0++K.flatMap f) (x0++K.flatMap v) ts (RWs w K W) G->(∀x∈K,Seg w W x (v x))->(∀x∈K,f x≠[])->(∀x∈K,∀y∈K,x.2.block=y.2.block->x=y)->qA (K.map λx=>x.1.p.root)=true ->
 (∀x∈K,x.1.p.root≠1/\G.addr (RWs w K W) x.1.p=some x.2/\∃t,eO (eU M σ (H0++K.flatMap f) x.1.p.root x.1.p.off) x.1.p.hops=some t)->
 (putBack (K.map λx=>(x.1,f x))).run σ=some ((),σ')->∃G',Inv M σ' H0 x0 ts W G'/\σ'.tm=σ.tm/\mG M (RWs w K W) σ (H0++K.flatMap f) G W σ' H0 G'/\G'.β=G.β:=by
 intro K
 induction K with
 |nil=>
  intro σ σ' H0 x0 W G Wr hI _ _ _ _ _ hr;simp only[List.map_nil,putBack,SP.run,oSJ,oPJ,true_and]at hr;subst hr;have hI:Inv M σ (H0++[]) (x0++[]) ts W G:=hI;rw[List.append_nil,List.append_nil]at hI;refine⟨G,hI,rfl,?_,rfl⟩;show mG M W σ (H0++[]) G W σ H0 G;rw[List.append_nil];exact mG.refl _ _ _ _ _
 |cons x K ih=>
  intro σ σ' H0 x0 W G Wr hI hseg hne VJ Zu Z6 hr;simp only[List.map_cons,putBack]at hr;obtain⟨_,σ1,h1,h2⟩:=dN hr;split at h2
  case isFalse=>simp[SP.run]at h2
  rename_i YA;simp at YA;simp only[List.map_cons,qA,oBA,Bool.not_eq_true',List.contains_eq_mem,decide_eq_false_iff_not]at Zu;have hxK:∀y∈K,y.1.p.root≠x.1.p.root:=λy hy e=>Zu.1 (by rw[<- e];exact List.mem_map.2 ⟨y,hy,rfl⟩)
  have hbK:∀y∈K,x.2.block≠y.2.block:=λy hy e=>by
   have:=VJ x (by simp) y (by simp[hy]) e;exact hxK y hy (by rw[this])
  have ZE:Inv M σ ((H0++f x)++K.flatMap f) ((x0++v x)++K.flatMap v) ts (RWs w K (jC w W x.2.block)) G:=by
   simpa[RWs,List.append_assoc]using hI
  obtain⟨G1,hI1,htm1,hm1,hβ1⟩:=ih (W:=jC w W x.2.block) (by simp[Wr,hfv]) ZE (λy hy=>by
   obtain⟨cur0,cur,e,fz,s1,s2,s3⟩:=hseg y (by simp[hy])
   exact⟨cur0,cur,e,fz,s1,by rw[vj (Ne.symm (hbK y hy))];exact s2,s3⟩) (λy hy=>hne y (by simp[hy])) (λy hy z hz=>VJ y (by simp[hy]) z (by simp[hz])) Zu.2
   (λy hy=>by have:=Z6 y (by simp[hy]);simpa[RWs,List.append_assoc]using this) h1
  obtain⟨Z7,ha,t0,Z5⟩:=Z6 x (by simp)
  have XX:=GI h1 (r:=x.1.p.root) (λy hy=>by
   obtain⟨z,hz,rfl⟩:=List.mem_map.1 hy
   exact Ne.symm (hxK z hz)) x.1.p.off x.1.p.hops.length
  obtain⟨t1,XF,hget1⟩:=hm1.keeps.ptr x.1.p x.2 t0 Z7 XX (by simpa[RWs]using ha) (by simpa[List.append_assoc]using Z5)
  have Yf:(H0++f x).drop H0.length=f x:=by simp
  obtain⟨_,G2,H2,ZH,e1,e2,e3,e4,e5,e6⟩:=NX (k:=H0.length) hI1 Z7 XF Yf (hne x (by simp)) (λj hj hk=>by
   intro e
   have ZQ:j-H0.length<(f x).length:=by simp at hj;omega
   have:(H0++f x)[j]=(f x)[j-H0.length]:=by rw[List.getElem_append_right hk]
   rw[this]at e;have:=YA.2 _ (List.getElem_mem ZQ);rw[e]at this
   simp[KS]at this) h2
  obtain⟨cur0,cur,e,fz,s1,s2,s3,s4,s5⟩:=hseg x (by simp)
  have hxd:(x0++v x).drop H0.length=v x:=by rw[Wr];simp
  rw[hxd,Au s1 s2 s3 s4 s5]at ZH e5;obtain⟨WY,e7⟩:=ZH.trunc (k:=H0.length) e2
  have hT:H2.take H0.length=H0:=by
   apply List.ext_getElem
   ·simp[e1]
   ·intro j hj ZQ;rw[List.getElem_take];rw[e3 j (by rw[e1];simp;omega) (by simp;omega) ZQ];rw[List.getElem_append_left ZQ]
  have hX:(x0++v x).take H0.length=x0:=by rw[Wr];simp
  rw[hT]at WY e7;rw[hX]at WY;refine⟨G2,WY,e4.trans htm1,?_,e6.trans hβ1⟩;have hm2:mG M (jC w W x.2.block) σ1 (H0++f x) G1 W σ' H0 G2:=⟨e5.size,by rw[e7];exact e5.keeps,e5.heap,e5.free⟩;have:=hm1.trans hm2;simpa[RWs,List.append_assoc]using this
end
def u5(P:Program)(f:FuncId):Prop:=∀args w,(callFunc f args).run P w=.ok (.enter f args) w
theorem It{P:Program}{f:FuncId}{fn:Func}{c:Code}(hf:P.funcs[f]?=some fn)(B':(fn.name=="runtime.NumGoroutine")=false)(hb:fn.body=some c):u5 P f:=by
 intro args w;unfold callFunc
 simp_all
def Uv(M:Fm)(res:MQ)(v:Value)(σ2:St)(w2:World):Prop:=
 (∃ys ts2 G2,v=rB res.sh ys/\Inv M σ2 res.cells ys ts2 w2 G2/\∀j (h:j<res.cells.length),fQ res.cells[j]=true\/pV res.cells[j]=true)\/
 ∃q vs l pv ts2 G2,res.cells=.ptr q vs::l/\(∃sh,res.sh=.ptr::sh)/\l.all IN=true/\v=DW pv (l.map unV)/\Inv M σ2 [] [] ts2 w2 G2/\Ug w2 (eU M σ2 []) G2 q pv
def nz(P:Program)(F:gD):Prop:=
 ∀f vals pts res Zn,F f vals pts=some (res,Zn)->u5 P f/\∃N,vals.length<=N/\∀(M:Fm)(asq:List Value)(w:World)(G:Gh),asq.length=vals.length->M.N=N->M.w0=w->(∀r,M.pr r≠none->∃i p vs,vals[i]?=some (.ptr p vs)/\r=2*i+2)->
  Inv M (mkSt vals pts) [] [] (asq.toArray++Array.replicate (N-asq.length) undef) w G ->
  Calls P f asq.toArray w λe w2=>∃v σ2,e=.returned v/\Uv M res v σ2 w2/\Zn=pts.map λx=>(x.1,(eV σ2.ce x.1).getD [])
def Ps(P:Program)(E:Env):Prop:=
 ∀f n tm,E.box f=some (n,tm)->u5 P f/\(∀x,.val x∈tm->jJ x=true)/\∃ty,∀(asq:List Value)(w:World),asq.length=n->(∀y∈tm.map (bxV asq),y.oneCell'=true)->
  Calls P f asq.toArray w λe w'=>e=.returned (.pointer (some ⟨w.heap.size,0,none⟩))/\w'=w.alloc (.cells (tm.map (bxV asq)).toArray ty)
def uu:Op->TOp->Prop
 |.call ⟨.value f,args,_⟩,.call _ f' args'=>dZ f=some f'/\args'.length=args.size/\∀j (h:j<args'.length)(h':j<args.size),dZ args[j]=some args'[j].2
 |_,_=>False
def S1:TOp:=.call false (.c undef) []
def mo(op:Op)(t:TOp):Prop:=t=S1\/uu op t
section
variable {P:Program} {M:Fm} {σ σ':St} {H:List TV} {xs:List Value} {ts:Array Value} {w:World} {G:Gh} {a:Act} {o:Oper}
theorem IG:∀{l:List TV}{i:Nat},(argTs i l).length=l.length:=by
 intro l
 induction l with
 |nil=>intro i;rfl
 |cons t l ih=>intro i;simp[argTs,ih]
theorem Nu{F:Nat->Prop}{V:Vs}{C:Cs}:∀{sh:List RSh}{l:List TV}{ys:List Value},uf sh l.length=true->l.length=ys.length->(∀j (h:j<l.length),TmR w F V C G l[j] (ys.getD j undef))->
 (lA sh l).length=(iS sh ys).length/\∀j (h:j<(lA sh l).length),TmR w F V C G (lA sh l)[j] ((iS sh ys).getD j undef):=by
 intro sh
 induction sh with
 |nil=>intro l ys _ _ _;exact⟨rfl,λj h=>by simp[lA]at h⟩
 |cons s sh ih=>
  intro l ys hs hl ht
  cases s with
  |one=>
   simp only[uf,oBA,oDE]at hs
   cases l with
   |nil=>simp at hs
   |cons t l=>
    cases ys with
    |nil=>simp at hl
    |cons y ys=>
     obtain⟨e,h2⟩:=ih (l:=l) (ys:=ys) (by simpa using hs.2) (by simpa using hl) λj h=>by have:=ht (j+1) (by simpa using h);simpa using this
     refine⟨by simp[lA,iS,e],λj h=>?_⟩
     cases j with
     |zero=>have:=ht 0 (by simp);simpa[lA,iS]using this
     |succ j=>have:=h2 j (by simpa[lA]using h);simpa[lA,iS]using this
  |agg n=>
   simp only[uf,oBA,oDE]at hs
   obtain⟨e,h2⟩:=ih (l:=l.drop n) (ys:=ys.drop n) (by simpa using hs.2) (by simp[hl]) λj h=>by
    have h':n+j<l.length:=by simp at h;omega
    simp_all
   refine⟨by simp[lA,iS,e],λj h=>?_⟩
   cases j with
   |zero=>
    refine .agg (by simp;omega) λj hj=>?_
    have ZQ:j<n/\j<l.length:=by simp at hj;omega
    simp_all
   |succ j=>have:=h2 j (by simpa[lA]using h);simpa[lA,iS]using this
  |ptr=>simp[uf]at hs
theorem GB{F:Nat->Prop}{V:Vs}{C:Cs}{sh:List RSh}{l:List TV}{ys:List Value}(hs:uf sh l.length=true)(hl:l.length=ys.length)(ht:∀j (h:j<l.length),TmR w F V C G l[j] (ys.getD j undef)):TmR w F V C G (w8 sh l) (rB sh ys):=by
 obtain⟨e,h2⟩:=Nu hs hl ht;by_cases h1:∃x,lA sh l=[x]
 ·obtain⟨x,hx⟩:=h1;have ⟨y,hy⟩:∃y,iS sh ys=[y]:=List.length_eq_one_iff.1 (by simp_all)
  have e1:w8 sh l=x:=by unfold w8;rw[hx]
  have e2:rB sh ys=y:=by unfold rB;rw[hy]
  simp_all
 ·have hne:¬ ∃y,iS sh ys=[y]:=λ⟨y,hy⟩=>h1 (List.length_eq_one_iff.1 (by rw[e,hy];rfl))
  have e1:w8 sh l=TV.tup (lA sh l):=by
   unfold w8
   simp_all
  have e2:rB sh ys=Value.tuple (iS sh ys).toArray:=by
   unfold rB
   simp_all
  rw[e1,e2];refine .tup (by simp[e]) λj hj=>?_;have:=h2 j hj
  simp_all
theorem SE{res:MQ}{ys:List Value}(hI:Inv M σ res.cells ys ts w G)(hok:∀j (h:j<res.cells.length),fQ res.cells[j]=true\/pV res.cells[j]=true)(hs:uf res.sh res.cells.length=true)
 {dst:Option Nat}(hd:∀d,dst=some d->d<M.N)(hr:(landR dst res).run σ=some ((),σ')):∃G',Inv M σ' [] [] (match dst with|some d=>ts.setIfInBounds d (rB res.sh ys)|none=>ts) w G':=by
 cases dst with
 |none=>
  simp[landR,SP.run]at hr;subst hr;have ⟨G',hg,_⟩:=hI.drop;exact⟨G',hg.1⟩
 |some d=>
  have ⟨l,σ1,h1,h2⟩:=dN hr;have ⟨G1,hI1,_,hl,ht⟩:=AW hI hok h1;simp[wr,SP.run]at h2;subst h2;exact⟨G1,hI1.wrT (hd d rfl) (GB (by simp_all) (by rw[hl];exact hI.hand) ht)⟩
end
def frM(w:World)(N:Nat):Fm:=⟨w,λ_=>True,λ_=>False,λ_=>none,N,λ_ _=>trivial⟩
def frG:Gh:=⟨λ_=>none,λ_ _=>undef,λ_ _ _=>False⟩
theorem GR(l:List TV):∀i k,eV (iA i l) k=if k<i then none else l[k-i]?:=by
 induction l with
 |nil=>intro i k;simp[iA,eV]
 |cons t l ih=>
  simp[iA,eV]
  grind
def Kd(w:World)(t:TV)(x:Value):Prop:=∀F V C G,(∀k,F k)->TmR w F V C G t x
theorem ri.plain{w:World}{F:Nat->Prop}{t:TV}{x:Value}(h:ri w F t x):Kd w t x:=λ_ _ _ _ hF=>(h.frame (λ_ _ _=>rfl) λk _ _=>hF k).toTm
theorem calls_flat{P:Program}{F:gD}(hF:nz P F){f:FuncId}{vals:List TV}{avs:List Value}{res:MQ}{w:World}(h:F f vals []=some (res,[]))(Zz:res.cells.all IN=true)(hl:avs.length=vals.length)
 (hv:∀j (h:j<vals.length)(h':j<avs.length),Kd w vals[j] avs[j]):u5 P f/\Calls P f avs.toArray w λe w'=>e=.returned (rB res.sh (res.cells.map unV))/\Below w.heap.size w w':=by
 obtain⟨YK,N,hN,hc⟩:=hF f vals [] _ _ h;refine⟨YK,?_⟩;have Zb:∀k,frG.F (frM w N).A k:=λk=>⟨trivial,λ_ _ h=>h,λ_ _ _ _ h=>by simp[frG]at h⟩
 have hst:∀i,(mkSt vals []).t i=vals.getD i .dead:=by
  intro i;simp[St.t,mkSt,GR]
 have hE:∀r o,eU (frM w N) (mkSt vals []) [] r o=.dead:=by
  intro r o;unfold eU;split
  ·simp
  ·rfl
 have hI:Inv (frM w N) (mkSt vals []) [] [] (avs.toArray++Array.replicate (N-avs.length) undef) w frG:=by
  refine⟨⟨λr o=>.inl ⟨hE r o,λ_ h=>h⟩,λ_ _ _ _ h=>by simp[frG]at h,λ_ _ _ _ h=>by simp[frG]at h,λ_ _ _ _ _ _ _ h=>by simp[frG]at h,λ_ _ _ _ h=>by simp[frG]at h,λ_ _ _ _ _ h=>h.elim,λ_ _ _ h=>h.elim⟩,λi=>?_,⟨rfl,rfl,rfl,Nat.le_refl _,λ_ _ _ _=>rfl,λ_ _ _ _ h=>by simp[frM]at h,λ_ _ _ h=>h.elim,λ_ _ _ _ h=>by simp[frG]at h,λ_ h=>by simp[frG]at h⟩,λr l h=>by simp[mkSt,eV]at h,?_,rfl,λj hj=>by simp at hj,λ_ _ _ _ h=>by simp[frG]at h⟩
  ·rw[hst];by_cases hi:i<vals.length
   ·have Zt:i<avs.length:=by omega
    have e1:vals.getD i .dead=vals[i]:=by simp[hi]
    have e2:(avs.toArray++Array.replicate (N-avs.length) undef).getD i undef=avs[i]:=by
     simp[Array.getElem?_append,Zt]
    rw[e1,e2];exact hv i hi Zt _ _ _ frG Zb
   ·have e1:vals.getD i .dead=.dead:=by rw[oGD,oGN (by omega)];rfl
    rw[e1];exact .dead
  ·show(avs.toArray++Array.replicate (N-avs.length) undef).size=N;simp;omega
 refine(hc (frM w N) avs w frG hl rfl rfl (λr hr=>by simp[frM]at hr) hI).mono λe w2 ⟨v,σ2,he,XL,_⟩=>?_
 rcases XL with⟨ys,ts2,G2,rfl,ZH,_⟩|⟨q,vs,l,pv,ts2,G2,ZP,_⟩
 rotate_left
 ·rw[ZP]at Zz;simp[IN]at Zz
 have V7:ys=res.cells.map unV:=by
  have hlen:res.cells.length=ys.length:=ZH.hand;apply List.ext_getElem
  ·rw[List.length_map,hlen]
  ·intro j h1 h2
   have hj:j<res.cells.length:=by omega
   have WV:=List.all_eq_true.1 Zz res.cells[j] (List.getElem_mem hj)
   have hown:=ZH.hand_own (j:=j) hj (by
    intro e;rw[e]at WV
    simp[IN]at WV)
   rw[List.getElem_map]
   have e1:ys.getD j undef=ys[j]:=by simp[oGD,h1]
   rw[e1]at hown
   cases hc:res.cells[j]with
   |v x=>
    rw[hc]at hown
    cases hown with
    |v _ _=>rfl
   |_=>rw[hc]at WV;simp[IN]at WV
 subst V7;exact⟨he,⟨ZH.fram.os,ZH.fram.tape,ZH.fram.output,ZH.fram.size,λk hk=>ZH.fram.old k hk (λh=>h) λ_ _ _ _ h=>by simp[frM]at h⟩⟩
section
variable {P:Program} {M:Fm} {σ σ':St} {H:List TV} {xs:List Value} {ts:Array Value} {w:World} {G:Gh} {a:Act} {o:Oper}
theorem NB{t t':TV}{x:Value}(hI:Inv M σ H xs ts w G)(hx:TmR w (G.F M.A) σ.v (eU M σ H) G t x)(hr:(see1 t).run σ=some (t',σ')):σ'=σ/\ri w (λ_=>True) t' x:=by
 cases hx with
 |v h=>
  obtain⟨rfl,rfl⟩:=hr;exact⟨rfl,.v h⟩
 |nil=>
  obtain⟨rfl,rfl⟩:=hr;exact⟨rfl,.sl 1 (λ_ _=>.nilFunc) (λi h=>by simp at h) (Nat.le_refl _) (Nat.zero_le _) (λ_=>rfl) (λi j h=>by simp at h) (λi j h=>by simp at h)⟩
 |sl h=>
  obtain⟨rfl,rfl⟩:=hr;exact⟨rfl,h.frame (λ_ _ _=>rfl) λ_ _ _=>trivial⟩
 |dead=>simp[see1,SP.run]at hr
 |ptr=>simp[see1,SP.run]at hr
 |ip=>simp[see1,SP.run]at hr
 |agg=>simp[see1,SP.run]at hr
 |tup=>simp[see1,SP.run]at hr
 |fn=>simp[see1,SP.run]at hr
 |pw=>simp[see1,SP.run]at hr
 | @pk p vs x V0 h0 hv hok=>
  obtain⟨_,σ1,h1,h2⟩:=dN hr;have e1:=(eI h1).1;have e2:=(eI h1).2;subst e1;obtain⟨_,c,ZG,Z5⟩:=hok e2;simp only[SP.run]at h2
  have Z8:p.root≠M.hr:=by
   intro e;rw[e]at h2;rw[hI.hr_dead]at h2;cases hp:p.hops<;>rw[hp]at h2<;>simp[eO,SP.run]at h2
  obtain⟨u,fp,h4,h5,_⟩:=hI.core.hv_own p Z5 (by simp);rw[eQ Z8]at Z5;rw[Z5]at h2;obtain⟨rfl,rfl⟩:=h2;rw[ZG]at h4
  injection h4 with h4
  subst h4;exact⟨rfl,h5.share'.frame (λ_ _ _=>rfl) λ_ _ _=>trivial⟩
theorem Sc:∀{l l':List TV}{ys:List Value},Inv M σ H xs ts w G->l.length=ys.length->(∀j (h:j<l.length),TmR w (G.F M.A) σ.v (eU M σ H) G l[j] (ys.getD j undef))->(seeL l).run σ=some (l',σ')->
 σ'=σ/\l'.length=l.length/\∀j (h:j<l'.length),ri w (λ_=>True) l'[j] (ys.getD j undef):=by
 intro l
 induction l generalizing σ σ' with
 |nil=>
  intro l' ys hI hl _ hr;simp only[seeL,SP.run,oSJ,oPJ]at hr
  simp_all
 |cons t l ih=>
  intro l' ys hI hl ht hr
  cases ys with
  |nil=>simp at hl
  |cons y ys=>
   obtain⟨t',σ1,h1,h2⟩:=dN hr;have ⟨r',σ2,h3,h4⟩:=dN h2;obtain⟨rfl,rfl⟩:=h4;obtain⟨rfl,k1⟩:=NB hI (by have:=ht 0 (by simp);simpa using this) h1;obtain⟨rfl,k2,k3⟩:=ih hI (by simpa using hl) (λj h=>by have:=ht (j+1) (by simpa using h);simpa using this) h3;refine⟨rfl,by simp[k2],λj h=>?_⟩
   cases j with
   |zero=>simpa using k1
   |succ j=>have:=k3 j (by simpa using h);simpa using this
theorem Sd{t t':TV}{x:Value}(hI:Inv M σ H xs ts w G)(hx:TmR w (G.F M.A) σ.v (eU M σ H) G t x)(hr:(seeA t).run σ=some (t',σ')):σ'=σ/\Kd w t' x:=by
 have one:(see1 t).run σ=some (t',σ')->σ'=σ/\Kd w t' x:=λh=>by
  obtain⟨e,k⟩:=NB hI hx h;exact⟨e,k.plain⟩
 cases t with
 |agg l=>
  obtain⟨l',σ1,h1,h2⟩:=dN hr;obtain⟨rfl,rfl⟩:=h2
  cases hx with
  | @agg _ ys hl ht=>
   obtain⟨e,k1,k2⟩:=Sc (ys:=ys.toList) hI (by simp_all) (λj h=>by simp_all) h1;refine⟨e,λF V C G' hF=>.agg (by rw[hl,k1]) λj hj=>?_⟩;have:=k2 j hj
   have e3:ys.getD j undef=ys.toList.getD j undef:=by simp_all
   rw[e3];exact this.plain F V C G' hF
 |ip cs=>
  obtain⟨rfl,rfl⟩:=hr
  cases hx with
  |ip u hc hr=>exact⟨rfl,λF V C G' hF=>.ip u (λj hj=>⟨hF _,(hc j hj).2⟩) λj hj=>(hr j hj).frame (λ_ _ _=>rfl) λk _ _=>hF k⟩
 |fn f cap=>
  simp only[seeA]at hr;split at hr
  ·rename_i hc;obtain⟨rfl,rfl⟩:=hr;rw[List.all_eq_true]at hc
   cases hx with
   |fn hl ht=>exact⟨rfl,λF V C G' hF=>.fn hl λj hj=>(((ht j hj).imC (hc _ (List.getElem_mem hj))).frame (λ_ _ _=>rfl) λk _ _=>hF k).toTm⟩
  ·simp[SP.run]at hr
 |_=>exact one hr
theorem P1:∀{l:List Opd}{l':List Operand}{Zr:List TV}{σ σ':St},Inv M σ [] [] a.tmps w G->l'.length=l.length->(∀j (h:j<l.length)(h':j<l'.length),dZ l'[j]=some l[j])->(seeAs l).run σ=some (Zr,σ')->
 σ'=σ/\Zr.length=l.length/\∀j (h:j<Zr.length)(h':j<l'.length),Kd w Zr[j] (a.eval l'[j]):=by
 intro l
 induction l with
 |nil=>
  intro l' Zr σ σ' hI hl hc hr;simp[seeAs,SP.run]at hr
  simp_all
 |cons x l ih=>
  intro l' Zr σ σ' hI hl hc hr
  cases l' with
  |nil=>simp at hl
  |cons x' l'=>
   obtain⟨t,σ1,h1,h2⟩:=dN hr;obtain⟨t',σ2,h3,h4⟩:=dN h2;obtain⟨r,σ3,h5,h6⟩:=dN h4;obtain⟨rfl,rfl⟩:=h6;obtain⟨rfl,ht⟩:=fJ hI.tmr (by have:=hc 0 (by simp) (by simp);simpa using this) h1;obtain⟨rfl,k1⟩:=Sd hI ht h3;obtain⟨rfl,k2,k3⟩:=ih (l':=l') hI (by simpa using hl) (λj h h'=>by have:=hc (j+1) (by simpa using h) (by simpa using h');simpa using this) h5;refine⟨rfl,by simp[k2],λj h h'=>?_⟩
   cases j with
   |zero=>exact k1
   |succ j=>exact k3 j (by simpa using h) (by simpa using h')
theorem QW{F:gD}(hF:nz P F){asq:List Value}{vals:List TV}{Y6:FuncId}(hd:∀d,o.dst=some d->d<M.N/\M.pr (2*d+2)=none)(hI1:Inv M σ [] [] a.tmps w G)(hal:asq.length=vals.length)
 (W6:∀j (h:j<vals.length)(h':j<asq.length),Kd w vals[j] asq[j])(h2:(callB F o.dst Y6 vals).run σ=some ((),σ'))(YH:u5 P Y6->(execOp a.eval o).run P w=.ok (.enter Y6 asq.toArray) w):Tj P M σ' a o w:=by
 intro K' Q hK;obtain⟨r,σ1,h3,h4⟩:=dN h2
 have Xq:F Y6 vals []=some r/\σ1=σ:=by
  cases hq:F Y6 vals []with
  |none=>rw[hq]at h3;simp[mB,SP.run]at h3
  |some y=>
   rw[hq]at h3;simp only[mB,SP.run,oSJ,oPJ]at h3
   simp_all
 obtain⟨Xq,rfl⟩:=Xq;split at h4
 case isFalse=>simp[SP.run]at h4
 rename_i YA;simp only[oBA,oDE]at YA;obtain⟨res,Zn⟩:=r;obtain rfl:Zn=[]:=oEN YA.1.1;obtain⟨YK,Wj⟩:=calls_flat hF Xq YA.1.2 hal W6;unfold Oper.wp;rw[YH YK,Oper.upon_enter];refine Wj.mono λe w2 ⟨he,hb⟩=>?_;subst he;simp only;have ZH:=(hI1.grow (w':=w2) (λk hk=>hb.block k hk) hb.size hb.os hb.tape hb.output).1;refine hK (a.put o.dst (rB res.sh (res.cells.map unV))) w2 G ?_ (rC _ _ _)
 cases hdst:o.dst with
 |none=>
  rw[hdst]at h4;simp only[SP.run,oSJ,oPJ,true_and]at h4;rw[<- h4];exact ZH
 |some d=>
  rw[hdst]at h4;simp only[wr,SP.run,oSJ,oPJ,true_and]at h4;rw[<- h4];refine ZH.wrT (hd d hdst).1 (GB YA.2 (by simp) λj hj=>?_);have WV:=List.all_eq_true.1 YA.1.2 res.cells[j] (List.getElem_mem hj)
  have e1:(res.cells.map unV).getD j undef=unV res.cells[j]:=by simp[oGD,hj]
  rw[e1]
  cases hc:res.cells[j]with
  |v x=>rw[hc]at WV;exact .v WV
  |_=>rw[hc]at WV;simp[IN]at WV
end
section
variable {P:Program} {M:Fm} {σ σ':St} {H:List TV} {xs:List Value} {ts:Array Value} {w:World} {G:Gh} {a:Act} {o:Oper}
theorem I9:∀{q:List (GP×List TV)}{σ σ':St},(putBack q).run σ=some ((),σ')->∀x∈q,x.2.length=x.1.cells.length:=by
 intro q
 induction q with
 |nil=>simp_all
 |cons y q ih=>
  intro σ σ' h x hx;have ⟨_,σ1,h1,h2⟩:=dN h;split at h2
  ·rename_i YA;rcases List.mem_cons.1 hx with rfl|hx
   ·simp_all
   ·exact ih h1 x hx
  ·simp[SP.run]at h2
theorem zj.nodup{i:Nat}{vals:List TV}{asq us:List Value}{K:List (GP×Addr)}(h:zj w i vals asq K us):qA (K.map λx=>x.1.i)=true/\∀x∈K,i<=x.1.i:=by
 induction h with
 |nil=>exact⟨rfl,λx hx=>by simp_all⟩
 |ptr hr hb hs h0 hh hu hc hok h ih=>
  refine⟨?_,λx hx=>?_⟩
  ·simp only[List.map_cons,qA,oBA,Bool.not_eq_true',List.contains_eq_mem,decide_eq_false_iff_not];refine⟨λhm=>?_,ih.1⟩;have ⟨y,hy,e⟩:=List.mem_map.1 hm;have:=ih.2 y hy;omega
  ·rcases List.mem_cons.1 hx with rfl|hx
   ·simp_all
   ·have:=ih.2 x hx;omega
 |arg ha h ih=>exact⟨ih.1,λx hx=>by have:=ih.2 x hx;omega⟩
 |own h ih=>exact⟨ih.1,λx hx=>by have:=ih.2 x hx;omega⟩
theorem Sr{K:List (GP×Addr)}(Zu:qA (K.map λx=>x.1.i)=true):∀x∈K,prK K (2*x.1.i+2)=some (x.2.block,x.2.off,x.1.cells.length):=by
 induction K with
 |nil=>simp_all
 |cons y K ih=>
  intro x hx;simp only[List.map_cons,qA,oBA,Bool.not_eq_true',List.contains_eq_mem,decide_eq_false_iff_not]at Zu;simp[prK];rcases List.mem_cons.1 hx with rfl|hx
  ·simp
  ·rw[oIN]
   ·exact ih Zu.2 x hx
   ·intro e;exact Zu.1 (List.mem_map.2 ⟨x,hx,by omega⟩)
theorem K1{α β:Type}{K:List (GP×Addr)}{f:GP×Addr->List α}{g:GP×Addr->List β}(h:∀x∈K,(f x).length=(g x).length):(K.flatMap f).length=(K.flatMap g).length:=by
 induction K with
 |nil=>rfl
 |cons x K ih=>simp_all
theorem Ge{α β:Type}:∀{a:List α}{b c:List β},a.length<=b.length->a.zip (b++c)=a.zip b:=by
 intro a
 induction a with
 |nil=>simp_all
 |cons x a ih=>
  intro b c h
  cases b with
  |nil=>simp at h
  |cons y b=>simp_all
def yp(σ:St)(x:GP×Addr):List TV:=(eV σ.ce (2*x.1.i+2)).getD []
def DF(σ:St)(G:Gh)(w:World)(x:GP×Addr):List Value:=(List.range (yp σ x).length).map (G.val w (2*x.1.i+2))
theorem zj.hands2{vals:List TV}{asq us:List Value}{K:List (GP×Addr)}{N:Nat}{σ2:St}{res ys:_}{ts2:Array Value}{w2:World}{G2:Gh}(h:zj w 0 vals asq K us)(ZV:∀x∈K,0<x.1.cells.length)
 (h2:Inv (M.into w G (prK K) N) σ2 res ys ts2 w2 G2)(hlen:∀x∈K,(yp σ2 x).length=x.1.cells.length):
 Rz res ys (res++K.flatMap (yp σ2)) (ys++K.flatMap (DF σ2 G2 w2)) (eU (M.into w G (prK K) N) σ2 res) G2 w2 (prK K) (λr=>res.length+bsK K r):=by
 have A':∀x∈K,(DF σ2 G2 w2 x).length=x.1.cells.length:=λx hx=>by simp[DF,hlen x hx]
 refine⟨?_,λj hj=>⟨by simp;omega,List.getElem_append_left hj,?_⟩,λr b o n hp t ht=>?_,λj hj=>?_,λr b o n r' b' o' n' hp hp' j j' hj ZQ e=>Rw _ _ _ _ _ _ _ _ hp hp' j j' hj ZQ (by omega)⟩
 ·rw[List.length_append,List.length_append,h2.hand,K1 (f:=yp σ2) (g:=DF σ2 G2 w2) λx hx=>by rw[hlen x hx,A' x hx]]
 ·rw[oGD,oGD,List.getElem?_append_left (by rw[<- h2.hand];exact hj)]
 ·obtain⟨x,x1,x2,x3,x4,x5,x6,x7⟩:=Io hlen hp;obtain⟨y,y1,y2,y3,y4,y5,y6,y7⟩:=Io A' hp;have Xn:x=y:=yK h.nodup.1 x1 y1 (by omega);subst Xn
  have XC:t<(yp σ2 x).length:=by rw[hlen x x1];omega
  have e1:=x7 t ht;rw[oGE XC]at e1;obtain⟨k1,k2⟩:=oGS e1;refine⟨by rw[List.length_append];omega,by omega,?_,?_⟩
  ·have e2:(res++K.flatMap (yp σ2))[res.length+bsK K r+t]'(by rw[List.length_append];omega)=(K.flatMap (yp σ2))[bsK K r+t]:=by
    rw[List.getElem_append_right (by omega)];congr 1;omega
   rw[e2,k2]
   rw[eQ (by have:r≠1:=by omega
             exact this)]
   unfold St.c
   have hb:yp σ2 x=(eV σ2.ce r).getD []:=by rw[x2];rfl
   cases ha:eV σ2.ce r with
   |none=>rw[hb,ha]at XC;simp at XC
   |some l=>
    simp only[hb,ha,Option.getD_some]at XC⊢;simp[XC]
  ·have e3:=y7 t ht;rw[oGD,List.getElem?_append_right (by rw[<- h2.hand];omega)];rw[show res.length+bsK K r+t-ys.length=bsK K r+t by rw[<- h2.hand];omega];rw[e3,x2];simp[DF,XC]
 ·by_cases hj1:j<res.length
  ·exact .inl hj1
  ·right;have hc:(K.flatMap (yp σ2)).length=(mJ K).length:=K1 hlen;obtain⟨r,b,o,n,t,c1,c2,c3⟩:=T5 h.nodup.1 (j:=j-res.length) (by rw[List.length_append]at hj;omega);exact⟨r,b,o,n,t,c1,c2,by omega⟩
theorem NZ:∀{l:List TV}{p:ew}{σ σ':St},p.hops=[]->(putL p l).run σ=some ((),σ')->(∀o,o<p.off->σ'.c p.root o=σ.c p.root o)/\∀t (h:t<l.length),σ'.c p.root (p.off+t)=l[t]:=by
 intro l
 induction l with
 |nil=>
  intro p σ σ' _ h;simp only[putL,SP.run,oSJ,oPJ,true_and]at h
  simp_all
 |cons y l ih=>
  intro p σ σ' hp h;obtain⟨r,off,hops⟩:=p;simp only at hp;subst hp;simp only[putL]at h;obtain⟨_,σ1,h1,h2⟩:=dN h
  have Zq:(∀o,o≠off->σ1.c r o=σ.c r o)/\σ1.c r off=y:=by
   obtain⟨old,l1,vr,hg,hl,ho,hσ1,_⟩:=KK h1;subst hσ1;refine⟨λo hne=>?_,?_⟩
   ·simp only[St.c,ft,if_true,hl];simp[List.getElem?_set,Ne.symm hne]
   ·simp only[St.c,ft,if_true];simp[iw,List.getElem?_set,ho]
  cases l with
  |nil=>
   simp only[SP.run,oSJ,oPJ,true_and]at h2;subst h2;refine⟨λo ho=>Zq.1 o (by simp only at ho;omega),λt ht=>?_⟩
   have:t=0:=by simp at ht;omega
   subst this;exact Zq.2
  |cons y2 l=>
   have X5:(⟨r,off,[]⟩:ew).add 1=⟨r,off+1,[]⟩:=rfl;rw[X5]at h2;obtain⟨k1,k2⟩:=ih (p:=⟨r,off+1,[]⟩) rfl h2;refine⟨λo ho=>?_,λt ht=>?_⟩
   ·simp only at ho;exact(k1 o (by show o<off+1;omega)).trans (Zq.1 o (by omega))
   ·cases t with
    |zero=>simp_all
    |succ t=>
     have:=k2 t (by simpa using ht);rw[show off+(t+1)=off+1+t by omega];simpa using this
theorem GJ{x:GP×Addr}{f:GP×Addr->List TV}(hx:x.1.p.hops=[])(h:(putBack ([x].map λx=>(x.1,f x))).run σ=some ((),σ')):∀t,t<(f x).length->σ'.c x.1.p.root (x.1.p.off+t)=(f x).getD t .dead:=by
 intro t ht;have ⟨_,σ1,h1,h2⟩:=dN h;split at h2
 ·rw[(NZ hx h2).2 t ht];simp[ht]
 ·simp[SP.run]at h2
theorem Lf{F:gD}(hF:nz P F){asq:List Value}{vals:List TV}{ns:List (Option Nat)}{Y6:FuncId}{σ1:St}{G1:Gh}(hd:∀d,o.dst=some d->d<M.N/\M.pr (2*d+2)=none)(hI1:Inv M σ1 [] [] a.tmps w G1)(hns:ns.length=vals.length)(hal:asq.length=vals.length)
 (W6:∀j (h:j<vals.length)(h':j<asq.length),TmR w (G1.F M.A) σ1.v (eU M σ1 []) G1 vals[j] asq[j])(h2:(callV F o.dst Y6 ns vals).run σ1=some ((),σ'))(YH:u5 P Y6->(execOp a.eval o).run P w=.ok (.enter Y6 asq.toArray) w):Tj P M σ' a o w:=by
 intro K' Q hK;unfold callV at h2;obtain⟨ow,σ0,h3o,h2⟩:=dN h2;obtain⟨q,σ2,h3,h4⟩:=dN h2
 have hzl:(ns.zip vals).length=vals.length:=by simp[hns]
 have Yn:(ns.zip vals).map (·.2)=vals:=by
  rw[List.map_snd_zip];omega
 have hzt:∀{σ1:St}{H1:List TV}{G1:Gh},(∀j (h:j<vals.length)(h':j<asq.length),TmR w (G1.F M.A) σ1.v (eU M σ1 H1) G1 vals[j] asq[j])->∀j (h:j<(ns.zip vals).length)(h':j<asq.length),TmR w (G1.F M.A) σ1.v (eU M σ1 H1) G1 (ns.zip vals)[j].2 asq[j]:=λh j h1 h2=>by
  have hj:j<vals.length:=by rw[<- hzl];exact h1
  have:=h j hj h2;simpa using this
 obtain⟨zs,G0,VG,hor,hocov⟩:=IT hI1 (by omega) (hzt W6) h3o;obtain⟨us,G2,K,hg2',Vv,Xz,htmK⟩:=QG (asq:=asq) VG.1 (by omega) (hzt λj h h'=>VG.tm (W6 j h h')) h3;have hpk:=QF h3;have ZF:=VG.trans hg2';rw[Yn]at Xz;obtain⟨_,σ3,h5,h6⟩:=dN h4
 have hHand:([]:List TV)++ow.map (·.2)++q.flatMap (·.cells)=ow.map (·.2)++mJ K:=by rw[<- Vv];simp[mJ,List.flatMap_map]
 rw[hHand,List.nil_append]at ZF;rw[hHand]at htmK;have hz:zs.length=ow.length:=hor.facts.1
 have hpk2:∀j p vs,vals[j]?=some (.pk p vs)->∃x∈ow,x.1=j:=λj p vs hj=>by
  obtain⟨hjl,hje⟩:=oGS hj
  have hjn:j<ns.length:=by omega
  have hzj:(ns.zip vals)[j]?=some (ns[j],.pk p vs):=by
   rw[oGE (by omega)];simp[hje]
  have hn:=hpk j _ p vs hzj;rw[hn]at hzj;obtain⟨x,h7,h8⟩:=hocov j p vs hzj;exact⟨x,h7,by omega⟩
 obtain⟨rfl,hre⟩:=P9 ZF.1 h5;split at h6
 case isFalse=>simp[SP.run]at h6
 rename_i YA;simp only[oBA,List.all_eq_true,oDE]at YA;obtain⟨Zu,ZV⟩:=YA;have Xl:∀x∈K,0<x.1.cells.length:=λx hx=>ZV x.1 (by rw[<- Vv];exact List.mem_map_of_mem hx)
 have Ym:=λj h h'=>by
  have:=ZF.tm (W6 j h (by omega));simpa using this
 have Xc:∀x∈K,x.1.p.root≠1/\G2.addr w x.1.p=some x.2/\(∃t,eO (eU M σ3 (ow.map (·.2)++mJ K) x.1.p.root x.1.p.off) x.1.p.hops=some t)/\((∃o n,G2.β x.1.p.root=some (x.2.block,o,n))\/G2.φ x.1.p.root x.1.p.off x.2.block):=λx hx=>by
  obtain⟨r1,ad,r2,r3,_,r4,r5⟩:=hre x.1 (by rw[<- Vv];exact List.mem_map_of_mem hx) _ (htmK x hx)
  injection r2 with r2
  injection r2 with r2
  subst r2;exact⟨r1,r3,r4,r5⟩
 have hh:=Xz.hands ZF.1 hor (by rw[Vv];exact Zu) Xl λx hx=>⟨(Xc x hx).1,(Xc x hx).2.2.2⟩;obtain⟨r,σ4,h7,h8⟩:=dN h6
 have Xq:F Y6 (argTs 0 vals) (q.map (λg=>(2*g.i+2,g.cells))++ow.map λx=>(2*x.1+3,[x.2]))=some r/\σ4=σ3:=by
  cases hq:F Y6 (argTs 0 vals) (q.map (λg=>(2*g.i+2,g.cells))++ow.map λx=>(2*x.1+3,[x.2]))with
  |none=>rw[hq]at h7;simp[mB,SP.run]at h7
  |some r'=>
   rw[hq]at h7;simp only[mB,SP.run,oSJ,oPJ]at h7;exact⟨by rw[h7.1],h7.2.symm⟩
 obtain⟨Xq,rfl⟩:=Xq;obtain⟨res,Zn⟩:=r;simp only at h8;split at h8
 case isFalse=>simp[SP.run]at h8
 rename_i VB;simp only[oBA,oDE]at VB;obtain⟨_,σ5,h9,ZN⟩:=dN h8;obtain⟨YK,N,hN,Wj⟩:=hF Y6 _ _ _ _ Xq;rw[IG]at hN
 have hpts:(q.map (λg=>(2*g.i+2,g.cells))++ow.map λx=>(2*x.1+3,[x.2]))=ceK K++ceO ow:=by rw[<- Vv];simp[ceK,ceO]
 have hin:=Xz.enter ZF.1 hor hpk2 hh Ym (N:=N) (by omega)
 have hcalls:=Wj (M.into w G2 (prK K) N) asq w (G2.into (prK K) (λr=>ow.length+bsK K r) (owK ow) (zs++us)) (by rw[IG];exact hal) rfl rfl (λr hr=>by
  have hr:prK K r≠none:=hr
  cases hp:prK K r with
  |none=>exact absurd hp hr
  |some y=>
   obtain⟨b,o,n⟩:=y;obtain⟨x,x1,x2,_⟩:=nq hp;obtain⟨_,_,p,vs,s1⟩:=Xz.slot x x1;refine⟨x.1.i,⟨2*x.1.i+2,0,p.hops⟩,List.replicate (p.hops.length+1) 0,?_,x2⟩;rw[IH];have s1:vals[x.1.i]?=some (.ptr p vs):=s1;rw[s1]
   simp[argT]) (by rw[hpts];exact hin)
 have hrun:=YH YK;unfold Oper.wp;rw[hrun,Oper.upon_enter];refine hcalls.mono λe w2 ⟨v,σc,he,XL,hpts'⟩=>?_;subst he;simp only
 have hzip:q.zip (Zn.map (·.2))=K.map λx=>(x.1,yp σc x):=by
  rw[hpts',hpts,<- Vv];simp only[ceK,List.map_append,List.map_map];rw[Ge (by simp),List.zip_map'];rfl
 rw[hzip]at h9;have Xi:∀x∈K,(yp σc x).length=x.1.cells.length:=λx hx=>I9 h9 _ (List.mem_map.2 ⟨x,hx,rfl⟩);have Zx:=Sr Xz.nodup.1
 have hlt:∀x∈K,x.2.block<w.heap.size:=λx hx=>by
  obtain⟨cur,e,fz,hb,_⟩:=vq (hh.here _ _ _ _ (Zx x hx) 0 (Xl x hx)).1;exact(Array.getElem?_eq_some_iff.1 hb).1
 have VJ:∀x∈K,∀y∈K,x.2.block=y.2.block->x=y:=λx hx y hy e=>by
  have h1:=Zx x hx;have h2:=Zx y hy;rw[<- e]at h2;have:=hh.inj _ _ _ _ _ _ _ h1 h2;exact yK Xz.nodup.1 hx hy (by omega)
 have back:∀{Hc:List TV}{ys:List Value}{ts2:Array Value}{Gc:Gh},Inv (M.into w G2 (prK K) N) σc Hc ys ts2 w2 Gc->∃G4,Inv M σ5 Hc ys a.tmps w2 G4/\G4.β=G2.β:=by
  intro Hc ys ts2 Gc WT;have hH2:=Xz.hands2 (M:=M) (G:=G2) (N:=N) Xl WT Xi;have hsz:w.heap.size<=w2.heap.size:=WT.fram.size
  obtain⟨G3,WY,VO,hβ3⟩:=ZF.1.leave hh WT hH2 (w':=RWs w K w2) Q4 Gd.1 Gd.2.1 Gd.2.2 (λk hk=>Ud λx hx=>hk _ _ _ _ (Zx x hx)) (λr b o n hp=>by
   obtain⟨x,x1,x2,x3,_⟩:=nq hp;rw[x3]
   exact Ue (hlt x x1) (Nat.lt_of_lt_of_le (hlt x x1) hsz) ⟨x,x1,rfl⟩)
  obtain⟨G4,hI4,htm4,hm4,hβ4⟩:=LW (w:=w) (f:=yp σc) (v:=DF σc Gc w2) (λx=>by simp[DF]) (K:=K) (W:=w2) WT.hand WY (λx hx=>by
   have hp:=Zx x hx;obtain⟨hβ,cur0,cur,e,fz,p1,p2,p3,p4⟩:=WT.fram.par _ _ _ _ hp
   have hvl2:(DF σc Gc w2 x).length=x.1.cells.length:=by simp[DF,Xi x hx]
   refine⟨cur0,cur,e,fz,p1,p2,p3,λj hj=>p4 j (by rw[hvl2]at hj;exact hj),λj hj=>?_⟩;have Z3:=WT.core.boxcell hβ (o:=j) (by omega);obtain⟨Yy,e',fz',c1,c2,c3⟩:=vq Z3;rw[p2]at c1
   injection c1 with c1
   injection c1 with c1 _ _
   subst c1;rw[c3]
   simp[DF]) (λx hx e=>by have h1:=Xi x hx;have h2:=Xl x hx;rw[e,List.length_nil]at h1;omega) VJ (by rw[<- Vv]at Zu;simpa[Function.comp_def]using Zu) (λx hx=>by
   obtain⟨r1,r2,⟨t,r3⟩,_⟩:=Xc x hx;obtain⟨t',k1,k2⟩:=VO.keeps.ptr x.1.p x.2 t r1 rfl r2 r3
   exact⟨r1,k1,t',k2⟩) h9
  exact⟨G4,hI4,hβ4.trans hβ3⟩
 rcases XL with⟨ys,ts2,Gc,rfl,WT,hokc⟩|⟨pl,pvs,fl,pv,ts2,Gc,ZP,⟨shr,hsh⟩,Zz,rfl,WT,hpl⟩
 ·obtain⟨G4,hI4,_⟩:=back WT
  have hP:isP res=false:=by
   cases hp:isP res with
   |false=>rfl
   |true=>
    unfold isP at hp;split at hp
    ·rename_i sh1 p vs l1 e1 e2;have:=hokc 0 (by rw[e2];simp);simp[e2,fQ,pV]at this
    ·cases hp
  rw[hP]at ZN VB;simp only[Bool.false_eq_true,if_false,Bool.false_or]at ZN VB;obtain⟨G5,WS⟩:=SE hI4 hokc VB.2 (dst:=o.dst) (λd Yx=>(hd d Yx).1) ZN;refine hK (a.put o.dst (rB res.sh ys)) w2 G5 ?_ (rC _ _ _)
  cases hdst:o.dst with
  |none=>rw[hdst]at WS;exact WS
  |some d=>rw[hdst]at WS;exact WS
 ·obtain⟨G4,hI4,hβ4⟩:=back WT
  have hP:isP res=true:=by unfold isP;rw[ZP,hsh]
  rw[hP]at ZN;simp only[if_true]at ZN
  have hfin:∃G5,Inv M σ' [] [] (match o.dst with|some d=>a.tmps.setIfInBounds d (DW pv (fl.map unV))|none=>a.tmps) w2 G5:=by
   cases hdst:o.dst with
   |none=>
    rw[hdst]at ZN;simp only[landP,SP.run,oSJ,oPJ,true_and]at ZN;subst ZN;exact⟨G4,hI4⟩
   |some d=>
    rw[hdst,ZP]at ZN;simp only[landP]at ZN;split at ZN
    case h_2=>simp[SP.run]at ZN
    rename_i pl' Za l' g hq1 Yv
    injection hq1 with hq1 hql
    injection hq1 with hq1 _
    subst hq1;subst hql;split at ZN
    case isFalse=>simp[SP.run]at ZN
    rename_i hck3;simp only[oBA,beq_iff_eq,List.isEmpty_iff]at hck3;obtain⟨Z8,Yh⟩:=hck3;obtain⟨nvs,σ6,Xb,h12⟩:=dN ZN;rw[AR,wB]at Xb
    injection Xb with Xb
    injection Xb with Xb h13
    subst Xb;subst h13;simp only[wr,SP.run,oSJ,oPJ,true_and]at h12;subst h12;obtain⟨x,rfl⟩:∃x,K=[x]:=List.length_eq_one_iff.1 (by have:=congrArg List.length Vv;simpa using this)
    have hxg:x.1=g:=by simpa using Vv
    have hxm:x∈[x]:=by simp
    obtain⟨r1,r2,_,_⟩:=Xc x hxm;have hp:=Zx x hxm;obtain⟨hβc,_⟩:=WT.fram.par _ _ _ _ hp
    have hhx:x.1.p.hops=[]:=by rw[hxg];exact Yh
    have X':pl.root=2*x.1.i+2:=by rw[hxg];exact Z8
    obtain⟨b0,o0,n0,hβ0,had0⟩:∃b0 o0 n0,G4.β x.1.p.root=some (b0,o0,n0)/\x.2=⟨b0,o0+x.1.p.off,none⟩:=by
     rw[hβ4];unfold Gh.addr at r2;rw[hhx]at r2;simp only at r2
     cases hb:G2.β x.1.p.root with
     |none=>rw[hb]at r2;simp at r2
     |some y=>
      obtain⟨b0,o0,n0⟩:=y;rw[hb]at r2
      injection r2 with r2
      exact⟨b0,o0,n0,rfl,r2.symm⟩
    have Wm:=GJ hhx h9;refine⟨G4,hI4.wrT (hd d hdst).1 (Nw (.ptr _ (λ_=>Nat.le_refl _) rfl λ_=>?_) Zz)⟩;rw[<- hxg];obtain⟨_,ad,t,ha,hv,ht⟩:=hpl;refine⟨r1,ad,?_⟩
    have hval:G4.val w2 x.1.p.root (x.1.p.off+pl.off)=Gc.val w2 pl.root pl.off:=by
     unfold Gh.val;rw[hβ0,X',hβc];simp only[had0,Nat.add_assoc]
    cases hho:pl.hops with
    |nil=>
     rw[hho]at ht;refine⟨_,?_,hv,rfl⟩;rw[<- ha];unfold Gh.addr;simp only[hho,hβ0,X',hβc,had0,Nat.add_assoc]
    |cons h1 hs=>
     rw[hho]at ht;refine⟨t,?_,hv,?_⟩
     ·rw[<- ha];unfold Gh.addr;simp only[hho];rw[hval]
     ·have hne1:x.1.p.root≠M.hr:=r1;rw[eQ hne1]
      have Y7:pl.off<x.1.cells.length:=by
       rcases Nat.lt_or_ge pl.off x.1.cells.length with h|h
       ·exact h
       ·have:=WT.core.boxc _ _ _ _ hβc pl.off h;rw[X']at ht;rw[this]at ht;simp[eO]at ht
      have ZK:=Wm pl.off (by rw[Xi x hxm];exact Y7)
      have hc3:eU (M.into w G2 (prK [x]) N) σc [] pl.root pl.off=(yp σc x).getD pl.off .dead:=by
       rw[X',eQ (by show 2*x.1.i+2≠1;omega)];unfold yp St.c
       cases eV σc.ce (2*x.1.i+2)with
       |none=>simp
       |some l=>rfl
      rw[hc3]at ht;rw[ZK];exact ht
  obtain⟨G5,WS⟩:=hfin;refine hK (a.put o.dst (DW pv (fl.map unV))) w2 G5 ?_ (rC _ _ _)
  cases hdst:o.dst with
  |none=>rw[hdst]at WS;exact WS
  |some d=>rw[hdst]at WS;exact WS
theorem ue{Y6:FuncId}{args':Array Operand}{caps:Array Value}{fo:Operand}{U':Array TypeId}(ho:o.op=.call ⟨.value fo,args',U'⟩)(hv:a.eval fo=.func (.func Y6) #[] caps)(YK:u5 P Y6):
 (execOp a.eval o).run P w=.ok (.enter Y6 (args'.map a.eval++caps)) w:=by
 unfold execOp;simp only[resolve];simp[Deferred.ofValue,invoke];have:=YK (args'.map a.eval++caps) w
 simp_all
theorem QM{E:Env}(hB:Ps P E){asq:List Value}{vals:List TV}{Y6:FuncId}{n:Nat}{tm:List BxC}(hbx:E.box Y6=some (n,tm))(hn:vals.length=n){σ1:St}{G1:Gh}(hd:∀d,o.dst=some d->d<M.N/\M.pr (2*d+2)=none)(hI1:Inv M σ1 [] [] a.tmps w G1)(hal:asq.length=vals.length)
 (W6:∀j (h:j<vals.length)(h':j<asq.length),TmR w (G1.F M.A) σ1.v (eU M σ1 []) G1 vals[j] asq[j])(h2:(evBox o.dst tm vals).run σ1=some ((),σ'))(YH:u5 P Y6->(execOp a.eval o).run P w=.ok (.enter Y6 asq.toArray) w):Tj P M σ' a o w:=by
 intro K' Q hK;obtain⟨YK,Zz,ty,Wj⟩:=hB Y6 n tm hbx
 cases hdst:o.dst with
 |none=>rw[hdst]at h2;simp[evBox,SP.run]at h2
 |some d=>
  rw[hdst]at h2;obtain⟨hdN,YE⟩:=hd d hdst;obtain⟨l,σ2,h3,h4⟩:=dN h2
  obtain⟨Ws,Zq,G2,ZF⟩:=ve (ys:=tm.map (bxV asq)) hI1 (by simp) (λj h=>by
   have hj:j<tm.length:=by simpa using h
   simp only[List.getElem_map,oGD,List.getElem?_map,oGE hj,oMS,Option.getD_some]
   cases hb:tm[j]with
   |val x=>exact .v (Zz x (by rw[<- hb];exact List.getElem_mem hj))
   |arg i=>
    simp only[bxT,bxV];by_cases hi:i<vals.length
    ·simp_all
    ·have:vals.getD i .dead=.dead:=by simp[oGD,oGN (by omega:vals.length<=i)]
     rw[this];exact .dead) h3
  obtain⟨G3,WY,_,hβ⟩:=ZF.1.newBox (2*d+2) ty (by omega) YE (by omega);have XH:(wr d (.ptr ⟨2*d+2,0,[]⟩ [(σ2.root (2*d+2) l).v (2*d+2,0,0)])).run (σ2.root (2*d+2) l)=some ((),σ'):=h4;simp only[wr,SP.run,oSJ,oPJ,true_and]at XH;subst XH;unfold Oper.wp;rw[YH YK,Oper.upon_enter];refine(Wj asq w (by omega) Zq).mono λe w2 ⟨he,hw⟩=>?_;subst he;subst hw;simp only;refine hK (a.put o.dst (.pointer (some ⟨w.heap.size,0,none⟩))) _ G3 ?_ (rC _ _ _);rw[hdst];refine WY.wrT hdN (.ptr (σ2.root (2*d+2) l).v (λ_=>Nat.le_refl _) (by simp[lJ]) λ_=>⟨by simp_all,⟨w.heap.size,0,none⟩,_,?_,rfl,rfl⟩);unfold Gh.addr
  simp_all
theorem KC{E:Env}{F:gD}(hB:Ps P E)(hF:nz P F):CK P M mo (evCall E F):=by
 intro o t σ σ' a w G hc hd hI hr;rcases hc with rfl|hc
 ·simp[evop,evCall,S1,SP.run]at hr
 cases ho:o.op with
 |call c=>
  rw[ho]at hc;obtain⟨callee,args,U'⟩:=c
  cases callee with
  |value fo=>
   cases t with
   |call k f' args'=>
    simp only[uu]at hc;obtain⟨hf,hlen,hargs⟩:=hc;simp only[evop]at hr
    cases f' with
    |f Y6=>
     have hfo:fo=.func Y6:=by cases fo<;>simp[dZ]at hf;rw[hf]
     have hex:∀Y6,fo=.func Y6->u5 P Y6->(execOp a.eval o).run P w=.ok (.enter Y6 (args.toList.map a.eval).toArray) w:=λY6 hfo YK=>by
      have:=ue (a:=a) (w:=w) ho (by rw[hfo];rfl:a.eval fo=.func (.func Y6) #[] #[]) YK
      have ea:(args.toList.map a.eval).toArray=args.map a.eval:=by apply Array.ext';rw[Array.toList_map]
      rw[ea];simpa using this
     have hex:=hex Y6 hfo;simp only[evCall]at hr
     cases k with
     |false=>
      simp only[Bool.false_eq_true,if_false]at hr;obtain⟨vals,σ1,h1,h2⟩:=dN hr;obtain⟨rfl,YU,W6⟩:=P1 (l':=args.toList) hI (by simp[hlen]) (λj h h'=>by have:=hargs j (by simpa using h) (by simpa using h');simpa using this) h1
      have VY:vals.length=args'.length:=by rw[YU];simp
      exact QW hF hd hI (by simp;omega) (λj h h'=>by have:=W6 j h (by simpa using h');simpa using this) h2 hex
     |true=>
     simp only[if_true]at hr;obtain⟨vals,σ1,h1,h2⟩:=dN hr;obtain⟨G1,Zv,YU,W6⟩:=Lj (l':=args.toList) hI (by simp[hlen]) (λj h h'=>by have:=hargs j (by simpa using h) (by simpa using h');simpa using this) h1;have VY:vals.length=args'.length:=YU;split at h2
     ·rename_i x hbx;split at h2
      case isFalse=>simp[SP.run]at h2
      rename_i hn;exact QM hB hbx hn hd Zv.1 (by simp;omega) (λj h h'=>by have:=W6 j h (by simpa using h');simpa using this) h2 hex
     ·exact Lf hF hd Zv.1 (by simp;omega) (by simp;omega) (λj h h'=>by have:=W6 j h (by simpa using h');simpa using this) h2 hex
    |t i=>
     simp only[evCall,SP.run]at hr;split at hr
     case h_2=>simp[SP.run]at hr
     rename_i Y6 caps htv;obtain⟨vals,σ1,h1,h2⟩:=dN hr;obtain⟨G1,Zv,YU,W6⟩:=Lj (l':=args.toList) hI (by simp[hlen]) (λj h h'=>by have:=hargs j (by simpa using h) (by simpa using h');simpa using this) h1;have VY:vals.length=args'.length:=YU
     have hfo:fo=.tmp i:=by cases fo<;>simp[dZ]at hf;rw[hf]
     have Zm:=hI.tmr i;rw[htv]at Zm
     have X0:a.eval fo=a.tmps.getD i undef:=by rw[hfo];rfl
     generalize hz:a.tmps.getD i undef=z at Zm X0
     cases Zm with
     | @fn _ _ xs Zd hct=>
      have hex:u5 P Y6->(execOp a.eval o).run P w=.ok (.enter Y6 (args.toList.map a.eval++xs.toList).toArray) w:=λYK=>by
       have:=ue (a:=a) (w:=w) ho X0 YK
       have ea:(args.toList.map a.eval++xs.toList).toArray=args.map a.eval++xs:=by apply Array.ext';simp
       rw[ea];exact this
      have hcl':xs.toList.length=caps.length:=by simpa using Zd
      exact Lf hF hd Zv.1 (by simp[QV];omega) (by simp;omega) (λj h h'=>by
       by_cases hj:j<vals.length
       ·have:=W6 j hj (by simp;omega);simpa[List.getElem_append_left,hj,List.getElem_append,show j<args.size by omega]using this
       ·have Xh:j-vals.length<caps.length:=by simp at h;omega
        have:=Zv.tm (hct (j-vals.length) Xh)
        have hj3:¬j<args.size:=by omega
        have e1:args.size=vals.length:=by omega
        simp only[List.getElem_append,hj,dite_false,List.length_map,Array.length_toList,hj3,Array.getElem_toList];simp only[e1]
        have e2:xs.getD (j-vals.length) undef=xs[j-vals.length]:=by simp[Array.getD_eq_getD_getElem?,show j-vals.length<xs.size by omega]
        rw[<- e2]
        exact this) h2 hex
    |_=>simp[evCall,SP.run]at hr
   |_=>simp[uu]at hc
  |_=>cases t<;>simp[uu]at hc
 |_=>rw[ho]at hc;cases t<;>simp[uu]at hc
end
theorem u6{P:Program}{ops:Array Oper}{Q:Exit->Act->World->Prop}{i:Nat}{L:List Nat}{a:Act}{w:World}{o:Oper}{v:Value}(ho:ops[i]?=some o)(hg:o.guard=none)(hrun:(execOp a.eval o).run P w=.ok (.value v) w)(h:wpOps P ops Q L (a.put o.dst v) w):wpOps P ops Q (i::L) a w:=by
 simp[wpOps,ho];rw[oIP (by simp[Region.wanted,hg])];left;unfold Oper.wp;rw[hrun];exact h
structure Pq (P:Program)(c rest:Code):Prop where
 ex:∃(i0 i1 i2:Nat)(o0 o1 o2 o3:Oper)(ty ty2 e:TypeId),c=.seq (.region i0 #[o0] false) (.seq (.seq (.region i1 #[o1,o2] false) (.cond (.tmp 4) (.seq (.region i2 #[o3] false) .ret) .skip)) rest)/\
  (o0.dst=some 2/\o0.guard=none/\o0.op=.assign (.const (.slice none 0 0)))/\(o1.dst=some 3/\o1.guard=none/\o1.op=.move (.tmp 0))/\
  (o2.dst=some 4/\o2.guard=none/\o2.op=.binOp .eql ty (.tmp 3) (.const (.slice none 0 0)) ty2)/\(o3.dst=some 2/\o3.guard=none/\o3.op=.assign (.const (.slice none 0 0)))/\P.underlying ty=some (.slice e)
def Cn(ts:Array Value)(x:Value)(b:Bool):Array Value:=((ts.setIfInBounds 2 (.slice none 0 0)).setIfInBounds 3 x).setIfInBounds 4 (.bool b)
theorem QT{P:Program}{c rest:Code}(hc:Pq P c rest){ad:Option Addr}{n cap:Nat}{ts:Array Value}{w:World}{Q:Exit->Act->World->Prop}(h0:ts.getD 0 undef=.slice ad n cap)(hN:4<ts.size)
 (hnil:ad=none->Q .ret ⟨(Cn ts (.slice ad n cap) true).setIfInBounds 2 (.slice none 0 0),[]⟩ w)(ZT:ad≠none->rest.wp P Q ⟨Cn ts (.slice ad n cap) false,[]⟩ w):c.wp P Q ⟨ts,[]⟩ w:=by
 obtain⟨i0,i1,i2,o0,o1,o2,o3,ty,ty2,e,rfl,⟨d0,g0,p0⟩,⟨d1,g1,p1⟩,⟨d2,g2,p2⟩,⟨d3,g3,p3⟩,hu⟩:=hc.ex
 have WQ:∀{o:Oper}{a:Act}{x:Operand},(o.op=.assign x\/o.op=.move x)->(execOp a.eval o).run P w=.ok (.value (a.eval x)) w:=λho=>by rcases ho with ho|ho<;>simp[execOp,ho]
 refine wp_seq (wp_region ?_);show wpOps P #[o0] _ [0] _ w;refine u6 (o:=o0) rfl g0 (WQ (.inl p0)) ?_;rw[d0];refine wp_seq (wp_seq (wp_region ?_));show wpOps P #[o1,o2] _ [0,1] _ w;refine u6 (o:=o1) rfl g1 (WQ (.inr p1)) ?_;rw[d1]
 have e0:(ts.setIfInBounds 2 (.slice none 0 0)).getD 0 undef=.slice ad n cap:=by
  rw[<- h0];simp[Array.getD_eq_getD_getElem?,Array.getElem?_setIfInBounds]
 have e3:((ts.setIfInBounds 2 (.slice none 0 0)).setIfInBounds 3 (.slice ad n cap)).getD 3 undef=.slice ad n cap:=by
  simp[Array.getD_eq_getD_getElem?,Array.getElem?_setIfInBounds,show 3<ts.size by omega]
 have Xm:(execOp (Act.mk ((ts.setIfInBounds 2 (.slice none 0 0)).setIfInBounds 3 (.slice ad n cap)) []).eval o2).run P w=.ok (.value (.bool ad.isNone)) w:=by
  have hb:=Lib.run_eql_slice_nil (P:=P) w ty e ad n cap 0 0 hu;have ex:(Act.mk ((ts.setIfInBounds 2 (.slice none 0 0)).setIfInBounds 3 (.slice ad n cap)) []).eval (.tmp 3)=.slice ad n cap:=e3;have ey:∀a:Act,a.eval (.const (.slice none 0 0))=.slice none 0 0:=λ_=>rfl;have hg:(eqGuard .eql ty (.tmp 3) (.const (.slice none 0 0)) (.slice ad n cap) (.slice none 0 0)).run P w=.ok () w:=rfl;simp[execOp,p2,ex,ey,hb,hg]
 refine u6 (o:=o2) (v:=.bool ad.isNone) rfl g2 ?_ ?_
 ·show(execOp (Act.mk ((ts.setIfInBounds 2 (.slice none 0 0)).setIfInBounds 3 ((ts.setIfInBounds 2 (.slice none 0 0)).getD 0 undef)) []).eval o2).run P w=_;rw[e0];exact Xm
 rw[d2];show(Code.cond (.tmp 4) _ _).wp P _ ⟨((ts.setIfInBounds 2 (.slice none 0 0)).setIfInBounds 3 ((ts.setIfInBounds 2 (.slice none 0 0)).getD 0 undef)).setIfInBounds 4 (.bool ad.isNone),[]⟩ w;rw[e0]
 have e4:∀b,(Cn ts (.slice ad n cap) b).getD 4 undef=.bool b:=λb=>by
  unfold Cn;simp[Array.getD_eq_getD_getElem?,Array.getElem?_setIfInBounds,hN]
 cases ad with
 |none=>
  refine wp_cond_true (e4 true) (wp_seq (wp_region ?_));show wpOps P #[o3] _ [0] _ w;refine u6 (o:=o3) rfl g3 (WQ (.inl p3)) ?_;rw[d3];exact wp_ret (hnil rfl)
 |some ad=>exact wp_cond_false (e4 false) (wp_skip (ZT (by simp)))
def IB(sz:Nat)(b:Bool)(bytes:Nat)(mv fl:Bool)(id:Nat):mF:=
 .seq (.reg id none [⟨some 5,none,.bsl sz b 0 []⟩,⟨some 6,none,.mov (.t 0)⟩,⟨some 7,none,.app sz bytes mv fl (.t 5) (.t 6)⟩,⟨some 2,none,.asn true (.t 7)⟩] ([2],[7])) .ret
def IA(call:Option Nat->TOp->SP Unit)(N:Nat)(tc:mF):Option (List TV×List RSh):=(runC call N tc (mkSt [.sl []] [])).bind λx=>match x.1 with|.exit _=>none|_=>((resF 1 [.tmp 2]).run x.2).map (·.1)
theorem MG(call:Option Nat->TOp->SP Unit)(N sz:Nat)(b:Bool)(bytes:Nat)(mv fl:Bool)(id:Nat):IA call N (IB sz b bytes mv fl id)=IA (λ_ _=>.fail) 0 (IB sz b bytes mv fl id):=rfl
def A4(tc:mF):Bool:=match IA (λ_ _=>.fail) 0 tc with
 |some ([.ow []],[.one])=>true
 |_=>false
theorem J7{tc:mF}(h:A4 tc=true):IA (λ_ _=>.fail) 0 tc=some ([.ow []],[.one]):=by
 unfold A4 at h
 grind
def qz(pp:List Nat):Nat->List TV->Bool
 |_,[]=>true
 |i,.ptr _ _::r=>pp.contains i&&qz pp (i+1) r
 |i,.sl _::r=>qz pp (i+1) r
 |i,_::r=>!pp.contains (1000+i)&&qz pp (i+1) r
theorem N4{pp:List Nat}:∀{l:List TV}{i:Nat},qz pp i l=true->∀j p vs,l[j]?=some (.ptr p vs)->i+j∈pp:=by
 intro l
 induction l with
 |nil=>simp_all
 |cons t l ih=>
  intro i h j p vs hj
  have hr:qz pp (i+1) l=true:=by
   cases t<;>simp only[qz,oBA]at h<;>first|exact h.2|exact h
  cases j with
  |zero=>
   have:t=.ptr p vs:=by simp_all
   subst this;simp[qz,List.contains_eq_mem,oDE]at h;exact h.1
  |succ j=>
   have:=ih hr j p vs (by simp_all);rw[show i+(j+1)=i+1+j by omega];exact this
def runT(E:Env)(F:gD)(n:Nat)(tf:TFn)(vals:List TV)(pts:Pts):Option (MQ×Pts):=
 if vals.length=tf.np/\(qz tf.pp 0 vals&&(!tf.pp.contains 1000||pts.isEmpty))=true then
  (runC (evCall E F) n tf.body (mkSt vals pts)).bind λx=>match x.1 with
   |.exit _=>none
   |_=>((resF tf.np tf.res).run x.2).bind λy=>some (⟨y.1.1,y.1.2⟩,pts.map λx=>(x.1,(eV y.2.ce x.1).getD []))
 else none
def LD(E:Env)(T:FuncId->Option TFn)(B F:gD)(n:Nat):gD:=λf vals pts=>
 match T f with
 |none=>B f vals pts
 |some tf=>runT E F n tf vals pts
def runF(E:Env)(T:FuncId->Option TFn)(B:gD):Nat->gD
 |0=>λ_ _ _=>none
 |n+1=>LD E T B (runF E T B n) n
def Pp(P:Program)(tf:TFn)(c:Code):Prop:=
 tf.np=1/\tf.pp=[1000]/\tf.nt=8/\tf.res=[.tmp 2]/\A4 tf.body=true/\(∃sz b bytes mv fl id,tf.body=IB sz b bytes mv fl id)/\
  ∃rest,Pq P c rest/\∀M:Fm,M.N=tf.nt->(∀r,M.pr r≠none->∃i∈tf.pp,r=2*i+2)->kv P M mo tf.body rest
def Pm(P:Program)(T:FuncId->Option TFn):Prop:=
 ∀f tf,T f=some tf->∃fn c,P.funcs[f]?=some fn/\(fn.name=="runtime.NumGoroutine")=false/\fn.body=some c/\fn.ntmps=tf.nt/\tf.np<=tf.nt /\
  ((∀M:Fm,M.N=tf.nt->(∀r,M.pr r≠none->∃i∈tf.pp,r=2*i+2)->kv P M mo tf.body c)\/Pp P tf c)/\tf.res.length=fn.results.size/\∀k (h:k<tf.res.length)(h':k<fn.results.size),Kc P tf.res[k] fn.results[k]
section
variable {P:Program} {E:Env} {T:FuncId->Option TFn} {B F:gD}
def Uq(tf:TFn)(pts:Pts)(x:mE×St):Option (MQ×Pts):=match x.1 with
 |.exit _=>none
 |_=>((resF tf.np tf.res).run x.2).bind λy=>some ((⟨y.1.1,y.1.2⟩:MQ),pts.map λ(x:Nat×List TV)=>(x.1,(eV y.2.ce x.1).getD []))
theorem Ka{tf:TFn}{fn:Func}{M:Fm}{σ1:St}{a':Act}{w':World}{G':Gh}{pts Zn:Pts}{res:MQ}{e:mE}(X3:tf.res.length=fn.results.size)(Y0:∀k (h:k<tf.res.length)(h':k<fn.results.size),Kc P tf.res[k] fn.results[k])
 (ZE:Inv M σ1 [] [] a'.tmps w' G')(hd:a'.defers=[])(h2:Uq tf pts (e,σ1)=some (res,Zn)):
 bodyPost P fn (λe w2=>∃v σ2,e=.returned v/\Uv M res v σ2 w2/\Zn=pts.map λ(x:Nat×List TV)=>(x.1,(eV σ2.ce x.1).getD [])) e.toExit a' w':=by
 unfold Uq at h2
 have W7:∀y,(resL tf.np tf.res).run σ1=some y->some ((⟨y.1.1,y.1.2⟩:MQ),pts.map λx=>(x.1,(eV y.2.ce x.1).getD []))=some (res,Zn)->a'.defers=[]/\∃v,(results fn a'.tmps).run P w'=.ok v w' /\
  ∃v' σ2,Ending.returned v=.returned v'/\Uv M res v' σ2 w'/\Zn=pts.map λx=>(x.1,(eV σ2.ce x.1).getD []):=by
  rintro⟨r,σ2⟩ hr he;obtain⟨vs,ys,G2,hrun,hg,hl,hok,hrv⟩:=Sm (qs':=fn.results.toList) ZE (by simpa using X3) (λk h h'=>by have:=Y0 k h (by simpa using h');simpa using this) hr
  injection he with he
  injection he with he1 he2
  subst he1;subst he2;refine⟨hd,rB r.2 ys,?_,rB r.2 ys,σ2,rfl,.inl ⟨ys,a'.tmps,G2,rfl,by simpa using hg.1,hok⟩,rfl⟩;unfold results;rw[Array.mapM_eq_mapM_toList];simp only[Sem.run_bind,Sem.run_map]
  erw[hrun]
  unfold rB;rw[hrv]
  cases vs with
  |nil=>rfl
  |cons v vs=>
   cases vs with
   |nil=>rfl
   |cons v2 vs=>rfl
 have key:∀y,(resF tf.np tf.res).run σ1=some y->some ((⟨y.1.1,y.1.2⟩:MQ),pts.map λx=>(x.1,(eV y.2.ce x.1).getD []))=some (res,Zn)->a'.defers=[]/\∃v,(results fn a'.tmps).run P w'=.ok v w' /\
  ∃v' σ2,Ending.returned v=.returned v'/\Uv M res v' σ2 w'/\Zn=pts.map λx=>(x.1,(eV σ2.ce x.1).getD []):=by
  intro y hr he;unfold resF at hr;split at hr
  ·rename_i t rs htf;simp only[SP.run]at hr;split at hr
   ·rename_i p vs htv;obtain⟨_,σ2,h3,h4⟩:=dN hr;have e1:σ2=σ1:=(eI h3).1;have e2:=(eI h3).2;subst e1;obtain⟨fl,σ3,h5,h6⟩:=dN h4;simp only[SP.run,oSJ]at h6;subst h6
    injection he with he
    injection he with he1 he2
    subst he1;subst he2;have Zm:=ZE.tmr t;rw[htv]at Zm
    obtain⟨q0,qs',hrs⟩:∃q0 qs',fn.results.toList=q0::qs':=by
     have hlen:fn.results.toList.length=rs.length+1:=by rw[Array.length_toList,<- X3,htf];rfl
     cases hl:fn.results.toList with
     |nil=>rw[hl]at hlen;simp at hlen
     |cons q0 qs'=>exact⟨q0,qs',rfl⟩
    have O':∀(L:List TRs)(L':List ResultVar),tf.res=L->fn.results.toList=L'->∀k (h:k<L.length)(h':k<L'.length),Kc P L[k] L'[k]:=by
     rintro _ _ rfl rfl k h h';have:=Y0 k h (by simpa using h');simpa using this
    have hq0:q0=.tmp t:=O' _ _ htf hrs 0 (by simp) (by simp)
    have hlen2:rs.length=qs'.length:=by
     have h7:fn.results.toList.length=rs.length+1:=by rw[Array.length_toList,<- X3,htf];rfl
     rw[hrs]at h7;simpa using h7.symm
    obtain⟨rfl,ZO,hrun⟩:=OS (qs':=qs') ZE hlen2 (λk h h'=>O' _ _ htf hrs (k+1) (by simpa using h) (by simpa using h')) h5
    have Xm:(fn.results.toList.mapM λ(q:ResultVar)=>(match q with|.tmp t=>(pure (a'.tmps.getD t undef):Sem Value)|.cell a t=>do loadVar t (<- asAddr (a'.tmps.getD a undef)))).run P w'=.ok (a'.tmps.getD t undef::fl.map unV) w':=by
     rw[hrs,hq0,List.mapM_cons,Sem.run_bind];show Result.andThen (.ok (a'.tmps.getD t undef) w') _=_;simp only[Result.andThen_ok,Sem.run_bind];refine(congrArg (λr=>Result.andThen r _) hrun).trans ?_;simp
    generalize a'.tmps.getD t undef=z at Zm Xm
    cases Zm with
    |ptr V0 h0 hv hok=>
     have hp:=hok e2;refine⟨hd,DW z (fl.map unV),?_,DW z (fl.map unV),σ3,rfl,.inr ⟨p,vs,fl,z,a'.tmps,G',rfl,⟨_,rfl⟩,ZO,rfl,ZE,hp⟩,rfl⟩;unfold results;rw[Array.mapM_eq_mapM_toList];simp only[Sem.run_bind,Sem.run_map]
     erw[Xm]
     cases fl with
     |nil=>rfl
     |cons y l=>rfl
   ·exact W7 y (by rw[htf];exact hr) he
  ·exact W7 y hr he
 cases e with
 |exit i=>simp at h2
 |normal=>
  simp only at h2;obtain⟨y,h3,h4⟩:=d9 h2;exact key y h3 h4
 |ret=>
  simp only at h2;obtain⟨y,h3,h4⟩:=d9 h2;exact key y h3 h4
theorem PD(hT:Pm P T)(hE:Ps P E)(hB:nz P B)(hF:nz P F)(n:Nat):nz P (LD E T B F n):=by
 intro f vals pts res Zn h;unfold LD at h
 cases ht:T f with
 |none=>rw[ht]at h;exact hB f vals pts res Zn h
 |some tf=>
  rw[ht]at h;simp only[runT]at h;split at h
  case isFalse=>simp at h
  rename_i hnp;obtain⟨hnp,hppe⟩:=hnp;simp only[oBA]at hppe;obtain⟨hpp,hpe⟩:=hppe;obtain⟨⟨e,σ1⟩,h1,h2⟩:=d9 h;obtain⟨fn,c,hf,B',hb,hnt,X8,XN,X3,Y0⟩:=hT f tf ht;refine⟨It hf B' hb,tf.nt,by omega,λM asq w G hal hN hw0 YE hI=>?_⟩;refine calls_of_wp hf hb ?_
  have hN2:fn.ntmps-asq.toArray.size=tf.nt-asq.length:=by rw[hnt];simp
  rw[hN2]
  have hpr':∀r,M.pr r≠none->∃i∈tf.pp,r=2*i+2:=λr hr=>by obtain⟨i,p,vs,h3,h4⟩:=YE r hr;exact⟨i,by simpa using N4 hpp i p vs h3,h4⟩
  rcases XN with XN|⟨c1,c2,c3,c4,c5,⟨sz,b,bytes,mv,fl,id,c6⟩,rest,Zd,XN⟩
  ·exact KB (KC hE hF) n tf.body c _ e σ1 ⟨asq.toArray++Array.replicate (tf.nt-asq.length) undef,[]⟩ w G _ (XN M hN hpr') h1 hI λa' w' G' ZE hd=>Ka X3 Y0 ZE hd h2
  ·
   obtain⟨v0,rfl⟩:∃v,vals=[v]:=List.length_eq_one_iff.1 (by rw[hnp,c1]);obtain⟨x0,rfl⟩:∃x,asq=[x]:=List.length_eq_one_iff.1 (by rw[hal];rfl)
   have hp0:pts=[]:=by rw[c2]at hpe;simpa using hpe
   subst hp0
   obtain⟨l0,rfl⟩:∃l,v0=.sl l:=by
    rw[c2]at hpp;cases v0<;>simp[qz]at hpp;exact⟨_,rfl⟩
   have hv:=hI.tmr 0;have e0:(mkSt [TV.sl l0] ([]:Pts)).t 0=.sl l0:=rfl
   have e1:(#[x0]++Array.replicate (tf.nt-1) undef).getD 0 undef=x0:=by simp[Array.getD_eq_getD_getElem?,Array.getElem?_append]
   have hv:TmR w (G.F M.A) (mkSt [TV.sl l0] ([]:Pts)).v (eU M (mkSt [TV.sl l0] ([]:Pts)) []) G (.sl l0) x0:=by
    have:=hI.tmr 0;rw[e0]at this;rw[show([x0]:List Value).toArray=#[x0]from rfl,show([x0]:List Value).length=1 from rfl,e1]at this;exact this
   cases hv with
   |sl hs=>
    cases hs with
    | @sl _ ad cap zz u hsz hcap hmax hnil0 hcell hrec=>
     have hdead:∀(H:List TV)(xs:List Value)(ts:Array Value)(d:Nat)(v:Value),0<d->Inv M (mkSt [TV.sl l0] []) H xs ts w G->Inv M (mkSt [TV.sl l0] []) H xs (ts.setIfInBounds d v) w G:=by
      intro H xs ts d v hd hI;refine⟨hI.core,λi=>?_,hI.fram,hI.keys,by rw[Array.size_setIfInBounds];exact hI.size,hI.hand,hI.hval,hI.shape⟩;by_cases hi:i=d
      ·subst hi
       have:(mkSt [TV.sl l0] ([]:Pts)).t i=.dead:=by
        simp[St.t,mkSt,iA,eV,show ¬ 0=i by omega]
       rw[this];exact .dead
      ·have:(ts.setIfInBounds d v).getD i undef=ts.getD i undef:=by simp[Array.getD_eq_getD_getElem?,Array.getElem?_setIfInBounds,Ne.symm hi]
       rw[this];exact hI.tmr i
     refine QT Zd (ad:=ad) (n:=l0.length) (cap:=cap) (by simp[Array.getD_eq_getD_getElem?,Array.getElem?_append]) (by simp[c3]) (λZc=>?_) (λ_=>?_)
     ·have WY:=hdead _ _ _ 4 (.bool true) (by decide) (hdead _ _ _ 3 (.slice ad l0.length cap) (by decide) (hdead _ _ _ 2 (.slice none 0 0) (by decide) hI));subst Zc;have hcap0:=hnil0 rfl;have Wr:l0=[]:=oEN (by omega);subst Wr;have hI4:=WY.wrT (d:=2) (by omega) (t:=.ow []) (x:=.slice none 0 0) .nil;have hrun:=J7 c5;rw[c6,<- MG (evCall E F) n,<- c6]at hrun;unfold IA at hrun;rw[h1]at hrun;simp only[oBS]at hrun h2
      have hres1:res=⟨[.ow []],[.one]⟩/\Zn=[]:=by
       cases e with
       |exit i=>simp at hrun
       |normal=>
        simp only[c1,c4]at h2;simp only at hrun;obtain⟨y,hy,Xo⟩:=jW hrun;rw[hy]at h2;simp only[oBS,oSJ,oPJ]at h2;rw[Xo]at h2;exact⟨h2.1.symm,by simpa using h2.2.symm⟩
       |ret=>
        simp only[c1,c4]at h2;simp only at hrun;obtain⟨y,hy,Xo⟩:=jW hrun;rw[hy]at h2;simp only[oBS,oSJ,oPJ]at h2;rw[Xo]at h2;exact⟨h2.1.symm,by simpa using h2.2.symm⟩
      obtain⟨rfl,rfl⟩:=hres1
      have h5:Uq tf [] (.ret,{ mkSt [TV.sl []] ([]:Pts)with tm:=gS (mkSt [TV.sl []] ([]:Pts)).tm 2 (.ow []) })=some (⟨[.ow []],[.one]⟩,[]):=by
       unfold Uq;simp only[c1,c4];rfl
      obtain⟨T,hT⟩:∃T:Array Value,T=(Cn ([Value.slice none ([]:List (List TV)).length cap].toArray++Array.replicate (tf.nt - [Value.slice none ([]:List (List TV)).length cap].length) undef) (.slice none ([]:List (List TV)).length cap) true).setIfInBounds 2 (.slice none 0 0):=⟨_,rfl⟩;have WS:=hI4;unfold Cn at hT;rw[<- hT]at WS;have h7:=Ka (tf:=tf) (fn:=fn) (P:=P) (pts:=[]) (e:=.ret) (a':=⟨T,[]⟩) (w':=w) (G':=G) X3 Y0 WS rfl h5;rw[hT]at h7;exact h7
     ·have ZH:=hdead _ _ _ 4 (.bool false) (by decide) (hdead _ _ _ 3 (.slice ad l0.length cap) (by decide) (hdead _ _ _ 2 (.slice none 0 0) (by decide) hI));exact KB (KC hE hF) n tf.body rest _ e σ1 ⟨Cn _ (.slice ad l0.length cap) false,[]⟩ w G _ (XN M hN hpr') h1 ZH λa' w' G' ZE hd=>Ka X3 Y0 ZE hd h2
theorem runF_ok(hT:Pm P T)(hE:Ps P E)(hB:nz P B):∀n,nz P (runF E T B n):=by
 intro n
 induction n with
 |zero=>intro f vals pts res Zn h;simp[runF]at h
 |succ n ih=>exact PD hT hE hB ih n
end
def vp(P:Program)(own:Nat->Bool):Nat->List TypeId->List Operand->Option (List (Option Nat×Opd))
 |_,_,[]=>some []
 |i,ts,x::xs=>
  match dZ x,vp P own (i+1) ts.tail xs with
  |some y,some l=>
   match ts with
   |t::_=>match P.underlying t with
    |some (.pointer e)=>match Er P e with
     |some n=>some ((some n,y)::l)
     |none=>none
    |some (.slice _)=>some ((if own i then some 0 else none,y)::l)
    |_=>some ((none,y)::l)
   | []=>some ((none,y)::l)
  |_,_=>none
def TY(P:Program)(t:TypeId):Bool:=match P.underlying t with
 |some (.int _)=>true
 |some .bool=>true
 |some .string=>true
 |some (.struct _)=>(vR P 50 t).isSome
 |_=>false
def Oo(P:Program)(fn:Func):Bool:=fn.resultTypes.toList.all (TY P)&&fn.params.toList.all λt=>match P.underlying t with|some (.pointer _)=>false|_=>true
def mY:Code->List Oper
 |.region _ ops _=>ops.toList
 |.seq a b=>mY a++mY b
 |.cond _ a b=>mY a++mY b
 |.block _ b=>mY b
 |.loop b=>mY b
 |_=>[]
def Rn(ops:List Oper)(j:Nat):Option Operand->Bool
 |some (.tmp t)=>t==j||ops.any λo=>o.dst==some t&&match o.op with|.move (.tmp u)=>u==j|_=>false
 |_=>false
def TW(P:Program):Nat->Func->Nat->Bool
 |0,_,_=>false
 |n+1,fn,j=>match fn.body with
  |some c=>(mY c).any λo=>match o.op with
   |.call ⟨.builtin .append,args,_⟩=>Rn (mY c) j args[0]?
   |.call ⟨.value (.func g),args,_⟩=>match P.funcs[g]? with
    |some fg=>args.toList.zipIdx.any λx=>Rn (mY c) j (some x.1)&&TW P n fg x.2
    |none=>false
   |_=>false
  |none=>false
def A3(P:Program):Op->Option TOp
 |.call ⟨.value (.func f),args,_⟩=>
  match P.funcs[f]? with
  |some fn=>(vp P (TW P 3 fn) 0 fn.params.toList args.toList).map λl=>.call (!Oo P fn) (.f f) l
  |none=>none
 |.call ⟨.value (.tmp i),args,tys⟩=>(vp P (λ_=>false) 0 tys.toList args.toList).map λl=>.call true (.t i) l
 |_=>none
def JX(mv:Nat):TOp->TOp
 |.call k f args=>.call k f (if 10<=mv then args.map λx=>(x.1.map λn=>min n (mv-10),x.2)else args)
 |t=>t
def uC(P:Program)(mv:Nat)(op:Op):TOp:=
 match iW P mv op with
 |some t=>t
 |none=>match A3 P op with
  |some t=>JX mv t
  |none=>S1
def T2(pp:List Nat)(nt:Nat):Option Nat->Bool
 |some d=>decide (d<nt) && !pp.contains d
 |none=>true
def F7(P:Program)(pp:List Nat)(nt:Nat)(ops:Array Oper)(mv:Nat)(o:Oper):Option kC:=
 if T2 pp nt o.dst then
  match o.guard with
  |none=>some ⟨o.dst,none,uC P mv o.op⟩
  |some (j,want)=>match(ops[j]?).bind (·.dst)with
   |some d=>some ⟨o.dst,some (d,want),uC P mv o.op⟩
   |none=>none
 else none
def rN(P:Program)(pp:List Nat)(nt:Nat)(ops:Array Oper):List Nat->List Oper->Option (List kC)
 |_,[]=>some []
 |m,o::r=>match F7 P pp nt ops (m.headD 0) o,rN P pp nt ops m.tail r with
  |some t,some l=>some (t::l)
  |_,_=>none
def Iv:List Oper->List (List Nat)->List (List Nat)
 | [],acc=>acc
 |o::r,acc=>Iv r (acc++[((o.after.toList.filter (Region.binds .any)).flatMap λe=>e.on::acc.getD e.on []).eraseDups])
def F2(ops:List Oper)(deps:List (List Nat)):Nat->Bool
 |0=>true
 |i+1=>F2 ops deps i&&match ops[i]? with
  |some o=>(o.after.toList.all λe=>!Region.binds .any e||decide (e.on<i))&&((deps.getD i []).all λj=>o.after.toList.any λe=>Region.binds .any e&&(e.on==j||(deps.getD e.on []).contains j))
  |none=>true
def F8(P:Program)(ops:Array Oper)(tops:List kC)(draw:Bool):Option (Option (List (List Nat))):=
 if draw then
  if P.follows .mixedOrders&&F2 ops.toList (Iv ops.toList []) ops.size then
   if DS (Iv ops.toList []) tops (List.range tops.length)then some none else some (some (Iv ops.toList []))
  else none
 else some none
def yP:Code->Option Nat
 |.region id _ _=>some id
 |.seq _ b=>yP b
 |.cond _ a b=>match yP b with|some i=>some i|none=>yP a
 |.block _ b=>yP b
 |_=>none
def Ks(pers:Nat->Prs)(a:Code)(l:List (Nat×Option Nat)):mF->mF
 |.skip=>match yP a with
  |some i=>.nrm (pers i)
  |none=>match l with
   | []=>.skip
   |_::_=>.nrm (l.filterMap λx=>match x.2 with|none=>some x.1|some _=>none,l.filterMap (·.2))
 |t=>t
def T4:Operand->Nat
 |.tmp t=>2000000+t
 |_=>2000000
def zw:Code->Nat
 |.seq a b=>zw a+zw b
 |.cond _ a b=>zw a+zw b
 |.block _ b=>zw b
 |.loop b=>zw b+1
 |_=>0
def Tx(nt:Nat)(l:List (Nat×Option Nat)):Bool:=l.all λy=>decide (y.1<nt)
def Un(nt:Nat)(l:List (Nat×Option Nat))(a:mF):mF:=match l with | []=>a|_::_=>if Tx nt l then .pre l a else a
def Qf(nt:Nat)(l:List (Nat×Option Nat))(a:mF):mF:=match l with | []=>a|_::_=>if Tx nt l then .post a l else a
def jf(P:Program)(pp:List Nat)(nt:Nat)(mv:Nat->List Oper->Bool->List Nat)(pers:Nat->Prs)(H:Nat->List (Nat×Option Nat)):Code->Nat->Option mF
 |.skip,_=>some .skip
 |.region id ops draw,_=>match rN P pp nt ops (mv id ops.toList draw) ops.toList with
  |some l=>match F8 P ops l draw with
   |some d=>some (Un nt (H (3000000+id)) (.reg id d l (pers id)))
   |none=>none
  |none=>none
 |.seq a b,i=>match jf P pp nt mv pers H a i,jf P pp nt mv pers H b (i+zw a)with
  |some x,some y=>some (.seq x y)
  |_,_=>none
 |.cond c a b,i=>match dZ c,jf P pp nt mv pers H a i,jf P pp nt mv pers H b (i+zw a)with
  |some k,some x,some y=>some (.cond k (Ks pers b (H (T4 c)) x) (Ks pers a (H (T4 c)) y))
  |_,_,_=>none
 |.block id b,i=>(jf P pp nt mv pers H b i).map (.block id)
 |.loop b,i=>(jf P pp nt mv pers H b (i+1)).map λx=>Un nt (H (i+1)) (.loop (Qf nt (H (i+1)) x))
 |.exit id,_=>some (.exit id)
 |.ret,_=>some .ret
 |_,_=>none
def uB(P:Program):List ResultVar->Option (List TRs)
 | []=>some []
 |.tmp t::r=>(uB P r).map (.tmp t :: ·)
 |.cell t ty::r=>match KO P ty,uB P r with
  |some n,some l=>some (.cell t n::l)
  |_,_=>none
def Gm(l:List Operand):List Nat:=l.filterMap λx=>match x with|.tmp t=>some t|_=>none
def Sl(l:List ResultVar):List Nat:=l.map λr=>match r with|.tmp t=>t|.cell t _=>t
def Oh:Op->Bool
 |.load _ _=>true
 |.move (.tmp _)=>true
 |.field _ _ _=>true
 |.fieldAddr _ _ _=>true
 |.indexAddr _ _ _=>true
 |.slice _ _ _ _ _=>true
 |.nilCheck _=>true
 |.extract _ _=>true
 |.pick _ _ _=>true
 |_=>false
def u4(l:List Nat):Nat:=l.foldl (λb i=>b ||| (1 <<< i)) 0
def Rd(nt b:Nat):List Nat:=(List.range nt).filter λi=>b.testBit i
def T3(b i:Nat):Nat:=if b.testBit i then b-(1 <<< i)else b
def OO(ops:List Oper)(o:Oper):List Nat:=match o.guard with|some (j,_)=>((ops[j]?).bind (·.dst)).toList|none=>[]
def Jh(ops:List Oper):List Oper->Nat->Nat
 | [],out=>out
 |o::r,out=>
  let b:=Jh ops r out
  (match o.dst with|some d=>T3 b d|none=>b) ||| u4 (Gm o.op.operands.toList++OO ops o)
def EJ(rt:Nat):Code->Nat->List (Nat×Nat)->Nat×List (Nat×Nat)
 |.region id ops _,out,_=>(Jh ops.toList ops.toList out,[(id,out)])
 |.seq a b,out,ex=>let y:=EJ rt b out ex;let x:=EJ rt a y.1 ex;(x.1,x.2++y.2)
 |.cond c a b,out,ex=>let x:=EJ rt a out ex;let y:=EJ rt b out ex;(x.1 ||| y.1 ||| u4 (Gm [c]),x.2++y.2)
 |.block id b,out,ex=>EJ rt b out ((id,out)::ex)
 |.loop b,_,ex=>let l:=(EJ rt b 0 ex).1;EJ rt b l ex
 |.exit id,_,ex=>((eV ex id).getD 0,[])
 |.ret,_,_=>(rt,[])
 |_,out,_=>(out,[])
def OE(P:Program)(t:TypeId):Bool:=match P.underlying t with|some (.pointer _)=>true|_=>false
def EC(P:Program)(b:Nat)(o:Oper):Nat:=
 match o.dst with
 |some d=>
  if(match o.op with
   |.box _ _=>true
   |.alloc _=>true
   |.fieldAddr _ _ _=>true
   |.indexAddr _ _ _=>true
   |.nilCheck _=>true
   |.load t _=>OE P t
   |.move (.tmp s)=>b.testBit s
   |.assign (.tmp s)=>b.testBit s
   |.call ⟨.value (.func f),_,_⟩=>match P.funcs[f]? with|some fn=>fn.resultTypes.toList.map (OE P)==[true]|none=>false
   |_=>false)then b ||| (1 <<< d)else b
 |none=>b
def Pi(b:Nat)(o:Oper):List (Nat×Nat):=
 match o.dst with
 |some d=>if Oh o.op then(Gm o.op.operands.toList).map λs=>(d,s)else match o.op with
  |.assign (.tmp s)=>if b.testBit s then[(d,s)]else[]
  |_=>[]
 |none=>[]
def S8(P:Program)(pp:List Nat)(c:Code):List (Nat×Nat):=
 let ops:=mY c
 let b:=ops.foldl (EC P) (ops.foldl (EC P) (u4 pp))
 ops.flatMap (Pi b)
def UD(o:Oper):Bool:=match o.op with
 |.extract _ _=>true
 |_=>false
def Q1(P:Program)(pp:List Nat)(c:Code):List (Nat×Nat):=
 let ops:=mY c
 let b:=ops.foldl (EC P) (ops.foldl (EC P) (u4 pp))
 (ops.filter λo=>!UD o).flatMap (Pi b)
def Ed(al:List (Nat×Nat))(b:Nat):Nat:=al.foldr (λx b=>if b.testBit x.1 then b ||| (1 <<< x.2)else b) b
def Sk(l:List Nat):List Nat:=l.flatMap λi=>[2*i+2,2*i+3]
def RH:Op->List Operand
 |.store _ _ x=>[x]
 |.call ⟨.builtin .append,args,_⟩=>args.toList.tail
 |op=>op.operands.toList
def UR(el:Nat)(al:List (Nat×Nat))(after:Nat)(o:Oper):Bool:=
 let live:=Ed al (Ed al after)
 (Gm (RH o.op)).all λt=>!el.testBit t&&(Ed al (Ed al (1 <<< t))) &&& live==0
def TM(el:Nat)(al:List (Nat×Nat))(ops:List Oper)(out:Nat):List Oper->List Bool
 | []=>[]
 |o::r=>UR el al (Jh ops r out) o::TM el al ops out r
def La(b:Nat)(o:Oper):Nat:=
 match o.dst with
 |some d=>
  if(match o.op with
   |.indexAddr _ _ _=>true
   |.fieldAddr _ (.tmp s) _=>b.testBit s
   |.load _ (.tmp s)=>b.testBit s
   |.nilCheck (.tmp s)=>b.testBit s
   |.move (.tmp s)=>b.testBit s
   |.field _ (.tmp s) _=>b.testBit s
   |_=>false)then b ||| (1 <<< d)else b
 |none=>b
def Oi(el:Nat)(al:List (Nat×Nat))(ops:List Oper)(out:Nat):List (Nat×Oper)->List Bool
 | []=>[]
 |(i,o)::r=>UR el al (out ||| u4 ((ops.zipIdx.filter λx=>x.2 != i).flatMap λx=>Gm x.1.op.operands.toList)) o::Oi el al ops out r
def U2(P:Program)(pp:List Nat)(c:Code)(res:List Nat):Nat->List Oper->Bool->List Bool:=
 let tb:=(EJ (u4 res) c (u4 res) []).2
 let al:=Q1 P pp c
 let ppb:=u4 pp
 let el:=(mY c).foldl La ((mY c).foldl La 0)
 λid ops draw=>
  let out:=((eV tb id).getD 0) ||| ppb
  if draw then Oi el al ops out (ops.zipIdx.map λx=>(x.2,x.1))else TM el al ops out ops
def TJ(P:Program)(pp:List Nat)(nt:Nat)(c:Code)(res:List Nat):Nat->Prs:=
 let tb:=(EJ (u4 res) c (u4 res) []).2
 let al:=S8 P pp c
 let ppb:=u4 pp
 λid=>
  let b:=((eV tb id).getD 0) ||| ppb
  (Rd nt b,Sk (Rd nt (Ed al (Ed al b))))
def Bx(P:Program):Nat->List TypeId->List Nat
 |_,[]=>[]
 |i,t::r=>match P.underlying t with
  |some (.pointer _)=>i::Bx P (i+1) r
  |_=>Bx P (i+1) r
def mvH(H:Nat->List (Nat×Option Nat))(mv:Nat->List Oper->Bool->List Bool):Nat->List Oper->Bool->List Nat:=
 λid ops draw=>match H (1000000+id)with
  | []=>(mv id ops draw).map λb=>if b then 1 else 0
  |l=>(mv id ops draw).zipIdx.map λx=>match l.find? λy=>y.1==x.2 with
   |some y=>y.2.getD 0
   |none=>if x.1 then 1 else 0
def Co(P:Program):Code->Option Code
 |.seq (.region _ a0 false) (.seq (.seq (.region _ a1 false) (.cond (.tmp 4) (.seq (.region _ a2 false) .ret) .skip)) rest)=>
  match a0.toList,a1.toList,a2.toList with
  | [⟨some 2,.assign (.const (.slice none 0 0)),_,_,_,none⟩],[⟨some 3,.move (.tmp 0),_,_,_,none⟩,⟨some 4,.binOp .eql ty (.tmp 3) (.const (.slice none 0 0)) _,_,_,_,none⟩],[⟨some 2,.assign (.const (.slice none 0 0)),_,_,_,none⟩]=>
   match P.underlying ty with
   |some (.slice _)=>some rest
   |_=>none
  |_,_,_=>none
 |_=>none
def Cl(P:Program)(fn:Func)(c:Code):Option TFn:=
 match Co P c with
 |some (.seq (.region id ops false) .ret)=>
  match rN P [1000] 8 ops [0,0,0,1] ops.toList with
  |some [⟨some 5,none,.bsl sz b 0 []⟩,⟨some 6,none,.mov (.t 0)⟩,⟨some 7,none,.app sz2 bytes mv fl (.t 5) (.t 6)⟩,⟨some 2,none,.asn true (.t 7)⟩]=>
   if sz2=sz/\A4 (IB sz b bytes mv fl id)=true/\fn.params.size=1/\fn.ntmps=8 then
    match uB P fn.results.toList with
    |some [.tmp 2]=>some ⟨1,[1000],8,IB sz b bytes mv fl id,[.tmp 2]⟩
    |_=>none
   else none
  |_=>none
 |_=>none
def zb(P:Program)(H:Nat->List (Nat×Option Nat))(f:FuncId):Option TFn:=
 match P.funcs[f]? with
 |some fn=>
  match fn.body with
  |some c=>
   match Cl P fn c with
   |some tf=>some tf
   |none=>
   let np:=fn.params.size+fn.nfree
   let pp:=Bx P 0 fn.params.toList++(List.range fn.nfree).map (fn.params.size + ·)
   let rt:=Sl fn.results.toList
   let pers:=TJ P pp fn.ntmps c rt
   match jf P pp fn.ntmps (mvH H (U2 P pp c rt)) pers H c 0,uB P fn.results.toList with
   |some tc,some rs=>some ⟨np,pp,fn.ntmps,Qf fn.ntmps (H 0) tc,rs⟩
   |_,_=>none
  |none=>none
 |none=>none
section
variable {P:Program} {M:Fm} {pp:List Nat} {nt:Nat}
theorem Ec:∀{qs:List ResultVar}{l:List TRs},uB P qs=some l->l.length=qs.length/\∀k (h:k<l.length)(h':k<qs.length),Kc P l[k] qs[k]:=by
 intro qs
 induction qs with
 |nil=>
  intro l h;simp only[uB]at h
  simp_all
 |cons q qs ih=>
  intro l h
  cases q with
  |tmp t=>
   obtain⟨l',h1,rfl⟩:=jW h;obtain⟨e,h2⟩:=ih h1;refine⟨by simp[e],λk hk YD=>?_⟩
   cases k with
   |zero=>exact rfl
   |succ k=>exact h2 k (by simpa using hk) (by simp_all)
  |cell t ty=>
   simp only[uB]at h;split at h
   ·rename_i n l' h1 h2
    injection h with h
    subst h;obtain⟨e,h3⟩:=ih h2;refine⟨by simp[e],λk hk YD=>?_⟩
    cases k with
    |zero=>exact⟨ty,rfl,GU h1⟩
    |succ k=>exact h3 k (by simp_all) (by simp_all)
   ·simp at h
theorem Cm{own:Nat->Bool}:∀{xs:List Operand}{i:Nat}{ts:List TypeId}{l:List (Option Nat×Opd)},vp P own i ts xs=some l->l.length=xs.length/\∀j (h:j<l.length)(h':j<xs.length),dZ xs[j]=some l[j].2:=by
 intro xs
 induction xs with
 |nil=>
  intro i ts l h;simp only[vp]at h
  simp_all
 |cons x xs ih=>
  intro i ts l h;simp only[vp]at h;split at h
  ·rename_i y l' h1 h2;obtain⟨e,h3⟩:=ih h2
   obtain⟨n,rfl⟩:∃n,l=(n,y)::l':=by
    (repeat' split at h)<;>first|(injection h with h;exact⟨_,h.symm⟩)|simp at h
   refine⟨by simp[e],λj hj ZQ=>?_⟩
   cases j with
   |zero=>exact h1
   |succ j=>exact h3 j (by simp_all) (by simp_all)
  ·simp at h
theorem J6{op:Op}{t:TOp}(h:A3 P op=some t):uu op t:=by
 unfold A3 at h;split at h
 ·rename_i f args tys;split at h
  ·obtain⟨l,h1,rfl⟩:=jW h;have ⟨e,h2⟩:=Cm h1;exact⟨rfl,by omega,λj hj ZQ=>by simp_all⟩
  ·simp at h
 ·rename_i i args tys;obtain⟨l,h1,rfl⟩:=jW h;have ⟨e,h2⟩:=Cm h1;exact⟨rfl,by omega,λj hj ZQ=>by simp_all⟩
 ·simp at h
theorem MA{mv:Nat}{op:Op}{t:TOp}(h:uu op t):uu op (JX mv t):=by
 unfold JX;split
 ·rename_i k f args;split
  ·cases op with
   |call c=>
    have ⟨callee,asq,tys⟩:=c
    cases callee with
    |value fo=>
     have ⟨h1,h2,h3⟩:=h;exact⟨h1,by simp_all,λj hj ZQ=>by simp_all⟩
    |_=>exact h
   |_=>exact h
  ·exact h
 ·exact h
theorem J2{ops:Array Oper}{mv:Nat}{o:Oper}{t:kC}(hN:M.N=nt)(YE:∀r,M.pr r≠none->∃i∈pp,r=2*i+2)(h:F7 P pp nt ops mv o=some t):Ap P M mo ops o t:=by
 unfold F7 at h;split at h
 case isFalse=>simp at h
 rename_i hd
 have Yx:∀d,o.dst=some d->d<M.N/\M.pr (2*d+2)=none:=λd e=>by
  simp only[T2,oDE,Bool.not_eq_true',List.contains_eq_mem,decide_eq_false_iff_not]at hd;refine⟨by simp_all,?_⟩
  cases hp:M.pr (2*d+2)with
  |none=>rfl
  |some x=>
   obtain⟨i,hi,e2⟩:=YE (2*d+2) (by rw[hp];simp);have e3:d=i:=Nat.eq_of_mul_eq_mul_left (by decide:0<2) (Nat.add_right_cancel e2)
   simp_all
 have hop':(∃mv',iW P mv' o.op=some (uC P mv o.op))\/mo o.op (uC P mv o.op):=by
  unfold uC
  cases h1:iW P mv o.op with
  |some t1=>exact .inl ⟨mv,h1⟩
  |none=>
   cases h2:A3 P o.op with
   |some t1=>exact .inr (.inr (MA (J6 h2)))
   |none=>exact .inr (.inl rfl)
 split at h
 ·rename_i hg
  injection h with h
  subst h;exact⟨rfl,Yx,.inl ⟨hg,rfl⟩,hop'⟩
 ·rename_i j want hg;split at h
  ·rename_i d hj
   injection h with h
   subst h;exact⟨rfl,Yx,.inr ⟨j,want,d,hg,rfl,hj⟩,hop'⟩
  ·simp at h
theorem zP{ops:Array Oper}(hN:M.N=nt)(YE:∀r,M.pr r≠none->∃i∈pp,r=2*i+2):∀{l:List Oper}{mv:List Nat}{ts:List kC},rN P pp nt ops mv l=some ts->ts.length=l.length/\∀i (h:i<l.length)(h':i<ts.length),Ap P M mo ops l[i] ts[i]:=by
 intro l
 induction l with
 |nil=>
  intro mv ts h;simp[rN]at h
  simp_all
 |cons o l ih=>
  intro mv ts h;simp[rN]at h;split at h
  ·rename_i t l' h1 h2
   injection h with h
   subst h;have ⟨e,h3⟩:=ih h2;refine⟨by simp[e],λj hj ZQ=>?_⟩
   cases j with
   |zero=>exact J2 hN YE h1
   |succ j=>simp_all
  ·simp at h
theorem Eb{ops:List Oper}{deps:List (List Nat)}:∀{n:Nat},F2 ops deps n=true->∀i,i<n->∀(h:i<ops.length),(∀e∈ops[i].after.toList,Region.binds .any e=true->e.on<i)/\∀j∈deps.getD i [],∃e∈ops[i].after.toList,Region.binds .any e=true/\(e.on=j\/j∈deps.getD e.on []):=by
 intro n
 induction n with
 |zero=>intro _ i hi;omega
 |succ n ih=>
  intro h i hi hl;simp only[F2,oBA]at h;by_cases e:i<n
  ·exact ih h.1 i e hl
  ·obtain rfl:i=n:=by omega
   have h2:=h.2;rw[oGE hl]at h2;simp only[oBA,List.all_eq_true,List.any_eq_true,Bool.or_eq_true,Bool.not_eq_true',oDE,beq_iff_eq,List.contains_eq_mem]at h2;refine⟨λe he hb=>?_,λj hj=>?_⟩
   ·rcases h2.1 e he with h3|h3
    ·simp_all
    ·exact h3
   ·simp_all
def Uk(P:Program)(ops:Array Oper)(tops:List kC)(draw:Bool)(d:Option (List (List Nat))):Prop:=match d with
 |some deps=>draw=true/\CJ ops deps/\P.follows .mixedOrders=true
 |none=>draw=true->∃deps,CJ ops deps/\P.follows .mixedOrders=true/\DS deps tops (List.range tops.length)=true
theorem J4{ops:Array Oper}{tops:List kC}{draw:Bool}{d:Option (List (List Nat))}(h:F8 P ops tops draw=some d):Uk P ops tops draw d:=by
 unfold F8 at h;split at h
 ·rename_i hd;split at h
  case isFalse=>simp at h
  rename_i hc;simp at hc
  have hD:CJ ops (Iv ops.toList []):=by
   refine⟨λi hi e he hb=>?_,λi hi j hj=>?_⟩
   ·exact(Eb hc.2 i hi (by simpa using hi)).1 e (by simp_all) hb
   ·have ⟨e,he,h3⟩:=(Eb hc.2 i hi (by omega)).2 j hj;exact⟨e,by simp_all,h3⟩
  split at h
  ·rename_i hs
   injection h with h
   subst h;exact λ_=>⟨_,hD,hc.1,hs⟩
  ·injection h with h
   subst h;exact⟨hd,hD,hc.1⟩
 ·rename_i hd
  injection h with h
  subst h;exact λh'=>absurd h' (by omega)
theorem Gv{isCall:Op->TOp->Prop}{pers:Nat->Prs}{a c:Code}{l:List (Nat×Option Nat)}{t:mF}(h:kv P M isCall t c):kv P M isCall (Ks pers a l t) c:=by
 cases t with
 |skip=>
  unfold Ks
  cases yP a with
  |some i=>exact h
  |none=>cases l<;>exact h
 |_=>exact h
theorem N5(hN:M.N=nt){l:List (Nat×Option Nat)}{x:mF}{c:Code}(h:kv P M mo x c):kv P M mo (Un nt l x) c:=by
 unfold Un;split
 ·exact h
 ·split
  ·rename_i hl;refine⟨λy hy=>?_,h⟩;have:=List.all_eq_true.1 hl y hy
   simp_all
  ·exact h
theorem KL(hN:M.N=nt){l:List (Nat×Option Nat)}{x:mF}{c:Code}(h:kv P M mo x c):kv P M mo (Qf nt l x) c:=by
 unfold Qf;split
 ·exact h
 ·split
  ·rename_i hl;refine⟨λy hy=>?_,h⟩;have:=List.all_eq_true.1 hl y hy
   simp_all
  ·exact h
theorem J5{mv:Nat->List Oper->Bool->List Nat}{pers:Nat->Prs}{H:Nat->List (Nat×Option Nat)}(hN:M.N=nt)(YE:∀r,M.pr r≠none->∃i∈pp,r=2*i+2):∀{c:Code}{i:Nat}{tc:mF},jf P pp nt mv pers H c i=some tc->kv P M mo tc c:=by
 intro c
 induction c with
 |skip=>intro i tc h;simp only[jf,oSJ]at h;subst h;exact rfl
 |exit id=>intro i tc h;simp only[jf,oSJ]at h;subst h;exact rfl
 |ret=>intro i tc h;simp only[jf,oSJ]at h;subst h;exact rfl
 |region id ops draw=>
  intro i tc h;simp only[jf]at h;split at h
  case h_2=>simp at h
  rename_i l h1;split at h
  case h_2=>simp at h
  rename_i d hd
  injection h with h
  subst h;obtain⟨e,h2⟩:=zP hN YE h1;exact N5 hN ⟨id,ops,draw,rfl,by omega,λi hi Zt=>by simp_all,J4 hd⟩
 |seq a b Zg Y9=>
  intro i tc h;simp only[jf]at h;split at h
  ·rename_i x y h1 h2
   injection h with h
   subst h;exact⟨a,b,rfl,Zg h1,Y9 h2⟩
  ·simp at h
 |cond k a b Zg Y9=>
  intro i tc h;simp only[jf]at h;split at h
  ·rename_i k' x y h1 h2 h3
   injection h with h
   subst h;exact⟨k,a,b,rfl,h1,Gv (Zg h2),Gv (Y9 h3)⟩
  ·simp at h
 |block id b ih=>
  intro i tc h;obtain⟨x,h1,rfl⟩:=jW h;exact⟨b,rfl,ih h1⟩
 |loop b ih=>
  intro i tc h;obtain⟨x,h1,rfl⟩:=jW h;exact N5 hN ⟨b,rfl,KL hN (ih h1)⟩
 |_=>intro i tc h;simp[jf]at h
theorem yv{α:Type}{a:Array α}{l:List α}(h:a.toList=l):a=l.toArray:=by rw[<- h]
theorem Iz{c rest:Code}(h:Co P c=some rest):Pq P c rest:=by
 unfold Co at h;split at h
 case h_2=>cases h
 rename_i i0 a0 i1 a1 i2 a2 rest';split at h
 case h_2=>cases h
 rename_i t0 s0 f0 t1 s1 f1 ty ty2 t2 s2 f2 t3 s3 f3 e0 e1 e2;split at h
 case h_2=>cases h
 rename_i e hu
 injection h with h
 subst h;exact⟨i0,i1,i2,_,_,_,_,ty,_,e,by rw[yv e0,yv e1,yv e2],⟨rfl,rfl,rfl⟩,⟨rfl,rfl,rfl⟩,⟨rfl,rfl,rfl⟩,⟨rfl,rfl,rfl⟩,hu⟩
theorem zQ{fn:Func}{c:Code}{tf:TFn}(h:Cl P fn c=some tf):Pp P tf c/\tf.nt=fn.ntmps/\tf.np=fn.params.size/\uB P fn.results.toList=some tf.res:=by
 unfold Cl at h;split at h
 case h_2=>cases h
 rename_i id ops hr;split at h
 case h_2=>cases h
 rename_i sz b sz2 bytes mv fl hops;split at h
 case isFalse=>cases h
 rename_i hc;obtain⟨rfl,hchk,hp,hn⟩:=hc;split at h
 case h_2=>cases h
 rename_i Y0
 injection h with h
 subst h;refine⟨⟨rfl,rfl,rfl,rfl,hchk,⟨_,_,_,_,_,_,rfl⟩,_,Iz hr,λM hN YE=>?_⟩,hn.symm,hp.symm,Y0⟩;obtain⟨e,h2⟩:=zP (nt:=8) hN YE hops;exact⟨_,_,rfl,⟨id,ops,false,rfl,by omega,λi hi Zt=>by simp_all,λh=>by cases h⟩,rfl⟩
theorem PC{T:FuncId->Option TFn}(h:∀f tf,T f=some tf->(∃H,zb P H f=some tf)/\tf.np<=tf.nt/\∀fn,P.funcs[f]?=some fn->(fn.name=="runtime.NumGoroutine")=false):Pm P T:=by
 intro f tf hT;obtain⟨⟨H,h1⟩,h2,h3⟩:=h f tf hT;unfold zb at h1;split at h1
 case h_2=>simp at h1
 rename_i fn hf;split at h1
 case h_2=>simp at h1
 rename_i c hb;split at h1
 ·rename_i tf' Zd
  injection h1 with h1
  subst h1;obtain⟨g1,g2,g3,g4⟩:=zQ Zd;have ⟨e,Y0⟩:=Ec g4;exact⟨fn,c,hf,h3 fn hf,hb,g2.symm,h2,.inr g1,by simpa using e,λk hk YD=>by have:=Y0 k hk (by simpa using YD);simpa using this⟩
 simp only at h1;split at h1
 ·rename_i tc rs hc hr
  injection h1 with h1
  subst h1;have ⟨e,Y0⟩:=Ec hr;exact⟨fn,c,hf,h3 fn hf,hb,rfl,h2,.inl λM hN YE=>KL hN (J5 hN YE hc),by simpa using e,λk hk YD=>by have:=Y0 k hk (by simpa using YD);simpa using this⟩
 ·simp at h1
end
theorem LC{E:Env}{T:FuncId->Option TFn}{B F:gD}{n:Nat}{f:FuncId}{tf:TFn}(h:T f=some tf)(vals:List TV)(pts:Pts):LD E T B F n f vals pts=runT E F n tf vals pts:=by
 unfold LD;rw[h]
def arR(op:BinOp)(k:IntKind)(a b:Int):Int:=
 match op with
 |.add=>k.wrap (a+b)
 |.sub=>k.wrap (a-b)
 |.mul=>k.wrap (a*b)
 |.quo=>k.wrap (a.tdiv b)
 |.rem=>a.tmod b
 |.and=>k.wrap (BitVec.ofInt k.bits a &&& BitVec.ofInt k.bits b).toNat
 |.or=>k.wrap (BitVec.ofInt k.bits a ||| BitVec.ofInt k.bits b).toNat
 |.xor=>k.wrap (BitVec.ofInt k.bits a ^^^ BitVec.ofInt k.bits b).toNat
 |.andNot=>k.wrap (BitVec.ofInt k.bits a &&& ~~~BitVec.ofInt k.bits b).toNat
 |_=>0
def shR(op:BinOp)(k:IntKind)(a:Int)(n:Nat):Int:=
 match op with
 |.shl=>k.wrap (a*2 ^ (min n k.bits))
 |.shr=>a.fdiv (2 ^ (min n k.bits))
 |_=>0
def cmR(op:BinOp)(a b:Int):Bool:=
 match op with
 |.eql=>a==b
 |.neq=>a != b
 |.lss=>decide (a<b)
 |.leq=>decide (a<=b)
 |.gtr=>decide (a>b)
 |.geq=>decide (a>=b)
 |_=>false
def Us{α:Type}(f:α->Bool):List α->Bool
 | []=>true
 |x::r=>match f x with|true=>Us f r|false=>false
def Ti{α:Type}(f:α->Bool):List α->Bool
 | []=>false
 |x::r=>match f x with|true=>true|false=>Ti f r
def Md(a b:List Loc):Bool:=Ti (λw=>Ti (λx=>w.hit x) b) a
def O5(a b:vy):Bool:=match Md a.2 b.1 with
 |true=>true
 |false=>match Md a.2 b.2 with
  |true=>true
  |false=>match Md b.2 a.1 with
   |true=>true
   |false=>Md b.2 a.2
def EF(d:List Nat)(j:Nat)(F F':vy):Bool:=match d.contains j with
 |true=>true
 |false=>!O5 F F'
def AU(deps:List (List Nat)):List (Nat×vy)->Bool
 | []=>true
 |(j,F)::r=>match Us (λy=>EF (deps.getD y.1 []) j F y.2) r with|true=>AU deps r|false=>false
theorem S7{α:Type}(f:α->Bool)(l:List α):Us f l=l.all f:=by
 induction l with
 |nil=>rfl
 |cons x l ih=>simp[Us];cases f x<;>simp[ih]
theorem Pg{α:Type}(f:α->Bool)(l:List α):Ti f l=l.any f:=by
 induction l with
 |nil=>rfl
 |cons x l ih=>simp[Ti];cases f x<;>simp[ih]
theorem Qs(a b:List Loc):Md a b=Me a b:=by
 have e:(λw:Loc=>Ti (λx=>w.hit x) b)=λw:Loc=>b.any λx=>w.hit x:=funext λw=>Pg _ _;unfold Md Me;rw[Pg,e]
theorem O4(a b:vy):O5 a b=sJ a b:=by
 unfold O5 sJ;simp[Qs]
 grind
theorem L8(d:List Nat)(j:Nat)(a b:vy):EF d j a b=(!sJ a b||d.contains j):=by
 unfold EF;rw[O4];cases d.contains j<;>simp
theorem Jd(deps:List (List Nat))(fs:List (Nat×vy)):AU deps fs=kz deps fs:=by
 induction fs with
 |nil=>rfl
 |cons x r ih=>
  have ⟨j,F⟩:=x;have e:(λy:Nat×vy=>EF (deps.getD y.1 []) j F y.2)=λy=>!sJ F y.2||(deps.getD y.1 []).contains j:=funext λy=>L8 _ _ _ _;simp only[AU,kz,S7,ih,e];cases r.all λy=>!sJ F y.2||(deps.getD y.1 []).contains j<;>simp
theorem Kh{x:Int}(h1:-9223372036854775808<=x)(h2:x<=9223372036854775807):IntKind.wrap .i64 x=x:=by
 have e1:(2:Int) ^ IntKind.bits .i64=18446744073709551616:=by rfl
 have e2:(2:Int) ^ (IntKind.bits .i64-1)=9223372036854775808:=by rfl
 have e3:IntKind.signed .i64=true:=rfl;unfold IntKind.wrap;simp[e1,e3];omega
theorem RC(x:Int):IntKind.wrap .u8 x=x%256:=by
 have e1:(2:Int) ^ IntKind.bits .u8=256:=by rfl
 have e3:IntKind.signed .u8=false:=rfl;unfold IntKind.wrap
 simp_all
theorem wT(x:Int):IntKind.wrap .u16 x=x%65536:=by
 have e1:(2:Int) ^ IntKind.bits .u16=65536:=by rfl
 have e3:IntKind.signed .u16=false:=rfl;unfold IntKind.wrap
 simp_all
def CI(x:Int):Prop:=-9223372036854775808<=x/\x<=9223372036854775807
inductive CT where
 |int (k:IntKind)
 |bool
 |str
 |nat
 |row (own:Bool) (t:CT)
 |nilr (own:Bool)
 |pair (a b:CT)
def vE:CT->CT->Bool
 |.int k,.int k'=>decide (k=k')
 |.bool,.bool=>true
 |.str,.str=>true
 |.nat,.nat=>true
 |.row o t,.row o' t'=>(o==o')&&vE t t'
 |.nilr o,.nilr o'=>o==o'
 |.pair a b,.pair a' b'=>vE a a'&&vE b b'
 |_,_=>false
theorem xM:∀{a b:CT},vE a b=true->a=b:=by
 intro a
 induction a with
 |int k=>intro b h;cases b<;>simp_all [vE]
 |bool=>intro b h;cases b<;>simp_all [vE]
 |str=>intro b h;cases b<;>simp_all [vE]
 |nat=>intro b h;cases b<;>simp_all [vE]
 |row o t ih=>intro b h;cases b<;>simp[vE]at h;rw[h.1,ih h.2]
 |nilr o=>intro b h;cases b<;>simp_all [vE]
 |pair x y XD ihy=>intro b h;cases b<;>simp[vE]at h;rw[XD h.1,ihy h.2]
def mr:CT->CT->Bool
 |.int k,.int k'=>decide (k=k')
 |.bool,.bool=>true
 |.str,.str=>true
 |.nat,.nat=>true
 |.row _ t,.row _ t'=>mr t t'
 |.nilr _,.nilr _=>true
 |.pair a b,.pair a' b'=>mr a a'&&mr b b'
 |_,_=>false
def MB:CT->CT->Bool
 |.int k,.int k'=>decide (k=k')
 |.bool,.bool=>true
 |.str,.str=>true
 |.nat,.nat=>true
 |.row o t,.row o' t'=>(o==o')&&MB t t'
 |.nilr o,.nilr o'=>o==o'
 |.nilr o,.row o' _=>o==o'
 |.pair a b,.pair a' b'=>MB a a'&&MB b b'
 |_,_=>false
def mD:CT->Nat
 |.pair a b=>mD a+mD b
 |.nat=>0
 |_=>1
def vQ:CT->CT
 |.row true t=>.row false (vQ t)
 |.nilr _=>.nilr false
 |.pair a b=>.pair (vQ a) (vQ b)
 |t=>t
def shT:CT->Nat->List Nat->Option CT
 |.pair a b,o,os=>if o<mD a then(shT a o os).map (.pair · b)else(shT b (o-mD a) os).map (.pair a ·)
 |t,0,[]=>some (vQ t)
 |.row true t,0,o::os=>(shT t o os).map (.row true)
 |t,_,_=>some t
abbrev den:CT->Type
 |.int _=>Int
 |.bool=>Bool
 |.str=>ByteArray
 |.nat=>Nat
 |.row _ t=>List (den t)
 |.nilr _=>Unit
 |.pair a b=>den a×den b
theorem iV:∀{a b:CT},mr a b=true->den a=den b:=by
 intro a
 induction a with
 |int k=>intro b h;cases b<;>simp[mr]at h;rfl
 |bool=>intro b h;cases b<;>simp[mr]at h;rfl
 |str=>intro b h;cases b<;>simp[mr]at h;rfl
 |nat=>intro b h;cases b<;>simp[mr]at h;rfl
 |row o t ih=>intro b h;cases b<;>simp[mr]at h;simp only[den];rw[ih h]
 |nilr o=>intro b h;cases b<;>simp[mr]at h;rfl
 |pair x y XD ihy=>intro b h;cases b<;>simp[mr]at h;simp only[den];rw[XD h.1,ihy h.2]
def Th:(t:CT)->den t
 |.int _=>(0:Int)
 |.bool=>false
 |.str=>ByteArray.empty
 |.nat=>(0:Nat)
 |.row _ _=>[]
 |.nilr _=>()
 |.pair a b=>(Th a,Th b)
def Rp:(a b:CT)->den a->den b
 |.row _ t,.row _ t',xs=>List.map (Rp t t') xs
 |.pair a b,.pair a' b',x=>(Rp a a' x.1,Rp b b' x.2)
 |.int _,.int _,x=>x
 |.bool,.bool,x=>x
 |.str,.str,x=>x
 |.nat,.nat,x=>x
 |_,b,_=>Th b
def enc:(t:CT)->den t->List TV
 |.int k,x=>[.v (.int k x)]
 |.bool,x=>[.v (.bool x)]
 |.str,x=>[.v (.string x)]
 |.nat,_=>[]
 |.row true t,xs=>[.ow (List.map (enc t) xs)]
 |.row false t,xs=>[.sl (List.map (enc t) xs)]
 |.nilr true,_=>[.ow []]
 |.nilr false,_=>[.sl []]
 |.pair a b,x=>enc a x.1++enc b x.2
def HL(D:CT->Type):List CT->Type
 | []=>Unit
 |t::ts=>D t×HL D ts
def EG:List (List CT)->Nat->List CT
 | [],_=>[]
 |l::_,0=>l
 |_::r,i+1=>EG r i
def El:List (List CT)->Type
 | []=>Empty
 | [l]=>HL den l
 |l::m::r=>HL den l⊕El (m::r)
def yN:(ls:List (List CT))->(i:Nat)->HL den (EG ls i)->Option (El ls)
 | [],_,_=>none
 | [_],0,h=>some h
 | [_],_+1,_=>none
 |_::_::_,0,h=>some (.inl h)
 |_::m::r,i+1,h=>(yN (m::r) i h).map .inr
def T1{α:Type}:(ls:List (List CT))->((i:Nat)->HL den (EG ls i)->α)->El ls->α
 | [],_,o=>Empty.elim o
 | [_],f,o=>f 0 o
 |_::m::r,f,o=>match o with
  |.inl h=>f 0 h
  |.inr o'=>T1 (m::r) (λi h=>f (i+1) h) o'
def od{α:Type}(ls:List (List CT))(o:El ls)(f:(i:Nat)->HL den (EG ls i)->α):α:=T1 ls f o
structure Alg (D:CT->Type)(M:Type->Type) where
 lit:(k:IntKind)->Int->D (.int k)
 litB:Bool->D .bool
 litS:ByteArray->D .str
 litN:Nat->D .nat
 nilv:(o:Bool)->D (.nilr o)
 nil:(o:Bool)->(t:CT)->D (.row o t)
 recast:(t t':CT)->mr t t'=true->D t->D t'
 coe:(t t':CT)->D t->D t'
 mkp:(a b:CT)->D a->D b->D (.pair a b)
 fst:(a b:CT)->D (.pair a b)->D a
 snd:(a b:CT)->D (.pair a b)->D b
 ar:BinOp->(k:IntKind)->D (.int k)->D (.int k)->D (.int k)
 cm:BinOp->(k:IntKind)->D (.int k)->D (.int k)->D .bool
 sh:BinOp->(k:IntKind)->D (.int k)->D .nat->D (.int k)
 neg:(k:IntKind)->D (.int k)->D (.int k)
 not:D .bool->D .bool
 cv:(k k':IntKind)->D (.int k)->D (.int k')
 mm:Bool->(k:IntKind)->D (.int k)->D (.int k)->D (.int k)
 eqB:D .bool->D .bool->D .bool
 eqS:D .str->D .str->D .bool
 eqT:D .str->D .str->D .bool
 andB:D .bool->D .bool->D .bool
 ite:(t:CT)->D .bool->D t->D t->D t
 natI:D .nat->D (.int .i64)
 addN:D .nat->D .nat->D .nat
 subN:D .nat->D .nat->D .nat
 minN:D .nat->D .nat->D .nat
 len:(o:Bool)->(t:CT)->D (.row o t)->D .nat
 slOk:D .nat->D .nat->D .nat->D .bool
 ltN:D .nat->D .nat->D .bool
 eqN:D .nat->D .nat->D .bool
 win:(o:Bool)->(t:CT)->D (.row o t)->D .nat->D .nat->D (.row o t)
 appOk:Nat->D .nat->D .nat->D .bool
 cat:(t:CT)->(o:Bool)->D (.row true t)->D (.row o t)->D (.row true t)
 rowl:(o:Bool)->(t:CT)->List (D t)->D (.row o t)
 mkOk:D .nat->D .nat->Nat->D .bool
 rep:(t:CT)->D .nat->D t->D (.row true t)
 upd:(t:CT)->D (.row true t)->D .nat->(D t->D t)->D (.row true t)
 splice:(t:CT)->(o:Bool)->D (.row true t)->D .nat->D .nat->D (.row o t)->D (.row true t)
 strLen:D .str->D (.int .i64)
 strB:D .str->D (.row false (.int .u8))
 strOk:D .str->D .bool
 fail:{X:Type}->M X
 br:{X:Type}->D .bool->M X->M X->M X
 nat:{X:Type}->(k:IntKind)->D (.int k)->(D .nat->M X)->M X
 get:{X:Type}->(o:Bool)->(t:CT)->D (.row o t)->D .nat->(D t->M X)->M X
 strAt:{X:Type}->D .str->D .nat->(D (.int .u8)->M X)->M X
 bstr:{X:Type}->D (.row false (.int .u8))->(D .str->M X)->M X
 lt:{X:Type}->(t:CT)->D t->(D t->M X)->M X
 call:{X:Type}->Nat->(ins:List CT)->(outs:List (List CT))->(HL den ins->Option (El outs))->HL D ins->((i:Nat)->HL D (EG outs i)->M X)->M X
 loop:{X:Type}->Nat->(s:List CT)->(outs:List (List CT))->HL D s->(HL D s->M (HL den s⊕El outs))->((i:Nat)->HL D (EG outs i)->M X)->M X
 join:{X:Type}->(outs:List (List CT))->M (El outs)->((i:Nat)->HL D (EG outs i)->M X)->M X
 next:(s:List CT)->(outs:List (List CT))->HL D s->M (HL den s⊕El outs)
 exitL:(s:List CT)->(outs:List (List CT))->(i:Nat)->HL D (EG outs i)->M (HL den s⊕El outs)
 out:(outs:List (List CT))->(i:Nat)->HL D (EG outs i)->M (El outs)
def eu:Int->Option Nat
 |.ofNat n=>some n
 |.negSucc _=>none
def dR{α:Type}(xs:List α)(i:Nat):Option α:=xs[i]?
def U9(a b:Bool):Bool:=a==b
def U8(a b:ByteArray):Bool:=a==b
def Pu(a b:ByteArray):Bool:=a.toList==b.toList
def dS(n:Nat):Int:=(n:Int)
def U1(k:IntKind)(a:Int):Int:=k.wrap (0-a)
def mmR(mx:Bool)(a b:Int):Int:=if mx then(if a<b then b else a)else(if b<a then b else a)
def lF{α:Type}(xs:List α)(l n:Nat):List α:=(xs.drop l).take n
def iz(l h n:Nat):Bool:=l<=h&&decide (h<=n)
def ek(bytes n m:Nat):Bool:=decide (n+m<=1099511627776)&&decide ((n+m)*bytes<=140737488355328)
def ug(n m sz:Nat):Bool:=decide (n=m)&&decide (n*sz<=16777216)
def ub{α:Type}(xs:List α)(lo m:Nat)(ys:List α):List α:=xs.take lo++ys.take m++xs.drop (lo+m)
def Uw(s:ByteArray):List Int:=s.data.toList.map λb=>(b.toNat:Int)
def DQ(s:ByteArray)(k:Nat):Option Int:=(s[k]?).map λb=>(b.toNat:Int)
def tO(l:List Int):ByteArray:=l.foldl (λr n=>r.push (UInt8.ofNat n.toNat)) ByteArray.empty
def dY{S T:Type}(f:S->Option (S⊕T)):Nat->S->Option T
 |0,_=>none
 |n+1,s=>(f s).bind λx=>match x with|.inl s'=>dY f n s'|.inr t=>some t
def NN:Nat:=18446744073709551616
def dV:Alg den Option where
 lit _ n:=n
 litB b:=b
 litS s:=s
 litN n:=n
 nilv _:=()
 nil _ _:=[]
 recast _ _ h x:=cast (iV h) x
 coe t t' x:=Rp t t' x
 mkp _ _ x y:=(x,y)
 fst _ _ x:=x.1
 snd _ _ x:=x.2
 ar op k a b:=arR op k a b
 cm op _ a b:=cmR op a b
 sh op k a n:=shR op k a n
 neg k a:=U1 k a
 not b:=!b
 cv _ k' n:=k'.wrap n
 mm mx _ a b:=mmR mx a b
 eqB a b:=U9 a b
 eqS a b:=U8 a b
 eqT a b:=Pu a b
 andB a b:=a&&b
 ite _ c a b:=bif c then a else b
 natI n:=dS n
 addN a b:=Nat.add a b
 subN a b:=Nat.sub a b
 minN a b:=Nat.min a b
 len _ _ xs:=List.length xs
 slOk l h n:=iz l h n
 ltN a b:=Nat.blt a b
 eqN a b:=Nat.beq a b
 win _ _ xs l n:=lF xs l n
 appOk b n m:=ek b n m
 cat _ _ xs ys:=List.append xs ys
 rowl _ _ l:=l
 mkOk n m sz:=ug n m sz
 rep _ n x:=List.replicate n x
 upd _ xs i f:=List.modify xs i f
 splice _ _ xs lo m ys:=ub xs lo m ys
 strLen s:=(ByteArray.size s:Int)
 strB s:=Uw s
 strOk s:=decide (ByteArray.size s<4294967296)
 fail:=none
 br c a b:=bif c then a else b
 nat _ n k:=(eu n).bind k
 get _ _ xs i k:=(dR xs i).bind k
 strAt s i k:=(DQ s i).bind k
 bstr l k:=k (tO l)
 lt _ x k:=k x
 call _ _ outs g h k:=(g h).bind λo=>od outs o k
 loop _ _ outs h body k:=(dY body NN h).bind λo=>od outs o k
 join outs m k:=m.bind λo=>od outs o k
 next _ _ h:=some (.inl h)
 exitL _ outs i h:=(yN outs i h).map .inr
 out outs i h:=yN outs i h
end Go.Proofs.YtffnecakpdhpcaaGreat
