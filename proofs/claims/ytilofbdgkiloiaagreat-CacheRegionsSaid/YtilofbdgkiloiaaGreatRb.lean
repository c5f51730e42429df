/- Part of the proof; no condition. -/
import Derived.Test.YtilofbdgkiloiaaGreatRa
import Derived.Laws.BytesString
import Derived.Laws.NewFold
import Derived.Laws.IdiomCopy
import Derived.LoopN
import Derived.Orders
import Derived.Lib.SliceRun
set_option linter.unusedVariables false
set_option linter.unusedSimpArgs false
namespace Go.Proofs.YtilofbdgkiloiaaGreat
open Go.RowKit
section
variable {P:Program} {M:Fm} {σ σ':St} {H:List TV} {xs:List Value} {ts:Array Value} {w:World} {G:Gh} {a:Act} {o:Oper}
theorem Fn(mx:Bool)(k:IntKind):∀(r:List Value)(x m:Int),sV mx k x r=some m->(r.foldlM (if mx then Builtin.max2 else Builtin.min2) (.int k x)).run P w=.ok (.int k m) w:=by
 intro r
 induction r with
 |nil=>
  intro x m h;simp[sV]at h
  simp_all
 |cons y r ih=>
  intro x m h
  cases y with
  |int k' b=>
   simp only[sV]at h;split at h
   ·rename_i hk;have:=ih _ _ h
    cases mx with
    |true=>
     simpa[Builtin.max2]using this
    |false=>
     simpa[Builtin.min2]using this
   ·simp at h
  |_=>simp[sV]at h
theorem JZ(hI:Inv M σ [] [] a.tmps w G){d:Nat}(hd:o.dst=some d)(hN:d<M.N){mx:Bool}{l:List Opd}{args:Array Operand}{VJ:Array TypeId}(hc:args.toList.map dN=l.map some)(ho:o.op=.call { callee:=.builtin (if mx then .max else .min),args:=args,argTypes:=VJ })
 (hr:(ev1 d (.mm mx l)).run σ=some ((),σ')):mh P M σ' a o w:=by
 simp only[ev1]at hr;obtain⟨r,σ1,h1,h2⟩:=dE hr
 obtain⟨rfl,e2,e3⟩:=Hf (R:=λy x'=>y=a.eval x') (λx x' y σ' hx hy=>by
  obtain⟨t,σ2,q1,q2⟩:=dE hy;obtain⟨rfl,ht⟩:=eY hI.tmr hx q1;obtain⟨rfl,rfl⟩:=nu q2
  exact⟨rfl,(ht.v_inv).1.symm⟩) hc h1
 have X6:args.toList.map a.eval=r:=by
  apply List.ext_getElem
  ·simp[e2]
  ·simp_all
 split at h2
 case h_2=>simp[SP.run]at h2
 rename_i k x rest;obtain⟨m,σ2,h3,h4⟩:=dE h2;obtain⟨hm,rfl⟩:=nI h3;refine gT hI hd hN (x:=.int k m) (.v rfl) h4 ?_;have hf:=Fn (P:=P) (w:=w) mx k rest x m hm
 cases mx with
 |true=>
  simp only[if_true]at hf ho;simp[execOp,ho,resolve,invoke,builtin,Builtin.max_,X6,hf]
 |false=>
  simp only[Bool.false_eq_true,if_false]at hf ho;simp[execOp,ho,resolve,invoke,builtin,Builtin.min_,X6,hf]
theorem IK(hI:Inv M σ [] [] a.tmps w G){d:Nat}(hd:o.dst=some d)(hN:d<M.N){x i:Opd}{x' i':Operand}{t e n sz:Nat}(hx:dN x'=some x)(hi:dN i'=some i)(ho:o.op=.indexAddr t x' i')
 (hu:P.underlying t=some (.array n e))(hs:(P.info? e).map (·.size)=some sz)(hr:(ev1 d (.idxa n sz x i)).run σ=some ((),σ')):mh P M σ' a o w:=by
 have YI:(sizeOf e).run P w=.ok sz w:=by
  unfold sizeOf typeInfo
  cases hi:P.info? e with
  |none=>simp[hi]at hs
  |some i=>simp[hi]at hs;simp[hi,hs]
 simp only[ev1]at hr;obtain⟨tx,σ1,h1,h2⟩:=dE hr;obtain⟨rfl,Z0⟩:=eY hI.tmr hx h1;obtain⟨ti,σ2,h3,h4⟩:=dE h2;obtain⟨rfl,W9⟩:=eY hI.tmr hi h3;obtain⟨k,σ3,h5,h6⟩:=dE h4;obtain⟨ik,m,rfl,Yb,hk,rfl⟩:=pI h5;obtain⟨ei,_⟩:=W9.v_inv
 cases tx with
 |ptr p vs=>
  simp only at h6;obtain⟨_,σ2,h7,h8⟩:=dE h6;have e1:σ2=σ3:=(d8 h7).1;have e2:=(d8 h7).2;subst e1;split at h8
  case isFalse=>simp[SP.run]at h8
  rename_i hc;simp only[oBA,oDE]at hc;obtain⟨RJ,ZU⟩:=hc;generalize hz:a.eval x'=z at Z0
  cases Z0 with
  |ptr V0 h0 hv h=>
   obtain⟨Z7,ad,t0,ha,rfl,VZ⟩:=h e2
   have Qn:m<(n:Int):=by omega
   refine gT hI hd hN (x:=.pointer (some (ad.add (k*sz)))) ?_ h8 (by subst hk;simp[execOp,ho,hz,ei,Instr.indexAt,asIntOf,Instr.sureAddr,run_underlying hu,Yb,Qn,YI]);refine .ptr V0 h0 (by rw[Dh];exact hv) λ_=>⟨by rw[fi];exact Z7,⟨ad.block,ad.off+k*sz,none⟩,?_⟩;have ZE:=kV ha
   have X8:ad.add (k*sz)=⟨ad.block,ad.off+k*sz,none⟩:=by
    obtain⟨b,ob,sp⟩:=ad;simp only at ZE;subst ZE;exact fB b ob (k*sz)
   rcases p.add_cases (k*sz)with⟨q1,q2⟩|⟨hs',i,sz',o',q1,q2⟩
   ·exact⟨eE M σ2 [] p.root (p.off+k*sz),mQ _ ha,by rw[X8],by rw[q2];rfl⟩
   ·have hlt:o'+k*sz<sz':=by
     unfold dW.fits at ZU;rw[q1]at ZU;simpa using ZU
    rw[q1]at VZ;obtain⟨t',ZL⟩:=DS VZ hlt;exact⟨t',mQ _ ha,by rw[X8],by rw[q2];exact ZL⟩
 |_=>simp[SP.run]at h6
theorem H5{c:List (List TV)}:∀{ns:List Int},wP c=some ns->ns.length=c.length/\∀i (h:i<c.length)(h':i<ns.length),c[i]=[.v (.int .u8 ns[i])]:=by
 induction c with
 |nil=>intro ns h;simp only[wP,oSJ]at h;subst h;exact⟨rfl,λi h=>by simp at h⟩
 |cons e c ih=>
  intro ns h;unfold wP at h;split at h
  ·simp_all
  ·rename_i n r h1
   injection h1 with h1 h2
   subst h1;subst h2
   cases hb:wP c with
   |none=>simp_all
   |some l=>
    simp[hb]at h;subst h;obtain⟨e1,e2⟩:=ih hb;refine⟨by simp[e1],λi hi Zl=>?_⟩
    cases i with
    |zero=>rfl
    |succ i=>simp_all
  ·simp at h
theorem KF(hI:Inv M σ [] [] a.tmps w G){d:Nat}(hd:o.dst=some d)(hN:d<M.N){x:Opd}{x':Operand}{s t e:TypeId}(hx:dN x'=some x)(ho:o.op=.convert s t x')(hs:P.underlying s=some (.slice e))(ht:P.underlying t=some .string)(he:P.underlying e=some (.int .u8))
 (hr:(ev1 d (.b2s x)).run σ=some ((),σ')):mh P M σ' a o w:=by
 simp only[ev1]at hr;obtain⟨tx,σ1,h1,h2⟩:=dE hr;obtain⟨rfl,Z0⟩:=eY hI.tmr hx h1;obtain⟨t',σ2,h3,h4⟩:=dE h2;obtain⟨G1,Zv,_⟩:=ir hI Z0 h3;simp only[List.nil_append]at Zv;obtain⟨G2,ZG,_⟩:=Zv.1.drop
 have ZX:∀str ad len cap,a.eval x'=.slice ad len cap->(Conv.bytesToString (.slice ad len cap)).run P w=.ok (.string str) w->(wr d (.v (.string str))).run σ2=some ((),σ')->mh P M σ' a o w:=by
  intro str ad len cap ex hrun hw;refine gT ZG.1 hd hN (x:=.string str) (.v rfl) hw ?_;simp only[execOp,ho,Sem.run_bind,ex]
  have:(convert s t (.slice ad len cap)).run P w=.ok (.string str) w:=by
   unfold convert;simp only[Sem.run_bind,run_underlying hs,run_underlying ht,run_underlying he,Result.andThen_ok];exact hrun
  rw[this];rfl
 have hown:=λh=>Zv.1.hand_own (j:=0) (by simp) h;split at h4
 ·rename_i c;obtain⟨str,σ3,h5,h6⟩:=dE h4;obtain⟨hb,rfl⟩:=nI h5;have hown:=hown (by simp);generalize hz:a.eval x'=z at hown
  cases hown with
  |sl hfp h=>
   cases h with
   | @sl _ ad cap sz u hsz hcap hmax hnil hcell hrec=>
    unfold bstr at hb
    cases hbn:wP c with
    |none=>simp[hbn]at hb
    |some ns=>
     simp only[hbn,oMS,oSJ]at hb;obtain⟨hl,Z5⟩:=H5 hbn;refine ZX str _ _ _ hz ?_ h6
     cases ad with
     |none=>
      have hc0:c.length=0:=by have:=hnil rfl;omega
      have hns:ns=[]:=oEN (by omega);subst hns;rw[<- hb];rfl
     |some ad=>
      rw[<- hb];refine run_bytesToString w ad c.length cap ns ?_
      have:=run_loadCells_list (P:=P) w ad (ns.map (Value.int .u8)) λj v hj=>by
       have hjl:j<ns.length:=by
        rcases Nat.lt_or_ge j ns.length with h|h
        ·exact h
        ·rw[oGN (by simpa using h)]at hj;simp at hj
       have Uz:j<c.length:=by omega
       have e1:=Z5 j Uz hjl
       have hs1:sz=1:=by rw[<- hsz j Uz,e1];rfl
       subst hs1;obtain⟨b,o',Wj,hF,Ze⟩:=hcell j 0 Uz (by omega)
       injection Wj with Wj
       subst Wj;have hr:=hrec j 0 Uz (by rw[e1];simp)
       have e2:c[j][0]'(by rw[e1];simp)=.v (.int .u8 ns[j]):=by simp[e1]
       rw[e2]at hr
       have hu:u j 0=.int .u8 ns[j]:=by
        generalize u j 0=y at hr;cases hr;rfl
       have hv:v=.int .u8 ns[j]:=by simpa[hjl]using hj.symm
       rw[hv,<- hu,fB];simpa using Ze
      simpa[hl]using this
 ·have hown:=hown (by simp);generalize hz:a.eval x'=z at hown
  cases hown with
  | @nil _ ad hfp=>
   refine ZX .empty _ _ _ hz ?_ h4
   cases ad with
   |none=>rfl
   |some ad=>
    have:=run_bytesToString (P:=P) w ad 0 0 [] (by simp[loadCells,loadCellsFrom]);simpa using this
  | @ow _ _ b cap cur e' sz' u f hfp hb hsz hcap hz0 hmax hcur hcell hrec hnb hdis=>
   refine ZX .empty _ _ _ hz ?_ h4;have:=run_bytesToString (P:=P) w ⟨b,0,none⟩ 0 cap [] (by simp[loadCells,loadCellsFrom]);simpa using this
 ·simp[SP.run]at h4
theorem IN(hI:Inv M σ [] [] a.tmps w G){d:Nat}{mv:Bool}(hd:o.dst=some d)(hN:d<M.N){t e n sz:TypeId}{parts:Array (Nat×Operand)}{ps:List (Nat×Nat×Opd)}{z:List Value}(ho:o.op=.build t parts)(hu:P.underlying t=some (.array n e))
 (hz:(P.info? t).bind (·.zero.map (·.cells.toList))=some z)(hs:(P.info? e).map (·.size)=some sz)(hp1:parts.size=ps.length)
 (hp2:∀k (h:k<parts.size)(h':k<ps.length),dN parts[k].2=some ps[k].2.2/\ps[k].1=parts[k].1*sz/\ps[k].2.1=sz/\ps[k].1+ps[k].2.1<=z.length)
 (hr:(ev1 d (.bld z mv ps)).run σ=some ((),σ')):mh P M σ' a o w:=by
 simp only[ev1]at hr;split at hr
 case isFalse=>simp[SP.run]at hr
 rename_i hok;obtain⟨l,σ1,h1,h2⟩:=dE hr;obtain⟨l',σ2,h3,h4⟩:=dE h2
 obtain⟨G1,g1,U8,X1⟩:=oy (a:=a) (pv:=parts.toList.map (·.2)) hI (by
  apply List.ext_getElem
  ·simp[hp1]
  ·intro k hk YG;have:=(hp2 k (by simpa using hk) (by simpa using YG)).1
   simpa using this) h1
 obtain⟨G2,ZI,_,X',Y1⟩:=tZ g1.1 U8 h3;obtain⟨ys,Ve⟩:∃ys,ys=(parts.toList.map (·.2)).flatMap (λx=>(a.eval x).cells.toList):=⟨_,rfl⟩;rw[<- Ve]at g1 Y1
 have hlen:l'.length=ys.length:=by rw[X'];exact g1.1.hand
 have Vf:∀j (h:j<(z.map fw).length)(h':j<z.length),TmR w (G2.F M.A) σ2.v (eE M σ2 []) G2 (z.map fw)[j] z[j]:=λj h h'=>by simp only[List.getElem_map];exact qT _
 obtain⟨r1,r2⟩:=n9 (R:=TmR w (G2.F M.A) σ2.v (eE M σ2 []) G2) ps l' ys (z.map fw) z (by simp) Vf hlen (λj h h'=>by have:=Y1 j h;simpa[h']using this);refine gT ZI hd hN (x:=.agg (mb z ps ys).toArray) (.agg (by simp[r1]) λj hj=>by have:=r2 j hj (by omega);simpa[show j<(mb z ps ys).length by omega]using this) h4 ?_
 cases hi:P.info? t with
 |none=>simp[hi]at hz
 |some i=>
  simp only[hi,oBS]at hz
  cases hiz:i.zero with
  |none=>simp[hiz]at hz
  |some v=>
   simp only[hiz,oMS,oSJ]at hz
   have Wo:(zeroValue t).run P w=.ok v w:=by simp[zeroValue,typeInfo,hi,hiz]
   have YI:(sizeOf e).run P w=.ok sz w:=by
    unfold sizeOf typeInfo
    cases hi:P.info? e with
    |none=>simp[hi]at hs
    |some i=>simp_all
   have YL:=vf (place:=λi=>some (i*sz,sz)) (parts.toList.map λp=>(p.1,a.eval p.2)) ps v.cells (by simp[hp1]) (λk h h'=>by
    have hk:k<parts.size:=by simpa using h
    obtain⟨q1,q2,q3,q5⟩:=hp2 k hk h';have q4:=X1 k h' (by simpa using hk);refine⟨by simp[q2,q3],by simpa using q4,?_⟩;rw[<- hz]at q5
    simpa using q5)
   have Zz:((parts.toList.map λp=>(p.1,a.eval p.2)).flatMap (·.2.cells.toList))=ys:=by rw[Ve];simp[List.flatMap_map]
   rw[Zz,hz]at YL;simp only[execOp,ho,Instr.build,Sem.run_bind,Wo,Result.andThen_ok,run_underlying hu,YI,Array.toList_map];rw[YL];simp
end
theorem sF{α:Type}{l:List α}{i:Nat}{x:α}{f g:α->α}(h:l[i]?=some x)(e:f x=g x):l.modify i f=l.modify i g:=by
 apply List.ext_getElem?
 grind
theorem CK{hs:List Hop}{i sz j:Nat}{c:List (List TV)}{el:List TV}{t1:TV}:∀{t:TV},ek t hs=some (.ow c)->c[i]?=some el->el.length=sz->el[j]?=some t1->ek t (hs++[(i,sz,j)])=some t1:=by
 induction hs with
 |nil=>
  intro t h h1 h2 h3;simp[ek]at h;subst h;simp[ek,h1,h2,h3]
 |cons hp hs ih=>
  intro t h h1 h2 h3;obtain⟨c0,N4,t0,rfl,k1,k2,k3,k4⟩:=fH h;simp[ek]
  simp_all
theorem BX{hs:List Hop}{i sz j:Nat}{c:List (List TV)}{x:TV}:∀{t:TV},ek t hs=some (.ow c)->fZ t (hs++[(i,sz,j)]) x=fZ t hs (.ow (c.modify i λel=>el.modify j λ_=>x)):=by
 induction hs with
 |nil=>
  intro t h;simp[ek]at h;subst h;simp[fZ]
 |cons hp hs ih=>
  intro t h;obtain⟨c0,N4,t0,rfl,k1,k2,k3,k4⟩:=fH h;simp only[List.cons_append,fZ];congr 1;refine sF k1 (sF k3 (ih k4))
theorem Gv{hs:List Hop}{x y:TV}:∀{t:TV},fZ (fZ t hs y) hs x=fZ t hs x:=by
 induction hs with
 |nil=>intro t;rfl
 |cons hp hs ih=>
  obtain⟨a,b,d⟩:=hp;intro t
  cases t with
  |ow c=>
   simp only[fZ];congr 1;apply List.ext_getElem?;intro k;simp only[List.getElem?_modify];by_cases hk:a=k
   ·subst hk
    cases c[a]? with
    |none=>rfl
    |some el=>
     simp only[if_true,Option.map_eq_map,oMS];congr 1;apply List.ext_getElem?;intro k;simp only[List.getElem?_modify,Option.map_eq_map];by_cases hk:d=k
     ·subst hk
      cases el[d]? with
      |none=>rfl
      |some t1=>simp[ih]
     ·cases el[k]?<;>simp[hk]
   ·cases c[k]?<;>simp[hk]
  |_=>rfl
theorem vH{α:Type}(l:List (Nat×α))(i:Nat)(x y:α):fI (fI l i x) i y=fI l i y:=by
 induction l with
 |nil=>simp[fI]
 |cons h r ih=>
  have ⟨k,v⟩:=h;by_cases hk:k=i
  ·subst hk;simp[fI]
  ·simp[hk,fI,ih]
theorem BJ{w:World}{hs:List Hop}{k sz n cap j:Nat}{ad:Addr}:∀{x:Value},hvT w x hs=some (.slice (some ad) n cap)->k<n->eL w x (hs++[(k,sz,j)])=some ⟨ad.block,ad.off+(k*sz+j),none⟩:=by
 induction hs with
 |nil=>
  intro x h hk;simp only[hvT,oSJ]at h;subst h;simp[eL,hk]
 |cons hp hs ih=>
  intro x h hk;simp only[hvT]at h
  cases x with
  |slice a l c=>
   cases a with
   |none=>cases hs<;>simp[eL]at h
   |some a=>
    obtain⟨hd,tl,Xm⟩:∃hd tl,hs++[(k,sz,j)]=hd::tl:=by cases hs<;>exact⟨_,_,rfl⟩
    cases hs with
    |nil=>
     simp only[eL]at h;split at h
     ·rename_i hi;simp at h;simp only[List.cons_append,List.nil_append,eL,hi,if_true,h,hk]
     ·simp at h
    |cons hp2 Za=>
     simp only[eL]at h;split at h
     ·rename_i hi;split at h
      ·rename_i y hy;rw[List.cons_append,Xm];simp[eL,hi,if_true,hy];rw[<- Xm];exact ih (by simpa[hvT]using h) hk
      ·simp at h
     ·simp at h
  |_=>cases hs<;>simp[eL]at h
section
variable {P:Program} {M:Fm} {σ σ':St} {H:List TV} {xs:List Value} {ts:Array Value} {w:World} {G:Gh} {a:Act} {o:Oper}
def St.sub(σ:St)(p:dW)(l:List TV)(t:TV):St:=⟨σ.tm,fI σ.ce p.root (l.set p.off (fZ (σ.c p.root p.off) p.hops t)),σ.vr⟩
theorem BQ{p:dW}{l:List TV}{t:TV}(hl:p.off<l.length):(σ.sub p l t).c p.root p.off=fZ (σ.c p.root p.off) p.hops t:=by
 simp[St.c,St.sub,eQ];simp[hl]
theorem IX(hI:Inv M σ [] [] ts w G){p:dW}{c:List (List TV)}{el:List TV}{b n cap i sz j:Nat}{old v:Value}(Z7:p.root≠1)(ZH:G.hv w p=some (.slice (some ⟨b,0,none⟩) n cap))(hg:ek (σ.c p.root p.off) p.hops=some (.ow c))(hin:i<n)
 (hi:c[i]?=some el)(hl:el.length=sz)(hj:el[j]?=some (.v old))(hv:gU v=true){l:List TV}(hal:eF σ.ce p.root=some l)(hol:p.off<l.length):
 ∃G',Inv M (σ.sub p l (.ow (c.modify i λel=>el.modify j λ_=>.v v))) [] [] ts (w.setCell ⟨b,i*sz+j,none⟩ v) G'/\(w.cell? ⟨b,i*sz+j,none⟩).isSome=true/\w.frozen? ⟨b,i*sz+j,none⟩=false/\G'.hv (w.setCell ⟨b,i*sz+j,none⟩ v) p=some (.slice (some ⟨b,0,none⟩) n cap):=by
 obtain⟨G1,Zv⟩:=hI.addHand (x:=v) (.v (λ_ h=>h) hv)
 have U0:ek (eE M σ [] p.root p.off) p.hops=some (.ow c):=by rw[eu (Z7)];exact hg
 obtain⟨c1,WA,_,_⟩:=Zv.2.2.1.hdr p _ c Z7 rfl ZH U0
 obtain⟨hd,tl,Xm⟩:∃hd tl,p.hops++[(i,sz,j)]=hd::tl:=by cases p.hops<;>exact⟨_,_,rfl⟩
 have Z6:G1.addrB w ⟨p.root,p.off,p.hops++[(i,sz,j)]⟩=some ⟨b,i*sz+j,none⟩:=by
  have:=BJ (sz:=sz) (j:=j) WA hin;unfold Gh.addrB
  simp_all
 have Qd:=CK hg hi hl hj
 have RB:ek (eE M σ [.v v] p.root p.off) (p.hops++[(i,sz,j)])=some (.v old):=by rw[eu (Z7)];exact Qd
 have hrun:(vP ⟨p.root,p.off,p.hops++[(i,sz,j)]⟩ (.v v)).run σ=some ((),σ.sub p l (.ow (c.modify i λel=>el.modify j λ_=>.v v))):=by
  simp only[vP,SP.run,Qd,rb,Bool.or_self,Bool.false_eq_true,if_false,hal,hol,if_true];rw[BX hg];rfl
 obtain⟨⟨u,hu⟩,Xz,G2,ZI,hm,Zn,hβ⟩:=Zv.1.put (p:=⟨p.root,p.off,p.hops++[(i,sz,j)]⟩) (j:=0) Z7 Z6 RB (by simp) (by simp) (by simpa using hrun)
 have W7:=ZI.clear (by intro k hk;have:k=0:=by simp at hk;omega
                       simp)
 have RA:ek (eE M σ [.v v] p.root p.off) p.hops=some (.ow c):=by rw[eu (Z7)];exact hg
 obtain⟨c2,YF,_,_⟩:=hm.keeps.hdr p _ c Z7 rfl WA RA;exact⟨G2,W7,by simp_all,Xz,YF⟩
theorem tP{c:List (List TV)}{i j i' j':Nat}{x:TV}{el:List TV}{y:TV}(h:c[i']?=some el)(hy:el[j']?=some y)(hne:¬(i'=i/\j'=j)):
 ∃Wq,(c.modify i λel=>el.modify j λ_=>x)[i']?=some Wq/\Wq[j']?=some y:=by
 by_cases hi:i=i'
 ·subst hi
  have hj:¬j=j':=by omega
  simp_all
 ·simp_all
theorem I4{p:dW}{b n cap sz:Nat}(Z7:p.root≠1)(hsz:0<sz):∀(vals:List Value)(c:List (List TV))(o:Nat)(σ:St)(w:World)(G:Gh)(l:List TV),vals≠[]->Inv M σ [] [] ts w G->G.hv w p=some (.slice (some ⟨b,0,none⟩) n cap)->ek (σ.c p.root p.off) p.hops=some (.ow c)->n=c.length ->
 (∀el∈c,el.length=sz)->(∀v∈vals,gU v=true)->(∀t,o<=t->t<o+vals.length->∃el y,c[t/sz]?=some el/\el[t%sz]?=some (.v y))->eF σ.ce p.root=some l->p.off<l.length ->
 (∃G',Inv M (σ.sub p l (.ow (nc sz c o vals))) [] [] ts (w.setCells b o vals) G')/\∀j,j<vals.length->(w.cell? ⟨b,o+j,none⟩).isSome=true/\w.frozen? ⟨b,o+j,none⟩=false:=by
 intro vals
 induction vals with
 |nil=>intro c o σ w G l h;exact absurd rfl h
 |cons v vals ih=>
  intro c o σ w G l _ hI ZH hg hn hlen Qx Zz hal hol;obtain⟨el,y,h1,h2⟩:=Zz o (Nat.le_refl _) (by simp);have Y5:el.length=sz:=hlen el (List.mem_of_getElem? h1)
  have OL:o/sz<n:=by rw[hn];exact(oGS h1).1
  have ho:o/sz*sz+o%sz=o:=by rw[Nat.mul_comm];exact Nat.div_add_mod o sz
  obtain⟨G1,hI1,hs1,Ru,WA⟩:=IX hI Z7 ZH hg OL h1 Y5 h2 (Qx v (by simp)) hal hol;rw[ho]at hI1 hs1 Ru WA
  cases vals with
  |nil=>
   refine⟨⟨G1,hI1⟩,λj hj=>?_⟩
   obtain rfl:j=0:=by simp at hj;omega
   exact⟨hs1,Ru⟩
  |cons v2 vals=>
   obtain⟨c1,ZS⟩:∃c1,c1=c.modify (o/sz) λel=>el.modify (o%sz) λ_=>.v v:=⟨_,rfl⟩;rw[<- ZS]at hI1;obtain⟨l1,Xp⟩:∃l1,l1=l.set p.off (fZ (σ.c p.root p.off) p.hops (.ow c1)):=⟨_,rfl⟩;have Qs:(σ.sub p l (.ow c1)).c p.root p.off=fZ (σ.c p.root p.off) p.hops (.ow c1):=BQ hol
   obtain⟨⟨G2,ZI⟩,ZK⟩:=ih c1 (o+1) (σ.sub p l (.ow c1)) _ G1 l1 (by simp) hI1 WA (by rw[Qs];exact wK hg) (by rw[hn,ZS];simp) (λWq UX=>by
    have OW:=mR c (o/sz) (o%sz) (λ_=>.v v);have:Wq.length∈c1.map List.length:=List.mem_map_of_mem UX;rw[ZS,OW]at this;obtain⟨e3,e4,e5⟩:=List.mem_map.1 this
    rw[<- e5];exact hlen e3 e4) (λx hx=>Qx x (by simp at hx⊢;exact .inr hx)) (λt X7 Y1=>by
    obtain⟨Wq,y',q1,q2⟩:=Zz t (by omega) (by simp at Y1⊢;omega)
    obtain⟨Q4,q3,q4⟩:=tP (x:=.v v) q1 q2 (i:=o/sz) (j:=o%sz) (by
     rintro⟨e1,e2⟩;have h3:=Nat.div_add_mod t sz;have h4:=Nat.div_add_mod o sz;rw[e1,e2]at h3
     omega)
    exact⟨Q4,y',by rw[ZS];exact q3,q4⟩) (by simp[St.sub,eQ,Xp]) (by rw[Xp];simpa using hol)
   refine⟨⟨G2,?_⟩,λj hj=>?_⟩
   ·have e:(σ.sub p l (.ow c1)).sub p l1 (.ow (nc sz c1 (o+1) (v2::vals)))=σ.sub p l (.ow (nc sz c o (v::v2::vals))):=by
     unfold St.sub;have R1:(St.c ⟨σ.tm,fI σ.ce p.root (l.set p.off (fZ (σ.c p.root p.off) p.hops (.ow c1))),σ.vr⟩ p.root p.off)=fZ (σ.c p.root p.off) p.hops (.ow c1):=Qs;rw[R1,Gv,vH,Xp,List.set_set];simp only[nc,<- ZS]
    rw[e]at ZI;exact ZI
   ·cases j with
    |zero=>exact⟨hs1,Ru⟩
    |succ j=>
     have:=ZK j (by simpa using hj);rw[show o+1+j=o+(j+1) by omega,World.frozen?_setCell]at this;refine⟨?_,this.2⟩
     have hne:(⟨b,o,none⟩:Addr)≠⟨b,o+(j+1),none⟩:=λe=>by have:=congrArg Addr.off e;simp at this
     rw[World.cell?_setCell_other w _ _ _ hne]at this;exact this.1
theorem Bo:∀{l:List TV}{vs:List Value},eI l=some vs->vs.length=l.length/\∀j (h:j<l.length)(h':j<vs.length),l[j]=.v vs[j]:=by
 intro l
 induction l with
 |nil=>intro vs h;simp[eI]at h;subst h;exact⟨rfl,λj h=>by simp at h⟩
 |cons t l ih=>
  intro vs h
  cases t with
  |v x=>
   simp[eI]at h
   cases hl:eI l with
   |none=>simp_all
   |some r=>
    simp[hl]at h;subst h;have ⟨e1,e2⟩:=ih hl;refine⟨by simp[e1],λj hj ZQ=>?_⟩
    cases j with
    |zero=>rfl
    |succ j=>simp_all
  |_=>simp[eI]at h
theorem zS{c:List (List TV)}{sz m:Nat}(hs:∀i (h:i<c.length),c[i].length=sz)(hm:m<=c.length):(c.take m).flatten.length=m*sz:=by
 rw[u9 (sz:=sz) λi h=>by simp_all];simp[hm]
theorem rX{F fp:Nat->Prop}{t:TV}{v x:Value}{c c2:List (List TV)}{sz lo n cap:Nat}{ad:Option Addr}(h:gR w F fp t v)(ht:t=.ow c\/t=.sl c)(hs:∀i (h:i<c.length),c[i].length=sz)(ZV:0<sz)(ZK:c2=(c.drop lo).take n)(XQ:lo+n<=c.length)
 (hx:x=.slice ad n cap)(Zd:0<n->∃b o len ZZ,v=.slice (some ⟨b,o,none⟩) len ZZ/\ad=some ⟨b,o+lo*sz,none⟩)(TF:ad=none->n=0){m:Nat}{vs:List Value}(hm:m<=c2.length)(hf:eI (c2.take m).flatten=some vs):(Builtin.firstCells sz m x).run P w=.ok vs.toArray w:=by
 subst hx
 have Rm:c2.length=n:=by rw[ZK];simp;omega
 have Za:∀i (h:i<c2.length),c2[i].length=sz:=λi h=>by
  subst ZK;simp only[List.getElem_take,List.getElem_drop];exact hs _ (by simp at h;omega)
 obtain⟨e1,e2⟩:=Bo hf;have Zz:=zS Za hm
 cases ad with
 |none=>
  have hn:=TF rfl
  have UB:m=0:=by omega
  subst UB;have:vs=[]:=oEN (by rw[e1,Zz];omega);subst this;rfl
 |some ad=>
  show(loadCells ad (m*sz)).run P w=_;obtain⟨a,capX,vals,f,rfl,YS,ZP,hrec,_⟩:=h.rows ht hs
  have Vb:vs.length=m*sz:=by rw[e1,Zz]
  have:=run_loadCells_list (P:=P) w ad vs λj y hj=>by
   have hjl:j<vs.length:=by
    rcases Nat.lt_or_ge j vs.length with h|h
    ·exact h
    ·rw[oGN h]at hj;simp at hj
   have RF:j<m*sz:=by omega
   have hq:j/sz<m:=(Nat.div_lt_iff_lt_mul ZV).2 RF;have hr:j%sz<sz:=Nat.mod_lt _ ZV
   have Qr:j/sz<c2.length:=by omega
   have W':lo+j/sz<c.length:=by omega
   have Xd:j%sz<(c[lo+j/sz]).length:=by rw[hs _ W'];exact hr
   have Y8:(lo+j/sz)*sz+j%sz=lo*sz+j:=by
    rw[Nat.add_mul];have:=Nat.div_add_mod j sz;rw[Nat.mul_comm]at this;omega
   have hown:=hrec (lo+j/sz) (j%sz) W' Xd;rw[Y8]at hown
   have Y5:c[lo+j/sz][j%sz]=.v y:=by
    have h1:=e2 j (by rw[Zz];exact RF) hjl;have h2:=qv (c:=c2.take m) (sz:=sz) (λi h=>by simpa using Za i (by simp at h;omega)) (i:=j/sz) (j:=j%sz) (by simp;omega) (by rw[List.getElem_take,Za _ Qr];exact hr);rw[show j/sz*sz+j%sz=j by rw[Nat.mul_comm];exact Nat.div_add_mod j sz,oGE (by rw[Zz];exact RF),h1]at h2
    injection h2 with h2
    have h3:(c2.take m)[j/sz]'(by simp;omega)=c[lo+j/sz]:=by
     subst ZK;simp
    have hy:vs[j]=y:=by simpa[hjl]using hj
    rw[<- hy,h2];simp only[h3]
   rw[Y5]at hown
   have W4:vals.getD (lo*sz+j) undef=y:=by
    cases hown with
    |v hfp Zz=>rfl
   have hlt:lo*sz+j<vals.length:=by
    rw[YS]
    have:(lo+j/sz)*sz+sz<=c.length*sz:=by
     have:(lo+j/sz+1)*sz<=c.length*sz:=Nat.mul_le_mul_right _ W';rw[Nat.add_mul,Nat.one_mul]at this;exact this
    omega
   obtain⟨b,o,Wj,Ze⟩:=ZP (lo*sz+j) y (by rw[oGE hlt];rw[oGD,oGE hlt]at W4;simpa using W4);obtain⟨b',o',len,ZZ,YP,UR⟩:=Zd (by rw[<- Rm];exact Nat.lt_of_le_of_lt (Nat.zero_le _) Qr)
   injection YP with YP _ _
   rw[YP]at Wj
   injection Wj with Wj
   injection Wj with hb ho _
   subst hb;subst ho
   injection UR with UR
   rw[UR,fB,show o'+lo*sz+j=o'+(lo*sz+j) by omega];exact Ze
  rw[Vb]at this;exact this
theorem Fs(hI:Inv M σ [] [] ts w G){u:TV}{v:Value}(hu:TmR w (G.F M.A) σ.v (eE M σ []) G u v){c2:List (List TV)}(hr:(contentOf u).run σ=some (c2,σ')):σ'=σ/\∀sz,0<sz->(∀i (h:i<c2.length),c2[i].length=sz)->
 ∃ad cap,v=.slice ad c2.length cap/\∀m vs,m<=c2.length->eI (c2.take m).flatten=some vs->(Builtin.firstCells sz m v).run P w=.ok vs.toArray w:=by
 cases u with
 |sl c=>
  simp only[contentOf,SP.run,oSJ,oPJ]at hr;obtain⟨rfl,rfl⟩:=hr;refine⟨rfl,λsz ZV hs=>?_⟩
  cases hu with
  |sl h=>
   have hown:gR w (G.F M.A) (λ_=>False) (.sl c) v:=.sl (λ_ h=>h) h;obtain⟨ad,cap,hv,_⟩:=h.hdr;refine⟨ad,cap,hv,λm vs hm hf=>rX (lo:=0) (n:=c.length) hown (.inr rfl) hs ZV (by simp) (by simp) hv (λhn=>?_) (λhe=>?_) hm hf⟩
   ·cases h with
    | @sl _ a cap sz' u hsz hcap hmax hnil hcell hrec=>
     have e:sz'=sz:=by rw[<- hsz 0 hn,hs 0 hn]
     subst e;obtain⟨b,o,ha,_,_⟩:=hcell 0 0 hn ZV
     injection hv with hv _ _
     exact⟨b,o,_,_,by rw[ha],by rw[<- hv,ha];simp⟩
   ·cases h with
    | @sl _ a cap sz' u hsz hcap hmax hnil hcell hrec=>
     injection hv with hv _ _
     rw[hv]at hnil;have:=hnil he;omega
 |ow c=>
  cases hu with
  | @nil ad=>
   obtain⟨rfl,rfl⟩:=hr;refine⟨rfl,λsz ZV hs=>⟨ad,0,rfl,λm vs hm hf=>?_⟩⟩
   have UB:m=0:=by simpa using hm
   subst UB;simp only[List.take_zero,List.flatten_nil,eI,oSJ]at hf;subst hf;cases ad<;>simp[Builtin.firstCells,loadCells,loadCellsFrom]
 |pk p vs=>
  simp only[contentOf]at hr;obtain⟨_,σ1,h1,h2⟩:=dE hr;have e1:σ1=σ:=(d8 h1).1;have e2:=(d8 h1).2;subst e1;obtain⟨tt,σ2,h3,h4⟩:=dE h2;obtain⟨e3,hg⟩:=fA h3;have e3:σ2=σ1:=e3;subst e3
  cases hu with
  |pk V0 h0 hv h=>
   obtain⟨Z7,c,ZH,ZC⟩:=h e2
   have Zw:ek (σ2.c p.root p.off) p.hops=some (.ow c):=by rw[eu (by exact Z7)]at ZC;exact ZC
   rw[Zw]at hg
   injection hg with hg
   subst hg;simp only[SP.run,oSJ,oPJ]at h4;obtain⟨rfl,rfl⟩:=h4;refine⟨rfl,λsz ZV hs=>?_⟩;obtain⟨fp,hown⟩:=sD hI ZH ZC;obtain⟨ad,cap,YP,_⟩:=hown.hdr;refine⟨ad,cap,YP,λm vs hm hf=>rX (lo:=0) (n:=c.length) hown (.inl rfl) hs ZV (by simp) (by simp) YP (λhn=>?_) (λhe=>?_) hm hf⟩
   ·cases hown with
    |nil=>simp at hn
    | @ow _ _ b cap cur e' sz' u f hfp hb hsz hcap hz0 hmax hcur hcell hrec hnb hdis=>
     injection YP with YP _ _
     exact⟨b,0,_,_,rfl,by rw[<- YP];simp⟩
   ·cases hown with
    |nil=>rfl
    | @ow _ _ b cap cur e' sz' u f hfp hb hsz hcap hz0 hmax hcur hcell hrec hnb hdis=>
     injection YP with YP _ _
     rw[he]at YP;simp at YP
 |pw p vs YZ lo n=>
  simp only[contentOf]at hr;obtain⟨_,σ1,h1,h2⟩:=dE hr;have e1:σ1=σ:=(d8 h1).1;have e2:=(d8 h1).2;subst e1;obtain⟨tt,σ2,h3,h4⟩:=dE h2;obtain⟨e3,hg⟩:=fA h3;have e3:σ2=σ1:=e3;subst e3
  cases hu with
  |pw V0 h0 hv h=>
   obtain⟨Z7,c,hd,ZH,ZC,XQ,a,cap,hx,Xr,Xa,hnil,XH,Zd⟩:=h e2
   have Zw:ek (σ2.c p.root p.off) p.hops=some (.ow c):=by rw[eu (by exact Z7)]at ZC;exact ZC
   rw[Zw]at hg
   injection hg with hg
   subst hg;obtain⟨rfl,rfl⟩:=h4;refine⟨rfl,λsz ZV hs=>?_⟩
   have X':((c.drop lo).take n).length=n:=by simp;omega
   obtain⟨fp,hown⟩:=sD hI ZH ZC;by_cases hn:n=0
   ·subst hn;refine⟨a,cap,by rw[X'];exact hx,λm vs hm hf=>?_⟩
    have UB:m=0:=by omega
    subst UB;simp only[List.take_zero,List.flatten_nil,eI,oSJ]at hf;subst hf;rw[hx]
    cases a with
    |none=>rfl
    |some a=>simp[Builtin.firstCells,loadCells,loadCellsFrom]
   ·have R3:YZ=sz:=by
     rw[<- hs 0 (by omega)];simp only[List.getElem_take,List.getElem_drop];exact(XH _ (by omega)).symm
    subst R3;refine⟨a,cap,by rw[X'];exact hx,λm vs hm hf=>rX (lo:=lo) (n:=n) hown (.inl rfl) XH ZV rfl XQ hx (λhn=>?_) (λhe=>?_) hm hf⟩
    ·obtain⟨b,len,ZZ,q1,q2⟩:=Zd hn;exact⟨b,0,len,ZZ,q1,by rw[q2];simp⟩
    ·obtain⟨b,len,ZZ,q1,q2⟩:=Zd (by omega);rw[he]at q2;simp at q2
 |_=>simp[contentOf,SP.run]at hr
theorem qO{t t' ty e:TypeId}{sz:Nat}(hu:P.underlying t=some (.slice e))(hs:(P.info? e).map (·.size)=some sz){v:Value}{Xg:Option Addr}{n2 Wp:Nat}(hv:v=.slice Xg n2 Wp){ad:Option Addr}{n cap:Nat}{vs:List Value}(hf:(Builtin.firstCells sz (min n2 n) v).run P w=.ok vs.toArray w)
 {w':World}(hst:match ad with|some a=>(storeCells a vs).run P w=.ok () w'|none=>w'=w):
 (Builtin.copy_ #[t,t'] ty #[.slice ad n cap,v]).run P w=.ok (goInt ((min n2 n:Nat):Int)) w':=by
 subst hv
 cases hq:P.info? e with
 |none=>simp_all
 |some i=>
  have hi:i.size=sz:=by simp_all
  cases ad with
  |none=>
   subst hst;simp[Builtin.copy_,run_underlying hu,Builtin.lenOf,sizeOf,typeInfo,hq,hi,hf]
  |some a=>
   simp[Builtin.copy_,run_underlying hu,Builtin.lenOf,sizeOf,typeInfo,hq,hi,hf,hst]
theorem KA(hI:Inv M σ [] [] a.tmps w G){d:Nat}(hd:o.dst=some d)(hN:d<M.N){x y:Opd}{x' y':Operand}{t t' e sz:TypeId}(hx:dN x'=some x)(hy:dN y'=some y)(ho:o.op=.call { callee:=.builtin .copy,args:=#[x',y'],argTypes:=#[t,t'] })
 (hu:P.underlying t=some (.slice e))(hs:(P.info? e).map (·.size)=some sz)(hr:(ev1 d (.cpy sz x y)).run σ=some ((),σ')):mh P M σ' a o w:=by
 simp only[ev1]at hr;obtain⟨tx,σ1,h1,h2⟩:=dE hr;obtain⟨rfl,Z0⟩:=eY hI.tmr hx h1;obtain⟨ty,σ2,h3,h4⟩:=dE h2;obtain⟨rfl,XT⟩:=eY hI.tmr hy h3;obtain⟨c2,σ3,h5,h6⟩:=dE h4;obtain⟨rfl,Vu⟩:=Fs hI XT h5
 have YK:∀r w',(Builtin.copy_ #[t,t'] o.type #[a.eval x',a.eval y']).run P w=.ok r w'->(execOp a.eval o).run P w=.ok (.value r) w':=by
  intro r w' h;simp[execOp,ho,resolve,invoke,builtin,h]
 have ZX:∀(p:dW)(c:List (List TV))(lo n:Nat)(vd Ux:Value)(ad:Option Addr)(cap:Nat),p.root≠1->G.hv w p=some Ux->ek (σ3.c p.root p.off) p.hops=some (.ow c)->a.eval x'=vd->vd=.slice ad n cap->lo+n<=c.length ->
  (∀b0 len ZZ,Ux=.slice (some ⟨b0,0,none⟩) len ZZ->True)->(0<n->∃b len ZZ,Ux=.slice (some ⟨b,0,none⟩) len ZZ/\len=c.length/\ad=some ⟨b,lo*sz,none⟩)->(zA d p (σ3.c p.root p.off) (JD sz c c2 lo n)).run σ3=some ((),σ')->mh P M σ' a o w:=by
  intro p c lo n vd Ux ad cap Z7 ZH hg Qw Qy XQ _ S8 hrun;unfold JD at hrun;split at hrun
  ·rename_i Zz;split at hrun
   case isFalse=>simp[zA,SP.run]at hrun
   rename_i YD;simp only[oBA,oDE,List.all_eq_true,beq_iff_eq]at YD;obtain⟨Xg,Wp,W3,Xy⟩:=Vu sz YD.1 λi h=>YD.2 _ (List.getElem_mem h);have hf:=Xy (min c2.length n) [] (Nat.min_le_left _ _) Zz;have Uv:=qO (t':=t') (ty:=o.type) (ad:=ad) (n:=n) (cap:=cap) (w':=w) hu hs W3 hf (by cases ad<;>rfl);simp only[zA]at hrun;refine gT hI hd hN (.v rfl) hrun (YK _ _ ?_);rw[Qw,Qy];exact Uv
  ·rename_i v vs Zz;split at hrun
   case isFalse=>simp[zA,SP.run]at hrun
   rename_i YD;simp only[oBA,oDE,List.all_eq_true,beq_iff_eq]at YD;obtain⟨⟨⟨⟨⟨k1,k2⟩,k3⟩,k4⟩,k5⟩,k6⟩:=YD;have X1:∀i (h:i<c2.length),c2[i].length=sz:=λi h=>k3 _ (List.getElem_mem h);obtain⟨Xg,Wp,W3,Xy⟩:=Vu sz k1 X1;have hf:=Xy (min c2.length n) (v::vs) (Nat.min_le_left _ _) Zz
   have YS:(v::vs).length=min c2.length n*sz:=by rw[(Bo Zz).1,zS X1 (Nat.min_le_left _ _)]
   have Yb:0<n:=by
    rcases Nat.eq_zero_or_pos n with h|h
    ·subst h;simp at YS
    ·exact h
   obtain⟨b,len,ZZ,RC,hlen,Zd⟩:=S8 Yb;subst hlen;rw[RC]at ZH;simp only[zA]at hrun;obtain⟨l,hl,hol,h7⟩:=ew hrun;have Qn:min c2.length n<=n:=Nat.min_le_right _ _
   obtain⟨⟨G1,hI1⟩,hcell⟩:=I4 Z7 k1 (v::vs) c (lo*sz) σ3 w G l (by simp) hI ZH hg rfl (λel Y5=>k2 el Y5) k6 (λt X7 Y1=>by
    rw[YS]at Y1;have U9:lo<=t/sz:=(Nat.le_div_iff_mul_le k1).2 X7;have Yx:t/sz<lo+min c2.length n:=(Nat.div_lt_iff_lt_mul k1).2 (by rw[Nat.add_mul];exact Y1);have X6:t%sz<sz:=Nat.mod_lt _ k1;have Qf:t/sz<c.length:=Nat.lt_of_lt_of_le Yx k4
    have Zx:c[t/sz]∈(c.drop lo).take (min c2.length n):=by
     obtain⟨q,hq⟩:∃q,t/sz=lo+q:=⟨t/sz-lo,by rw[Nat.add_sub_cancel' U9]⟩;simp only[hq];rw[hq]at Yx;refine List.mem_of_getElem? (i:=q) ?_;rw[List.getElem?_take,oIP (Nat.lt_of_add_lt_add_left Yx),List.getElem?_drop];exact oGE _
    have hlt:t%sz<c[t/sz].length:=by rw[k2 _ (List.getElem_mem Qf)];exact X6
    have Tx:=k5 _ Zx _ (List.getElem_mem hlt);refine⟨c[t/sz],?_⟩
    cases hcv:c[t/sz][t%sz]with
    |v y=>exact⟨y,oGE Qf,by rw[oGE hlt,hcv]⟩
    |_=>rw[hcv]at Tx;simp[isV]at Tx) hl hol
   have hst:=run_storeCells_cells (P:=P) b (lo*sz) (v::vs) 0 w (λj hj=>by simpa using(hcell j hj).1) (λj hj=>by simpa using(hcell j hj).2) (λu hu=>qG (k6 u hu));have Uv:=qO (t':=t') (ty:=o.type) (ad:=ad) (n:=n) (cap:=cap) (w':=w.setCells b (lo*sz) (v::vs)) hu hs W3 hf (by rw[Zd];simpa using hst);have R0:=YK _ _ (by rw[Qw,Qy];exact Uv);simp only[wr,SP.run,oSJ,oPJ,true_and]at h7;have e9:σ'={ σ3.sub p l (.ow (nc sz c (lo*sz) (v::vs)))with tm:=fI (σ3.sub p l (.ow (nc sz c (lo*sz) (v::vs)))).tm d (.v (.int .i64 ((min c2.length n:Nat):Int))) }:=h7.symm;rw[e9];refine⟨_,_,_,G1,R0,.inl rfl,?_⟩;rw[hd];exact hI1.wrT hN (.v rfl)
  ·simp[zA,SP.run]at hrun
 cases tx with
 |pk p vs=>
  simp only at h6;obtain⟨_,σ4,h7,h8⟩:=dE h6;have e1:σ4=σ3:=(d8 h7).1;have e2:=(d8 h7).2;subst e1;simp only[SP.run]at h8;generalize hz:a.eval x'=z at Z0
  cases Z0 with
  |pk V0 h0 hv h=>
   obtain⟨Z7,c,ZH,ZC⟩:=h e2
   have Zw:ek (σ4.c p.root p.off) p.hops=some (.ow c):=by rw[eu (by exact Z7)]at ZC;exact ZC
   rw[Zw]at h8;simp only at h8;obtain⟨fp,hown⟩:=sD hI ZH ZC;obtain⟨ad,cap,Wo,_⟩:=hown.hdr;refine ZX p c 0 c.length z z ad cap Z7 ZH Zw hz Wo (by simp) (λ_ _ _ _=>trivial) (λhn=>?_) h8
   cases hown with
   |nil=>simp at hn
   | @ow _ _ b NZ cur e' sz' u f hfp hb hsz hcap hz0 hmax hcur hcell hrec hnb hdis=>
    injection Wo with Wo _ _
    exact⟨b,_,_,rfl,rfl,by rw[<- Wo];simp⟩
 |pw p vs sz' lo n=>
  simp only at h6;obtain⟨_,σ4,h7,h8⟩:=dE h6;have e1:σ4=σ3:=(d8 h7).1;have e2:=(d8 h7).2;subst e1;simp only[SP.run]at h8;generalize hz:a.eval x'=z at Z0
  cases Z0 with
  |pw V0 h0 hv h=>
   obtain⟨Z7,c,YA,ZH,ZC,XQ,ad,cap,Sd,Xr,Xa,hnil,XH,Zd⟩:=h e2
   have Zw:ek (σ4.c p.root p.off) p.hops=some (.ow c):=by rw[eu (by exact Z7)]at ZC;exact ZC
   rw[Zw]at h8;simp only at h8;split at h8
   case isFalse=>simp[SP.run]at h8
   rename_i WL;subst WL;obtain⟨fp,hown⟩:=sD hI ZH ZC;refine ZX p c lo n z YA ad cap Z7 ZH Zw hz Sd XQ (λ_ _ _ _=>trivial) (λhn=>?_) h8;obtain⟨b,len,ZZ,q1,q2⟩:=Zd hn;obtain⟨ad3,N0,q3,_⟩:=hown.hdr;rw[q1]at q3
   injection q3 with _ q3 _
   exact⟨b,len,ZZ,q1,q3,q2⟩
 |_=>simp[SP.run]at h6
end
def xM(P:Program)(t:TypeId):Option Nat:=(P.info? t).map (·.size)
def JU(P:Program)(t:TypeId):Option (List Value):=(P.info? t).bind (·.zero.map (·.cells.toList))
def DH(P:Program)(t:TypeId):Option (Option Nat):=
 match P.underlying t with
 |some (.struct _)=>(xM P t).map some
 |some (.array _ _)=>(xM P t).map some
 |some _=>some none
 |none=>none
def Ai:Option Operand->Option (Option Opd)
 |none=>some none
 |some x=>(dN x).map some
def oQ{α β:Type}(f:α->Option β):List α->Option (List β)
 | []=>some []
 |x::r=>match f x,oQ f r with|some y,some l=>some (y::l)|_,_=>none
def sT(b:Bool):Option Unit:=if b then some ()else none
def MG(mv n:Nat)(x:Opd):TOp:=if mv=3 then .boxi n x else .box n (mv==1) x
def gt(P:Program)(mv:Nat):Op->Option TOp
 |.move x=>match x with
  |.const (.agg cs)=>some (.asn true (.c (.agg cs)))
  |x=>(dN x).map .mov
 |.assign x=>if mv=2 then(dN x).map .mov else(dN x).map (.asn (mv==1))
 |.pick c a b=>do some (.pick (<- dN c) (<- dN a) (<- dN b))
 |.alloc e=>(JU P e).map .alloc
 |.box e x=>do some (MG mv (<- xM P e) (<- dN x))
 |.load t a=>do some (.load (<- DH P t) (<- dN a))
 |.store t a x=>do
  let n <- xM P t
  sT (decide (0<n))
  some (.store n (mv==1) (<- dN a) (<- dN x))
 |.nilCheck x=>(dN x).map .nilc
 |.binOp op t x y _=>
  match P.underlying t with
  |some .bool=>match op with
   |.eql=>do some (.bnb false (<- dN x) (<- dN y))
   |.neq=>do some (.bnb true (<- dN x) (<- dN y))
   |_=>none
  |some (.int _)=>do some (.bin op (<- dN x) (<- dN y))
  |some .string=>do some (.bin op (<- dN x) (<- dN y))
  |some (.struct _)=>
   if P.eqGuardType P.depth t then none
   else match qb P 50 t with
    |some ks=>match op with
     |.eql=>do some (.eqa ks false (<- dN x) (<- dN y))
     |.neq=>do some (.eqa ks true (<- dN x) (<- dN y))
     |_=>none
    |none=>none
  |_=>none
 |.unOp op _ x=>(dN x).map (.un op)
 |.convert s d x=>
  match P.underlying s,P.underlying d with
  |some (.int _),some (.int k)=>(dN x).map (.conv k)
  |some (.slice e),some .string=>match P.underlying e with
   |some (.int .u8)=>(dN x).map .b2s
   |_=>none
  |_,_=>none
 |.fieldAddr s x f=>
  match P.underlying s with
  |some (.struct fs)=>match fs[f]? with
   |some fd=>match xM P fd.type with
    |some (_+1)=>(dN x).map (.fld fd.offset)
    |_=>none
   |none=>none
  |_=>none
 |.indexAddr t x i=>
  match P.underlying t with
  |some (.slice e)=>do some (.idx (<- xM P e) (<- dN x) (<- dN i))
  |some (.array n e)=>do some (.idxa n (<- xM P e) (<- dN x) (<- dN i))
  |_=>none
 |.index t x i=>
  match P.underlying t with
  |some .string=>do some (.ixs (<- dN x) (<- dN i))
  |_=>none
 |.extract x i=>(dN x).map λx=>.ext x i
 |.makeSlice t l c=>
  match P.underlying t with
  |some (.slice e)=>match P.info? e with
   |some i=>match i.zero with
    |some z=>do
     sT (decide (i.bytes<=16777216*i.size)&&decide (0<i.size))
     some (.mks i.size z.cells.toList (<- dN l) (<- dN c))
    |none=>none
   |none=>none
  |_=>none
 |.slice t x lo hi mx=>
  match mx with
  |some m=>none
  |none=>match P.underlying t with
   |some (.slice e)=>do some (.slc (<- xM P e) (<- dN x) (<- Ai lo) (<- Ai hi))
   |_=>none
 |.makeFunc fn first caps=>
  match fn with
  |.func f=>do
   sT (first.size==0)
   some (.mkf f (<- oQ dN caps.toList))
  |_=>none
 |.buildSlice t len parts=>
  match P.underlying t with
  |some (.slice e)=>match P.info? e with
   |some i=>do
    sT ((i.zero.isSome||len*i.size==0)&&decide (len*i.size<=16777216)&&decide (len<=16777216)&&parts.toList.map (·.1)==List.range len)
    some (.bsl i.size (mv==1) len (<- oQ (λp=>dN p.2) parts.toList))
   |none=>none
  |_=>none
 |.build t parts=>
  match P.underlying t,JU P t with
  |some (.struct fs),some z=>do
   sT (fs.toList.all λf=>(xM P f.type).isSome)
   let ps <- oQ (λp=>match fs[p.1]? with
    |some f=>match xM P f.type,dN p.2 with
     |some n,some x=>if f.offset+n<=z.length then some (f.offset,n,x)else none
     |_,_=>none
    |none=>none) parts.toList
   some (.bld z (mv==1) ps)
  |some (.array _ e),some z=>match xM P e with
   |some sz=>do
    let ps <- oQ (λp=>match dN p.2 with
     |some x=>if p.1*sz+sz<=z.length then some (p.1*sz,sz,x)else none
     |none=>none) parts.toList
    some (.bld z (mv==1) ps)
   |none=>none
  |_,_=>none
 |.call c=>
  match c with
  | { callee:=.builtin .append,args,argTypes }=>match args.toList,argTypes.toList with
   | [s,x],[t,t']=>if t=t' then
    match P.underlying t with
    |some (.slice e)=>match P.info? e with
     |some i=>match i.zero with
      |some z=>do
       sT (z.cells.size==i.size&&decide (0<i.size))
       some (.app i.size i.bytes (mv==1) (z.cells.all gU) (<- dN s) (<- dN x))
      |none=>none
     |none=>none
    |_=>none
    else none
   |_,_=>none
  | { callee:=.builtin .copy,args,argTypes }=>match args.toList,argTypes.toList with
   | [x,y],[t,_]=>match P.underlying t with
    |some (.slice e)=>do some (.cpy (<- xM P e) (<- dN x) (<- dN y))
    |_=>none
   |_,_=>none
  | { callee:=.builtin .min,args,argTypes:=_ }=>(oQ dN args.toList).map (.mm false)
  | { callee:=.builtin .max,args,argTypes:=_ }=>(oQ dN args.toList).map (.mm true)
  | { callee:=.builtin .len,args,argTypes }=>match args.toList,argTypes.toList with
   | [x],[t]=>match P.underlying t with
    |some (.slice _)=>(dN x).map .len
    |some .string=>(dN x).map .lens
    |_=>none
   |_,_=>none
  |_=>none
 |_=>none
theorem Ao{P:Program}{t:TypeId}{n:Option Nat}(h:DH P t=some n):Ie P t n:=by
 unfold DH at h;split at h
 ·rename_i f hu
  cases hs:xM P t with
  |none=>simp_all
  |some k=>simp[hs]at h;subst h;exact⟨⟨_,hu,.inl ⟨_,rfl⟩⟩,hs⟩
 ·rename_i n e hu
  cases hs:xM P t with
  |none=>simp_all
  |some k=>simp[hs]at h;subst h;exact⟨⟨_,hu,.inr ⟨_,_,rfl⟩⟩,hs⟩
 ·rename_i d YE hd2 hu
  injection h with h
  subst h;exact⟨d,hu,λf e=>YE f (by rw[<- e]),λn e' e=>hd2 n e' (by rw[<- e])⟩
 ·simp at h
theorem Ah{x:Option Operand}{y:Option Opd}(h:Ai x=some y):x.map dN=y.map some:=by
 cases x with
 |none=>simp[Ai]at h;subst h;rfl
 |some x=>
  simp[Ai]at h
  cases hc:dN x with
  |none=>simp_all
  |some z=>simp[hc]at h;subst h;simp[hc]
theorem nd{α β:Type}{f:α->Option β}:∀{l:List α}{r:List β},oQ f l=some r->l.map f=r.map some:=by
 intro l
 induction l with
 |nil=>intro r h;simp[oQ]at h;subst h;rfl
 |cons x l ih=>
  intro r h;simp[oQ]at h
  cases hx:f x with
  |none=>simp_all
  |some y=>
   cases hl:oQ f l with
   |none=>simp_all
   |some q=>simp[hx,hl]at h;subst h;simp[hx,ih hl]
theorem ng{b:Bool}{u:Unit}(h:sT b=some u):b=true:=by
 unfold sT at h
 simp_all
theorem dR{α β:Type}{x:Option α}{f:α->Option β}{y:β}(h:(x >>= f)=some y):∃a,x=some a/\f a=some y:=by
 cases x with
 |none=>simp_all
 |some a=>simp_all
theorem ig{α β:Type}{x:Option α}{f:α->β}{y:β}(h:x.map f=some y):∃a,x=some a/\f a=y:=by
 simp_all
section
variable {P:Program} {M:Fm} {σ σ':St} {ts:Array Value} {w:World} {G:Gh} {a:Act} {o:Oper}
theorem Kr(hI:Inv M σ [] [] a.tmps w G){d:Nat}(hd:o.dst=some d)(hN:d<M.N)(YH:M.pr (2*d+2)=none){mv:Nat}{t:TOp}(hc:gt P mv o.op=some t)(hr:(ev1 d t).run σ=some ((),σ'))(hns:¬ ∃ty x y,o.op=.store ty x y):mh P M σ' a o w:=by
 cases ho:o.op with
 |move x=>
  rw[ho]at hc;simp only[gt]at hc;split at hc
  ·injection hc with hc
   subst hc;exact Gp hI hd hN rfl (.inr ho) hr
  ·obtain⟨y,hy,rfl⟩:=ig hc;exact Ga hI hd hN hy (.inl ho) hr
 |assign x=>
  rw[ho]at hc;simp only[gt]at hc;split at hc
  ·obtain⟨y,hy,rfl⟩:=ig hc;exact Ga hI hd hN hy (.inr ho) hr
  ·obtain⟨y,hy,rfl⟩:=ig hc;exact Gp hI hd hN hy (.inl ho) hr
 |pick c x y=>
  rw[ho]at hc;simp only[gt]at hc;obtain⟨c1,h1,hc⟩:=dR hc;obtain⟨x1,h2,hc⟩:=dR hc;obtain⟨y1,h3,hc⟩:=dR hc
  injection hc with hc
  subst hc;exact IG hI hd hN h1 h2 h3 ho hr
 |alloc e=>
  rw[ho]at hc;obtain⟨z,hz,rfl⟩:=ig hc;exact Gq hI hd hN YH ho hz hr
 |box e x=>
  rw[ho]at hc;simp only[gt]at hc;obtain⟨n,h1,hc⟩:=dR hc;obtain⟨y,h2,hc⟩:=dR hc
  injection hc with hc
  subst hc;unfold MG at hr;split at hr
  ·exact IM hI hd hN h2 ho hr
  ·exact KC hI hd hN YH h2 ho hr
 |load t' x=>
  rw[ho]at hc;simp only[gt]at hc;obtain⟨n,h1,hc⟩:=dR hc;obtain⟨y,h2,hc⟩:=dR hc
  injection hc with hc
  subst hc;exact II hI hd hN h2 ho (Ao h1) hr
 |nilCheck x=>
  rw[ho]at hc;obtain⟨y,hy,rfl⟩:=ig hc;exact IH hI hd hN hy ho hr
 |binOp op ty x y yt=>
  rw[ho]at hc;simp only[gt]at hc
  have key:(do some (TOp.bin op (<- dN x) (<- dN y)):Option TOp)=some t->mh P M σ' a o w:=by
   intro hc;obtain⟨x1,h2,hc⟩:=dR hc;obtain⟨y1,h3,hc⟩:=dR hc
   injection hc with hc
   subst hc;exact KE hI hd hN h2 h3 ho hr
  split at hc
  ·rename_i hu;split at hc
   ·obtain⟨x1,h2,hc⟩:=dR hc;obtain⟨y1,h3,hc⟩:=dR hc
    injection hc with hc
    subst hc;exact Gn hI hd hN h2 h3 ho (.inl ⟨rfl,rfl⟩) hu hr
   ·obtain⟨x1,h2,hc⟩:=dR hc;obtain⟨y1,h3,hc⟩:=dR hc
    injection hc with hc
    subst hc;exact Gn hI hd hN h2 h3 ho (.inr ⟨rfl,rfl⟩) hu hr
   ·simp at hc
  ·exact key hc
  ·exact key hc
  ·rename_i fs hu;split at hc
   case isTrue=>simp at hc
   rename_i Wl;split at hc
   case h_2=>simp at hc
   rename_i ks hk;split at hc
   ·obtain⟨x1,h2,hc⟩:=dR hc;obtain⟨y1,h3,hc⟩:=dR hc
    injection hc with hc
    subst hc;exact Gj hI hd hN h2 h3 ho (.inl ⟨rfl,rfl⟩) hu hk (by simpa using Wl) hr
   ·obtain⟨x1,h2,hc⟩:=dR hc;obtain⟨y1,h3,hc⟩:=dR hc
    injection hc with hc
    subst hc;exact Gj hI hd hN h2 h3 ho (.inr ⟨rfl,rfl⟩) hu hk (by simpa using Wl) hr
   ·simp at hc
  ·simp at hc
 |unOp op ty x=>
  rw[ho]at hc;obtain⟨y,hy,rfl⟩:=ig hc;exact LR hI hd hN hy ho hr
 |convert s dd x=>
  rw[ho]at hc;simp only[gt]at hc;split at hc
  ·rename_i ks k hs Vv;obtain⟨y,hy,rfl⟩:=ig hc;exact IL hI hd hN hy ho hs Vv hr
  ·rename_i e hs Vv;split at hc
   ·rename_i he;obtain⟨y,hy,rfl⟩:=ig hc;exact KF hI hd hN hy ho hs Vv he hr
   ·simp at hc
  ·simp at hc
 |fieldAddr s x f=>
  rw[ho]at hc;simp only[gt]at hc;split at hc
  ·rename_i fs hu;split at hc
   ·rename_i fd hf;split at hc
    ·rename_i n hs;obtain⟨y,hy,rfl⟩:=ig hc;exact Ky hI hd hN hy ho hu hf ⟨_,hs⟩ hr
    ·simp at hc
   ·simp at hc
  ·simp at hc
 |indexAddr ty x i=>
  rw[ho]at hc;simp only[gt]at hc;split at hc
  ·rename_i e hu;obtain⟨n,h1,hc⟩:=dR hc;obtain⟨y,h2,hc⟩:=dR hc;obtain⟨z,h3,hc⟩:=dR hc
   injection hc with hc
   subst hc;exact Kx hI hd hN h2 h3 ho hu h1 hr
  ·rename_i n e hu;obtain⟨sz,h1,hc⟩:=dR hc;obtain⟨y,h2,hc⟩:=dR hc;obtain⟨z,h3,hc⟩:=dR hc
   injection hc with hc
   subst hc;exact IK hI hd hN h2 h3 ho hu h1 hr
  ·simp at hc
 |index ty x i=>
  rw[ho]at hc;simp only[gt]at hc;split at hc
  ·rename_i hu;obtain⟨y,h2,hc⟩:=dR hc;obtain⟨z,h3,hc⟩:=dR hc
   injection hc with hc
   subst hc;exact Kw hI hd hN h2 h3 ho hu hr
  ·simp at hc
 |extract x i=>
  rw[ho]at hc;obtain⟨y,hy,rfl⟩:=ig hc;exact Kz hI hd hN hy ho hr
 |makeSlice ty l c=>
  rw[ho]at hc;simp only[gt]at hc;split at hc
  ·rename_i e hu;split at hc
   ·rename_i i hi;split at hc
    ·rename_i z hz;obtain⟨u,h1,hc⟩:=dR hc;obtain⟨y,h2,hc⟩:=dR hc;obtain⟨y2,h3,hc⟩:=dR hc
     injection hc with hc
     subst hc;have hg:=ng h1;simp only[oBA,oDE]at hg;exact Kt hI hd hN h2 h3 ho hu hi hz rfl rfl hg.1 hg.2 hr
    ·simp at hc
   ·simp at hc
  ·simp at hc
 |slice ty x lo hi mx=>
  rw[ho]at hc;simp only[gt]at hc;split at hc
  ·simp at hc
  ·split at hc
   ·rename_i e hu;obtain⟨n,h1,hc⟩:=dR hc;obtain⟨y,h2,hc⟩:=dR hc;obtain⟨l1,h3,hc⟩:=dR hc;obtain⟨h4,h5,hc⟩:=dR hc
    injection hc with hc
    subst hc;exact Kp hI hd hN h2 (Ah h3) (Ah h5) ho hu h1 hr
   ·simp at hc
 |makeFunc fn first caps=>
  rw[ho]at hc;simp only[gt]at hc;split at hc
  ·rename_i f;obtain⟨u,h1,hc⟩:=dR hc;obtain⟨l,h2,hc⟩:=dR hc
   injection hc with hc
   subst hc;have hg:=ng h1
   have hf:first=#[]:=by simpa using hg
   subst hf;exact Ku hI hd hN (nd h2) ho hr
  ·simp at hc
 |buildSlice ty len parts=>
  rw[ho]at hc;simp only[gt]at hc;split at hc
  ·rename_i e hu;split at hc
   ·rename_i i hi;obtain⟨u,h1,hc⟩:=dR hc;obtain⟨l,h2,hc⟩:=dR hc
    injection hc with hc
    subst hc;have hg:=ng h1;simp only[oBA,Bool.or_eq_true,oDE,beq_iff_eq]at hg;obtain⟨⟨⟨g1,g2⟩,g3⟩,g4⟩:=hg;refine KB hI hd hN ho hu hi rfl (λh0=>?_) g4 (nd h2) g2 g3 hr;rcases g1 with g1|g1
    ·exact Option.isSome_iff_exists.1 g1
    ·omega
   ·simp at hc
  ·simp at hc
 |build ty parts=>
  rw[ho]at hc;simp only[gt]at hc;split at hc
  ·rename_i fs z hu hz;obtain⟨u,h1,hc⟩:=dR hc;obtain⟨ps,h2,hc⟩:=dR hc
   injection hc with hc
   subst hc;have hg:=ng h1;simp only[List.all_eq_true]at hg;have hm:=nd h2;refine KD hI hd hN (szf:=λf=>(xM P f.type).getD 0) ho hu hz (λf hf=>?_) ?_ (λk h h'=>?_) hr
   ·have:=hg f hf;obtain⟨n,hn⟩:=Option.isSome_iff_exists.1 this;rw[hn];exact hn
   ·have:=congrArg List.length hm;simpa using this
   ·have hk:(parts.toList.map (λp=>match fs[p.1]? with
     |some f=>match xM P f.type,dN p.2 with
      |some n,some x=>if f.offset+n<=z.length then some (f.offset,n,x)else none
      |_,_=>none
     |none=>none))[k]?=(ps.map some)[k]?:=by rw[hm]
    simp only[List.getElem?_map,oGE h',oMS,Array.getElem?_toList,Array.getElem?_eq_getElem h]at hk
    cases hf:fs[parts[k].1]? with
    |none=>simp[hf]at hk
    |some f=>
     cases hs:xM P f.type with
     |none=>simp[hf,hs]at hk
     |some n=>
      cases hx:dN parts[k].2 with
      |none=>simp[hf,hs,hx]at hk
      |some x=>
       simp only[hf,hs,hx,oSJ]at hk;split at hk
       ·rename_i Ya
        injection hk with hk
        rw[<- hk];exact⟨rfl,by simp[hs],Ya⟩
       ·simp at hk
  ·rename_i n e z hu hz;split at hc
   ·rename_i sz hsz;obtain⟨ps,h2,hc⟩:=dR hc
    injection hc with hc
    subst hc;have hm:=nd h2;refine IN hI hd hN ho hu hz hsz ?_ (λk h h'=>?_) hr
    ·have:=congrArg List.length hm;simpa using this
    ·have hk:(parts.toList.map (λp=>match dN p.2 with
      |some x=>if p.1*sz+sz<=z.length then some (p.1*sz,sz,x)else none
      |none=>none))[k]?=(ps.map some)[k]?:=by rw[hm]
     simp only[List.getElem?_map,oGE h',oMS,Array.getElem?_toList,Array.getElem?_eq_getElem h]at hk
     cases hx:dN parts[k].2 with
     |none=>simp[hx]at hk
     |some x=>
      simp only[hx,oSJ]at hk;split at hk
      ·rename_i Ya
       injection hk with hk
       rw[<- hk];exact⟨rfl,rfl,rfl,Ya⟩
      ·simp at hk
   ·simp at hc
  ·simp at hc
 |call c=>
  rw[ho]at hc;simp only[gt]at hc;split at hc
  ·rename_i args argTypes;split at hc
   ·rename_i s x t1 t2 ea et
    have ea:args=#[s,x]:=by rw[<- Array.toArray_toList (xs:=args),ea]
    have et:argTypes=#[t1,t2]:=by rw[<- Array.toArray_toList (xs:=argTypes),et]
    subst ea;subst et;split at hc
    ·rename_i R4;subst R4;split at hc
     ·rename_i e hu;split at hc
      ·rename_i i hi;split at hc
       ·rename_i z hz;obtain⟨u,h1,hc⟩:=dR hc;obtain⟨y,h2,hc⟩:=dR hc;obtain⟨y2,h3,hc⟩:=dR hc
        injection hc with hc
        subst hc;have hg:=ng h1;simp only[oBA,oDE,beq_iff_eq]at hg;exact KG hI hd hN h2 h3 ho hu hi hz hg.1 rfl rfl hg.2 hr
       ·simp at hc
      ·simp at hc
     ·simp at hc
    ·simp at hc
   ·simp at hc
  ·rename_i args argTypes;split at hc
   ·rename_i x y t1 t2 ea et
    have ea:args=#[x,y]:=by rw[<- Array.toArray_toList (xs:=args),ea]
    have et:argTypes=#[t1,t2]:=by rw[<- Array.toArray_toList (xs:=argTypes),et]
    subst ea;subst et;split at hc
    ·rename_i e hu;obtain⟨sz,h1,hc⟩:=dR hc;obtain⟨y1,h2,hc⟩:=dR hc;obtain⟨y2,h3,hc⟩:=dR hc
     injection hc with hc
     subst hc;exact KA hI hd hN h2 h3 ho hu h1 hr
    ·simp at hc
   ·simp at hc
  ·rename_i args argTypes;obtain⟨l,h1,rfl⟩:=ig hc;exact JZ (mx:=false) hI hd hN (nd h1) ho hr
  ·rename_i args argTypes;obtain⟨l,h1,rfl⟩:=ig hc;exact JZ (mx:=true) hI hd hN (nd h1) ho hr
  ·rename_i args argTypes;split at hc
   ·rename_i x t1 ea et
    have ea:args=#[x]:=by rw[<- Array.toArray_toList (xs:=args),ea]
    have et:argTypes=#[t1]:=by rw[<- Array.toArray_toList (xs:=argTypes),et]
    subst ea;subst et;split at hc
    ·rename_i e hu;obtain⟨y,hy,rfl⟩:=ig hc;exact Kv hI hd hN hy ho hu hr
    ·rename_i hu;obtain⟨y,hy,rfl⟩:=ig hc;exact IJ hI hd hN hy ho hu hr
    ·simp at hc
   ·simp at hc
  ·simp at hc
 |store ty x y=>
  rw[ho]at hc;simp only[gt]at hc;obtain⟨n,h1,hc⟩:=dR hc;obtain⟨u,h2,hc⟩:=dR hc;obtain⟨x1,h3,hc⟩:=dR hc;obtain⟨y1,h4,hc⟩:=dR hc
  injection hc with hc
  subst hc;exact absurd hns (by simp[ho])
 |_=>rw[ho]at hc;simp[gt]at hc
end
inductive Loc where
 |t (i:Nat)
 |c (r o:Nat)
 |h (r o:Nat)
 |n (r:Nat)
 |v (q:Key)
 deriving DecidableEq
def Loc.hit:Loc->Loc->Bool
 |.t i,.t j=>i==j
 |.c r o,.c r' o'=>r==r'&&o==o'
 |.n r,.n r'=>r==r'
 |.n r,.c r' _=>r==r'
 |.h r o,.h r' o'=>r==r'&&o==o'
 |.n r,.h r' _=>r==r'
 |.v q,.v q'=>q==q'
 |_,_=>false
abbrev pS:=List Loc×List Loc
def hdW(r o:Nat)(t t':TV):List Loc:=if t'.hd=t.hd then[]else[.h r o]
def SP.foot{α:Type}:SP α->St->pS
 |.ret _,_=>([],[])
 |.fail,_=>([],[])
 |.rdT i k,σ=>(.t i::((k (σ.t i)).foot σ).1,((k (σ.t i)).foot σ).2)
 |.rdC r o k,σ=>(.c r o::((k (σ.c r o)).foot σ).1,((k (σ.c r o)).foot σ).2)
 |.rdH r o k,σ=>(.h r o::((k (σ.c r o).hd).foot σ).1,((k (σ.c r o).hd).foot σ).2)
 |.rdV q k,σ=>(.v q::((k (σ.v q)).foot σ).1,((k (σ.v q)).foot σ).2)
 |.wrT i t k,σ=>((k.foot { σ with tm:=fI σ.tm i t }).1,.t i::(k.foot { σ with tm:=fI σ.tm i t }).2)
 |.wrC r o t k,σ=>
  match eF σ.ce r with
  |some l=>if o<l.length then(.n r :: .h r o::(k.foot { σ with ce:=fI σ.ce r (l.set o t) }).1,.c r o::(hdW r o (σ.c r o) t++(k.foot { σ with ce:=fI σ.ce r (l.set o t) }).2))else([],[])
  |none=>([],[])
 |.new r l k,σ=>(.v (r,0,0)::(k.foot { σ with ce:=fI σ.ce r l,vr:=ox σ.vr (r,0,0) }).1,.n r :: .v (r,0,0)::(k.foot { σ with ce:=fI σ.ce r l,vr:=ox σ.vr (r,0,0) }).2)
 |.bump q k,σ=>(.v q::(k.foot { σ with vr:=ox σ.vr q }).1,.v q::(k.foot { σ with vr:=ox σ.vr q }).2)
def iF(σ σ':St):Loc->Prop
 |.t i=>eF σ.tm i=eF σ'.tm i
 |.c r o=>σ.c r o=σ'.c r o
 |.h r o=>(σ.c r o).hd=(σ'.c r o).hd
 |.n r=>(eF σ.ce r).map List.length=(eF σ'.ce r).map List.length
 |.v q=>σ.v q=σ'.v q
def LA(σ σ':St):Prop:=∀x,iF σ σ' x
theorem iF.refl(σ:St)(x:Loc):iF σ σ x:=by cases x<;>rfl
theorem iF.symm{σ σ':St}{x:Loc}(h:iF σ σ' x):iF σ' σ x:=by cases x<;>exact Eq.symm h
theorem iF.trans{σ σ' σ'':St}{x:Loc}(h:iF σ σ' x)(h':iF σ' σ'' x):iF σ σ'' x:=by cases x<;>exact Eq.trans h h'
theorem Ij{σ:St}{r o:Nat}{t:TV}{l:List TV}(h:eF σ.ce r=some l)(ho:o<l.length)(r' o':Nat):St.c { σ with ce:=fI σ.ce r (l.set o t) } r' o'=if r'=r/\o'=o then t else σ.c r' o':=by
 have:=congrFun (congrFun (wS (t:=t) h ho) r') o';exact this
theorem MS{σ:St}{r:Nat}{l l':List TV}(h:eF σ.ce r=some l)(hl:l'.length=l.length)(r':Nat):(eF (fI σ.ce r l') r').map List.length=(eF σ.ce r').map List.length:=by
 rw[eQ]
 grind
theorem FB{σ:St}{r:Nat}{l:List TV}{vr:List (Key×Nat)}(r' o':Nat):St.c { σ with ce:=fI σ.ce r l,vr:=vr } r' o'=if r'=r then l.getD o' .dead else σ.c r' o':=by
 unfold St.c;simp[eQ];by_cases e:r=r'
 ·simp_all
 ·rw[oIN e,oIN (Ne.symm e)]
theorem jn{α:Type}{s:SP α}:∀{σ:St}{a:α}{τ:St},s.run σ=some (a,τ)->∀x,(∀w∈(s.foot σ).2,w.hit x=false)->iF σ τ x:=by
 induction s with
 |ret a=>intro σ b τ h x _;simp only[SP.run,oSJ,oPJ]at h;rw[h.2];exact iF.refl _ _
 |fail=>intro σ b τ h;simp[SP.run]at h
 |rdT i k ih=>intro σ b τ h x hx;exact ih _ h x hx
 |rdC r o k ih=>intro σ b τ h x hx;exact ih _ h x hx
 |rdH r o k ih=>intro σ b τ h x hx;exact ih _ h x hx
 |rdV q k ih=>intro σ b τ h x hx;exact ih _ h x hx
 |wrT i t k ih=>
  intro σ b τ h x hx;refine iF.trans ?_ (ih h x λw hw=>hx w (by simp[SP.foot,hw]));have h1:=hx (.t i) (by simp[SP.foot])
  cases x with
  |t j=>
   simp only[Loc.hit,beq_eq_false_iff_ne,ne_eq]at h1;simp[iF,eQ,h1]
  |_=>exact rfl
 |wrC r o t k ih=>
  intro σ b τ h x hx;obtain⟨l,hl,ho,h2⟩:=ew h;simp only[SP.foot,hl,ho,if_true]at hx;refine iF.trans ?_ (ih h2 x λw hw=>hx w (by simp[hw]));have h1:=hx (.c r o) (by simp)
  cases x with
  |c r' o'=>
   simp only[Loc.hit,Bool.and_eq_false_imp,beq_iff_eq,beq_eq_false_iff_ne,ne_eq]at h1;show σ.c r' o'=_;rw[Ij hl ho,oIN];omega
  |h r' o'=>
   show(σ.c r' o').hd=TV.hd (St.c _ r' o');rw[Ij hl ho];split
   ·rename_i e;obtain⟨e1,e2⟩:=e;subst e1;subst e2;by_cases hh:t.hd=(σ.c r' o').hd
    ·exact hh.symm
    ·have:=hx (.h r' o') (by simp[hdW,hh]);simp[Loc.hit]at this
   ·rfl
  |n r'=>exact(MS hl (by simp) r').symm
  |_=>exact rfl
 |new r l k ih=>
  intro σ b τ h x hx;refine iF.trans ?_ (ih h x λw hw=>hx w (by simp[SP.foot,hw]));have h1:=hx (.n r) (by simp[SP.foot]);have h2:=hx (.v (r,0,0)) (by simp[SP.foot])
  cases x with
  |t j=>exact rfl
  |c r' o'=>
   simp only[Loc.hit,beq_eq_false_iff_ne,ne_eq]at h1;show σ.c r' o'=_;rw[FB,oIN (Ne.symm h1)]
  |h r' o'=>
   simp only[Loc.hit,beq_eq_false_iff_ne,ne_eq]at h1;show(σ.c r' o').hd=TV.hd (St.c _ r' o');rw[FB,oIN (Ne.symm h1)]
  |n r'=>
   simp only[Loc.hit,beq_eq_false_iff_ne,ne_eq]at h1;simp[iF,eQ,h1]
  |v q=>
   simp only[Loc.hit,beq_eq_false_iff_ne,ne_eq]at h2;show qo σ.vr q=qo (ox σ.vr (r,0,0)) q;rw[gc,oIN h2];rfl
 |bump q k ih=>
  intro σ b τ h x hx;refine iF.trans ?_ (ih h x λw hw=>hx w (by simp[SP.foot,hw]));have h2:=hx (.v q) (by simp[SP.foot])
  cases x with
  |v q'=>
   simp only[Loc.hit,beq_eq_false_iff_ne,ne_eq]at h2;show qo σ.vr q'=qo (ox σ.vr q) q';rw[gc,oIN h2];rfl
  |_=>exact rfl
theorem lP{α:Type}{s:SP α}:∀{σ σ':St}{a:α}{τ:St},s.run σ=some (a,τ)->(∀x∈(s.foot σ).1,iF σ σ' x)->
 s.foot σ'=s.foot σ/\∃ τ',s.run σ'=some (a,τ')/\∀x,(iF σ σ' x\/∃w∈(s.foot σ).2,w.hit x=true)->iF τ τ' x:=by
 induction s with
 |ret a=>
  intro σ σ' b τ h hr;obtain⟨rfl,rfl⟩:=h;exact⟨rfl,σ',rfl,λx hx=>hx.elim id λ⟨w,hw,_⟩=>by simp[SP.foot]at hw⟩
 |fail=>intro σ σ' b τ h;simp[SP.run]at h
 |rdT i k ih=>
  intro σ σ' b τ h hr
  have h1:σ.t i=σ'.t i:=by
   have:eF σ.tm i=eF σ'.tm i:=hr (.t i) (by simp[SP.foot]);simp[St.t,this]
  obtain⟨e,τ',h2,h3⟩:=ih _ h λx hx=>hr x (by simp[SP.foot,hx]);refine⟨by simp only[SP.foot];rw[<- h1,e],τ',by simp only[SP.run];rw[<- h1];exact h2,h3⟩
 |rdC r o k ih=>
  intro σ σ' b τ h hr;have h1:σ.c r o=σ'.c r o:=hr (.c r o) (by simp[SP.foot]);obtain⟨e,τ',h2,h3⟩:=ih _ h λx hx=>hr x (by simp[SP.foot,hx]);refine⟨by simp only[SP.foot];rw[<- h1,e],τ',by simp only[SP.run];rw[<- h1];exact h2,h3⟩
 |rdH r o k ih=>
  intro σ σ' b τ h hr;have h1:(σ.c r o).hd=(σ'.c r o).hd:=hr (.h r o) (by simp[SP.foot]);obtain⟨e,τ',h2,h3⟩:=ih _ h λx hx=>hr x (by simp[SP.foot,hx]);refine⟨by simp only[SP.foot];rw[<- h1,e],τ',by simp only[SP.run];rw[<- h1];exact h2,h3⟩
 |rdV q k ih=>
  intro σ σ' b τ h hr;have h1:σ.v q=σ'.v q:=hr (.v q) (by simp[SP.foot]);obtain⟨e,τ',h2,h3⟩:=ih _ h λx hx=>hr x (by simp[SP.foot,hx]);refine⟨by simp only[SP.foot];rw[<- h1,e],τ',by simp only[SP.run];rw[<- h1];exact h2,h3⟩
 |wrT i t k ih=>
  intro σ σ' b τ h hr
  have hal:∀x,(iF σ σ' x\/x=.t i)->iF { σ with tm:=fI σ.tm i t } { σ' with tm:=fI σ'.tm i t } x:=by
   rintro x (hx|rfl)
   ·cases x with
    |t j=>
     show eF (fI σ.tm i t) j=eF (fI σ'.tm i t) j;rw[eQ,eQ];split
     ·rfl
     ·exact hx
    |_=>exact hx
   ·show eF (fI σ.tm i t) i=eF (fI σ'.tm i t) i;rw[eQ,eQ];simp
  obtain⟨e,τ',h2,h3⟩:=ih (σ':={ σ' with tm:=fI σ'.tm i t }) h λx hx=>hal x (.inl (hr x (by simp[SP.foot,hx])));refine⟨by simp only[SP.foot];rw[e],τ',h2,λx hx=>h3 x ?_⟩;rcases hx with hx|⟨w,hw,hh⟩
  ·exact .inl (hal x (.inl hx))
  ·simp only[SP.foot,List.mem_cons]at hw;rcases hw with rfl|hw
   ·left;refine hal x (.inr ?_);cases x<;>simp[Loc.hit]at hh;rw[hh]
   ·exact .inr ⟨w,hw,hh⟩
 |wrC r o t k ih=>
  intro σ σ' b τ h hr;obtain⟨l,hl,ho,h0⟩:=ew h;simp only[SP.foot,hl,ho,if_true]at hr⊢;have hn:(eF σ.ce r).map List.length=(eF σ'.ce r).map List.length:=hr (.n r) (by simp)
  obtain⟨l',YR,U4⟩:∃l',eF σ'.ce r=some l'/\l'.length=l.length:=by
   rw[hl]at hn
   cases ha:eF σ'.ce r with
   |none=>rw[ha]at hn;simp at hn
   |some l'=>rw[ha]at hn;exact⟨l',rfl,by simpa using hn.symm⟩
  have Zm:o<l'.length:=by omega
  have hh:(σ.c r o).hd=(σ'.c r o).hd:=hr (.h r o) (by simp)
  have hW:hdW r o (σ'.c r o) t=hdW r o (σ.c r o) t:=by unfold hdW;rw[hh]
  have hal:∀x,(iF σ σ' x\/x=.c r o\/x=.h r o)->iF { σ with ce:=fI σ.ce r (l.set o t) } { σ' with ce:=fI σ'.ce r (l'.set o t) } x:=by
   rintro x (hx|rfl|rfl)
   ·cases x with
    |c r' o'=>
     show St.c _ r' o'=St.c _ r' o';rw[Ij hl ho,Ij YR Zm];split
     ·rfl
     ·exact hx
    |h r' o'=>
     show TV.hd (St.c _ r' o')=TV.hd (St.c _ r' o');rw[Ij hl ho,Ij YR Zm];split
     ·rfl
     ·exact hx
    |n r'=>
     show Option.map _ _=Option.map _ _;rw[MS hl (by simp),MS YR (by simp)];exact hx
    |_=>exact hx
   ·show St.c _ r o=St.c _ r o;rw[Ij hl ho,Ij YR Zm];simp
   ·show TV.hd (St.c _ r o)=TV.hd (St.c _ r o);rw[Ij hl ho,Ij YR Zm];simp
  obtain⟨e,τ',h2,h3⟩:=ih (σ':={ σ' with ce:=fI σ'.ce r (l'.set o t) }) h0 λx hx=>hal x (.inl (hr x (by simp[hx])));refine⟨by simp only[YR,Zm,if_true];rw[e,hW],τ',by simp only[SP.run,YR,Zm,if_true];exact h2,λx hx=>h3 x ?_⟩;rcases hx with hx|⟨w,hw,hh⟩
  ·exact .inl (hal x (.inl hx))
  ·simp only[List.mem_cons,List.mem_append]at hw;rcases hw with rfl|hw|hw
   ·left;refine hal x (.inr (.inl ?_));cases x<;>simp[Loc.hit]at hh;rw[hh.1,hh.2]
   ·left;refine hal x (.inr (.inr ?_));unfold hdW at hw;split at hw
    ·simp at hw
    ·simp only[List.mem_singleton]at hw;subst hw;cases x<;>simp[Loc.hit]at hh;rw[hh.1,hh.2]
   ·exact .inr ⟨w,hw,hh⟩
 |new r l k ih=>
  intro σ σ' b τ h hr;have hv:σ.v (r,0,0)=σ'.v (r,0,0):=hr (.v (r,0,0)) (by simp[SP.foot])
  have hal:∀x,(iF σ σ' x\/(Loc.n r).hit x=true)->iF { σ with ce:=fI σ.ce r l,vr:=ox σ.vr (r,0,0) } { σ' with ce:=fI σ'.ce r l,vr:=ox σ'.vr (r,0,0) } x:=by
   intro x hx
   cases x with
   |t j=>rcases hx with hx|hx
         ·exact hx
         ·simp[Loc.hit]at hx
   |c r' o'=>
    show St.c _ r' o'=St.c _ r' o';rw[FB,FB];split
    ·rfl
    ·rename_i e;rcases hx with hx|hx
     ·exact hx
     ·simp[Loc.hit]at hx;exact absurd hx.symm e
   |h r' o'=>
    show TV.hd (St.c _ r' o')=TV.hd (St.c _ r' o');rw[FB,FB];split
    ·rfl
    ·rename_i e;rcases hx with hx|hx
     ·exact hx
     ·simp[Loc.hit]at hx;exact absurd hx.symm e
   |n r'=>
    show Option.map _ (eF (fI _ _ _) _)=Option.map _ (eF (fI _ _ _) _);rw[eQ,eQ];split
    ·rfl
    ·rename_i e;rcases hx with hx|hx
     ·exact hx
     ·simp[Loc.hit]at hx;exact absurd hx e
   |v q=>
    show qo (ox _ _) q=qo (ox _ _) q;rw[gc,gc];rcases hx with hx|hx
    ·have hx:qo σ.vr q=qo σ'.vr q:=hx;rw[hx]
    ·simp[Loc.hit]at hx
  obtain⟨e,τ',h2,h3⟩:=ih (σ':={ σ' with ce:=fI σ'.ce r l,vr:=ox σ'.vr (r,0,0) }) h λx hx=>hal x (.inl (hr x (by simp[SP.foot,hx])));refine⟨by simp only[SP.foot];rw[e],τ',h2,λx hx=>h3 x ?_⟩;rcases hx with hx|⟨w,hw,hh⟩
  ·exact .inl (hal x (.inl hx))
  ·simp only[SP.foot,List.mem_cons]at hw;rcases hw with rfl|rfl|hw
   ·exact .inl (hal x (.inr hh))
   ·left;refine hal x (.inl ?_);cases x<;>simp[Loc.hit]at hh;rw[<- hh];exact hv
   ·exact .inr ⟨w,hw,hh⟩
 |bump q k ih=>
  intro σ σ' b τ h hr;have hv:σ.v q=σ'.v q:=hr (.v q) (by simp[SP.foot])
  have hal:∀x,iF σ σ' x->iF { σ with vr:=ox σ.vr q } { σ' with vr:=ox σ'.vr q } x:=by
   intro x hx
   cases x with
   |v q'=>
    show qo (ox _ _) q'=qo (ox _ _) q';rw[gc,gc];have hx:qo σ.vr q'=qo σ'.vr q':=hx;rw[hx]
   |_=>exact hx
  obtain⟨e,τ',h2,h3⟩:=ih (σ':={ σ' with vr:=ox σ'.vr q }) h λx hx=>hal x (hr x (by simp[SP.foot,hx]));refine⟨by simp only[SP.foot];rw[e],τ',h2,λx hx=>h3 x ?_⟩;rcases hx with hx|⟨w,hw,hh⟩
  ·exact .inl (hal x hx)
  ·simp only[SP.foot,List.mem_cons]at hw;rcases hw with rfl|hw
   ·left;refine hal x ?_;cases x<;>simp[Loc.hit]at hh;rw[<- hh];exact hv
   ·exact .inr ⟨w,hw,hh⟩
def E2(a b:List Loc):Bool:=a.any λw=>b.any λx=>w.hit x
def nS(a b:pS):Bool:=E2 a.2 b.1||E2 a.2 b.2||E2 b.2 a.1||E2 b.2 a.2
theorem pJ{a b:List Loc}(h:E2 a b=false):∀w∈a,∀x∈b,w.hit x=false:=by
 simp[E2]at h
 simp_all
theorem Jo{w w' x:Loc}(h:w.hit x=true)(h':w'.hit x=true):w.hit w'=true\/w'.hit w=true:=by
 cases x<;>cases w<;>simp[Loc.hit]at h<;>cases w'<;>simp[Loc.hit]at h'⊢<;>simp_all
theorem Ek{A B:SP Unit}{σ σ1 σ2:St}(hA:A.run σ=some ((),σ1))(hB:B.run σ1=some ((),σ2))(hc:nS (A.foot σ) (B.foot σ1)=false):
 ∃ σ1' σ2',B.run σ=some ((),σ1')/\A.run σ1'=some ((),σ2')/\LA σ2 σ2'/\B.foot σ=B.foot σ1/\A.foot σ1'=A.foot σ:=by
 simp only[nS,Bool.or_eq_false_iff]at hc;obtain⟨⟨⟨c1,c2⟩,c3⟩,c4⟩:=hc;have hR:=λx hx=>(jn hA x λw hw=>pJ c1 w hw x hx).symm;obtain⟨e1,σ1',P0,Ob⟩:=lP hB hR;have Xz:∀x,(∀w∈(B.foot σ1).2,w.hit x=false)->iF σ σ1' x:=λx hx=>jn P0 x (by simp_all);have Q9:=λx hx=>Xz x λw hw=>pJ c3 w hw x hx;obtain⟨e2,σ2',PZ,Oa⟩:=lP hA Q9;refine⟨σ1',σ2',P0,PZ,λx=>?_,e1,e2⟩;by_cases hx:∃w∈(B.foot σ1).2,w.hit x=true
 ·obtain⟨w,hw,hh⟩:=hx;refine iF.trans (Ob x (.inr ⟨w,hw,hh⟩)) (jn PZ x λw' WS=>?_);rw[e2]at WS
  cases hh':w'.hit x with
  |false=>rfl
  |true=>
   rcases Jo hh hh' with h|h
   ·rw[pJ c4 w hw w' WS]at h;simp at h
   ·rw[pJ c2 w' WS w hw]at h;simp at h
 ·have Wg:∀w∈(B.foot σ1).2,w.hit x=false:=λw hw=>by
   simp_all
  refine iF.trans (jn hB x Wg).symm (Oa x ?_)
  simp_all
theorem vQ{α:Type}{s:SP α}{σ σ':St}{a:α}{τ:St}(h:s.run σ=some (a,τ))(hs:LA σ σ'):s.foot σ'=s.foot σ/\∃ τ',s.run σ'=some (a,τ')/\LA τ τ':=by
 have ⟨e,τ',h1,h2⟩:=lP h λx _=>hs x;exact⟨e,τ',h1,λx=>h2 x (.inl (hs x))⟩
def pT(pg:Nat->SP Unit):List Nat->St->Option (List (Nat×pS)×St)
 | [],σ=>some ([],σ)
 |i::r,σ=>((pg i).run σ).bind λx=>(pT pg r x.2).bind λy=>some ((i,(pg i).foot σ)::y.1,y.2)
theorem EG{pg:Nat->SP Unit}:∀{L:List Nat}{σ σ':St}{fs:List (Nat×pS)}{τ:St},pT pg L σ=some (fs,τ)->LA σ σ'->∃ τ',pT pg L σ'=some (fs,τ')/\LA τ τ':=by
 intro L
 induction L with
 |nil=>
  intro σ σ' fs τ h hs;obtain⟨rfl,rfl⟩:=h;exact⟨σ',rfl,hs⟩
 |cons i L ih=>
  intro σ σ' fs τ h hs;have ⟨⟨u,σ1⟩,h1,h2⟩:=dR h;have ⟨⟨Q5,τ0⟩,h3,h4⟩:=dR h2
  injection h4 with h4
  injection h4 with h4 h5
  subst h5;have ⟨e,σ1',k1,k2⟩:=vQ h1 hs;have ⟨τ',k3,k4⟩:=ih h3 k2;exact⟨τ',by simp[pT,k1,k3,e];rw[h4],k4⟩
theorem B2{pg:Nat->SP Unit}{i:Nat}{post:List Nat}:∀{pre:List Nat}{σ:St}{fs:List (Nat×pS)}{τ:St},pT pg (pre++i::post) σ=some (fs,τ)->
 (∀Yg F Xi,fs=Yg++(i,F)::Xi->Yg.map (·.1)=pre->∀y∈Yg,nS y.2 F=false)->
 ∃ σ' τ' Yg F Xi,fs=Yg++(i,F)::Xi/\Yg.map (·.1)=pre/\(pg i).run σ=some ((),σ')/\(pg i).foot σ=F/\pT pg (pre++post) σ'=some (Yg++Xi,τ')/\LA τ τ':=by
 intro pre
 induction pre with
 |nil=>
  intro σ fs τ h _;obtain⟨⟨u,σ1⟩,h1,h2⟩:=dR h;obtain⟨⟨Q5,τ0⟩,h3,h4⟩:=dR h2
  injection h4 with h4
  injection h4 with h4 h5
  subst h5;exact⟨σ1,τ0,[],_,Q5,h4.symm,rfl,h1,rfl,h3,λx=>iF.refl _ _⟩
 |cons j pre ih=>
  intro σ fs τ h hc;obtain⟨⟨u,σ1⟩,h1,h2⟩:=dR h;obtain⟨⟨Q5,τ0⟩,h3,h4⟩:=dR h2
  injection h4 with h4
  injection h4 with h4 h5
  subst h5;obtain⟨σ2,τ',Yg,F,Xi,e1,e2,k1,k2,k3,k4⟩:=ih h3 λYg F Xi e e' y hy=>hc ((j,(pg j).foot σ)::Yg) F Xi (by rw[<- h4,e];rfl) (by simp[e']) y (by simp[hy])
  have Ze:nS ((pg j).foot σ) ((pg i).foot σ1)=false:=by
   rw[k2];exact hc ((j,(pg j).foot σ)::Yg) F Xi (by rw[<- h4,e1];rfl) (by simp[e2]) (j,(pg j).foot σ) (by simp)
  obtain⟨σ1',σ2',m1,m2,m3,m4,m5⟩:=Ek h1 k1 Ze;obtain⟨τ2,n1,n2⟩:=EG k3 m3;refine⟨σ1',τ2,(j,(pg j).foot σ)::Yg,F,Xi,by rw[<- h4,e1];rfl,by simp[e2],m1,m4.trans k2,?_,λx=>(k4 x).trans (n2 x)⟩;simp only[List.cons_append,pT,m2,oBS,n1,m5]
def iC(deps:List (List Nat)):List (Nat×pS)->Bool
 | []=>true
 |(j,F)::r=>(r.all λy=>!nS F y.2||(deps.getD y.1 []).contains j)&&iC deps r
structure iE where
 dst:Option Nat
 guard:Option (Nat×Bool)
 op:TOp
inductive j5 where
 |skip
 |nrm (pers:List Nat×List Nat)
 |reg (id:Nat) (draw:Option (List (List Nat))) (ops:List iE) (pers:List Nat×List Nat)
 |seq (a b:j5)
 |cond (c:Opd) (a b:j5)
 |block (id:Nat) (b:j5)
 |loop (b:j5)
 |exit (id:Nat)
 |ret
 |pre (l:List (Nat×Option Nat)) (a:j5)
 |post (a:j5) (l:List (Nat×Option Nat))
inductive j4 where
 |normal
 |exit (id:Nat)
 |ret
def renorm0(L:List Nat)(σ:St):TV->TV
 |.ptr p vs=>if L.contains p.root&&vs==jp σ.v p.root p.off p.hops.length then .ptr p (jp (λ_=>0) p.root p.off p.hops.length)else .dead
 |.pk p vs=>if L.contains p.root&&vs==jp σ.v p.root p.off (p.hops.length+1)then .pk p (jp (λ_=>0) p.root p.off (p.hops.length+1))else .dead
 |.pw p vs sz lo n=>if L.contains p.root&&vs==jp σ.v p.root p.off (p.hops.length+1)then .pw p (jp (λ_=>0) p.root p.off (p.hops.length+1)) sz lo n else .dead
 |.v x=>.v x
 |.sl c=>.sl c
 |.ip cs=>.ip cs
 |.ow []=>.ow []
 |.tup []=>.tup []
 |_=>.dead
def renorm(L:List Nat)(σ:St):TV->TV
 |.agg l=>.agg (l.map (renorm0 L σ))
 |.fn f l=>.fn f (l.map (renorm0 L σ))
 |t=>renorm0 L σ t
def normT(L:List Nat)(σ:St):List Nat->List (Nat×TV)
 | []=>[]
 |i::r=>match eF σ.tm i with|some t=>(i,renorm L σ t)::normT L σ r|none=>normT L σ r
def normC(σ:St):List Nat->List (Nat×List TV)
 | []=>[]
 |r::l=>match eF σ.ce r with|some c=>(r,c)::normC σ l|none=>normC σ l
abbrev Prs:=List Nat×List Nat
def St.norm(σ:St)(pers:Prs):St:=⟨normT pers.2 σ pers.1,normC σ pers.2,[]⟩
def evop(call:Option Nat->TOp->SP Unit)(dst:Option Nat)(op:TOp):SP Unit:=
 match op with
 |.call k f args=>call dst (.call k f args)
 |.store n mv a x=>match dst with|none=>ev1 0 (.store n mv a x)|some _=>.fail
 |op=>match dst with|some d=>ev1 d op|none=>.fail
def xT(call:Option Nat->TOp->SP Unit)(o:iE)(σ:St):Option St:=
 match o.guard with
 |none=>((evop call o.dst o.op).run σ).map (·.2)
 |some (j,want)=>
  match σ.t j with
  |.v (.bool b)=>if b=want then((evop call o.dst o.op).run σ).map (·.2)else match o.dst with|some d=>some { σ with tm:=fI σ.tm d (.tup []) } |none=>some σ
  |.tup []=>match o.dst with|some d=>some { σ with tm:=fI σ.tm d (.tup []) } |none=>some σ
  |_=>none
def qP(call:Option Nat->TOp->SP Unit):List iE->St->Option St
 | [],σ=>some σ
 |o::r,σ=>(xT call o σ).bind (qP call r)
def setNo(dst:Option Nat):SP Unit:=match dst with|some d=>.wrT d (.tup []) (.ret ())|none=>.ret ()
def spOp(call:Option Nat->TOp->SP Unit)(o:iE):SP Unit:=
 match o.guard with
 |none=>evop call o.dst o.op
 |some (j,want)=>.rdT j λt=>match t with
  |.v (.bool b)=>if b=want then evop call o.dst o.op else setNo o.dst
  |.tup []=>setNo o.dst
  |_=>.fail
def BN:iE:=⟨none,none,.lens (.t 0)⟩
theorem Dl{call:Option Nat->TOp->SP Unit}{o:iE}{σ σ':St}(h:(spOp call o).run σ=some ((),σ')):xT call o σ=some σ':=by
 have YO:∀{σ'},(setNo o.dst).run σ=some ((),σ')->(match o.dst with|some d=>some { σ with tm:=fI σ.tm d (.tup []) } |none=>some σ)=some σ':=by
  intro σ' h;unfold setNo at h
  cases hd:o.dst with
  |none=>rw[hd]at h;simp only[SP.run,oSJ,oPJ,true_and]at h;simp[h]
  |some d=>rw[hd]at h;simp only[SP.run,oSJ,oPJ,true_and]at h;simp[h]
 unfold spOp at h;unfold xT
 cases hg:o.guard with
 |none=>simp_all
 |some g=>
  rw[hg]at h;simp[SP.run]at h⊢;split at h
  ·grind
  ·simp_all
  ·simp[SP.run]at h
def K9(f:St->Option (j4×St)):Nat->St->Option (j4×St)
 |0,_=>none
 |n+1,σ=>(f σ).bind λx=>match x.1 with|.normal=>K9 f n x.2|e=>some (e,x.2)
def shr1(x:Nat×Option Nat):SP Unit:=.rdT x.1 λt=>match x.2,t with
 |none,.pk p vs=>(take1 false (.pk p vs)).bind λt'=>.wrT x.1 t'.imm (.ret ())
 |some off,.ptr p vs=>(chk p p.hops.length vs).bind λ_=>if p.fits off then(getPl (p.add off)).bind λt=>match t with
  |.ow c=>(peek1 (p.add off) (.ow c)).bind λt'=>(take1 false t').bind λ_=>.ret ()
  |_=>.ret ()
  else .fail
 |_,_=>.ret ()
def shrs:List (Nat×Option Nat)->SP Unit
 | []=>.ret ()
 |x::r=>(shr1 x).bind λ_=>shrs r
def St.anew(σ:St):St:=σ.norm (σ.tm.map (·.1),σ.ce.map (·.1))
def runC(call:Option Nat->TOp->SP Unit)(N:Nat):j5->St->Option (j4×St)
 |.skip,σ=>some (.normal,σ)
 |.nrm pers,σ=>some (.normal,σ.norm pers)
 |.reg _ draw ops pers,σ=>
  match draw with
  |none=>(qP call ops σ).map fun σ'=>(.normal,σ'.norm pers)
  |some deps=>(pT (λi=>spOp call (ops.getD i BN)) (List.range ops.length) σ).bind λx=>if iC deps x.1 then some (.normal,x.2.norm pers)else none
 |.seq a b,σ=>(runC call N a σ).bind λx=>match x.1 with|.normal=>runC call N b x.2|e=>some (e,x.2)
 |.cond c a b,σ=>((opd c).run σ).bind λx=>match x.1 with|.v (.bool true)=>runC call N a σ |.v (.bool false)=>runC call N b σ |_=>none
 |.block id b,σ=>(runC call N b σ).bind λx=>match x.1 with|.exit i=>if i=id then some (.normal,x.2)else some (.exit i,x.2)|e=>some (e,x.2)
 |.loop b,σ=>K9 (runC call N b) N σ
 |.exit id,σ=>some (.exit id,σ)
 |.ret,σ=>some (.ret,σ)
 |.pre l a,σ=>((shrs l).run σ).bind λx=>runC call N a x.2.anew
 |.post a l,σ=>(runC call N a σ).bind λx=>((shrs l).run x.2).bind λy=>some (x.1,y.2.anew)
section norm
variable {M:Fm} {σ σ':St} {ts:Array Value} {w:World} {G:Gh}
theorem FC(L:List Nat)(σ:St)(l:List Nat)(i:Nat):eF (normT L σ l) i=if i∈l then(eF σ.tm i).map (renorm L σ)else none:=by
 induction l with
 |nil=>simp[normT,eF]
 |cons j r ih=>
  simp[normT];by_cases hj:j=i
  ·subst hj
   cases h:eF σ.tm j with
   |none=>simp_all
   |some t=>simp[eF]
  ·cases h:eF σ.tm j with
   |none=>simp[ih,Ne.symm hj]
   |some t=>simp[eF,hj,ih,Ne.symm hj]
theorem su(σ:St)(l:List Nat)(r:Nat):eF (normC σ l) r=if r∈l then eF σ.ce r else none:=by
 induction l with
 |nil=>simp[normC,eF]
 |cons j l ih=>
  simp[normC];by_cases hj:j=r
  ·subst hj
   cases h:eF σ.ce j with
   |none=>simp_all
   |some t=>simp[eF]
  ·cases h:eF σ.ce j with
   |none=>simp[ih,Ne.symm hj]
   |some t=>simp[eF,hj,ih,Ne.symm hj]
theorem Inv.norm(hI:Inv M σ [] [] ts w G)(pers:Prs):∃G',Inv M (σ.norm pers) [] [] ts w G':=by
 obtain⟨L,hL⟩:∃L,L=pers.2:=⟨_,rfl⟩
 have hc:∀r o,(σ.norm pers).c r o=if r∈L then σ.c r o else .dead:=by
  intro r o;unfold St.c St.norm;simp only[<- hL,su];by_cases h:r∈L<;>simp[h]
 have hE:∀r o,eE M (σ.norm pers) [] r o=if r∈L then eE M σ [] r o else .dead:=by
  intro r o;unfold eE;by_cases h:r=M.hr
  ·simp[h]
  ·simp only[oIN h,hc]
 let G':Gh:=⟨G.β,G.η,λr o k=>if r∈L then G.φ r o k else False⟩
 have Z9:∀r o k,G'.φ r o k->G.φ r o k:=by
  intro r o k hk;simp only[G']at hk
  simp_all
 have Yk:=kH.ghost (C':=eE M (σ.norm pers) []) (G':=G') hI.core rfl (λk ⟨r,o,h⟩=>⟨r,o,Z9 r o k h⟩) (λr1 o1 r2 o2 k h1 h2=>hI.core.dis _ _ _ _ k (Z9 _ _ k h1) (Z9 _ _ k h2))
  (λr b o0 n hb o ho=>by
   rw[hE];split
   ·exact hI.core.boxc r b o0 n hb o ho
   ·rfl)
  (λr o=>by
   by_cases h:r∈L
   ·left;exact⟨by rw[hE,oIP h],λk=>by simp[G',h],rfl⟩
   ·right;left;exact⟨by rw[hE,oIN h],λk hk=>by simp[G',h]at hk⟩)
 have Yr:(σ.norm pers).v=λ_=>0:=by funext q;rfl
 have U':∀{t:TV}{x:Value},TmR w (G.F M.A) σ.v (eE M σ []) G t x->TmR w (G'.F M.A) (σ.norm pers).v (eE M (σ.norm pers) []) G' (renorm0 L σ t) x:=by
  intro t x h;rw[Yr]
  cases h with
  |v h=>exact .v h
  |nil=>exact .nil
  |sl h=>exact .sl (h.frame (λ_ _ _=>rfl) λk hk _=>Yk.2 k hk)
  |dead=>exact .dead
  | @ptr p vs x V0 h0 hv hok=>
   simp only[renorm0];split
   ·rename_i hc;simp only[oBA,List.contains_iff_mem,beq_iff_eq]at hc;refine .ptr (λ_=>0) (λ_=>Nat.le_refl _) rfl λ_=>?_;obtain⟨h1,ad,t,h2,h3,h4⟩:=hok hc.2;exact⟨h1,ad,t,lK h2 rfl λ_=>rfl,h3,by rw[hE,oIP hc.1];exact h4⟩
   ·exact .dead
  |ip u Ze hr=>exact .ip u (λj hj=>⟨Yk.2 _ (Ze j hj).1,(Ze j hj).2⟩) λj hj=>(hr j hj).frame (λ_ _ _=>rfl) λk hk _=>Yk.2 k hk
  | @pk p vs x V0 h0 hv hok=>
   simp only[renorm0];split
   ·rename_i hc;simp only[oBA,List.contains_iff_mem,beq_iff_eq]at hc;refine .pk (λ_=>0) (λ_=>Nat.le_refl _) rfl λ_=>?_;obtain⟨h1,c,h2,h3⟩:=hok hc.2;exact⟨h1,c,h2,by rw[hE,oIP hc.1];exact h3⟩
   ·exact .dead
  | @pw p vs sz lo n x V0 h0 hv hok=>
   simp only[renorm0];split
   ·rename_i hc;simp at hc;refine .pw (λ_=>0) (λ_=>Nat.le_refl _) rfl λ_=>?_;obtain⟨h1,c,hd,h2,h3,h4⟩:=hok hc.2;exact⟨h1,c,hd,h2,by rw[hE,oIP hc.1];exact h3,h4⟩
   ·exact .dead
  |agg hl h=>exact .dead
  | @tup l xs hl h=>
   cases l with
   |nil=>exact .tup hl λj hj=>by simp at hj
   |cons=>exact .dead
  |fn hl h=>exact .dead
 have R0:∀{t:TV}{x:Value},TmR w (G.F M.A) σ.v (eE M σ []) G t x->TmR w (G'.F M.A) (σ.norm pers).v (eE M (σ.norm pers) []) G' (renorm L σ t) x:=by
  intro t x h;have h0:=U' h
  cases h with
  | @agg l xs hl h=>exact .agg (by simpa using hl) λj hj=>by simpa using U' (h j (by simpa using hj))
  | @fn f l xs hl h=>exact .fn (by simpa using hl) λj hj=>by simpa using U' (h j (by simpa using hj))
  |_=>exact h0
 refine⟨G',Yk.1,λi=>?_,hI.fram.ghost rfl (λk ⟨r,o,h⟩=>⟨r,o,Z9 r o k h⟩),λr l h=>?_,hI.size,rfl,λj hj=>by simp at hj,λr b o n hb l h=>?_⟩
 ·have e:(σ.norm pers).t i=if i∈pers.1 then(match eF σ.tm i with|some t=>renorm L σ t|none=>.dead)else .dead:=by
   unfold St.t St.norm;simp only[<- hL,FC];by_cases h:i∈pers.1
   ·simp only[h,if_true];cases eF σ.tm i<;>rfl
   ·simp[h]
  rw[e];split
  ·cases ha:eF σ.tm i with
   |none=>exact .dead
   |some t=>
    have:=hI.tmr i
    have et:σ.t i=t:=by simp[St.t,ha]
    rw[et]at this;exact R0 this
  ·exact .dead
 ·have:eF (normC σ L) r=some l:=by rw[hL];exact h
  rw[su]at this;split at this
  ·exact hI.keys r l this
  ·simp at this
 ·have:eF (normC σ L) r=some l:=by rw[hL];exact h
  rw[su]at this;split at this
  ·exact hI.shape r b o n hb l this
  ·simp at this
end norm
def LH(P:Program)(M:Fm)(σ':St)(a:Act)(o:Oper)(w:World):Prop:=
 ∀(K:Act->World->Prop)(Q:Exit->Act->World->Prop),(∀a' w' G',Inv M σ' [] [] a'.tmps w' G'->a'.defers=a.defers->K a' w')->o.wp P a w K Q
theorem na(a:Act)(d:Option Tmp)(v:Value):(a.put d v).defers=a.defers:=by cases d<;>rfl
theorem mh.simO{P:Program}{M:Fm}{σ':St}{a:Act}{o:Oper}{w:World}(h:mh P M σ' a o w):LH P M σ' a o w:=by
 have ⟨nx,x,w',G',hrun,Xc,hI⟩:=h;intro K Q hK;unfold Oper.wp;rw[hrun];rcases Xc with rfl|⟨rfl,rfl⟩
 all_goals exact hK _ w' G' hI (na _ _ _)
structure tE (P:Program)(M:Fm)(isCall:Op->TOp->Prop)(ops:Array Oper)(o:Oper)(t:iE):Prop where
 dst:t.dst=o.dst
 lt:∀d,o.dst=some d->d<M.N/\M.pr (2*d+2)=none
 guard:(o.guard=none/\t.guard=none)\/∃j want dj,o.guard=some (j,want)/\t.guard=some (dj,want)/\(ops[j]?).bind (·.dst)=some dj
 op:(∃mv,gt P mv o.op=some t.op)\/isCall o.op t.op
def vN(P:Program)(M:Fm)(isCall:Op->TOp->Prop)(call:Option Nat->TOp->SP Unit):Prop:=
 ∀(o:Oper)(t:TOp)(σ σ':St)(a:Act)(w:World)(G:Gh),isCall o.op t->(∀d,o.dst=some d->d<M.N/\M.pr (2*d+2)=none)->Inv M σ [] [] a.tmps w G->(evop call o.dst t).run σ=some ((),σ')->LH P M σ' a o w
section
variable {P:Program} {M:Fm} {σ σ':St} {w:World} {G:Gh} {a:Act} {o:Oper} {isCall:Op->TOp->Prop} {call:Option Nat->TOp->SP Unit} {ops:Array Oper}
theorem CZ{mv:Nat}{op:Op}{t:TOp}(h:gt P mv op=some t):∀k f args,t≠.call k f args:=by
 rintro k f args rfl;cases op<;>simp only[gt]at h
 case move x=>split at h<;>first|(simp at h;done)|(obtain⟨_,_,h⟩:=ig h;simp at h)
 case assign x=>split at h<;>(obtain⟨_,_,h⟩:=ig h;simp at h)
 case pick=>obtain⟨_,_,h⟩:=dR h;obtain⟨_,_,h⟩:=dR h;obtain⟨_,_,h⟩:=dR h;simp at h
 case alloc=>obtain⟨_,_,h⟩:=ig h;simp at h
 case box=>obtain⟨_,_,h⟩:=dR h;obtain⟨_,_,h⟩:=dR h;unfold MG at h;split at h<;>simp at h
 case build=>(repeat' split at h)<;>first|(simp at h;done)|(obtain⟨_,_,h⟩:=dR h;obtain⟨_,_,h⟩:=dR h;simp at h)|(obtain⟨_,_,h⟩:=dR h;simp at h)
 case buildSlice=>(repeat' split at h)<;>first|(simp at h;done)|(obtain⟨_,_,h⟩:=dR h;obtain⟨_,_,h⟩:=dR h;simp at h)
 case load=>obtain⟨_,_,h⟩:=dR h;obtain⟨_,_,h⟩:=dR h;simp at h
 case store=>obtain⟨_,_,h⟩:=dR h;obtain⟨_,_,h⟩:=dR h;obtain⟨_,_,h⟩:=dR h;obtain⟨_,_,h⟩:=dR h;simp at h
 case nilCheck=>obtain⟨_,_,h⟩:=ig h;simp at h
 case binOp=>(repeat' split at h)<;>first|(simp at h;done)|(obtain⟨_,_,h⟩:=dR h;obtain⟨_,_,h⟩:=dR h;simp at h)
 case unOp=>obtain⟨_,_,h⟩:=ig h;simp at h
 case convert=>(repeat' split at h)<;>first|(simp at h;done)|(obtain⟨_,_,h⟩:=ig h;simp at h)
 case makeFunc=>split at h<;>first|(simp at h;done)|(obtain⟨_,_,h⟩:=dR h;obtain⟨_,_,h⟩:=dR h;simp at h)
 case makeSlice=>(repeat' split at h)<;>first|(simp at h;done)|(obtain⟨_,_,h⟩:=dR h;obtain⟨_,_,h⟩:=dR h;obtain⟨_,_,h⟩:=dR h;simp at h)
 case slice=>(repeat' split at h)<;>first|(simp at h;done)|(obtain⟨_,_,h⟩:=dR h;obtain⟨_,_,h⟩:=dR h;obtain⟨_,_,h⟩:=dR h;simp at h;done)|(obtain⟨_,_,h⟩:=dR h;obtain⟨_,_,h⟩:=dR h;obtain⟨_,_,h⟩:=dR h;obtain⟨_,_,h⟩:=dR h;simp at h)
 case fieldAddr=>(repeat' split at h)<;>first|(simp at h;done)|(obtain⟨_,_,h⟩:=ig h;simp at h)
 case field=>(repeat' split at h)<;>first|(simp at h;done)|(obtain⟨_,_,h⟩:=dR h;obtain⟨_,_,h⟩:=dR h;simp at h)
 case indexAddr=>(repeat' split at h)<;>first|(simp at h;done)|(obtain⟨_,_,h⟩:=dR h;obtain⟨_,_,h⟩:=dR h;obtain⟨_,_,h⟩:=dR h;simp at h)
 case index=>(repeat' split at h)<;>first|(simp at h;done)|(obtain⟨_,_,h⟩:=dR h;obtain⟨_,_,h⟩:=dR h;simp at h)
 case extract=>simp_all
 case call=>(repeat' split at h)<;>first|(simp at h;done)|(obtain⟨_,_,h⟩:=dR h;obtain⟨_,_,h⟩:=dR h;obtain⟨_,_,h⟩:=dR h;simp at h)|(obtain⟨_,_,h⟩:=ig h;simp at h)
 all_goals simp at h
theorem Dt(hI:Inv M σ [] [] a.tmps w G){t:iE}(hok:tE P M isCall ops o t)(hcall:vN P M isCall call)(hr:(evop call t.dst t.op).run σ=some ((),σ')):LH P M σ' a o w:=by
 rcases hok.op with⟨mv,hc⟩|hc
 ·have RP:=CZ hc;by_cases hst:∃ty x y,o.op=.store ty x y
  ·obtain⟨ty,x,y,ho⟩:=hst;rw[ho]at hc;simp only[gt]at hc;obtain⟨n,h1,hc⟩:=dR hc;obtain⟨u,h2,hc⟩:=dR hc;obtain⟨x1,h3,hc⟩:=dR hc;obtain⟨y1,h4,hc⟩:=dR hc
   injection hc with hc
   rw[<- hc]at hr;simp only[evop]at hr
   cases hd:t.dst with
   |some d=>simp[hd,SP.run]at hr
   |none=>
    simp only[hd]at hr;have hg:=ng h2;exact(FZ hI (d:=0) (by rw[<- hok.dst,hd]) h3 h4 ho h1 (by simpa using hg) hr).simO
  ·cases hd:t.dst with
   |none=>
    exfalso;rw[hd]at hr
    cases ht:t.op<;>rw[ht]at hr<;>simp only[evop,SP.run]at hr<;>first|(simp at hr;done)|skip
    ·rename_i n QF a' x';rw[ht]at hc;cases ho:o.op<;>rw[ho]at hc hst<;>simp only[gt]at hc
     case store=>exact hst ⟨_,_,_,rfl⟩
     case move x=>split at hc<;>first|(simp at hc;done)|(obtain⟨_,_,h⟩:=ig hc;simp at h)
     case assign x=>split at hc<;>(obtain⟨_,_,h⟩:=ig hc;simp at h)
     case pick=>obtain⟨_,_,h⟩:=dR hc;obtain⟨_,_,h⟩:=dR h;obtain⟨_,_,h⟩:=dR h;simp at h
     case alloc=>obtain⟨_,_,h⟩:=ig hc;simp at h
     case box=>obtain⟨_,_,h⟩:=dR hc;obtain⟨_,_,h⟩:=dR h;unfold MG at h;split at h<;>simp at h
     case build=>(repeat' split at hc)<;>first|(simp at hc;done)|(obtain⟨_,_,h⟩:=dR hc;obtain⟨_,_,h⟩:=dR h;simp at h)|(obtain⟨_,_,h⟩:=dR hc;simp at h)
     case buildSlice=>(repeat' split at hc)<;>first|(simp at hc;done)|(obtain⟨_,_,h⟩:=dR hc;obtain⟨_,_,h⟩:=dR h;simp at h)
     case load=>obtain⟨_,_,h⟩:=dR hc;obtain⟨_,_,h⟩:=dR h;simp at h
     case nilCheck=>obtain⟨_,_,h⟩:=ig hc;simp at h
     case binOp=>(repeat' split at hc)<;>first|(simp at hc;done)|(obtain⟨_,_,h⟩:=dR hc;obtain⟨_,_,h⟩:=dR h;simp at h)
     case unOp=>obtain⟨_,_,h⟩:=ig hc;simp at h
     case convert=>(repeat' split at hc)<;>first|(simp at hc;done)|(obtain⟨_,_,h⟩:=ig hc;simp at h)
     case makeFunc=>split at hc<;>first|(simp at hc;done)|(obtain⟨_,_,h⟩:=dR hc;obtain⟨_,_,h⟩:=dR h;simp at h)
     case makeSlice=>(repeat' split at hc)<;>first|(simp at hc;done)|(obtain⟨_,_,h⟩:=dR hc;obtain⟨_,_,h⟩:=dR h;obtain⟨_,_,h⟩:=dR h;simp at h)
     case slice=>(repeat' split at hc)<;>first|(simp at hc;done)|(obtain⟨_,_,h⟩:=dR hc;obtain⟨_,_,h⟩:=dR h;obtain⟨_,_,h⟩:=dR h;simp at h;done)|(obtain⟨_,_,h⟩:=dR hc;obtain⟨_,_,h⟩:=dR h;obtain⟨_,_,h⟩:=dR h;obtain⟨_,_,h⟩:=dR h;simp at h)
     case fieldAddr=>(repeat' split at hc)<;>first|(simp at hc;done)|(obtain⟨_,_,h⟩:=ig hc;simp at h)
     case field=>(repeat' split at hc)<;>first|(simp at hc;done)|(obtain⟨_,_,h⟩:=dR hc;obtain⟨_,_,h⟩:=dR h;simp at h)
     case indexAddr=>(repeat' split at hc)<;>first|(simp at hc;done)|(obtain⟨_,_,h⟩:=dR hc;obtain⟨_,_,h⟩:=dR h;obtain⟨_,_,h⟩:=dR h;simp at h)
     case index=>(repeat' split at hc)<;>first|(simp at hc;done)|(obtain⟨_,_,h⟩:=dR hc;obtain⟨_,_,h⟩:=dR h;simp at h)
     case extract=>obtain⟨_,_,h⟩:=ig hc;simp at h
     case call=>(repeat' split at hc)<;>first|(simp at hc;done)|(obtain⟨_,_,h⟩:=dR hc;obtain⟨_,_,h⟩:=dR h;obtain⟨_,_,h⟩:=dR h;simp at h)|(obtain⟨_,_,h⟩:=ig hc;simp at h)
     all_goals simp at hc
    ·exact absurd ht (RP _ _ _)
   |some d=>
    have Vv:o.dst=some d:=by rw[<- hok.dst,hd]
    obtain⟨h1,h2⟩:=hok.lt d Vv
    have XR:(ev1 d t.op).run σ=some ((),σ'):=by
     rw[hd]at hr
     cases ht:t.op<;>rw[ht]at hr<;>simp only[evop]at hr<;>first|exact hr|(simp[SP.run]at hr;done)|exact absurd ht (RP _ _ _)
    exact(Kr hI Vv h1 h2 hc XR hst).simO
 ·exact hcall o t.op σ σ' a w G hc hok.lt hI (by rw[<- hok.dst];exact hr)
theorem zP{F:Nat->Prop}{V:Vs}{C:Cs}:TmR w F V C G (.tup []) undef:=.tup (by simp) λj hj=>by simp at hj
theorem Kq{tops:List iE}(hlen:tops.length=ops.size)(hok:∀i (h:i<ops.size)(h':i<tops.length),tE P M isCall ops ops[i] tops[i])(hcall:vN P M isCall call){Q:Exit->Act->World->Prop}:
 ∀(L:List Nat)(σ:St)(a:Act)(w:World)(G:Gh),(∀i∈L,i<ops.size)->Inv M σ [] [] a.tmps w G->qP call (L.map λi=>tops.getD i ⟨none,none,.lens (.t 0)⟩) σ=some σ' ->
  (∀a' w' G',Inv M σ' [] [] a'.tmps w' G'->a'.defers=a.defers->Q .normal a' w')->wpOps P ops Q L a w:=by
 intro L
 induction L with
 |nil=>
  intro σ a w G _ hI hr hQ;simp only[List.map_nil,qP,oSJ]at hr;subst hr;exact hQ a w G hI rfl
 |cons i L ih=>
  intro σ a w G hL hI hr hQ;have hi:i<ops.size:=hL i (by simp)
  have Zl:i<tops.length:=by omega
  simp only[List.map_cons,qP]at hr
  have e:tops.getD i ⟨none,none,.lens (.t 0)⟩=tops[i]:=by simp[Zl]
  rw[e]at hr
  cases hro:xT call tops[i] σ with
  |none=>simp[hro]at hr
  |some σ1=>
   simp only[hro,oBS]at hr;have hop:=hok i hi Zl;simp only[wpOps,Array.getElem?_eq_getElem hi]
   have go:(evop call tops[i].dst tops[i].op).run σ=some ((),σ1)->ops[i].wp P a w (wpOps P ops Q L) Q:=λh=>by
    refine Dt hI hop hcall h _ _ λa' w' G' ZF hd=>?_;exact ih σ1 a' w' G' (λj hj=>hL j (by simp[hj])) ZF hr (λa2 w2 G2 h2 hd2=>hQ a2 w2 G2 h2 (hd2.trans hd))
   have skip:(match tops[i].dst with|some d=>some { σ with tm:=fI σ.tm d (.tup []) } |none=>some σ)=some σ1->wpOps P ops Q L (a.put ops[i].dst undef) w:=λh=>by
    rw[hop.dst]at h
    cases hd:ops[i].dst with
    |none=>
     rw[hd]at h
     injection h with h
     subst h;exact ih σ a w G (λj hj=>hL j (by simp[hj])) hI hr hQ
    |some d=>
     rw[hd]at h
     injection h with h
     subst h;exact ih _ (a.put (some d) undef) w G (λj hj=>hL j (by simp[hj])) (hI.wrT (hop.lt d hd).1 zP) hr (λa2 w2 G2 h2 hd2=>hQ a2 w2 G2 h2 hd2)
   unfold xT at hro
   rcases hop.guard with⟨g1,g2⟩|⟨j,want,dj,g1,g2,g3⟩
   ·rw[oIP (by simp[Region.wanted,g1])];left;simp only[g2]at hro;obtain⟨⟨u,σ2⟩,h1,h2⟩:=ig hro;exact go (by rw[h1];simp only at h2;rw[h2])
   ·simp only[g2]at hro
    have hy:yielded ops a.tmps j=match(a.tmps[dj]?:Option Value)with|some (.bool b)=>some b|_=>none:=by
     unfold yielded;rw[g3];rfl
    have Zn:=hI.tmr dj
    cases hs:σ.t dj with
    |v x=>
     rw[hs]at Zn hro;obtain⟨hx,_⟩:=Zn.v_inv
     cases x with
     |bool b=>
      have Z5:a.tmps[dj]?=some (.bool b):=by
       rw[Array.getD_eq_getD_getElem?]at hx
       cases hq:a.tmps[dj]? with
       |none=>rw[hq]at hx;simp[undef]at hx
       |some v=>rw[hq]at hx;simp at hx;rw[hx]
      have WV:yielded ops a.tmps j=some b:=by rw[hy,Z5]
      simp only at hro;by_cases hb:b=want
      ·rw[oIP hb]at hro;rw[oIP (by simp[Region.wanted,g1,WV,hb])];left;obtain⟨⟨u,σ2⟩,h1,h2⟩:=ig hro;exact go (by rw[h1];simp only at h2;rw[h2])
      ·rw[oIN hb]at hro;rw[oIN (by simp[Region.wanted,g1,WV,hb])];exact skip hro
     |_=>simp at hro
    |tup l=>
     rw[hs]at Zn hro
     cases l with
     |nil=>
      have hu:a.tmps.getD dj undef=undef:=by
       generalize a.tmps.getD dj undef=z at Zn
       cases Zn with
       | @tup _ xs hl _=>have:xs=#[]:=by apply Array.eq_empty_of_size_eq_zero;simpa using hl
                         rw[this];rfl
      have WV:yielded ops a.tmps j=none:=by
       rw[hy];rw[Array.getD_eq_getD_getElem?]at hu
       cases hq:a.tmps[dj]? with
       |none=>rfl
       |some v=>
        rw[hq]at hu;simp only[Option.getD_some]at hu;rw[hu];rfl
      simp only at hro;rw[oIN (by simp[Region.wanted,g1,WV])];exact skip hro
     |cons=>simp at hro
    |_=>rw[hs]at hro;simp at hro
end
section
variable {P:Program} {M:Fm} {σ σ':St} {H:List TV} {xs:List Value} {ts:Array Value} {w:World} {G:Gh} {a:Act} {o:Oper} {isCall:Op->TOp->Prop} {call:Option Nat->TOp->SP Unit} {ops:Array Oper}
theorem Inv.congr(hI:Inv M σ H xs ts w G)(hs:LA σ σ'):Inv M σ' H xs ts w G:=by
 have hc:eE M σ' H=eE M σ H:=by
  funext r o;unfold eE;split
  ·rfl
  ·exact(hs (.c r o)).symm
 have hv:σ'.v=σ.v:=by funext q;exact(hs (.v q)).symm
 have hn:∀r l,eF σ'.ce r=some l->∃l0,eF σ.ce r=some l0/\l0.length=l.length:=by
  intro r l h;have h1:(eF σ.ce r).map List.length=(eF σ'.ce r).map List.length:=hs (.n r)
  simp_all
 refine⟨by rw[hc];exact hI.core,λi=>?_,hI.fram,λr l h=>?_,hI.size,hI.hand,hI.hval,λr b o n hb l h=>?_⟩
 ·have ht:σ'.t i=σ.t i:=by
   have:eF σ.tm i=eF σ'.tm i:=hs (.t i);simp[St.t,this]
  rw[hc,hv,ht];exact hI.tmr i
 ·have ⟨l0,h1,_⟩:=hn r l h;exact hI.keys r l0 h1
 ·have ⟨l0,h1,h2⟩:=hn r l h;rw[<- h2];exact hI.shape r b o n hb l0 h1
theorem Ix{t:iE}{i:Nat}{Q:Exit->Act->World->Prop}{K:Act->World->Prop}(hi:i<ops.size)(hop:tE P M isCall ops ops[i] t)(hcall:vN P M isCall call)(hI:Inv M σ [] [] a.tmps w G)(hro:xT call t σ=some σ')
 (hK:∀a' w' G',Inv M σ' [] [] a'.tmps w' G'->a'.defers=a.defers->K a' w'):wpOp P ops Q i K a w:=by
 unfold wpOp;simp only[Array.getElem?_eq_getElem hi]
 have go:(evop call t.dst t.op).run σ=some ((),σ')->ops[i].wp P a w K Q:=λh=>by
  exact Dt hI hop hcall h _ _ hK
 have skip:(match t.dst with|some d=>some { σ with tm:=fI σ.tm d (.tup []) } |none=>some σ)=some σ'->K (a.put ops[i].dst undef) w:=λh=>by
  rw[hop.dst]at h
  cases hd:ops[i].dst with
  |none=>
   rw[hd]at h
   injection h with h
   subst h;exact hK a w G hI rfl
  |some d=>
   rw[hd]at h
   injection h with h
   subst h;exact hK (a.put (some d) undef) w G (hI.wrT (hop.lt d hd).1 zP) rfl
 unfold xT at hro
 rcases hop.guard with⟨g1,g2⟩|⟨j,want,dj,g1,g2,g3⟩
 ·rw[oIP (by simp[Region.wanted,g1])];left;simp only[g2]at hro;obtain⟨⟨u,σ2⟩,h1,h2⟩:=ig hro;exact go (by rw[h1];simp only at h2;rw[h2])
 ·simp only[g2]at hro
  have hy:yielded ops a.tmps j=match(a.tmps[dj]?:Option Value)with|some (.bool b)=>some b|_=>none:=by
   unfold yielded;rw[g3];rfl
  have Zn:=hI.tmr dj
  cases hs:σ.t dj with
  |v x=>
   rw[hs]at Zn hro;obtain⟨hx,_⟩:=Zn.v_inv
   cases x with
   |bool b=>
    have Z5:a.tmps[dj]?=some (.bool b):=by
     rw[Array.getD_eq_getD_getElem?]at hx
     cases hq:a.tmps[dj]? with
     |none=>rw[hq]at hx;simp[undef]at hx
     |some v=>rw[hq]at hx;simp at hx;rw[hx]
    have WV:yielded ops a.tmps j=some b:=by rw[hy,Z5]
    simp only at hro;by_cases hb:b=want
    ·rw[oIP hb]at hro;rw[oIP (by simp[Region.wanted,g1,WV,hb])];left;obtain⟨⟨u,σ2⟩,h1,h2⟩:=ig hro
     simp_all
    ·rw[oIN hb]at hro;rw[oIN (by simp[Region.wanted,g1,WV,hb])];exact skip hro
   |_=>simp at hro
  |tup l=>
   rw[hs]at Zn hro
   cases l with
   |nil=>
    have hu:a.tmps.getD dj undef=undef:=by
     generalize a.tmps.getD dj undef=z at Zn
     cases Zn with
     | @tup _ xs hl _=>have:xs=#[]:=by apply Array.eq_empty_of_size_eq_zero;simpa using hl
                       rw[this];rfl
    have WV:yielded ops a.tmps j=none:=by
     rw[hy];rw[Array.getD_eq_getD_getElem?]at hu
     cases hq:a.tmps[dj]? with
     |none=>rfl
     |some v=>
      rw[hq]at hu;simp only[Option.getD_some]at hu;rw[hu];rfl
    rw[oIN (by simp[Region.wanted,g1,WV])];exact skip hro
   |cons=>simp at hro
  |_=>rw[hs]at hro;simp at hro
structure vM (ops:Array Oper)(deps:List (List Nat)):Prop where
 back:∀i (h:i<ops.size),∀e∈ops[i].after,Region.binds .any e=true->e.on<i
 dep:∀i (h:i<ops.size),∀j∈deps.getD i [],∃e∈ops[i].after,Region.binds .any e=true/\(e.on=j\/j∈deps.getD e.on [])
theorem sE{deps:List (List Nat)}{x:Nat×pS}:∀{l l':List (Nat×pS)},iC deps (l++x::l')=true->iC deps (l++l')=true/\∀y∈l,nS y.2 x.2=false\/y.1∈deps.getD x.1 []:=by
 intro l
 induction l with
 |nil=>
  intro l' h;simp only[List.nil_append,iC,oBA]at h
  simp_all
 |cons z l ih=>
  intro l' h;simp only[List.cons_append,iC,oBA,List.all_eq_true]at h;obtain⟨h1,h2⟩:=ih h.2;refine⟨by simp only[List.cons_append,iC,oBA,List.all_eq_true];exact⟨λy hy=>h.1 y (by rcases List.mem_append.1 hy with hy|hy<;>simp[hy]),h1⟩,λy hy=>?_⟩;rcases List.mem_cons.1 hy with rfl|hy
  ·simp_all
  ·exact h2 y hy
theorem KH{tops:List iE}{deps:List (List Nat)}(hlen:tops.length=ops.size)(hok:∀i (h:i<ops.size)(h':i<tops.length),tE P M isCall ops ops[i] tops[i])(hcall:vN P M isCall call)(YJ:vM ops deps){Q:Exit->Act->World->Prop}:
 ∀(n:Nat)(C:List Nat)(ZY:Array Bool)(σ:St)(a:Act)(w:World)(G:Gh)(fs:List (Nat×pS))(τ:St),C.length=n->ZY.size=ops.size->C.Pairwise (· < ·)->(∀j,j∈C↔j<ops.size/\ZY.getD j true=false)->
  (∀i,ZY.getD i false=true->∀j∈deps.getD i [],ZY.getD j false=true)->Inv M σ [] [] a.tmps w G->pT (λi=>spOp call (tops.getD i BN)) C σ=some (fs,τ)->iC deps fs=true ->
  (∀a' w' G',Inv M τ [] [] a'.tmps w' G'->a'.defers=a.defers->Q .normal a' w')->wpAny P .any ops Q n ZY a w:=by
 have Wl:∀{ZY:Array Bool},ZY.size=ops.size->∀j,j<ops.size->(ZY.getD j true=false↔¬ZY.getD j false=true):=by
  intro ZY hs j hj
  have:j<ZY.size:=by omega
  simp[Array.getD_eq_getD_getElem?,this]
 intro n
 induction n with
 |zero=>
  intro C ZY σ a w G fs τ hC hs Yn Zx Ze hI hr hp hQ;have hC:C=[]:=oEN hC;subst hC;obtain⟨rfl,rfl⟩:=hr;refine⟨?_,hQ a w G hI rfl⟩;apply List.eq_nil_iff_forall_not_mem.2;intro j hj;obtain⟨h1,o,h2,_⟩:=mem_ready.1 hj;have:=(Zx j).2 ⟨(Array.getElem?_eq_some_iff.1 h2).1,h1⟩;simp at this
 |succ n ih=>
  intro C ZY σ a w G fs τ hC hs Yn Zx Ze hI hr hp hQ;refine⟨λhnil=>?_,λi hi=>?_⟩
  ·exfalso
   cases C with
   |nil=>simp at hC
   |cons h C=>
    have hh:=(Zx h).1 (by simp)
    have:h∈Region.ready .any ops ZY:=by
     refine mem_ready.2 ⟨hh.2,ops[h]'hh.1,Array.getElem?_eq_getElem hh.1,λe he hb=>?_⟩;have hlt:=YJ.back h hh.1 e he hb
     have Qa:e.on<ops.size:=by omega
     cases hl:ZY.getD e.on false with
     |true=>rfl
     |false=>
      have hm:=(Zx e.on).2 ⟨Qa,(Wl hs _ Qa).2 (by rw[hl];simp)⟩;rcases List.mem_cons.1 hm with e1|e1
      ·omega
      ·have:=(List.pairwise_cons.1 Yn).1 _ e1;omega
    rw[hnil]at this;simp at this
  ·obtain⟨h1,o,h2,h3⟩:=mem_ready.1 hi;have Tw:i<ops.size:=(Array.getElem?_eq_some_iff.1 h2).1
   have O1:o=ops[i]:=by rw[Array.getElem?_eq_getElem Tw]at h2;injection h2 with h2;exact h2.symm
   subst O1;have OK:=(Zx i).2 ⟨Tw,h1⟩;obtain⟨pre,post,rfl⟩:=List.append_of_mem OK
   have Tk:∀j∈deps.getD i [],ZY.getD j false=true:=λj hj=>by
    obtain⟨e,he,hb,h4⟩:=YJ.dep i Tw j hj;have hl:=h3 e he hb;rcases h4 with rfl|h4
    ·exact hl
    ·exact Ze _ hl j h4
   have UV:∀Yg F Xi,fs=Yg++(i,F)::Xi->Yg.map (·.1)=pre->∀y∈Yg,nS y.2 F=false:=by
    rintro Yg F Xi rfl TP y hy
    rcases(sE hp).2 y hy with h|h
    ·exact h
    ·have Pt:y.1∈pre++i::post:=by rw[<- TP];exact List.mem_append_left _ (List.mem_map_of_mem hy)
     have:=(Zx y.1).1 Pt;exact absurd (Tk _ h) ((Wl hs _ this.1).1 this.2)
   obtain⟨σ',τ',Yg,F,Xi,rfl,TP,hrun,_,ZT,Ym⟩:=B2 hr UV
   have Zl:i<tops.length:=by omega
   have e:tops.getD i BN=tops[i]:=by simp[Zl]
   simp only[e]at hrun;refine Ix Tw (hok i Tw Zl) hcall hI (Dl hrun) λa' w' G' ZF hd=>?_
   have hne:∀j∈pre++post,j≠i:=λj hj e=>by
    subst e;rw[List.pairwise_append]at Yn;rcases List.mem_append.1 hj with hj|hj
    ·have:=Yn.2.2 j hj j (by simp);omega
    ·have:=(List.pairwise_cons.1 Yn.2.1).1 j hj;omega
   refine ih (pre++post) (ZY.setIfInBounds i true) σ' a' w' G' (Yg++Xi) τ' (by simp at hC⊢;omega) (by simp[hs]) ?_ (λj=>?_) (λk hk j hj=>?_) ZF ZT (sE hp).1 λa2 w2 G2 h4 h5=>hQ a2 w2 G2 (h4.congr λx=>(Ym x).symm) (h5.trans hd)
   ·refine Yn.sublist ?_;exact List.Sublist.append_left (List.sublist_cons_self i post) pre
   ·constructor
    ·intro hj
     have ON:j∈pre++i::post:=by rcases List.mem_append.1 hj with hj|hj<;>simp[hj]
     have:=(Zx j).1 ON;exact⟨this.1,by rw[getD_set_ne true (Ne.symm (hne j hj))];exact this.2⟩
    ·rintro⟨hj1,Xo⟩
     have Qg:j≠i:=by
      rintro rfl
      have:j<ZY.size:=by omega
      simp[Array.getD_eq_getD_getElem?,this]at Xo
     rw[getD_set_ne true (Ne.symm Qg)]at Xo;have:=(Zx j).2 ⟨hj1,Xo⟩;rcases List.mem_append.1 this with h|h
     ·exact List.mem_append_left _ h
     ·rcases List.mem_cons.1 h with h|h
      ·exact absurd h Qg
      ·exact List.mem_append_right _ h
   ·by_cases hki:k=i
    ·subst hki;exact getD_set_true (Tk j hj)
    ·rw[getD_set_ne false (Ne.symm hki)]at hk;exact getD_set_true (Ze k hk j hj)
theorem Du{tops:List iE}{deps:List (List Nat)}{id:Nat}(hm:P.follows .mixedOrders=true)(hlen:tops.length=ops.size)(hok:∀i (h:i<ops.size)(h':i<tops.length),tE P M isCall ops ops[i] tops[i])(hcall:vN P M isCall call)(YJ:vM ops deps)
 {Q:Exit->Act->World->Prop}{fs:List (Nat×pS)}{τ:St}(hI:Inv M σ [] [] a.tmps w G)(hr:pT (λi=>spOp call (tops.getD i BN)) (List.range tops.length) σ=some (fs,τ))(hp:iC deps fs=true)
 (hQ:∀a' w' G',Inv M τ [] [] a'.tmps w' G'->a'.defers=a.defers->Q .normal a' w'):(Code.region id ops true).wp P Q a w:=by
 refine wp_region_any hm ?_
 have ZF:Inv M σ [] [] a.tmps { w with drawn:=w.drawn+1 } G:=by
  exact(hI.grow (w':={ w with drawn:=w.drawn+1 }) (λ_ _=>rfl) (Nat.le_refl _) rfl rfl rfl).1
 refine KH hlen hok hcall YJ ops.size (List.range ops.size) _ σ a _ G fs τ (by simp) (by simp) List.pairwise_lt_range (λj=>?_) (λi hi=>?_) ZF (by simp_all) hp hQ
 ·simp_all
 ·exfalso;rw[Array.getD_eq_getD_getElem?,Array.getElem?_replicate]at hi;split at hi<;>simp at hi
end
def SP.quiet{α:Type}(d:Nat)(S:List Nat):SP α->Prop
 |.ret _=>True
 |.fail=>True
 |.rdT i k=>i∈S/\∀t,(k t).quiet d S
 |.rdC _ _ k=>∀t,(k t).quiet d S
 |.rdH _ _ k=>∀t,(k t).quiet d S
 |.rdV _ k=>∀n,(k n).quiet d S
 |.wrT i _ k=>i=d/\k.quiet d S
 |.wrC _ _ _ _=>False
 |.new _ _ _=>False
 |.bump _ _=>False
theorem dH{α β:Type}{d:Nat}{S:List Nat}{s:SP α}{f:α->SP β}(h:s.quiet d S)(hf:∀a,(f a).quiet d S):(s.bind f).quiet d S:=by
 induction s with
 |ret a=>exact hf a
 |fail=>exact trivial
 |rdT i k ih=>exact⟨h.1,λt=>ih t (h.2 t)⟩
 |rdC r o k ih=>exact λt=>ih t (h t)
 |rdH r o k ih=>exact λt=>ih t (h t)
 |rdV q k ih=>exact λn=>ih n (h n)
 |wrT i t k ih=>exact⟨h.1,ih h.2⟩
 |wrC r o t k ih=>exact h.elim
 |new r l k ih=>exact h.elim
 |bump q k ih=>exact h.elim
theorem oa{α:Type}{d:Nat}{S:List Nat}{s:SP α}(h:s.quiet d S)(σ:St):(∀x∈(s.foot σ).2,x=.t d)/\∀i,Loc.t i∈(s.foot σ).1->i∈S:=by
 induction s generalizing σ with
 |ret a=>exact⟨λx hx=>by simp[SP.foot]at hx,λi hi=>by simp[SP.foot]at hi⟩
 |fail=>exact⟨λx hx=>by simp[SP.foot]at hx,λi hi=>by simp[SP.foot]at hi⟩
 |rdT i k ih=>
  obtain⟨h1,h2⟩:=ih _ (h.2 (σ.t i)) σ;refine⟨h1,λj hj=>?_⟩;simp only[SP.foot,List.mem_cons]at hj;rcases hj with hj|hj
  ·injection hj with hj;subst hj;exact h.1
  ·exact h2 j hj
 |rdC r o k ih=>
  obtain⟨h1,h2⟩:=ih _ (h (σ.c r o)) σ;refine⟨h1,λj hj=>?_⟩;simp only[SP.foot]at hj
  simp_all
 |rdH r o k ih=>
  obtain⟨h1,h2⟩:=ih _ (h (σ.c r o).hd) σ;refine⟨h1,λj hj=>?_⟩;simp only[SP.foot,List.mem_cons]at hj
  simp_all
 |rdV q k ih=>
  obtain⟨h1,h2⟩:=ih _ (h (σ.v q)) σ;refine⟨h1,λj hj=>?_⟩;simp only[SP.foot,List.mem_cons]at hj
  simp_all
 |wrT i t k ih=>
  obtain⟨h1,h2⟩:=ih h.2 { σ with tm:=fI σ.tm i t };refine⟨λx hx=>?_,h2⟩;simp only[SP.foot,List.mem_cons]at hx;rcases hx with hx|hx
  ·rw[hx,h.1]
  ·exact h1 x hx
 |wrC r o t k ih=>exact h.elim
 |new r l k ih=>exact h.elim
 |bump q k ih=>exact h.elim
def gy:Opd->List Nat
 |.t i=>[i]
 |_=>[]
def fK:TOp->Option (List Nat)
 |.mov (.t i)=>some [i]
 |.mov (.c x)=>match r9 x with|.v _=>some []|_=>none
 |.pick c a b=>some (gy c++(gy a++gy b))
 |.load _ a=>some (gy a)
 |.nilc x=>some (gy x)
 |.fld _ a=>some (gy a)
 |.idx _ x i=>some (gy x++gy i)
 |.idxa _ _ x i=>some (gy x++gy i)
 |.ext x _=>some (gy x)
 |.bin _ x y=>some (gy x++gy y)
 |.bnb _ x y=>some (gy x++gy y)
 |.eqa _ _ x y=>some (gy x++gy y)
 |.un _ x=>some (gy x)
 |.conv _ x=>some (gy x)
 |.len x=>some (gy x)
 |.lens x=>some (gy x)
 |.ixs x i=>some (gy x++gy i)
 |_=>none
section
variable {d:Nat} {S:List Nat}
theorem eO{x:Opd}(h:∀i∈gy x,i∈S):(opd x).quiet d S:=by
 cases x with
 |t i=>exact⟨h i (by simp[gy]),λ_=>trivial⟩
 |_=>exact trivial
theorem r7{l:List Key}:(rdVs l).quiet d S:=by
 induction l with
 |nil=>exact trivial
 |cons q l ih=>exact λn=>dH ih λ_=>trivial
theorem kQ{p:dW}{n:Nat}{vs:List Nat}:(chk p n vs).quiet d S:=dH r7 λl=>by split<;>exact trivial
theorem l6{p:dW}:(getPl p).quiet d S:=λtv=>by
 show SP.quiet d S (match ek tv p.hops with|some t=>SP.ret t|none=>SP.fail);cases ek tv p.hops<;>exact trivial
theorem xn{p:dW}:(Le p).quiet d S:=by
 unfold Le;split
 ·exact λ_=>trivial
 ·exact dH l6 λ_=>trivial
theorem qq{p:dW}{t:TV}:(peek1 p t).quiet d S:=by
 cases t with
 |ow c=>exact dH r7 λ_=>trivial
 |_=>exact trivial
theorem B3{p:dW}:(peekP p).quiet d S:=by
 unfold peekP;split
 ·refine λh=>?_
  cases h with
  |some ls=>exact dH r7 λ_=>trivial
  |none=>exact dH l6 λ_=>qq
 ·exact dH l6 λ_=>qq
theorem B4:∀{n:Nat}{p:dW},(peekL p n).quiet d S:=by
 intro n
 induction n with
 |zero=>intro p;exact trivial
 |succ n ih=>
  refine dH l6 λt=>dH qq λt'=>?_;split
  ·exact trivial
  ·split
   ·exact dH ih λ_=>trivial
   ·exact trivial
theorem eX{t:TV}:(wr d t).quiet d S:=⟨rfl,trivial⟩
theorem kg{t:TV}:(rR t).quiet d S:=by cases t<;>exact trivial
theorem qr{t:TV}:(natOf t).quiet d S:=by
 cases t with
 |v x=>
  cases x with
  |int k n=>cases n<;>exact trivial
  |_=>exact trivial
 |_=>exact trivial
theorem lZ{α:Type}{o:Option α}:(jZ o).quiet d S:=by cases o<;>exact trivial
theorem Ad{t:TV}:(oi t).quiet d S:=by
 cases t with
 |pk p vs=>exact dH kQ λ_=>dH xn λt=>by cases t<;>exact trivial
 |pw p vs sz lo n=>exact dH kQ λ_=>trivial
 |ow c=>cases c<;>exact trivial
 |_=>exact trivial
theorem Ae{op:TOp}(h:fK op=some S):(ev1 d op).quiet d S:=by
 cases op with
 |mov x=>
  cases x with
  |t i=>
   simp only[fK,oSJ]at h;subst h;refine dH (eO λj hj=>by simpa[gy]using hj) λt=>?_
   cases t with
   |ow c=>exact trivial
   |agg l=>
    simp only;split
    ·exact trivial
    ·exact eX
   |_=>exact eX
  |c x=>
   simp only[fK]at h;split at h
   ·rename_i y hy
    have e:ev1 d (.mov (.c x))=wr d (.v y):=by simp only[ev1,opd,hy,SP.bind]
    rw[e];exact eX
   ·simp at h
  |f _=>simp[fK]at h
 |pick c a b=>
  simp only[fK,oSJ]at h;subst h;refine dH (eO λj hj=>by simp[hj]) λt=>?_;split
  ·rename_i bb
   refine dH ?_ λt=>by split<;>first|exact eX|exact trivial
   cases bb
   ·exact eO λj hj=>by simp at hj;simp[hj]
   ·exact eO λj hj=>by simp at hj;simp[hj]
  ·exact trivial
 |load n a=>
  simp only[fK,oSJ]at h;subst h;refine dH (eO λj hj=>by simpa using hj) λt=>?_;split
  ·refine dH kQ λ_=>?_
   cases n with
   |none=>exact dH B3 λ_=>eX
   |some n=>exact dH B4 λ_=>eX
  ·split<;>first|exact eX|exact trivial
  ·exact trivial
 |nilc x=>
  simp only[fK,oSJ]at h;subst h;refine dH (eO λj hj=>by simpa using hj) λt=>?_;split
  ·exact dH kQ λ_=>eX
  ·exact eX
  ·exact eX
  ·exact trivial
 |fld off a=>
  simp only[fK,oSJ]at h;subst h;refine dH (eO λj hj=>by simpa using hj) λt=>?_;split
  ·refine dH kQ λ_=>?_
   split<;>first|exact eX|exact trivial
  ·split<;>first|exact eX|exact trivial
  ·exact trivial
 |idx sz x i=>
  simp only[fK,oSJ]at h;subst h;refine dH (eO λj hj=>by simp[hj]) λt=>dH (eO λj hj=>by simp[hj]) λti=>dH qr λk=>?_;split
  ·exact dH kQ λ_=>dH xn λt=>by(repeat' split)<;>first|exact eX|exact trivial
  ·exact dH kQ λ_=>dH l6 λt=>by(repeat' split)<;>first|exact eX|exact trivial
  ·split<;>first|exact eX|exact trivial
  ·exact trivial
 |idxa n sz x i=>
  simp only[fK,oSJ]at h;subst h;refine dH (eO λj hj=>by simp[hj]) λt=>dH (eO λj hj=>by simp[hj]) λti=>dH qr λk=>?_;split
  ·exact dH kQ λ_=>by split<;>first|exact eX|exact trivial
  ·exact trivial
 |ext x i=>
  simp only[fK,oSJ]at h;subst h;refine dH (eO λj hj=>by simpa using hj) λt=>?_
  (repeat' split)<;>first|exact eX|exact trivial
 |bin op x y=>
  simp only[fK,oSJ]at h;subst h;refine dH (eO λj hj=>by simp[hj]) λt=>dH (eO λj hj=>by simp[hj]) λti=>dH kg λ_=>dH kg λ_=>dH lZ λr=>?_
  split<;>first|exact eX|exact trivial
 |bnb neg x y=>
  simp only[fK,oSJ]at h;subst h;refine dH (eO λj hj=>by simp[hj]) λt=>dH (eO λj hj=>by simp[hj]) λti=>dH kg λ_=>dH kg λ_=>?_
  split<;>first|exact eX|exact trivial
 |eqa ks neg x y=>
  simp only[fK,oSJ]at h;subst h;refine dH (eO λj hj=>by simp[hj]) λt=>dH (eO λj hj=>by simp[hj]) λti=>?_;split
  ·exact dH lZ λ_=>dH lZ λ_=>dH lZ λ_=>eX
  ·exact trivial
 |un op x=>
  simp only[fK,oSJ]at h;subst h;refine dH (eO λj hj=>by simpa using hj) λt=>dH kg λ_=>dH lZ λr=>?_
  split<;>first|exact eX|exact trivial
 |conv k x=>
  simp only[fK,oSJ]at h;subst h;refine dH (eO λj hj=>by simpa using hj) λt=>dH kg λ_=>?_
  split<;>first|exact eX|exact trivial
 |len x=>
  simp only[fK,oSJ]at h;subst h;exact dH (eO λj hj=>by simpa using hj) λt=>dH Ad λ_=>eX
 |lens x=>
  simp only[fK,oSJ]at h;subst h;refine dH (eO λj hj=>by simpa using hj) λt=>?_
  split<;>first|exact eX|exact trivial
 |ixs x i=>
  simp only[fK,oSJ]at h;subst h;refine dH (eO λj hj=>by simp[hj]) λt=>dH (eO λj hj=>by simp[hj]) λti=>dH qr λk=>?_
  (repeat' split)<;>first|exact eX|exact trivial
 |_=>simp[fK]at h
end
def DB(t:iE):Option (Nat×List Nat):=
 match t.dst,fK t.op with
 |some d,some S=>some (d,(match t.guard with|some (j,_)=>j::S|none=>S))
 |_,_=>none
theorem tF{α:Type}{d:Nat}{S S':List Nat}(hs:∀i∈S,i∈S'){s:SP α}(h:s.quiet d S):s.quiet d S':=by
 induction s with
 |ret a=>exact trivial
 |fail=>exact trivial
 |rdT i k ih=>exact⟨hs i h.1,λt=>ih t (h.2 t)⟩
 |rdC r o k ih=>exact λt=>ih t (h t)
 |rdH r o k ih=>exact λt=>ih t (h t)
 |rdV q k ih=>exact λn=>ih n (h n)
 |wrT i t k ih=>exact⟨h.1,ih h.2⟩
 |wrC r o t k ih=>exact h.elim
 |new r l k ih=>exact h.elim
 |bump q k ih=>exact h.elim
theorem xm{call:Option Nat->TOp->SP Unit}{t:iE}{d:Nat}{S:List Nat}(h:DB t=some (d,S)):(spOp call t).quiet d S:=by
 unfold DB at h;split at h
 case h_2=>simp at h
 rename_i d' S' hd hq
 injection h with h
 injection h with h1 h2
 subst h1
 have X5:(evop call t.dst t.op)=ev1 d' t.op:=by
  rw[hd]
  cases hop:t.op<;>rw[hop]at hq<;>first|rfl|simp[fK]at hq
 have YO:(setNo t.dst).quiet d' S:=by rw[hd];exact⟨rfl,trivial⟩
 unfold spOp
 cases hg:t.guard with
 |none=>
  rw[hg]at h2;subst h2;rw[X5];exact Ae hq
 |some g=>
  obtain⟨j,want⟩:=g;rw[hg]at h2;subst h2;refine⟨by simp,λtv=>?_⟩;show SP.quiet d' (j::S') (match tv with|.v (.bool b)=>if b=want then evop call t.dst t.op else setNo t.dst|.tup []=>setNo t.dst|_=>.fail);split
  ·split
   ·rw[X5];exact tF (by simp +contextual) (Ae hq)
   ·exact YO
  ·exact YO
  ·exact trivial
def J4(deps:List (List Nat))(tops:List iE)(i j:Nat):Bool:=
 (deps.getD j []).contains i||(match DB (tops.getD i BN),DB (tops.getD j BN)with
  |some (di,Si),some (dj,Sj)=>di != dj && !Sj.contains di && !Si.contains dj
  |_,_=>false)
def w7(deps:List (List Nat))(tops:List iE):List Nat->Bool
 | []=>true
 |i::r=>(r.all λj=>J4 deps tops i j)&&w7 deps tops r
theorem B5{a b:pS}{da db:Nat}{Sa Sb:List Nat}(ha:(∀x∈a.2,x=.t da)/\∀i,Loc.t i∈a.1->i∈Sa)(hb:(∀x∈b.2,x=.t db)/\∀i,Loc.t i∈b.1->i∈Sb)(h1:da≠db)(h2:da ∉ Sb)(h3:db ∉ Sa):nS a b=false:=by
 have hm:∀(l l':List Loc)(d d':Nat)(S:List Nat),(∀x∈l,x=.t d)->((∀x∈l',x=.t d')/\d≠d'\/(∀i,Loc.t i∈l'->i∈S)/\d ∉ S)->E2 l l'=false:=by
  intro l l' d d' S hl YR;unfold E2;simp;intro w hw x hx;rw[hl w hw]
  cases x with
  |t i=>
   simp[Loc.hit,beq_eq_false_iff_ne];intro e
   rcases YR with⟨q1,q2⟩|⟨q1,q2⟩
   ·have:=q1 _ hx;injection this with this;omega
   ·simp_all
  |_=>rfl
 unfold nS;rw[hm a.2 b.1 da 0 Sb ha.1 (.inr ⟨hb.2,h2⟩),hm a.2 b.2 da db [] ha.1 (.inl ⟨hb.1,h1⟩),hm b.2 a.1 db 0 Sa hb.1 (.inr ⟨ha.2,h3⟩),hm b.2 a.2 db da [] hb.1 (.inl ⟨ha.1,Ne.symm h1⟩)];rfl
theorem EF{call:Option Nat->TOp->SP Unit}{tops:List iE}{deps:List (List Nat)}:∀{L:List Nat}{σ τ:St}{fs:List (Nat×pS)},w7 deps tops L=true->pT (λi=>spOp call (tops.getD i BN)) L σ=some (fs,τ)->
 iC deps fs=true/\fs.map (·.1)=L/\∀y∈fs,∃ σ1,y.2=(spOp call (tops.getD y.1 BN)).foot σ1:=by
 intro L
 induction L with
 |nil=>
  intro σ τ fs _ hr;obtain⟨rfl,rfl⟩:=hr;exact⟨rfl,rfl,λy hy=>by simp at hy⟩
 |cons i L ih=>
  intro σ τ fs hs hr;simp only[w7,oBA,List.all_eq_true]at hs;simp only[pT]at hr;obtain⟨x,h1,h2⟩:=dR hr;obtain⟨y,h3,h4⟩:=dR h2;obtain⟨rfl,rfl⟩:=h4;obtain⟨Yg,τ1⟩:=y;obtain⟨q1,q2,q3⟩:=ih hs.2 h3;refine⟨?_,by simp[q2],λz hz=>?_⟩
  ·simp only[iC,oBA,List.all_eq_true];refine⟨λz hz=>?_,q1⟩
   have Pu:z.1∈L:=by rw[<- q2];exact List.mem_map_of_mem hz
   have hp:=hs.1 z.1 Pu;unfold J4 at hp;simp only[Bool.or_eq_true]at hp⊢;rcases hp with hp|hp
   ·exact .inr hp
   ·left;split at hp
    ·rename_i di Si dj Sj e1 e2;simp only[oBA,bne_iff_ne,ne_eq,Bool.not_eq_true',List.contains_eq_mem,decide_eq_false_iff_not]at hp;obtain⟨σ1,e3⟩:=q3 z hz;have:=B5 (oa (xm (call:=call) e1) σ) (oa (xm (call:=call) e2) σ1) hp.1.1 hp.1.2 hp.2
     simp_all
    ·simp at hp
  ·rcases List.mem_cons.1 hz with rfl|hz
   ·exact⟨σ,rfl⟩
   ·exact q3 z hz
theorem IR{call:Option Nat->TOp->SP Unit}{o:iE}{σ σ':St}(h:xT call o σ=some σ'):(spOp call o).run σ=some ((),σ'):=by
 have YO:∀{σ'},(match o.dst with|some d=>some { σ with tm:=fI σ.tm d (.tup []) } |none=>some σ)=some σ'->(setNo o.dst).run σ=some ((),σ'):=by
  intro σ' h;unfold setNo
  cases hd:o.dst with
  |none=>rw[hd]at h;simp at h;simp[SP.run,h]
  |some d=>rw[hd]at h;simp at h;simp[SP.run,h]
 have hm:∀{s:SP Unit}{σ'},(s.run σ).map (·.2)=some σ'->s.run σ=some ((),σ'):=by simp_all
 unfold xT at h;unfold spOp
 cases hg:o.guard with
 |none=>rw[hg]at h;exact hm h
 |some g=>
  rw[hg]at h;simp only[SP.run]at h⊢;split at h
  ·split at h
   ·rename_i UT;rw[oIP UT];exact hm h
   ·rename_i UT;rw[oIN UT];exact YO h
  ·exact YO h
  ·simp at h
theorem GC{call:Option Nat->TOp->SP Unit}{tops:List iE}:∀{L:List Nat}{σ τ:St},qP call (L.map λi=>tops.getD i BN) σ=some τ->∃fs,pT (λi=>spOp call (tops.getD i BN)) L σ=some (fs,τ):=by
 intro L
 induction L with
 |nil=>intro σ τ h;simp[qP]at h;subst h;exact⟨[],rfl⟩
 |cons i L ih=>
  intro σ τ h;have ⟨σ1,h1,h2⟩:=dR h;have ⟨fs,h3⟩:=ih h2;refine⟨(i,(spOp call (tops.getD i BN)).foot σ)::fs,?_⟩;simp only[pT,IR h1,oBS,h3]
theorem EJ(tops:List iE):(List.range tops.length).map (λi=>tops.getD i BN)=tops:=by
 apply List.ext_getElem?;intro i;by_cases h:i<tops.length
 ·simp[h]
 ·simp_all
def iA(P:Program)(M:Fm)(isCall:Op->TOp->Prop):j5->Code->Prop
 |.skip,c=>c=.skip
 |.nrm _,c=>c=.skip
 |.reg _ draw tops _,c=>∃id ops dr,c=.region id ops dr/\tops.length=ops.size/\(∀i (h:i<ops.size)(h':i<tops.length),tE P M isCall ops ops[i] tops[i])/\match draw with
  |some deps=>dr=true/\vM ops deps/\P.follows .mixedOrders=true
  |none=>dr=true->∃deps,vM ops deps/\P.follows .mixedOrders=true/\w7 deps tops (List.range tops.length)=true
 |.seq x y,c=>∃x' y',c=.seq x' y'/\iA P M isCall x x'/\iA P M isCall y y'
 |.cond k x y,c=>∃k' x' y',c=.cond k' x' y'/\dN k'=some k/\iA P M isCall x x'/\iA P M isCall y y'
 |.block id x,c=>∃x',c=.block id x'/\iA P M isCall x x'
 |.loop x,c=>∃x',c=.loop x'/\iA P M isCall x x'
 |.exit id,c=>c=.exit id
 |.ret,c=>c=.ret
 |.pre l x,c=>(∀y∈l,y.1<M.N)/\iA P M isCall x c
 |.post x l,c=>(∀y∈l,y.1<M.N)/\iA P M isCall x c
def j4.toExit:j4->Exit
 |.normal=>.normal
 |.exit id=>.exit id
 |.ret=>.ret
section
variable {P:Program} {M:Fm} {isCall:Op->TOp->Prop} {call:Option Nat->TOp->SP Unit}
theorem mT.toTm{w:World}{F:Nat->Prop}{V:Vs}{C:Cs}{G:Gh}{t:TV}{x:Value}(h:mT w F t x):TmR w F V C G t x:=by
 exact(ImF.im h).toTm
theorem KI{σ σ':St}{ts:Array Value}{w:World}{G:Gh}(hI:Inv M σ [] [] ts w G){x:Nat×Option Nat}(hx:x.1<M.N)(hr:(shr1 x).run σ=some ((),σ')):∃G',Inv M σ' [] [] ts w G':=by
 obtain⟨i,off⟩:=x
 have Vl:some ((),σ)=some ((),σ')->∃G',Inv M σ' [] [] ts w G':=λh=>by
  simp only[oSJ,oPJ,true_and]at h;exact⟨G,h▸hI⟩
 have Zn:=hI.tmr i
 have drop:∀{t t':TV}{v:Value}{σ1:St}{H:List TV},TmR w (G.F M.A) σ.v (eE M σ []) G t v->(take1 false t).run σ=some (t',σ1)->t'≠.dead->∃G2,Inv M σ1 [] [] ts w G2/\TmR w (G2.F M.A) σ1.v (eE M σ1 []) G2 t'.imm v/\σ1.tm=σ.tm:=by
  intro t t' v σ1 H ht h1 Zu;obtain⟨G1,hg,_⟩:=ir hI ht h1
  obtain⟨G2,ZG,ZM⟩:=hg.1.dropImm (λj hj=>by
   obtain rfl:j=0:=by simpa using hj
   exact Zu)
  have h0:=ZM 0 (by simp);refine⟨G2,ZG.1,?_,ZG.2.2.2.trans hg.2.2.2⟩;exact h0.toTm
 unfold shr1 at hr;simp only[SP.run]at hr
 cases off with
 |none=>
  cases ht:σ.t i with
  |pk p vs=>
   rw[ht]at hr Zn;simp only at hr;obtain⟨t',σ1,h1,h2⟩:=dE hr;simp only[SP.run,oSJ,oPJ,true_and]at h2
   have Zu:t'≠.dead:=by
    intro e
    rcases j9 h1 with h|h<;>rw[e]at h<;>simp[ff,mj]at h
   obtain⟨G2,ZI,Y1,_⟩:=drop (H:=[]) Zn h1 Zu;refine⟨G2,?_⟩;rw[<- h2];have:=ZI.wrT hx Y1
   have e:ts.setIfInBounds i (ts.getD i undef)=ts:=by
    apply Array.ext
    ·simp
    ·intro j h3 h4;rw[Array.getElem_setIfInBounds (by simpa using h4)]
     simp_all
   rw[e]at this;exact this
  |_=>rw[ht]at hr;exact Vl hr
 |some off=>
  cases ht:σ.t i with
  |ptr p vs=>
   rw[ht]at hr Zn;simp only at hr;obtain⟨_,σ1,h1,h2⟩:=dE hr;have e1:σ1=σ:=(d8 h1).1;have e2:=(d8 h1).2;subst e1;split at h2
   case isFalse=>simp[SP.run]at h2
   obtain⟨t,σ2,h3,h4⟩:=dE h2;obtain⟨e3,hg⟩:=fA h3;have e3:σ2=σ1:=e3;subst e3
   cases t with
   |ow c=>
    simp only at h4;obtain⟨t',σ3,h5,h6⟩:=dE h4;obtain⟨t2,σ4,h7,h8⟩:=dE h6;simp only[SP.run,oSJ,oPJ,true_and]at h8;subst h8
    cases Zn with
    |ptr V0 h0 hv h=>
     obtain⟨Z7,ad,t0,ha,_,_⟩:=h e2
     have X6:(p.add off).root≠1:=by rw[fi];exact Z7
     obtain⟨hB,u,fp,Y4,hown,W3⟩:=hI.named X6 (mQ off ha) hg (by simp);obtain⟨rfl,ZL⟩:=qQ hI X6 hg hown W3 h5
     have Zu:t2≠.dead:=by
      intro e
      rcases j9 h7 with h|h<;>rw[e]at h<;>simp[ff,mj]at h
     obtain⟨G2,ZI,_,_⟩:=drop (H:=[]) ZL h7 Zu;exact⟨G2,ZI⟩
   |_=>exact Vl h4
  |_=>rw[ht]at hr;exact Vl hr
theorem Gr{ts:Array Value}{w:World}:∀{l:List (Nat×Option Nat)}{σ σ':St}{G:Gh},Inv M σ [] [] ts w G->(∀y∈l,y.1<M.N)->(shrs l).run σ=some ((),σ')->∃G',Inv M σ' [] [] ts w G':=by
 intro l
 induction l with
 |nil=>
  intro σ σ' G hI _ hr;simp[shrs,SP.run]at hr;exact⟨G,hr▸hI⟩
 |cons x l ih=>
  intro σ σ' G hI hl hr;have ⟨_,σ1,h1,h2⟩:=dE hr;have ⟨G1,hI1⟩:=KI hI (hl x (by simp)) h1;exact ih hI1 (λy hy=>hl y (by simp[hy])) h2
theorem Dv(hcall:vN P M isCall call)(N:Nat):∀(tc:j5)(c:Code)(σ:St)(e:j4)(σ':St)(a:Act)(w:World)(G:Gh)(Q:Exit->Act->World->Prop),iA P M isCall tc c->runC call N tc σ=some (e,σ')->Inv M σ [] [] a.tmps w G ->
 (∀a' w' G',Inv M σ' [] [] a'.tmps w' G'->a'.defers=a.defers->Q e.toExit a' w')->c.wp P Q a w:=by
 intro tc
 induction tc with
 |skip=>
  intro c σ e σ' a w G Q hc hr hI hQ;simp only[iA]at hc;subst hc;simp only[runC,oSJ,oPJ]at hr;obtain⟨rfl,rfl⟩:=hr;exact wp_skip (hQ a w G hI rfl)
 |nrm pers=>
  intro c σ e σ' a w G Q hc hr hI hQ;simp only[iA]at hc;subst hc;obtain⟨rfl,rfl⟩:=hr;obtain⟨G2,ZI⟩:=hI.norm pers;exact wp_skip (hQ a w G2 ZI rfl)
 |reg id draw tops pers=>
  intro c σ e σ' a w G Q hc hr hI hQ;obtain⟨NF,ops,dr,rfl,hlen,hok,hdr⟩:=hc;simp only[runC]at hr
  cases draw with
  |some deps=>
   simp only at hr;obtain⟨⟨fs,τ⟩,h1,h2⟩:=dR hr;simp only at h2;split at h2
   ·rename_i hp
    injection h2 with h2
    injection h2 with h2 h3
    subst h2;subst h3;obtain⟨rfl,YJ,hm⟩:=hdr;refine Du hm hlen hok hcall YJ hI h1 hp λa' w' G' ZF YA=>?_;obtain⟨G2,ZI⟩:=ZF.norm pers;exact hQ a' w' G2 ZI YA
   ·simp at h2
  |none=>
   simp only at hr;obtain⟨σ1,h1,h2⟩:=ig hr
   injection h2 with h2 h3
   subst h2;subst h3
   cases dr with
   |true=>
    obtain⟨deps,YJ,hm,hst⟩:=hdr rfl;obtain⟨fs,Zz⟩:=GC (tops:=tops) (L:=List.range tops.length) (by rw[EJ];exact h1);refine Du hm hlen hok hcall YJ hI Zz (EF hst Zz).1 λa' w' G' ZF YA=>?_;obtain⟨G2,ZI⟩:=ZF.norm pers;exact hQ a' w' G2 ZI YA
   |false=>
   refine wp_region ?_
   have hm:(List.range ops.size).map (λi=>tops.getD i ⟨none,none,.lens (.t 0)⟩)=tops:=by
    apply List.ext_getElem?;intro i;by_cases h:i<ops.size
    ·simp[h,hlen]
    ·rw[oGN (by simpa using h),oGN (by omega)]
   refine Kq hlen hok hcall (List.range ops.size) σ a w G (λi hi=>by simpa using hi) hI (by rw[hm];exact h1) λa' w' G' ZF YA=>?_;obtain⟨G2,ZI⟩:=ZF.norm pers;exact hQ a' w' G2 ZI YA
 |seq x y XK Vg=>
  intro c σ e σ' a w G Q hc hr hI hQ;obtain⟨x',y',rfl,hx,hy⟩:=hc;simp only[runC]at hr;obtain⟨⟨e1,σ1⟩,h1,h2⟩:=dR hr;refine wp_seq (XK x' σ e1 σ1 a w G _ hx h1 hI λa' w' G' ZF hd=>?_)
  cases e1 with
  |normal=>exact Vg y' σ1 e σ' a' w' G' Q hy h2 ZF λa2 w2 G2 h3 h4=>hQ a2 w2 G2 h3 (h4.trans hd)
  |exit id=>
   simp only[oSJ,oPJ]at h2;obtain⟨rfl,rfl⟩:=h2;exact hQ a' w' G' ZF hd
  |ret=>
   simp only[oSJ,oPJ]at h2;obtain⟨rfl,rfl⟩:=h2;exact hQ a' w' G' ZF hd
 |cond k x y XK Vg=>
  intro c σ e σ' a w G Q hc hr hI hQ;obtain⟨k',x',y',rfl,hk,hx,hy⟩:=hc;simp only[runC]at hr;obtain⟨⟨t,σ1⟩,h1,h2⟩:=dR hr;obtain⟨rfl,ht⟩:=eY hI.tmr hk h1
  cases t with
  |v z=>
   obtain⟨hz,_⟩:=ht.v_inv
   cases z with
   |bool b=>
    cases b with
    |true=>exact wp_cond_true hz (XK x' _ e σ' a w G Q hx h2 hI hQ)
    |false=>exact wp_cond_false hz (Vg y' _ e σ' a w G Q hy h2 hI hQ)
   |_=>simp at h2
  |_=>simp at h2
 |block id x XK=>
  intro c σ e σ' a w G Q hc hr hI hQ;obtain⟨x',rfl,hx⟩:=hc;simp only[runC]at hr;obtain⟨⟨e1,σ1⟩,h1,h2⟩:=dR hr;refine wp_block (XK x' σ e1 σ1 a w G _ hx h1 hI λa' w' G' ZF hd=>?_)
  cases e1 with
  |normal=>
   simp only[oSJ,oPJ]at h2;obtain⟨rfl,rfl⟩:=h2;exact hQ a' w' G' ZF hd
  |exit i=>
   simp only at h2;simp only[j4.toExit,Exit.inBlock];split at h2
   ·rename_i hi;simp only[oSJ,oPJ]at h2;obtain⟨rfl,rfl⟩:=h2;rw[oIP hi];exact hQ a' w' G' ZF hd
   ·rename_i hi;simp only[oSJ,oPJ]at h2;obtain⟨rfl,rfl⟩:=h2;rw[oIN hi];exact hQ a' w' G' ZF hd
  |ret=>
   simp only[oSJ,oPJ]at h2;obtain⟨rfl,rfl⟩:=h2;exact hQ a' w' G' ZF hd
 |loop x XK=>
  intro c σ e σ' a w G Q hc hr hI hQ;obtain⟨x',rfl,hx⟩:=hc;simp only[runC]at hr
  have key:∀(n:Nat)(σ:St)(a:Act)(w:World)(G:Gh)(d:List Deferred),a.defers=d->K9 (runC call N x) n σ=some (e,σ')->Inv M σ [] [] a.tmps w G->(∀a' w' G',Inv M σ' [] [] a'.tmps w' G'->a'.defers=d->Q e.toExit a' w')->Code.rounds P x' Q n a w:=by
   intro n
   induction n with
   |zero=>intro σ a w G d _ hr;simp[K9]at hr
   |succ n ih=>
    intro σ a w G d hd hr hI hQ;simp only[K9]at hr;obtain⟨⟨e1,σ1⟩,h1,h2⟩:=dR hr;rw[rounds_succ];refine XK x' σ e1 σ1 a w G _ hx h1 hI λa' w' G' ZF YA=>?_
    cases e1 with
    |normal=>exact ih σ1 a' w' G' d (YA.trans hd) h2 ZF hQ
    |exit i=>
     simp only[oSJ,oPJ]at h2;obtain⟨rfl,rfl⟩:=h2;exact hQ a' w' G' ZF (YA.trans hd)
    |ret=>
     simp only[oSJ,oPJ]at h2;obtain⟨rfl,rfl⟩:=h2;exact hQ a' w' G' ZF (YA.trans hd)
  exact wp_loop_rounds N (key N σ a w G a.defers rfl hr hI hQ)
 |exit id=>
  intro c σ e σ' a w G Q hc hr hI hQ;simp only[iA]at hc;subst hc;obtain⟨rfl,rfl⟩:=hr;exact wp_exit (hQ a w G hI rfl)
 |ret=>
  intro c σ e σ' a w G Q hc hr hI hQ;simp only[iA]at hc;subst hc;obtain⟨rfl,rfl⟩:=hr;exact wp_ret (hQ a w G hI rfl)
 |pre l x XK=>
  intro c σ e σ' a w G Q hc hr hI hQ;obtain⟨hl,hx⟩:=hc;simp only[runC]at hr;obtain⟨⟨u,σ1⟩,h1,h2⟩:=dR hr;obtain⟨G1,hI1⟩:=Gr hI hl h1;obtain⟨G2,ZI⟩:=hI1.norm (σ1.tm.map (·.1),σ1.ce.map (·.1));exact XK c σ1.anew e σ' a w G2 Q hx h2 ZI hQ
 |post x l XK=>
  intro c σ e σ' a w G Q hc hr hI hQ;obtain⟨hl,hx⟩:=hc;simp only[runC]at hr;obtain⟨⟨e1,σ1⟩,h1,h2⟩:=dR hr;obtain⟨⟨u,σ2⟩,h3,h4⟩:=dR h2;simp only[oSJ,oPJ]at h4;obtain⟨rfl,rfl⟩:=h4;refine XK c σ e1 σ1 a w G Q hx h1 hI λa' w' G' ZF hd=>?_;obtain⟨G2,ZI⟩:=Gr ZF hl h3;obtain⟨G3,W7⟩:=ZI.norm (σ2.tm.map (·.1),σ2.ce.map (·.1));exact hQ a' w' G3 W7 hd
end
inductive TRs where
 |tmp (t:Nat)
 |cell (t:Nat) (n:Option Nat)
structure TFn where
 np:Nat
 pp:List Nat
 nt:Nat
 body:j5
 res:List TRs
def Mc(np r:Nat):Bool:=r%2==0&&decide (r<2*np+2)
def takeR1(np:Nat)(t:TV):SP TV:=
 match t with
 |.pk p vs=>take1 (!Mc np p.root) (.pk p vs)
 |t=>take1 true t
def takeRL(np:Nat):List TV->SP (List TV)
 | []=>.ret []
 |t::r=>(takeR1 np t).bind λt'=>(takeRL np r).bind λr'=>.ret (t'::r')
def takeRV(np:Nat)(t:TV):SP (List TV×RSh):=
 match t with
 |.agg l=>(takeRL np l).bind λl'=>.ret (l',.agg l'.length)
 |t=>(takeR1 np t).bind λt'=>.ret ([t'],.one)
def res1(np:Nat):TRs->SP (List TV×RSh)
 |.tmp t=>.rdT t λtv=>takeRV np tv
 |.cell t n=>.rdT t λtv=>match tv with
  |.ptr p vs=>(chk p p.hops.length vs).bind λ_=>match n with
   |none=>(getPl p).bind λt=>(peek1 p t).bind λt'=>takeRV np t'
   |some n=>(peekL p n).bind λl=>takeRV np (.agg l)
  |_=>.fail
def resL(np:Nat):List TRs->SP (List TV×List RSh)
 | []=>.ret ([],[])
 |r::rs=>(res1 np r).bind λx=>(resL np rs).bind λy=>.ret (x.1++y.1,x.2::y.2)
def BO:TV->Bool
 |.v x=>gU x
 |_=>false
def unV:TV->Value
 |.v x=>x
 |_=>undef
def onesOf:List TV->List RSh
 | []=>[]
 |_::r=>.one::onesOf r
def flatsR:List TRs->SP (List TV)
 | []=>.ret []
 |.tmp t::r=>.rdT t λtv=>if BO tv then(flatsR r).bind λl=>.ret (tv::l)else .fail
 |.cell _ _::_=>.fail
def resF(np:Nat):List TRs->SP (List TV×List RSh)
 |.tmp t::r=>.rdT t λtv=>match tv with
  |.ptr p vs=>(chk p p.hops.length vs).bind λ_=>(flatsR r).bind λl=>.ret (.ptr p vs::l,.ptr::onesOf l)
  |_=>resL np (.tmp t::r)
 |qs=>resL np qs
def Dy(t:TV):List TV->TV
 | []=>t
 |y::l=>.tup (t::y::l)
def xe(x:Value):List Value->Value
 | []=>x
 |y::l=>.tuple (x::y::l).toArray
theorem Gu{w:World}{F:Nat->Prop}{V:Vs}{C:Cs}{G:Gh}{t:TV}{x:Value}(h:TmR w F V C G t x):∀{l:List TV},l.all BO=true->TmR w F V C G (Dy t l) (xe x (l.map unV)):=by
 intro l hl
 have ZO:∀j (hj:j<l.length),TmR w F V C G l[j] (unV l[j]):=by
  intro j hj;have:=List.all_eq_true.1 hl l[j] (List.getElem_mem hj)
  cases hc:l[j]with
  |v y=>rw[hc]at this;exact .v this
  |_=>rw[hc]at this;simp[BO]at this
 cases l with
 |nil=>exact h
 |cons y l=>
  refine .tup (by simp) λj hj=>?_
  cases j with
  |zero=>exact h
  |succ j=>
   have ZQ:j<(y::l).length:=by simp_all
   have e:(x::unV y::l.map unV).toArray.getD (j+1) undef=unV (y::l)[j]:=by
    have e0:((y::l).map unV)[j]?=some (unV (y::l)[j]):=by rw[List.getElem?_map,oGE ZQ];rfl
    simp_all
   simp_all
def gn:List RSh->List Value->List Value
 | [],_=>[]
 |.one::r,ys=>ys.headD undef::gn r ys.tail
 |.agg n::r,ys=>.agg (ys.take n).toArray::gn r (ys.drop n)
 |.ptr::r,ys=>undef::gn r ys
def m9(sh:List RSh)(ys:List Value):Value:=
 match gn sh ys with
 | [x]=>x
 |l=>.tuple l.toArray
section
variable {P:Program} {M:Fm} {σ σ':St} {H:List TV} {xs:List Value} {ts:Array Value} {w:World} {G:Gh}
theorem zT(np:Nat)(t:TV):∃mv,takeR1 np t=take1 mv t:=by
 cases t<;>first|exact⟨true,rfl⟩|exact⟨_,rfl⟩
theorem FS{np:Nat}:∀{l l':List TV}{ys:List Value}{σ σ':St}{H:List TV}{xs:List Value}{G:Gh},Inv M σ H xs ts w G->l.length=ys.length->(∀j (h:j<l.length),TmR w (G.F M.A) σ.v (eE M σ H) G l[j] (ys.getD j undef))->
 (takeRL np l).run σ=some (l',σ')->l'.length=l.length/\(∃G',lL M w ts σ H G σ' (H++l') (xs++ys) G')/\∀j (h:j<l'.length),ff l'[j]=true\/mj l'[j]=true:=by
 intro l
 induction l with
 |nil=>
  intro l' ys σ σ' H xs G hI hl _ hr;obtain⟨rfl,rfl⟩:=hr;have:=oEN (by simpa using hl.symm);subst this;exact⟨rfl,⟨G,by simpa using lL.refl hI⟩,λj h=>by simp at h⟩
 |cons t l ih=>
  intro l' ys σ σ' H xs G hI hl ht hr
  cases ys with
  |nil=>simp at hl
  |cons y ys=>
   obtain⟨t',σ1,h1,h2⟩:=dE hr;obtain⟨r',σ2,h3,h4⟩:=dE h2;obtain⟨rfl,rfl⟩:=h4;obtain⟨mv,RO⟩:=zT np t;rw[RO]at h1;obtain⟨G1,Zv,ho⟩:=ir hI (ht 0 (by simp)) h1;obtain⟨e,⟨G2,ZG⟩,hok⟩:=ih (l':=r') Zv.1 (by simpa using hl) (λj hj=>Zv.tm (by have:=ht (j+1) (by simpa using hj);simpa using this)) h3;refine⟨by simp[e],⟨G2,by simpa using Zv.trans ZG⟩,λj hj=>?_⟩
   cases j with
   |zero=>exact j9 h1
   |succ j=>exact hok j (by simpa using hj)
theorem uk{np:Nat}{t:TV}{x:Value}{r:List TV×RSh}(hI:Inv M σ H xs ts w G)(hx:TmR w (G.F M.A) σ.v (eE M σ H) G t x)(hr:(takeRV np t).run σ=some (r,σ')):
 ∃ys G',lL M w ts σ H G σ' (H++r.1) (xs++ys) G'/\r.1.length=ys.length/\(∀j (h:j<r.1.length),ff r.1[j]=true\/mj r.1[j]=true)/\∀(rest:List RSh)(zs:List Value),gn (r.2::rest) (ys++zs)=x::gn rest zs:=by
 by_cases ht:∃q,t=.agg q
 ·obtain⟨q,rfl⟩:=ht;obtain⟨l',σ1,h1,h2⟩:=dE hr;obtain⟨rfl,rfl⟩:=h2;obtain⟨vs,rfl,hl,hj⟩:=Ic hx;obtain⟨e1,⟨G',hg⟩,hok⟩:=FS (ys:=vs.toList) hI (by simp[hl]) (λj h=>by simp_all) h1;refine⟨vs.toList,G',hg,by simp[e1,hl],hok,λrest zs=>?_⟩
  have hn:l'.length=vs.toList.length:=by simp_all
  simp only[gn,hn,List.take_left,List.drop_left,Array.toArray_toList]
 ·have e:takeRV np t=(takeR1 np t).bind λt'=>.ret ([t'],.one):=by
   cases t<;>first|rfl|exact absurd ⟨_,rfl⟩ ht
  rw[e]at hr;obtain⟨t',σ1,h1,h2⟩:=dE hr;obtain⟨rfl,rfl⟩:=h2;obtain⟨mv,RO⟩:=zT np t;rw[RO]at h1;obtain⟨G',hg,ho⟩:=ir hI hx h1;refine⟨[x],G',hg,rfl,λj hj=>?_,λrest zs=>rfl⟩
  obtain rfl:j=0:=by simp_all
  exact j9 h1
def Db(P:Program):TRs->ResultVar->Prop
 |.tmp t,r=>r=.tmp t
 |.cell t n,r=>∃ty,r=.cell t ty/\Ie P ty n
theorem KV{np:Nat}{q:TRs}{q':ResultVar}{r:List TV×RSh}(hI:Inv M σ H xs ts w G)(hq:Db P q q')(hr:(res1 np q).run σ=some (r,σ')):
 ∃x ys G',(match q' with|.tmp t=>(pure (ts.getD t undef):Sem Value)|.cell a t=>do loadVar t (<- asAddr (ts.getD a undef))).run P w=.ok x w/\lL M w ts σ H G σ' (H++r.1) (xs++ys) G'/\r.1.length=ys.length /\
  (∀j (h:j<r.1.length),ff r.1[j]=true\/mj r.1[j]=true)/\∀(rest:List RSh)(zs:List Value),gn (r.2::rest) (ys++zs)=x::gn rest zs:=by
 cases q with
 |tmp t=>
  have hq:q'=.tmp t:=hq;subst hq;obtain⟨ys,G',h1,h2,h3,h4⟩:=uk hI (hI.tmr t) hr;exact⟨_,ys,G',rfl,h1,h2,h3,h4⟩
 |cell t n=>
  obtain⟨ty,rfl,hn⟩:=hq;simp only[res1,SP.run]at hr;have Zn:=hI.tmr t
  cases hs:σ.t t with
  |ptr p vs=>
   rw[hs]at hr Zn;simp only at hr;obtain⟨_,σ2,h3,h4⟩:=dE hr;have e1:σ2=σ:=(d8 h3).1;have e2:=(d8 h3).2;subst e1;generalize hz:ts.getD t undef=z at Zn
   cases Zn with
   |ptr V0 h0 hv h=>
    obtain⟨Z7,ad,t0,ha,rfl,_⟩:=h e2
    cases n with
    |none=>
     obtain⟨dd,hu,YE,hd2⟩:=hn;simp only at h4;obtain⟨t1,σ3,h5,h6⟩:=dE h4;obtain⟨e3,hg⟩:=fA h5;have e3:σ3=σ2:=e3;subst e3;obtain⟨t',σ4,h7,h8⟩:=dE h6;obtain⟨hB,u,fp,Y4,hown,ZH⟩:=hI.named Z7 ha hg (pH h7);obtain⟨rfl,ZL⟩:=qQ hI Z7 hg hown ZH h7;obtain⟨ys,G',k1,k2,k3,k4⟩:=uk hI ZL h8;refine⟨u,ys,G',?_,k1,k2,k3,k4⟩;show((do loadVar ty (<- asAddr (ts.getD t undef))):Sem Value).run P w=_;rw[hz];simp[asAddr,loadVar,oN hu YE hd2,Y4]
    |some n=>
     obtain⟨⟨dd,hu,YE⟩,hsz⟩:=hn;simp only at h4;obtain⟨l,σ3,h5,h6⟩:=dE h4;obtain⟨rfl,e3,us,e4,e5⟩:=DF hI Z7 ha h5
     have Rd:TmR w (G.F M.A) σ3.v (eE M σ3 H) G (.agg l) (.agg us.toArray):=.agg (by simp[e3,e4]) λj hj=>by have:=(e5 j hj (by omega)).2;simpa[show j<us.length by omega]using this
     obtain⟨ys,G',k1,k2,k3,k4⟩:=uk hI Rd h6;refine⟨_,ys,G',?_,k1,k2,k3,k4⟩;have ZE:=kV ha
     have ZP:=run_loadCells_list (P:=P) w ad us λj v hj=>by
      obtain⟨hlt,rfl⟩:=oGS hj;have:=(e5 j (by omega) hlt).1;obtain⟨b,o,s⟩:=ad;simp only at ZE;subst ZE;rw[fB];exact this
     have YI:(sizeOf ty).run P w=.ok n w:=by
      unfold sizeOf typeInfo
      cases hi:P.info? ty with
      |none=>simp[hi]at hsz
      |some i=>simp[hi]at hsz;simp[hi,hsz]
     rw[e4]at ZP;show((do loadVar ty (<- asAddr (ts.getD t undef))):Sem Value).run P w=_;rw[hz];simp[asAddr,loadVar,nJ hu YE,YI,ZP]
  |_=>rw[hs]at hr;simp[SP.run]at hr
theorem KT{np:Nat}:∀{qs:List TRs}{qs':List ResultVar}{r:List TV×List RSh}{σ σ':St}{H:List TV}{xs:List Value}{G:Gh},Inv M σ H xs ts w G->qs.length=qs'.length->(∀k (h:k<qs.length)(h':k<qs'.length),Db P qs[k] qs'[k])->(resL np qs).run σ=some (r,σ')->
 ∃vs ys G',(qs'.mapM λ(q:ResultVar)=>(match q with|.tmp t=>(pure (ts.getD t undef):Sem Value)|.cell a t=>do loadVar t (<- asAddr (ts.getD a undef)))).run P w=.ok vs w/\lL M w ts σ H G σ' (H++r.1) (xs++ys) G'/\r.1.length=ys.length /\
  (∀j (h:j<r.1.length),ff r.1[j]=true\/mj r.1[j]=true)/\gn r.2 ys=vs:=by
 intro qs
 induction qs with
 |nil=>
  intro qs' r σ σ' H xs G hI hl _ hr;have:qs'=[]:=oEN (by simpa using hl.symm);subst this;obtain⟨rfl,rfl⟩:=hr;exact⟨[],[],G,by simp,by simpa using lL.refl hI,rfl,λj h=>by simp at h,rfl⟩
 |cons q qs ih=>
  intro qs' r σ σ' H xs G hI hl hok hr
  cases qs' with
  |nil=>simp at hl
  |cons q' qs'=>
   obtain⟨x,σ1,h1,h2⟩:=dE hr;obtain⟨y,σ2,h3,h4⟩:=dE h2;obtain⟨rfl,rfl⟩:=h4;obtain⟨v,ys,G1,k1,k2,k3,k4,k5⟩:=KV hI (hok 0 (by simp) (by simp)) h1;obtain⟨vs,zs,G2,l1,l2,l3,l4,l5⟩:=ih (qs':=qs') k2.1 (by simpa using hl) (λk h h'=>hok (k+1) (by simpa using h) (by simpa using h')) h3;refine⟨v::vs,ys++zs,G2,?_,by simpa using k2.trans l2,by simp[k3,l3],λj hj=>?_,?_⟩
   ·rw[List.mapM_cons,Sem.run_bind];refine(congrArg (λr=>Result.andThen r _) k1).trans ?_;simp only[Result.andThen_ok,Sem.run_bind,l1,Sem.run_pure]
   ·by_cases hjl:j<x.1.length
    ·rw[List.getElem_append_left hjl];exact k4 j hjl
    ·rw[List.getElem_append_right (by omega)];exact l4 _ _
   ·rw[k5,l5]
theorem HK:∀{qs:List TRs}{qs':List ResultVar}{l:List TV}{σ σ':St}{G:Gh},Inv M σ [] [] ts w G->qs.length=qs'.length->(∀k (h:k<qs.length)(h':k<qs'.length),Db P qs[k] qs'[k])->(flatsR qs).run σ=some (l,σ')->
 σ'=σ/\l.all BO=true/\(qs'.mapM λ(q:ResultVar)=>(match q with|.tmp t=>(pure (ts.getD t undef):Sem Value)|.cell a t=>do loadVar t (<- asAddr (ts.getD a undef)))).run P w=.ok (l.map unV) w:=by
 intro qs
 induction qs with
 |nil=>
  intro qs' l σ σ' G hI hl _ hr;have:qs'=[]:=oEN (by simpa using hl.symm);subst this;obtain⟨rfl,rfl⟩:=hr;exact⟨rfl,rfl,by simp⟩
 |cons q qs ih=>
  intro qs' l σ σ' G hI hl hok hr
  cases qs' with
  |nil=>simp at hl
  |cons q' qs'=>
   cases q with
   |cell t n=>simp[flatsR,SP.run]at hr
   |tmp t=>
    have hq:q'=.tmp t:=hok 0 (by simp) (by simp);subst hq;simp only[flatsR,SP.run]at hr;split at hr
    case isFalse=>simp[SP.run]at hr
    rename_i hf;obtain⟨r,σ1,h1,h2⟩:=dE hr;simp only[SP.run,oSJ,oPJ]at h2;obtain⟨rfl,rfl⟩:=h2;obtain⟨rfl,k2,k3⟩:=ih (qs':=qs') hI (by simpa using hl) (λk h h'=>hok (k+1) (by simpa using h) (by simpa using h')) h1;refine⟨rfl,by rw[List.all_cons,hf,k2];rfl,?_⟩;have hv:=hI.tmr t
    have e:ts.getD t undef=unV (σ1.t t):=by
     cases hc:σ1.t t with
     |v x=>
      rw[hc]at hv
      cases hv with
      |v _=>rfl
     |_=>rw[hc]at hf;simp[BO]at hf
    rw[List.mapM_cons,Sem.run_bind];simp only[Result.andThen_ok,Sem.run_bind,k3,Sem.run_pure];rw[e];rfl
end
section
variable {P:Program} {M:Fm} {σ σ':St} {H:List TV} {xs:List Value} {ts:Array Value} {w:World} {G:Gh}
theorem Inv.trunc(hI:Inv M σ H xs ts w G){k:Nat}(hd:∀j (h:j<H.length),k<=j->H[j]=.dead):Inv M σ (H.take k) (xs.take k) ts w G/\eE M σ (H.take k)=eE M σ H:=by
 have e:eE M σ (H.take k)=eE M σ H:=by
  funext r o;unfold eE;split
  ·simp
   grind
  ·rfl
 refine⟨⟨by rw[e];exact hI.core,λi=>by rw[e];exact hI.tmr i,hI.fram,hI.keys,hI.size,by simp[hI.hand],λj hj=>?_,hI.shape⟩,e⟩
 have h2:j<k/\j<xs.length:=by simp at hj;omega
 rw[hI.hval j h2.2]
 simp_all
theorem rW(b:Nat)(vs:List Value):∀(o:Nat)(w:World){k:Nat},k≠b->(w.setCells b o vs).heap[k]?=w.heap[k]?:=by
 induction vs with
 |nil=>intro o w k h;rfl
 |cons v r ih=>
  intro o w k h;simp[World.setCells];rw[ih _ _ h];exact ej w _ v h
theorem vT(b:Nat)(vs:List Value):∀(o:Nat)(w:World){cur:Array Value}{e:TypeId}{fz:Nat×Nat},w.heap[b]?=some (.cells cur e fz)->
 ∃YB,(w.setCells b o vs).heap[b]?=some (.cells YB e fz)/\YB.size=cur.size/\∀j,YB[j]?=if o<=j/\j<o+vs.length/\j<cur.size then vs[j-o]? else cur[j]?:=by
 induction vs with
 |nil=>intro o w cur e fz h;exact⟨cur,h,rfl,λj=>by rw[oIN (by simp;omega)]⟩
 |cons v r ih=>
  intro o w cur e fz h;obtain⟨YB,h1,h2,h3⟩:=ih (o+1) _ (jN w b o v h);refine⟨YB,h1,by rw[h2];simp,λj=>?_⟩;rw[h3];simp;by_cases hj:j=o
  ·subst hj;rw[oIN (by omega)];by_cases hs:j<cur.size
   ·rw[oIP (by omega)];simp[hs]
   ·rw[oIN (by omega)];simp[hs]
  ·by_cases hc:o+1<=j/\j<o+1+r.length/\j<cur.size
   ·rw[oIP hc,oIP (by omega)];rw[show j-o=(j-(o+1))+1 by omega];simp
   ·rw[oIN hc,oIN (by omega)];rw[Array.getElem?_setIfInBounds,oIN (Ne.symm hj)]
theorem xS(b:Nat)(vs:List Value):∀(o:Nat)(w:World),w.setCells b o vs={ w with heap:=(w.setCells b o vs).heap }:=by
 induction vs with
 |nil=>intro o w;rfl
 |cons v r ih=>
  intro o w;simp[World.setCells]
  have h:w.setCell ⟨b,o,none⟩ v={ w with heap:=(w.setCell ⟨b,o,none⟩ v).heap }:=by
   unfold World.setCell
   simp_all
  rw[ih];rw[h]
def gV(w W:World)(b:Nat):World:=match w.heap[b]? with|some x=>{ W with heap:=W.heap.setIfInBounds b x } |none=>W
theorem pG{w W:World}{b k:Nat}(h:k≠b):(gV w W b).heap[k]?=W.heap[k]?:=by
 unfold gV;split
 ·simp[Ne.symm h]
 ·rfl
theorem rY{w W:World}{b:Nat}(h:b<W.heap.size)(h2:b<w.heap.size):(gV w W b).heap[b]?=w.heap[b]?:=by
 unfold gV
 simp_all
theorem mG{w W:World}{b:Nat}:(gV w W b).heap.size=W.heap.size:=by
 unfold gV
 grind
theorem sB{w W:World}{b:Nat}:(gV w W b).os=W.os/\(gV w W b).tape=W.tape/\(gV w W b).output=W.output/\(gV w W b).drawn=W.drawn:=by
 unfold gV
 grind
theorem tJ{w W:World}{b o:Nat}{vs:List Value}{cur0 cur:Array Value}{e:TypeId}{fz:Nat×Nat}(h0:w.heap[b]?=some (.cells cur0 e fz))(h1:W.heap[b]?=some (.cells cur e fz))(hs:cur.size=cur0.size)
 (V9:∀j,(j<o\/o+vs.length<=j)->cur[j]?=cur0[j]?)(hin:∀j (h:j<vs.length),cur[o+j]?=some vs[j]):(gV w W b).setCells b o vs=W:=by
 have Oq:=(Array.getElem?_eq_some_iff.1 h1).1;have UT:=(Array.getElem?_eq_some_iff.1 h0).1;rw[xS];obtain⟨r1,r2,r3,r4⟩:=sB (w:=w) (W:=W) (b:=b)
 have Vw:((gV w W b).setCells b o vs).heap=W.heap:=by
  apply Array.ext_getElem?;intro k;by_cases hk:k=b
  ·subst hk;obtain⟨YB,e1,e2,e3⟩:=vT k vs o (gV w W k) ((rY Oq UT).trans h0);rw[e1,h1];congr 2;apply Array.ext_getElem?;intro j;rw[e3];split
   ·rename_i hj;have:=hin (j-o) (by omega)
    simp_all
   ·rename_i hj;by_cases hjs:j<cur0.size
    ·exact(V9 j (by omega)).symm
    ·simp_all
  ·rw[rW b vs o _ hk,pG hk]
 simp_all
end
structure FI (H:List TV)(xs:List Value)(w:World)(G:Gh)(A:Nat->Prop)(pr:Nat->Option (Nat×Nat×Nat))(bs:Nat->Nat)(ce:List (Nat×List TV))(ow:Nat->Option Nat):Prop where
 even:∀r b o n,pr r=some (b,o,n)->r%2=0/\0<n
 cells:∀r b o n,pr r=some (b,o,n)->∃l,eF ce r=some l/\l.length=n/\∀j (h:j<l.length),∃h':bs r+j<H.length,l[j]=H[bs r+j]/\l[j]≠.dead
 only:∀r l,eF ce r=some l->pr r≠none\/ow r≠none
 owc:∀r j,ow r=some j->r%2=1/\r≠1/\∃(c:List (List TV))(h:j<H.length),eF ce r=some [.ow c]/\H[j]=.ow c
 owa:∀r j r' b o n,ow r=some j->pr r'=some (b,o,n)->∀j',j'<n->bs r'+j'≠j
 owi:∀r r' j,ow r=some j->ow r'=some j->r=r'
 apart:∀r b o n r' b' o' n',pr r=some (b,o,n)->pr r'=some (b',o',n')->∀j j',j<n->j'<n'->bs r+j=bs r'+j'->r=r'
 inj:∀r b o n r' o' n',pr r=some (b,o,n)->pr r'=some (b,o',n')->r=r'
 notF:∀r b o n,pr r=some (b,o,n)->¬G.F A b
 notH:∀r b o n,pr r=some (b,o,n)->∀j,¬G.φ 1 j b
 here:∀r b o n,pr r=some (b,o,n)->∀j,j<n->w.cell? ⟨b,o+j,none⟩=some (xs.getD (bs r+j) undef)/\w.frozen? ⟨b,o+j,none⟩=false
def Fm.into(M:Fm)(w:World)(G:Gh)(pr:Nat->Option (Nat×Nat×Nat))(N:Nat):Fm where
 w0:=w
 A:=λk=>G.F M.A k\/(∃j,G.φ 1 j k)\/w.heap.size<=k
 W0:=λk=>∃j,G.φ 1 j k
 pr:=pr
 N:=N
 hA:=λk h=>.inr (.inr h)
def Gh.into(G:Gh)(pr:Nat->Option (Nat×Nat×Nat))(bs:Nat->Nat)(ow:Nat->Option Nat)(xs:List Value):Gh:=
 ⟨pr,λr _=>match ow r with|some j=>xs.getD j undef|none=>undef,λr o k=>(∃b o0 n,pr r=some (b,o0,n)/\o<n/\G.φ 1 (bs r+o) k)\/∃j,ow r=some j/\o=0/\G.φ 1 j k⟩
theorem jo{G:Gh}{pr:Nat->Option (Nat×Nat×Nat)}{bs:Nat->Nat}{ow:Nat->Option Nat}{xs:List Value}{r o k:Nat}(h:(G.into pr bs ow xs).φ r o k):∃j,G.φ 1 j k:=by
 rcases h with⟨_,_,_,_,_,h⟩|⟨_,_,_,h⟩<;>exact⟨_,h⟩
section
variable {P:Program} {M:Fm} {σ σ':St} {H:List TV} {xs:List Value} {ts:Array Value} {w:World} {G:Gh}
variable {pr:Nat->Option (Nat×Nat×Nat)} {bs:Nat->Nat} {ce:List (Nat×List TV)} {ow:Nat->Option Nat}
theorem FI.F(hh:FI H xs w G M.A pr bs ce ow){N k:Nat}(h:G.F M.A k):(G.into pr bs ow xs).F (M.into w G pr N).A k:=
 ⟨.inl h,λr o hφ=>by have ⟨j,h3⟩:=jo hφ;exact h.2.1 _ _ h3,λr b o n hb e=>hh.notF r b o n hb (e▸h)⟩
theorem pN{w:World}{b o:Nat}{v:Value}(h:w.cell? ⟨b,o,none⟩=some v):∃cur e fz,w.heap[b]?=some (.cells cur e fz)/\o<cur.size/\cur[o]?=some v:=by
 unfold World.cell? at h;split at h
 ·rename_i cur e fz hb
  grind
 ·simp at h
theorem Inv.enter(hI:Inv M σ H xs ts w G)(hh:FI H xs w G M.A pr bs ce ow){tm:List (Nat×TV)}{Zs:Array Value}{N:Nat}(hN:Zs.size=N)
 (ht:∀i,TmR w ((G.into pr bs ow xs).F (M.into w G pr N).A) (λ_=>0) (eE (M.into w G pr N) ⟨tm,ce,[]⟩ []) (G.into pr bs ow xs) ((eF tm i).getD .dead) (Zs.getD i undef)):
 Inv (M.into w G pr N) ⟨tm,ce,[]⟩ [] [] Zs w (G.into pr bs ow xs):=by
 have X5:∀r b o n,pr r=some (b,o,n)->r≠1:=λr b o n h e=>by have:=(hh.even r b o n h).1;omega
 have YO:∀r b o n,pr r=some (b,o,n)->ow r=none:=λr b o n h=>by
  cases e:ow r with
  |none=>rfl
  |some j=>have:=(hh.even r b o n h).1;have:=(hh.owc r j e).1;omega
 have hne:∀r l,eF ce r=some l->r≠1:=by
  intro r l h;rcases hh.only r l h with h1|h1
  ·cases hp:pr r with
   |none=>exact absurd hp h1
   |some x=>exact X5 r _ _ _ hp
  ·cases hp:ow r with
   |none=>exact absurd hp h1
   |some j=>exact(hh.owc r j hp).2.1
 have hcell:∀r o,eE (M.into w G pr N) ⟨tm,ce,[]⟩ [] r o=match eF ce r with|some l=>l.getD o .dead|none=>.dead:=by
  intro r o;unfold eE;split
  ·rename_i e
   cases hc:eF ce r with
   |none=>simp
   |some l=>exact absurd e (hne r l hc)
  ·rfl
 refine⟨⟨λr o=>?_,λr b o0 n hb=>?_,λr b o0 n hb o ho=>?_,λr r' b o n o' n' h1 h2=>hh.inj r b o n r' o' n' h1 h2,λr b o n hb r' o' hφ=>by obtain⟨j,h3⟩:=jo hφ;exact hh.notH r b o n hb _ h3,λr1 o1 r2 o2 k YW XB=>?_,λr o k hφ=>.inr (.inl (jo hφ))⟩,ht,?_,λr l h=>hne r l h,hN,rfl,λj hj=>by simp at hj,λr b o n hb l hl=>?_⟩
 ·rw[hcell]
  cases hc:eF ce r with
  |none=>
   left;refine⟨rfl,λk hk=>?_⟩
   rcases hk with⟨b1,p1,n1,h1,h2,h3⟩|⟨j,h1,_⟩
   ·obtain⟨l,h4,_⟩:=hh.cells r _ _ _ h1;rw[hc]at h4;simp at h4
   ·obtain⟨_,_,c,_,h4,_⟩:=hh.owc r j h1;rw[hc]at h4;simp at h4
  |some l=>
   cases hp:pr r with
   |none=>
    obtain⟨j,hj⟩:∃j,ow r=some j:=by
     rcases hh.only r l hc with h1|h1
     ·exact absurd hp h1
     ·cases e:ow r with
      |none=>exact absurd e h1
      |some j=>exact⟨j,rfl⟩
    obtain⟨_,_,c,hjl,h4,h5⟩:=hh.owc r j hj;rw[hc]at h4
    injection h4 with h4
    subst h4
    cases o with
    |zero=>
     right;have hown:=hI.hand_own hjl (by rw[h5];simp)
     have hval:(G.into pr bs ow xs).val w r 0=xs.getD j undef:=by
      unfold Gh.val Gh.into;simp only[hp,hj]
     rw[hval];simp only[List.getD_cons_zero];rw[h5]at hown;refine(hown.frame (λ_ _=>rfl) (λ_ _ _=>rfl) λk hk _=>hh.F hk).refp λk=>?_;constructor
     ·intro hk;exact .inr ⟨j,hj,rfl,hk⟩
     ·rintro(⟨b1,p1,n1,h1,_,_⟩|⟨j',h1,_,hk⟩)
      ·rw[hp]at h1;simp at h1
      ·rw[hj]at h1;injection h1 with h1;rw[h1];exact hk
    |succ o=>
     left;refine⟨by simp,λk hk=>?_⟩
     rcases hk with⟨b1,p1,n1,h1,_,_⟩|⟨j',_,h1,_⟩
     ·rw[hp]at h1;simp at h1
     ·omega
   |some x=>
    obtain⟨b,o0,n⟩:=x;obtain⟨l',h4,h5,h6⟩:=hh.cells r _ _ _ hp;rw[hc]at h4
    injection h4 with h4
    subst h4;by_cases ho:o<l.length
    ·right;obtain⟨h7,h8,h9⟩:=h6 o ho;have hown:=hI.hand_own h7 (by rw[<- h8];exact h9)
     have hval:(G.into pr bs ow xs).val w r o=xs.getD (bs r+o) undef:=by
      unfold Gh.val Gh.into;simp only[hp];rw[(hh.here r _ _ _ hp o (by omega)).1];rfl
     rw[hval]
     have e:l.getD o .dead=l[o]:=by simp[ho]
     simp only[e];rw[h8];refine(hown.frame (λ_ _=>rfl) (λ_ _ _=>rfl) λk hk _=>hh.F hk).refp λk=>?_;constructor
     ·intro hk;exact .inl ⟨b,o0,n,hp,by omega,hk⟩
     ·rintro(⟨_,_,_,_,_,hk⟩|⟨j',h1,_,_⟩)
      ·exact hk
      ·rw[YO r _ _ _ hp]at h1;simp at h1
    ·left;refine⟨by simp only[];rw[oGD,oGN (by omega)];rfl,λk hk=>?_⟩
     rcases hk with⟨b1,p1,n1,h1,h2,h3⟩|⟨j',h1,_,_⟩
     ·rw[hp]at h1
      injection h1 with h1
      injection h1 with _ h1
      injection h1 with _ h1
      omega
     ·rw[YO r _ _ _ hp]at h1;simp at h1
 ·have hn:=(hh.even r _ _ _ hb).2;have YQ:pr r=some (b,o0,n):=hb;obtain⟨cur,e,fz,h1,h2,h3⟩:=pN (hh.here r _ _ _ YQ (n-1) (by omega)).1;exact⟨cur,e,fz,h1,by omega,λj hj=>(hh.here r _ _ _ YQ j hj).2⟩
 ·have YQ:pr r=some (b,o0,n):=hb;rw[hcell];obtain⟨l,h1,h2,_⟩:=hh.cells r _ _ _ YQ;rw[h1];show l.getD o .dead=.dead;rw[oGD,oGN (by omega)];rfl
 ·rcases YW with⟨b1,p1,n1,h1,h2,h3⟩|⟨j1,h1,h2,h3⟩<;>rcases XB with⟨b2,p2,n2,k1,k2,k3⟩|⟨j2,k1,k2,k3⟩
  ·obtain⟨_,h5⟩:=hI.core.dis _ _ _ _ k h3 k3;have:=hh.apart _ _ _ _ _ _ _ _ h1 k1 _ _ h2 k2 h5;subst this;exact⟨rfl,by omega⟩
  ·obtain⟨_,h5⟩:=hI.core.dis _ _ _ _ k h3 k3;exact absurd h5 (hh.owa _ _ _ _ _ _ k1 h1 _ h2)
  ·obtain⟨_,h5⟩:=hI.core.dis _ _ _ _ k h3 k3;exact absurd h5.symm (hh.owa _ _ _ _ _ _ h1 k1 _ k2)
  ·obtain⟨_,h5⟩:=hI.core.dis _ _ _ _ k h3 k3;subst h5;exact⟨hh.owi _ _ _ h1 k1,by omega⟩
 ·refine⟨rfl,rfl,rfl,Nat.le_refl _,λ_ _ _ _=>rfl,λr b o n hp=>⟨hp,?_⟩,λr o k hφ=>.inl (jo hφ),λr b o n hb=>.inl hb,λr hb=>?_⟩
  ·have hn:=(hh.even r _ _ _ hp).2;obtain⟨cur,e,fz,h1,h2,h3⟩:=pN (hh.here r _ _ _ hp (n-1) (by omega)).1;exact⟨cur,cur,e,fz,h1,h1,rfl,λ_ _=>rfl⟩
  ·cases hp:pr r with
   |none=>exact absurd hp hb
   |some x=>exact(hh.even r _ _ _ hp).1
 ·obtain⟨l',h1,h2,_⟩:=hh.cells r _ _ _ hb;have YR:eF ce r=some l:=hl;rw[YR]at h1
  injection h1 with h1
  rw[h1];exact h2
end
structure Kf (H2:List TV)(ys:List Value)(H':List TV)(xs':List Value)(C2:Cs)(G2:Gh)(w2:World)(pr:Nat->Option (Nat×Nat×Nat))(bs:Nat->Nat):Prop where
 len:H'.length=xs'.length
 low:∀j (h:j<H2.length),∃h':j<H'.length,H'[j]=H2[j]/\xs'.getD j undef=ys.getD j undef
 cells:∀r b o n,pr r=some (b,o,n)->∀t,t<n->∃h:bs r+t<H'.length,H2.length<=bs r+t/\H'[bs r+t]=C2 r t/\xs'.getD (bs r+t) undef=G2.val w2 r t
 cover:∀j,j<H'.length->j<H2.length\/∃r b o n t,pr r=some (b,o,n)/\t<n/\j=bs r+t
 apart:∀r b o n r' b' o' n',pr r=some (b,o,n)->pr r'=some (b',o',n')->∀j j',j<n->j'<n'->bs r+j=bs r'+j'->r=r'
section
variable {P:Program} {M:Fm} {σ σ2:St} {H H2 H':List TV} {xs ys xs':List Value} {ts ts2:Array Value} {w w2 w':World} {G G2:Gh}
variable {pr:Nat->Option (Nat×Nat×Nat)} {bs bs2:Nat->Nat} {ce:List (Nat×List TV)} {N:Nat} {ow:Nat->Option Nat}
theorem Inv.leave(hI:Inv M σ H xs ts w G)(hh:FI H xs w G M.A pr bs ce ow)(h2:Inv (M.into w G pr N) σ2 H2 ys ts2 w2 G2)(ZW:Kf H2 ys H' xs' (eE (M.into w G pr N) σ2 H2) G2 w2 pr bs2)
 (hs:w'.heap.size=w2.heap.size)(ho:w'.os=w2.os)(Pk:w'.tape=w2.tape)(hu:w'.output=w2.output)(Ym:∀k,(∀r b o n,pr r=some (b,o,n)->k≠b)->w'.heap[k]?=w2.heap[k]?)
 (XW:∀r b o n,pr r=some (b,o,n)->w'.heap[b]?=w.heap[b]?):∃G',Inv M σ H' xs' ts w' G'/\j6 M w σ H G w' σ H' G'/\G'.β=G.β:=by
 have Xw:=h2.fram
 let f:Nat->Nat->Prop:=λj k=>(j<H2.length/\G2.φ 1 j k)\/∃r b o n t,pr r=some (b,o,n)/\t<n/\j=bs2 r+t/\G2.φ r t k
 have hfφ:∀j k,f j k->∃r o,G2.φ r o k:=by
  rintro j k (⟨_,h⟩|⟨r,b,o,n,t,_,_,_,h⟩)
  ·exact⟨_,_,h⟩
  ·exact⟨_,_,h⟩
 have hβ2:=λr b o n h=>(Xw.par r b o n h).1
 have Z7:∀r b o n,pr r=some (b,o,n)->r≠1:=λr b o n h e=>by have:=(hh.even r b o n h).1;omega
 have hφw:∀r o k,G2.φ r o k->w'.heap[k]?=w2.heap[k]?:=λr o k h=>Ym k λr' b o' n hp e=>h2.core.boxf r' b o' n (hβ2 _ _ _ _ hp) _ _ (e▸h);have Yh:∀k,G2.F (M.into w G pr N).A k->w'.heap[k]?=w2.heap[k]?:=λk h=>Ym k λr' b o' n hp e=>h.2.2 r' b o' n (hβ2 _ _ _ _ hp) e
 obtain⟨G',a1,a2,a3,_⟩:=hI.rehandL (w':=w') (H':=H') (xs':=xs') (f:=f) (Fx:=G2.F (M.into w G pr N).A)
  (λk hk hn=>by
   by_cases hp:∃r b o n,pr r=some (b,o,n)/\k=b
   ·obtain⟨r,b,o,n,hp,rfl⟩:=hp;exact XW r k o n hp
   ·have hp':∀r b o n,pr r=some (b,o,n)->k≠b:=λr b o n h e=>hp ⟨r,b,o,n,h,e⟩;rw[Ym k hp']
    exact Xw.old k hk (λ⟨j,hj⟩=>hn j hj) hp')
  (by rw[hs];exact Xw.size) (ho.trans Xw.os) (Pk.trans Xw.tape) (hu.trans Xw.output) ZW.len
  (λj k h=>by
   refine⟨?_,?_⟩
   ·rcases h with⟨h,_⟩|⟨r,b,o,n,t,hp,ht,rfl,_⟩
    ·exact(ZW.low j h).1
    ·exact(ZW.cells r b o n hp t ht).1
   ·obtain⟨r,o,hφ⟩:=hfφ j k h
    exact Xw.own r o k hφ)
  (λj j' k h h'=>by
   rcases h with⟨h1,h3⟩|⟨r,b,o,n,t,hp,ht,rfl,h3⟩
   ·rcases h' with⟨k1,k3⟩|⟨r',b',o',n',t',hp',ZL,rfl,k3⟩
    ·exact(h2.core.dis _ _ _ _ k h3 k3).2
    ·exact absurd (h2.core.dis _ _ _ _ k h3 k3).1.symm (Z7 _ _ _ _ hp')
   ·rcases h' with⟨k1,k3⟩|⟨r',b',o',n',t',hp',ZL,rfl,k3⟩
    ·exact absurd (h2.core.dis _ _ _ _ k h3 k3).1 (Z7 _ _ _ _ hp)
    ·obtain⟨e1,e2⟩:=h2.core.dis _ _ _ _ k h3 k3
     rw[e1,e2])
  (λk h=>⟨h.1,λj hf=>by obtain⟨r,o,hφ⟩:=hfφ j k hf;exact h.2.1 r o hφ⟩)
  (λj hj=>by
   rcases ZW.cover j hj with h|⟨r,b,o,n,t,hp,ht,rfl⟩
   ·obtain⟨_,e1,e2⟩:=ZW.low j h
    have YO:∀k,f j k↔G2.φ 1 j k:=λk=>by
     constructor
     ·rintro(⟨_,h⟩|⟨r,b,o,n,t,hp,ht,e,_⟩)
      ·exact h
      ·have:=(ZW.cells r b o n hp t ht).2.1;omega
     ·exact λhk=>.inl ⟨h,hk⟩
    by_cases hd:H2[j]=.dead
    ·left;refine⟨e1.trans hd,λk hk=>?_⟩;refine h2.phi_dead (r:=1) (o:=j) ?_ k ((YO k).1 hk);rw[show(1:Nat)=(M.into w G pr N).hr from rfl,mc];simp[h,hd]
    ·right;have:=h2.hand_own h hd;rw[e1,e2];exact(this.frame (λk hk=>hφw _ _ k hk) (λk hk _=>Yh k hk) λk hk _=>hk).refp λk=>(YO k).symm
   ·obtain⟨h1,h3,h4,h5⟩:=ZW.cells r b o n hp t ht
    have YO:∀k,f (bs2 r+t) k↔G2.φ r t k:=λk=>by
     constructor
     ·rintro(⟨h,_⟩|⟨r',b',o',n',t',hp',ZL,e,hk⟩)
      ·omega
      ·have:=ZW.apart _ _ _ _ _ _ _ _ hp hp' _ _ ht ZL e
       simp_all
     ·exact λhk=>.inr ⟨r,b,o,n,t,hp,ht,rfl,hk⟩
    rw[h4,h5]
    rcases h2.core.cell r t with⟨c1,c2⟩|c1
    ·left;exact⟨c1,λk hk=>c2 k ((YO k).1 hk)⟩
    ·right
     exact(c1.frame (λk hk=>hφw _ _ k hk) (λk hk _=>Yh k hk) λk hk _=>hk).refp λk=>(YO k).symm)
 exact⟨G',a1,a2,a3⟩
end
def pU:TV->Bool
 |.v _=>true
 |.sl _=>true
 |.ip _=>true
 |.ow []=>true
 |.fn _ l=>l.all Cq
 |.agg l=>l.all λt=>match t with|.v _=>true|.sl _=>true|_=>false
 |_=>false
def ME:TV->Bool
 |.pk _ _=>true
 |.ow []=>true
 |_=>false
def argV(x:Option Nat×Opd):SP TV:=(opd x.2).bind λt=>if x.1==some 0&&ME t then .ret t else match t with
 |.ip cs=>.ret (.ip cs)
 |.fn f cap=>.ret (.fn f cap)
 |.ptr p vs=>.ret (.ptr p vs)
 |t=>(takeV false t).bind λl=>.ret (oh l.2 (l.1.map TV.imm))
def argVs:List (Option Nat×Opd)->SP (List TV)
 | []=>.ret []
 |x::r=>(argV x).bind λt=>(argVs r).bind λl=>.ret (t::l)
def takeOwns:Nat->List (Option Nat×TV)->SP (List (Nat×TV))
 |_,[]=>.ret []
 |i,(some 0,.pk p vs)::r=>(take1 true (.pk p vs)).bind λt=>if mj t then(takeOwns (i+1) r).bind λq=>.ret ((i,t)::q)else .fail
 |i,_::r=>takeOwns (i+1) r
structure GP where
 i:Nat
 p:dW
 vs:List Nat
 cells:List TV
def Bl(p:dW):Nat->SP (List TV)
 |0=>.ret []
 |n+1=>(getPl p).bind λt=>(peek1 p t).bind λt'=>(take1 true t').bind λt2=>match n with
  |0=>.ret [t2]
  |_=>if p.fits 1 then(Bl (p.add 1) n).bind λr=>.ret (t2::r)else .fail
def dW.base(p:dW):dW:=⟨p.root,p.off,[]⟩
def Ln(p:dW)(n:Nat):Nat:=match p.hops with
 | []=>n
 |_::_=>1
def rooted(p:dW):SP Unit:=match p.hops with
 | []=>.ret ()
 |_::_=>.rdT ((p.root-2)/2) λt=>match t with
  |.ptr q ws=>if q.root==p.root&&q.hops.isEmpty then chk q 0 ws else .fail
  |_=>.fail
def grabs:Nat->List (Option Nat×TV)->SP (List GP)
 |_,[]=>.ret []
 |i,(some n,.ptr p vs)::r=>(chk p p.hops.length vs).bind λ_=>(rooted p).bind λ_=>(Bl p.base (Ln p n)).bind λl=>(grabs (i+1) r).bind λq=>.ret (⟨i,p.base,vs.take 1,l⟩::q)
 |i,(some 0,.pk _ _)::r=>grabs (i+1) r
 |i,(_,t)::r=>if pU t then grabs (i+1) r else .fail
def touch(p:dW):SP Unit:=.rdC p.root p.off λtv=>.wrC p.root p.off tv (.ret ())
def rechk:List GP->SP Unit
 | []=>.ret ()
 |g::r=>(chk g.p g.p.hops.length g.vs).bind λ_=>(touch g.p).bind λ_=>rechk r
def mI:List Nat->Bool
 | []=>true
 |x::r=>!r.contains x&&mI r
def argT(i:Nat):TV->TV
 |.ptr p _=>.ptr ⟨2*i+2,0,p.hops⟩ (List.replicate (p.hops.length+1) 0)
 |.pk _ _=>.pk ⟨2*i+3,0,[]⟩ [0,0]
 |t=>t
def argTs:Nat->List TV->List TV
 |_,[]=>[]
 |i,t::r=>argT i t::argTs (i+1) r
def f8{α:Type}:Nat->List α->List (Nat×α)
 |_,[]=>[]
 |i,t::r=>(i,t)::f8 (i+1) r
def mkSt(vals:List TV)(pts:Pts):St:=⟨f8 0 vals,pts,[]⟩
def DL:TV->Bool
 |.dead=>true
 |_=>false
def putBack:List (GP×List TV)->SP Unit
 | []=>.ret ()
 |(g,l)::r=>(putBack r).bind λ_=>if l.length=g.cells.length&&l.all λt=>!DL t then putL g.p l else .fail
def jh:List RSh->List TV->List TV
 | [],_=>[]
 |.one::r,l=>l.headD .dead::jh r l.tail
 |.agg n::r,l=>.agg (l.take n)::jh r (l.drop n)
 |.ptr::r,l=>.dead::jh r l
def qM(sh:List RSh)(l:List TV):TV:=
 match jh sh l with
 | [x]=>x
 |l=>.tup l
def oP:List RSh->Nat->Bool
 | [],n=>n==0
 |.one::r,n=>decide (0<n)&&oP r (n-1)
 |.agg m::r,n=>decide (m<=n)&&oP r (n-m)
 |.ptr::_,_=>false
def landR(dst:Option Nat)(res:FH):SP Unit:=
 match dst with
 |some d=>(names d res.cells).bind λl=>wr d (qM res.sh l)
 |none=>.ret ()
def isP(r:FH):Bool:=match r.sh,r.cells with
 |.ptr::_,.ptr _ _::_=>true
 |_,_=>false
def landP(dst:Option Nat)(q:List GP)(cells:List TV):SP Unit:=
 match dst with
 |none=>.ret ()
 |some d=>match cells,q with
  |.ptr pl _::l,[g]=>if pl.root==2*g.i+2&&g.p.hops.isEmpty then(rdVs (oS g.p.root (g.p.off+pl.off) pl.hops.length)).bind λvs=>wr d (Dy (.ptr ⟨g.p.root,g.p.off+pl.off,pl.hops⟩ vs) l)else .fail
  |_,_=>.fail
def callV(F:fq)(dst:Option Nat)(f:FuncId)(ns:List (Option Nat))(vals:List TV):SP Unit:=
 (takeOwns 0 (ns.zip vals)).bind λow=>(grabs 0 (ns.zip vals)).bind λq=>(rechk q).bind λ_=>
  if mI (q.map (·.p.root))&&q.all (λg=>decide (0<g.cells.length))then
   (jZ (F f (argTs 0 vals) (q.map (λg=>(2*g.i+2,g.cells))++ow.map λx=>(2*x.1+3,[x.2])))).bind λr=>
    if r.2.map (·.1)=q.map (λg=>2*g.i+2)++ow.map (λx=>2*x.1+3)&&(isP r.1||oP r.1.sh r.1.cells.length)then(putBack (q.zip (r.2.map (·.2)))).bind λ_=>if isP r.1 then landP dst q r.1.cells else landR dst r.1 else .fail
  else .fail
inductive BxC where
 |arg (i:Nat)
 |val (x:Value)
structure Env where
 box:FuncId->Option (Nat×List BxC)
 ps:FuncId->List (Option Nat)
def bxT(vals:List TV):BxC->TV
 |.arg i=>vals.getD i .dead
 |.val x=>.v x
def bxV(asq:List Value):BxC->Value
 |.arg i=>asq.getD i undef
 |.val x=>x
def evBox(dst:Option Nat)(tm:List BxC)(vals:List TV):SP Unit:=
 match dst with
 |some d=>(takeL false (tm.map (bxT vals))).bind λl=>.new (2*d+2) l (.rdV (2*d+2,0,0) λg=>wr d (.ptr ⟨2*d+2,0,[]⟩ [g]))
 |none=>.fail
def JH(E:Env)(f:FuncId)(n m:Nat):List (Option Nat):=(List.range m).map λk=>(E.ps f).getD (n+k) none
def see1:TV->SP TV
 |.v x=>.ret (.v x)
 |.sl c=>.ret (.sl c)
 |.ow []=>.ret (.sl [])
 |.pk p vs=>(chk p (p.hops.length+1) vs).bind λ_=>.rdC p.root p.off λtv=>match ek tv p.hops with|some (.ow c)=>.ret (TV.ow c).imm|_=>.fail
 |_=>.fail
def seeL:List TV->SP (List TV)
 | []=>.ret []
 |t::r=>(see1 t).bind λt'=>(seeL r).bind λl=>.ret (t'::l)
def seeA:TV->SP TV
 |.agg l=>(seeL l).bind λl'=>.ret (.agg l')
 |.ip cs=>.ret (.ip cs)
 |.fn f cap=>if cap.all Cq then .ret (.fn f cap)else .fail
 |t=>see1 t
def seeAs:List Opd->SP (List TV)
 | []=>.ret []
 |x::r=>(opd x).bind λt=>(seeA t).bind λt'=>(seeAs r).bind λl=>.ret (t'::l)
def callB(F:fq)(dst:Option Nat)(f:FuncId)(vals:List TV):SP Unit:=
 (jZ (F f vals [])).bind λr=>if r.2.length=0&&r.1.cells.all BO&&oP r.1.sh r.1.cells.length then(match dst with|some d=>wr d (qM r.1.sh r.1.cells)|none=>.ret ())else .fail
def evCall(E:Env)(F:fq)(dst:Option Nat):TOp->SP Unit
 |.call k (.f f) args=>
  if k then(argVs args).bind λvals=>match E.box f with
   |some x=>if vals.length=x.1 then evBox dst x.2 vals else .fail
   |none=>callV F dst f (args.map (·.1)) vals
  else(seeAs (args.map (·.2))).bind λvals=>callB F dst f vals
 |.call _ (.t i) args=>.rdT i λt=>match t with
  |.fn f caps=>(argVs args).bind λvals=>callV F dst f (args.map (·.1)++JH E f args.length caps.length) (vals++caps)
  |_=>.fail
 |_=>.fail
section
variable {P:Program} {M:Fm} {σ σ':St} {H:List TV} {xs:List Value} {ts:Array Value} {w:World} {G:Gh} {a:Act} {o:Oper}
theorem Lr(hI:Inv M σ [] [] a.tmps w G){x:Option Nat×Opd}{x':Operand}(hx:dN x'=some x.2){t:TV}(hr:(argV x).run σ=some (t,σ')):
 ∃G',lL M w a.tmps σ [] G σ' [] [] G'/\TmR w (G'.F M.A) σ'.v (eE M σ' []) G' t (a.eval x'):=by
 unfold argV at hr;obtain⟨t0,σ1,h1,h2⟩:=dE hr;obtain⟨rfl,ht⟩:=eY hI.tmr hx h1
 have VN:∀(l:List TV×Bool)(σ2:St),(takeV false t0).run σ1=some (l,σ2)->t=oh l.2 (l.1.map TV.imm)->σ'=σ2->∃G',lL M w a.tmps σ1 [] G σ' [] [] G'/\TmR w (G'.F M.A) σ'.v (eE M σ' []) G' t (a.eval x'):=by
  rintro l σ2 h3 rfl rfl;obtain⟨xs,G1,hg,hsh,hok,Zq⟩:=Dk hI ht h3;obtain⟨G2,ZG,ZM⟩:=hg.1.dropImm (sq hok);refine⟨G2,hg.trans ZG,?_⟩;have hlen:=hg.1.hand
  rcases hsh with⟨e1,e2⟩|⟨e1,y,e2,e3⟩
  ·rw[e1,e2];simp only[oh,if_true];refine .agg (by simp[hlen]) λj hj=>?_
   have ZQ:j<l.1.length:=by simpa using hj
   have:=ZM j ZQ;simp only[List.getElem_map]
   have e:xs.toArray.getD j undef=xs.getD j undef:=by simp
   rw[e];exact this.toTm
  ·rw[e1,e3];subst e2
   have Xp:l.1.length=1:=by simpa using hlen
   obtain⟨t1,X7⟩:∃t1,l.1=[t1]:=List.length_eq_one_iff.1 Xp;have:=ZM 0 (by omega);simp only[X7,List.getElem_cons_zero,List.getD_cons_zero]at this;simp only[X7,oh,List.map_cons,List.map_nil,List.headD_cons];exact this.toTm
 have Yf:t=t0->σ'=σ1->∃G',lL M w a.tmps σ1 [] G σ' [] [] G'/\TmR w (G'.F M.A) σ'.v (eE M σ' []) G' t (a.eval x'):=by
  rintro rfl rfl;exact⟨G,lL.refl hI,ht⟩
 split at h2
 ·simp only[SP.run,oSJ,oPJ]at h2;exact Yf h2.1.symm h2.2.symm
 cases t0 with
 |ip cs=>
  simp only[SP.run,oSJ,oPJ]at h2;exact Yf h2.1.symm h2.2.symm
 |fn f cap=>
  simp only[SP.run,oSJ,oPJ]at h2;exact Yf h2.1.symm h2.2.symm
 |ptr p vs=>
  simp only[SP.run,oSJ,oPJ]at h2;exact Yf h2.1.symm h2.2.symm
 |_=>
  simp only at h2;obtain⟨l,σ2,h3,h4⟩:=dE h2;simp only[SP.run,oSJ,oPJ]at h4;exact VN l σ2 h3 h4.1.symm h4.2.symm
theorem Ec:∀{l:List (Option Nat×Opd)}{l':List Operand}{Zs:List TV}{σ σ':St}{G:Gh},Inv M σ [] [] a.tmps w G->l'.length=l.length->(∀j (h:j<l.length)(h':j<l'.length),dN l'[j]=some l[j].2)->(argVs l).run σ=some (Zs,σ')->
 ∃G',lL M w a.tmps σ [] G σ' [] [] G'/\Zs.length=l.length/\∀j (h:j<Zs.length)(h':j<l'.length),TmR w (G'.F M.A) σ'.v (eE M σ' []) G' Zs[j] (a.eval l'[j]):=by
 intro l
 induction l with
 |nil=>
  intro l' Zs σ σ' G hI hl hc hr;obtain⟨rfl,rfl⟩:=hr;exact⟨G,lL.refl hI,rfl,λj h=>by simp at h⟩
 |cons x l ih=>
  intro l' Zs σ σ' G hI hl hc hr
  cases l' with
  |nil=>simp at hl
  |cons x' l'=>
   simp only[argVs]at hr;obtain⟨t,σ1,h1,h2⟩:=dE hr;obtain⟨r,σ2,h3,h4⟩:=dE h2;obtain⟨rfl,rfl⟩:=h4;obtain⟨G1,Zv,X7⟩:=Lr hI (by have:=hc 0 (by simp) (by simp);simpa using this) h1;obtain⟨G2,ZG,e,Pm⟩:=ih (l':=l') Zv.1 (by simpa using hl) (λj h h'=>by have:=hc (j+1) (by simpa using h) (by simp_all);simpa using this) h3;refine⟨G2,Zv.trans ZG,by simp[e],λj h h'=>?_⟩
   cases j with
   |zero=>exact ZG.tm X7
   |succ j=>exact Pm j (by simpa using h) (by simp_all)
end
section
variable {P:Program} {M:Fm} {σ σ':St} {H:List TV} {xs:List Value} {ts:Array Value} {w:World} {G:Gh} {a:Act} {o:Oper}
theorem Er{t t' t2:TV}{p:dW}{y:TV×St}(hp:(peek1 p t).run σ=some (t',σ'))(hr:(take1 true t').run σ=some y):jp y.2.v p.root p.off p.hops.length=jp σ.v p.root p.off p.hops.length:=by
 cases t with
 |v x=>
  obtain⟨rfl,rfl⟩:=hp;simp only[take1,SP.run,oSJ]at hr;rw[<- hr]
 |sl c=>
  obtain⟨rfl,rfl⟩:=hp;simp only[take1,SP.run,oSJ]at hr;rw[<- hr]
 |ow c=>
  simp only[peek1]at hp;obtain⟨vs,σ1,h1,h2⟩:=dE hp;obtain⟨rfl,_⟩:=h2;obtain⟨_,σ2,h3,h4⟩:=dE hr;have e1:σ2=σ:=(d8 h3).1;subst e1;simp only[SP.run]at h4;split at h4
  ·simp only[if_true]at h4;obtain⟨l,hl,ho,h5⟩:=ew h4;simp only[SP.run,oSJ]at h5;rw[j8]
   have hv:∀q,y.2.v q=σ2.v q+if(p.root,p.off,p.hops.length+1)=q then 1 else 0:=λq=>by rw[<- h5];exact gc σ2.vr _ q
   refine⟨by simp_all,λd hd=>?_⟩;rw[hv,oIN]
   ·omega
   ·intro e
    simp_all
  ·simp[SP.run]at h4
 |_=>simp[peek1,SP.run]at hp
theorem Ju:∀{n:Nat}{p:dW}{ad:Addr}{l:List TV}{σ σ':St}{H:List TV}{xs:List Value}{G:Gh},Inv M σ H xs ts w G->p.root≠1->G.addr w p=some ad->(Bl p n).run σ=some (l,σ')->
 l.length=n/\∃us G',lL M w ts σ H G σ' (H++l) (xs++us) G'/\us.length=n/\(∀j (h:j<us.length),w.cell? ⟨ad.block,ad.off+j,none⟩=some us[j]/\w.frozen? ⟨ad.block,ad.off+j,none⟩=false)/\∀j (h:j<l.length),ff l[j]=true\/mj l[j]=true:=by
 intro n
 induction n with
 |zero=>
  intro p ad l σ σ' H xs G hI h1 ha hr;obtain⟨rfl,rfl⟩:=hr;exact⟨rfl,[],G,by simpa using lL.refl hI,rfl,λj h=>by simp at h,λj h=>by simp at h⟩
 |succ n ih=>
  intro p ad l σ σ' H xs G hI h1 ha hr;simp only[Bl]at hr;obtain⟨t,σ1,h2,h3⟩:=dE hr;obtain⟨e1,hg⟩:=fA h2;have e1:σ1=σ:=e1;subst e1;obtain⟨t',σ2,h4,h5⟩:=dE h3;have hd:=pH h4;obtain⟨hB,u,fp,Y4,hown,hv⟩:=hI.named h1 ha hg hd;obtain⟨rfl,ZL⟩:=qQ hI h1 hg hown hv h4;obtain⟨t2,σ3,h6,h7⟩:=dE h5;have X2:=Er (t2:=t2) h4 h6;obtain⟨G1,Zv,Zq⟩:=ir hI ZL h6
  have U0:ek (eE M σ2 H p.root p.off) p.hops=some t:=by rw[eu (by exact h1)];exact hg
  obtain⟨u0,ZB,ZE,Ov,Xz,_⟩:=hI.core.set p hB U0;obtain⟨_,XN,_⟩:=Zv.2.2.1.ptr p ad t h1 X2 ha U0
  have Zd:(⟨ad.block,ad.off+0,none⟩:Addr)=ad:=by obtain⟨b,o,s⟩:=ad;simp only at ZE;subst ZE;rfl
  have hcell:=j9 h6
  cases n with
  |zero=>
   obtain⟨rfl,rfl⟩:=h7;refine⟨rfl,[u],G1,Zv,rfl,λj h=>?_,λj h=>?_⟩
   ·obtain rfl:j=0:=by simp at h;omega
    rw[Zd];exact⟨Y4,Xz⟩
   ·obtain rfl:j=0:=by simp at h;omega
    exact hcell
  |succ n=>
   simp only at h7;split at h7
   ·obtain⟨r,σ4,h8,h9⟩:=dE h7;obtain⟨rfl,rfl⟩:=h9;obtain⟨e2,us,G2,ZG,e3,e4,e5⟩:=ih Zv.1 (by rw[fi];exact h1) (mQ 1 XN) h8;refine⟨by simp[e2],u::us,G2,by simpa using Zv.trans ZG,by simp[e3],λj h=>?_,λj h=>?_⟩
    ·cases j with
     |zero=>rw[Zd];exact⟨Y4,Xz⟩
     |succ j=>
      have:=e4 j (by simpa using h);simp only[List.getElem_cons_succ];rw[show ad.off+(j+1)=ad.off+1+j by omega];exact this
    ·cases j with
     |zero=>exact hcell
     |succ j=>exact e5 j (by simpa using h)
   ·simp[SP.run]at h7
theorem Fk{r o:Nat}{c:List (List TV)}{l:List TV}(hc:σ.c r o=.ow c)(h:(Bl ⟨r,o,[]⟩ 1).run σ=some (l,σ')):l=[.ow c]:=by
 simp only[Bl]at h;obtain⟨t,σ1,h1,h2⟩:=dE h;obtain⟨e1,hg⟩:=fA h1;subst e1;simp only[hc,ek,oSJ]at hg;subst hg;obtain⟨t',σ2,h3,h4⟩:=dE h2;obtain⟨vs,σ3,h5,h6⟩:=dE h3;obtain⟨rfl,rfl⟩:=h6;rw[tV]at h5
 injection h5 with h5
 injection h5 with _ h5
 subst h5;obtain⟨t2,σ4,h7,h8⟩:=dE h4;simp only[SP.run,oSJ,oPJ]at h8;rw[<- h8.1];obtain⟨_,σ5,h9,ZN⟩:=dE h7;have e2:σ5=σ1:=(d8 h9).1;subst e2;simp only[SP.run,hc,ek,if_true]at ZN;split at ZN
 ·simp_all
 ·cases ZN
theorem GE(hI:Inv M σ H xs ts w G){p:dW}(h:(rooted p).run σ=some ((),σ')):σ'=σ/\(p.hops≠[]->∃b o n,G.β p.root=some (b,o,n)):=by
 obtain⟨r,o,hops⟩:=p
 cases hops with
 |nil=>
  simp only[rooted,SP.run,oSJ,oPJ,true_and]at h
  simp_all
 |cons hp hs=>
  simp only[rooted,SP.run]at h;have ht:=hI.tmr ((r-2)/2)
  cases hq:σ.t ((r-2)/2)with
  |ptr q ws=>
   rw[hq]at h ht;simp only at h;split at h
   ·rename_i hc;simp at hc;have e1:σ'=σ:=(d8 h).1;have e2:=(d8 h).2;refine⟨e1,λ_=>?_⟩
    cases ht with
    |ptr V0 h0 hv hok=>
     obtain⟨_,ad,t,ha,_,_⟩:=hok (by rw[hc.2];exact e2);unfold Gh.addr at ha;rw[hc.2]at ha;rw[<- hc.1]
     cases hb:G.β q.root with
     |none=>rw[hb]at ha;simp at ha
     |some y=>obtain⟨b,o,n⟩:=y;exact⟨b,o,n,rfl⟩
   ·simp[SP.run]at h
  |_=>rw[hq]at h;simp[SP.run]at h
inductive sy (w:World):Nat->List TV->List Value->List (GP×Addr)->List Value->Prop
 |nil (i:Nat):sy w i [] [] [] []
 |ptr {i:Nat} {p:dW} {hp:List Hop} {vs vs0:List Nat} {cells:List TV} {ad ad0:Addr} {u:List Value} {ts:List TV} {xs:List Value} {K:List (GP×Addr)} {us:List Value} (hr:p.root≠1) (hb:p.hops=[]) (hs:ad.spot=none) (h0:hp=[]->ad0=ad)
  (hh:hp≠[]->eL w ((w.cell? ⟨ad.block,ad.off,none⟩).getD undef) hp=some ad0/\∃t,ek (cells.getD 0 .dead) hp=some t)(hu:u.length=cells.length)
  (hc:∀j (h:j<u.length),w.cell? ⟨ad.block,ad.off+j,none⟩=some u[j]/\w.frozen? ⟨ad.block,ad.off+j,none⟩=false)(hok:∀j (h:j<cells.length),ff cells[j]=true\/mj cells[j]=true)
  (h:sy w (i+1) ts xs K us):sy w i (.ptr ⟨p.root,p.off,hp⟩ vs0::ts) (.pointer (some ad0)::xs) ((⟨i,p,vs,cells⟩,ad)::K) (u++us)
 |arg {i:Nat} {t:TV} {x:Value} {ts:List TV} {xs:List Value} {K:List (GP×Addr)} {us:List Value} (ha:pU t=true) (h:sy w (i+1) ts xs K us):sy w i (t::ts) (x::xs) K us
 |own {i:Nat} {p:dW} {vs:List Nat} {x:Value} {ts:List TV} {xs:List Value} {K:List (GP×Addr)} {us:List Value} (h:sy w (i+1) ts xs K us):sy w i (.pk p vs::ts) (x::xs) K us
inductive Il:Nat->List (Option Nat×TV)->List Value->List (Nat×TV)->List Value->Prop
 |nil (i:Nat):Il i [] [] [] []
 |own {i:Nat} {p:dW} {vs:List Nat} {l:List (Option Nat×TV)} {x:Value} {xs:List Value} {c:List (List TV)} {ow:List (Nat×TV)} {zs:List Value} (h:Il (i+1) l xs ow zs):Il i ((some 0,.pk p vs)::l) (x::xs) ((i,.ow c)::ow) (x::zs)
 |skip {i:Nat} {y:Option Nat×TV} {l:List (Option Nat×TV)} {x:Value} {xs:List Value} {ow:List (Nat×TV)} {zs:List Value} (h:Il (i+1) l xs ow zs):Il i (y::l) (x::xs) ow zs
theorem xK{i:Nat}{y:Option Nat×TV}{l:List (Option Nat×TV)}(hn:∀p vs,y≠(some 0,.pk p vs)):takeOwns i (y::l)=takeOwns (i+1) l:=by
 have ⟨n,t⟩:=y
 cases t with
 |pk p vs=>
  cases n with
  |none=>rfl
  |some n=>
   cases n with
   |zero=>simp_all
   |succ n=>rfl
 |_=>cases n with
  |none=>rfl
  |some n=>cases n<;>rfl
theorem BR:∀{l:List (Option Nat×TV)}{asq:List Value}{i:Nat}{ow:List (Nat×TV)}{σ σ':St}{H:List TV}{xs:List Value}{G:Gh},Inv M σ H xs ts w G->asq.length=l.length->(∀j (h:j<l.length)(h':j<asq.length),TmR w (G.F M.A) σ.v (eE M σ H) G l[j].2 asq[j])->(takeOwns i l).run σ=some (ow,σ')->
 ∃zs G',lL M w ts σ H G σ' (H++ow.map (·.2)) (xs++zs) G'/\Il i l asq ow zs/\∀(j:Nat)(p:dW)(vs:List Nat),l[j]?=some (some 0,TV.pk p vs)->∃x∈ow,x.1=i+j:=by
 intro l
 induction l with
 |nil=>
  intro asq i ow σ σ' H xs G hI hl _ hr;obtain⟨rfl,rfl⟩:=hr;have:asq=[]:=oEN (by simpa using hl);subst this;exact⟨[],G,by simpa using lL.refl hI,.nil i,λj p vs h=>by simp at h⟩
 |cons y l ih=>
  intro asq i ow σ σ' H xs G hI hl ht hr
  cases asq with
  |nil=>simp at hl
  |cons x asq=>
   have UF:=ht 0 (by simp) (by simp);simp only[List.getElem_cons_zero]at UF;by_cases hp:∃p vs,y=(some 0,.pk p vs)
   ·obtain⟨p,vs,rfl⟩:=hp;simp only[takeOwns]at hr;obtain⟨t,σ1,h1,h2⟩:=dE hr;split at h2
    case isFalse=>simp[SP.run]at h2
    rename_i RX;obtain⟨q,σ2,h3,h4⟩:=dE h2;obtain⟨rfl,rfl⟩:=h4
    obtain⟨c,rfl⟩:∃c,t=.ow c:=by cases t<;>simp[mj]at RX;exact⟨_,rfl⟩
    obtain⟨G1,Zv,_⟩:=ir hI UF h1;obtain⟨zs,G2,ZG,k1,k2⟩:=ih (asq:=asq) Zv.1 (by simpa using hl) (λj h h'=>Zv.tm (by have:=ht (j+1) (by simpa using h) (by simpa using h');simpa only [List.getElem_cons_succ]using this)) h3;refine⟨x::zs,G2,by simpa[List.append_assoc]using Zv.trans ZG,.own k1,λj p vs h=>?_⟩
    cases j with
    |zero=>exact⟨_,List.mem_cons_self,rfl⟩
    |succ j=>
     obtain⟨z,h5,h6⟩:=k2 j p vs (by simpa using h);exact⟨z,List.mem_cons_of_mem _ h5,by omega⟩
   ·have hn:=λp vs e=>hp ⟨p,vs,e⟩;rw[xK hn]at hr;obtain⟨zs,G2,ZG,k1,k2⟩:=ih (asq:=asq) hI (by simpa using hl) (λj h h'=>by have:=ht (j+1) (by simpa using h) (by simpa using h');simpa only [List.getElem_cons_succ]using this) hr;refine⟨zs,G2,ZG,.skip k1,λj p vs h=>?_⟩
    cases j with
    |zero=>exact absurd (by simpa using h) (hn p vs)
    |succ j=>
     obtain⟨z,h5,h6⟩:=k2 j p vs (by simpa using h);exact⟨z,h5,by omega⟩
theorem Js:∀{l:List (Option Nat×TV)}{i:Nat}{q:List GP}{σ σ':St},(grabs i l).run σ=some (q,σ')->∀(j:Nat)(n:Option Nat)(p:dW)(vs:List Nat),l[j]?=some (n,TV.pk p vs)->n=some 0:=by
 intro l
 induction l with
 |nil=>simp_all
 |cons y l ih=>
  intro i q σ σ' hr j n p vs h;obtain⟨m,t⟩:=y
  cases j with
  |zero=>
   simp at h;obtain⟨rfl,rfl⟩:=h
   cases m with
   |none=>simp[grabs,pU,SP.run]at hr
   |some m=>
    cases m with
    |zero=>rfl
    |succ m=>simp[grabs,pU,SP.run]at hr
  |succ j=>
   have hj:l[j]?=some (n,.pk p vs):=by simpa using h
   have Yu:∀{σ1 σ2:St}{q1:List GP},(grabs (i+1) l).run σ1=some (q1,σ2)->n=some 0:=λh1=>ih h1 j n p vs hj
   have arg:((if pU t then grabs (i+1) l else .fail:SP (List GP))).run σ=some (q,σ')->n=some 0:=by
    intro h1;split at h1
    ·exact Yu h1
    ·simp[SP.run]at h1
   cases t with
   |ptr p2 SR=>
    cases m with
    |none=>exact arg hr
    |some m=>
     obtain⟨_,σ1,h1,h2⟩:=dE hr;obtain⟨_,σ0,_,h2⟩:=dE h2;obtain⟨cells,σ2,h3,h4⟩:=dE h2;obtain⟨q1,σ3,h5,h6⟩:=dE h4;exact Yu h5
   |pk p2 SR=>
    cases m with
    |none=>exact arg hr
    |some m=>
     cases m with
     |zero=>exact Yu hr
     |succ m=>exact arg hr
   |_=>cases m with
    |none=>exact arg hr
    |some m=>cases m<;>exact arg hr
theorem Jt:∀{l:List (Option Nat×TV)}{asq:List Value}{i:Nat}{q:List GP}{σ σ':St}{H:List TV}{xs:List Value}{G:Gh},Inv M σ H xs ts w G->asq.length=l.length->(∀j (h:j<l.length)(h':j<asq.length),TmR w (G.F M.A) σ.v (eE M σ H) G l[j].2 asq[j])->(grabs i l).run σ=some (q,σ')->
 ∃us G' K,lL M w ts σ H G σ' (H++q.flatMap (·.cells)) (xs++us) G'/\K.map (·.1)=q/\sy w i (l.map (·.2)) asq K us/\∀x∈K,TmR w (G'.F M.A) σ'.v (eE M σ' (H++q.flatMap (·.cells))) G' (.ptr x.1.p x.1.vs) (.pointer (some x.2)):=by
 intro l
 induction l with
 |nil=>
  intro asq i q σ σ' H xs G hI hl _ hr;obtain⟨rfl,rfl⟩:=hr;have:asq=[]:=oEN (by simpa using hl);subst this;exact⟨[],G,[],by simpa using lL.refl hI,rfl,.nil i,λx hx=>by simp at hx⟩
 |cons x l ih=>
  intro asq i q σ σ' H xs G hI hl ht hr
  cases asq with
  |nil=>simp at hl
  |cons y asq=>
   obtain⟨n,t⟩:=x;have UF:=ht 0 (by simp) (by simp);simp only[List.getElem_cons_zero]at UF
   have ZT:∀{σ1:St}{H1:List TV}{PP:List Value}{G1:Gh},lL M w ts σ H G σ1 H1 PP G1->∀j (h:j<l.length)(h':j<asq.length),TmR w (G1.F M.A) σ1.v (eE M σ1 H1) G1 l[j].2 asq[j]:=λhg j h h'=>
    hg.tm (by have:=ht (j+1) (by simpa using h) (by simpa using h');simpa only [List.getElem_cons_succ]using this)
   have Zi:(∀p vs,t≠.ptr p vs)->(∀p vs,(n,t)≠(some 0,.pk p vs))->∃us G' K,lL M w ts σ H G σ' (H++q.flatMap (·.cells)) (xs++us) G'/\K.map (·.1)=q/\sy w i (((n,t)::l).map (·.2)) (y::asq) K us/\∀x∈K,TmR w (G'.F M.A) σ'.v (eE M σ' (H++q.flatMap (·.cells))) G' (.ptr x.1.p x.1.vs) (.pointer (some x.2)):=by
    intro hne U6
    have XR:(if pU t then grabs (i+1) l else .fail:SP (List GP)).run σ=some (q,σ'):=by
     cases n with
     |none=>cases t<;>exact hr
     |some n=>cases n<;>cases t<;>first|exact absurd rfl (hne _ _)|exact absurd rfl (U6 _ _)|exact hr
    split at XR
    ·rename_i VP;obtain⟨us,G',K,e1,e2,e3,e4⟩:=ih (asq:=asq) hI (by simpa using hl) (ZT (lL.refl hI)) XR;exact⟨us,G',K,e1,e2,.arg VP e3,e4⟩
    ·simp[SP.run]at XR
   by_cases hp:∃p vs,t=.ptr p vs
   ·obtain⟨p,vs,rfl⟩:=hp
    cases n with
    |none=>simp[grabs,pU,SP.run]at hr
    |some n=>
     simp only[grabs]at hr;obtain⟨_,σ1,h1,h2⟩:=dE hr;have e1:σ1=σ:=(d8 h1).1;have e2:=(d8 h1).2;subst e1;obtain⟨_,σr,hR,UP⟩:=dE h2;obtain⟨rfl,YM⟩:=GE hI hR;obtain⟨cells,σ2,h3,h4⟩:=dE UP;obtain⟨q1,σ3,h5,h6⟩:=dE h4;simp only[SP.run,oSJ,oPJ]at h6;obtain⟨rfl,rfl⟩:=h6;generalize hz:y=z at UF
     cases UF with
     |ptr V0 h0 hv h=>
      obtain⟨Z7,ad0,t0,ha,rfl,Z5⟩:=h e2;obtain⟨r,o,hops⟩:=p
      have Wj:∃ad,G.addr w (⟨r,o,[]⟩:dW)=some ad/\(hops=[]->ad0=ad)/\(hops≠[]->eL w ((w.cell? ⟨ad.block,ad.off,none⟩).getD undef) hops=some ad0):=by
       cases hops with
       |nil=>exact⟨ad0,ha,λ_=>rfl,λe=>absurd rfl e⟩
       |cons hp1 hs=>
        obtain⟨b,o0,n0,hb⟩:=YM (by simp);refine⟨⟨b,o0+o,none⟩,by simp only[Gh.addr];rw[hb],λe=>by simp at e,λ_=>?_⟩;have Ra:eL w (G.val w r o) (hp1::hs)=some ad0:=ha;unfold Gh.val at Ra;rw[hb]at Ra;exact Ra
      obtain⟨ad,Rg,Re,Sw⟩:=Wj;have Pa:(⟨r,o,hops⟩:dW).base.root≠1:=Z7;obtain⟨k1,u,G1,Zv,k2,k3,k4⟩:=Ju (p:=(⟨r,o,hops⟩:dW).base) hI Pa Rg h3;obtain⟨us,G2,K,ZG,k5,k6,k7⟩:=ih (asq:=asq) Zv.1 (by simpa using hl) (ZT Zv) h5
      have Zn:TmR w (G.F M.A) σr.v (eE M σr H) G (.ptr (⟨r,o,hops⟩:dW).base (vs.take 1)) (.pointer (some ad)):=
       .ptr V0 h0 (by rw[hv];simp[jp,dW.base]) λ_=>⟨Z7,ad,_,Rg,rfl,rfl⟩
      refine⟨u++us,G2,(⟨i,(⟨r,o,hops⟩:dW).base,vs.take 1,cells⟩,ad)::K,by simpa[List.append_assoc]using Zv.trans ZG,by simp[k5],.ptr (p:=(⟨r,o,hops⟩:dW).base) (hp:=hops) Z7 rfl (kV Rg) Re (λhne=>⟨Sw hne,?_⟩) (by omega) k3 k4 k6,λx hx=>?_⟩
      ·have Xl:ek (σr.c r o) hops=some t0:=by
        have:=Z5;rw[eu (by exact Z7)]at this;exact this
       cases hops with
       |nil=>exact absurd rfl hne
       |cons h1 hs=>
        cases hc:σr.c r o with
        |ow c=>
         have:=Fk hc h3;rw[this];rw[hc]at Xl;exact⟨t0,Xl⟩
        |_=>rw[hc]at Xl;simp[ek]at Xl
      ·have e3:H++(({ i:=i,p:=(⟨r,o,hops⟩:dW).base,vs:=vs.take 1,cells:=cells }:GP)::q1).flatMap (·.cells)=H++cells++q1.flatMap (·.cells):=by simp[List.append_assoc]
       rw[e3];rcases List.mem_cons.1 hx with rfl|hx
       ·exact ZG.tm (Zv.tm Zn)
       ·exact k7 x hx
   ·by_cases hw:∃p vs,(n,t)=(some 0,.pk p vs)
    ·obtain⟨p,vs,hw⟩:=hw
     injection hw with h1 h2
     subst h1;subst h2;have XR:(grabs (i+1) l).run σ=some (q,σ'):=hr;obtain⟨us,G',K,e1,e2,e3,e4⟩:=ih (asq:=asq) hI (by simpa using hl) (ZT (lL.refl hI)) XR;exact⟨us,G',K,e1,e2,.own e3,e4⟩
    ·exact Zi (λp vs e=>hp ⟨p,vs,e⟩) λp vs e=>hw ⟨p,vs,e⟩
theorem BG{α:Type}:∀{l:List (Nat×α)}{r:Nat}{x:α},eF l r=some x->fI l r x=l:=by
 intro l
 induction l with
 |nil=>intro r x h;simp[eF]at h
 |cons y l ih=>
  intro r x h;simp[eF]at h;simp[fI]
  grind
theorem In{p:dW}(hr:(touch p).run σ=some ((),σ')):σ'=σ/\∃l,eF σ.ce p.root=some l/\p.off<l.length:=by
 simp[touch]at hr;obtain⟨l,hl,ho,h2⟩:=ew (k:=.ret ()) (by simpa[SP.run]using hr);simp[SP.run]at h2;refine⟨?_,l,hl,ho⟩;rw[<- h2]
 have e:l.set p.off (σ.c p.root p.off)=l:=by
  have:σ.c p.root p.off=l[p.off]:=by simp[St.c,hl,ho]
  simp_all
 rw[e,BG hl]
theorem IV(hI:Inv M σ H xs ts w G):∀{q:List GP}{σ':St},(rechk q).run σ=some ((),σ')->σ'=σ/\∀g∈q,∀x,TmR w (G.F M.A) σ.v (eE M σ H) G (.ptr g.p g.vs) x->g.p.root≠1/\∃ad,x=.pointer (some ad)/\G.addr w g.p=some ad/\g.vs=jp σ.v g.p.root g.p.off g.p.hops.length/\(∃t,ek (eE M σ H g.p.root g.p.off) g.p.hops=some t)/\((∃o n,G.β g.p.root=some (ad.block,o,n))\/G.φ g.p.root g.p.off ad.block):=by
 intro q
 induction q with
 |nil=>
  intro σ' hr;simp only[rechk,SP.run,oPJ,true_and]at hr
  simp_all
 |cons g q ih=>
  intro σ' hr;obtain⟨_,σ1,h1,h2⟩:=dE hr;have e1:σ1=σ:=(d8 h1).1;have e2:=(d8 h1).2;subst e1;obtain⟨_,σ2,h3,h4⟩:=dE h2;obtain⟨rfl,l,hl,ho⟩:=In h3;obtain⟨rfl,hq⟩:=ih h4;refine⟨rfl,λg' UZ x hx=>?_⟩;rcases List.mem_cons.1 UZ with rfl|UZ
  ·cases hx with
   |ptr V0 h0 hv h=>
    obtain⟨Z7,ad,t0,ha,hx,Z5⟩:=h e2
    have hB:G.addrB w g'.p=some ad:=by
     refine lQ ha λhp b o0 n hb=>?_;have:=hI.shape _ _ _ _ hb l hl;omega
    refine⟨Z7,ad,hx,ha,e2,⟨t0,Z5⟩,?_⟩
    rcases hI.core.where_ g'.p hB Z5 with⟨_,b,o0,n,h5,_,h6⟩|⟨_,h5⟩
    ·left;exact⟨o0,n,by rw[h5,h6]⟩
    ·right;exact h5
  ·exact hq g' UZ x hx
end
def prK:List (GP×Addr)->Nat->Option (Nat×Nat×Nat)
 | [],_=>none
 |(g,ad)::K,r=>if 2*g.i+2=r then some (ad.block,ad.off,g.cells.length)else prK K r
def bsK:List (GP×Addr)->Nat->Nat
 | [],_=>0
 |(g,_)::K,r=>if 2*g.i+2=r then 0 else g.cells.length+bsK K r
def ceK(K:List (GP×Addr)):List (Nat×List TV):=K.map λx=>(2*x.1.i+2,x.1.cells)
def ceO(ow:List (Nat×TV)):List (Nat×List TV):=ow.map λx=>(2*x.1+3,[x.2])
def owK:List (Nat×TV)->Nat->Option Nat
 | [],_=>none
 |(i,_)::q,r=>if 2*i+3=r then some 0 else(owK q r).map (· + 1)
def j7(K:List (GP×Addr)):List TV:=K.flatMap λx=>x.1.cells
section
theorem kD{K:List (GP×Addr)}{r b o n:Nat}(h:prK K r=some (b,o,n)):∃x∈K,r=2*x.1.i+2/\b=x.2.block/\o=x.2.off/\n=x.1.cells.length/\eF (ceK K) r=some x.1.cells/\∀j (_:j<x.1.cells.length),(j7 K)[bsK K r+j]?=x.1.cells[j]?:=by
 induction K with
 |nil=>simp[prK]at h
 |cons y K ih=>
  obtain⟨g,ad⟩:=y;simp only[prK]at h;split at h
  ·rename_i e
   injection h with h
   injection h with h1 h
   injection h with h2 h3
   refine⟨(g,ad),by simp,e.symm,h1.symm,h2.symm,h3.symm,by simp[ceK,eF,e],λj hj=>?_⟩;simp only[bsK,e,if_true,j7,Nat.zero_add];exact List.getElem?_append_left hj
  ·rename_i e;obtain⟨x,h1,h2,h3,h4,h5,h6,h7⟩:=ih h;refine⟨x,by simp[h1],h2,h3,h4,h5,by simpa[ceK,eF,e]using h6,λj hj=>?_⟩;simp only[bsK,e,if_false,j7,List.flatMap_cons];rw[List.getElem?_append_right (by omega)];rw[show g.cells.length+bsK K r+j-g.cells.length=bsK K r+j by omega];exact h7 j hj
theorem D4{K:List (GP×Addr)}{r:Nat}{l:List TV}(h:eF (ceK K) r=some l):prK K r≠none:=by
 induction K with
 |nil=>simp[ceK,eF]at h
 |cons y K ih=>
  simp[ceK,eF]at h;simp[prK];split
  ·simp
  ·rename_i e;rw[oIN e]at h;exact ih h
theorem Kc{K:List (GP×Addr)}:∀r b o n r' b' o' n',prK K r=some (b,o,n)->prK K r'=some (b',o',n')->∀j j',j<n->j'<n'->bsK K r+j=bsK K r'+j'->r=r':=by
 induction K with
 |nil=>intro r b o n r' b' o' n' h;simp[prK]at h
 |cons y K ih=>
  intro r b o n r' b' o' n' h h' j j' hj ZQ e;simp[prK,bsK]at h h' e
  grind
theorem sy.slot{w:World}{i:Nat}{ts:List TV}{asq us:List Value}{K:List (GP×Addr)}(h:sy w i ts asq K us):∀x∈K,i<=x.1.i/\x.1.p.hops=[]/\∃p vs,ts[x.1.i-i]?=some (.ptr p vs):=by
 induction h with
 |nil=>intro x hx;simp at hx
 | @ptr i p hp vs vs0 cells ad ad0 u ts xs K us hr hb hs h0 hh hu hc hok h ih=>
  intro x hx;rcases List.mem_cons.1 hx with rfl|hx
  ·simp_all
  ·obtain⟨h1,h3,p,vs,h2⟩:=ih x hx;refine⟨by omega,h3,p,vs,?_⟩;rw[show x.1.i-i=(x.1.i-(i+1))+1 by omega];simpa using h2
 | @arg i t x0 ts xs K us ha h ih=>
  intro x hx;obtain⟨h1,h3,p,vs,h2⟩:=ih x hx;refine⟨by omega,h3,p,vs,?_⟩;rw[show x.1.i-i=(x.1.i-(i+1))+1 by omega];simpa using h2
 | @own i p0 vs0 x0 ts xs K us h ih=>
  intro x hx;obtain⟨h1,h3,p,vs,h2⟩:=ih x hx;refine⟨by omega,h3,p,vs,?_⟩;rw[show x.1.i-i=(x.1.i-(i+1))+1 by omega];simpa using h2
theorem sy.len{w:World}{i:Nat}{ts:List TV}{asq us:List Value}{K:List (GP×Addr)}(h:sy w i ts asq K us):ts.length=asq.length/\us.length=(j7 K).length:=by
 induction h with
 |nil=>exact⟨rfl,rfl⟩
 |ptr hr hb hs h0 hh hu hc hok h ih=>exact⟨by simp_all,by simp[j7,hu]at ih⊢;exact ih.2⟩
 |arg ha h ih=>simp_all
 |own h ih=>simp_all
theorem sy.ok{w:World}{i:Nat}{ts:List TV}{asq us:List Value}{K:List (GP×Addr)}(h:sy w i ts asq K us):∀x∈K,∀j (h:j<x.1.cells.length),ff x.1.cells[j]=true\/mj x.1.cells[j]=true:=by
 induction h with
 |nil=>simp_all
 |ptr hr hb hs h0 hh hu hc hok h ih=>
  intro x hx;rcases List.mem_cons.1 hx with rfl|hx
  ·exact hok
  ·exact ih x hx
 |arg ha h ih=>exact ih
 |own h ih=>exact ih
theorem sy.here{w:World}{i:Nat}{ts:List TV}{asq us:List Value}{K:List (GP×Addr)}(h:sy w i ts asq K us):∀r b o n,prK K r=some (b,o,n)->∀j,j<n->w.cell? ⟨b,o+j,none⟩=some (us.getD (bsK K r+j) undef)/\w.frozen? ⟨b,o+j,none⟩=false:=by
 induction h with
 |nil=>intro r b o n h;simp[prK]at h
 | @ptr i p SF vs vs0 cells ad ad0 u ts xs K us hr hb hs h0 hh hu hc hok h ih=>
  intro r b o n hp j hj;simp only[prK]at hp;simp only[bsK];split at hp
  ·rename_i e
   injection hp with hp
   injection hp with h1 hp
   injection hp with h2 h3
   subst h1;subst h2;rw[oIP e,Nat.zero_add]
   have RG:j<u.length:=by omega
   have:=hc j RG;refine⟨?_,this.2⟩;rw[this.1,oGD,List.getElem?_append_left RG,oGE RG];rfl
  ·rename_i e;rw[oIN e];have:=ih r b o n hp j hj;refine⟨?_,this.2⟩;rw[this.1];simp;rw[List.getElem?_append_right (by omega)];rw[show cells.length+bsK K r+j-u.length=bsK K r+j by omega]
 |arg ha h ih=>exact ih
 |own h ih=>exact ih
end
theorem sb{α:Type}{f:α->Nat}:∀{l:List α},mI (l.map f)=true->∀{x y:α},x∈l->y∈l->f x=f y->x=y:=by
 intro l
 induction l with
 |nil=>simp_all
 |cons z l ih=>
  intro h x y hx hy e;simp only[List.map_cons,mI,oBA,Bool.not_eq_true',List.contains_eq_mem,decide_eq_false_iff_not]at h;rcases List.mem_cons.1 hx with Z0|Z0
  ·rcases List.mem_cons.1 hy with XT|XT
   ·rw[Z0,XT]
   ·exact absurd (by rw[<- Z0,e];exact List.mem_map_of_mem XT) h.1
  ·rcases List.mem_cons.1 hy with XT|XT
   ·simp_all
   ·exact ih h.2 Z0 XT e
section
variable {P:Program} {M:Fm} {σ σ':St} {H:List TV} {xs:List Value} {ts:Array Value} {w:World} {G:Gh} {a:Act} {o:Oper}
theorem n7{α:Type}:∀{a b:List (Nat×α)}{r:Nat},eF (a++b) r=match eF a r with|some x=>some x|none=>eF b r:=by
 intro a
 induction a with
 |nil=>intro b r;rfl
 |cons y a ih=>
  intro b r;simp[eF];split
  ·rfl
  ·exact ih
theorem qR:∀{q:List (Nat×TV)}{r j:Nat},owK q r=some j->∃h:j<q.length,r=2*q[j].1+3/\eF (ceO q) r=some [q[j].2]:=by
 intro q
 induction q with
 |nil=>intro r j h;simp[owK]at h
 |cons y q ih=>
  intro r j h;obtain⟨i,t⟩:=y;simp only[owK]at h;split at h
  ·rename_i e
   injection h with h
   subst h;exact⟨by simp,e.symm,by simp[ceO,eF,e]⟩
  ·rename_i e
   cases hq:owK q r with
   |none=>simp_all
   |some k=>
    simp[hq,oMS]at h;subst h
    have:eF (ceO ((i,t)::q)) r=eF (ceO q) r:=by simp[ceO,eF,e]
    simp_all
theorem JG:∀{q:List (Nat×TV)}{r:Nat}{l:List TV},eF (ceO q) r=some l->owK q r≠none:=by
 intro q
 induction q with
 |nil=>intro r l h;simp[ceO,eF]at h
 |cons y q ih=>
  intro r l h;have ⟨i,t⟩:=y;simp[owK];split
  ·simp
  ·rename_i e
   have:eF (ceO ((i,t)::q)) r=eF (ceO q) r:=by simp[ceO,eF,e]
   simp_all
theorem Il.facts{i:Nat}{l:List (Option Nat×TV)}{asq:List Value}{ow:List (Nat×TV)}{zs:List Value}(h:Il i l asq ow zs):zs.length=ow.length/\(∀x∈ow,i<=x.1/\∃c,x.2=.ow c)/\∀x∈ow,∃k,owK ow (2*x.1+3)=some k/\asq[x.1-i]?=zs[k]?:=by
 induction h with
 |nil=>simp_all
 | @own i p vs l x xs c ow zs h ih=>
  obtain⟨h1,h2,h3⟩:=ih;refine⟨by simp[h1],λy hy=>?_,λy hy=>?_⟩
  ·rcases List.mem_cons.1 hy with rfl|hy
   ·exact⟨Nat.le_refl _,c,rfl⟩
   ·exact⟨by have:=(h2 y hy).1;omega,(h2 y hy).2⟩
  ·rcases List.mem_cons.1 hy with rfl|hy
   ·exact⟨0,by simp[owK],by simp⟩
   ·obtain⟨k,h4,h5⟩:=h3 y hy;have Ya:=(h2 y hy).1;refine⟨k+1,by simp[owK];rw[oIN (by omega),h4];rfl,?_⟩;rw[show y.1-i=(y.1-(i+1))+1 by omega];simpa using h5
 | @skip i y0 l x xs ow zs h ih=>
  obtain⟨h1,h2,h3⟩:=ih;refine⟨h1,λy hy=>⟨by have:=(h2 y hy).1;omega,(h2 y hy).2⟩,λy hy=>?_⟩;obtain⟨k,h4,h5⟩:=h3 y hy;have Ya:=(h2 y hy).1;refine⟨k,h4,?_⟩;rw[show y.1-i=(y.1-(i+1))+1 by omega];simpa using h5
theorem sy.hands{vals:List TV}{asq us:List Value}{K:List (GP×Addr)}{l:List (Option Nat×TV)}{ow:List (Nat×TV)}{zs:List Value}(hI:Inv M σ (ow.map (·.2)++j7 K) (zs++us) ts w G)(h:sy w 0 vals asq K us)(ho:Il 0 l asq ow zs)(Zu:mI ((K.map (·.1)).map (·.p.root))=true)(ZV:∀x∈K,0<x.1.cells.length)
 (VG:∀x∈K,x.1.p.root≠1/\((∃o n,G.β x.1.p.root=some (x.2.block,o,n))\/G.φ x.1.p.root x.1.p.off x.2.block)):FI (ow.map (·.2)++j7 K) (zs++us) w G M.A (prK K) (λr=>ow.length+bsK K r) (ceK K++ceO ow) (owK ow):=by
 obtain⟨hz,XD,_⟩:=ho.facts
 have U7:∀r,r%2=1->eF (ceK K) r=none:=λr hr=>by
  cases hc:eF (ceK K) r with
  |none=>rfl
  |some l=>
   cases hp:prK K r with
   |none=>exact absurd hp (D4 hc)
   |some x=>obtain⟨b,o,n⟩:=x;obtain⟨x,_,h2,_⟩:=kD hp;omega
 refine⟨λr b o n hp=>?_,λr b o n hp=>?_,λr l hl=>?_,λr j hj=>?_,λr j r' b o n hj hp j' ZQ=>by have:=(qR hj).1;omega,λr r' j hj ZQ=>?_,λr b o n r' b' o' n' h1 h2 j j' hj ZQ e=>Kc _ _ _ _ _ _ _ _ h1 h2 _ _ hj ZQ (by omega),λr b o n r' o' n' h1 h2=>?_,λr b o n hp hF=>?_,λr b o n hp j hφ=>?_,λr b o n hp j hj=>?_⟩
 ·obtain⟨x,h1,h2,_,_,h5,_⟩:=kD hp;exact⟨by omega,by rw[h5];exact ZV x h1⟩
 ·obtain⟨x,h1,h2,_,_,h5,h6,h7⟩:=kD hp;refine⟨_,by rw[n7,h6],h5.symm,λj hj=>?_⟩;have:=h7 j hj;rw[oGE hj]at this;obtain⟨k1,k2⟩:=oGS this;refine⟨by simp;omega,?_,sq (h.ok x h1) j hj⟩;rw[List.getElem_append_right (by simp;omega)];rw[<- k2];congr 1;simp;omega
 ·rw[n7]at hl
  cases hc:eF (ceK K) r with
  |some l2=>exact .inl (D4 hc)
  |none=>rw[hc]at hl;exact .inr (JG hl)
 ·obtain⟨h1,h2,h3⟩:=qR hj;obtain⟨_,c,hc⟩:=XD ow[j] (List.getElem_mem h1);refine⟨by omega,by omega,c,by simp;omega,?_,?_⟩
  ·rw[n7,U7 r (by omega)];simp only;rw[h3,hc]
  ·rw[List.getElem_append_left (by simpa using h1)];simpa using hc
 ·obtain⟨_,h2,_⟩:=qR hj;obtain⟨_,h3,_⟩:=qR ZQ;omega
 ·obtain⟨x,x1,x2,x3,x4,x5,_⟩:=kD h1;obtain⟨y,y1,y2,y3,y4,y5,_⟩:=kD h2
  have Z8:x.1.p.root=y.1.p.root:=by
   rcases(VG x x1).2 with⟨o1,n1,hb1⟩|hb1
   ·rcases(VG y y1).2 with⟨o2,n2,ZW⟩|ZW
    ·rw[<- y3]at ZW;rw[<- x3]at hb1;exact hI.core.boxd _ _ _ _ _ _ _ hb1 ZW
    ·rw[<- y3]at ZW;rw[<- x3]at hb1;exact absurd ZW (hI.core.boxf _ _ _ _ hb1 _ _)
   ·rcases(VG y y1).2 with⟨o2,n2,ZW⟩|ZW
    ·rw[<- y3]at ZW;rw[<- x3]at hb1;exact absurd hb1 (hI.core.boxf _ _ _ _ ZW _ _)
    ·rw[<- y3]at ZW;rw[<- x3]at hb1;exact(hI.core.dis _ _ _ _ _ hb1 ZW).1
  have W5:x.1=y.1:=sb Zu (List.mem_map_of_mem x1) (List.mem_map_of_mem y1) Z8;rw[x2,y2,W5]
 ·obtain⟨x,x1,x2,x3,x4,x5,_⟩:=kD hp;subst x3
  rcases(VG x x1).2 with⟨o1,n1,hb1⟩|hb1
  ·exact hF.2.2 _ _ _ _ hb1 rfl
  ·exact hF.2.1 _ _ hb1
 ·obtain⟨x,x1,x2,x3,x4,x5,_⟩:=kD hp;subst x3
  rcases(VG x x1).2 with⟨o1,n1,hb1⟩|hb1
  ·exact hI.core.boxf _ _ _ _ hb1 _ _ hφ
  ·exact(VG x x1).1 (hI.core.dis _ _ _ _ _ hb1 hφ).1
 ·have:=h.here _ _ _ _ hp j hj;refine⟨?_,this.2⟩;rw[this.1,oGD,oGD,List.getElem?_append_right (by omega)];rw[show ow.length+bsK K r+j-zs.length=bsK K r+j by omega]
theorem TmR.handed{F F':Nat->Prop}{V V':Vs}{C C':Cs}{G G':Gh}{t:TV}{x:Value}(h:TmR w F V C G t x)(ha:pU t=true)(hF:∀k,F k->F' k):TmR w F' V' C' G' t x:=by
 cases h with
 |v h=>exact .v h
 |sl h=>exact .sl (h.frame (λ_ _ _=>rfl) λk hk _=>hF k hk)
 |nil=>exact .nil
 |ip u hc hr=>exact .ip u (λj hj=>⟨hF _ (hc j hj).1,(hc j hj).2⟩) λj hj=>(hr j hj).frame (λ_ _ _=>rfl) λk hk _=>hF k hk
 | @agg l xs hl h=>
  refine .agg hl λj hj=>?_;simp[pU,List.all_eq_true]at ha;have h1:=ha _ (List.getElem_mem hj);have h2:=h j hj;generalize l[j]=e at h1 h2;generalize xs.getD j undef=y at h2
  cases h2 with
  |v h=>exact .v h
  |sl h=>exact .sl (h.frame (λ_ _ _=>rfl) λk hk _=>hF k hk)
  |_=>simp_all
 | @fn f l xs hl h=>
  simp[pU]at ha;exact .fn hl λj hj=>(((h j hj).imC (ha _ (List.getElem_mem hj))).frame (λ_ _ _=>rfl) λk hk _=>hF k hk).toTm
 |_=>simp[pU]at ha
theorem zJ{α:Type}:∀{l:List α}{i j:Nat},eF (f8 i l) j=if i<=j then l[j-i]? else none:=by
 intro l
 induction l with
 |nil=>intro i j;simp[f8,eF]
 |cons x l ih=>
  intro i j;simp[f8,eF];by_cases e:i=j
  ·simp_all
  ·rw[oIN e,ih]
   grind
theorem BI:∀{l:List TV}{i j:Nat},(argTs i l)[j]?=(l[j]?).map (argT (i+j)):=by
 intro l
 induction l with
 |nil=>intro i j;simp[argTs]
 |cons t l ih=>
  intro i j
  cases j with
  |zero=>simp[argTs]
  |succ j=>simp[argTs,ih];rw[show i+1+j=i+(j+1) by omega]
def JT(w:World)(K:List (GP×Addr))(x:GP×Addr)(t:TV)(y:Option Value):Prop:=
 ∃hp vs ad0,t=.ptr ⟨x.1.p.root,x.1.p.off,hp⟩ vs/\y=some (.pointer (some ad0))/\prK K (2*x.1.i+2)=some (x.2.block,x.2.off,x.1.cells.length)/\eF (ceK K) (2*x.1.i+2)=some x.1.cells/\x.2.spot=none/\(hp=[]->ad0=x.2)/\
  (hp≠[]->eL w ((w.cell? ⟨x.2.block,x.2.off,none⟩).getD undef) hp=some ad0/\∃t,ek (x.1.cells.getD 0 .dead) hp=some t)
theorem JT.cons{w:World}{K:List (GP×Addr)}{x z:GP×Addr}{t:TV}{y:Option Value}(h:JT w K x t y)(hne:z.1.i≠x.1.i):JT w (z::K) x t y:=by
 have ⟨hp,vs,ad0,h1,h2,h3,h4,h5,h6,h7⟩:=h;have ⟨g,ad⟩:=z;refine⟨hp,vs,ad0,h1,h2,?_,?_,h5,h6,h7⟩
 ·simp[prK];rw[oIN (by simp only at hne;omega)];exact h3
 ·simp[ceK,eF];rw[oIN (by simp only at hne;omega)];exact h4
theorem sy.slotArg{w:World}{i:Nat}{vals:List TV}{asq us:List Value}{K:List (GP×Addr)}(h:sy w i vals asq K us):∀j t,vals[j]?=some t->pU t=true\/(∃p vs,t=.pk p vs)\/∃x∈K,x.1.i=i+j/\JT w K x t asq[j]?:=by
 induction h with
 |nil=>intro j t h;simp at h
 | @ptr i p hp vs vs0 cells ad ad0 u ts xs K us hr hb hs h0 hh hu hc hok h ih=>
  intro j t ht
  cases j with
  |zero=>
   right;right;refine⟨(⟨i,p,vs,cells⟩,ad),by simp,rfl,hp,vs0,ad0,?_,by simp,by simp[prK],by simp[ceK,eF],hs,h0,hh⟩;simpa using ht.symm
  |succ j=>
   rcases ih j t (by simpa using ht)with h1|h1|⟨x,h1,h2,h3⟩
   ·exact .inl h1
   ·exact .inr (.inl h1)
   ·right;right;exact⟨x,by simp[h1],by omega,by simpa using h3.cons (z:=(⟨i,p,vs,cells⟩,ad)) (by show i≠x.1.i;omega)⟩
 | @arg i t0 x0 ts xs K us ha h ih=>
  intro j t ht
  cases j with
  |zero=>simp_all
  |succ j=>
   rcases ih j t (by simpa using ht)with h1|h1|⟨x,h1,h2,h3⟩
   ·exact .inl h1
   ·exact .inr (.inl h1)
   ·exact .inr (.inr ⟨x,h1,by omega,by simpa using h3⟩)
 | @own i p0 vs0 x0 ts xs K us h ih=>
  intro j t ht
  cases j with
  |zero=>right;left;have:TV.pk p0 vs0=t:=by simpa using ht
         exact⟨p0,vs0,this.symm⟩
  |succ j=>
   rcases ih j t (by simpa using ht)with h1|h1|⟨x,h1,h2,h3⟩
   ·exact .inl h1
   ·exact .inr (.inl h1)
   ·exact .inr (.inr ⟨x,h1,by omega,by simpa using h3⟩)
theorem sy.enter{vals:List TV}{asq us:List Value}{K:List (GP×Addr)}{l:List (Option Nat×TV)}{ow:List (Nat×TV)}{zs:List Value}(hI:Inv M σ (ow.map (·.2)++j7 K) (zs++us) ts w G)(h:sy w 0 vals asq K us)(ho:Il 0 l asq ow zs)(UC:∀j p vs,vals[j]?=some (.pk p vs)->∃x∈ow,x.1=j)
 (hh:FI (ow.map (·.2)++j7 K) (zs++us) w G M.A (prK K) (λr=>ow.length+bsK K r) (ceK K++ceO ow) (owK ow))
 (ht:∀j (h:j<vals.length)(h':j<asq.length),TmR w (G.F M.A) σ.v (eE M σ (ow.map (·.2)++j7 K)) G vals[j] asq[j]){N:Nat}(hN:asq.length<=N):
 Inv (M.into w G (prK K) N) (mkSt (argTs 0 vals) (ceK K++ceO ow)) [] [] (asq.toArray++Array.replicate (N-asq.length) undef) w (G.into (prK K) (λr=>ow.length+bsK K r) (owK ow) (zs++us)):=by
 refine hI.enter hh (by simp;omega) λi=>?_;rw[zJ];simp only[Nat.zero_le,if_true,Nat.sub_zero,BI,Nat.zero_add]
 cases hv:vals[i]? with
 |none=>exact .dead
 |some t=>
  obtain⟨hi,Po⟩:=oGS hv
  have Zl:i<asq.length:=by rw[<- h.len.1];exact hi
  have hx:(asq.toArray++Array.replicate (N-asq.length) undef).getD i undef=asq[i]:=by
   simp[Array.getD_eq_getD_getElem?,Array.getElem?_append,Zl]
  rw[hx];have Zn:=ht i hi Zl;rw[Po]at Zn;simp only[oMS,Option.getD_some];rcases h.slotArg i t hv with VP|⟨p,vs,rfl⟩|⟨x,x1,x2,hp,vs,ad0,rfl,x4,x5,QR,x6,x7,x8⟩
  ·have e:argT i t=t:=by cases t<;>first|rfl|simp[pU]at VP
   rw[e];exact Zn.handed VP λk hk=>hh.F hk
  ·simp only[argT];obtain⟨x,Z0,rfl⟩:=UC i p vs hv;obtain⟨hz,h2,h3⟩:=ho.facts;obtain⟨k,h4,h5⟩:=h3 x Z0;obtain⟨hk,_,h6⟩:=qR h4;have U7:=(hh.owc _ _ h4);obtain⟨_,_,c',hj,h8,h9⟩:=U7;refine .pk (λ_=>0) (λ_=>Nat.le_refl _) rfl λ_=>⟨by simp,c',?_,?_⟩
   ·have O4:prK K (2*x.1+3)=none:=by
     cases hp:prK K (2*x.1+3)with
     |none=>rfl
     |some y=>obtain⟨b,o,n⟩:=y;have:=(hh.even _ _ _ _ hp).1;omega
    simp only[Gh.hv,hvT];unfold Gh.val Gh.into;simp only[O4,h4];rw[Nat.sub_zero,oGE Zl,oGE (by omega)]at h5
    injection h5 with h5
    rw[oGD,List.getElem?_append_left (by omega),oGE (by omega),h5];rfl
   ·have:eE (M.into w G (prK K) N) ⟨f8 0 (argTs 0 vals),ceK K++ceO ow,[]⟩ [] (2*x.1+3) 0=.ow c':=by
     rw[eu (by show 2*x.1+3≠1;omega)];simp[St.c,h8]
    rw[this];rfl
  ·simp only[argT]
   have e:asq[i]=.pointer (some ad0):=by
    rw[oGE Zl]at x4;injection x4
   rw[e]
   have Ps:x.1.i=i:=by omega
   rw[Ps]at x5 QR
   have Zd:(⟨x.2.block,x.2.off+0,none⟩:Addr)=x.2:=by
    obtain⟨g,ad⟩:=x;obtain⟨b,o,s⟩:=ad;simp only at x6⊢;subst x6;rfl
   have hcell:eE (M.into w G (prK K) N) ⟨f8 0 (argTs 0 vals),ceK K++ceO ow,[]⟩ [] (2*i+2) 0=x.1.cells.getD 0 .dead:=by
    rw[eu (by show 2*i+2≠1;omega)];simp only[St.c,n7,QR]
   refine .ptr (λ_=>0) (λ_=>Nat.le_refl _) (by simp[jp,List.replicate_succ,List.map_const']) λ_=>?_
   cases hp with
   |nil=>
    refine⟨by simp,x.2,(eE (M.into w G (prK K) N) ⟨f8 0 (argTs 0 vals),ceK K++ceO ow,[]⟩ [] (2*i+2) 0),?_,by rw[x7 rfl],rfl⟩;unfold Gh.addr Gh.into;simp only[x5];rw[Zd]
   |cons h1 hs=>
    obtain⟨x9,t0,PM⟩:=x8 (by simp);refine⟨by simp,ad0,t0,?_,rfl,by show ek (eE _ _ [] (2*i+2) 0) (h1::hs)=_;rw[hcell];exact PM⟩;show eL w (Gh.val _ w (2*i+2) 0) (h1::hs)=some ad0;unfold Gh.val Gh.into;simp only[x5];exact x9
end
theorem Bq{α:Type}{f:GP×Addr->List α}{K:List (GP×Addr)}(hf:∀x∈K,(f x).length=x.1.cells.length){r b o n:Nat}(h:prK K r=some (b,o,n)):∃x∈K,r=2*x.1.i+2/\b=x.2.block/\o=x.2.off/\n=x.1.cells.length/\eF (K.map λx=>(2*x.1.i+2,f x)) r=some (f x)/\∀j,j<n->(K.flatMap f)[bsK K r+j]?=(f x)[j]?:=by
 induction K with
 |nil=>simp[prK]at h
 |cons y K ih=>
  obtain⟨g,ad⟩:=y;simp only[prK]at h;split at h
  ·rename_i e
   injection h with h
   injection h with h1 h
   injection h with h2 h3
   have hl:=hf (g,ad) (by simp);simp only at hl;refine⟨(g,ad),by simp,e.symm,h1.symm,h2.symm,h3.symm,by simp[eF,e],λj hj=>?_⟩;simp only[bsK,e,if_true,Nat.zero_add];exact List.getElem?_append_left (by omega)
  ·rename_i e;obtain⟨x,h1,h2,h3,h4,h5,h6,h7⟩:=ih (λx hx=>hf x (by simp[hx])) h;have hl:=hf (g,ad) (by simp);simp only at hl;refine⟨x,by simp[h1],h2,h3,h4,h5,by simpa[eF,e]using h6,λj hj=>?_⟩;simp only[bsK,e,if_false,List.flatMap_cons];rw[List.getElem?_append_right (by omega)];rw[show g.cells.length+bsK K r+j-(f (g,ad)).length=bsK K r+j by omega];exact h7 j hj
theorem Mn{K:List (GP×Addr)}(Zu:mI (K.map λx=>x.1.i)=true){j:Nat}(h:j<(j7 K).length):∃r b o n t,prK K r=some (b,o,n)/\t<n/\j=bsK K r+t:=by
 induction K generalizing j with
 |nil=>simp[j7]at h
 |cons y K ih=>
  obtain⟨g,ad⟩:=y;simp only[List.map_cons,mI,oBA,Bool.not_eq_true',List.contains_eq_mem,decide_eq_false_iff_not]at Zu;simp only[j7,List.flatMap_cons,List.length_append]at h;by_cases hj:j<g.cells.length
  ·exact⟨2*g.i+2,ad.block,ad.off,g.cells.length,j,by simp[prK],hj,by simp[bsK]⟩
  ·obtain⟨r,b,o,n,t,h1,h2,h3⟩:=ih Zu.2 (j:=j-g.cells.length) (by simp only[j7];omega)
   have hne:2*g.i+2≠r:=λe=>by
    obtain⟨x,x1,x2,_⟩:=kD h1;exact Zu.1 (List.mem_map.2 ⟨x,x1,by omega⟩)
   exact⟨r,b,o,n,t,by simp[prK,hne,h1],h2,by simp[bsK,hne];omega⟩
def RWs(w:World):List (GP×Addr)->World->World
 | [],W=>W
 |x::K,W=>RWs w K (gV w W x.2.block)
theorem JQ{w:World}{K:List (GP×Addr)}:∀{W:World},(RWs w K W).heap.size=W.heap.size:=by
 induction K with
 |nil=>intro W;rfl
 |cons x K ih=>intro W;simp[RWs];rw[ih,mG]
theorem zK{w:World}{K:List (GP×Addr)}:∀{W:World},(RWs w K W).os=W.os/\(RWs w K W).tape=W.tape/\(RWs w K W).output=W.output:=by
 induction K with
 |nil=>intro W;exact⟨rfl,rfl,rfl⟩
 |cons x K ih=>
  intro W;simp[RWs];have ⟨r1,r2,r3,_⟩:=sB (w:=w) (W:=W) (b:=x.2.block)
  simp_all
theorem Ms{w:World}{K:List (GP×Addr)}{k:Nat}:∀{W:World},(∀x∈K,k≠x.2.block)->(RWs w K W).heap[k]?=W.heap[k]?:=by
 induction K with
 |nil=>intro W h;rfl
 |cons x K ih=>
  intro W h;simp[RWs];rw[ih λy hy=>h y (by simp[hy]),pG (h x (by simp))]
theorem JR{w:World}{K:List (GP×Addr)}{k:Nat}(h2:k<w.heap.size):∀{W:World},k<W.heap.size->W.heap[k]?=w.heap[k]?->(RWs w K W).heap[k]?=w.heap[k]?:=by
 induction K with
 |nil=>intro W h1 h;exact h
 |cons x K ih=>
  intro W h1 h;refine ih (by rw[mG];exact h1) ?_;by_cases e:k=x.2.block
  ·rw[<- e];exact rY h1 h2
  ·rw[pG e];exact h
theorem Mt{w:World}{K:List (GP×Addr)}{k:Nat}(h2:k<w.heap.size):∀{W:World},k<W.heap.size->(∃x∈K,k=x.2.block)->(RWs w K W).heap[k]?=w.heap[k]?:=by
 induction K with
 |nil=>simp_all
 |cons x K ih=>
  intro W h1 h;simp[RWs];have ⟨y,hy,e⟩:=h;rcases List.mem_cons.1 hy with rfl|hy
  ·exact JR h2 (by rw[mG];exact h1) (by rw[e];rw[e]at h1 h2;exact rY h1 h2)
  ·exact ih (by rw[mG];exact h1) ⟨y,hy,e⟩
section
variable {P:Program} {M:Fm} {σ σ':St} {H:List TV} {xs:List Value} {ts:Array Value} {w:World} {G:Gh} {a:Act} {o:Oper}
theorem GM{p:dW}{t:TV}(h:(vP p t).run σ=some ((),σ')){r:Nat}(hr:r≠p.root)(o n:Nat):jp σ'.v r o n=jp σ.v r o n:=by
 unfold vP at h;simp only[SP.run]at h
 have bump:∀{vr:List (Key×Nat)},σ'.vr=vr->(∀q,qo vr q=qo σ.vr q+if(p.root,p.off,p.hops.length+1)=q then 1 else 0)->jp σ'.v r o n=jp σ.v r o n:=by
  intro vr e hv
  have YP:∀q,σ'.v q=σ.v q+if(p.root,p.off,p.hops.length+1)=q then 1 else 0:=λq=>by unfold St.v;rw[e];exact hv q
  rw[j8]
  have hne:∀o' d,((p.root,p.off,p.hops.length+1):Key)≠(r,o',d):=λo' d e=>by
   simp_all
  simp_all
 cases hg:ek (σ.c p.root p.off) p.hops with
 |none=>simp[hg,SP.run]at h
 |some old=>
  simp only[hg]at h;split at h
  ·split at h
   ·obtain⟨l,hl,ho,h3⟩:=ew h;simp only[SP.run,oSJ,oPJ,true_and]at h3;exact bump (vr:=ox σ.vr (p.root,p.off,p.hops.length+1)) (by rw[<- h3]) λq=>gc _ _ _
   ·simp[SP.run]at h
  ·obtain⟨l,hl,ho,h3⟩:=ew h;simp only[SP.run,oSJ,oPJ,true_and]at h3
   have hv:σ'.v=σ.v:=by rw[<- h3];rfl
   rw[hv]
theorem GO:∀{l:List TV}{p:dW}{σ σ':St},(putL p l).run σ=some ((),σ')->∀{r:Nat},r≠p.root->∀o n,jp σ'.v r o n=jp σ.v r o n:=by
 intro l
 induction l with
 |nil=>
  intro p σ σ' h r hr o n;simp[putL,SP.run]at h;rw[h]
 |cons t l ih=>
  intro p σ σ' h r hr o n;have ⟨_,σ1,h1,h2⟩:=dE h;rw[<- GM h1 hr o n]
  cases l with
  |nil=>
   simp[SP.run]at h2;rw[h2]
  |cons t2 l=>
   simp only at h2;split at h2
   ·exact ih h2 (by rw[fi];exact hr) o n
   ·simp[SP.run]at h2
theorem Af:∀{q:List (GP×List TV)}{σ σ':St},(putBack q).run σ=some ((),σ')->∀{r:Nat},(∀x∈q,r≠x.1.p.root)->∀o n,jp σ'.v r o n=jp σ.v r o n:=by
 intro q
 induction q with
 |nil=>
  intro σ σ' h r hr o n;simp[putBack,SP.run]at h;rw[h]
 |cons x q ih=>
  intro σ σ' h r hr o n;have ⟨g,l⟩:=x;have ⟨_,σ1,h1,h2⟩:=dE h;split at h2
  ·rw[GO h2 (hr (g,l) (by simp)) o n];exact ih h1 (λx hx=>hr x (by simp[hx])) o n
  ·simp[SP.run]at h2
def Seg(w W:World)(x:GP×Addr)(vs:List Value):Prop:=
 ∃cur0 cur e fz,w.heap[x.2.block]?=some (.cells cur0 e fz)/\W.heap[x.2.block]?=some (.cells cur e fz)/\cur.size=cur0.size/\(∀j,(j<x.2.off\/x.2.off+vs.length<=j)->cur[j]?=cur0[j]?)/\∀j (h:j<vs.length),cur[x.2.off+j]?=some vs[j]
theorem EK{f:GP×Addr->List TV}{v:GP×Addr->List Value}(Oz:∀x,(f x).length=(v x).length):∀{K:List (GP×Addr)}{σ σ':St}{H0:List TV}{x0:List Value}{W:World}{G:Gh},H0.length=x0.length ->
 Inv M σ (H0++K.flatMap f) (x0++K.flatMap v) ts (RWs w K W) G->(∀x∈K,Seg w W x (v x))->(∀x∈K,f x≠[])->(∀x∈K,∀y∈K,x.2.block=y.2.block->x=y)->mI (K.map λx=>x.1.p.root)=true ->
 (∀x∈K,x.1.p.root≠1/\G.addr (RWs w K W) x.1.p=some x.2/\∃t,ek (eE M σ (H0++K.flatMap f) x.1.p.root x.1.p.off) x.1.p.hops=some t)->
 (putBack (K.map λx=>(x.1,f x))).run σ=some ((),σ')->∃G',Inv M σ' H0 x0 ts W G'/\σ'.tm=σ.tm/\j6 M (RWs w K W) σ (H0++K.flatMap f) G W σ' H0 G'/\G'.β=G.β:=by
 intro K
 induction K with
 |nil=>
  intro σ σ' H0 x0 W G WB hI _ _ _ _ _ hr;simp only[List.map_nil,putBack,SP.run,oSJ,oPJ,true_and]at hr;subst hr;have hI:Inv M σ (H0++[]) (x0++[]) ts W G:=hI;rw[List.append_nil,List.append_nil]at hI;refine⟨G,hI,rfl,?_,rfl⟩;show j6 M W σ (H0++[]) G W σ H0 G;rw[List.append_nil];exact j6.refl _ _ _ _ _
 |cons x K ih=>
  intro σ σ' H0 x0 W G WB hI TZ hne V2 Zu Z6 hr;simp only[List.map_cons,putBack]at hr;obtain⟨_,σ1,h1,h2⟩:=dE hr;split at h2
  case isFalse=>simp[SP.run]at h2
  rename_i YD;simp at YD;simp only[List.map_cons,mI,oBA,Bool.not_eq_true',List.contains_eq_mem,decide_eq_false_iff_not]at Zu;have QA:∀y∈K,y.1.p.root≠x.1.p.root:=λy hy e=>Zu.1 (by rw[<- e];exact List.mem_map.2 ⟨y,hy,rfl⟩)
  have Oo:∀y∈K,x.2.block≠y.2.block:=λy hy e=>by
   have:=V2 x (by simp) y (by simp[hy]) e;exact QA y hy (by rw[this])
  have ZF:Inv M σ ((H0++f x)++K.flatMap f) ((x0++v x)++K.flatMap v) ts (RWs w K (gV w W x.2.block)) G:=by
   simpa[RWs,List.append_assoc]using hI
  obtain⟨G1,hI1,R6,SD,hβ1⟩:=ih (W:=gV w W x.2.block) (by simp[WB,Oz]) ZF (λy hy=>by
   obtain⟨cur0,cur,e,fz,s1,s2,s3⟩:=TZ y (by simp[hy])
   exact⟨cur0,cur,e,fz,s1,by rw[pG (Ne.symm (Oo y hy))];exact s2,s3⟩) (λy hy=>hne y (by simp[hy])) (λy hy z hz=>V2 y (by simp[hy]) z (by simp[hz])) Zu.2
   (λy hy=>by have:=Z6 y (by simp[hy]);simpa[RWs,List.append_assoc]using this) h1
  obtain⟨Z7,ha,t0,Z5⟩:=Z6 x (by simp)
  have X2:=Af h1 (r:=x.1.p.root) (λy hy=>by
   obtain⟨z,hz,rfl⟩:=List.mem_map.1 hy
   exact Ne.symm (QA z hz)) x.1.p.off x.1.p.hops.length
  obtain⟨t1,XN,Qc⟩:=SD.keeps.ptr x.1.p x.2 t0 Z7 X2 (by simpa[RWs]using ha) (by simpa[List.append_assoc]using Z5)
  have Yi:(H0++f x).drop H0.length=f x:=by simp
  obtain⟨_,G2,H2,ZI,e1,e2,e3,e4,e5,e6⟩:=GQ (k:=H0.length) hI1 Z7 XN Yi (hne x (by simp)) (λj hj hk=>by
   intro e
   have ZQ:j-H0.length<(f x).length:=by simp at hj;omega
   have:(H0++f x)[j]=(f x)[j-H0.length]:=by rw[List.getElem_append_right hk]
   rw[this]at e;have:=YD.2 _ (List.getElem_mem ZQ);rw[e]at this
   simp[DL]at this) h2
  obtain⟨cur0,cur,e,fz,s1,s2,s3,s4,s5⟩:=TZ x (by simp)
  have UJ:(x0++v x).drop H0.length=v x:=by rw[WB];simp
  rw[UJ,tJ s1 s2 s3 s4 s5]at ZI e5;obtain⟨W7,e7⟩:=ZI.trunc (k:=H0.length) e2
  have hT:H2.take H0.length=H0:=by
   apply List.ext_getElem
   ·simp[e1]
   ·intro j hj ZQ;rw[List.getElem_take];rw[e3 j (by rw[e1];simp;omega) (by simp;omega) ZQ];rw[List.getElem_append_left ZQ]
  have hX:(x0++v x).take H0.length=x0:=by rw[WB];simp
  rw[hT]at W7 e7;rw[hX]at W7;refine⟨G2,W7,e4.trans R6,?_,e6.trans hβ1⟩;have hm2:j6 M (gV w W x.2.block) σ1 (H0++f x) G1 W σ' H0 G2:=⟨e5.size,by rw[e7];exact e5.keeps,e5.heap,e5.free⟩;have:=SD.trans hm2;simpa[RWs,List.append_assoc]using this
end
def py(P:Program)(f:FuncId):Prop:=∀args w,(callFunc f args).run P w=.ok (.enter f args) w
theorem Bv{P:Program}{f:FuncId}{fn:Func}{c:Code}(hf:P.funcs[f]?=some fn)(Vy:(fn.name=="runtime.NumGoroutine")=false)(hb:fn.body=some c):py P f:=by
 intro args w;unfold callFunc
 simp_all
def MM(M:Fm)(res:FH)(v:Value)(σ2:St)(w2:World):Prop:=
 (∃ys ts2 G2,v=m9 res.sh ys/\Inv M σ2 res.cells ys ts2 w2 G2/\∀j (h:j<res.cells.length),ff res.cells[j]=true\/mj res.cells[j]=true)\/
 ∃q vs l pv ts2 G2,res.cells=.ptr q vs::l/\(∃sh,res.sh=.ptr::sh)/\l.all BO=true/\v=xe pv (l.map unV)/\Inv M σ2 [] [] ts2 w2 G2/\Mv w2 (eE M σ2 []) G2 q pv
def jY(P:Program)(F:fq):Prop:=
 ∀f vals pts res Zr,F f vals pts=some (res,Zr)->py P f/\∃N,vals.length<=N/\∀(M:Fm)(asq:List Value)(w:World)(G:Gh),asq.length=vals.length->M.N=N->M.w0=w->(∀r,M.pr r≠none->∃i p vs,vals[i]?=some (.ptr p vs)/\r=2*i+2)->
  Inv M (mkSt vals pts) [] [] (asq.toArray++Array.replicate (N-asq.length) undef) w G ->
  Calls P f asq.toArray w λe w2=>∃v σ2,e=.returned v/\MM M res v σ2 w2/\Zr=pts.map λx=>(x.1,(eF σ2.ce x.1).getD [])
def FL(P:Program)(E:Env):Prop:=
 ∀f n tm,E.box f=some (n,tm)->py P f/\(∀x,.val x∈tm->gU x=true)/\∃ty,∀(asq:List Value)(w:World),asq.length=n->(∀y∈tm.map (bxV asq),y.oneCell'=true)->
  Calls P f asq.toArray w λe w'=>e=.returned (.pointer (some ⟨w.heap.size,0,none⟩))/\w'=w.alloc (.cells (tm.map (bxV asq)).toArray ty)
def oW:Op->TOp->Prop
 |.call ⟨.value f,args,_⟩,.call _ f' args'=>dN f=some f'/\args'.length=args.size/\∀j (h:j<args'.length)(h':j<args.size),dN args[j]=some args'[j].2
 |_,_=>False
def Lp:TOp:=.call false (.c undef) []
def jR(op:Op)(t:TOp):Prop:=t=Lp\/oW op t
section
variable {P:Program} {M:Fm} {σ σ':St} {H:List TV} {xs:List Value} {ts:Array Value} {w:World} {G:Gh} {a:Act} {o:Oper}
theorem BH:∀{l:List TV}{i:Nat},(argTs i l).length=l.length:=by
 intro l
 induction l with
 |nil=>intro i;rfl
 |cons t l ih=>intro i;simp[argTs,ih]
theorem Gs{F:Nat->Prop}{V:Vs}{C:Cs}:∀{sh:List RSh}{l:List TV}{ys:List Value},oP sh l.length=true->l.length=ys.length->(∀j (h:j<l.length),TmR w F V C G l[j] (ys.getD j undef))->
 (jh sh l).length=(gn sh ys).length/\∀j (h:j<(jh sh l).length),TmR w F V C G (jh sh l)[j] ((gn sh ys).getD j undef):=by
 intro sh
 induction sh with
 |nil=>intro l ys _ _ _;exact⟨rfl,λj h=>by simp[jh]at h⟩
 |cons s sh ih=>
  intro l ys hs hl ht
  cases s with
  |one=>
   simp only[oP,oBA,oDE]at hs
   cases l with
   |nil=>simp at hs
   |cons t l=>
    cases ys with
    |nil=>simp at hl
    |cons y ys=>
     obtain⟨e,h2⟩:=ih (l:=l) (ys:=ys) (by simpa using hs.2) (by simpa using hl) λj h=>by have:=ht (j+1) (by simpa using h);simpa using this
     refine⟨by simp[jh,gn,e],λj h=>?_⟩
     cases j with
     |zero=>have:=ht 0 (by simp);simpa[jh,gn]using this
     |succ j=>have:=h2 j (by simpa[jh]using h);simpa[jh,gn]using this
  |agg n=>
   simp only[oP,oBA,oDE]at hs
   obtain⟨e,h2⟩:=ih (l:=l.drop n) (ys:=ys.drop n) (by simpa using hs.2) (by simp[hl]) λj h=>by
    have h':n+j<l.length:=by simp at h;omega
    simp_all
   refine⟨by simp[jh,gn,e],λj h=>?_⟩
   cases j with
   |zero=>
    refine .agg (by simp;omega) λj hj=>?_
    have ZQ:j<n/\j<l.length:=by simp at hj;omega
    simp_all
   |succ j=>have:=h2 j (by simpa[jh]using h);simpa[jh,gn]using this
  |ptr=>simp[oP]at hs
theorem z0{F:Nat->Prop}{V:Vs}{C:Cs}{sh:List RSh}{l:List TV}{ys:List Value}(hs:oP sh l.length=true)(hl:l.length=ys.length)(ht:∀j (h:j<l.length),TmR w F V C G l[j] (ys.getD j undef)):TmR w F V C G (qM sh l) (m9 sh ys):=by
 obtain⟨e,h2⟩:=Gs hs hl ht;by_cases h1:∃x,jh sh l=[x]
 ·obtain⟨x,hx⟩:=h1;have ⟨y,hy⟩:∃y,gn sh ys=[y]:=List.length_eq_one_iff.1 (by simp_all)
  have e1:qM sh l=x:=by unfold qM;rw[hx]
  have e2:m9 sh ys=y:=by unfold m9;rw[hy]
  simp_all
 ·have hne:¬ ∃y,gn sh ys=[y]:=λ⟨y,hy⟩=>h1 (List.length_eq_one_iff.1 (by rw[e,hy];rfl))
  have e1:qM sh l=TV.tup (jh sh l):=by
   unfold qM
   simp_all
  have e2:m9 sh ys=Value.tuple (gn sh ys).toArray:=by
   unfold m9
   simp_all
  rw[e1,e2];refine .tup (by simp[e]) λj hj=>?_;have:=h2 j hj
  simp_all
theorem K7{res:FH}{ys:List Value}(hI:Inv M σ res.cells ys ts w G)(hok:∀j (h:j<res.cells.length),ff res.cells[j]=true\/mj res.cells[j]=true)(hs:oP res.sh res.cells.length=true)
 {dst:Option Nat}(hd:∀d,dst=some d->d<M.N)(hr:(landR dst res).run σ=some ((),σ')):∃G',Inv M σ' [] [] (match dst with|some d=>ts.setIfInBounds d (m9 res.sh ys)|none=>ts) w G':=by
 cases dst with
 |none=>
  simp[landR,SP.run]at hr;subst hr;have ⟨G',hg,_⟩:=hI.drop;exact⟨G',hg.1⟩
 |some d=>
  have ⟨l,σ1,h1,h2⟩:=dE hr;have ⟨G1,hI1,_,hl,ht⟩:=tZ hI hok h1;simp[wr,SP.run]at h2;subst h2;exact⟨G1,hI1.wrT (hd d rfl) (z0 (by simp_all) (by rw[hl];exact hI.hand) ht)⟩
end
def frM(w:World)(N:Nat):Fm:=⟨w,λ_=>True,λ_=>False,λ_=>none,N,λ_ _=>trivial⟩
def frG:Gh:=⟨λ_=>none,λ_ _=>undef,λ_ _ _=>False⟩
theorem Al(l:List TV):∀i k,eF (f8 i l) k=if k<i then none else l[k-i]?:=by
 induction l with
 |nil=>intro i k;simp[f8,eF]
 |cons t l ih=>
  simp[f8,eF]
  grind
def Dc(w:World)(t:TV)(x:Value):Prop:=∀F V C G,(∀k,F k)->TmR w F V C G t x
theorem mT.plain{w:World}{F:Nat->Prop}{t:TV}{x:Value}(h:mT w F t x):Dc w t x:=λ_ _ _ _ hF=>(h.frame (λ_ _ _=>rfl) λk _ _=>hF k).toTm
theorem calls_flat{P:Program}{F:fq}(hF:jY P F){f:FuncId}{vals:List TV}{avs:List Value}{res:FH}{w:World}(h:F f vals []=some (res,[]))(Zz:res.cells.all BO=true)(hl:avs.length=vals.length)
 (hv:∀j (h:j<vals.length)(h':j<avs.length),Dc w vals[j] avs[j]):py P f/\Calls P f avs.toArray w λe w'=>e=.returned (m9 res.sh (res.cells.map unV))/\Below w.heap.size w w':=by
 obtain⟨YN,N,hN,hc⟩:=hF f vals [] _ _ h;refine⟨YN,?_⟩;have Zc:∀k,frG.F (frM w N).A k:=λk=>⟨trivial,λ_ _ h=>h,λ_ _ _ _ h=>by simp[frG]at h⟩
 have hst:∀i,(mkSt vals []).t i=vals.getD i .dead:=by
  intro i;simp[St.t,mkSt,Al]
 have hE:∀r o,eE (frM w N) (mkSt vals []) [] r o=.dead:=by
  intro r o;unfold eE;split
  ·simp
  ·rfl
 have hI:Inv (frM w N) (mkSt vals []) [] [] (avs.toArray++Array.replicate (N-avs.length) undef) w frG:=by
  refine⟨⟨λr o=>.inl ⟨hE r o,λ_ h=>h⟩,λ_ _ _ _ h=>by simp[frG]at h,λ_ _ _ _ h=>by simp[frG]at h,λ_ _ _ _ _ _ _ h=>by simp[frG]at h,λ_ _ _ _ h=>by simp[frG]at h,λ_ _ _ _ _ h=>h.elim,λ_ _ _ h=>h.elim⟩,λi=>?_,⟨rfl,rfl,rfl,Nat.le_refl _,λ_ _ _ _=>rfl,λ_ _ _ _ h=>by simp[frM]at h,λ_ _ _ h=>h.elim,λ_ _ _ _ h=>by simp[frG]at h,λ_ h=>by simp[frG]at h⟩,λr l h=>by simp[mkSt,eF]at h,?_,rfl,λj hj=>by simp at hj,λ_ _ _ _ h=>by simp[frG]at h⟩
  ·rw[hst];by_cases hi:i<vals.length
   ·have Zl:i<avs.length:=by omega
    have e1:vals.getD i .dead=vals[i]:=by simp[hi]
    have e2:(avs.toArray++Array.replicate (N-avs.length) undef).getD i undef=avs[i]:=by
     simp[Array.getElem?_append,Zl]
    rw[e1,e2];exact hv i hi Zl _ _ _ frG Zc
   ·have e1:vals.getD i .dead=.dead:=by rw[oGD,oGN (by omega)];rfl
    rw[e1];exact .dead
  ·show(avs.toArray++Array.replicate (N-avs.length) undef).size=N;simp;omega
 refine(hc (frM w N) avs w frG hl rfl rfl (λr hr=>by simp[frM]at hr) hI).mono λe w2 ⟨v,σ2,he,XW,_⟩=>?_
 rcases XW with⟨ys,ts2,G2,rfl,ZI,_⟩|⟨q,vs,l,pv,ts2,G2,ZP,_⟩
 rotate_left
 ·rw[ZP]at Zz;simp[BO]at Zz
 have Ve:ys=res.cells.map unV:=by
  have hlen:res.cells.length=ys.length:=ZI.hand;apply List.ext_getElem
  ·rw[List.length_map,hlen]
  ·intro j h1 h2
   have hj:j<res.cells.length:=by omega
   have W4:=List.all_eq_true.1 Zz res.cells[j] (List.getElem_mem hj)
   have hown:=ZI.hand_own (j:=j) hj (by
    intro e;rw[e]at W4
    simp[BO]at W4)
   rw[List.getElem_map]
   have e1:ys.getD j undef=ys[j]:=by simp[oGD,h1]
   rw[e1]at hown
   cases hc:res.cells[j]with
   |v x=>
    rw[hc]at hown
    cases hown with
    |v _ _=>rfl
   |_=>rw[hc]at W4;simp[BO]at W4
 subst Ve;exact⟨he,⟨ZI.fram.os,ZI.fram.tape,ZI.fram.output,ZI.fram.size,λk hk=>ZI.fram.old k hk (λh=>h) λ_ _ _ _ h=>by simp[frM]at h⟩⟩
section
variable {P:Program} {M:Fm} {σ σ':St} {H:List TV} {xs:List Value} {ts:Array Value} {w:World} {G:Gh} {a:Act} {o:Oper}
theorem Gz{t t':TV}{x:Value}(hI:Inv M σ H xs ts w G)(hx:TmR w (G.F M.A) σ.v (eE M σ H) G t x)(hr:(see1 t).run σ=some (t',σ')):σ'=σ/\mT w (λ_=>True) t' x:=by
 cases hx with
 |v h=>
  obtain⟨rfl,rfl⟩:=hr;exact⟨rfl,.v h⟩
 |nil=>
  obtain⟨rfl,rfl⟩:=hr;exact⟨rfl,.sl 1 (λ_ _=>.nilFunc) (λi h=>by simp at h) (Nat.le_refl _) (Nat.zero_le _) (λ_=>rfl) (λi j h=>by simp at h) (λi j h=>by simp at h)⟩
 |sl h=>
  obtain⟨rfl,rfl⟩:=hr;exact⟨rfl,h.frame (λ_ _ _=>rfl) λ_ _ _=>trivial⟩
 |dead=>simp[see1,SP.run]at hr
 |ptr=>simp[see1,SP.run]at hr
 |ip=>simp[see1,SP.run]at hr
 |agg=>simp[see1,SP.run]at hr
 |tup=>simp[see1,SP.run]at hr
 |fn=>simp[see1,SP.run]at hr
 |pw=>simp[see1,SP.run]at hr
 | @pk p vs x V0 h0 hv hok=>
  obtain⟨_,σ1,h1,h2⟩:=dE hr;have e1:=(d8 h1).1;have e2:=(d8 h1).2;subst e1;obtain⟨_,c,ZH,Z5⟩:=hok e2;simp only[SP.run]at h2
  have Z8:p.root≠M.hr:=by
   intro e;rw[e]at h2;rw[hI.hr_dead]at h2;cases hp:p.hops<;>rw[hp]at h2<;>simp[ek,SP.run]at h2
  obtain⟨u,fp,h4,h5,_⟩:=hI.core.hv_own p Z5 (by simp);rw[eu Z8]at Z5;rw[Z5]at h2;obtain⟨rfl,rfl⟩:=h2;rw[ZH]at h4
  injection h4 with h4
  subst h4;exact⟨rfl,h5.share'.frame (λ_ _ _=>rfl) λ_ _ _=>trivial⟩
theorem KL:∀{l l':List TV}{ys:List Value},Inv M σ H xs ts w G->l.length=ys.length->(∀j (h:j<l.length),TmR w (G.F M.A) σ.v (eE M σ H) G l[j] (ys.getD j undef))->(seeL l).run σ=some (l',σ')->
 σ'=σ/\l'.length=l.length/\∀j (h:j<l'.length),mT w (λ_=>True) l'[j] (ys.getD j undef):=by
 intro l
 induction l generalizing σ σ' with
 |nil=>
  intro l' ys hI hl _ hr;simp only[seeL,SP.run,oSJ,oPJ]at hr
  simp_all
 |cons t l ih=>
  intro l' ys hI hl ht hr
  cases ys with
  |nil=>simp at hl
  |cons y ys=>
   obtain⟨t',σ1,h1,h2⟩:=dE hr;have ⟨r',σ2,h3,h4⟩:=dE h2;obtain⟨rfl,rfl⟩:=h4;obtain⟨rfl,k1⟩:=Gz hI (by have:=ht 0 (by simp);simpa using this) h1;obtain⟨rfl,k2,k3⟩:=ih hI (by simpa using hl) (λj h=>by have:=ht (j+1) (by simpa using h);simpa using this) h3;refine⟨rfl,by simp[k2],λj h=>?_⟩
   cases j with
   |zero=>simpa using k1
   |succ j=>have:=k3 j (by simpa using h);simpa using this
theorem KM{t t':TV}{x:Value}(hI:Inv M σ H xs ts w G)(hx:TmR w (G.F M.A) σ.v (eE M σ H) G t x)(hr:(seeA t).run σ=some (t',σ')):σ'=σ/\Dc w t' x:=by
 have one:(see1 t).run σ=some (t',σ')->σ'=σ/\Dc w t' x:=λh=>by
  obtain⟨e,k⟩:=Gz hI hx h;exact⟨e,k.plain⟩
 cases t with
 |agg l=>
  obtain⟨l',σ1,h1,h2⟩:=dE hr;obtain⟨rfl,rfl⟩:=h2
  cases hx with
  | @agg _ ys hl ht=>
   obtain⟨e,k1,k2⟩:=KL (ys:=ys.toList) hI (by simp_all) (λj h=>by simp_all) h1;refine⟨e,λF V C G' hF=>.agg (by rw[hl,k1]) λj hj=>?_⟩;have:=k2 j hj
   have e3:ys.getD j undef=ys.toList.getD j undef:=by simp_all
   rw[e3];exact this.plain F V C G' hF
 |ip cs=>
  obtain⟨rfl,rfl⟩:=hr
  cases hx with
  |ip u hc hr=>exact⟨rfl,λF V C G' hF=>.ip u (λj hj=>⟨hF _,(hc j hj).2⟩) λj hj=>(hr j hj).frame (λ_ _ _=>rfl) λk _ _=>hF k⟩
 |fn f cap=>
  simp only[seeA]at hr;split at hr
  ·rename_i hc;obtain⟨rfl,rfl⟩:=hr;rw[List.all_eq_true]at hc
   cases hx with
   |fn hl ht=>exact⟨rfl,λF V C G' hF=>.fn hl λj hj=>(((ht j hj).imC (hc _ (List.getElem_mem hj))).frame (λ_ _ _=>rfl) λk _ _=>hF k).toTm⟩
  ·simp[SP.run]at hr
 |_=>exact one hr
theorem IQ:∀{l:List Opd}{l':List Operand}{Zs:List TV}{σ σ':St},Inv M σ [] [] a.tmps w G->l'.length=l.length->(∀j (h:j<l.length)(h':j<l'.length),dN l'[j]=some l[j])->(seeAs l).run σ=some (Zs,σ')->
 σ'=σ/\Zs.length=l.length/\∀j (h:j<Zs.length)(h':j<l'.length),Dc w Zs[j] (a.eval l'[j]):=by
 intro l
 induction l with
 |nil=>
  intro l' Zs σ σ' hI hl hc hr;simp[seeAs,SP.run]at hr
  simp_all
 |cons x l ih=>
  intro l' Zs σ σ' hI hl hc hr
  cases l' with
  |nil=>simp at hl
  |cons x' l'=>
   obtain⟨t,σ1,h1,h2⟩:=dE hr;obtain⟨t',σ2,h3,h4⟩:=dE h2;obtain⟨r,σ3,h5,h6⟩:=dE h4;obtain⟨rfl,rfl⟩:=h6;obtain⟨rfl,ht⟩:=eY hI.tmr (by have:=hc 0 (by simp) (by simp);simpa using this) h1;obtain⟨rfl,k1⟩:=KM hI ht h3;obtain⟨rfl,k2,k3⟩:=ih (l':=l') hI (by simpa using hl) (λj h h'=>by have:=hc (j+1) (by simpa using h) (by simpa using h');simpa using this) h5;refine⟨rfl,by simp[k2],λj h h'=>?_⟩
   cases j with
   |zero=>exact k1
   |succ j=>exact k3 j (by simpa using h) (by simpa using h')
theorem JI{F:fq}(hF:jY P F){asq:List Value}{vals:List TV}{Y7:FuncId}(hd:∀d,o.dst=some d->d<M.N/\M.pr (2*d+2)=none)(hI1:Inv M σ [] [] a.tmps w G)(hal:asq.length=vals.length)
 (Xe:∀j (h:j<vals.length)(h':j<asq.length),Dc w vals[j] asq[j])(h2:(callB F o.dst Y7 vals).run σ=some ((),σ'))(YK:py P Y7->(execOp a.eval o).run P w=.ok (.enter Y7 asq.toArray) w):LH P M σ' a o w:=by
 intro K' Q hK;obtain⟨r,σ1,h3,h4⟩:=dE h2
 have Xw:F Y7 vals []=some r/\σ1=σ:=by
  cases hq:F Y7 vals []with
  |none=>rw[hq]at h3;simp[jZ,SP.run]at h3
  |some y=>
   rw[hq]at h3;simp only[jZ,SP.run,oSJ,oPJ]at h3
   simp_all
 obtain⟨Xw,rfl⟩:=Xw;split at h4
 case isFalse=>simp[SP.run]at h4
 rename_i YD;simp only[oBA,oDE]at YD;obtain⟨res,Zr⟩:=r;obtain rfl:Zr=[]:=oEN YD.1.1;obtain⟨YN,Wt⟩:=calls_flat hF Xw YD.1.2 hal Xe;unfold Oper.wp;rw[YK YN,Oper.upon_enter];refine Wt.mono λe w2 ⟨he,hb⟩=>?_;subst he;simp only;have ZI:=(hI1.grow (w':=w2) (λk hk=>hb.block k hk) hb.size hb.os hb.tape hb.output).1;refine hK (a.put o.dst (m9 res.sh (res.cells.map unV))) w2 G ?_ (na _ _ _)
 cases hdst:o.dst with
 |none=>
  rw[hdst]at h4;simp only[SP.run,oSJ,oPJ,true_and]at h4;rw[<- h4];exact ZI
 |some d=>
  rw[hdst]at h4;simp only[wr,SP.run,oSJ,oPJ,true_and]at h4;rw[<- h4];refine ZI.wrT (hd d hdst).1 (z0 YD.2 (by simp) λj hj=>?_);have W4:=List.all_eq_true.1 YD.1.2 res.cells[j] (List.getElem_mem hj)
  have e1:(res.cells.map unV).getD j undef=unV res.cells[j]:=by simp[oGD,hj]
  rw[e1]
  cases hc:res.cells[j]with
  |v x=>rw[hc]at W4;exact .v W4
  |_=>rw[hc]at W4;simp[BO]at W4
end
section
variable {P:Program} {M:Fm} {σ σ':St} {H:List TV} {xs:List Value} {ts:Array Value} {w:World} {G:Gh} {a:Act} {o:Oper}
theorem B6:∀{q:List (GP×List TV)}{σ σ':St},(putBack q).run σ=some ((),σ')->∀x∈q,x.2.length=x.1.cells.length:=by
 intro q
 induction q with
 |nil=>simp_all
 |cons y q ih=>
  intro σ σ' h x hx;have ⟨_,σ1,h1,h2⟩:=dE h;split at h2
  ·rename_i YD;rcases List.mem_cons.1 hx with rfl|hx
   ·simp_all
   ·exact ih h1 x hx
  ·simp[SP.run]at h2
theorem sy.nodup{i:Nat}{vals:List TV}{asq us:List Value}{K:List (GP×Addr)}(h:sy w i vals asq K us):mI (K.map λx=>x.1.i)=true/\∀x∈K,i<=x.1.i:=by
 induction h with
 |nil=>exact⟨rfl,λx hx=>by simp_all⟩
 |ptr hr hb hs h0 hh hu hc hok h ih=>
  refine⟨?_,λx hx=>?_⟩
  ·simp only[List.map_cons,mI,oBA,Bool.not_eq_true',List.contains_eq_mem,decide_eq_false_iff_not];refine⟨λhm=>?_,ih.1⟩;have ⟨y,hy,e⟩:=List.mem_map.1 hm;have:=ih.2 y hy;omega
  ·rcases List.mem_cons.1 hx with rfl|hx
   ·simp_all
   ·have:=ih.2 x hx;omega
 |arg ha h ih=>exact⟨ih.1,λx hx=>by have:=ih.2 x hx;omega⟩
 |own h ih=>exact⟨ih.1,λx hx=>by have:=ih.2 x hx;omega⟩
theorem KX{K:List (GP×Addr)}(Zu:mI (K.map λx=>x.1.i)=true):∀x∈K,prK K (2*x.1.i+2)=some (x.2.block,x.2.off,x.1.cells.length):=by
 induction K with
 |nil=>simp_all
 |cons y K ih=>
  intro x hx;simp only[List.map_cons,mI,oBA,Bool.not_eq_true',List.contains_eq_mem,decide_eq_false_iff_not]at Zu;simp[prK];rcases List.mem_cons.1 hx with rfl|hx
  ·simp
  ·rw[oIN]
   ·exact ih Zu.2 x hx
   ·intro e;exact Zu.1 (List.mem_map.2 ⟨x,hx,by omega⟩)
theorem DU{α β:Type}{K:List (GP×Addr)}{f:GP×Addr->List α}{g:GP×Addr->List β}(h:∀x∈K,(f x).length=(g x).length):(K.flatMap f).length=(K.flatMap g).length:=by
 induction K with
 |nil=>rfl
 |cons x K ih=>simp_all
theorem zL{α β:Type}:∀{a:List α}{b c:List β},a.length<=b.length->a.zip (b++c)=a.zip b:=by
 intro a
 induction a with
 |nil=>simp_all
 |cons x a ih=>
  intro b c h
  cases b with
  |nil=>simp at h
  |cons y b=>simp_all
def rN(σ:St)(x:GP×Addr):List TV:=(eF σ.ce (2*x.1.i+2)).getD []
def wQ(σ:St)(G:Gh)(w:World)(x:GP×Addr):List Value:=(List.range (rN σ x).length).map (G.val w (2*x.1.i+2))
theorem sy.hands2{vals:List TV}{asq us:List Value}{K:List (GP×Addr)}{N:Nat}{σ2:St}{res ys:_}{ts2:Array Value}{w2:World}{G2:Gh}(h:sy w 0 vals asq K us)(ZV:∀x∈K,0<x.1.cells.length)
 (h2:Inv (M.into w G (prK K) N) σ2 res ys ts2 w2 G2)(hlen:∀x∈K,(rN σ2 x).length=x.1.cells.length):
 Kf res ys (res++K.flatMap (rN σ2)) (ys++K.flatMap (wQ σ2 G2 w2)) (eE (M.into w G (prK K) N) σ2 res) G2 w2 (prK K) (λr=>res.length+bsK K r):=by
 have Vx:∀x∈K,(wQ σ2 G2 w2 x).length=x.1.cells.length:=λx hx=>by simp[wQ,hlen x hx]
 refine⟨?_,λj hj=>⟨by simp;omega,List.getElem_append_left hj,?_⟩,λr b o n hp t ht=>?_,λj hj=>?_,λr b o n r' b' o' n' hp hp' j j' hj ZQ e=>Kc _ _ _ _ _ _ _ _ hp hp' j j' hj ZQ (by omega)⟩
 ·rw[List.length_append,List.length_append,h2.hand,DU (f:=rN σ2) (g:=wQ σ2 G2 w2) λx hx=>by rw[hlen x hx,Vx x hx]]
 ·rw[oGD,oGD,List.getElem?_append_left (by rw[<- h2.hand];exact hj)]
 ·obtain⟨x,x1,x2,x3,x4,x5,x6,x7⟩:=Bq hlen hp;obtain⟨y,y1,y2,y3,y4,y5,y6,y7⟩:=Bq Vx hp;have W5:x=y:=sb h.nodup.1 x1 y1 (by omega);subst W5
  have XI:t<(rN σ2 x).length:=by rw[hlen x x1];omega
  have e1:=x7 t ht;rw[oGE XI]at e1;obtain⟨k1,k2⟩:=oGS e1;refine⟨by rw[List.length_append];omega,by omega,?_,?_⟩
  ·have e2:(res++K.flatMap (rN σ2))[res.length+bsK K r+t]'(by rw[List.length_append];omega)=(K.flatMap (rN σ2))[bsK K r+t]:=by
    rw[List.getElem_append_right (by omega)];congr 1;omega
   rw[e2,k2]
   rw[eu (by have:r≠1:=by omega
             exact this)]
   unfold St.c
   have hb:rN σ2 x=(eF σ2.ce r).getD []:=by rw[x2];rfl
   cases ha:eF σ2.ce r with
   |none=>rw[hb,ha]at XI;simp at XI
   |some l=>
    simp only[hb,ha,Option.getD_some]at XI⊢;simp[XI]
  ·have e3:=y7 t ht;rw[oGD,List.getElem?_append_right (by rw[<- h2.hand];omega)];rw[show res.length+bsK K r+t-ys.length=bsK K r+t by rw[<- h2.hand];omega];rw[e3,x2];simp[wQ,XI]
 ·by_cases hj1:j<res.length
  ·exact .inl hj1
  ·right;have hc:(K.flatMap (rN σ2)).length=(j7 K).length:=DU hlen;obtain⟨r,b,o,n,t,c1,c2,c3⟩:=Mn h.nodup.1 (j:=j-res.length) (by rw[List.length_append]at hj;omega);exact⟨r,b,o,n,t,c1,c2,by omega⟩
theorem GS:∀{l:List TV}{p:dW}{σ σ':St},p.hops=[]->(putL p l).run σ=some ((),σ')->(∀o,o<p.off->σ'.c p.root o=σ.c p.root o)/\∀t (h:t<l.length),σ'.c p.root (p.off+t)=l[t]:=by
 intro l
 induction l with
 |nil=>
  intro p σ σ' _ h;simp only[putL,SP.run,oSJ,oPJ,true_and]at h
  simp_all
 |cons y l ih=>
  intro p σ σ' hp h;obtain⟨r,off,hops⟩:=p;simp only at hp;subst hp;simp only[putL]at h;obtain⟨_,σ1,h1,h2⟩:=dE h
  have Zq:(∀o,o≠off->σ1.c r o=σ.c r o)/\σ1.c r off=y:=by
   obtain⟨old,l1,vr,hg,hl,ho,hσ1,_⟩:=DC h1;subst hσ1;refine⟨λo hne=>?_,?_⟩
   ·simp only[St.c,eQ,if_true,hl];simp[List.getElem?_set,Ne.symm hne]
   ·simp only[St.c,eQ,if_true];simp[fZ,List.getElem?_set,ho]
  cases l with
  |nil=>
   simp only[SP.run,oSJ,oPJ,true_and]at h2;subst h2;refine⟨λo ho=>Zq.1 o (by simp only at ho;omega),λt ht=>?_⟩
   have:t=0:=by simp at ht;omega
   subst this;exact Zq.2
  |cons y2 l=>
   have X8:(⟨r,off,[]⟩:dW).add 1=⟨r,off+1,[]⟩:=rfl;rw[X8]at h2;obtain⟨k1,k2⟩:=ih (p:=⟨r,off+1,[]⟩) rfl h2;refine⟨λo ho=>?_,λt ht=>?_⟩
   ·simp only at ho;exact(k1 o (by show o<off+1;omega)).trans (Zq.1 o (by omega))
   ·cases t with
    |zero=>simp_all
    |succ t=>
     have:=k2 t (by simpa using ht);rw[show off+(t+1)=off+1+t by omega];simpa using this
theorem Ag{x:GP×Addr}{f:GP×Addr->List TV}(hx:x.1.p.hops=[])(h:(putBack ([x].map λx=>(x.1,f x))).run σ=some ((),σ')):∀t,t<(f x).length->σ'.c x.1.p.root (x.1.p.off+t)=(f x).getD t .dead:=by
 intro t ht;have ⟨_,σ1,h1,h2⟩:=dE h;split at h2
 ·rw[(GS hx h2).2 t ht];simp[ht]
 ·simp[SP.run]at h2
theorem D8{F:fq}(hF:jY P F){asq:List Value}{vals:List TV}{ns:List (Option Nat)}{Y7:FuncId}{σ1:St}{G1:Gh}(hd:∀d,o.dst=some d->d<M.N/\M.pr (2*d+2)=none)(hI1:Inv M σ1 [] [] a.tmps w G1)(hns:ns.length=vals.length)(hal:asq.length=vals.length)
 (Xe:∀j (h:j<vals.length)(h':j<asq.length),TmR w (G1.F M.A) σ1.v (eE M σ1 []) G1 vals[j] asq[j])(h2:(callV F o.dst Y7 ns vals).run σ1=some ((),σ'))(YK:py P Y7->(execOp a.eval o).run P w=.ok (.enter Y7 asq.toArray) w):LH P M σ' a o w:=by
 intro K' Q hK;unfold callV at h2;obtain⟨ow,σ0,N8,h2⟩:=dE h2;obtain⟨q,σ2,h3,h4⟩:=dE h2
 have SM:(ns.zip vals).length=vals.length:=by simp[hns]
 have XJ:(ns.zip vals).map (·.2)=vals:=by
  rw[List.map_snd_zip];omega
 have QE:∀{σ1:St}{H1:List TV}{G1:Gh},(∀j (h:j<vals.length)(h':j<asq.length),TmR w (G1.F M.A) σ1.v (eE M σ1 H1) G1 vals[j] asq[j])->∀j (h:j<(ns.zip vals).length)(h':j<asq.length),TmR w (G1.F M.A) σ1.v (eE M σ1 H1) G1 (ns.zip vals)[j].2 asq[j]:=λh j h1 h2=>by
  have hj:j<vals.length:=by rw[<- SM];exact h1
  have:=h j hj h2;simpa using this
 obtain⟨zs,G0,VZ,RV,TI⟩:=BR hI1 (by omega) (QE Xe) N8;obtain⟨us,G2,K,Rz,VO,XF,T6⟩:=Jt (asq:=asq) VZ.1 (by omega) (QE λj h h'=>VZ.tm (Xe j h h')) h3;have UC:=Js h3;have ZG:=VZ.trans Rz;rw[XJ]at XF;obtain⟨_,σ3,h5,h6⟩:=dE h4
 have Vo:([]:List TV)++ow.map (·.2)++q.flatMap (·.cells)=ow.map (·.2)++j7 K:=by rw[<- VO];simp[j7,List.flatMap_map]
 rw[Vo,List.nil_append]at ZG;rw[Vo]at T6;have hz:zs.length=ow.length:=RV.facts.1
 have RY:∀j p vs,vals[j]?=some (.pk p vs)->∃x∈ow,x.1=j:=λj p vs hj=>by
  obtain⟨hjl,OO⟩:=oGS hj
  have Qh:j<ns.length:=by omega
  have Sf:(ns.zip vals)[j]?=some (ns[j],.pk p vs):=by
   rw[oGE (by omega)];simp[OO]
  have hn:=UC j _ p vs Sf;rw[hn]at Sf;obtain⟨x,h7,h8⟩:=TI j p vs Sf;exact⟨x,h7,by omega⟩
 obtain⟨rfl,Pb⟩:=IV ZG.1 h5;split at h6
 case isFalse=>simp[SP.run]at h6
 rename_i YD;simp only[oBA,List.all_eq_true,oDE]at YD;obtain⟨Zu,ZV⟩:=YD;have Xt:∀x∈K,0<x.1.cells.length:=λx hx=>ZV x.1 (by rw[<- VO];exact List.mem_map_of_mem hx)
 have Yp:=λj h h'=>by
  have:=ZG.tm (Xe j h (by omega));simpa using this
 have Xk:∀x∈K,x.1.p.root≠1/\G2.addr w x.1.p=some x.2/\(∃t,ek (eE M σ3 (ow.map (·.2)++j7 K) x.1.p.root x.1.p.off) x.1.p.hops=some t)/\((∃o n,G2.β x.1.p.root=some (x.2.block,o,n))\/G2.φ x.1.p.root x.1.p.off x.2.block):=λx hx=>by
  obtain⟨r1,ad,r2,r3,_,r4,r5⟩:=Pb x.1 (by rw[<- VO];exact List.mem_map_of_mem hx) _ (T6 x hx)
  injection r2 with r2
  injection r2 with r2
  subst r2;exact⟨r1,r3,r4,r5⟩
 have hh:=XF.hands ZG.1 RV (by rw[VO];exact Zu) Xt λx hx=>⟨(Xk x hx).1,(Xk x hx).2.2.2⟩;obtain⟨r,σ4,h7,h8⟩:=dE h6
 have Xw:F Y7 (argTs 0 vals) (q.map (λg=>(2*g.i+2,g.cells))++ow.map λx=>(2*x.1+3,[x.2]))=some r/\σ4=σ3:=by
  cases hq:F Y7 (argTs 0 vals) (q.map (λg=>(2*g.i+2,g.cells))++ow.map λx=>(2*x.1+3,[x.2]))with
  |none=>rw[hq]at h7;simp[jZ,SP.run]at h7
  |some r'=>
   rw[hq]at h7;simp only[jZ,SP.run,oSJ,oPJ]at h7;exact⟨by rw[h7.1],h7.2.symm⟩
 obtain⟨Xw,rfl⟩:=Xw;obtain⟨res,Zr⟩:=r;simp only at h8;split at h8
 case isFalse=>simp[SP.run]at h8
 rename_i VU;simp only[oBA,oDE]at VU;obtain⟨_,σ5,h9,ZN⟩:=dE h8;obtain⟨YN,N,hN,Wt⟩:=hF Y7 _ _ _ _ Xw;rw[BH]at hN
 have TQ:(q.map (λg=>(2*g.i+2,g.cells))++ow.map λx=>(2*x.1+3,[x.2]))=ceK K++ceO ow:=by rw[<- VO];simp[ceK,ceO]
 have hin:=XF.enter ZG.1 RV RY hh Yp (N:=N) (by omega)
 have UU:=Wt (M.into w G2 (prK K) N) asq w (G2.into (prK K) (λr=>ow.length+bsK K r) (owK ow) (zs++us)) (by rw[BH];exact hal) rfl rfl (λr hr=>by
  have hr:prK K r≠none:=hr
  cases hp:prK K r with
  |none=>exact absurd hp hr
  |some y=>
   obtain⟨b,o,n⟩:=y;obtain⟨x,x1,x2,_⟩:=kD hp;obtain⟨_,_,p,vs,s1⟩:=XF.slot x x1;refine⟨x.1.i,⟨2*x.1.i+2,0,p.hops⟩,List.replicate (p.hops.length+1) 0,?_,x2⟩;rw[BI];have s1:vals[x.1.i]?=some (.ptr p vs):=s1;rw[s1]
   simp[argT]) (by rw[TQ];exact hin)
 have hrun:=YK YN;unfold Oper.wp;rw[hrun,Oper.upon_enter];refine UU.mono λe w2 ⟨v,σc,he,XW,TR⟩=>?_;subst he;simp only
 have Se:q.zip (Zr.map (·.2))=K.map λx=>(x.1,rN σc x):=by
  rw[TR,TQ,<- VO];simp only[ceK,List.map_append,List.map_map];rw[zL (by simp),List.zip_map'];rfl
 rw[Se]at h9;have Xq:∀x∈K,(rN σc x).length=x.1.cells.length:=λx hx=>B6 h9 _ (List.mem_map.2 ⟨x,hx,rfl⟩);have Zx:=KX XF.nodup.1
 have hlt:∀x∈K,x.2.block<w.heap.size:=λx hx=>by
  obtain⟨cur,e,fz,hb,_⟩:=pN (hh.here _ _ _ _ (Zx x hx) 0 (Xt x hx)).1;exact(Array.getElem?_eq_some_iff.1 hb).1
 have V2:∀x∈K,∀y∈K,x.2.block=y.2.block->x=y:=λx hx y hy e=>by
  have h1:=Zx x hx;have h2:=Zx y hy;rw[<- e]at h2;have:=hh.inj _ _ _ _ _ _ _ h1 h2;exact sb XF.nodup.1 hx hy (by omega)
 have back:∀{Hc:List TV}{ys:List Value}{ts2:Array Value}{Gc:Gh},Inv (M.into w G2 (prK K) N) σc Hc ys ts2 w2 Gc->∃G4,Inv M σ5 Hc ys a.tmps w2 G4/\G4.β=G2.β:=by
  intro Hc ys ts2 Gc W2;have Od:=XF.hands2 (M:=M) (G:=G2) (N:=N) Xt W2 Xq;have hsz:w.heap.size<=w2.heap.size:=W2.fram.size
  obtain⟨G3,W7,V6,hβ3⟩:=ZG.1.leave hh W2 Od (w':=RWs w K w2) JQ zK.1 zK.2.1 zK.2.2 (λk hk=>Ms λx hx=>hk _ _ _ _ (Zx x hx)) (λr b o n hp=>by
   obtain⟨x,x1,x2,x3,_⟩:=kD hp;rw[x3]
   exact Mt (hlt x x1) (Nat.lt_of_lt_of_le (hlt x x1) hsz) ⟨x,x1,rfl⟩)
  obtain⟨G4,Vp,Pj,A',hβ4⟩:=EK (w:=w) (f:=rN σc) (v:=wQ σc Gc w2) (λx=>by simp[wQ]) (K:=K) (W:=w2) W2.hand W7 (λx hx=>by
   have hp:=Zx x hx;obtain⟨hβ,cur0,cur,e,fz,p1,p2,p3,p4⟩:=W2.fram.par _ _ _ _ hp
   have Vb:(wQ σc Gc w2 x).length=x.1.cells.length:=by simp[wQ,Xq x hx]
   refine⟨cur0,cur,e,fz,p1,p2,p3,λj hj=>p4 j (by rw[Vb]at hj;exact hj),λj hj=>?_⟩;have Z3:=W2.core.boxcell hβ (o:=j) (by omega);obtain⟨YB,e',ds,c1,c2,c3⟩:=pN Z3;rw[p2]at c1
   injection c1 with c1
   injection c1 with c1 _ _
   subst c1;rw[c3]
   simp[wQ]) (λx hx e=>by have h1:=Xq x hx;have h2:=Xt x hx;rw[e,List.length_nil]at h1;omega) V2 (by rw[<- VO]at Zu;simpa[Function.comp_def]using Zu) (λx hx=>by
   obtain⟨r1,r2,⟨t,r3⟩,_⟩:=Xk x hx;obtain⟨t',k1,k2⟩:=V6.keeps.ptr x.1.p x.2 t r1 rfl r2 r3
   exact⟨r1,k1,t',k2⟩) h9
  exact⟨G4,Vp,hβ4.trans hβ3⟩
 rcases XW with⟨ys,ts2,Gc,rfl,W2,TK⟩|⟨pl,NO,fl,pv,ts2,Gc,ZP,⟨shr,hsh⟩,Zz,rfl,W2,UD⟩
 ·obtain⟨G4,Vp,_⟩:=back W2
  have hP:isP res=false:=by
   cases hp:isP res with
   |false=>rfl
   |true=>
    unfold isP at hp;split at hp
    ·rename_i NS p vs l1 e1 e2;have:=TK 0 (by rw[e2];simp);simp[e2,ff,mj]at this
    ·cases hp
  rw[hP]at ZN VU;simp only[Bool.false_eq_true,if_false,Bool.false_or]at ZN VU;obtain⟨G5,W1⟩:=K7 Vp TK VU.2 (dst:=o.dst) (λd YA=>(hd d YA).1) ZN;refine hK (a.put o.dst (m9 res.sh ys)) w2 G5 ?_ (na _ _ _)
  cases hdst:o.dst with
  |none=>rw[hdst]at W1;exact W1
  |some d=>rw[hdst]at W1;exact W1
 ·obtain⟨G4,Vp,hβ4⟩:=back W2
  have hP:isP res=true:=by unfold isP;rw[ZP,hsh]
  rw[hP]at ZN;simp only[if_true]at ZN
  have Rw:∃G5,Inv M σ' [] [] (match o.dst with|some d=>a.tmps.setIfInBounds d (xe pv (fl.map unV))|none=>a.tmps) w2 G5:=by
   cases hdst:o.dst with
   |none=>
    rw[hdst]at ZN;simp only[landP,SP.run,oSJ,oPJ,true_and]at ZN;subst ZN;exact⟨G4,Vp⟩
   |some d=>
    rw[hdst,ZP]at ZN;simp only[landP]at ZN;split at ZN
    case h_2=>simp[SP.run]at ZN
    rename_i NM Zb l' g U9 Yx
    injection U9 with U9 O7
    injection U9 with U9 _
    subst U9;subst O7;split at ZN
    case isFalse=>simp[SP.run]at ZN
    rename_i Te;simp only[oBA,beq_iff_eq,List.isEmpty_iff]at Te;obtain⟨Z8,Yk⟩:=Te;obtain⟨NH,σ6,Xj,Ur⟩:=dE ZN;rw[tV,qt]at Xj
    injection Xj with Xj
    injection Xj with Xj h13
    subst Xj;subst h13;simp only[wr,SP.run,oSJ,oPJ,true_and]at Ur;subst Ur;obtain⟨x,rfl⟩:∃x,K=[x]:=List.length_eq_one_iff.1 (by have:=congrArg List.length VO;simpa using this)
    have R9:x.1=g:=by simpa using VO
    have R':x∈[x]:=by simp
    obtain⟨r1,r2,_,_⟩:=Xk x R';have hp:=Zx x R';obtain⟨hβc,_⟩:=W2.fram.par _ _ _ _ hp
    have Qe:x.1.p.hops=[]:=by rw[R9];exact Yk
    have Yc:pl.root=2*x.1.i+2:=by rw[R9];exact Z8
    obtain⟨b0,o0,n0,hβ0,S5⟩:∃b0 o0 n0,G4.β x.1.p.root=some (b0,o0,n0)/\x.2=⟨b0,o0+x.1.p.off,none⟩:=by
     rw[hβ4];unfold Gh.addr at r2;rw[Qe]at r2;simp only at r2
     cases hb:G2.β x.1.p.root with
     |none=>rw[hb]at r2;simp at r2
     |some y=>
      obtain⟨b0,o0,n0⟩:=y;rw[hb]at r2
      injection r2 with r2
      exact⟨b0,o0,n0,rfl,r2.symm⟩
    have Ww:=Ag Qe h9;refine⟨G4,Vp.wrT (hd d hdst).1 (Gu (.ptr _ (λ_=>Nat.le_refl _) rfl λ_=>?_) Zz)⟩;rw[<- R9];obtain⟨_,ad,t,ha,hv,ht⟩:=UD;refine⟨r1,ad,?_⟩
    have hval:G4.val w2 x.1.p.root (x.1.p.off+pl.off)=Gc.val w2 pl.root pl.off:=by
     unfold Gh.val;rw[hβ0,Yc,hβc];simp only[S5,Nat.add_assoc]
    cases hho:pl.hops with
    |nil=>
     rw[hho]at ht;refine⟨_,?_,hv,rfl⟩;rw[<- ha];unfold Gh.addr;simp only[hho,hβ0,Yc,hβc,S5,Nat.add_assoc]
    |cons h1 hs=>
     rw[hho]at ht;refine⟨t,?_,hv,?_⟩
     ·rw[<- ha];unfold Gh.addr;simp only[hho];rw[hval]
     ·have RQ:x.1.p.root≠M.hr:=r1;rw[eu RQ]
      have Y8:pl.off<x.1.cells.length:=by
       rcases Nat.lt_or_ge pl.off x.1.cells.length with h|h
       ·exact h
       ·have:=W2.core.boxc _ _ _ _ hβc pl.off h;rw[Yc]at ht;rw[this]at ht;simp[ek]at ht
      have ZK:=Ww pl.off (by rw[Xq x R'];exact Y8)
      have Tc:eE (M.into w G2 (prK [x]) N) σc [] pl.root pl.off=(rN σc x).getD pl.off .dead:=by
       rw[Yc,eu (by show 2*x.1.i+2≠1;omega)];unfold rN St.c
       cases eF σc.ce (2*x.1.i+2)with
       |none=>simp
       |some l=>rfl
      rw[Tc]at ht;rw[ZK];exact ht
  obtain⟨G5,W1⟩:=Rw;refine hK (a.put o.dst (xe pv (fl.map unV))) w2 G5 ?_ (na _ _ _)
  cases hdst:o.dst with
  |none=>rw[hdst]at W1;exact W1
  |some d=>rw[hdst]at W1;exact W1
theorem oO{Y7:FuncId}{args':Array Operand}{caps:Array Value}{fo:Operand}{VJ:Array TypeId}(ho:o.op=.call ⟨.value fo,args',VJ⟩)(hv:a.eval fo=.func (.func Y7) #[] caps)(YN:py P Y7):
 (execOp a.eval o).run P w=.ok (.enter Y7 (args'.map a.eval++caps)) w:=by
 unfold execOp;simp only[resolve];simp[Deferred.ofValue,invoke];have:=YN (args'.map a.eval++caps) w
 simp_all
theorem Jz{E:Env}(hB:FL P E){asq:List Value}{vals:List TV}{Y7:FuncId}{n:Nat}{tm:List BxC}(Rj:E.box Y7=some (n,tm))(hn:vals.length=n){σ1:St}{G1:Gh}(hd:∀d,o.dst=some d->d<M.N/\M.pr (2*d+2)=none)(hI1:Inv M σ1 [] [] a.tmps w G1)(hal:asq.length=vals.length)
 (Xe:∀j (h:j<vals.length)(h':j<asq.length),TmR w (G1.F M.A) σ1.v (eE M σ1 []) G1 vals[j] asq[j])(h2:(evBox o.dst tm vals).run σ1=some ((),σ'))(YK:py P Y7->(execOp a.eval o).run P w=.ok (.enter Y7 asq.toArray) w):LH P M σ' a o w:=by
 intro K' Q hK;obtain⟨YN,Zz,ty,Wt⟩:=hB Y7 n tm Rj
 cases hdst:o.dst with
 |none=>rw[hdst]at h2;simp[evBox,SP.run]at h2
 |some d=>
  rw[hdst]at h2;obtain⟨Ow,YH⟩:=hd d hdst;obtain⟨l,σ2,h3,h4⟩:=dE h2
  obtain⟨U4,Zq,G2,ZG⟩:=pB (ys:=tm.map (bxV asq)) hI1 (by simp) (λj h=>by
   have hj:j<tm.length:=by simpa using h
   simp only[List.getElem_map,oGD,List.getElem?_map,oGE hj,oMS,Option.getD_some]
   cases hb:tm[j]with
   |val x=>exact .v (Zz x (by rw[<- hb];exact List.getElem_mem hj))
   |arg i=>
    simp only[bxT,bxV];by_cases hi:i<vals.length
    ·simp_all
    ·have:vals.getD i .dead=.dead:=by simp[oGD,oGN (by omega:vals.length<=i)]
     rw[this];exact .dead) h3
  obtain⟨G3,W7,_,hβ⟩:=ZG.1.newBox (2*d+2) ty (by omega) YH (by omega);have XR:(wr d (.ptr ⟨2*d+2,0,[]⟩ [(σ2.root (2*d+2) l).v (2*d+2,0,0)])).run (σ2.root (2*d+2) l)=some ((),σ'):=h4;simp only[wr,SP.run,oSJ,oPJ,true_and]at XR;subst XR;unfold Oper.wp;rw[YK YN,Oper.upon_enter];refine(Wt asq w (by omega) Zq).mono λe w2 ⟨he,hw⟩=>?_;subst he;subst hw;simp only;refine hK (a.put o.dst (.pointer (some ⟨w.heap.size,0,none⟩))) _ G3 ?_ (na _ _ _);rw[hdst];refine W7.wrT Ow (.ptr (σ2.root (2*d+2) l).v (λ_=>Nat.le_refl _) (by simp[jp]) λ_=>⟨by simp_all,⟨w.heap.size,0,none⟩,_,?_,rfl,rfl⟩);unfold Gh.addr
  simp_all
theorem Dw{E:Env}{F:fq}(hB:FL P E)(hF:jY P F):vN P M jR (evCall E F):=by
 intro o t σ σ' a w G hc hd hI hr;rcases hc with rfl|hc
 ·simp[evop,evCall,Lp,SP.run]at hr
 cases ho:o.op with
 |call c=>
  rw[ho]at hc;obtain⟨callee,args,VJ⟩:=c
  cases callee with
  |value fo=>
   cases t with
   |call k f' args'=>
    simp only[oW]at hc;obtain⟨hf,hlen,hargs⟩:=hc;simp only[evop]at hr
    cases f' with
    |f Y7=>
     have To:fo=.func Y7:=by cases fo<;>simp[dN]at hf;rw[hf]
     have UY:∀Y7,fo=.func Y7->py P Y7->(execOp a.eval o).run P w=.ok (.enter Y7 (args.toList.map a.eval).toArray) w:=λY7 To YN=>by
      have:=oO (a:=a) (w:=w) ho (by rw[To];rfl:a.eval fo=.func (.func Y7) #[] #[]) YN
      have ea:(args.toList.map a.eval).toArray=args.map a.eval:=by apply Array.ext';rw[Array.toList_map]
      rw[ea];simpa using this
     have UY:=UY Y7 To;simp only[evCall]at hr
     cases k with
     |false=>
      simp only[Bool.false_eq_true,if_false]at hr;obtain⟨vals,σ1,h1,h2⟩:=dE hr;obtain⟨rfl,YS,Xe⟩:=IQ (l':=args.toList) hI (by simp[hlen]) (λj h h'=>by have:=hargs j (by simpa using h) (by simpa using h');simpa using this) h1
      have Wf:vals.length=args'.length:=by rw[YS];simp
      exact JI hF hd hI (by simp;omega) (λj h h'=>by have:=Xe j h (by simpa using h');simpa using this) h2 UY
     |true=>
     simp only[if_true]at hr;obtain⟨vals,σ1,h1,h2⟩:=dE hr;obtain⟨G1,Zv,YS,Xe⟩:=Ec (l':=args.toList) hI (by simp[hlen]) (λj h h'=>by have:=hargs j (by simpa using h) (by simpa using h');simpa using this) h1;have Wf:vals.length=args'.length:=YS;split at h2
     ·rename_i x Rj;split at h2
      case isFalse=>simp[SP.run]at h2
      rename_i hn;exact Jz hB Rj hn hd Zv.1 (by simp;omega) (λj h h'=>by have:=Xe j h (by simpa using h');simpa using this) h2 UY
     ·exact D8 hF hd Zv.1 (by simp;omega) (by simp;omega) (λj h h'=>by have:=Xe j h (by simpa using h');simpa using this) h2 UY
    |t i=>
     simp only[evCall,SP.run]at hr;split at hr
     case h_2=>simp[SP.run]at hr
     rename_i Y7 caps htv;obtain⟨vals,σ1,h1,h2⟩:=dE hr;obtain⟨G1,Zv,YS,Xe⟩:=Ec (l':=args.toList) hI (by simp[hlen]) (λj h h'=>by have:=hargs j (by simpa using h) (by simpa using h');simpa using this) h1;have Wf:vals.length=args'.length:=YS
     have To:fo=.tmp i:=by cases fo<;>simp[dN]at hf;rw[hf]
     have Zn:=hI.tmr i;rw[htv]at Zn
     have X5:a.eval fo=a.tmps.getD i undef:=by rw[To];rfl
     generalize hz:a.tmps.getD i undef=z at Zn X5
     cases Zn with
     | @fn _ _ xs Ze Uw=>
      have UY:py P Y7->(execOp a.eval o).run P w=.ok (.enter Y7 (args.toList.map a.eval++xs.toList).toArray) w:=λYN=>by
       have:=oO (a:=a) (w:=w) ho X5 YN
       have ea:(args.toList.map a.eval++xs.toList).toArray=args.map a.eval++xs:=by apply Array.ext';simp
       rw[ea];exact this
      have Tf:xs.toList.length=caps.length:=by simpa using Ze
      exact D8 hF hd Zv.1 (by simp[JH];omega) (by simp;omega) (λj h h'=>by
       by_cases hj:j<vals.length
       ·have:=Xe j hj (by simp;omega);simpa[List.getElem_append_left,hj,List.getElem_append,show j<args.size by omega]using this
       ·have Xo:j-vals.length<caps.length:=by simp at h;omega
        have:=Zv.tm (Uw (j-vals.length) Xo)
        have Uy:¬j<args.size:=by omega
        have e1:args.size=vals.length:=by omega
        simp only[List.getElem_append,hj,dite_false,List.length_map,Array.length_toList,Uy,Array.getElem_toList];simp only[e1]
        have e2:xs.getD (j-vals.length) undef=xs[j-vals.length]:=by simp[Array.getD_eq_getD_getElem?,show j-vals.length<xs.size by omega]
        rw[<- e2]
        exact this) h2 UY
    |_=>simp[evCall,SP.run]at hr
   |_=>simp[oW]at hc
  |_=>cases t<;>simp[oW]at hc
 |_=>rw[ho]at hc;cases t<;>simp[oW]at hc
end
theorem pz{P:Program}{ops:Array Oper}{Q:Exit->Act->World->Prop}{i:Nat}{L:List Nat}{a:Act}{w:World}{o:Oper}{v:Value}(ho:ops[i]?=some o)(hg:o.guard=none)(hrun:(execOp a.eval o).run P w=.ok (.value v) w)(h:wpOps P ops Q L (a.put o.dst v) w):wpOps P ops Q (i::L) a w:=by
 simp[wpOps,ho];rw[oIP (by simp[Region.wanted,hg])];left;unfold Oper.wp;rw[hrun];exact h
structure Ih (P:Program)(c rest:Code):Prop where
 ex:∃(i0 i1 i2:Nat)(o0 o1 o2 o3:Oper)(ty ty2 e:TypeId),c=.seq (.region i0 #[o0] false) (.seq (.seq (.region i1 #[o1,o2] false) (.cond (.tmp 4) (.seq (.region i2 #[o3] false) .ret) .skip)) rest)/\
  (o0.dst=some 2/\o0.guard=none/\o0.op=.assign (.const (.slice none 0 0)))/\(o1.dst=some 3/\o1.guard=none/\o1.op=.move (.tmp 0))/\
  (o2.dst=some 4/\o2.guard=none/\o2.op=.binOp .eql ty (.tmp 3) (.const (.slice none 0 0)) ty2)/\(o3.dst=some 2/\o3.guard=none/\o3.op=.assign (.const (.slice none 0 0)))/\P.underlying ty=some (.slice e)
def vp(ts:Array Value)(x:Value)(b:Bool):Array Value:=((ts.setIfInBounds 2 (.slice none 0 0)).setIfInBounds 3 x).setIfInBounds 4 (.bool b)
theorem JF{P:Program}{c rest:Code}(hc:Ih P c rest){ad:Option Addr}{n cap:Nat}{ts:Array Value}{w:World}{Q:Exit->Act->World->Prop}(h0:ts.getD 0 undef=.slice ad n cap)(hN:4<ts.size)
 (hnil:ad=none->Q .ret ⟨(vp ts (.slice ad n cap) true).setIfInBounds 2 (.slice none 0 0),[]⟩ w)(ZT:ad≠none->rest.wp P Q ⟨vp ts (.slice ad n cap) false,[]⟩ w):c.wp P Q ⟨ts,[]⟩ w:=by
 obtain⟨i0,i1,i2,o0,o1,o2,o3,ty,ty2,e,rfl,⟨d0,g0,p0⟩,⟨d1,g1,p1⟩,⟨d2,g2,p2⟩,⟨d3,g3,p3⟩,hu⟩:=hc.ex
 have WZ:∀{o:Oper}{a:Act}{x:Operand},(o.op=.assign x\/o.op=.move x)->(execOp a.eval o).run P w=.ok (.value (a.eval x)) w:=λho=>by rcases ho with ho|ho<;>simp[execOp,ho]
 refine wp_seq (wp_region ?_);show wpOps P #[o0] _ [0] _ w;refine pz (o:=o0) rfl g0 (WZ (.inl p0)) ?_;rw[d0];refine wp_seq (wp_seq (wp_region ?_));show wpOps P #[o1,o2] _ [0,1] _ w;refine pz (o:=o1) rfl g1 (WZ (.inr p1)) ?_;rw[d1]
 have e0:(ts.setIfInBounds 2 (.slice none 0 0)).getD 0 undef=.slice ad n cap:=by
  rw[<- h0];simp[Array.getD_eq_getD_getElem?,Array.getElem?_setIfInBounds]
 have e3:((ts.setIfInBounds 2 (.slice none 0 0)).setIfInBounds 3 (.slice ad n cap)).getD 3 undef=.slice ad n cap:=by
  simp[Array.getD_eq_getD_getElem?,Array.getElem?_setIfInBounds,show 3<ts.size by omega]
 have Xu:(execOp (Act.mk ((ts.setIfInBounds 2 (.slice none 0 0)).setIfInBounds 3 (.slice ad n cap)) []).eval o2).run P w=.ok (.value (.bool ad.isNone)) w:=by
  have hb:=Lib.run_eql_slice_nil (P:=P) w ty e ad n cap 0 0 hu;have ex:(Act.mk ((ts.setIfInBounds 2 (.slice none 0 0)).setIfInBounds 3 (.slice ad n cap)) []).eval (.tmp 3)=.slice ad n cap:=e3;have ey:∀a:Act,a.eval (.const (.slice none 0 0))=.slice none 0 0:=λ_=>rfl;have hg:(eqGuard .eql ty (.tmp 3) (.const (.slice none 0 0)) (.slice ad n cap) (.slice none 0 0)).run P w=.ok () w:=rfl;simp[execOp,p2,ex,ey,hb,hg]
 refine pz (o:=o2) (v:=.bool ad.isNone) rfl g2 ?_ ?_
 ·show(execOp (Act.mk ((ts.setIfInBounds 2 (.slice none 0 0)).setIfInBounds 3 ((ts.setIfInBounds 2 (.slice none 0 0)).getD 0 undef)) []).eval o2).run P w=_;rw[e0];exact Xu
 rw[d2];show(Code.cond (.tmp 4) _ _).wp P _ ⟨((ts.setIfInBounds 2 (.slice none 0 0)).setIfInBounds 3 ((ts.setIfInBounds 2 (.slice none 0 0)).getD 0 undef)).setIfInBounds 4 (.bool ad.isNone),[]⟩ w;rw[e0]
 have e4:∀b,(vp ts (.slice ad n cap) b).getD 4 undef=.bool b:=λb=>by
  unfold vp;simp[Array.getD_eq_getD_getElem?,Array.getElem?_setIfInBounds,hN]
 cases ad with
 |none=>
  refine wp_cond_true (e4 true) (wp_seq (wp_region ?_));show wpOps P #[o3] _ [0] _ w;refine pz (o:=o3) rfl g3 (WZ (.inl p3)) ?_;rw[d3];exact wp_ret (hnil rfl)
 |some ad=>exact wp_cond_false (e4 false) (wp_skip (ZT (by simp)))
def BD(sz:Nat)(b:Bool)(bytes:Nat)(mv fl:Bool)(id:Nat):j5:=
 .seq (.reg id none [⟨some 5,none,.bsl sz b 0 []⟩,⟨some 6,none,.mov (.t 0)⟩,⟨some 7,none,.app sz bytes mv fl (.t 5) (.t 6)⟩,⟨some 2,none,.asn true (.t 7)⟩] ([2],[7])) .ret
def BC(call:Option Nat->TOp->SP Unit)(N:Nat)(tc:j5):Option (List TV×List RSh):=(runC call N tc (mkSt [.sl []] [])).bind λx=>match x.1 with|.exit _=>none|_=>((resF 1 [.tmp 2]).run x.2).map (·.1)
theorem Fw(call:Option Nat->TOp->SP Unit)(N sz:Nat)(b:Bool)(bytes:Nat)(mv fl:Bool)(id:Nat):BC call N (BD sz b bytes mv fl id)=BC (λ_ _=>.fail) 0 (BD sz b bytes mv fl id):=rfl
def ub(tc:j5):Bool:=match BC (λ_ _=>.fail) 0 tc with
 |some ([.ow []],[.one])=>true
 |_=>false
theorem C6{tc:j5}(h:ub tc=true):BC (λ_ _=>.fail) 0 tc=some ([.ow []],[.one]):=by
 unfold ub at h
 grind
def mH(pp:List Nat):Nat->List TV->Bool
 |_,[]=>true
 |i,.ptr _ _::r=>pp.contains i&&mH pp (i+1) r
 |i,.sl _::r=>mH pp (i+1) r
 |i,_::r=>!pp.contains (1000+i)&&mH pp (i+1) r
theorem GV{pp:List Nat}:∀{l:List TV}{i:Nat},mH pp i l=true->∀j p vs,l[j]?=some (.ptr p vs)->i+j∈pp:=by
 intro l
 induction l with
 |nil=>simp_all
 |cons t l ih=>
  intro i h j p vs hj
  have hr:mH pp (i+1) l=true:=by
   cases t<;>simp only[mH,oBA]at h<;>first|exact h.2|exact h
  cases j with
  |zero=>
   have:t=.ptr p vs:=by simp_all
   subst this;simp[mH,List.contains_eq_mem,oDE]at h;exact h.1
  |succ j=>
   have:=ih hr j p vs (by simp_all);rw[show i+(j+1)=i+1+j by omega];exact this
def runT(E:Env)(F:fq)(n:Nat)(tf:TFn)(vals:List TV)(pts:Pts):Option (FH×Pts):=
 if vals.length=tf.np/\(mH tf.pp 0 vals&&(!tf.pp.contains 1000||pts.isEmpty))=true then
  (runC (evCall E F) n tf.body (mkSt vals pts)).bind λx=>match x.1 with
   |.exit _=>none
   |_=>((resF tf.np tf.res).run x.2).bind λy=>some (⟨y.1.1,y.1.2⟩,pts.map λx=>(x.1,(eF y.2.ce x.1).getD []))
 else none
def BS(E:Env)(T:FuncId->Option TFn)(B F:fq)(n:Nat):fq:=λf vals pts=>
 match T f with
 |none=>B f vals pts
 |some tf=>runT E F n tf vals pts
def runF(E:Env)(T:FuncId->Option TFn)(B:fq):Nat->fq
 |0=>λ_ _ _=>none
 |n+1=>BS E T B (runF E T B n) n
def Ig(P:Program)(tf:TFn)(c:Code):Prop:=
 tf.np=1/\tf.pp=[1000]/\tf.nt=8/\tf.res=[.tmp 2]/\ub tf.body=true/\(∃sz b bytes mv fl id,tf.body=BD sz b bytes mv fl id)/\
  ∃rest,Ih P c rest/\∀M:Fm,M.N=tf.nt->(∀r,M.pr r≠none->∃i∈tf.pp,r=2*i+2)->iA P M jR tf.body rest
def FG(P:Program)(T:FuncId->Option TFn):Prop:=
 ∀f tf,T f=some tf->∃fn c,P.funcs[f]?=some fn/\(fn.name=="runtime.NumGoroutine")=false/\fn.body=some c/\fn.ntmps=tf.nt/\tf.np<=tf.nt /\
  ((∀M:Fm,M.N=tf.nt->(∀r,M.pr r≠none->∃i∈tf.pp,r=2*i+2)->iA P M jR tf.body c)\/Ig P tf c)/\tf.res.length=fn.results.size/\∀k (h:k<tf.res.length)(h':k<fn.results.size),Db P tf.res[k] fn.results[k]
section
variable {P:Program} {E:Env} {T:FuncId->Option TFn} {B F:fq}
def MF(tf:TFn)(pts:Pts)(x:j4×St):Option (FH×Pts):=match x.1 with
 |.exit _=>none
 |_=>((resF tf.np tf.res).run x.2).bind λy=>some ((⟨y.1.1,y.1.2⟩:FH),pts.map λ(x:Nat×List TV)=>(x.1,(eF y.2.ce x.1).getD []))
theorem C9{tf:TFn}{fn:Func}{M:Fm}{σ1:St}{a':Act}{w':World}{G':Gh}{pts Zr:Pts}{res:FH}{e:j4}(Xd:tf.res.length=fn.results.size)(Y2:∀k (h:k<tf.res.length)(h':k<fn.results.size),Db P tf.res[k] fn.results[k])
 (ZF:Inv M σ1 [] [] a'.tmps w' G')(hd:a'.defers=[])(h2:MF tf pts (e,σ1)=some (res,Zr)):
 bodyPost P fn (λe w2=>∃v σ2,e=.returned v/\MM M res v σ2 w2/\Zr=pts.map λ(x:Nat×List TV)=>(x.1,(eF σ2.ce x.1).getD [])) e.toExit a' w':=by
 unfold MF at h2
 have Ud:∀y,(resL tf.np tf.res).run σ1=some y->some ((⟨y.1.1,y.1.2⟩:FH),pts.map λx=>(x.1,(eF y.2.ce x.1).getD []))=some (res,Zr)->a'.defers=[]/\∃v,(results fn a'.tmps).run P w'=.ok v w' /\
  ∃v' σ2,Ending.returned v=.returned v'/\MM M res v' σ2 w'/\Zr=pts.map λx=>(x.1,(eF σ2.ce x.1).getD []):=by
  rintro⟨r,σ2⟩ hr he;obtain⟨vs,ys,G2,hrun,hg,hl,hok,Pd⟩:=KT (qs':=fn.results.toList) ZF (by simpa using Xd) (λk h h'=>by have:=Y2 k h (by simpa using h');simpa using this) hr
  injection he with he
  injection he with Tm Rs
  subst Tm;subst Rs;refine⟨hd,m9 r.2 ys,?_,m9 r.2 ys,σ2,rfl,.inl ⟨ys,a'.tmps,G2,rfl,by simpa using hg.1,hok⟩,rfl⟩;unfold results;rw[Array.mapM_eq_mapM_toList];simp only[Sem.run_bind,Sem.run_map]
  erw[hrun]
  unfold m9;rw[Pd]
  cases vs with
  |nil=>rfl
  |cons v vs=>
   cases vs with
   |nil=>rfl
   |cons v2 vs=>rfl
 have key:∀y,(resF tf.np tf.res).run σ1=some y->some ((⟨y.1.1,y.1.2⟩:FH),pts.map λx=>(x.1,(eF y.2.ce x.1).getD []))=some (res,Zr)->a'.defers=[]/\∃v,(results fn a'.tmps).run P w'=.ok v w' /\
  ∃v' σ2,Ending.returned v=.returned v'/\MM M res v' σ2 w'/\Zr=pts.map λx=>(x.1,(eF σ2.ce x.1).getD []):=by
  intro y hr he;unfold resF at hr;split at hr
  ·rename_i t rs T4;simp only[SP.run]at hr;split at hr
   ·rename_i p vs htv;obtain⟨_,σ2,h3,h4⟩:=dE hr;have e1:σ2=σ1:=(d8 h3).1;have e2:=(d8 h3).2;subst e1;obtain⟨fl,σ3,h5,h6⟩:=dE h4;simp only[SP.run,oSJ]at h6;subst h6
    injection he with he
    injection he with Tm Rs
    subst Tm;subst Rs;have Zn:=ZF.tmr t;rw[htv]at Zn
    obtain⟨q0,qs',SI⟩:∃q0 qs',fn.results.toList=q0::qs':=by
     have hlen:fn.results.toList.length=rs.length+1:=by rw[Array.length_toList,<- Xd,T4];rfl
     cases hl:fn.results.toList with
     |nil=>rw[hl]at hlen;simp at hlen
     |cons q0 qs'=>exact⟨q0,qs',rfl⟩
    have VF:∀(L:List TRs)(L':List ResultVar),tf.res=L->fn.results.toList=L'->∀k (h:k<L.length)(h':k<L'.length),Db P L[k] L'[k]:=by
     rintro _ _ rfl rfl k h h';have:=Y2 k h (by simpa using h');simpa using this
    have O5:q0=.tmp t:=VF _ _ T4 SI 0 (by simp) (by simp)
    have Ty:rs.length=qs'.length:=by
     have h7:fn.results.toList.length=rs.length+1:=by rw[Array.length_toList,<- Xd,T4];rfl
     rw[SI]at h7;simpa using h7.symm
    obtain⟨rfl,ZO,hrun⟩:=HK (qs':=qs') ZF Ty (λk h h'=>VF _ _ T4 SI (k+1) (by simpa using h) (by simpa using h')) h5
    have Xu:(fn.results.toList.mapM λ(q:ResultVar)=>(match q with|.tmp t=>(pure (a'.tmps.getD t undef):Sem Value)|.cell a t=>do loadVar t (<- asAddr (a'.tmps.getD a undef)))).run P w'=.ok (a'.tmps.getD t undef::fl.map unV) w':=by
     rw[SI,O5,List.mapM_cons,Sem.run_bind];show Result.andThen (.ok (a'.tmps.getD t undef) w') _=_;simp only[Result.andThen_ok,Sem.run_bind];refine(congrArg (λr=>Result.andThen r _) hrun).trans ?_;simp
    generalize a'.tmps.getD t undef=z at Zn Xu
    cases Zn with
    |ptr V0 h0 hv hok=>
     have hp:=hok e2;refine⟨hd,xe z (fl.map unV),?_,xe z (fl.map unV),σ3,rfl,.inr ⟨p,vs,fl,z,a'.tmps,G',rfl,⟨_,rfl⟩,ZO,rfl,ZF,hp⟩,rfl⟩;unfold results;rw[Array.mapM_eq_mapM_toList];simp only[Sem.run_bind,Sem.run_map]
     erw[Xu]
     cases fl with
     |nil=>rfl
     |cons y l=>rfl
   ·exact Ud y (by rw[T4];exact hr) he
  ·exact Ud y hr he
 cases e with
 |exit i=>simp at h2
 |normal=>
  simp only at h2;obtain⟨y,h3,h4⟩:=dR h2;exact key y h3 h4
 |ret=>
  simp only at h2;obtain⟨y,h3,h4⟩:=dR h2;exact key y h3 h4
theorem Iq(hT:FG P T)(hE:FL P E)(hB:jY P B)(hF:jY P F)(n:Nat):jY P (BS E T B F n):=by
 intro f vals pts res Zr h;unfold BS at h
 cases ht:T f with
 |none=>rw[ht]at h;exact hB f vals pts res Zr h
 |some tf=>
  rw[ht]at h;simp only[runT]at h;split at h
  case isFalse=>simp at h
  rename_i hnp;obtain⟨hnp,TN⟩:=hnp;simp only[oBA]at TN;obtain⟨RZ,Qq⟩:=TN;obtain⟨⟨e,σ1⟩,h1,h2⟩:=dR h;obtain⟨fn,c,hf,Vy,hb,O0,Ya,XX,Xd,Y2⟩:=hT f tf ht;refine⟨Bv hf Vy hb,tf.nt,by omega,λM asq w G hal hN NB YH hI=>?_⟩;refine calls_of_wp hf hb ?_
  have Oh:fn.ntmps-asq.toArray.size=tf.nt-asq.length:=by rw[O0];simp
  rw[Oh]
  have TO:∀r,M.pr r≠none->∃i∈tf.pp,r=2*i+2:=λr hr=>by obtain⟨i,p,vs,h3,h4⟩:=YH r hr;exact⟨i,by simpa using GV RZ i p vs h3,h4⟩
  rcases XX with XX|⟨c1,c2,c3,c4,c5,⟨sz,b,bytes,mv,fl,id,c6⟩,rest,Ze,XX⟩
  ·exact Dv (Dw hE hF) n tf.body c _ e σ1 ⟨asq.toArray++Array.replicate (tf.nt-asq.length) undef,[]⟩ w G _ (XX M hN TO) h1 hI λa' w' G' ZF hd=>C9 Xd Y2 ZF hd h2
  ·
   obtain⟨v0,rfl⟩:∃v,vals=[v]:=List.length_eq_one_iff.1 (by rw[hnp,c1]);obtain⟨x0,rfl⟩:∃x,asq=[x]:=List.length_eq_one_iff.1 (by rw[hal];rfl)
   have SF:pts=[]:=by rw[c2]at Qq;simpa using Qq
   subst SF
   obtain⟨l0,rfl⟩:∃l,v0=.sl l:=by
    rw[c2]at RZ;cases v0<;>simp[mH]at RZ;exact⟨_,rfl⟩
   have hv:=hI.tmr 0;have e0:(mkSt [TV.sl l0] ([]:Pts)).t 0=.sl l0:=rfl
   have e1:(#[x0]++Array.replicate (tf.nt-1) undef).getD 0 undef=x0:=by simp[Array.getD_eq_getD_getElem?,Array.getElem?_append]
   have hv:TmR w (G.F M.A) (mkSt [TV.sl l0] ([]:Pts)).v (eE M (mkSt [TV.sl l0] ([]:Pts)) []) G (.sl l0) x0:=by
    have:=hI.tmr 0;rw[e0]at this;rw[show([x0]:List Value).toArray=#[x0]from rfl,show([x0]:List Value).length=1 from rfl,e1]at this;exact this
   cases hv with
   |sl hs=>
    cases hs with
    | @sl _ ad cap zz u hsz hcap hmax TE hcell hrec=>
     have hdead:∀(H:List TV)(xs:List Value)(ts:Array Value)(d:Nat)(v:Value),0<d->Inv M (mkSt [TV.sl l0] []) H xs ts w G->Inv M (mkSt [TV.sl l0] []) H xs (ts.setIfInBounds d v) w G:=by
      intro H xs ts d v hd hI;refine⟨hI.core,λi=>?_,hI.fram,hI.keys,by rw[Array.size_setIfInBounds];exact hI.size,hI.hand,hI.hval,hI.shape⟩;by_cases hi:i=d
      ·subst hi
       have:(mkSt [TV.sl l0] ([]:Pts)).t i=.dead:=by
        simp[St.t,mkSt,f8,eF,show ¬ 0=i by omega]
       rw[this];exact .dead
      ·have:(ts.setIfInBounds d v).getD i undef=ts.getD i undef:=by simp[Array.getD_eq_getD_getElem?,Array.getElem?_setIfInBounds,Ne.symm hi]
       rw[this];exact hI.tmr i
     refine JF Ze (ad:=ad) (n:=l0.length) (cap:=cap) (by simp[Array.getD_eq_getD_getElem?,Array.getElem?_append]) (by simp[c3]) (λZd=>?_) (λ_=>?_)
     ·have W7:=hdead _ _ _ 4 (.bool true) (by decide) (hdead _ _ _ 3 (.slice ad l0.length cap) (by decide) (hdead _ _ _ 2 (.slice none 0 0) (by decide) hI));subst Zd;have Vt:=TE rfl;have WB:l0=[]:=oEN (by omega);subst WB;have Vp:=W7.wrT (d:=2) (by omega) (t:=.ow []) (x:=.slice none 0 0) .nil;have hrun:=C6 c5;rw[c6,<- Fw (evCall E F) n,<- c6]at hrun;unfold BC at hrun;rw[h1]at hrun;simp only[oBS]at hrun h2
      have TX:res=⟨[.ow []],[.one]⟩/\Zr=[]:=by
       cases e with
       |exit i=>simp at hrun
       |normal=>
        simp only[c1,c4]at h2;simp only at hrun;obtain⟨y,hy,W6⟩:=ig hrun;rw[hy]at h2;simp only[oBS,oSJ,oPJ]at h2;rw[W6]at h2;exact⟨h2.1.symm,by simpa using h2.2.symm⟩
       |ret=>
        simp only[c1,c4]at h2;simp only at hrun;obtain⟨y,hy,W6⟩:=ig hrun;rw[hy]at h2;simp only[oBS,oSJ,oPJ]at h2;rw[W6]at h2;exact⟨h2.1.symm,by simpa using h2.2.symm⟩
      obtain⟨rfl,rfl⟩:=TX
      have h5:MF tf [] (.ret,{ mkSt [TV.sl []] ([]:Pts)with tm:=fI (mkSt [TV.sl []] ([]:Pts)).tm 2 (.ow []) })=some (⟨[.ow []],[.one]⟩,[]):=by
       unfold MF;simp only[c1,c4];rfl
      obtain⟨T,hT⟩:∃T:Array Value,T=(vp ([Value.slice none ([]:List (List TV)).length cap].toArray++Array.replicate (tf.nt - [Value.slice none ([]:List (List TV)).length cap].length) undef) (.slice none ([]:List (List TV)).length cap) true).setIfInBounds 2 (.slice none 0 0):=⟨_,rfl⟩;have W1:=Vp;unfold vp at hT;rw[<- hT]at W1;have h7:=C9 (tf:=tf) (fn:=fn) (P:=P) (pts:=[]) (e:=.ret) (a':=⟨T,[]⟩) (w':=w) (G':=G) Xd Y2 W1 rfl h5;rw[hT]at h7;exact h7
     ·have ZI:=hdead _ _ _ 4 (.bool false) (by decide) (hdead _ _ _ 3 (.slice ad l0.length cap) (by decide) (hdead _ _ _ 2 (.slice none 0 0) (by decide) hI));exact Dv (Dw hE hF) n tf.body rest _ e σ1 ⟨vp _ (.slice ad l0.length cap) false,[]⟩ w G _ (XX M hN TO) h1 ZI λa' w' G' ZF hd=>C9 Xd Y2 ZF hd h2
theorem runF_ok(hT:FG P T)(hE:FL P E)(hB:jY P B):∀n,jY P (runF E T B n):=by
 intro n
 induction n with
 |zero=>intro f vals pts res Zr h;simp[runF]at h
 |succ n ih=>exact Iq hT hE hB ih n
end
def pM(P:Program)(own:Nat->Bool):Nat->List TypeId->List Operand->Option (List (Option Nat×Opd))
 |_,_,[]=>some []
 |i,ts,x::xs=>
  match dN x,pM P own (i+1) ts.tail xs with
  |some y,some l=>
   match ts with
   |t::_=>match P.underlying t with
    |some (.pointer e)=>match xM P e with
     |some n=>some ((some n,y)::l)
     |none=>none
    |some (.slice _)=>some ((if own i then some 0 else none,y)::l)
    |_=>some ((none,y)::l)
   | []=>some ((none,y)::l)
  |_,_=>none
def Mg(P:Program)(t:TypeId):Bool:=match P.underlying t with
 |some (.int _)=>true
 |some .bool=>true
 |some .string=>true
 |some (.struct _)=>(qb P 50 t).isSome
 |_=>false
def Hg(P:Program)(fn:Func):Bool:=fn.resultTypes.toList.all (Mg P)&&fn.params.toList.all λt=>match P.underlying t with|some (.pointer _)=>false|_=>true
def kj:Code->List Oper
 |.region _ ops _=>ops.toList
 |.seq a b=>kj a++kj b
 |.cond _ a b=>kj a++kj b
 |.block _ b=>kj b
 |.loop b=>kj b
 |_=>[]
def J6(ops:List Oper)(j:Nat):Option Operand->Bool
 |some (.tmp t)=>t==j||ops.any λo=>o.dst==some t&&match o.op with|.move (.tmp u)=>u==j|_=>false
 |_=>false
def Me(P:Program):Nat->Func->Nat->Bool
 |0,_,_=>false
 |n+1,fn,j=>match fn.body with
  |some c=>(kj c).any λo=>match o.op with
   |.call ⟨.builtin .append,args,_⟩=>J6 (kj c) j args[0]?
   |.call ⟨.value (.func g),args,_⟩=>match P.funcs[g]? with
    |some fg=>args.toList.zipIdx.any λx=>J6 (kj c) j (some x.1)&&Me P n fg x.2
    |none=>false
   |_=>false
  |none=>false
def ua(P:Program):Op->Option TOp
 |.call ⟨.value (.func f),args,_⟩=>
  match P.funcs[f]? with
  |some fn=>(pM P (Me P 3 fn) 0 fn.params.toList args.toList).map λl=>.call (!Hg P fn) (.f f) l
  |none=>none
 |.call ⟨.value (.tmp i),args,tys⟩=>(pM P (λ_=>false) 0 tys.toList args.toList).map λl=>.call true (.t i) l
 |_=>none
def CR(mv:Nat):TOp->TOp
 |.call k f args=>.call k f (if 10<=mv then args.map λx=>(x.1.map λn=>min n (mv-10),x.2)else args)
 |t=>t
def o4(P:Program)(mv:Nat)(op:Op):TOp:=
 match gt P mv op with
 |some t=>t
 |none=>match ua P op with
  |some t=>CR mv t
  |none=>Lp
def Mk(pp:List Nat)(nt:Nat):Option Nat->Bool
 |some d=>decide (d<nt) && !pp.contains d
 |none=>true
def zE(P:Program)(pp:List Nat)(nt:Nat)(ops:Array Oper)(mv:Nat)(o:Oper):Option iE:=
 if Mk pp nt o.dst then
  match o.guard with
  |none=>some ⟨o.dst,none,o4 P mv o.op⟩
  |some (j,want)=>match(ops[j]?).bind (·.dst)with
   |some d=>some ⟨o.dst,some (d,want),o4 P mv o.op⟩
   |none=>none
 else none
def nh(P:Program)(pp:List Nat)(nt:Nat)(ops:Array Oper):List Nat->List Oper->Option (List iE)
 |_,[]=>some []
 |m,o::r=>match zE P pp nt ops (m.headD 0) o,nh P pp nt ops m.tail r with
  |some t,some l=>some (t::l)
  |_,_=>none
def Bx:List Oper->List (List Nat)->List (List Nat)
 | [],acc=>acc
 |o::r,acc=>Bx r (acc++[((o.after.toList.filter (Region.binds .any)).flatMap λe=>e.on::acc.getD e.on []).eraseDups])
def zy(ops:List Oper)(deps:List (List Nat)):Nat->Bool
 |0=>true
 |i+1=>zy ops deps i&&match ops[i]? with
  |some o=>(o.after.toList.all λe=>!Region.binds .any e||decide (e.on<i))&&((deps.getD i []).all λj=>o.after.toList.any λe=>Region.binds .any e&&(e.on==j||(deps.getD e.on []).contains j))
  |none=>true
def zF(P:Program)(ops:Array Oper)(tops:List iE)(draw:Bool):Option (Option (List (List Nat))):=
 if draw then
  if P.follows .mixedOrders&&zy ops.toList (Bx ops.toList []) ops.size then
   if w7 (Bx ops.toList []) tops (List.range tops.length)then some none else some (some (Bx ops.toList []))
  else none
 else some none
def sg:Code->Option Nat
 |.region id _ _=>some id
 |.seq _ b=>sg b
 |.cond _ a b=>match sg b with|some i=>some i|none=>sg a
 |.block _ b=>sg b
 |_=>none
def Dm(pers:Nat->Prs)(a:Code)(l:List (Nat×Option Nat)):j5->j5
 |.skip=>match sg a with
  |some i=>.nrm (pers i)
  |none=>match l with
   | []=>.skip
   |_::_=>.nrm (l.filterMap λx=>match x.2 with|none=>some x.1|some _=>none,l.filterMap (·.2))
 |t=>t
def Mm:Operand->Nat
 |.tmp t=>2000000+t
 |_=>2000000
def sG:Code->Nat
 |.seq a b=>sG a+sG b
 |.cond _ a b=>sG a+sG b
 |.block _ b=>sG b
 |.loop b=>sG b+1
 |_=>0
def LS(nt:Nat)(l:List (Nat×Option Nat)):Bool:=l.all λy=>decide (y.1<nt)
def MC(nt:Nat)(l:List (Nat×Option Nat))(a:j5):j5:=match l with | []=>a|_::_=>if LS nt l then .pre l a else a
def I2(nt:Nat)(l:List (Nat×Option Nat))(a:j5):j5:=match l with | []=>a|_::_=>if LS nt l then .post a l else a
def gJ(P:Program)(pp:List Nat)(nt:Nat)(mv:Nat->List Oper->Bool->List Nat)(pers:Nat->Prs)(H:Nat->List (Nat×Option Nat)):Code->Nat->Option j5
 |.skip,_=>some .skip
 |.region id ops draw,_=>match nh P pp nt ops (mv id ops.toList draw) ops.toList with
  |some l=>match zF P ops l draw with
   |some d=>some (MC nt (H (3000000+id)) (.reg id d l (pers id)))
   |none=>none
  |none=>none
 |.seq a b,i=>match gJ P pp nt mv pers H a i,gJ P pp nt mv pers H b (i+sG a)with
  |some x,some y=>some (.seq x y)
  |_,_=>none
 |.cond c a b,i=>match dN c,gJ P pp nt mv pers H a i,gJ P pp nt mv pers H b (i+sG a)with
  |some k,some x,some y=>some (.cond k (Dm pers b (H (Mm c)) x) (Dm pers a (H (Mm c)) y))
  |_,_,_=>none
 |.block id b,i=>(gJ P pp nt mv pers H b i).map (.block id)
 |.loop b,i=>(gJ P pp nt mv pers H b (i+1)).map λx=>MC nt (H (i+1)) (.loop (I2 nt (H (i+1)) x))
 |.exit id,_=>some (.exit id)
 |.ret,_=>some .ret
 |_,_=>none
def oZ(P:Program):List ResultVar->Option (List TRs)
 | []=>some []
 |.tmp t::r=>(oZ P r).map (.tmp t :: ·)
 |.cell t ty::r=>match DH P ty,oZ P r with
  |some n,some l=>some (.cell t n::l)
  |_,_=>none
def zQ(l:List Operand):List Nat:=l.filterMap λx=>match x with|.tmp t=>some t|_=>none
def KS(l:List ResultVar):List Nat:=l.map λr=>match r with|.tmp t=>t|.cell t _=>t
def Hd:Op->Bool
 |.load _ _=>true
 |.move (.tmp _)=>true
 |.field _ _ _=>true
 |.fieldAddr _ _ _=>true
 |.indexAddr _ _ _=>true
 |.slice _ _ _ _ _=>true
 |.nilCheck _=>true
 |.extract _ _=>true
 |.pick _ _ _=>true
 |_=>false
def px(l:List Nat):Nat:=l.foldl (λb i=>b ||| (1 <<< i)) 0
def JX(nt b:Nat):List Nat:=(List.range nt).filter λi=>b.testBit i
def Ml(b i:Nat):Nat:=if b.testBit i then b-(1 <<< i)else b
def HF(ops:List Oper)(o:Oper):List Nat:=match o.guard with|some (j,_)=>((ops[j]?).bind (·.dst)).toList|none=>[]
def Cd(ops:List Oper):List Oper->Nat->Nat
 | [],out=>out
 |o::r,out=>
  let b:=Cd ops r out
  (match o.dst with|some d=>Ml b d|none=>b) ||| px (zQ o.op.operands.toList++HF ops o)
def ye(rt:Nat):Code->Nat->List (Nat×Nat)->Nat×List (Nat×Nat)
 |.region id ops _,out,_=>(Cd ops.toList ops.toList out,[(id,out)])
 |.seq a b,out,ex=>let y:=ye rt b out ex;let x:=ye rt a y.1 ex;(x.1,x.2++y.2)
 |.cond c a b,out,ex=>let x:=ye rt a out ex;let y:=ye rt b out ex;(x.1 ||| y.1 ||| px (zQ [c]),x.2++y.2)
 |.block id b,out,ex=>ye rt b out ((id,out)::ex)
 |.loop b,_,ex=>let l:=(ye rt b 0 ex).1;ye rt b l ex
 |.exit id,_,ex=>((eF ex id).getD 0,[])
 |.ret,_,_=>(rt,[])
 |_,out,_=>(out,[])
def Ht(P:Program)(t:TypeId):Bool:=match P.underlying t with|some (.pointer _)=>true|_=>false
def xY(P:Program)(b:Nat)(o:Oper):Nat:=
 match o.dst with
 |some d=>
  if(match o.op with
   |.box _ _=>true
   |.alloc _=>true
   |.fieldAddr _ _ _=>true
   |.indexAddr _ _ _=>true
   |.nilCheck _=>true
   |.load t _=>Ht P t
   |.move (.tmp s)=>b.testBit s
   |.assign (.tmp s)=>b.testBit s
   |.call ⟨.value (.func f),_,_⟩=>match P.funcs[f]? with|some fn=>fn.resultTypes.toList.map (Ht P)==[true]|none=>false
   |_=>false)then b ||| (1 <<< d)else b
 |none=>b
def Ib(b:Nat)(o:Oper):List (Nat×Nat):=
 match o.dst with
 |some d=>if Hd o.op then(zQ o.op.operands.toList).map λs=>(d,s)else match o.op with
  |.assign (.tmp s)=>if b.testBit s then[(d,s)]else[]
  |_=>[]
 |none=>[]
def Lv(P:Program)(pp:List Nat)(c:Code):List (Nat×Nat):=
 let ops:=kj c
 let b:=ops.foldl (xY P) (ops.foldl (xY P) (px pp))
 ops.flatMap (Ib b)
def MV(o:Oper):Bool:=match o.op with
 |.extract _ _=>true
 |_=>false
def JN(P:Program)(pp:List Nat)(c:Code):List (Nat×Nat):=
 let ops:=kj c
 let b:=ops.foldl (xY P) (ops.foldl (xY P) (px pp))
 (ops.filter λo=>!MV o).flatMap (Ib b)
def xz(al:List (Nat×Nat))(b:Nat):Nat:=al.foldr (λx b=>if b.testBit x.1 then b ||| (1 <<< x.2)else b) b
def KR(l:List Nat):List Nat:=l.flatMap λi=>[2*i+2,2*i+3]
def Km:Op->List Operand
 |.store _ _ x=>[x]
 |.call ⟨.builtin .append,args,_⟩=>args.toList.tail
 |op=>op.operands.toList
def Nb(el:Nat)(al:List (Nat×Nat))(after:Nat)(o:Oper):Bool:=
 let live:=xz al (xz al after)
 (zQ (Km o.op)).all λt=>!el.testBit t&&(xz al (xz al (1 <<< t))) &&& live==0
def L5(el:Nat)(al:List (Nat×Nat))(ops:List Oper)(out:Nat):List Oper->List Bool
 | []=>[]
 |o::r=>Nb el al (Cd ops r out) o::L5 el al ops out r
def D3(b:Nat)(o:Oper):Nat:=
 match o.dst with
 |some d=>
  if(match o.op with
   |.indexAddr _ _ _=>true
   |.fieldAddr _ (.tmp s) _=>b.testBit s
   |.load _ (.tmp s)=>b.testBit s
   |.nilCheck (.tmp s)=>b.testBit s
   |.move (.tmp s)=>b.testBit s
   |.field _ (.tmp s) _=>b.testBit s
   |_=>false)then b ||| (1 <<< d)else b
 |none=>b
def He(el:Nat)(al:List (Nat×Nat))(ops:List Oper)(out:Nat):List (Nat×Oper)->List Bool
 | []=>[]
 |(i,o)::r=>Nb el al (out ||| px ((ops.zipIdx.filter λx=>x.2 != i).flatMap λx=>zQ x.1.op.operands.toList)) o::He el al ops out r
def Nh(P:Program)(pp:List Nat)(c:Code)(res:List Nat):Nat->List Oper->Bool->List Bool:=
 let tb:=(ye (px res) c (px res) []).2
 let al:=JN P pp c
 let Sn:=px pp
 let el:=(kj c).foldl D3 ((kj c).foldl D3 0)
 λid ops draw=>
  let out:=((eF tb id).getD 0) ||| Sn
  if draw then He el al ops out (ops.zipIdx.map λx=>(x.2,x.1))else L5 el al ops out ops
def L0(P:Program)(pp:List Nat)(nt:Nat)(c:Code)(res:List Nat):Nat->Prs:=
 let tb:=(ye (px res) c (px res) []).2
 let al:=Lv P pp c
 let Sn:=px pp
 λid=>
  let b:=((eF tb id).getD 0) ||| Sn
  (JX nt b,KR (JX nt (xz al (xz al b))))
def uy(P:Program):Nat->List TypeId->List Nat
 |_,[]=>[]
 |i,t::r=>match P.underlying t with
  |some (.pointer _)=>i::uy P (i+1) r
  |_=>uy P (i+1) r
def mvH(H:Nat->List (Nat×Option Nat))(mv:Nat->List Oper->Bool->List Bool):Nat->List Oper->Bool->List Nat:=
 λid ops draw=>match H (1000000+id)with
  | []=>(mv id ops draw).map λb=>if b then 1 else 0
  |l=>(mv id ops draw).zipIdx.map λx=>match l.find? λy=>y.1==x.2 with
   |some y=>y.2.getD 0
   |none=>if x.1 then 1 else 0
def vq(P:Program):Code->Option Code
 |.seq (.region _ a0 false) (.seq (.seq (.region _ a1 false) (.cond (.tmp 4) (.seq (.region _ a2 false) .ret) .skip)) rest)=>
  match a0.toList,a1.toList,a2.toList with
  | [⟨some 2,.assign (.const (.slice none 0 0)),_,_,_,none⟩],[⟨some 3,.move (.tmp 0),_,_,_,none⟩,⟨some 4,.binOp .eql ty (.tmp 3) (.const (.slice none 0 0)) _,_,_,_,none⟩],[⟨some 2,.assign (.const (.slice none 0 0)),_,_,_,none⟩]=>
   match P.underlying ty with
   |some (.slice _)=>some rest
   |_=>none
  |_,_,_=>none
 |_=>none
def vn(P:Program)(fn:Func)(c:Code):Option TFn:=
 match vq P c with
 |some (.seq (.region id ops false) .ret)=>
  match nh P [1000] 8 ops [0,0,0,1] ops.toList with
  |some [⟨some 5,none,.bsl sz b 0 []⟩,⟨some 6,none,.mov (.t 0)⟩,⟨some 7,none,.app sz2 bytes mv fl (.t 5) (.t 6)⟩,⟨some 2,none,.asn true (.t 7)⟩]=>
   if sz2=sz/\ub (BD sz b bytes mv fl id)=true/\fn.params.size=1/\fn.ntmps=8 then
    match oZ P fn.results.toList with
    |some [.tmp 2]=>some ⟨1,[1000],8,BD sz b bytes mv fl id,[.tmp 2]⟩
    |_=>none
   else none
  |_=>none
 |_=>none
def qx(P:Program)(H:Nat->List (Nat×Option Nat))(f:FuncId):Option TFn:=
 match P.funcs[f]? with
 |some fn=>
  match fn.body with
  |some c=>
   match vn P fn c with
   |some tf=>some tf
   |none=>
   let np:=fn.params.size+fn.nfree
   let pp:=uy P 0 fn.params.toList++(List.range fn.nfree).map (fn.params.size + ·)
   let rt:=KS fn.results.toList
   let pers:=L0 P pp fn.ntmps c rt
   match gJ P pp fn.ntmps (mvH H (Nh P pp c rt)) pers H c 0,oZ P fn.results.toList with
   |some tc,some rs=>some ⟨np,pp,fn.ntmps,I2 fn.ntmps (H 0) tc,rs⟩
   |_,_=>none
  |none=>none
 |none=>none
section
variable {P:Program} {M:Fm} {pp:List Nat} {nt:Nat}
theorem xy:∀{qs:List ResultVar}{l:List TRs},oZ P qs=some l->l.length=qs.length/\∀k (h:k<l.length)(h':k<qs.length),Db P l[k] qs[k]:=by
 intro qs
 induction qs with
 |nil=>
  intro l h;simp only[oZ]at h
  simp_all
 |cons q qs ih=>
  intro l h
  cases q with
  |tmp t=>
   obtain⟨l',h1,rfl⟩:=ig h;obtain⟨e,h2⟩:=ih h1;refine⟨by simp[e],λk hk YG=>?_⟩
   cases k with
   |zero=>exact rfl
   |succ k=>exact h2 k (by simpa using hk) (by simp_all)
  |cell t ty=>
   simp only[oZ]at h;split at h
   ·rename_i n l' h1 h2
    injection h with h
    subst h;obtain⟨e,h3⟩:=ih h2;refine⟨by simp[e],λk hk YG=>?_⟩
    cases k with
    |zero=>exact⟨ty,rfl,Ao h1⟩
    |succ k=>exact h3 k (by simp_all) (by simp_all)
   ·simp at h
theorem vo{own:Nat->Bool}:∀{xs:List Operand}{i:Nat}{ts:List TypeId}{l:List (Option Nat×Opd)},pM P own i ts xs=some l->l.length=xs.length/\∀j (h:j<l.length)(h':j<xs.length),dN xs[j]=some l[j].2:=by
 intro xs
 induction xs with
 |nil=>
  intro i ts l h;simp only[pM]at h
  simp_all
 |cons x xs ih=>
  intro i ts l h;simp only[pM]at h;split at h
  ·rename_i y l' h1 h2;obtain⟨e,h3⟩:=ih h2
   obtain⟨n,rfl⟩:∃n,l=(n,y)::l':=by
    (repeat' split at h)<;>first|(injection h with h;exact⟨_,h.symm⟩)|simp at h
   refine⟨by simp[e],λj hj ZQ=>?_⟩
   cases j with
   |zero=>exact h1
   |succ j=>exact h3 j (by simp_all) (by simp_all)
  ·simp at h
theorem C5{op:Op}{t:TOp}(h:ua P op=some t):oW op t:=by
 unfold ua at h;split at h
 ·rename_i f args tys;split at h
  ·obtain⟨l,h1,rfl⟩:=ig h;have ⟨e,h2⟩:=vo h1;exact⟨rfl,by omega,λj hj ZQ=>by simp_all⟩
  ·simp at h
 ·rename_i i args tys;obtain⟨l,h1,rfl⟩:=ig h;have ⟨e,h2⟩:=vo h1;exact⟨rfl,by omega,λj hj ZQ=>by simp_all⟩
 ·simp at h
theorem Fq{mv:Nat}{op:Op}{t:TOp}(h:oW op t):oW op (CR mv t):=by
 unfold CR;split
 ·rename_i k f args;split
  ·cases op with
   |call c=>
    have ⟨callee,asq,tys⟩:=c
    cases callee with
    |value fo=>
     have ⟨h1,h2,h3⟩:=h;exact⟨h1,by simp_all,λj hj ZQ=>by simp_all⟩
    |_=>exact h
   |_=>exact h
  ·exact h
 ·exact h
theorem CY{ops:Array Oper}{mv:Nat}{o:Oper}{t:iE}(hN:M.N=nt)(YH:∀r,M.pr r≠none->∃i∈pp,r=2*i+2)(h:zE P pp nt ops mv o=some t):tE P M jR ops o t:=by
 unfold zE at h;split at h
 case isFalse=>simp at h
 rename_i hd
 have YA:∀d,o.dst=some d->d<M.N/\M.pr (2*d+2)=none:=λd e=>by
  simp only[Mk,oDE,Bool.not_eq_true',List.contains_eq_mem,decide_eq_false_iff_not]at hd;refine⟨by simp_all,?_⟩
  cases hp:M.pr (2*d+2)with
  |none=>rfl
  |some x=>
   obtain⟨i,hi,e2⟩:=YH (2*d+2) (by rw[hp];simp);have e3:d=i:=Nat.eq_of_mul_eq_mul_left (by decide:0<2) (Nat.add_right_cancel e2)
   simp_all
 have TL:(∃QF,gt P QF o.op=some (o4 P mv o.op))\/jR o.op (o4 P mv o.op):=by
  unfold o4
  cases h1:gt P mv o.op with
  |some t1=>exact .inl ⟨mv,h1⟩
  |none=>
   cases h2:ua P o.op with
   |some t1=>exact .inr (.inr (Fq (C5 h2)))
   |none=>exact .inr (.inl rfl)
 split at h
 ·rename_i hg
  injection h with h
  subst h;exact⟨rfl,YA,.inl ⟨hg,rfl⟩,TL⟩
 ·rename_i j want hg;split at h
  ·rename_i d hj
   injection h with h
   subst h;exact⟨rfl,YA,.inr ⟨j,want,d,hg,rfl,hj⟩,TL⟩
  ·simp at h
theorem sX{ops:Array Oper}(hN:M.N=nt)(YH:∀r,M.pr r≠none->∃i∈pp,r=2*i+2):∀{l:List Oper}{mv:List Nat}{ts:List iE},nh P pp nt ops mv l=some ts->ts.length=l.length/\∀i (h:i<l.length)(h':i<ts.length),tE P M jR ops l[i] ts[i]:=by
 intro l
 induction l with
 |nil=>
  intro mv ts h;simp[nh]at h
  simp_all
 |cons o l ih=>
  intro mv ts h;simp[nh]at h;split at h
  ·rename_i t l' h1 h2
   injection h with h
   subst h;have ⟨e,h3⟩:=ih h2;refine⟨by simp[e],λj hj ZQ=>?_⟩
   cases j with
   |zero=>exact CY hN YH h1
   |succ j=>simp_all
  ·simp at h
theorem xx{ops:List Oper}{deps:List (List Nat)}:∀{n:Nat},zy ops deps n=true->∀i,i<n->∀(h:i<ops.length),(∀e∈ops[i].after.toList,Region.binds .any e=true->e.on<i)/\∀j∈deps.getD i [],∃e∈ops[i].after.toList,Region.binds .any e=true/\(e.on=j\/j∈deps.getD e.on []):=by
 intro n
 induction n with
 |zero=>intro _ i hi;omega
 |succ n ih=>
  intro h i hi hl;simp only[zy,oBA]at h;by_cases e:i<n
  ·exact ih h.1 i e hl
  ·obtain rfl:i=n:=by omega
   have h2:=h.2;rw[oGE hl]at h2;simp only[oBA,List.all_eq_true,List.any_eq_true,Bool.or_eq_true,Bool.not_eq_true',oDE,beq_iff_eq,List.contains_eq_mem]at h2;refine⟨λe he hb=>?_,λj hj=>?_⟩
   ·rcases h2.1 e he with h3|h3
    ·simp_all
    ·exact h3
   ·simp_all
def Mz(P:Program)(ops:Array Oper)(tops:List iE)(draw:Bool)(d:Option (List (List Nat))):Prop:=match d with
 |some deps=>draw=true/\vM ops deps/\P.follows .mixedOrders=true
 |none=>draw=true->∃deps,vM ops deps/\P.follows .mixedOrders=true/\w7 deps tops (List.range tops.length)=true
theorem C3{ops:Array Oper}{tops:List iE}{draw:Bool}{d:Option (List (List Nat))}(h:zF P ops tops draw=some d):Mz P ops tops draw d:=by
 unfold zF at h;split at h
 ·rename_i hd;split at h
  case isFalse=>simp at h
  rename_i hc;simp at hc
  have hD:vM ops (Bx ops.toList []):=by
   refine⟨λi hi e he hb=>?_,λi hi j hj=>?_⟩
   ·exact(xx hc.2 i hi (by simpa using hi)).1 e (by simp_all) hb
   ·have ⟨e,he,h3⟩:=(xx hc.2 i hi (by omega)).2 j hj;exact⟨e,by simp_all,h3⟩
  split at h
  ·rename_i hs
   injection h with h
   subst h;exact λ_=>⟨_,hD,hc.1,hs⟩
  ·injection h with h
   subst h;exact⟨hd,hD,hc.1⟩
 ·rename_i hd
  injection h with h
  subst h;exact λh'=>absurd h' (by omega)
theorem zU{isCall:Op->TOp->Prop}{pers:Nat->Prs}{a c:Code}{l:List (Nat×Option Nat)}{t:j5}(h:iA P M isCall t c):iA P M isCall (Dm pers a l t) c:=by
 cases t with
 |skip=>
  unfold Dm
  cases sg a with
  |some i=>exact h
  |none=>cases l<;>exact h
 |_=>exact h
theorem GW(hN:M.N=nt){l:List (Nat×Option Nat)}{x:j5}{c:Code}(h:iA P M jR x c):iA P M jR (MC nt l x) c:=by
 unfold MC;split
 ·exact h
 ·split
  ·rename_i hl;refine⟨λy hy=>?_,h⟩;have:=List.all_eq_true.1 hl y hy
   simp_all
  ·exact h
theorem DD(hN:M.N=nt){l:List (Nat×Option Nat)}{x:j5}{c:Code}(h:iA P M jR x c):iA P M jR (I2 nt l x) c:=by
 unfold I2;split
 ·exact h
 ·split
  ·rename_i hl;refine⟨λy hy=>?_,h⟩;have:=List.all_eq_true.1 hl y hy
   simp_all
  ·exact h
theorem C4{mv:Nat->List Oper->Bool->List Nat}{pers:Nat->Prs}{H:Nat->List (Nat×Option Nat)}(hN:M.N=nt)(YH:∀r,M.pr r≠none->∃i∈pp,r=2*i+2):∀{c:Code}{i:Nat}{tc:j5},gJ P pp nt mv pers H c i=some tc->iA P M jR tc c:=by
 intro c
 induction c with
 |skip=>intro i tc h;simp only[gJ,oSJ]at h;subst h;exact rfl
 |exit id=>intro i tc h;simp only[gJ,oSJ]at h;subst h;exact rfl
 |ret=>intro i tc h;simp only[gJ,oSJ]at h;subst h;exact rfl
 |region id ops draw=>
  intro i tc h;simp only[gJ]at h;split at h
  case h_2=>simp at h
  rename_i l h1;split at h
  case h_2=>simp at h
  rename_i d hd
  injection h with h
  subst h;obtain⟨e,h2⟩:=sX hN YH h1;exact GW hN ⟨id,ops,draw,rfl,by omega,λi hi Zl=>by simp_all,C3 hd⟩
 |seq a b Zh Y'=>
  intro i tc h;simp only[gJ]at h;split at h
  ·rename_i x y h1 h2
   injection h with h
   subst h;exact⟨a,b,rfl,Zh h1,Y' h2⟩
  ·simp at h
 |cond k a b Zh Y'=>
  intro i tc h;simp only[gJ]at h;split at h
  ·rename_i k' x y h1 h2 h3
   injection h with h
   subst h;exact⟨k,a,b,rfl,h1,zU (Zh h2),zU (Y' h3)⟩
  ·simp at h
 |block id b ih=>
  intro i tc h;obtain⟨x,h1,rfl⟩:=ig h;exact⟨b,rfl,ih h1⟩
 |loop b ih=>
  intro i tc h;obtain⟨x,h1,rfl⟩:=ig h;exact GW hN ⟨b,rfl,DD hN (ih h1)⟩
 |_=>intro i tc h;simp[gJ]at h
theorem rS{α:Type}{a:Array α}{l:List α}(h:a.toList=l):a=l.toArray:=by rw[<- h]
theorem BB{c rest:Code}(h:vq P c=some rest):Ih P c rest:=by
 unfold vq at h;split at h
 case h_2=>cases h
 rename_i i0 a0 i1 a1 i2 a2 QO;split at h
 case h_2=>cases h
 rename_i t0 s0 f0 t1 s1 f1 ty ty2 t2 s2 f2 t3 s3 f3 e0 e1 e2;split at h
 case h_2=>cases h
 rename_i e hu
 injection h with h
 subst h;exact⟨i0,i1,i2,_,_,_,_,ty,_,e,by rw[rS e0,rS e1,rS e2],⟨rfl,rfl,rfl⟩,⟨rfl,rfl,rfl⟩,⟨rfl,rfl,rfl⟩,⟨rfl,rfl,rfl⟩,hu⟩
theorem sY{fn:Func}{c:Code}{tf:TFn}(h:vn P fn c=some tf):Ig P tf c/\tf.nt=fn.ntmps/\tf.np=fn.params.size/\oZ P fn.results.toList=some tf.res:=by
 unfold vn at h;split at h
 case h_2=>cases h
 rename_i id ops hr;split at h
 case h_2=>cases h
 rename_i sz b sz2 bytes mv fl hops;split at h
 case isFalse=>cases h
 rename_i hc;obtain⟨rfl,Ro,hp,hn⟩:=hc;split at h
 case h_2=>cases h
 rename_i Y2
 injection h with h
 subst h;refine⟨⟨rfl,rfl,rfl,rfl,Ro,⟨_,_,_,_,_,_,rfl⟩,_,BB hr,λM hN YH=>?_⟩,hn.symm,hp.symm,Y2⟩;obtain⟨e,h2⟩:=sX (nt:=8) hN YH hops;exact⟨_,_,rfl,⟨id,ops,false,rfl,by omega,λi hi Zl=>by simp_all,λh=>by cases h⟩,rfl⟩
theorem Ip{T:FuncId->Option TFn}(h:∀f tf,T f=some tf->(∃H,qx P H f=some tf)/\tf.np<=tf.nt/\∀fn,P.funcs[f]?=some fn->(fn.name=="runtime.NumGoroutine")=false):FG P T:=by
 intro f tf hT;obtain⟨⟨H,h1⟩,h2,h3⟩:=h f tf hT;unfold qx at h1;split at h1
 case h_2=>simp at h1
 rename_i fn hf;split at h1
 case h_2=>simp at h1
 rename_i c hb;split at h1
 ·rename_i PI Ze
  injection h1 with h1
  subst h1;obtain⟨g1,g2,g3,g4⟩:=sY Ze;have ⟨e,Y2⟩:=xy g4;exact⟨fn,c,hf,h3 fn hf,hb,g2.symm,h2,.inr g1,by simpa using e,λk hk YG=>by have:=Y2 k hk (by simpa using YG);simpa using this⟩
 simp only at h1;split at h1
 ·rename_i tc rs hc hr
  injection h1 with h1
  subst h1;have ⟨e,Y2⟩:=xy hr;exact⟨fn,c,hf,h3 fn hf,hb,rfl,h2,.inl λM hN YH=>DD hN (C4 hN YH hc),by simpa using e,λk hk YG=>by have:=Y2 k hk (by simpa using YG);simpa using this⟩
 ·simp at h1
end
theorem Es{E:Env}{T:FuncId->Option TFn}{B F:fq}{n:Nat}{f:FuncId}{tf:TFn}(h:T f=some tf)(vals:List TV)(pts:Pts):BS E T B F n f vals pts=runT E F n tf vals pts:=by
 unfold BS;rw[h]
def arR(op:BinOp)(k:IntKind)(a b:Int):Int:=
 match op with
 |.add=>k.wrap (a+b)
 |.sub=>k.wrap (a-b)
 |.mul=>k.wrap (a*b)
 |.quo=>k.wrap (a.tdiv b)
 |.rem=>a.tmod b
 |.and=>k.wrap (BitVec.ofInt k.bits a &&& BitVec.ofInt k.bits b).toNat
 |.or=>k.wrap (BitVec.ofInt k.bits a ||| BitVec.ofInt k.bits b).toNat
 |.xor=>k.wrap (BitVec.ofInt k.bits a ^^^ BitVec.ofInt k.bits b).toNat
 |.andNot=>k.wrap (BitVec.ofInt k.bits a &&& ~~~BitVec.ofInt k.bits b).toNat
 |_=>0
def shR(op:BinOp)(k:IntKind)(a:Int)(n:Nat):Int:=
 match op with
 |.shl=>k.wrap (a*2 ^ (min n k.bits))
 |.shr=>a.fdiv (2 ^ (min n k.bits))
 |_=>0
def cmR(op:BinOp)(a b:Int):Bool:=
 match op with
 |.eql=>a==b
 |.neq=>a != b
 |.lss=>decide (a<b)
 |.leq=>decide (a<=b)
 |.gtr=>decide (a>b)
 |.geq=>decide (a>=b)
 |_=>false
def MH{α:Type}(f:α->Bool):List α->Bool
 | []=>true
 |x::r=>match f x with|true=>MH f r|false=>false
def LG{α:Type}(f:α->Bool):List α->Bool
 | []=>false
 |x::r=>match f x with|true=>true|false=>LG f r
def E1(a b:List Loc):Bool:=LG (λw=>LG (λx=>w.hit x) b) a
def HX(a b:pS):Bool:=match E1 a.2 b.1 with
 |true=>true
 |false=>match E1 a.2 b.2 with
  |true=>true
  |false=>match E1 b.2 a.1 with
   |true=>true
   |false=>E1 b.2 a.2
def yb(d:List Nat)(j:Nat)(F F':pS):Bool:=match d.contains j with
 |true=>true
 |false=>!HX F F'
def tX(deps:List (List Nat)):List (Nat×pS)->Bool
 | []=>true
 |(j,F)::r=>match MH (λy=>yb (deps.getD y.1 []) j F y.2) r with|true=>tX deps r|false=>false
theorem Lu{α:Type}(f:α->Bool)(l:List α):MH f l=l.all f:=by
 induction l with
 |nil=>rfl
 |cons x l ih=>simp[MH];cases f x<;>simp[ih]
theorem H9{α:Type}(f:α->Bool)(l:List α):LG f l=l.any f:=by
 induction l with
 |nil=>rfl
 |cons x l ih=>simp[LG];cases f x<;>simp[ih]
theorem Jf(a b:List Loc):E1 a b=E2 a b:=by
 have e:(λw:Loc=>LG (λx=>w.hit x) b)=λw:Loc=>b.any λx=>w.hit x:=funext λw=>H9 _ _;unfold E1 E2;rw[H9,e]
theorem HW(a b:pS):HX a b=nS a b:=by
 unfold HX nS;simp[Jf]
 grind
theorem EV(d:List Nat)(j:Nat)(a b:pS):yb d j a b=(!nS a b||d.contains j):=by
 unfold yb;rw[HW];cases d.contains j<;>simp
theorem B9(deps:List (List Nat))(fs:List (Nat×pS)):tX deps fs=iC deps fs:=by
 induction fs with
 |nil=>rfl
 |cons x r ih=>
  have ⟨j,F⟩:=x;have e:(λy:Nat×pS=>yb (deps.getD y.1 []) j F y.2)=λy=>!nS F y.2||(deps.getD y.1 []).contains j:=funext λy=>EV _ _ _ _;simp only[tX,iC,Lu,ih,e];cases r.all λy=>!nS F y.2||(deps.getD y.1 []).contains j<;>simp
theorem Im{x:Int}(h1:-9223372036854775808<=x)(h2:x<=9223372036854775807):IntKind.wrap .i64 x=x:=by
 have e1:(2:Int) ^ IntKind.bits .i64=18446744073709551616:=by rfl
 have e2:(2:Int) ^ (IntKind.bits .i64-1)=9223372036854775808:=by rfl
 have e3:IntKind.signed .i64=true:=rfl;unfold IntKind.wrap;simp[e1,e3];omega
theorem xJ(x:Int):IntKind.wrap .u16 x=x%65536:=by
 have e1:(2:Int) ^ IntKind.bits .u16=65536:=by rfl
 have e3:IntKind.signed .u16=false:=rfl;unfold IntKind.wrap
 simp_all
def Ke(x:Int):Prop:=-9223372036854775808<=x/\x<=9223372036854775807
inductive CT where
 |int (k:IntKind)
 |bool
 |str
 |nat
 |row (own:Bool) (t:CT)
 |nilr (own:Bool)
 |pair (a b:CT)
def pW:CT->CT->Bool
 |.int k,.int k'=>decide (k=k')
 |.bool,.bool=>true
 |.str,.str=>true
 |.nat,.nat=>true
 |.row o t,.row o' t'=>(o==o')&&pW t t'
 |.nilr o,.nilr o'=>o==o'
 |.pair a b,.pair a' b'=>pW a a'&&pW b b'
 |_,_=>false
theorem rh:∀{a b:CT},pW a b=true->a=b:=by
 intro a
 induction a with
 |int k=>intro b h;cases b<;>simp_all [pW]
 |bool=>intro b h;cases b<;>simp_all [pW]
 |str=>intro b h;cases b<;>simp_all [pW]
 |nat=>intro b h;cases b<;>simp_all [pW]
 |row o t ih=>intro b h;cases b<;>simp[pW]at h;rw[h.1,ih h.2]
 |nilr o=>intro b h;cases b<;>simp_all [pW]
 |pair x y XK Vg=>intro b h;cases b<;>simp[pW]at h;rw[XK h.1,Vg h.2]
def jU:CT->CT->Bool
 |.int k,.int k'=>decide (k=k')
 |.bool,.bool=>true
 |.str,.str=>true
 |.nat,.nat=>true
 |.row _ t,.row _ t'=>jU t t'
 |.nilr _,.nilr _=>true
 |.pair a b,.pair a' b'=>jU a a'&&jU b b'
 |_,_=>false
def Fr:CT->CT->Bool
 |.int k,.int k'=>decide (k=k')
 |.bool,.bool=>true
 |.str,.str=>true
 |.nat,.nat=>true
 |.row o t,.row o' t'=>(o==o')&&Fr t t'
 |.nilr o,.nilr o'=>o==o'
 |.nilr o,.row o' _=>o==o'
 |.pair a b,.pair a' b'=>Fr a a'&&Fr b b'
 |_,_=>false
def j3:CT->Nat
 |.pair a b=>j3 a+j3 b
 |.nat=>0
 |_=>1
def qa:CT->CT
 |.row true t=>.row false (qa t)
 |.nilr _=>.nilr false
 |.pair a b=>.pair (qa a) (qa b)
 |t=>t
def shT:CT->Nat->List Nat->Option CT
 |.pair a b,o,os=>if o<j3 a then(shT a o os).map (.pair · b)else(shT b (o-j3 a) os).map (.pair a ·)
 |t,0,[]=>some (qa t)
 |.row true t,0,o::os=>(shT t o os).map (.row true)
 |t,_,_=>some t
abbrev den:CT->Type
 |.int _=>Int
 |.bool=>Bool
 |.str=>ByteArray
 |.nat=>Nat
 |.row _ t=>List (den t)
 |.nilr _=>Unit
 |.pair a b=>den a×den b
theorem gr:∀{a b:CT},jU a b=true->den a=den b:=by
 intro a
 induction a with
 |int k=>intro b h;cases b<;>simp[jU]at h;rfl
 |bool=>intro b h;cases b<;>simp[jU]at h;rfl
 |str=>intro b h;cases b<;>simp[jU]at h;rfl
 |nat=>intro b h;cases b<;>simp[jU]at h;rfl
 |row o t ih=>intro b h;cases b<;>simp[jU]at h;simp only[den];rw[ih h]
 |nilr o=>intro b h;cases b<;>simp[jU]at h;rfl
 |pair x y XK Vg=>intro b h;cases b<;>simp[jU]at h;simp only[den];rw[XK h.1,Vg h.2]
def LF:(t:CT)->den t
 |.int _=>(0:Int)
 |.bool=>false
 |.str=>ByteArray.empty
 |.nat=>(0:Nat)
 |.row _ _=>[]
 |.nilr _=>()
 |.pair a b=>(LF a,LF b)
def J7:(a b:CT)->den a->den b
 |.row _ t,.row _ t',xs=>List.map (J7 t t') xs
 |.pair a b,.pair a' b',x=>(J7 a a' x.1,J7 b b' x.2)
 |.int _,.int _,x=>x
 |.bool,.bool,x=>x
 |.str,.str,x=>x
 |.nat,.nat,x=>x
 |_,b,_=>LF b
def enc:(t:CT)->den t->List TV
 |.int k,x=>[.v (.int k x)]
 |.bool,x=>[.v (.bool x)]
 |.str,x=>[.v (.string x)]
 |.nat,_=>[]
 |.row true t,xs=>[.ow (List.map (enc t) xs)]
 |.row false t,xs=>[.sl (List.map (enc t) xs)]
 |.nilr true,_=>[.ow []]
 |.nilr false,_=>[.sl []]
 |.pair a b,x=>enc a x.1++enc b x.2
def HL(D:CT->Type):List CT->Type
 | []=>Unit
 |t::ts=>D t×HL D ts
def yc:List (List CT)->Nat->List CT
 | [],_=>[]
 |l::_,0=>l
 |_::r,i+1=>yc r i
def xG:List (List CT)->Type
 | []=>Empty
 | [l]=>HL den l
 |l::m::r=>HL den l⊕xG (m::r)
def se:(ls:List (List CT))->(i:Nat)->HL den (yc ls i)->Option (xG ls)
 | [],_,_=>none
 | [_],0,h=>some h
 | [_],_+1,_=>none
 |_::_::_,0,h=>some (.inl h)
 |_::m::r,i+1,h=>(se (m::r) i h).map .inr
def Mj{α:Type}:(ls:List (List CT))->((i:Nat)->HL den (yc ls i)->α)->xG ls->α
 | [],_,o=>Empty.elim o
 | [_],f,o=>f 0 o
 |_::m::r,f,o=>match o with
  |.inl h=>f 0 h
  |.inr o'=>Mj (m::r) (λi h=>f (i+1) h) o'
def k8{α:Type}(ls:List (List CT))(o:xG ls)(f:(i:Nat)->HL den (yc ls i)->α):α:=Mj ls f o
structure Alg (D:CT->Type)(M:Type->Type) where
 lit:(k:IntKind)->Int->D (.int k)
 litB:Bool->D .bool
 litS:ByteArray->D .str
 litN:Nat->D .nat
 nilv:(o:Bool)->D (.nilr o)
 nil:(o:Bool)->(t:CT)->D (.row o t)
 recast:(t t':CT)->jU t t'=true->D t->D t'
 coe:(t t':CT)->D t->D t'
 mkp:(a b:CT)->D a->D b->D (.pair a b)
 fst:(a b:CT)->D (.pair a b)->D a
 snd:(a b:CT)->D (.pair a b)->D b
 ar:BinOp->(k:IntKind)->D (.int k)->D (.int k)->D (.int k)
 cm:BinOp->(k:IntKind)->D (.int k)->D (.int k)->D .bool
 sh:BinOp->(k:IntKind)->D (.int k)->D .nat->D (.int k)
 neg:(k:IntKind)->D (.int k)->D (.int k)
 not:D .bool->D .bool
 cv:(k k':IntKind)->D (.int k)->D (.int k')
 mm:Bool->(k:IntKind)->D (.int k)->D (.int k)->D (.int k)
 eqB:D .bool->D .bool->D .bool
 eqS:D .str->D .str->D .bool
 eqT:D .str->D .str->D .bool
 andB:D .bool->D .bool->D .bool
 ite:(t:CT)->D .bool->D t->D t->D t
 natI:D .nat->D (.int .i64)
 addN:D .nat->D .nat->D .nat
 subN:D .nat->D .nat->D .nat
 minN:D .nat->D .nat->D .nat
 len:(o:Bool)->(t:CT)->D (.row o t)->D .nat
 slOk:D .nat->D .nat->D .nat->D .bool
 ltN:D .nat->D .nat->D .bool
 eqN:D .nat->D .nat->D .bool
 win:(o:Bool)->(t:CT)->D (.row o t)->D .nat->D .nat->D (.row o t)
 appOk:Nat->D .nat->D .nat->D .bool
 cat:(t:CT)->(o:Bool)->D (.row true t)->D (.row o t)->D (.row true t)
 rowl:(o:Bool)->(t:CT)->List (D t)->D (.row o t)
 mkOk:D .nat->D .nat->Nat->D .bool
 rep:(t:CT)->D .nat->D t->D (.row true t)
 upd:(t:CT)->D (.row true t)->D .nat->(D t->D t)->D (.row true t)
 splice:(t:CT)->(o:Bool)->D (.row true t)->D .nat->D .nat->D (.row o t)->D (.row true t)
 strLen:D .str->D (.int .i64)
 strB:D .str->D (.row false (.int .u8))
 strOk:D .str->D .bool
 fail:{X:Type}->M X
 br:{X:Type}->D .bool->M X->M X->M X
 nat:{X:Type}->(k:IntKind)->D (.int k)->(D .nat->M X)->M X
 get:{X:Type}->(o:Bool)->(t:CT)->D (.row o t)->D .nat->(D t->M X)->M X
 strAt:{X:Type}->D .str->D .nat->(D (.int .u8)->M X)->M X
 bstr:{X:Type}->D (.row false (.int .u8))->(D .str->M X)->M X
 lt:{X:Type}->(t:CT)->D t->(D t->M X)->M X
 call:{X:Type}->Nat->(ins:List CT)->(outs:List (List CT))->(HL den ins->Option (xG outs))->HL D ins->((i:Nat)->HL D (yc outs i)->M X)->M X
 loop:{X:Type}->Nat->(s:List CT)->(outs:List (List CT))->HL D s->(HL D s->M (HL den s⊕xG outs))->((i:Nat)->HL D (yc outs i)->M X)->M X
 join:{X:Type}->(outs:List (List CT))->M (xG outs)->((i:Nat)->HL D (yc outs i)->M X)->M X
 next:(s:List CT)->(outs:List (List CT))->HL D s->M (HL den s⊕xG outs)
 exitL:(s:List CT)->(outs:List (List CT))->(i:Nat)->HL D (yc outs i)->M (HL den s⊕xG outs)
 out:(outs:List (List CT))->(i:Nat)->HL D (yc outs i)->M (xG outs)
def d7:Int->Option Nat
 |.ofNat n=>some n
 |.negSucc _=>none
def dI{α:Type}(xs:List α)(i:Nat):Option α:=xs[i]?
def Nk(a b:Bool):Bool:=a==b
def Nj(a b:ByteArray):Bool:=a==b
def MW(a b:ByteArray):Bool:=a.toList==b.toList
def dM(n:Nat):Int:=(n:Int)
def Ng(k:IntKind)(a:Int):Int:=k.wrap (0-a)
def mmR(mx:Bool)(a b:Int):Int:=if mx then(if a<b then b else a)else(if b<a then b else a)
def mU{α:Type}(xs:List α)(l n:Nat):List α:=(xs.drop l).take n
def j0(l h n:Nat):Bool:=l<=h&&decide (h<=n)
def dY(bytes n m:Nat):Bool:=decide (n+m<=1099511627776)&&decide ((n+m)*bytes<=140737488355328)
def sf(n m sz:Nat):Bool:=decide (n=m)&&decide (n*sz<=16777216)
def oL{α:Type}(xs:List α)(lo m:Nat)(ys:List α):List α:=xs.take lo++ys.take m++xs.drop (lo+m)
def MO(s:ByteArray):List Int:=s.data.toList.map λb=>(b.toNat:Int)
def wY(s:ByteArray)(k:Nat):Option Int:=(s[k]?).map λb=>(b.toNat:Int)
def H3(l:List Int):ByteArray:=l.foldl (λr n=>r.push (UInt8.ofNat n.toNat)) ByteArray.empty
def dU{S T:Type}(f:S->Option (S⊕T)):Nat->S->Option T
 |0,_=>none
 |n+1,s=>(f s).bind λx=>match x with|.inl s'=>dU f n s'|.inr t=>some t
def NN:Nat:=18446744073709551616
def dJ:Alg den Option where
 lit _ n:=n
 litB b:=b
 litS s:=s
 litN n:=n
 nilv _:=()
 nil _ _:=[]
 recast _ _ h x:=cast (gr h) x
 coe t t' x:=J7 t t' x
 mkp _ _ x y:=(x,y)
 fst _ _ x:=x.1
 snd _ _ x:=x.2
 ar op k a b:=arR op k a b
 cm op _ a b:=cmR op a b
 sh op k a n:=shR op k a n
 neg k a:=Ng k a
 not b:=!b
 cv _ k' n:=k'.wrap n
 mm mx _ a b:=mmR mx a b
 eqB a b:=Nk a b
 eqS a b:=Nj a b
 eqT a b:=MW a b
 andB a b:=a&&b
 ite _ c a b:=bif c then a else b
 natI n:=dM n
 addN a b:=Nat.add a b
 subN a b:=Nat.sub a b
 minN a b:=Nat.min a b
 len _ _ xs:=List.length xs
 slOk l h n:=j0 l h n
 ltN a b:=Nat.blt a b
 eqN a b:=Nat.beq a b
 win _ _ xs l n:=mU xs l n
 appOk b n m:=dY b n m
 cat _ _ xs ys:=List.append xs ys
 rowl _ _ l:=l
 mkOk n m sz:=sf n m sz
 rep _ n x:=List.replicate n x
 upd _ xs i f:=List.modify xs i f
 splice _ _ xs lo m ys:=oL xs lo m ys
 strLen s:=(ByteArray.size s:Int)
 strB s:=MO s
 strOk s:=decide (ByteArray.size s<4294967296)
 fail:=none
 br c a b:=bif c then a else b
 nat _ n k:=(d7 n).bind k
 get _ _ xs i k:=(dI xs i).bind k
 strAt s i k:=(wY s i).bind k
 bstr l k:=k (H3 l)
 lt _ x k:=k x
 call _ _ outs g h k:=(g h).bind λo=>k8 outs o k
 loop _ _ outs h body k:=(dU body NN h).bind λo=>k8 outs o k
 join outs m k:=m.bind λo=>k8 outs o k
 next _ _ h:=some (.inl h)
 exitL _ outs i h:=(se outs i h).map .inr
 out outs i h:=se outs i h
end Go.Proofs.YtilofbdgkiloiaaGreat
