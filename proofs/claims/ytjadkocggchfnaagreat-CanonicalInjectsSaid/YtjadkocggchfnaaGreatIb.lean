/- Part of the proof; no condition. -/
import Derived.Test.YtjadkocggchfnaaGreatIa
import Derived.Laws.BytesString
import Derived.Laws.NewFold
import Derived.Laws.IdiomCopy
import Derived.LoopN
import Derived.Orders
import Derived.Lib.SliceRun
set_option linter.unusedVariables false
set_option linter.unusedSimpArgs false
namespace Go.Proofs.YtjadkocggchfnaaGreat
open Go.RowKit
section
variable {P:Program} {M:Fm} {σ σ':St} {H:List TV} {xs:List Value} {ts:Array Value} {w:World} {G:Gh} {a:Act} {o:Oper}
theorem KT(mx:Bool) (k:IntKind):∀(r:List Value) (x m:Int),yg mx k x r=some m->(r.foldlM (if mx then Builtin.max2 else Builtin.min2) (.int k x)).run P w=.ok (.int k m) w:=by
 intro r
 induction r with
 | nil=>
  intro x m h;simp[yg] at h
  simp_all
 | cons y r ih=>
  intro x m h
  cases y with
  | int k' b=>
   simp only[yg] at h;split at h
   ·rename_i hk;have:=ih _ _ h
    cases mx with
    | true=>
     simpa [Builtin.max2] using this
    | false=>
     simpa [Builtin.min2] using this
   ·simp at h
  | _=>simp[yg] at h
theorem PB(hI:Inv M σ [] [] a.tmps w G) {d:Nat}(hd:o.dst=some d) (hN:d < M.N) {mx:Bool}{l:List Opd}{args:Array Operand}{Vv:Array TypeId}(hc:args.toList.map dV=l.map some) (ho:o.op=.call { callee:=.builtin (if mx then .max else .min),args:=args,argTypes:=Vv })
 (hr:(ev1 d (.mm mx l)).run σ=some ((),σ')):od P M σ' a o w:=by
 simp only[ev1] at hr;obtain⟨r,σ1,h1,h2⟩:=dK hr
 obtain⟨rfl,e2,e3⟩:=MI (R:=λy x'=>y=a.eval x') (λx x' y σ' hx hy=>by
  obtain⟨t,σ2,q1,q2⟩:=dK hy;obtain⟨rfl,ht⟩:=fB hI.tmr hx q1;obtain⟨rfl,rfl⟩:=qL q2
  exact⟨rfl,(ht.v_inv).1.symm⟩) hc h1
 have Yj:args.toList.map a.eval=r:=by
  apply List.ext_getElem
  ·simp[e2]
  ·simp_all
 split at h2
 case h_2=>simp[SP.run] at h2
 rename_i k x rest;obtain⟨m,σ2,h3,h4⟩:=dK h2;obtain⟨hm,rfl⟩:=q9 h3;refine iN hI hd hN (x:=.int k m) (.v rfl) h4 ?_;have hf:=KT (P:=P) (w:=w) mx k rest x m hm
 cases mx with
 | true=>
  simp only[if_true] at hf ho;simp[execOp,ho,resolve,invoke,builtin,Builtin.max_,Yj,hf]
 | false=>
  simp only[Bool.false_eq_true,if_false] at hf ho;simp[execOp,ho,resolve,invoke,builtin,Builtin.min_,Yj,hf]
theorem Od(hI:Inv M σ [] [] a.tmps w G) {d:Nat}(hd:o.dst=some d) (hN:d < M.N) {x i:Opd}{x' i':Operand}{t e n sz:Nat}(hx:dV x'=some x) (hi:dV i'=some i) (ho:o.op=.indexAddr t x' i')
 (hu:P.underlying t=some (.array n e)) (hs:(P.info? e).map (·.size)=some sz) (hr:(ev1 d (.idxa n sz x i)).run σ=some ((),σ')):od P M σ' a o w:=by
 have YU:(sizeOf e).run P w=.ok sz w:=by
  unfold sizeOf typeInfo
  cases hi:P.info? e with
  | none=>simp[hi] at hs
  | some i=>simp[hi] at hs;simp[hi,hs]
 simp only[ev1] at hr;obtain⟨tx,σ1,h1,h2⟩:=dK hr;obtain⟨rfl,Z2⟩:=fB hI.tmr hx h1;obtain⟨ti,σ2,h3,h4⟩:=dK h2;obtain⟨rfl,WX⟩:=fB hI.tmr hi h3;obtain⟨k,σ3,h5,h6⟩:=dK h4;obtain⟨ik,m,rfl,X9,hk,rfl⟩:=tT h5;obtain⟨ei,_⟩:=WX.v_inv
 cases tx with
 | ptr p vs=>
  simp only at h6;obtain⟨_,σ2,h7,h8⟩:=dK h6;have e1:σ2=σ3:=(eF h7).1;have e2:=(eF h7).2;subst e1;split at h8
  case isFalse=>simp[SP.run] at h8
  rename_i hc;simp only[oBA,oDE] at hc;obtain⟨hkn,ZQ⟩:=hc;generalize hz:a.eval x'=z at Z2
  cases Z2 with
  | ptr V0 h0 hv h=>
   obtain⟨Z8,ad,t0,ha,rfl,VK⟩:=h e2
   have hmn:m < (n:Int):=by omega
   refine iN hI hd hN (x:=.pointer (some (ad.add (k*sz)))) ?_ h8 (by subst hk;simp[execOp,ho,hz,ei,Instr.indexAt,asIntOf,Instr.sureAddr,run_underlying hu,X9,hmn,YU]);refine .ptr V0 h0 (by rw[IS];exact hv) λ_=>⟨by rw[fZ];exact Z8,⟨ad.block,ad.off+k*sz,none⟩,?_⟩;have ZC:=nj ha
   have X5:ad.add (k*sz)=⟨ad.block,ad.off+k*sz,none⟩:=by
    obtain⟨b,ob,sp⟩:=ad;simp only at ZC;subst ZC;exact gz b ob (k*sz)
   rcases p.add_cases (k*sz) with ⟨q1,q2⟩ | ⟨hs',i,sz',o',q1,q2⟩
   ·exact⟨eS M σ2 [] p.root (p.off+k*sz),pO _ ha,by rw[X5],by rw[q2];rfl⟩
   ·have hlt:o'+k*sz < sz':=by
     unfold ek.fits at ZQ;rw[q1] at ZQ;simpa using ZQ
    rw[q1] at VK;obtain⟨t',ZK⟩:=Jt VK hlt;exact⟨t',pO _ ha,by rw[X5],by rw[q2];exact ZK⟩
 | _=>simp[SP.run] at h6
theorem P6(hI:Inv M σ [] [] a.tmps w G) {d:Nat}(hd:o.dst=some d) (hN:d < M.N) {x:Opd}{x':Operand}{s t e:TypeId}(hx:dV x'=some x) (ho:o.op=.convert s t x') (hs:P.underlying s=some .string) (ht:P.underlying t=some (.slice e)) (he:P.underlying e=some (.int .u8))
 (hr:(ev1 d (.s2b x)).run σ=some ((),σ')):od P M σ' a o w:=by
 simp only[ev1] at hr;obtain⟨tx,σ1,h1,h2⟩:=dK hr;obtain⟨rfl,Z2⟩:=fB hI.tmr hx h1
 cases tx with
 | v y=>
  obtain⟨ex,_⟩:=Z2.v_inv
  cases y with
  | string str=>
   simp only at h2;split at h2
   case isFalse=>simp[SP.run] at h2
   rename_i hsz;obtain⟨n,hn⟩:∃n,n=w.tape w.drawn (.appendCap str.size 0 e):=⟨_,rfl⟩;obtain⟨cap,hcap⟩:∃cap,cap=str.size+n % (2 ^ 63 - str.size):=⟨_,rfl⟩
   have hcap1:str.size<=cap:=by omega
   have hcap2:cap<=maxLen:=by
    have:n % (2 ^ 63 - str.size) < 2 ^ 63 - str.size:=Nat.mod_lt _ (by omega);show cap<=2 ^ 63 - 1;omega
   obtain⟨row,W1⟩:∃row:Array Value,row=(str.data.map λb=>Value.int .u8 b.toNat)++Array.replicate (cap - str.size) (.int .u8 0):=⟨_,rfl⟩;obtain⟨w1,Wf⟩:∃w1,w1=w.drew.alloc (.cells row e):=⟨_,rfl⟩
   have Yv:w1.heap=w.heap.push (.cells row e):=by rw[Wf];rfl
   have hsh:w1.shape? w.heap.size=some (e,row.size):=by
    unfold World.shape?;rw[Yv];simp
   have hrun:(execOp a.eval o).run P w=.ok (.value (.slice (some ⟨w.heap.size,0,none⟩) str.size cap)) (w1.freeze ⟨w.heap.size,row.size,none⟩ 1):=by
    simp only[execOp,ho,ex,convert,Sem.run_bind,run_underlying hs,run_underlying ht,run_underlying he,Result.andThen_ok,Conv.stringToBytes,run_choose_drew,Question.forced,Bool.false_eq_true,if_false,Question.cut,newRow,run_newObj_alloc,Sem.run_pure];rw[<- hn,<- hcap,<- W1];simp only[show w.drew.heap.size=w.heap.size from rfl,<- Wf,markStringish,Sem.run_bind,run_shape,Result.andThen_ok,hsh,run_freeze,Sem.run_pure]
   have Zk:∀k,k < w.heap.size->(w1.freeze ⟨w.heap.size,row.size,none⟩ 1).heap[k]?=w.heap[k]?:=by
    intro k hk;unfold World.freeze;rw[oIN (by decide)];simp only;rw[Array.getElem?_modify];rw[oIN (by omega),Yv];simp[Array.getElem?_push,show k≠w.heap.size by omega]
   have Zw:∃fz,(w1.freeze ⟨w.heap.size,row.size,none⟩ 1).heap[w.heap.size]?=some (.cells row e fz):=by
    unfold World.freeze;rw[oIN (by decide)];simp only;rw[Array.getElem?_modify,oIP rfl,Yv];exact⟨_,by simp only[Array.getElem?_push_size,oMS];rfl⟩
   obtain⟨fz,Zw⟩:=Zw;obtain⟨ZH,_⟩:=hI.grow (w':=w1.freeze ⟨w.heap.size,row.size,none⟩ 1) Zk (by unfold World.freeze;rw[oIN (by decide)];simp[Yv]) (by rw[Wf];rfl) (by rw[Wf];rfl) (by rw[Wf];rfl);simp only[wr,SP.run,oSJ,oPJ,true_and] at h2;subst h2;refine⟨_,_,_,G,hrun,.inl rfl,?_⟩;rw[hd]
   have Wl:(tI str).length=str.size:=by unfold tI;rw[List.length_map,Array.length_toList];rfl
   refine ZH.wrT hN (.sl ?_)
   have UL:p8 (w1.freeze ⟨w.heap.size,row.size,none⟩ 1) (G.F M.A) (.sl (tI str)) (.slice (some ⟨w.heap.size,0,none⟩) (tI str).length cap):=by
    refine .sl 1 (λi _=>.int .u8 (str.data.getD i 0).toNat) (λi h=>by simp[tI]) (by omega) hcap2 (λh=>by simp at h) (λi j hi hj=>⟨w.heap.size,0,rfl,?_,?_⟩) λi j h h'=>?_
    ·exact⟨M.hA _ hI.fram.size,λr o h=>Nat.lt_irrefl _ (hI.core.live h),λr b o n hb e=>Nat.lt_irrefl _ (e ▸ hI.core.boxlt hb)⟩
    ·have hj0:j=0:=by omega
     subst hj0;rw[cell_of_row _ _ _ _ _ _ Zw]
     have ZG:i < str.data.size:=by rw[Wl] at hi;exact hi
     have hg:str.data[i]?=some str.data[i]:=Array.getElem?_eq_getElem ZG;rw[W1];simp[Array.getElem?_append,show i < str.size from ZG,Array.getD_eq_getD_getElem?,hg]
    ·have hj0:j=0:=by simp[tI] at h';omega
     subst hj0
     have ZG:i < str.data.size:=by rw[Wl] at h;exact h
     have:(tI str)[i][0]=.v (.int .u8 (str.data.getD i 0).toNat):=by
      have hg:str.data[i]?=some str.data[i]:=Array.getElem?_eq_getElem ZG;simp[tI,Array.getD_eq_getD_getElem?,hg]
     rw[this];exact .v rfl
   rw[Wl] at UL;exact UL
  | _=>simp[SP.run] at h2
 | _=>simp[SP.run] at h2
theorem Ns{c:List (List TV)}:∀{ns:List Int},B9 c=some ns->ns.length=c.length/\∀i (h:i < c.length) (h':i < ns.length),c[i]=[.v (.int .u8 ns[i])]:=by
 induction c with
 | nil=>intro ns h;simp only[B9,oSJ] at h;subst h;exact⟨rfl,λi h=>by simp at h⟩
 | cons e c ih=>
  intro ns h;unfold B9 at h;split at h
  ·simp_all
  ·rename_i n r h1
   injection h1 with h1 h2
   subst h1;subst h2
   cases hb:B9 c with
   | none=>simp_all
   | some l=>
    simp[hb] at h;subst h;obtain⟨e1,e2⟩:=ih hb;refine⟨by simp[e1],λi hi ZG=>?_⟩
    cases i with
    | zero=>rfl
    | succ i=>simp_all
  ·simp at h
theorem Qn(hI:Inv M σ [] [] a.tmps w G) {d:Nat}(hd:o.dst=some d) (hN:d < M.N) {x:Opd}{x':Operand}{s t e:TypeId}(hx:dV x'=some x) (ho:o.op=.convert s t x') (hs:P.underlying s=some (.slice e)) (ht:P.underlying t=some .string) (he:P.underlying e=some (.int .u8))
 (hr:(ev1 d (.b2s x)).run σ=some ((),σ')):od P M σ' a o w:=by
 simp only[ev1] at hr;obtain⟨tx,σ1,h1,h2⟩:=dK hr;obtain⟨rfl,Z2⟩:=fB hI.tmr hx h1;obtain⟨t',σ2,h3,h4⟩:=dK h2;obtain⟨G1,Zt,_⟩:=jH hI Z2 h3;simp only[List.nil_append] at Zt;obtain⟨G2,ZE,_⟩:=Zt.1.drop
 have ZY:∀str ad len cap,a.eval x'=.slice ad len cap->(Conv.bytesToString (.slice ad len cap)).run P w=.ok (.string str) w->(wr d (.v (.string str))).run σ2=some ((),σ')->od P M σ' a o w:=by
  intro str ad len cap ex hrun hw;refine iN ZE.1 hd hN (x:=.string str) (.v rfl) hw ?_;simp only[execOp,ho,Sem.run_bind,ex]
  have:(convert s t (.slice ad len cap)).run P w=.ok (.string str) w:=by
   unfold convert;simp only[Sem.run_bind,run_underlying hs,run_underlying ht,run_underlying he,Result.andThen_ok];exact hrun
  rw[this];rfl
 have hown:=λh=>Zt.1.hand_own (j:=0) (by simp) h;split at h4
 ·rename_i c;obtain⟨str,σ3,h5,h6⟩:=dK h4;obtain⟨hb,rfl⟩:=q9 h5;have hown:=hown (by simp);generalize hz:a.eval x'=z at hown
  cases hown with
  | sl hfp h=>
   cases h with
   | @sl _ ad cap sz u hsz hcap hmax hnil hcell hrec=>
    unfold bstr at hb
    cases hbn:B9 c with
    | none=>simp[hbn] at hb
    | some ns=>
     simp only[hbn,oMS,oSJ] at hb;obtain⟨hl,Z5⟩:=Ns hbn;refine ZY str _ _ _ hz ?_ h6
     cases ad with
     | none=>
      have hc0:c.length=0:=by have:=hnil rfl;omega
      have hns:ns=[]:=oEN (by omega);subst hns;rw[<- hb];rfl
     | some ad=>
      rw[<- hb];refine run_bytesToString w ad c.length cap ns ?_
      have:=run_loadCells_list (P:=P) w ad (ns.map (Value.int .u8)) λj v hj=>by
       have hjl:j < ns.length:=by
        rcases Nat.lt_or_ge j ns.length with h | h
        ·exact h
        ·rw[oGN (by simpa using h)] at hj;simp at hj
       have Uh:j < c.length:=by omega
       have e1:=Z5 j Uh hjl
       have hs1:sz=1:=by rw[<- hsz j Uh,e1];rfl
       subst hs1;obtain⟨b,o',Wa,hF,Zd⟩:=hcell j 0 Uh (by omega)
       injection Wa with Wa
       subst Wa;have hr:=hrec j 0 Uh (by rw[e1];simp)
       have e2:c[j][0]'(by rw[e1];simp)=.v (.int .u8 ns[j]):=by simp[e1]
       rw[e2] at hr
       have hu:u j 0=.int .u8 ns[j]:=by
        generalize u j 0=y at hr;cases hr;rfl
       have hv:v=.int .u8 ns[j]:=by simpa [hjl] using hj.symm
       rw[hv,<- hu,gz];simpa using Zd
      simpa [hl] using this
 ·have hown:=hown (by simp);generalize hz:a.eval x'=z at hown
  cases hown with
  | @nil _ ad hfp=>
   refine ZY .empty _ _ _ hz ?_ h4
   cases ad with
   | none=>rfl
   | some ad=>
    have:=run_bytesToString (P:=P) w ad 0 0 [] (by simp[loadCells,loadCellsFrom]);simpa using this
  | @ow _ _ b cap cur e' sz' u f hfp hb hsz hcap hz0 hmax hcur hcell hrec hnb hdis=>
   refine ZY .empty _ _ _ hz ?_ h4;have:=run_bytesToString (P:=P) w ⟨b,0,none⟩ 0 cap [] (by simp[loadCells,loadCellsFrom]);simpa using this
 ·simp[SP.run] at h4
theorem Oh(hI:Inv M σ [] [] a.tmps w G) {d:Nat}{mv:Bool}(hd:o.dst=some d) (hN:d < M.N) {t e n sz:TypeId}{parts:Array (Nat×Operand)}{ps:List (Nat×Nat×Opd)}{z:List Value}(ho:o.op=.build t parts) (hu:P.underlying t=some (.array n e))
 (hz:(P.info? t).bind (·.zero.map (·.cells.toList))=some z) (hs:(P.info? e).map (·.size)=some sz) (hp1:parts.size=ps.length)
 (hp2:∀k (h:k < parts.size) (h':k < ps.length),dV parts[k].2=some ps[k].2.2/\ps[k].1=parts[k].1*sz/\ps[k].2.1=sz/\ps[k].1+ps[k].2.1<=z.length)
 (hr:(ev1 d (.bld z mv ps)).run σ=some ((),σ')):od P M σ' a o w:=by
 simp only[ev1] at hr;split at hr
 case isFalse=>simp[SP.run] at hr
 rename_i hok;obtain⟨l,σ1,h1,h2⟩:=dK hr;obtain⟨l',σ2,h3,h4⟩:=dK h2
 obtain⟨G1,g1,UR,XX⟩:=sm (a:=a) (pv:=parts.toList.map (·.2)) hI (by
  apply List.ext_getElem
  ·simp[hp1]
  ·intro k hk YL;have:=(hp2 k (by simpa using hk) (by simpa using YL)).1
   simpa using this) h1
 obtain⟨G2,ZH,_,X7,YZ⟩:=zp g1.1 UR h3;obtain⟨ys,WU⟩:∃ys,ys=(parts.toList.map (·.2)).flatMap (λx=>(a.eval x).cells.toList):=⟨_,rfl⟩;rw[<- WU] at g1 YZ
 have hlen:l'.length=ys.length:=by rw[X7];exact g1.1.hand
 have UZ:∀j (h:j < (z.map gw).length) (h':j < z.length),TmR w (G2.F M.A) σ2.v (eS M σ2 []) G2 (z.map gw)[j] z[j]:=λj h h'=>by simp only[List.getElem_map];exact vv _
 obtain⟨r1,r2⟩:=rN (R:=TmR w (G2.F M.A) σ2.v (eS M σ2 []) G2) ps l' ys (z.map gw) z (by simp) UZ hlen (λj h h'=>by have:=YZ j h;simpa [h'] using this);refine iN ZH hd hN (x:=.agg (oJ z ps ys).toArray) (.agg (by simp[r1]) λj hj=>by have:=r2 j hj (by omega);simpa [show j < (oJ z ps ys).length by omega] using this) h4 ?_
 cases hi:P.info? t with
 | none=>simp[hi] at hz
 | some i=>
  simp only[hi,oBS] at hz
  cases hiz:i.zero with
  | none=>simp[hiz] at hz
  | some v=>
   simp only[hiz,oMS,oSJ] at hz
   have Wg:(zeroValue t).run P w=.ok v w:=by simp[zeroValue,typeInfo,hi,hiz]
   have YU:(sizeOf e).run P w=.ok sz w:=by
    unfold sizeOf typeInfo
    cases hi:P.info? e with
    | none=>simp[hi] at hs
    | some i=>simp_all
   have YH:=AM (place:=λi=>some (i*sz,sz)) (parts.toList.map λp=>(p.1,a.eval p.2)) ps v.cells (by simp[hp1]) (λk h h'=>by
    have hk:k < parts.size:=by simpa using h
    obtain⟨q1,q2,q3,q5⟩:=hp2 k hk h';have q4:=XX k h' (by simpa using hk);refine⟨by simp[q2,q3],by simpa using q4,?_⟩;rw[<- hz] at q5
    simpa using q5)
   have Zy:((parts.toList.map λp=>(p.1,a.eval p.2)).flatMap (·.2.cells.toList))=ys:=by rw[WU];simp[List.flatMap_map]
   rw[Zy,hz] at YH;simp only[execOp,ho,Instr.build,Sem.run_bind,Wg,Result.andThen_ok,run_underlying hu,YU,Array.toList_map];rw[YH];simp
end
theorem xQ{α:Type}{l:List α}{i:Nat}{x:α}{f g:α->α}(h:l[i]?=some x) (e:f x=g x):l.modify i f=l.modify i g:=by
 apply List.ext_getElem?
 grind
theorem Io{hs:List Hop}{i sz j:Nat}{c:List (List TV)}{el:List TV}{t1:TV}:∀{t:TV},eM t hs=some (.ow c)->c[i]?=some el->el.length=sz->el[j]?=some t1->eM t (hs++[(i,sz,j)])=some t1:=by
 induction hs with
 | nil=>
  intro t h h1 h2 h3;simp[eM] at h;subst h;simp[eM,h1,h2,h3]
 | cons hp hs ih=>
  intro t h h1 h2 h3;obtain⟨c0,el0,t0,rfl,k1,k2,k3,k4⟩:=gU h;simp[eM]
  simp_all
theorem Hx{hs:List Hop}{i sz j:Nat}{c:List (List TV)}{x:TV}:∀{t:TV},eM t hs=some (.ow c)->ij t (hs++[(i,sz,j)]) x=ij t hs (.ow (c.modify i λel=>el.modify j λ_=>x)):=by
 induction hs with
 | nil=>
  intro t h;simp[eM] at h;subst h;simp[ij]
 | cons hp hs ih=>
  intro t h;obtain⟨c0,el0,t0,rfl,k1,k2,k3,k4⟩:=gU h;simp only[List.cons_append,ij];congr 1;refine xQ k1 (xQ k3 (ih k4))
theorem LZ{hs:List Hop}{x y:TV}:∀{t:TV},ij (ij t hs y) hs x=ij t hs x:=by
 induction hs with
 | nil=>intro t;rfl
 | cons hp hs ih=>
  obtain⟨a,b,d⟩:=hp;intro t
  cases t with
  | ow c=>
   simp only[ij];congr 1;apply List.ext_getElem?;intro k;simp only[List.getElem?_modify];by_cases hk:a=k
   ·subst hk
    cases c[a]? with
    | none=>rfl
    | some el=>
     simp only[if_true,Option.map_eq_map,oMS];congr 1;apply List.ext_getElem?;intro k;simp only[List.getElem?_modify,Option.map_eq_map];by_cases hk:d=k
     ·subst hk
      cases el[d]? with
      | none=>rfl
      | some t1=>simp[ih]
     ·cases el[k]?<;>simp[hk]
   ·cases c[k]?<;>simp[hk]
  | _=>rfl
theorem Bc{α:Type}(l:List (Nat×α)) (i:Nat) (x y:α):gV (gV l i x) i y=gV l i y:=by
 induction l with
 | nil=>simp[gV]
 | cons h r ih=>
  have ⟨k,v⟩:=h;by_cases hk:k=i
  ·subst hk;simp[gV]
  ·simp[hk,gV,ih]
theorem Hi{w:World}{hs:List Hop}{k sz n cap j:Nat}{ad:Addr}:∀{x:Value},hvT w x hs=some (.slice (some ad) n cap)->k < n->fe w x (hs++[(k,sz,j)])=some ⟨ad.block,ad.off+(k*sz+j),none⟩:=by
 induction hs with
 | nil=>
  intro x h hk;simp only[hvT,oSJ] at h;subst h;simp[fe,hk]
 | cons hp hs ih=>
  intro x h hk;simp only[hvT] at h
  cases x with
  | slice a l c=>
   cases a with
   | none=>cases hs<;>simp[fe] at h
   | some a=>
    obtain⟨hd,tl,Xd⟩:∃hd tl,hs++[(k,sz,j)]=hd :: tl:=by cases hs<;>exact⟨_,_,rfl⟩
    cases hs with
    | nil=>
     simp only[fe] at h;split at h
     ·rename_i hi;simp at h;simp only[List.cons_append,List.nil_append,fe,hi,if_true,h,hk]
     ·simp at h
    | cons hp2 Y6=>
     simp only[fe] at h;split at h
     ·rename_i hi;split at h
      ·rename_i y hy;rw[List.cons_append,Xd];simp only[fe,hi,if_true,hy];rw[<- Xd];exact ih (by simpa [hvT] using h) hk
      ·simp at h
     ·simp at h
  | _=>cases hs<;>simp[fe] at h
section
variable {P:Program} {M:Fm} {σ σ':St} {H:List TV} {xs:List Value} {ts:Array Value} {w:World} {G:Gh} {a:Act} {o:Oper}
def St.sub(σ:St) (p:ek) (l:List TV) (t:TV):St:=⟨σ.tm,gV σ.ce p.root (l.set p.off (ij (σ.c p.root p.off) p.hops t)),σ.vr⟩
theorem Hm{p:ek}{l:List TV}{t:TV}(hl:p.off < l.length):(σ.sub p l t).c p.root p.off=ij (σ.c p.root p.off) p.hops t:=by
 simp[St.c,St.sub,fm];simp[hl]
theorem Ow(hI:Inv M σ [] [] ts w G) {p:ek}{c:List (List TV)}{el:List TV}{b n cap i sz j:Nat}{old v:Value}(Z8:p.root≠1) (ZF:G.hv w p=some (.slice (some ⟨b,0,none⟩) n cap)) (hg:eM (σ.c p.root p.off) p.hops=some (.ow c)) (hin:i < n)
 (hi:c[i]?=some el) (hl:el.length=sz) (hj:el[j]?=some (.v old)) (hv:jl v=true) {l:List TV} (hal:eU σ.ce p.root=some l) (hol:p.off < l.length) :
 ∃G',Inv M (σ.sub p l (.ow (c.modify i λel=>el.modify j λ_=>.v v))) [] [] ts (w.setCell ⟨b,i*sz+j,none⟩ v) G'/\(w.cell? ⟨b,i*sz+j,none⟩).isSome=true/\w.frozen? ⟨b,i*sz+j,none⟩=false/\G'.hv (w.setCell ⟨b,i*sz+j,none⟩ v) p=some (.slice (some ⟨b,0,none⟩) n cap):=by
 obtain⟨G1,Zt⟩:=hI.addHand (t:=.v v) (x:=v) (.v (λ_ h=>h) hv)
 have UK:eM (eS M σ [] p.root p.off) p.hops=some (.ow c):=by rw[eO (by exact Z8)];exact hg
 obtain⟨c1,Wt,_,_⟩:=Zt.2.2.1.hdr p _ c Z8 rfl ZF UK
 obtain⟨hd,tl,Xd⟩:∃hd tl,p.hops++[(i,sz,j)]=hd :: tl:=by cases p.hops<;>exact⟨_,_,rfl⟩
 have Z6:G1.addrB w ⟨p.root,p.off,p.hops++[(i,sz,j)]⟩=some ⟨b,i*sz+j,none⟩:=by
  have:=Hi (sz:=sz) (j:=j) Wt hin;unfold Gh.addrB
  simp_all
 have hgq:=Io hg hi hl hj
 have hgqE:eM (eS M σ [.v v] p.root p.off) (p.hops++[(i,sz,j)])=some (.v old):=by rw[eO (by exact Z8)];exact hgq
 have hrun:(Bi ⟨p.root,p.off,p.hops++[(i,sz,j)]⟩ (.v v)).run σ=some ((),σ.sub p l (.ow (c.modify i λel=>el.modify j λ_=>.v v))):=by
  simp only[Bi,SP.run,hgq,vM,Bool.or_self,Bool.false_eq_true,if_false,hal,hol,if_true];rw[Hx hg];rfl
 obtain⟨⟨u,hu⟩,Xq,G2,ZH,hm,Zl,hβ⟩:=Zt.1.put (p:=⟨p.root,p.off,p.hops++[(i,sz,j)]⟩) (j:=0) Z8 Z6 hgqE (by simp) (by simp) (by simpa using hrun)
 have WV:=ZH.clear (by intro k hk;have:k=0:=by simp at hk;omega
                       simp)
 have hgE1:eM (eS M σ [.v v] p.root p.off) p.hops=some (.ow c):=by rw[eO (by exact Z8)];exact hg
 obtain⟨c2,YC,_,_⟩:=hm.keeps.hdr p _ c Z8 rfl Wt hgE1;exact⟨G2,WV,by simp_all,Xq,YC⟩
theorem zb{c:List (List TV)}{i j i' j':Nat}{x:TV}{el:List TV}{y:TV}(h:c[i']?=some el) (hy:el[j']?=some y) (hne:¬ (i'=i/\j'=j)) :
 ∃Wi,(c.modify i λel=>el.modify j λ_=>x)[i']?=some Wi/\Wi[j']?=some y:=by
 by_cases hi:i=i'
 ·subst hi
  have hj:¬ j=j':=by omega
  simp_all
 ·simp_all
theorem OB{p:ek}{b n cap sz:Nat}(Z8:p.root≠1) (hsz:0 < sz):∀(vals:List Value) (c:List (List TV)) (o:Nat) (σ:St) (w:World) (G:Gh) (l:List TV),vals≠[]->Inv M σ [] [] ts w G->G.hv w p=some (.slice (some ⟨b,0,none⟩) n cap)->eM (σ.c p.root p.off) p.hops=some (.ow c)->n=c.length ->
 (∀el∈c,el.length=sz)->(∀v∈vals,jl v=true)->(∀t,o<=t->t < o+vals.length->∃el y,c[t / sz]?=some el/\el[t % sz]?=some (.v y))->eU σ.ce p.root=some l->p.off < l.length ->
 (∃G',Inv M (σ.sub p l (.ow (qr sz c o vals))) [] [] ts (w.setCells b o vals) G')/\∀j,j < vals.length->(w.cell? ⟨b,o+j,none⟩).isSome=true/\w.frozen? ⟨b,o+j,none⟩=false:=by
 intro vals
 induction vals with
 | nil=>intro c o σ w G l h;exact absurd rfl h
 | cons v vals ih=>
  intro c o σ w G l _ hI ZF hg hn hlen hvf Zy hal hol;obtain⟨el,y,h1,h2⟩:=Zy o (Nat.le_refl _) (by simp);have Y5:el.length=sz:=hlen el (List.mem_of_getElem? h1)
  have hio:o / sz < n:=by rw[hn];exact (oGS h1).1
  have ho:o / sz*sz+o % sz=o:=by rw[Nat.mul_comm];exact Nat.div_add_mod o sz
  obtain⟨G1,hI1,hs1,hf1,Wt⟩:=Ow hI Z8 ZF hg hio h1 Y5 h2 (hvf v (by simp)) hal hol;rw[ho] at hI1 hs1 hf1 Wt
  cases vals with
  | nil=>
   refine⟨⟨G1,hI1⟩,λj hj=>?_⟩
   obtain rfl:j=0:=by simp at hj;omega
   exact⟨hs1,hf1⟩
  | cons v2 vals=>
   obtain⟨c1,ZW⟩:∃c1,c1=c.modify (o / sz) λel=>el.modify (o % sz) λ_=>.v v:=⟨_,rfl⟩;rw[<- ZW] at hI1;obtain⟨l1,Xt⟩:∃l1,l1=l.set p.off (ij (σ.c p.root p.off) p.hops (.ow c1)):=⟨_,rfl⟩;have hsc:(σ.sub p l (.ow c1)).c p.root p.off=ij (σ.c p.root p.off) p.hops (.ow c1):=Hm hol
   obtain⟨⟨G2,ZH⟩,ZO⟩:=ih c1 (o+1) (σ.sub p l (.ow c1)) _ G1 l1 (by simp) hI1 Wt (by rw[hsc];exact B4 hg) (by rw[hn,ZW];simp) (λWi UH=>by
    have hml:=pW c (o / sz) (o % sz) (λ_=>.v v);have:Wi.length∈c1.map List.length:=List.mem_map_of_mem UH;rw[ZW,hml] at this;obtain⟨e3,e4,e5⟩:=List.mem_map.1 this
    rw[<- e5];exact hlen e3 e4) (λx hx=>hvf x (by simp only[List.mem_cons] at hx ⊢;exact .inr hx)) (λt X3 YZ=>by
    obtain⟨Wi,y',q1,q2⟩:=Zy t (by omega) (by simp at YZ ⊢;omega)
    obtain⟨el2,q3,q4⟩:=zb (x:=.v v) q1 q2 (i:=o / sz) (j:=o % sz) (by
     rintro⟨e1,e2⟩;have h3:=Nat.div_add_mod t sz;have h4:=Nat.div_add_mod o sz;rw[e1,e2] at h3
     omega)
    exact⟨el2,y',by rw[ZW];exact q3,q4⟩) (by simp[St.sub,fm,Xt]) (by rw[Xt];simpa using hol)
   refine⟨⟨G2,?_⟩,λj hj=>?_⟩
   ·have e:(σ.sub p l (.ow c1)).sub p l1 (.ow (qr sz c1 (o+1) (v2 :: vals)))=σ.sub p l (.ow (qr sz c o (v :: v2 :: vals))):=by
     unfold St.sub;have hsc':(St.c ⟨σ.tm,gV σ.ce p.root (l.set p.off (ij (σ.c p.root p.off) p.hops (.ow c1))),σ.vr⟩ p.root p.off)=ij (σ.c p.root p.off) p.hops (.ow c1):=hsc;rw[hsc',LZ,Bc,Xt,List.set_set];simp only[qr,<- ZW]
    rw[e] at ZH;exact ZH
   ·cases j with
    | zero=>exact⟨hs1,hf1⟩
    | succ j=>
     have:=ZO j (by simpa using hj);rw[show o+1+j=o+(j+1) by omega,World.frozen?_setCell] at this;refine⟨?_,this.2⟩
     have hne:(⟨b,o,none⟩:Addr)≠⟨b,o+(j+1),none⟩:=λe=>by have:=congrArg Addr.off e;simp at this
     rw[World.cell?_setCell_other w _ _ _ hne] at this;exact this.1
theorem GO:∀{l:List TV}{vs:List Value},fa l=some vs->vs.length=l.length/\∀j (h:j < l.length) (h':j < vs.length),l[j]=.v vs[j]:=by
 intro l
 induction l with
 | nil=>intro vs h;simp[fa] at h;subst h;exact⟨rfl,λj h=>by simp at h⟩
 | cons t l ih=>
  intro vs h
  cases t with
  | v x=>
   simp[fa] at h
   cases hl:fa l with
   | none=>simp_all
   | some r=>
    simp[hl] at h;subst h;have ⟨e1,e2⟩:=ih hl;refine⟨by simp[e1],λj hj ZR=>?_⟩
    cases j with
    | zero=>rfl
    | succ j=>simp_all
  | _=>simp[fa] at h
theorem E1{c:List (List TV)}{sz m:Nat}(hs:∀i (h:i < c.length),c[i].length=sz) (hm:m<=c.length):(c.take m).flatten.length=m*sz:=by
 rw[AK (sz:=sz) λi h=>by simp_all];simp[hm]
theorem wX{F fp:Nat->Prop}{t:TV}{v x:Value}{c c2:List (List TV)}{sz lo n cap:Nat}{ad:Option Addr}(h:jf w F fp t v) (ht:t=.ow c\/t=.sl c) (hs:∀i (h:i < c.length),c[i].length=sz) (ZT:0 < sz) (ZO:c2=(c.drop lo).take n) (hln:lo+n<=c.length)
 (hx:x=.slice ad n cap) (Zc:0 < n->∃b o len ZV,v=.slice (some ⟨b,o,none⟩) len ZV/\ad=some ⟨b,o+lo*sz,none⟩) (hnone:ad=none->n=0) {m:Nat} {vs:List Value} (hm:m<=c2.length) (hf:fa (c2.take m).flatten=some vs):(Builtin.firstCells sz m x).run P w=.ok vs.toArray w:=by
 subst hx
 have hc2l:c2.length=n:=by rw[ZO];simp;omega
 have Y6:∀i (h:i < c2.length),c2[i].length=sz:=λi h=>by
  subst ZO;simp only[List.getElem_take,List.getElem_drop];exact hs _ (by simp at h;omega)
 obtain⟨e1,e2⟩:=GO hf;have Zy:=E1 Y6 hm
 cases ad with
 | none=>
  have hn:=hnone rfl
  have Uk:m=0:=by omega
  subst Uk;have:vs=[]:=oEN (by rw[e1,Zy];omega);subst this;rfl
 | some ad=>
  show (loadCells ad (m*sz)).run P w=_;obtain⟨a,capX,vals,f,rfl,YV,ZN,hrec,_⟩:=h.rows ht hs
  have UV:vs.length=m*sz:=by rw[e1,Zy]
  have:=run_loadCells_list (P:=P) w ad vs λj y hj=>by
   have hjl:j < vs.length:=by
    rcases Nat.lt_or_ge j vs.length with h | h
    ·exact h
    ·rw[oGN h] at hj;simp at hj
   have hjm:j < m*sz:=by omega
   have hq:j / sz < m:=(Nat.div_lt_iff_lt_mul ZT).2 hjm;have hr:j % sz < sz:=Nat.mod_lt _ ZT
   have hqc:j / sz < c2.length:=by omega
   have XQ:lo+j / sz < c.length:=by omega
   have XU:j % sz < (c[lo+j / sz]).length:=by rw[hs _ XQ];exact hr
   have Y9:(lo+j / sz)*sz+j % sz=lo*sz+j:=by
    rw[Nat.add_mul];have:=Nat.div_add_mod j sz;rw[Nat.mul_comm] at this;omega
   have hown:=hrec (lo+j / sz) (j % sz) XQ XU;rw[Y9] at hown
   have Y5:c[lo+j / sz][j % sz]=.v y:=by
    have h1:=e2 j (by rw[Zy];exact hjm) hjl;have h2:=uX (c:=c2.take m) (sz:=sz) (λi h=>by simpa using Y6 i (by simp at h;omega)) (i:=j / sz) (j:=j % sz) (by simp;omega) (by rw[List.getElem_take,Y6 _ hqc];exact hr);rw[show j / sz*sz+j % sz=j by rw[Nat.mul_comm];exact Nat.div_add_mod j sz,oGE (by rw[Zy];exact hjm),h1] at h2
    injection h2 with h2
    have h3:(c2.take m)[j / sz]'(by simp;omega)=c[lo+j / sz]:=by
     subst ZO;simp
    have hy:vs[j]=y:=by simpa [hjl] using hj
    rw[<- hy,h2];simp only[h3]
   rw[Y5] at hown
   have WS:vals.getD (lo*sz+j) undef=y:=by
    cases hown with
    | v hfp Zy=>rfl
   have hlt:lo*sz+j < vals.length:=by
    rw[YV]
    have:(lo+j / sz)*sz+sz<=c.length*sz:=by
     have:(lo+j / sz+1)*sz<=c.length*sz:=Nat.mul_le_mul_right _ XQ;rw[Nat.add_mul,Nat.one_mul] at this;exact this
    omega
   obtain⟨b,o,Wa,Zd⟩:=ZN (lo*sz+j) y (by rw[oGE hlt];rw[oGD,oGE hlt] at WS;simpa using WS);obtain⟨b',o',len,ZV,Y7,UA⟩:=Zc (by rw[<- hc2l];exact Nat.lt_of_le_of_lt (Nat.zero_le _) hqc)
   injection Y7 with Y7 _ _
   rw[Y7] at Wa
   injection Wa with Wa
   injection Wa with hb ho _
   subst hb;subst ho
   injection UA with UA
   rw[UA,gz,show o'+lo*sz+j=o'+(lo*sz+j) by omega];exact Zd
  rw[UV] at this;exact this
theorem KY(hI:Inv M σ [] [] ts w G) {u:TV}{v:Value}(hu:TmR w (G.F M.A) σ.v (eS M σ []) G u v) {c2:List (List TV)}(hr:(contentOf u).run σ=some (c2,σ')):σ'=σ/\∀sz,0 < sz->(∀i (h:i < c2.length),c2[i].length=sz) ->
 ∃ad cap,v=.slice ad c2.length cap/\∀m vs,m<=c2.length->fa (c2.take m).flatten=some vs->(Builtin.firstCells sz m v).run P w=.ok vs.toArray w:=by
 cases u with
 | sl c=>
  simp only[contentOf,SP.run,oSJ,oPJ] at hr;obtain⟨rfl,rfl⟩:=hr;refine⟨rfl,λsz ZT hs=>?_⟩
  cases hu with
  | sl h=>
   have hown:jf w (G.F M.A) (λ_=>False) (.sl c) v:=.sl (λ_ h=>h) h;obtain⟨ad,cap,hv,_⟩:=h.hdr;refine⟨ad,cap,hv,λm vs hm hf=>wX (lo:=0) (n:=c.length) hown (.inr rfl) hs ZT (by simp) (by simp) hv (λhn=>?_) (λhe=>?_) hm hf⟩
   ·cases h with
    | @sl _ a cap sz' u hsz hcap hmax hnil hcell hrec=>
     have e:sz'=sz:=by rw[<- hsz 0 hn,hs 0 hn]
     subst e;obtain⟨b,o,ha,_,_⟩:=hcell 0 0 hn ZT
     injection hv with hv _ _
     exact⟨b,o,_,_,by rw[ha],by rw[<- hv,ha];simp⟩
   ·cases h with
    | @sl _ a cap sz' u hsz hcap hmax hnil hcell hrec=>
     injection hv with hv _ _
     rw[hv] at hnil;have:=hnil he;omega
 | ow c=>
  cases hu with
  | @nil ad=>
   obtain⟨rfl,rfl⟩:=hr;refine⟨rfl,λsz ZT hs=>⟨ad,0,rfl,λm vs hm hf=>?_⟩⟩
   have Uk:m=0:=by simpa using hm
   subst Uk;simp only[List.take_zero,List.flatten_nil,fa,oSJ] at hf;subst hf;cases ad<;>simp[Builtin.firstCells,loadCells,loadCellsFrom]
 | pk p vs=>
  simp only[contentOf] at hr;obtain⟨_,σ1,h1,h2⟩:=dK hr;have e1:σ1=σ:=(eF h1).1;have e2:=(eF h1).2;subst e1;obtain⟨tt,σ2,h3,h4⟩:=dK h2;obtain⟨e3,hg⟩:=gy h3;have e3:σ2=σ1:=e3;subst e3
  cases hu with
  | pk V0 h0 hv h=>
   obtain⟨Z8,c,ZF,ZJ⟩:=h e2
   have Zu:eM (σ2.c p.root p.off) p.hops=some (.ow c):=by rw[eO (by exact Z8)] at ZJ;exact ZJ
   rw[Zu] at hg
   injection hg with hg
   subst hg;simp only[SP.run,oSJ,oPJ] at h4;obtain⟨rfl,rfl⟩:=h4;refine⟨rfl,λsz ZT hs=>?_⟩;obtain⟨fp,hown⟩:=xO hI ZF ZJ;obtain⟨ad,cap,Y7,_⟩:=hown.hdr;refine⟨ad,cap,Y7,λm vs hm hf=>wX (lo:=0) (n:=c.length) hown (.inl rfl) hs ZT (by simp) (by simp) Y7 (λhn=>?_) (λhe=>?_) hm hf⟩
   ·cases hown with
    | nil=>simp at hn
    | @ow _ _ b cap cur e' sz' u f hfp hb hsz hcap hz0 hmax hcur hcell hrec hnb hdis=>
     injection Y7 with Y7 _ _
     exact⟨b,0,_,_,rfl,by rw[<- Y7];simp⟩
   ·cases hown with
    | nil=>rfl
    | @ow _ _ b cap cur e' sz' u f hfp hb hsz hcap hz0 hmax hcur hcell hrec hnb hdis=>
     injection Y7 with Y7 _ _
     rw[he] at Y7;simp at Y7
 | pw p vs YW lo n=>
  simp only[contentOf] at hr;obtain⟨_,σ1,h1,h2⟩:=dK hr;have e1:σ1=σ:=(eF h1).1;have e2:=(eF h1).2;subst e1;obtain⟨tt,σ2,h3,h4⟩:=dK h2;obtain⟨e3,hg⟩:=gy h3;have e3:σ2=σ1:=e3;subst e3
  cases hu with
  | pw V0 h0 hv h=>
   obtain⟨Z8,c,hd,ZF,ZJ,hln,a,cap,hx,Xg,XF,hnil,Xy,Zc⟩:=h e2
   have Zu:eM (σ2.c p.root p.off) p.hops=some (.ow c):=by rw[eO (by exact Z8)] at ZJ;exact ZJ
   rw[Zu] at hg
   injection hg with hg
   subst hg;simp only[SP.run,oSJ,oPJ] at h4;obtain⟨rfl,rfl⟩:=h4;refine⟨rfl,λsz ZT hs=>?_⟩
   have X7:((c.drop lo).take n).length=n:=by simp;omega
   obtain⟨fp,hown⟩:=xO hI ZF ZJ;by_cases hn:n=0
   ·subst hn;refine⟨a,cap,by rw[X7];exact hx,λm vs hm hf=>?_⟩
    have Uk:m=0:=by omega
    subst Uk;simp only[List.take_zero,List.flatten_nil,fa,oSJ] at hf;subst hf;rw[hx]
    cases a with
    | none=>rfl
    | some a=>simp[Builtin.firstCells,loadCells,loadCellsFrom]
   ·have hsz0:YW=sz:=by
     rw[<- hs 0 (by omega)];simp only[List.getElem_take,List.getElem_drop];exact (Xy _ (by omega)).symm
    subst hsz0;refine⟨a,cap,by rw[X7];exact hx,λm vs hm hf=>wX (lo:=lo) (n:=n) hown (.inl rfl) Xy ZT rfl hln hx (λhn=>?_) (λhe=>?_) hm hf⟩
    ·obtain⟨b,len,ZV,q1,q2⟩:=Zc hn;exact⟨b,0,len,ZV,q1,by rw[q2];simp⟩
    ·obtain⟨b,len,ZV,q1,q2⟩:=Zc (by omega);rw[he] at q2;simp at q2
 | _=>simp[contentOf,SP.run] at hr
theorem vn{t t' ty e:TypeId}{sz:Nat}(hu:P.underlying t=some (.slice e)) (hs:(P.info? e).map (·.size)=some sz) {v:Value}{W7:Option Addr}{n2 Wh:Nat}(hv:v=.slice W7 n2 Wh) {ad:Option Addr}{n cap:Nat}{vs:List Value}(hf:(Builtin.firstCells sz (min n2 n) v).run P w=.ok vs.toArray w)
 {w':World} (hst:match ad with | some a=>(storeCells a vs).run P w=.ok () w' | none=>w'=w) :
 (Builtin.copy_ #[t,t'] ty #[.slice ad n cap,v]).run P w=.ok (goInt ((min n2 n:Nat):Int)) w':=by
 subst hv
 cases hq:P.info? e with
 | none=>simp_all
 | some i=>
  have hi:i.size=sz:=by simp_all
  have UO:Nat.min n2 n=min n2 n:=rfl
  cases ad with
  | none=>
   subst hst;simp[Builtin.copy_,run_underlying hu,Builtin.lenOf,sizeOf,typeInfo,hq,hi,UO,hf]
  | some a=>
   simp[Builtin.copy_,run_underlying hu,Builtin.lenOf,sizeOf,typeInfo,hq,hi,hf,hst]
theorem Qi(hI:Inv M σ [] [] a.tmps w G) {d:Nat}(hd:o.dst=some d) (hN:d < M.N) {x y:Opd}{x' y':Operand}{t t' e sz:TypeId}(hx:dV x'=some x) (hy:dV y'=some y) (ho:o.op=.call { callee:=.builtin .copy,args:=#[x',y'],argTypes:=#[t,t'] })
 (hu:P.underlying t=some (.slice e)) (hs:(P.info? e).map (·.size)=some sz) (hr:(ev1 d (.cpy sz x y)).run σ=some ((),σ')):od P M σ' a o w:=by
 simp only[ev1] at hr;obtain⟨tx,σ1,h1,h2⟩:=dK hr;obtain⟨rfl,Z2⟩:=fB hI.tmr hx h1;obtain⟨ty,σ2,h3,h4⟩:=dK h2;obtain⟨rfl,XI⟩:=fB hI.tmr hy h3;obtain⟨c2,σ3,h5,h6⟩:=dK h4;obtain⟨rfl,Vb⟩:=KY hI XI h5
 have YG:∀r w',(Builtin.copy_ #[t,t'] o.type #[a.eval x',a.eval y']).run P w=.ok r w'->(execOp a.eval o).run P w=.ok (.value r) w':=by
  intro r w' h;simp[execOp,ho,resolve,invoke,builtin,h]
 have ZY:∀(p:ek) (c:List (List TV)) (lo n:Nat) (vd Uf:Value) (ad:Option Addr) (cap:Nat),p.root≠1->G.hv w p=some Uf->eM (σ3.c p.root p.off) p.hops=some (.ow c)->a.eval x'=vd->vd=.slice ad n cap->lo+n<=c.length ->
  (∀b0 len ZV,Uf=.slice (some ⟨b0,0,none⟩) len ZV->True)->(0 < n->∃b len ZV,Uf=.slice (some ⟨b,0,none⟩) len ZV/\len=c.length/\ad=some ⟨b,lo*sz,none⟩)->(EF d p (σ3.c p.root p.off) (Pc sz c c2 lo n)).run σ3=some ((),σ')->od P M σ' a o w:=by
  intro p c lo n vd Uf ad cap Z8 ZF hg hvd hvs hln _ hbase hrun;unfold Pc at hrun;split at hrun
  ·rename_i Zy;split at hrun
   case isFalse=>simp[EF,SP.run] at hrun
   rename_i YB;simp only[oBA,oDE,List.all_eq_true,beq_iff_eq] at YB;obtain⟨W7,Wh,WR,Xp⟩:=Vb sz YB.1 λi h=>YB.2 _ (List.getElem_mem h);have hf:=Xp (min c2.length n) [] (Nat.min_le_left _ _) Zy;have Ud:=vn (t':=t') (ty:=o.type) (ad:=ad) (n:=n) (cap:=cap) (w':=w) hu hs WR hf (by cases ad<;>rfl);simp only[EF] at hrun;refine iN hI hd hN (.v rfl) hrun (YG _ _ ?_);rw[hvd,hvs];exact Ud
  ·rename_i v vs Zy;split at hrun
   case isFalse=>simp[EF,SP.run] at hrun
   rename_i YB;simp only[oBA,oDE,List.all_eq_true,beq_iff_eq] at YB;obtain⟨⟨⟨⟨⟨k1,k2⟩,k3⟩,k4⟩,k5⟩,k6⟩:=YB;have XX:∀i (h:i < c2.length),c2[i].length=sz:=λi h=>k3 _ (List.getElem_mem h);obtain⟨W7,Wh,WR,Xp⟩:=Vb sz k1 XX;have hf:=Xp (min c2.length n) (v :: vs) (Nat.min_le_left _ _) Zy
   have YV:(v :: vs).length=min c2.length n*sz:=by rw[(GO Zy).1,E1 XX (Nat.min_le_left _ _)]
   have X9:0 < n:=by
    rcases Nat.eq_zero_or_pos n with h | h
    ·subst h;simp at YV
    ·exact h
   obtain⟨b,len,ZV,hhd,hlen,Zc⟩:=hbase X9;subst hlen;rw[hhd] at ZF;simp only[EF] at hrun;obtain⟨l,hl,hol,h7⟩:=eQ hrun;have hmn:min c2.length n<=n:=Nat.min_le_right _ _
   obtain⟨⟨G1,hI1⟩,hcell⟩:=OB Z8 k1 (v :: vs) c (lo*sz) σ3 w G l (by simp) hI ZF hg rfl (λel Y5=>k2 el Y5) k6 (λt X3 YZ=>by
    rw[YV] at YZ;have UT:lo<=t / sz:=(Nat.le_div_iff_mul_le k1).2 X3;have Yw:t / sz < lo+min c2.length n:=(Nat.div_lt_iff_lt_mul k1).2 (by rw[Nat.add_mul];exact YZ);have Yj:t % sz < sz:=Nat.mod_lt _ k1;have hic:t / sz < c.length:=Nat.lt_of_lt_of_le Yw k4
    have Zv:c[t / sz]∈(c.drop lo).take (min c2.length n):=by
     obtain⟨q,hq⟩:∃q,t / sz=lo+q:=⟨t / sz - lo,by rw[Nat.add_sub_cancel' UT]⟩;simp only[hq];rw[hq] at Yw;refine List.mem_of_getElem? (i:=q) ?_;rw[List.getElem?_take,oIP (Nat.lt_of_add_lt_add_left Yw),List.getElem?_drop];exact oGE _
    have hlt:t % sz < c[t / sz].length:=by rw[k2 _ (List.getElem_mem hic)];exact Yj
    have hisv:=k5 _ Zv _ (List.getElem_mem hlt);refine⟨c[t / sz],?_⟩
    cases hcv:c[t / sz][t % sz] with
    | v y=>exact⟨y,oGE hic,by rw[oGE hlt,hcv]⟩
    | _=>rw[hcv] at hisv;simp[isV] at hisv) hl hol
   have hst:=run_storeCells_cells (P:=P) b (lo*sz) (v :: vs) 0 w (λj hj=>by simpa using (hcell j hj).1) (λj hj=>by simpa using (hcell j hj).2) (λu hu=>vf (k6 u hu));have Ud:=vn (t':=t') (ty:=o.type) (ad:=ad) (n:=n) (cap:=cap) (w':=w.setCells b (lo*sz) (v :: vs)) hu hs WR hf (by rw[Zc];simpa using hst);have hrn:=YG _ _ (by rw[hvd,hvs];exact Ud);simp only[wr,SP.run,oSJ,oPJ,true_and] at h7;have e9:σ'={ σ3.sub p l (.ow (qr sz c (lo*sz) (v :: vs))) with tm:=gV (σ3.sub p l (.ow (qr sz c (lo*sz) (v :: vs)))).tm d (.v (.int .i64 ((min c2.length n:Nat):Int))) }:=h7.symm;rw[e9];refine⟨_,_,_,G1,hrn,.inl rfl,?_⟩;rw[hd];exact hI1.wrT hN (.v rfl)
  ·simp[EF,SP.run] at hrun
 cases tx with
 | pk p vs=>
  simp only at h6;obtain⟨_,σ4,h7,h8⟩:=dK h6;have e1:σ4=σ3:=(eF h7).1;have e2:=(eF h7).2;subst e1;simp only[SP.run] at h8;generalize hz:a.eval x'=z at Z2
  cases Z2 with
  | pk V0 h0 hv h=>
   obtain⟨Z8,c,ZF,ZJ⟩:=h e2
   have Zu:eM (σ4.c p.root p.off) p.hops=some (.ow c):=by rw[eO (by exact Z8)] at ZJ;exact ZJ
   rw[Zu] at h8;simp only at h8;obtain⟨fp,hown⟩:=xO hI ZF ZJ;obtain⟨ad,cap,Wg,_⟩:=hown.hdr;refine ZY p c 0 c.length z z ad cap Z8 ZF Zu hz Wg (by simp) (λ_ _ _ _=>trivial) (λhn=>?_) h8
   cases hown with
   | nil=>simp at hn
   | @ow _ _ b cap0 cur e' sz' u f hfp hb hsz hcap hz0 hmax hcur hcell hrec hnb hdis=>
    injection Wg with Wg _ _
    exact⟨b,_,_,rfl,rfl,by rw[<- Wg];simp⟩
 | pw p vs sz' lo n=>
  simp only at h6;obtain⟨_,σ4,h7,h8⟩:=dK h6;have e1:σ4=σ3:=(eF h7).1;have e2:=(eF h7).2;subst e1;simp only[SP.run] at h8;generalize hz:a.eval x'=z at Z2
  cases Z2 with
  | pw V0 h0 hv h=>
   obtain⟨Z8,c,Yy,ZF,ZJ,hln,ad,cap,hxv,Xg,XF,hnil,Xy,Zc⟩:=h e2
   have Zu:eM (σ4.c p.root p.off) p.hops=some (.ow c):=by rw[eO (by exact Z8)] at ZJ;exact ZJ
   rw[Zu] at h8;simp only at h8;split at h8
   case isFalse=>simp[SP.run] at h8
   rename_i WA;subst WA;obtain⟨fp,hown⟩:=xO hI ZF ZJ;refine ZY p c lo n z Yy ad cap Z8 ZF Zu hz hxv hln (λ_ _ _ _=>trivial) (λhn=>?_) h8;obtain⟨b,len,ZV,q1,q2⟩:=Zc hn;obtain⟨ad3,cap3,q3,_⟩:=hown.hdr;rw[q1] at q3
   injection q3 with _ q3 _
   exact⟨b,len,ZV,q1,q3,q2⟩
 | _=>simp[SP.run] at h6
end
def Cl(P:Program) (t:TypeId):Option Nat:=(P.info? t).map (·.size)
def Pv(P:Program) (t:TypeId):Option (List Value):=(P.info? t).bind (·.zero.map (·.cells.toList))
def Fs(P:Program) (t:TypeId):Option (Option Nat):=
 match P.underlying t with
 | some (.struct _)=>(Cl P t).map some
 | some (.array _ _)=>(Cl P t).map some
 | some _=>some none
 | none=>none
def Fl:Option Operand->Option (Option Opd)
 | none=>some none
 | some x=>(dV x).map some
def sL{α β:Type}(f:α->Option β):List α->Option (List β)
 | []=>some []
 | x :: r=>match f x,sL f r with | some y,some l=>some (y :: l) | _,_=>none
def vQ(b:Bool):Option Unit:=if b then some () else none
def SE(mv n:Nat) (x:Opd):TOp:=if mv=3 then .boxi n x else .box n (mv==1) x
def iq(P:Program) (mv:Nat):Op->Option TOp
 | .move x=>match x with
  | .const (.agg cs)=>some (.asn true (.c (.agg cs)))
  | x=>(dV x).map .mov
 | .assign x=>if mv=2 then (dV x).map .mov else (dV x).map (.asn (mv==1))
 | .pick c a b=>do some (.pick (<- dV c) (<- dV a) (<- dV b))
 | .alloc e=>(Pv P e).map .alloc
 | .box e x=>do some (SE mv (<- Cl P e) (<- dV x))
 | .load t a=>do some (.load (<- Fs P t) (<- dV a))
 | .store t a x=>do
  let n <- Cl P t
  vQ (decide (0 < n))
  some (.store n (mv==1) (<- dV a) (<- dV x))
 | .nilCheck x=>(dV x).map .nilc
 | .binOp op t x y _=>
  match P.underlying t with
  | some .bool=>match op with
   | .eql=>do some (.bnb false (<- dV x) (<- dV y))
   | .neq=>do some (.bnb true (<- dV x) (<- dV y))
   | _=>none
  | some (.int _)=>do some (.bin op (<- dV x) (<- dV y))
  | some .string=>do some (.bin op (<- dV x) (<- dV y))
  | some (.struct _)=>
   if P.eqGuardType P.depth t then none
   else match ur P 50 t with
    | some ks=>match op with
     | .eql=>do some (.eqa ks false (<- dV x) (<- dV y))
     | .neq=>do some (.eqa ks true (<- dV x) (<- dV y))
     | _=>none
    | none=>none
  | _=>none
 | .unOp op _ x=>(dV x).map (.un op)
 | .convert s d x=>
  match P.underlying s,P.underlying d with
  | some (.int _),some (.int k)=>(dV x).map (.conv k)
  | some .string,some (.slice e)=>match P.underlying e with
   | some (.int .u8)=>(dV x).map .s2b
   | _=>none
  | some (.slice e),some .string=>match P.underlying e with
   | some (.int .u8)=>(dV x).map .b2s
   | _=>none
  | _,_=>none
 | .fieldAddr s x f=>
  match P.underlying s with
  | some (.struct fs)=>match fs[f]? with
   | some fd=>match Cl P fd.type with
    | some (_+1)=>(dV x).map (.fld fd.offset)
    | _=>none
   | none=>none
  | _=>none
 | .field s x f=>
  match P.underlying s with
  | some (.struct fs)=>match fs[f]? with
   | some fd=>do some (.fldv fd.offset (<- Fs P fd.type) (<- dV x))
   | none=>none
  | _=>none
 | .indexAddr t x i=>
  match P.underlying t with
  | some (.slice e)=>do some (.idx (<- Cl P e) (<- dV x) (<- dV i))
  | some (.array n e)=>do some (.idxa n (<- Cl P e) (<- dV x) (<- dV i))
  | _=>none
 | .index t x i=>
  match P.underlying t with
  | some .string=>do some (.ixs (<- dV x) (<- dV i))
  | _=>none
 | .extract x i=>(dV x).map λx=>.ext x i
 | .makeSlice t l c=>
  match P.underlying t with
  | some (.slice e)=>match P.info? e with
   | some i=>match i.zero with
    | some z=>do
     vQ (decide (i.bytes<=16777216*i.size) && decide (0 < i.size))
     some (.mks i.size z.cells.toList (<- dV l) (<- dV c))
    | none=>none
   | none=>none
  | _=>none
 | .slice t x lo hi mx=>
  match mx with
  | some m=>match hi,P.underlying t with
   | some h,some (.slice e)=>do
    vQ (Lf lo && zG h && zG m)
    let _ <- Cl P e
    some (.emp (<- dV x))
   | _,_=>none
  | none=>match P.underlying t with
   | some (.slice e)=>do some (.slc (<- Cl P e) (<- dV x) (<- Fl lo) (<- Fl hi))
   | _=>none
 | .makeFunc fn first caps=>
  match fn with
  | .func f=>do
   vQ (first.size==0)
   some (.mkf f (<- sL dV caps.toList))
  | _=>none
 | .buildSlice t len parts=>
  match P.underlying t with
  | some (.slice e)=>match P.info? e with
   | some i=>do
    vQ ((i.zero.isSome || len*i.size==0) && decide (len*i.size<=16777216) && decide (len<=16777216) && parts.toList.map (·.1)==List.range len)
    some (.bsl i.size (mv==1) len (<- sL (λp=>dV p.2) parts.toList))
   | none=>none
  | _=>none
 | .build t parts=>
  match P.underlying t,Pv P t with
  | some (.struct fs),some z=>do
   vQ (fs.toList.all λf=>(Cl P f.type).isSome)
   let ps <- sL (λp=>match fs[p.1]? with
    | some f=>match Cl P f.type,dV p.2 with
     | some n,some x=>if f.offset+n<=z.length then some (f.offset,n,x) else none
     | _,_=>none
    | none=>none) parts.toList
   some (.bld z (mv==1) ps)
  | some (.array _ e),some z=>match Cl P e with
   | some sz=>do
    let ps <- sL (λp=>match dV p.2 with
     | some x=>if p.1*sz+sz<=z.length then some (p.1*sz,sz,x) else none
     | none=>none) parts.toList
    some (.bld z (mv==1) ps)
   | none=>none
  | _,_=>none
 | .call c=>
  match c with
  | { callee:=.builtin .append,args,argTypes }=>match args.toList,argTypes.toList with
   | [s,x],[t,t']=>if t=t' then
    match P.underlying t with
    | some (.slice e)=>match P.info? e with
     | some i=>match i.zero with
      | some z=>do
       vQ (z.cells.size==i.size && decide (0 < i.size))
       some (.app i.size i.bytes (mv==1) (z.cells.all jl) (<- dV s) (<- dV x))
      | none=>none
     | none=>none
    | _=>none
    else none
   | _,_=>none
  | { callee:=.builtin .copy,args,argTypes }=>match args.toList,argTypes.toList with
   | [x,y],[t,_]=>match P.underlying t with
    | some (.slice e)=>do some (.cpy (<- Cl P e) (<- dV x) (<- dV y))
    | _=>none
   | _,_=>none
  | { callee:=.builtin .min,args,argTypes:=_ }=>(sL dV args.toList).map (.mm false)
  | { callee:=.builtin .max,args,argTypes:=_ }=>(sL dV args.toList).map (.mm true)
  | { callee:=.builtin .len,args,argTypes }=>match args.toList,argTypes.toList with
   | [x],[t]=>match P.underlying t with
    | some (.slice _)=>(dV x).map .len
    | some .string=>(dV x).map .lens
    | _=>none
   | _,_=>none
  | _=>none
 | _=>none
theorem Ad{P:Program}{t:TypeId}{n:Option Nat}(h:Fs P t=some n):JT P t n:=by
 unfold Fs at h;split at h
 ·rename_i f hu
  cases hs:Cl P t with
  | none=>simp_all
  | some k=>simp[hs] at h;subst h;exact⟨⟨_,hu,.inl ⟨_,rfl⟩⟩,hs⟩
 ·rename_i n e hu
  cases hs:Cl P t with
  | none=>simp_all
  | some k=>simp[hs] at h;subst h;exact⟨⟨_,hu,.inr ⟨_,_,rfl⟩⟩,hs⟩
 ·rename_i d YP hd2 hu
  injection h with h
  subst h;exact⟨d,hu,λf e=>YP f (by rw[<- e]),λn e' e=>hd2 n e' (by rw[<- e])⟩
 ·simp at h
theorem Fk{x:Option Operand}{y:Option Opd}(h:Fl x=some y):x.map dV=y.map some:=by
 cases x with
 | none=>simp[Fl] at h;subst h;rfl
 | some x=>
  simp[Fl] at h
  cases hc:dV x with
  | none=>simp_all
  | some z=>simp[hc] at h;subst h;simp[hc]
theorem qt{α β:Type}{f:α->Option β}:∀{l:List α}{r:List β},sL f l=some r->l.map f=r.map some:=by
 intro l
 induction l with
 | nil=>intro r h;simp[sL] at h;subst h;rfl
 | cons x l ih=>
  intro r h;simp[sL] at h
  cases hx:f x with
  | none=>simp_all
  | some y=>
   cases hl:sL f l with
   | none=>simp_all
   | some q=>simp[hx,hl] at h;subst h;simp[hx,ih hl]
theorem oH{b:Bool}{u:Unit}(h:vQ b=some u):b=true:=by
 unfold vQ at h
 simp_all
theorem dZ{α β:Type}{x:Option α}{f:α->Option β}{y:β}(h:(x >>= f)=some y):∃a,x=some a/\f a=some y:=by
 cases x with
 | none=>simp_all
 | some a=>simp_all
theorem jm{α β:Type}{x:Option α}{f:α->β}{y:β}(h:x.map f=some y):∃a,x=some a/\f a=y:=by
 simp_all
section
variable {P:Program} {M:Fm} {σ σ':St} {ts:Array Value} {w:World} {G:Gh} {a:Act} {o:Oper}
theorem P8(hI:Inv M σ [] [] a.tmps w G) {d:Nat}(hd:o.dst=some d) (hN:d < M.N) (YE:M.pr (2*d+2)=none) {mv:Nat}{t:TOp}(hc:iq P mv o.op=some t) (hr:(ev1 d t).run σ=some ((),σ')) (hns:¬ ∃ty x y,o.op=.store ty x y):od P M σ' a o w:=by
 cases ho:o.op with
 | move x=>
  rw[ho] at hc;simp only[iq] at hc;split at hc
  ·injection hc with hc
   subst hc;exact LS hI hd hN rfl (.inr ho) hr
  ·obtain⟨y,hy,rfl⟩:=jm hc;exact LF hI hd hN hy (.inl ho) hr
 | assign x=>
  rw[ho] at hc;simp only[iq] at hc;split at hc
  ·obtain⟨y,hy,rfl⟩:=jm hc;exact LF hI hd hN hy (.inr ho) hr
  ·obtain⟨y,hy,rfl⟩:=jm hc;exact LS hI hd hN hy (.inl ho) hr
 | pick c x y=>
  rw[ho] at hc;simp only[iq] at hc;obtain⟨c1,h1,hc⟩:=dZ hc;obtain⟨x1,h2,hc⟩:=dZ hc;obtain⟨y1,h3,hc⟩:=dZ hc
  injection hc with hc
  subst hc;exact N9 hI hd hN h1 h2 h3 ho hr
 | alloc e=>
  rw[ho] at hc;obtain⟨z,hz,rfl⟩:=jm hc;exact LT hI hd hN YE ho hz hr
 | box e x=>
  rw[ho] at hc;simp only[iq] at hc;obtain⟨n,h1,hc⟩:=dZ hc;obtain⟨y,h2,hc⟩:=dZ hc
  injection hc with hc
  subst hc;unfold SE at hr;split at hr
  ·exact Og hI hd hN h2 ho hr
  ·exact Qk hI hd hN YE h2 ho hr
 | load t' x=>
  rw[ho] at hc;simp only[iq] at hc;obtain⟨n,h1,hc⟩:=dZ hc;obtain⟨y,h2,hc⟩:=dZ hc
  injection hc with hc
  subst hc;exact Ob hI hd hN h2 ho (Ad h1) hr
 | nilCheck x=>
  rw[ho] at hc;obtain⟨y,hy,rfl⟩:=jm hc;exact Oa hI hd hN hy ho hr
 | binOp op ty x y yt=>
  rw[ho] at hc;simp only[iq] at hc
  have key:(do some (TOp.bin op (<- dV x) (<- dV y)):Option TOp)=some t->od P M σ' a o w:=by
   intro hc;obtain⟨x1,h2,hc⟩:=dZ hc;obtain⟨y1,h3,hc⟩:=dZ hc
   injection hc with hc
   subst hc;exact Qm hI hd hN h2 h3 ho hr
  split at hc
  ·rename_i hu;split at hc
   ·obtain⟨x1,h2,hc⟩:=dZ hc;obtain⟨y1,h3,hc⟩:=dZ hc
    injection hc with hc
    subst hc;exact LR hI hd hN h2 h3 ho (.inl ⟨rfl,rfl⟩) hu hr
   ·obtain⟨x1,h2,hc⟩:=dZ hc;obtain⟨y1,h3,hc⟩:=dZ hc
    injection hc with hc
    subst hc;exact LR hI hd hN h2 h3 ho (.inr ⟨rfl,rfl⟩) hu hr
   ·simp at hc
  ·exact key hc
  ·exact key hc
  ·rename_i fs hu;split at hc
   case isTrue=>simp at hc
   rename_i Wd;split at hc
   case h_2=>simp at hc
   rename_i ks hk;split at hc
   ·obtain⟨x1,h2,hc⟩:=dZ hc;obtain⟨y1,h3,hc⟩:=dZ hc
    injection hc with hc
    subst hc;exact LN hI hd hN h2 h3 ho (.inl ⟨rfl,rfl⟩) hu hk (by simpa using Wd) hr
   ·obtain⟨x1,h2,hc⟩:=dZ hc;obtain⟨y1,h3,hc⟩:=dZ hc
    injection hc with hc
    subst hc;exact LN hI hd hN h2 h3 ho (.inr ⟨rfl,rfl⟩) hu hk (by simpa using Wd) hr
   ·simp at hc
  ·simp at hc
 | unOp op ty x=>
  rw[ho] at hc;obtain⟨y,hy,rfl⟩:=jm hc;exact RE hI hd hN hy ho hr
 | convert s dd x=>
  rw[ho] at hc;simp only[iq] at hc;split at hc
  ·rename_i ks k hs Wc;obtain⟨y,hy,rfl⟩:=jm hc;exact Of hI hd hN hy ho hs Wc hr
  ·rename_i e hs Wc;split at hc
   ·rename_i he;obtain⟨y,hy,rfl⟩:=jm hc;exact P6 hI hd hN hy ho hs Wc he hr
   ·simp at hc
  ·rename_i e hs Wc;split at hc
   ·rename_i he;obtain⟨y,hy,rfl⟩:=jm hc;exact Qn hI hd hN hy ho hs Wc he hr
   ·simp at hc
  ·simp at hc
 | fieldAddr s x f=>
  rw[ho] at hc;simp only[iq] at hc;split at hc
  ·rename_i fs hu;split at hc
   ·rename_i fd hf;split at hc
    ·rename_i n hs;obtain⟨y,hy,rfl⟩:=jm hc;exact Qf hI hd hN hy ho hu hf ⟨_,hs⟩ hr
    ·simp at hc
   ·simp at hc
  ·simp at hc
 | field s x f=>
  rw[ho] at hc;simp only[iq] at hc;split at hc
  ·rename_i fs hu;split at hc
   ·rename_i fd hf;obtain⟨n,h1,hc⟩:=dZ hc;obtain⟨y,h2,hc⟩:=dZ hc
    injection hc with hc
    subst hc;exact Oe hI hd hN h2 ho hu hf (Ad h1) hr
   ·simp at hc
  ·simp at hc
 | indexAddr ty x i=>
  rw[ho] at hc;simp only[iq] at hc;split at hc
  ·rename_i e hu;obtain⟨n,h1,hc⟩:=dZ hc;obtain⟨y,h2,hc⟩:=dZ hc;obtain⟨z,h3,hc⟩:=dZ hc
   injection hc with hc
   subst hc;exact Qe hI hd hN h2 h3 ho hu h1 hr
  ·rename_i n e hu;obtain⟨sz,h1,hc⟩:=dZ hc;obtain⟨y,h2,hc⟩:=dZ hc;obtain⟨z,h3,hc⟩:=dZ hc
   injection hc with hc
   subst hc;exact Od hI hd hN h2 h3 ho hu h1 hr
  ·simp at hc
 | index ty x i=>
  rw[ho] at hc;simp only[iq] at hc;split at hc
  ·rename_i hu;obtain⟨y,h2,hc⟩:=dZ hc;obtain⟨z,h3,hc⟩:=dZ hc
   injection hc with hc
   subst hc;exact Qd hI hd hN h2 h3 ho hu hr
  ·simp at hc
 | extract x i=>
  rw[ho] at hc;obtain⟨y,hy,rfl⟩:=jm hc;exact Qg hI hd hN hy ho hr
 | makeSlice ty l c=>
  rw[ho] at hc;simp only[iq] at hc;split at hc
  ·rename_i e hu;split at hc
   ·rename_i i hi;split at hc
    ·rename_i z hz;obtain⟨u,h1,hc⟩:=dZ hc;obtain⟨y,h2,hc⟩:=dZ hc;obtain⟨y2,h3,hc⟩:=dZ hc
     injection hc with hc
     subst hc;have hg:=oH h1;simp only[oBA,oDE] at hg;exact Qa hI hd hN h2 h3 ho hu hi hz rfl rfl hg.1 hg.2 hr
    ·simp at hc
   ·simp at hc
  ·simp at hc
 | slice ty x lo hi mx=>
  rw[ho] at hc;simp only[iq] at hc;split at hc
  ·split at hc
   ·rename_i m h e hu;obtain⟨_,hg,hc⟩:=dZ hc;obtain⟨n,h1,hc⟩:=dZ hc;obtain⟨y,h2,hc⟩:=dZ hc
    injection hc with hc
    subst hc;have hg:=oH hg;simp only[oBA] at hg;exact Qh hI hd hN h2 ho hg.1.1 hg.1.2 hg.2 hu h1 hr
   ·simp at hc
  ·split at hc
   ·rename_i e hu;obtain⟨n,h1,hc⟩:=dZ hc;obtain⟨y,h2,hc⟩:=dZ hc;obtain⟨l1,h3,hc⟩:=dZ hc;obtain⟨h4,h5,hc⟩:=dZ hc
    injection hc with hc
    subst hc;exact P5 hI hd hN h2 (Fk h3) (Fk h5) ho hu h1 hr
   ·simp at hc
 | makeFunc fn first caps=>
  rw[ho] at hc;simp only[iq] at hc;split at hc
  ·rename_i f;obtain⟨u,h1,hc⟩:=dZ hc;obtain⟨l,h2,hc⟩:=dZ hc
   injection hc with hc
   subst hc;have hg:=oH h1
   have hf:first=#[]:=by simpa using hg
   subst hf;exact Qb hI hd hN (qt h2) ho hr
  ·simp at hc
 | buildSlice ty len parts=>
  rw[ho] at hc;simp only[iq] at hc;split at hc
  ·rename_i e hu;split at hc
   ·rename_i i hi;obtain⟨u,h1,hc⟩:=dZ hc;obtain⟨l,h2,hc⟩:=dZ hc
    injection hc with hc
    subst hc;have hg:=oH h1;simp only[oBA,Bool.or_eq_true,oDE,beq_iff_eq] at hg;obtain⟨⟨⟨g1,g2⟩,g3⟩,g4⟩:=hg;refine Qj hI hd hN ho hu hi rfl (λh0=>?_) g4 (qt h2) g2 g3 hr;rcases g1 with g1 | g1
    ·exact Option.isSome_iff_exists.1 g1
    ·omega
   ·simp at hc
  ·simp at hc
 | build ty parts=>
  rw[ho] at hc;simp only[iq] at hc;split at hc
  ·rename_i fs z hu hz;obtain⟨u,h1,hc⟩:=dZ hc;obtain⟨ps,h2,hc⟩:=dZ hc
   injection hc with hc
   subst hc;have hg:=oH h1;simp only[List.all_eq_true] at hg;have hm:=qt h2;refine Ql hI hd hN (szf:=λf=>(Cl P f.type).getD 0) ho hu hz (λf hf=>?_) ?_ (λk h h'=>?_) hr
   ·have:=hg f hf;obtain⟨n,hn⟩:=Option.isSome_iff_exists.1 this;rw[hn];exact hn
   ·have:=congrArg List.length hm;simpa using this
   ·have hk:(parts.toList.map (λp=>match fs[p.1]? with
     | some f=>match Cl P f.type,dV p.2 with
      | some n,some x=>if f.offset+n<=z.length then some (f.offset,n,x) else none
      | _,_=>none
     | none=>none))[k]?=(ps.map some)[k]?:=by rw[hm]
    simp only[List.getElem?_map,oGE h',oMS,Array.getElem?_toList,Array.getElem?_eq_getElem h] at hk
    cases hf:fs[parts[k].1]? with
    | none=>simp[hf] at hk
    | some f=>
     cases hs:Cl P f.type with
     | none=>simp[hf,hs] at hk
     | some n=>
      cases hx:dV parts[k].2 with
      | none=>simp[hf,hs,hx] at hk
      | some x=>
       simp only[hf,hs,hx,oSJ] at hk;split at hk
       ·rename_i X8
        injection hk with hk
        rw[<- hk];exact⟨rfl,by simp[hs],X8⟩
       ·simp at hk
  ·rename_i n e z hu hz;split at hc
   ·rename_i sz hsz;obtain⟨ps,h2,hc⟩:=dZ hc
    injection hc with hc
    subst hc;have hm:=qt h2;refine Oh hI hd hN ho hu hz hsz ?_ (λk h h'=>?_) hr
    ·have:=congrArg List.length hm;simpa using this
    ·have hk:(parts.toList.map (λp=>match dV p.2 with
      | some x=>if p.1*sz+sz<=z.length then some (p.1*sz,sz,x) else none
      | none=>none))[k]?=(ps.map some)[k]?:=by rw[hm]
     simp only[List.getElem?_map,oGE h',oMS,Array.getElem?_toList,Array.getElem?_eq_getElem h] at hk
     cases hx:dV parts[k].2 with
     | none=>simp[hx] at hk
     | some x=>
      simp only[hx,oSJ] at hk;split at hk
      ·rename_i X8
       injection hk with hk
       rw[<- hk];exact⟨rfl,rfl,rfl,X8⟩
      ·simp at hk
   ·simp at hc
  ·simp at hc
 | call c=>
  rw[ho] at hc;simp only[iq] at hc;split at hc
  ·rename_i args argTypes;split at hc
   ·rename_i s x t1 t2 ea et
    have ea:args=#[s,x]:=by rw[<- Array.toArray_toList (xs:=args),ea]
    have et:argTypes=#[t1,t2]:=by rw[<- Array.toArray_toList (xs:=argTypes),et]
    subst ea;subst et;split at hc
    ·rename_i hteq;subst hteq;split at hc
     ·rename_i e hu;split at hc
      ·rename_i i hi;split at hc
       ·rename_i z hz;obtain⟨u,h1,hc⟩:=dZ hc;obtain⟨y,h2,hc⟩:=dZ hc;obtain⟨y2,h3,hc⟩:=dZ hc
        injection hc with hc
        subst hc;have hg:=oH h1;simp only[oBA,oDE,beq_iff_eq] at hg;exact Qo hI hd hN h2 h3 ho hu hi hz hg.1 rfl rfl hg.2 hr
       ·simp at hc
      ·simp at hc
     ·simp at hc
    ·simp at hc
   ·simp at hc
  ·rename_i args argTypes;split at hc
   ·rename_i x y t1 t2 ea et
    have ea:args=#[x,y]:=by rw[<- Array.toArray_toList (xs:=args),ea]
    have et:argTypes=#[t1,t2]:=by rw[<- Array.toArray_toList (xs:=argTypes),et]
    subst ea;subst et;split at hc
    ·rename_i e hu;obtain⟨sz,h1,hc⟩:=dZ hc;obtain⟨y1,h2,hc⟩:=dZ hc;obtain⟨y2,h3,hc⟩:=dZ hc
     injection hc with hc
     subst hc;exact Qi hI hd hN h2 h3 ho hu h1 hr
    ·simp at hc
   ·simp at hc
  ·rename_i args argTypes;obtain⟨l,h1,rfl⟩:=jm hc;exact PB (mx:=false) hI hd hN (qt h1) ho hr
  ·rename_i args argTypes;obtain⟨l,h1,rfl⟩:=jm hc;exact PB (mx:=true) hI hd hN (qt h1) ho hr
  ·rename_i args argTypes;split at hc
   ·rename_i x t1 ea et
    have ea:args=#[x]:=by rw[<- Array.toArray_toList (xs:=args),ea]
    have et:argTypes=#[t1]:=by rw[<- Array.toArray_toList (xs:=argTypes),et]
    subst ea;subst et;split at hc
    ·rename_i e hu;obtain⟨y,hy,rfl⟩:=jm hc;exact Qc hI hd hN hy ho hu hr
    ·rename_i hu;obtain⟨y,hy,rfl⟩:=jm hc;exact Oc hI hd hN hy ho hu hr
    ·simp at hc
   ·simp at hc
  ·simp at hc
 | store ty x y=>
  rw[ho] at hc;simp only[iq] at hc;obtain⟨n,h1,hc⟩:=dZ hc;obtain⟨u,h2,hc⟩:=dZ hc;obtain⟨x1,h3,hc⟩:=dZ hc;obtain⟨y1,h4,hc⟩:=dZ hc
  injection hc with hc
  subst hc;exact absurd hns (by simp[ho])
 | _=>rw[ho] at hc;simp[iq] at hc
end
inductive Loc where
 | t (i:Nat)
 | c (r o:Nat)
 | h (r o:Nat)
 | n (r:Nat)
 | v (q:Key)
 deriving DecidableEq
def Loc.hit:Loc->Loc->Bool
 | .t i,.t j=>i==j
 | .c r o,.c r' o'=>r==r' && o==o'
 | .n r,.n r'=>r==r'
 | .n r,.c r' _=>r==r'
 | .h r o,.h r' o'=>r==r' && o==o'
 | .n r,.h r' _=>r==r'
 | .v q,.v q'=>q==q'
 | _,_=>false
abbrev t9:=List Loc×List Loc
def hdW(r o:Nat) (t t':TV):List Loc:=if t'.hd=t.hd then [] else [.h r o]
def SP.foot{α:Type}:SP α->St->t9
 | .ret _,_=>([],[])
 | .fail,_=>([],[])
 | .rdT i k,σ=>(.t i :: ((k (σ.t i)).foot σ).1,((k (σ.t i)).foot σ).2)
 | .rdC r o k,σ=>(.c r o :: ((k (σ.c r o)).foot σ).1,((k (σ.c r o)).foot σ).2)
 | .rdH r o k,σ=>(.h r o :: ((k (σ.c r o).hd).foot σ).1,((k (σ.c r o).hd).foot σ).2)
 | .rdV q k,σ=>(.v q :: ((k (σ.v q)).foot σ).1,((k (σ.v q)).foot σ).2)
 | .wrT i t k,σ=>((k.foot { σ with tm:=gV σ.tm i t }).1,.t i :: (k.foot { σ with tm:=gV σ.tm i t }).2)
 | .wrC r o t k,σ=>
  match eU σ.ce r with
  | some l=>if o < l.length then (.n r :: .h r o :: (k.foot { σ with ce:=gV σ.ce r (l.set o t) }).1,.c r o :: (hdW r o (σ.c r o) t++(k.foot { σ with ce:=gV σ.ce r (l.set o t) }).2)) else ([],[])
  | none=>([],[])
 | .new r l k,σ=>(.v (r,0,0) :: (k.foot { σ with ce:=gV σ.ce r l,vr:=sj σ.vr (r,0,0) }).1,.n r :: .v (r,0,0) :: (k.foot { σ with ce:=gV σ.ce r l,vr:=sj σ.vr (r,0,0) }).2)
 | .bump q k,σ=>(.v q :: (k.foot { σ with vr:=sj σ.vr q }).1,.v q :: (k.foot { σ with vr:=sj σ.vr q }).2)
def j4(σ σ':St):Loc->Prop
 | .t i=>eU σ.tm i=eU σ'.tm i
 | .c r o=>σ.c r o=σ'.c r o
 | .h r o=>(σ.c r o).hd=(σ'.c r o).hd
 | .n r=>(eU σ.ce r).map List.length=(eU σ'.ce r).map List.length
 | .v q=>σ.v q=σ'.v q
def Rm(σ σ':St):Prop:=∀x,j4 σ σ' x
theorem j4.refl(σ:St) (x:Loc):j4 σ σ x:=by cases x<;>rfl
theorem j4.symm{σ σ':St}{x:Loc}(h:j4 σ σ' x):j4 σ' σ x:=by cases x<;>exact Eq.symm h
theorem j4.trans{σ σ' σ'':St}{x:Loc}(h:j4 σ σ' x) (h':j4 σ' σ'' x):j4 σ σ'' x:=by cases x<;>exact Eq.trans h h'
theorem NJ{σ:St}{r o:Nat}{t:TV}{l:List TV}(h:eU σ.ce r=some l) (ho:o < l.length) (r' o':Nat):St.c { σ with ce:=gV σ.ce r (l.set o t) } r' o'=if r'=r/\o'=o then t else σ.c r' o':=by
 have:=congrFun (congrFun (Ce (t:=t) h ho) r') o';exact this
theorem SM{σ:St}{r:Nat}{l l':List TV}(h:eU σ.ce r=some l) (hl:l'.length=l.length) (r':Nat):(eU (gV σ.ce r l') r').map List.length=(eU σ.ce r').map List.length:=by
 rw[fm]
 grind
theorem K6{σ:St}{r:Nat}{l:List TV}{vr:List (Key×Nat)}(r' o':Nat):St.c { σ with ce:=gV σ.ce r l,vr:=vr } r' o'=if r'=r then l.getD o' .dead else σ.c r' o':=by
 unfold St.c;simp[fm];by_cases e:r=r'
 ·simp_all
 ·rw[oIN e,oIN (Ne.symm e)]
theorem kW{α:Type}{s:SP α}:∀{σ:St}{a:α}{τ:St},s.run σ=some (a,τ)->∀x,(∀w∈(s.foot σ).2,w.hit x=false)->j4 σ τ x:=by
 induction s with
 | ret a=>intro σ b τ h x _;simp only[SP.run,oSJ,oPJ] at h;rw[h.2];exact j4.refl _ _
 | fail=>intro σ b τ h;simp[SP.run] at h
 | rdT i k ih=>intro σ b τ h x hx;exact ih _ h x hx
 | rdC r o k ih=>intro σ b τ h x hx;exact ih _ h x hx
 | rdH r o k ih=>intro σ b τ h x hx;exact ih _ h x hx
 | rdV q k ih=>intro σ b τ h x hx;exact ih _ h x hx
 | wrT i t k ih=>
  intro σ b τ h x hx;refine j4.trans ?_ (ih h x λw hw=>hx w (by simp[SP.foot,hw]));have h1:=hx (.t i) (by simp[SP.foot])
  cases x with
  | t j=>
   simp only[Loc.hit,beq_eq_false_iff_ne,ne_eq] at h1;simp[j4,fm,h1]
  | _=>exact rfl
 | wrC r o t k ih=>
  intro σ b τ h x hx;obtain⟨l,hl,ho,h2⟩:=eQ h;simp only[SP.foot,hl,ho,if_true] at hx;refine j4.trans ?_ (ih h2 x λw hw=>hx w (by simp[hw]));have h1:=hx (.c r o) (by simp)
  cases x with
  | c r' o'=>
   simp only[Loc.hit,Bool.and_eq_false_imp,beq_iff_eq,beq_eq_false_iff_ne,ne_eq] at h1;show σ.c r' o'=_;rw[NJ hl ho,oIN];omega
  | h r' o'=>
   show (σ.c r' o').hd=TV.hd (St.c _ r' o');rw[NJ hl ho];split
   ·rename_i e;obtain⟨e1,e2⟩:=e;subst e1;subst e2;by_cases hh:t.hd=(σ.c r' o').hd
    ·exact hh.symm
    ·have:=hx (.h r' o') (by simp[hdW,hh]);simp[Loc.hit] at this
   ·rfl
  | n r'=>exact (SM hl (by simp) r').symm
  | _=>exact rfl
 | new r l k ih=>
  intro σ b τ h x hx;refine j4.trans ?_ (ih h x λw hw=>hx w (by simp[SP.foot,hw]));have h1:=hx (.n r) (by simp[SP.foot]);have h2:=hx (.v (r,0,0)) (by simp[SP.foot])
  cases x with
  | t j=>exact rfl
  | c r' o'=>
   simp only[Loc.hit,beq_eq_false_iff_ne,ne_eq] at h1;show σ.c r' o'=_;rw[K6,oIN (Ne.symm h1)]
  | h r' o'=>
   simp only[Loc.hit,beq_eq_false_iff_ne,ne_eq] at h1;show (σ.c r' o').hd=TV.hd (St.c _ r' o');rw[K6,oIN (Ne.symm h1)]
  | n r'=>
   simp only[Loc.hit,beq_eq_false_iff_ne,ne_eq] at h1;simp[j4,fm,h1]
  | v q=>
   simp only[Loc.hit,beq_eq_false_iff_ne,ne_eq] at h2;show uN σ.vr q=uN (sj σ.vr (r,0,0)) q;rw[iv,oIN h2];rfl
 | bump q k ih=>
  intro σ b τ h x hx;refine j4.trans ?_ (ih h x λw hw=>hx w (by simp[SP.foot,hw]));have h2:=hx (.v q) (by simp[SP.foot])
  cases x with
  | v q'=>
   simp only[Loc.hit,beq_eq_false_iff_ne,ne_eq] at h2;show uN σ.vr q'=uN (sj σ.vr q) q';rw[iv,oIN h2];rfl
  | _=>exact rfl
theorem oj{α:Type}{s:SP α}:∀{σ σ':St}{a:α}{τ:St},s.run σ=some (a,τ)->(∀x∈(s.foot σ).1,j4 σ σ' x) ->
 s.foot σ'=s.foot σ/\∃ τ',s.run σ'=some (a,τ')/\∀x,(j4 σ σ' x\/∃w∈(s.foot σ).2,w.hit x=true)->j4 τ τ' x:=by
 induction s with
 | ret a=>
  intro σ σ' b τ h hr;obtain⟨rfl,rfl⟩:=h;exact⟨rfl,σ',rfl,λx hx=>hx.elim id λ⟨w,hw,_⟩=>by simp[SP.foot] at hw⟩
 | fail=>intro σ σ' b τ h;simp[SP.run] at h
 | rdT i k ih=>
  intro σ σ' b τ h hr
  have h1:σ.t i=σ'.t i:=by
   have:eU σ.tm i=eU σ'.tm i:=hr (.t i) (by simp[SP.foot]);simp[St.t,this]
  obtain⟨e,τ',h2,h3⟩:=ih _ h λx hx=>hr x (by simp[SP.foot,hx]);refine⟨by simp only[SP.foot];rw[<- h1,e],τ',by simp only[SP.run];rw[<- h1];exact h2,h3⟩
 | rdC r o k ih=>
  intro σ σ' b τ h hr;have h1:σ.c r o=σ'.c r o:=hr (.c r o) (by simp[SP.foot]);obtain⟨e,τ',h2,h3⟩:=ih _ h λx hx=>hr x (by simp[SP.foot,hx]);refine⟨by simp only[SP.foot];rw[<- h1,e],τ',by simp only[SP.run];rw[<- h1];exact h2,h3⟩
 | rdH r o k ih=>
  intro σ σ' b τ h hr;have h1:(σ.c r o).hd=(σ'.c r o).hd:=hr (.h r o) (by simp[SP.foot]);obtain⟨e,τ',h2,h3⟩:=ih _ h λx hx=>hr x (by simp[SP.foot,hx]);refine⟨by simp only[SP.foot];rw[<- h1,e],τ',by simp only[SP.run];rw[<- h1];exact h2,h3⟩
 | rdV q k ih=>
  intro σ σ' b τ h hr;have h1:σ.v q=σ'.v q:=hr (.v q) (by simp[SP.foot]);obtain⟨e,τ',h2,h3⟩:=ih _ h λx hx=>hr x (by simp[SP.foot,hx]);refine⟨by simp only[SP.foot];rw[<- h1,e],τ',by simp only[SP.run];rw[<- h1];exact h2,h3⟩
 | wrT i t k ih=>
  intro σ σ' b τ h hr
  have hal:∀x,(j4 σ σ' x\/x=.t i)->j4 { σ with tm:=gV σ.tm i t } { σ' with tm:=gV σ'.tm i t } x:=by
   rintro x (hx | rfl)
   ·cases x with
    | t j=>
     show eU (gV σ.tm i t) j=eU (gV σ'.tm i t) j;rw[fm,fm];split
     ·rfl
     ·exact hx
    | _=>exact hx
   ·show eU (gV σ.tm i t) i=eU (gV σ'.tm i t) i;rw[fm,fm];simp
  obtain⟨e,τ',h2,h3⟩:=ih (σ':={ σ' with tm:=gV σ'.tm i t }) h λx hx=>hal x (.inl (hr x (by simp[SP.foot,hx])));refine⟨by simp only[SP.foot];rw[e],τ',h2,λx hx=>h3 x ?_⟩;rcases hx with hx | ⟨w,hw,hh⟩
  ·exact .inl (hal x (.inl hx))
  ·simp only[SP.foot,List.mem_cons] at hw;rcases hw with rfl | hw
   ·left;refine hal x (.inr ?_);cases x<;>simp[Loc.hit] at hh;rw[hh]
   ·exact .inr ⟨w,hw,hh⟩
 | wrC r o t k ih=>
  intro σ σ' b τ h hr;obtain⟨l,hl,ho,h0⟩:=eQ h;simp only[SP.foot,hl,ho,if_true] at hr ⊢;have hn:(eU σ.ce r).map List.length=(eU σ'.ce r).map List.length:=hr (.n r) (by simp)
  obtain⟨l',Zg,WQ⟩:∃l',eU σ'.ce r=some l'/\l'.length=l.length:=by
   rw[hl] at hn
   cases ha:eU σ'.ce r with
   | none=>rw[ha] at hn;simp at hn
   | some l'=>rw[ha] at hn;exact⟨l',rfl,by simpa using hn.symm⟩
  have Zj:o < l'.length:=by omega
  have hh:(σ.c r o).hd=(σ'.c r o).hd:=hr (.h r o) (by simp)
  have hW:hdW r o (σ'.c r o) t=hdW r o (σ.c r o) t:=by unfold hdW;rw[hh]
  have hal:∀x,(j4 σ σ' x\/x=.c r o\/x=.h r o)->j4 { σ with ce:=gV σ.ce r (l.set o t) } { σ' with ce:=gV σ'.ce r (l'.set o t) } x:=by
   rintro x (hx | rfl | rfl)
   ·cases x with
    | c r' o'=>
     show St.c _ r' o'=St.c _ r' o';rw[NJ hl ho,NJ Zg Zj];split
     ·rfl
     ·exact hx
    | h r' o'=>
     show TV.hd (St.c _ r' o')=TV.hd (St.c _ r' o');rw[NJ hl ho,NJ Zg Zj];split
     ·rfl
     ·exact hx
    | n r'=>
     show Option.map _ _=Option.map _ _;rw[SM hl (by simp),SM Zg (by simp)];exact hx
    | _=>exact hx
   ·show St.c _ r o=St.c _ r o;rw[NJ hl ho,NJ Zg Zj];simp
   ·show TV.hd (St.c _ r o)=TV.hd (St.c _ r o);rw[NJ hl ho,NJ Zg Zj];simp
  obtain⟨e,τ',h2,h3⟩:=ih (σ':={ σ' with ce:=gV σ'.ce r (l'.set o t) }) h0 λx hx=>hal x (.inl (hr x (by simp[hx])));refine⟨by simp only[Zg,Zj,if_true];rw[e,hW],τ',by simp only[SP.run,Zg,Zj,if_true];exact h2,λx hx=>h3 x ?_⟩;rcases hx with hx | ⟨w,hw,hh⟩
  ·exact .inl (hal x (.inl hx))
  ·simp only[List.mem_cons,List.mem_append] at hw;rcases hw with rfl | hw | hw
   ·left;refine hal x (.inr (.inl ?_));cases x<;>simp[Loc.hit] at hh;rw[hh.1,hh.2]
   ·left;refine hal x (.inr (.inr ?_));unfold hdW at hw;split at hw
    ·simp at hw
    ·simp only[List.mem_singleton] at hw;subst hw;cases x<;>simp[Loc.hit] at hh;rw[hh.1,hh.2]
   ·exact .inr ⟨w,hw,hh⟩
 | new r l k ih=>
  intro σ σ' b τ h hr;have hv:σ.v (r,0,0)=σ'.v (r,0,0):=hr (.v (r,0,0)) (by simp[SP.foot])
  have hal:∀x,(j4 σ σ' x\/(Loc.n r).hit x=true)->j4 { σ with ce:=gV σ.ce r l,vr:=sj σ.vr (r,0,0) } { σ' with ce:=gV σ'.ce r l,vr:=sj σ'.vr (r,0,0) } x:=by
   intro x hx
   cases x with
   | t j=>rcases hx with hx | hx
          ·exact hx
          ·simp[Loc.hit] at hx
   | c r' o'=>
    show St.c _ r' o'=St.c _ r' o';rw[K6,K6];split
    ·rfl
    ·rename_i e;rcases hx with hx | hx
     ·exact hx
     ·simp[Loc.hit] at hx;exact absurd hx.symm e
   | h r' o'=>
    show TV.hd (St.c _ r' o')=TV.hd (St.c _ r' o');rw[K6,K6];split
    ·rfl
    ·rename_i e;rcases hx with hx | hx
     ·exact hx
     ·simp[Loc.hit] at hx;exact absurd hx.symm e
   | n r'=>
    show Option.map _ (eU (gV _ _ _) _)=Option.map _ (eU (gV _ _ _) _);rw[fm,fm];split
    ·rfl
    ·rename_i e;rcases hx with hx | hx
     ·exact hx
     ·simp[Loc.hit] at hx;exact absurd hx e
   | v q=>
    show uN (sj _ _) q=uN (sj _ _) q;rw[iv,iv];rcases hx with hx | hx
    ·have hx:uN σ.vr q=uN σ'.vr q:=hx;rw[hx]
    ·simp[Loc.hit] at hx
  obtain⟨e,τ',h2,h3⟩:=ih (σ':={ σ' with ce:=gV σ'.ce r l,vr:=sj σ'.vr (r,0,0) }) h λx hx=>hal x (.inl (hr x (by simp[SP.foot,hx])));refine⟨by simp only[SP.foot];rw[e],τ',h2,λx hx=>h3 x ?_⟩;rcases hx with hx | ⟨w,hw,hh⟩
  ·exact .inl (hal x (.inl hx))
  ·simp only[SP.foot,List.mem_cons] at hw;rcases hw with rfl | rfl | hw
   ·exact .inl (hal x (.inr hh))
   ·left;refine hal x (.inl ?_);cases x<;>simp[Loc.hit] at hh;rw[<- hh];exact hv
   ·exact .inr ⟨w,hw,hh⟩
 | bump q k ih=>
  intro σ σ' b τ h hr;have hv:σ.v q=σ'.v q:=hr (.v q) (by simp[SP.foot])
  have hal:∀x,j4 σ σ' x->j4 { σ with vr:=sj σ.vr q } { σ' with vr:=sj σ'.vr q } x:=by
   intro x hx
   cases x with
   | v q'=>
    show uN (sj _ _) q'=uN (sj _ _) q';rw[iv,iv];have hx:uN σ.vr q'=uN σ'.vr q':=hx;rw[hx]
   | _=>exact hx
  obtain⟨e,τ',h2,h3⟩:=ih (σ':={ σ' with vr:=sj σ'.vr q }) h λx hx=>hal x (hr x (by simp[SP.foot,hx]));refine⟨by simp only[SP.foot];rw[e],τ',h2,λx hx=>h3 x ?_⟩;rcases hx with hx | ⟨w,hw,hh⟩
  ·exact .inl (hal x hx)
  ·simp only[SP.foot,List.mem_cons] at hw;rcases hw with rfl | hw
   ·left;refine hal x ?_;cases x<;>simp[Loc.hit] at hh;rw[<- hh];exact hv
   ·exact .inr ⟨w,hw,hh⟩
def KB(a b:List Loc):Bool:=a.any λw=>b.any λx=>w.hit x
def rz(a b:t9):Bool:=KB a.2 b.1 || KB a.2 b.2 || KB b.2 a.1 || KB b.2 a.2
theorem tU{a b:List Loc}(h:KB a b=false):∀w∈a,∀x∈b,w.hit x=false:=by
 simp[KB] at h
 simp_all
theorem OX{w w' x:Loc}(h:w.hit x=true) (h':w'.hit x=true):w.hit w'=true\/w'.hit w=true:=by
 cases x<;>cases w<;>simp[Loc.hit] at h<;>cases w'<;>simp[Loc.hit] at h' ⊢<;>simp_all
theorem JV{A B:SP Unit}{σ σ1 σ2:St}(hA:A.run σ=some ((),σ1)) (hB:B.run σ1=some ((),σ2)) (hc:rz (A.foot σ) (B.foot σ1)=false) :
 ∃ σ1' σ2',B.run σ=some ((),σ1')/\A.run σ1'=some ((),σ2')/\Rm σ2 σ2'/\B.foot σ=B.foot σ1/\A.foot σ1'=A.foot σ:=by
 simp only[rz,Bool.or_eq_false_iff] at hc;obtain⟨⟨⟨c1,c2⟩,c3⟩,c4⟩:=hc;have hR:=λx hx=>(kW hA x λw hw=>tU c1 w hw x hx).symm;obtain⟨e1,σ1',hB',hB2⟩:=oj hB hR;have Xq:∀x,(∀w∈(B.foot σ1).2,w.hit x=false)->j4 σ σ1' x:=λx hx=>kW hB' x (by simp_all);have hR2:=λx hx=>Xq x λw hw=>tU c3 w hw x hx;obtain⟨e2,σ2',hA',hA2⟩:=oj hA hR2;refine⟨σ1',σ2',hB',hA',λx=>?_,e1,e2⟩;by_cases hx:∃w∈(B.foot σ1).2,w.hit x=true
 ·obtain⟨w,hw,hh⟩:=hx;refine j4.trans (hB2 x (.inr ⟨w,hw,hh⟩)) (kW hA' x λw' WH=>?_);rw[e2] at WH
  cases hh':w'.hit x with
  | false=>rfl
  | true=>
   rcases OX hh hh' with h | h
   ·rw[tU c4 w hw w' WH] at h;simp at h
   ·rw[tU c2 w' WH w hw] at h;simp at h
 ·have V5:∀w∈(B.foot σ1).2,w.hit x=false:=λw hw=>by
   simp_all
  refine j4.trans (kW hB x V5).symm (hA2 x ?_)
  simp_all
theorem Bj{α:Type}{s:SP α}{σ σ':St}{a:α}{τ:St}(h:s.run σ=some (a,τ)) (hs:Rm σ σ'):s.foot σ'=s.foot σ/\∃ τ',s.run σ'=some (a,τ')/\Rm τ τ':=by
 have ⟨e,τ',h1,h2⟩:=oj h λx _=>hs x;exact⟨e,τ',h1,λx=>h2 x (.inl (hs x))⟩
def ub(pg:Nat->SP Unit):List Nat->St->Option (List (Nat×t9)×St)
 | [],σ=>some ([],σ)
 | i :: r,σ=>((pg i).run σ).bind λx=>(ub pg r x.2).bind λy=>some ((i,(pg i).foot σ) :: y.1,y.2)
theorem Kg{pg:Nat->SP Unit}:∀{L:List Nat}{σ σ':St}{fs:List (Nat×t9)}{τ:St},ub pg L σ=some (fs,τ)->Rm σ σ'->∃ τ',ub pg L σ'=some (fs,τ')/\Rm τ τ':=by
 intro L
 induction L with
 | nil=>
  intro σ σ' fs τ h hs;obtain⟨rfl,rfl⟩:=h;exact⟨σ',rfl,hs⟩
 | cons i L ih=>
  intro σ σ' fs τ h hs;have ⟨⟨u,σ1⟩,h1,h2⟩:=dZ h;have ⟨⟨fs',τ0⟩,h3,h4⟩:=dZ h2
  injection h4 with h4
  injection h4 with h4 h5
  subst h5;have ⟨e,σ1',k1,k2⟩:=Bj h1 hs;have ⟨τ',k3,k4⟩:=ih h3 k2;exact⟨τ',by simp[ub,k1,k3,e];rw[h4],k4⟩
theorem HB{pg:Nat->SP Unit}{i:Nat}{post:List Nat}:∀{pre:List Nat}{σ:St}{fs:List (Nat×t9)}{τ:St},ub pg (pre++i :: post) σ=some (fs,τ) ->
 (∀Ye F W9,fs=Ye++(i,F) :: W9->Ye.map (·.1)=pre->∀y∈Ye,rz y.2 F=false) ->
 ∃ σ' τ' Ye F W9,fs=Ye++(i,F) :: W9/\Ye.map (·.1)=pre/\(pg i).run σ=some ((),σ')/\(pg i).foot σ=F/\ub pg (pre++post) σ'=some (Ye++W9,τ')/\Rm τ τ':=by
 intro pre
 induction pre with
 | nil=>
  intro σ fs τ h _;obtain⟨⟨u,σ1⟩,h1,h2⟩:=dZ h;obtain⟨⟨fs',τ0⟩,h3,h4⟩:=dZ h2
  injection h4 with h4
  injection h4 with h4 h5
  subst h5;exact⟨σ1,τ0,[],_,fs',h4.symm,rfl,h1,rfl,h3,λx=>j4.refl _ _⟩
 | cons j pre ih=>
  intro σ fs τ h hc;obtain⟨⟨u,σ1⟩,h1,h2⟩:=dZ h;obtain⟨⟨fs',τ0⟩,h3,h4⟩:=dZ h2
  injection h4 with h4
  injection h4 with h4 h5
  subst h5;obtain⟨σ2,τ',Ye,F,W9,e1,e2,k1,k2,k3,k4⟩:=ih h3 λYe F W9 e e' y hy=>hc ((j,(pg j).foot σ) :: Ye) F W9 (by rw[<- h4,e];rfl) (by simp[e']) y (by simp[hy])
  have Zd:rz ((pg j).foot σ) ((pg i).foot σ1)=false:=by
   rw[k2];exact hc ((j,(pg j).foot σ) :: Ye) F W9 (by rw[<- h4,e1];rfl) (by simp[e2]) (j,(pg j).foot σ) (by simp)
  obtain⟨σ1',σ2',m1,m2,m3,m4,m5⟩:=JV h1 k1 Zd;obtain⟨τ2,n1,n2⟩:=Kg k3 m3;refine⟨σ1',τ2,(j,(pg j).foot σ) :: Ye,F,W9,by rw[<- h4,e1];rfl,by simp[e2],m1,m4.trans k2,?_,λx=>(k4 x).trans (n2 x)⟩;simp only[List.cons_append,ub,m2,oBS,n1,m5]
def jY(deps:List (List Nat)):List (Nat×t9)->Bool
 | []=>true
 | (j,F) :: r=>(r.all λy=>!rz F y.2 || (deps.getD y.1 []).contains j) && jY deps r
structure j3 where
 dst:Option Nat
 guard:Option (Nat×Bool)
 op:TOp
inductive ma where
 | skip
 | nrm (pers:List Nat×List Nat)
 | reg (id:Nat) (draw:Option (List (List Nat))) (ops:List j3) (pers:List Nat×List Nat)
 | seq (a b:ma)
 | cond (c:Opd) (a b:ma)
 | block (id:Nat) (b:ma)
 | loop (b:ma)
 | exit (id:Nat)
 | ret
 | pre (l:List (Nat×Option Nat)) (a:ma)
 | post (a:ma) (l:List (Nat×Option Nat))
inductive l9 where
 | normal
 | exit (id:Nat)
 | ret
def renorm0(L:List Nat) (σ:St):TV->TV
 | .ptr p vs=>if L.contains p.root && vs==kY σ.v p.root p.off p.hops.length then .ptr p (kY (λ_=>0) p.root p.off p.hops.length) else .dead
 | .pk p vs=>if L.contains p.root && vs==kY σ.v p.root p.off (p.hops.length+1) then .pk p (kY (λ_=>0) p.root p.off (p.hops.length+1)) else .dead
 | .pw p vs sz lo n=>if L.contains p.root && vs==kY σ.v p.root p.off (p.hops.length+1) then .pw p (kY (λ_=>0) p.root p.off (p.hops.length+1)) sz lo n else .dead
 | .v x=>.v x
 | .sl c=>.sl c
 | .ip cs=>.ip cs
 | .ow []=>.ow []
 | .tup []=>.tup []
 | _=>.dead
def renorm(L:List Nat) (σ:St):TV->TV
 | .agg l=>.agg (l.map (renorm0 L σ))
 | .fn f l=>.fn f (l.map (renorm0 L σ))
 | t=>renorm0 L σ t
def normT(L:List Nat) (σ:St):List Nat->List (Nat×TV)
 | []=>[]
 | i :: r=>match eU σ.tm i with | some t=>(i,renorm L σ t) :: normT L σ r | none=>normT L σ r
def normC(σ:St):List Nat->List (Nat×List TV)
 | []=>[]
 | r :: l=>match eU σ.ce r with | some c=>(r,c) :: normC σ l | none=>normC σ l
abbrev Prs:=List Nat×List Nat
def St.norm(σ:St) (pers:Prs):St:=⟨normT pers.2 σ pers.1,normC σ pers.2,[]⟩
def evop(call:Option Nat->TOp->SP Unit) (dst:Option Nat) (op:TOp):SP Unit:=
 match op with
 | .call k f args=>call dst (.call k f args)
 | .store n mv a x=>match dst with | none=>ev1 0 (.store n mv a x) | some _=>.fail
 | op=>match dst with | some d=>ev1 d op | none=>.fail
def Da(call:Option Nat->TOp->SP Unit) (o:j3) (σ:St):Option St:=
 match o.guard with
 | none=>((evop call o.dst o.op).run σ).map (·.2)
 | some (j,want)=>
  match σ.t j with
  | .v (.bool b)=>if b=want then ((evop call o.dst o.op).run σ).map (·.2) else match o.dst with | some d=>some { σ with tm:=gV σ.tm d (.tup []) } | none=>some σ
  | .tup []=>match o.dst with | some d=>some { σ with tm:=gV σ.tm d (.tup []) } | none=>some σ
  | _=>none
def vo(call:Option Nat->TOp->SP Unit):List j3->St->Option St
 | [],σ=>some σ
 | o :: r,σ=>(Da call o σ).bind (vo call r)
def setNo(dst:Option Nat):SP Unit:=match dst with | some d=>.wrT d (.tup []) (.ret ()) | none=>.ret ()
def spOp(call:Option Nat->TOp->SP Unit) (o:j3):SP Unit:=
 match o.guard with
 | none=>evop call o.dst o.op
 | some (j,want)=>.rdT j λt=>match t with
  | .v (.bool b)=>if b=want then evop call o.dst o.op else setNo o.dst
  | .tup []=>setNo o.dst
  | _=>.fail
def Hk:j3:=⟨none,none,.lens (.t 0)⟩
theorem IY{call:Option Nat->TOp->SP Unit}{o:j3}{σ σ':St}(h:(spOp call o).run σ=some ((),σ')):Da call o σ=some σ':=by
 have YM:∀{σ'},(setNo o.dst).run σ=some ((),σ')->(match o.dst with | some d=>some { σ with tm:=gV σ.tm d (.tup []) } | none=>some σ)=some σ':=by
  intro σ' h;unfold setNo at h
  cases hd:o.dst with
  | none=>rw[hd] at h;simp only[SP.run,oSJ,oPJ,true_and] at h;simp[h]
  | some d=>rw[hd] at h;simp only[SP.run,oSJ,oPJ,true_and] at h;simp[h]
 unfold spOp at h;unfold Da
 cases hg:o.guard with
 | none=>simp_all
 | some g=>
  rw[hg] at h;simp[SP.run] at h ⊢;split at h
  ·grind
  ·simp_all
  ·simp[SP.run] at h
def QT(f:St->Option (l9×St)):Nat->St->Option (l9×St)
 | 0,_=>none
 | n+1,σ=>(f σ).bind λx=>match x.1 with | .normal=>QT f n x.2 | e=>some (e,x.2)
def shr1(x:Nat×Option Nat):SP Unit:=.rdT x.1 λt=>match x.2,t with
 | none,.pk p vs=>(take1 false (.pk p vs)).bind λt'=>.wrT x.1 t'.imm (.ret ())
 | some off,.ptr p vs=>(chk p p.hops.length vs).bind λ_=>if p.fits off then (getPl (p.add off)).bind λt=>match t with
  | .ow c=>(peek1 (p.add off) (.ow c)).bind λt'=>(take1 false t').bind λ_=>.ret ()
  | _=>.ret ()
  else .fail
 | _,_=>.ret ()
def shrs:List (Nat×Option Nat)->SP Unit
 | []=>.ret ()
 | x :: r=>(shr1 x).bind λ_=>shrs r
def St.anew(σ:St):St:=σ.norm (σ.tm.map (·.1),σ.ce.map (·.1))
def runC(call:Option Nat->TOp->SP Unit) (N:Nat):ma->St->Option (l9×St)
 | .skip,σ=>some (.normal,σ)
 | .nrm pers,σ=>some (.normal,σ.norm pers)
 | .reg _ draw ops pers,σ=>
  match draw with
  | none=>(vo call ops σ).map fun σ'=>(.normal,σ'.norm pers)
  | some deps=>(ub (λi=>spOp call (ops.getD i Hk)) (List.range ops.length) σ).bind λx=>if jY deps x.1 then some (.normal,x.2.norm pers) else none
 | .seq a b,σ=>(runC call N a σ).bind λx=>match x.1 with | .normal=>runC call N b x.2 | e=>some (e,x.2)
 | .cond c a b,σ=>((opd c).run σ).bind λx=>match x.1 with | .v (.bool true)=>runC call N a σ | .v (.bool false)=>runC call N b σ | _=>none
 | .block id b,σ=>(runC call N b σ).bind λx=>match x.1 with | .exit i=>if i=id then some (.normal,x.2) else some (.exit i,x.2) | e=>some (e,x.2)
 | .loop b,σ=>QT (runC call N b) N σ
 | .exit id,σ=>some (.exit id,σ)
 | .ret,σ=>some (.ret,σ)
 | .pre l a,σ=>((shrs l).run σ).bind λx=>runC call N a x.2.anew
 | .post a l,σ=>(runC call N a σ).bind λx=>((shrs l).run x.2).bind λy=>some (x.1,y.2.anew)
section norm
variable {M:Fm} {σ σ':St} {ts:Array Value} {w:World} {G:Gh}
theorem K9(L:List Nat) (σ:St) (l:List Nat) (i:Nat):eU (normT L σ l) i=if i∈l then (eU σ.tm i).map (renorm L σ) else none:=by
 induction l with
 | nil=>simp[normT,eU]
 | cons j r ih=>
  simp[normT];by_cases hj:j=i
  ·subst hj
   cases h:eU σ.tm j with
   | none=>simp_all
   | some t=>simp[eU]
  ·cases h:eU σ.tm j with
   | none=>simp[ih,Ne.symm hj]
   | some t=>simp[eU,hj,ih,Ne.symm hj]
theorem xE(σ:St) (l:List Nat) (r:Nat):eU (normC σ l) r=if r∈l then eU σ.ce r else none:=by
 induction l with
 | nil=>simp[normC,eU]
 | cons j l ih=>
  simp[normC];by_cases hj:j=r
  ·subst hj
   cases h:eU σ.ce j with
   | none=>simp_all
   | some t=>simp[eU]
  ·cases h:eU σ.ce j with
   | none=>simp[ih,Ne.symm hj]
   | some t=>simp[eU,hj,ih,Ne.symm hj]
theorem Inv.norm(hI:Inv M σ [] [] ts w G) (pers:Prs):∃G',Inv M (σ.norm pers) [] [] ts w G':=by
 obtain⟨L,hL⟩:∃L,L=pers.2:=⟨_,rfl⟩
 have hc:∀r o,(σ.norm pers).c r o=if r∈L then σ.c r o else .dead:=by
  intro r o;unfold St.c St.norm;simp only[<- hL,xE];by_cases h:r∈L<;>simp[h]
 have hE:∀r o,eS M (σ.norm pers) [] r o=if r∈L then eS M σ [] r o else .dead:=by
  intro r o;unfold eS;by_cases h:r=M.hr
  ·simp[h]
  ·simp only[oIN h,hc]
 let G':Gh:=⟨G.β,G.η,λr o k=>if r∈L then G.φ r o k else False⟩
 have Z9:∀r o k,G'.φ r o k->G.φ r o k:=by
  intro r o k hk;simp only[G'] at hk
  simp_all
 have Yi:=mR.ghost (C':=eS M (σ.norm pers) []) (G':=G') hI.core rfl (λk ⟨r,o,h⟩=>⟨r,o,Z9 r o k h⟩) (λr1 o1 r2 o2 k h1 h2=>hI.core.dis _ _ _ _ k (Z9 _ _ k h1) (Z9 _ _ k h2))
  (λr b o0 n hb o ho=>by
   rw[hE];split
   ·exact hI.core.boxc r b o0 n hb o ho
   ·rfl)
  (λr o=>by
   by_cases h:r∈L
   ·left;exact⟨by rw[hE,oIP h],λk=>by simp[G',h],rfl⟩
   ·right;left;exact⟨by rw[hE,oIN h],λk hk=>by simp[G',h] at hk⟩)
 have Yp:(σ.norm pers).v=λ_=>0:=by funext q;rfl
 have UU:∀{t:TV} {x:Value},TmR w (G.F M.A) σ.v (eS M σ []) G t x->TmR w (G'.F M.A) (σ.norm pers).v (eS M (σ.norm pers) []) G' (renorm0 L σ t) x:=by
  intro t x h;rw[Yp]
  cases h with
  | v h=>exact .v h
  | nil=>exact .nil
  | sl h=>exact .sl (h.frame (λ_ _ _=>rfl) λk hk _=>Yi.2 k hk)
  | dead=>exact .dead
  | @ptr p vs x V0 h0 hv hok=>
   simp only[renorm0];split
   ·rename_i hc;simp only[oBA,List.contains_iff_mem,beq_iff_eq] at hc;refine .ptr (λ_=>0) (λ_=>Nat.le_refl _) rfl λ_=>?_;obtain⟨h1,ad,t,h2,h3,h4⟩:=hok hc.2;exact⟨h1,ad,t,oc h2 rfl λ_=>rfl,h3,by rw[hE,oIP hc.1];exact h4⟩
   ·exact .dead
  | ip u Zd hr=>exact .ip u (λj hj=>⟨Yi.2 _ (Zd j hj).1,(Zd j hj).2⟩) λj hj=>(hr j hj).frame (λ_ _ _=>rfl) λk hk _=>Yi.2 k hk
  | @pk p vs x V0 h0 hv hok=>
   simp only[renorm0];split
   ·rename_i hc;simp only[oBA,List.contains_iff_mem,beq_iff_eq] at hc;refine .pk (λ_=>0) (λ_=>Nat.le_refl _) rfl λ_=>?_;obtain⟨h1,c,h2,h3⟩:=hok hc.2;exact⟨h1,c,h2,by rw[hE,oIP hc.1];exact h3⟩
   ·exact .dead
  | @pw p vs sz lo n x V0 h0 hv hok=>
   simp only[renorm0];split
   ·rename_i hc;simp at hc;refine .pw (λ_=>0) (λ_=>Nat.le_refl _) rfl λ_=>?_;obtain⟨h1,c,hd,h2,h3,h4⟩:=hok hc.2;exact⟨h1,c,hd,h2,by rw[hE,oIP hc.1];exact h3,h4⟩
   ·exact .dead
  | agg hl h=>exact .dead
  | @tup l xs hl h=>
   cases l with
   | nil=>exact .tup hl λj hj=>by simp at hj
   | cons=>exact .dead
  | fn hl h=>exact .dead
 have hrn:∀{t:TV} {x:Value},TmR w (G.F M.A) σ.v (eS M σ []) G t x->TmR w (G'.F M.A) (σ.norm pers).v (eS M (σ.norm pers) []) G' (renorm L σ t) x:=by
  intro t x h;have h0:=UU h
  cases h with
  | @agg l xs hl h=>exact .agg (by simpa using hl) λj hj=>by simpa using UU (h j (by simpa using hj))
  | @fn f l xs hl h=>exact .fn (by simpa using hl) λj hj=>by simpa using UU (h j (by simpa using hj))
  | _=>exact h0
 refine⟨G',Yi.1,λi=>?_,hI.fram.ghost rfl (λk ⟨r,o,h⟩=>⟨r,o,Z9 r o k h⟩),λr l h=>?_,hI.size,rfl,λj hj=>by simp at hj,λr b o n hb l h=>?_⟩
 ·have e:(σ.norm pers).t i=if i∈pers.1 then (match eU σ.tm i with | some t=>renorm L σ t | none=>.dead) else .dead:=by
   unfold St.t St.norm;simp only[<- hL,K9];by_cases h:i∈pers.1
   ·simp only[h,if_true];cases eU σ.tm i<;>rfl
   ·simp[h]
  rw[e];split
  ·cases ha:eU σ.tm i with
   | none=>exact .dead
   | some t=>
    have:=hI.tmr i
    have et:σ.t i=t:=by simp[St.t,ha]
    rw[et] at this;exact hrn this
  ·exact .dead
 ·have:eU (normC σ L) r=some l:=by rw[hL];exact h
  rw[xE] at this;split at this
  ·exact hI.keys r l this
  ·simp at this
 ·have:eU (normC σ L) r=some l:=by rw[hL];exact h
  rw[xE] at this;split at this
  ·exact hI.shape r b o n hb l this
  ·simp at this
end norm
def Ru(P:Program) (M:Fm) (σ':St) (a:Act) (o:Oper) (w:World):Prop:=
 ∀(K:Act->World->Prop) (Q:Exit->Act->World->Prop),(∀a' w' G',Inv M σ' [] [] a'.tmps w' G'->a'.defers=a.defers->K a' w')->o.wp P a w K Q
theorem qp(a:Act) (d:Option Tmp) (v:Value):(a.put d v).defers=a.defers:=by cases d<;>rfl
theorem od.simO{P:Program}{M:Fm}{σ':St}{a:Act}{o:Oper}{w:World}(h:od P M σ' a o w):Ru P M σ' a o w:=by
 have ⟨nx,x,w',G',hrun,WY,hI⟩:=h;intro K Q hK;unfold Oper.wp;rw[hrun];rcases WY with rfl | ⟨rfl,rfl⟩
 all_goals exact hK _ w' G' hI (qp _ _ _)
structure yO (P:Program) (M:Fm) (isCall:Op->TOp->Prop) (ops:Array Oper) (o:Oper) (t:j3):Prop where
 dst:t.dst=o.dst
 lt:∀d,o.dst=some d->d < M.N/\M.pr (2*d+2)=none
 guard:(o.guard=none/\t.guard=none)\/∃j want dj,o.guard=some (j,want)/\t.guard=some (dj,want)/\(ops[j]?).bind (·.dst)=some dj
 op:(∃mv,iq P mv o.op=some t.op)\/isCall o.op t.op
def Bh(P:Program) (M:Fm) (isCall:Op->TOp->Prop) (call:Option Nat->TOp->SP Unit):Prop:=
 ∀(o:Oper) (t:TOp) (σ σ':St) (a:Act) (w:World) (G:Gh),isCall o.op t->(∀d,o.dst=some d->d < M.N/\M.pr (2*d+2)=none)->Inv M σ [] [] a.tmps w G->(evop call o.dst t).run σ=some ((),σ')->Ru P M σ' a o w
section
variable {P:Program} {M:Fm} {σ σ':St} {w:World} {G:Gh} {a:Act} {o:Oper} {isCall:Op->TOp->Prop} {call:Option Nat->TOp->SP Unit} {ops:Array Oper}
theorem IA{mv:Nat}{op:Op}{t:TOp}(h:iq P mv op=some t):∀k f args,t≠.call k f args:=by
 rintro k f args rfl;cases op<;>simp only[iq] at h
 case move x=>split at h<;>first | (simp at h;done) | (obtain⟨_,_,h⟩:=jm h;simp at h)
 case assign x=>split at h<;>(obtain⟨_,_,h⟩:=jm h;simp at h)
 case pick=>obtain⟨_,_,h⟩:=dZ h;obtain⟨_,_,h⟩:=dZ h;obtain⟨_,_,h⟩:=dZ h;simp at h
 case alloc=>obtain⟨_,_,h⟩:=jm h;simp at h
 case box=>obtain⟨_,_,h⟩:=dZ h;obtain⟨_,_,h⟩:=dZ h;unfold SE at h;split at h<;>simp at h
 case build=>(repeat' split at h)<;>first | (simp at h;done) | (obtain⟨_,_,h⟩:=dZ h;obtain⟨_,_,h⟩:=dZ h;simp at h) | (obtain⟨_,_,h⟩:=dZ h;simp at h)
 case buildSlice=>(repeat' split at h)<;>first | (simp at h;done) | (obtain⟨_,_,h⟩:=dZ h;obtain⟨_,_,h⟩:=dZ h;simp at h)
 case load=>obtain⟨_,_,h⟩:=dZ h;obtain⟨_,_,h⟩:=dZ h;simp at h
 case store=>obtain⟨_,_,h⟩:=dZ h;obtain⟨_,_,h⟩:=dZ h;obtain⟨_,_,h⟩:=dZ h;obtain⟨_,_,h⟩:=dZ h;simp at h
 case nilCheck=>obtain⟨_,_,h⟩:=jm h;simp at h
 case binOp=>(repeat' split at h)<;>first | (simp at h;done) | (obtain⟨_,_,h⟩:=dZ h;obtain⟨_,_,h⟩:=dZ h;simp at h)
 case unOp=>obtain⟨_,_,h⟩:=jm h;simp at h
 case convert=>(repeat' split at h)<;>first | (simp at h;done) | (obtain⟨_,_,h⟩:=jm h;simp at h)
 case makeFunc=>split at h<;>first | (simp at h;done) | (obtain⟨_,_,h⟩:=dZ h;obtain⟨_,_,h⟩:=dZ h;simp at h)
 case makeSlice=>(repeat' split at h)<;>first | (simp at h;done) | (obtain⟨_,_,h⟩:=dZ h;obtain⟨_,_,h⟩:=dZ h;obtain⟨_,_,h⟩:=dZ h;simp at h)
 case slice=>(repeat' split at h)<;>first | (simp at h;done) | (obtain⟨_,_,h⟩:=dZ h;obtain⟨_,_,h⟩:=dZ h;obtain⟨_,_,h⟩:=dZ h;simp at h;done) | (obtain⟨_,_,h⟩:=dZ h;obtain⟨_,_,h⟩:=dZ h;obtain⟨_,_,h⟩:=dZ h;obtain⟨_,_,h⟩:=dZ h;simp at h)
 case fieldAddr=>(repeat' split at h)<;>first | (simp at h;done) | (obtain⟨_,_,h⟩:=jm h;simp at h)
 case field=>(repeat' split at h)<;>first | (simp at h;done) | (obtain⟨_,_,h⟩:=dZ h;obtain⟨_,_,h⟩:=dZ h;simp at h)
 case indexAddr=>(repeat' split at h)<;>first | (simp at h;done) | (obtain⟨_,_,h⟩:=dZ h;obtain⟨_,_,h⟩:=dZ h;obtain⟨_,_,h⟩:=dZ h;simp at h)
 case index=>(repeat' split at h)<;>first | (simp at h;done) | (obtain⟨_,_,h⟩:=dZ h;obtain⟨_,_,h⟩:=dZ h;simp at h)
 case extract=>simp_all
 case call=>(repeat' split at h)<;>first | (simp at h;done) | (obtain⟨_,_,h⟩:=dZ h;obtain⟨_,_,h⟩:=dZ h;obtain⟨_,_,h⟩:=dZ h;simp at h) | (obtain⟨_,_,h⟩:=jm h;simp at h)
 all_goals simp at h
theorem I8(hI:Inv M σ [] [] a.tmps w G) {t:j3}(hok:yO P M isCall ops o t) (hcall:Bh P M isCall call) (hr:(evop call t.dst t.op).run σ=some ((),σ')):Ru P M σ' a o w:=by
 rcases hok.op with ⟨mv,hc⟩ | hc
 ·have hnc:=IA hc;by_cases hst:∃ty x y,o.op=.store ty x y
  ·obtain⟨ty,x,y,ho⟩:=hst;rw[ho] at hc;simp only[iq] at hc;obtain⟨n,h1,hc⟩:=dZ hc;obtain⟨u,h2,hc⟩:=dZ hc;obtain⟨x1,h3,hc⟩:=dZ hc;obtain⟨y1,h4,hc⟩:=dZ hc
   injection hc with hc
   rw[<- hc] at hr;simp only[evop] at hr
   cases hd:t.dst with
   | some d=>simp[hd,SP.run] at hr
   | none=>
    simp only[hd] at hr;have hg:=oH h2;exact (Lt hI (d:=0) (by rw[<- hok.dst,hd]) h3 h4 ho h1 (by simpa using hg) hr).simO
  ·cases hd:t.dst with
   | none=>
    exfalso;rw[hd] at hr
    cases ht:t.op<;>rw[ht] at hr<;>simp only[evop,SP.run] at hr<;>first | (simp at hr;done) | skip
    ·rename_i n mv' a' x';rw[ht] at hc;cases ho:o.op<;>rw[ho] at hc hst<;>simp only[iq] at hc
     case store=>exact hst ⟨_,_,_,rfl⟩
     case move x=>split at hc<;>first | (simp at hc;done) | (obtain⟨_,_,h⟩:=jm hc;simp at h)
     case assign x=>split at hc<;>(obtain⟨_,_,h⟩:=jm hc;simp at h)
     case pick=>obtain⟨_,_,h⟩:=dZ hc;obtain⟨_,_,h⟩:=dZ h;obtain⟨_,_,h⟩:=dZ h;simp at h
     case alloc=>obtain⟨_,_,h⟩:=jm hc;simp at h
     case box=>obtain⟨_,_,h⟩:=dZ hc;obtain⟨_,_,h⟩:=dZ h;unfold SE at h;split at h<;>simp at h
     case build=>(repeat' split at hc)<;>first | (simp at hc;done) | (obtain⟨_,_,h⟩:=dZ hc;obtain⟨_,_,h⟩:=dZ h;simp at h) | (obtain⟨_,_,h⟩:=dZ hc;simp at h)
     case buildSlice=>(repeat' split at hc)<;>first | (simp at hc;done) | (obtain⟨_,_,h⟩:=dZ hc;obtain⟨_,_,h⟩:=dZ h;simp at h)
     case load=>obtain⟨_,_,h⟩:=dZ hc;obtain⟨_,_,h⟩:=dZ h;simp at h
     case nilCheck=>obtain⟨_,_,h⟩:=jm hc;simp at h
     case binOp=>(repeat' split at hc)<;>first | (simp at hc;done) | (obtain⟨_,_,h⟩:=dZ hc;obtain⟨_,_,h⟩:=dZ h;simp at h)
     case unOp=>obtain⟨_,_,h⟩:=jm hc;simp at h
     case convert=>(repeat' split at hc)<;>first | (simp at hc;done) | (obtain⟨_,_,h⟩:=jm hc;simp at h)
     case makeFunc=>split at hc<;>first | (simp at hc;done) | (obtain⟨_,_,h⟩:=dZ hc;obtain⟨_,_,h⟩:=dZ h;simp at h)
     case makeSlice=>(repeat' split at hc)<;>first | (simp at hc;done) | (obtain⟨_,_,h⟩:=dZ hc;obtain⟨_,_,h⟩:=dZ h;obtain⟨_,_,h⟩:=dZ h;simp at h)
     case slice=>(repeat' split at hc)<;>first | (simp at hc;done) | (obtain⟨_,_,h⟩:=dZ hc;obtain⟨_,_,h⟩:=dZ h;obtain⟨_,_,h⟩:=dZ h;simp at h;done) | (obtain⟨_,_,h⟩:=dZ hc;obtain⟨_,_,h⟩:=dZ h;obtain⟨_,_,h⟩:=dZ h;obtain⟨_,_,h⟩:=dZ h;simp at h)
     case fieldAddr=>(repeat' split at hc)<;>first | (simp at hc;done) | (obtain⟨_,_,h⟩:=jm hc;simp at h)
     case field=>(repeat' split at hc)<;>first | (simp at hc;done) | (obtain⟨_,_,h⟩:=dZ hc;obtain⟨_,_,h⟩:=dZ h;simp at h)
     case indexAddr=>(repeat' split at hc)<;>first | (simp at hc;done) | (obtain⟨_,_,h⟩:=dZ hc;obtain⟨_,_,h⟩:=dZ h;obtain⟨_,_,h⟩:=dZ h;simp at h)
     case index=>(repeat' split at hc)<;>first | (simp at hc;done) | (obtain⟨_,_,h⟩:=dZ hc;obtain⟨_,_,h⟩:=dZ h;simp at h)
     case extract=>obtain⟨_,_,h⟩:=jm hc;simp at h
     case call=>(repeat' split at hc)<;>first | (simp at hc;done) | (obtain⟨_,_,h⟩:=dZ hc;obtain⟨_,_,h⟩:=dZ h;obtain⟨_,_,h⟩:=dZ h;simp at h) | (obtain⟨_,_,h⟩:=jm hc;simp at h)
     all_goals simp at hc
    ·exact absurd ht (hnc _ _ _)
   | some d=>
    have Wc:o.dst=some d:=by rw[<- hok.dst,hd]
    obtain⟨h1,h2⟩:=hok.lt d Wc
    have XH:(ev1 d t.op).run σ=some ((),σ'):=by
     rw[hd] at hr
     cases ht:t.op<;>rw[ht] at hr<;>simp only[evop] at hr<;>first | exact hr | (simp[SP.run] at hr;done) | exact absurd ht (hnc _ _ _)
    exact (P8 hI Wc h1 h2 hc XH hst).simO
 ·exact hcall o t.op σ σ' a w G hc hok.lt hI (by rw[<- hok.dst];exact hr)
theorem EW{F:Nat->Prop}{V:Vs}{C:Cs}:TmR w F V C G (.tup []) undef:=.tup (by simp) λj hj=>by simp at hj
theorem P7{tops:List j3}(hlen:tops.length=ops.size) (hok:∀i (h:i < ops.size) (h':i < tops.length),yO P M isCall ops ops[i] tops[i]) (hcall:Bh P M isCall call) {Q:Exit->Act->World->Prop} :
 ∀(L:List Nat) (σ:St) (a:Act) (w:World) (G:Gh),(∀i∈L,i < ops.size)->Inv M σ [] [] a.tmps w G->vo call (L.map λi=>tops.getD i ⟨none,none,.lens (.t 0)⟩) σ=some σ' ->
  (∀a' w' G',Inv M σ' [] [] a'.tmps w' G'->a'.defers=a.defers->Q .normal a' w')->wpOps P ops Q L a w:=by
 intro L
 induction L with
 | nil=>
  intro σ a w G _ hI hr hQ;simp only[List.map_nil,vo,oSJ] at hr;subst hr;exact hQ a w G hI rfl
 | cons i L ih=>
  intro σ a w G hL hI hr hQ;have hi:i < ops.size:=hL i (by simp)
  have ZG:i < tops.length:=by omega
  simp only[List.map_cons,vo] at hr
  have e:tops.getD i ⟨none,none,.lens (.t 0)⟩=tops[i]:=by simp[ZG]
  rw[e] at hr
  cases hro:Da call tops[i] σ with
  | none=>simp[hro] at hr
  | some σ1=>
   simp only[hro,oBS] at hr;have hop:=hok i hi ZG;simp only[wpOps,Array.getElem?_eq_getElem hi]
   have go:(evop call tops[i].dst tops[i].op).run σ=some ((),σ1)->ops[i].wp P a w (wpOps P ops Q L) Q:=λh=>by
    refine I8 hI hop hcall h _ _ λa' w' G' ZD hd=>?_;exact ih σ1 a' w' G' (λj hj=>hL j (by simp[hj])) ZD hr (λa2 w2 G2 h2 hd2=>hQ a2 w2 G2 h2 (hd2.trans hd))
   have skip:(match tops[i].dst with | some d=>some { σ with tm:=gV σ.tm d (.tup []) } | none=>some σ)=some σ1->wpOps P ops Q L (a.put ops[i].dst undef) w:=λh=>by
    rw[hop.dst] at h
    cases hd:ops[i].dst with
    | none=>
     rw[hd] at h
     injection h with h
     subst h;exact ih σ a w G (λj hj=>hL j (by simp[hj])) hI hr hQ
    | some d=>
     rw[hd] at h
     injection h with h
     subst h;exact ih _ (a.put (some d) undef) w G (λj hj=>hL j (by simp[hj])) (hI.wrT (hop.lt d hd).1 EW) hr (λa2 w2 G2 h2 hd2=>hQ a2 w2 G2 h2 hd2)
   unfold Da at hro;rcases hop.guard with ⟨g1,g2⟩ | ⟨j,want,dj,g1,g2,g3⟩
   ·rw[oIP (by simp[Region.wanted,g1])];left;simp only[g2] at hro;obtain⟨⟨u,σ2⟩,h1,h2⟩:=jm hro;exact go (by rw[h1];simp only at h2;rw[h2])
   ·simp only[g2] at hro
    have hy:yielded ops a.tmps j=match (a.tmps[dj]?:Option Value) with | some (.bool b)=>some b | _=>none:=by
     unfold yielded;rw[g3];rfl
    have Zl:=hI.tmr dj
    cases hs:σ.t dj with
    | v x=>
     rw[hs] at Zl hro;obtain⟨hx,_⟩:=Zl.v_inv
     cases x with
     | bool b=>
      have Z5:a.tmps[dj]?=some (.bool b):=by
       rw[Array.getD_eq_getD_getElem?] at hx
       cases hq:a.tmps[dj]? with
       | none=>rw[hq] at hx;simp[undef] at hx
       | some v=>rw[hq] at hx;simp at hx;rw[hx]
      have WJ:yielded ops a.tmps j=some b:=by rw[hy,Z5]
      simp only at hro;by_cases hb:b=want
      ·rw[oIP hb] at hro;rw[oIP (by simp[Region.wanted,g1,WJ,hb])];left;obtain⟨⟨u,σ2⟩,h1,h2⟩:=jm hro;exact go (by rw[h1];simp only at h2;rw[h2])
      ·rw[oIN hb] at hro;rw[oIN (by simp[Region.wanted,g1,WJ,hb])];exact skip hro
     | _=>simp at hro
    | tup l=>
     rw[hs] at Zl hro
     cases l with
     | nil=>
      have hu:a.tmps.getD dj undef=undef:=by
       generalize a.tmps.getD dj undef=z at Zl
       cases Zl with
       | @tup _ xs hl _=>have:xs=#[]:=by apply Array.eq_empty_of_size_eq_zero;simpa using hl
                         rw[this];rfl
      have WJ:yielded ops a.tmps j=none:=by
       rw[hy];rw[Array.getD_eq_getD_getElem?] at hu
       cases hq:a.tmps[dj]? with
       | none=>rfl
       | some v=>
        rw[hq] at hu;simp only[Option.getD_some] at hu;rw[hu];rfl
      simp only at hro;rw[oIN (by simp[Region.wanted,g1,WJ])];exact skip hro
     | cons=>simp at hro
    | _=>rw[hs] at hro;simp at hro
end
section
variable {P:Program} {M:Fm} {σ σ':St} {H:List TV} {xs:List Value} {ts:Array Value} {w:World} {G:Gh} {a:Act} {o:Oper} {isCall:Op->TOp->Prop} {call:Option Nat->TOp->SP Unit} {ops:Array Oper}
theorem Inv.congr(hI:Inv M σ H xs ts w G) (hs:Rm σ σ'):Inv M σ' H xs ts w G:=by
 have hc:eS M σ' H=eS M σ H:=by
  funext r o;unfold eS;split
  ·rfl
  ·exact (hs (.c r o)).symm
 have hv:σ'.v=σ.v:=by funext q;exact (hs (.v q)).symm
 have hn:∀r l,eU σ'.ce r=some l->∃l0,eU σ.ce r=some l0/\l0.length=l.length:=by
  intro r l h;have h1:(eU σ.ce r).map List.length=(eU σ'.ce r).map List.length:=hs (.n r)
  simp_all
 refine⟨by rw[hc];exact hI.core,λi=>?_,hI.fram,λr l h=>?_,hI.size,hI.hand,hI.hval,λr b o n hb l h=>?_⟩
 ·have ht:σ'.t i=σ.t i:=by
   have:eU σ.tm i=eU σ'.tm i:=hs (.t i);simp[St.t,this]
  rw[hc,hv,ht];exact hI.tmr i
 ·have ⟨l0,h1,_⟩:=hn r l h;exact hI.keys r l0 h1
 ·have ⟨l0,h1,h2⟩:=hn r l h;rw[<- h2];exact hI.shape r b o n hb l0 h1
theorem NY{t:j3}{i:Nat}{Q:Exit->Act->World->Prop}{K:Act->World->Prop}(hi:i < ops.size) (hop:yO P M isCall ops ops[i] t) (hcall:Bh P M isCall call) (hI:Inv M σ [] [] a.tmps w G) (hro:Da call t σ=some σ')
 (hK:∀a' w' G',Inv M σ' [] [] a'.tmps w' G'->a'.defers=a.defers->K a' w'):wpOp P ops Q i K a w:=by
 unfold wpOp;simp only[Array.getElem?_eq_getElem hi]
 have go:(evop call t.dst t.op).run σ=some ((),σ')->ops[i].wp P a w K Q:=λh=>by
  exact I8 hI hop hcall h _ _ hK
 have skip:(match t.dst with | some d=>some { σ with tm:=gV σ.tm d (.tup []) } | none=>some σ)=some σ'->K (a.put ops[i].dst undef) w:=λh=>by
  rw[hop.dst] at h
  cases hd:ops[i].dst with
  | none=>
   rw[hd] at h
   injection h with h
   subst h;exact hK a w G hI rfl
  | some d=>
   rw[hd] at h
   injection h with h
   subst h;exact hK (a.put (some d) undef) w G (hI.wrT (hop.lt d hd).1 EW) rfl
 unfold Da at hro;rcases hop.guard with ⟨g1,g2⟩ | ⟨j,want,dj,g1,g2,g3⟩
 ·rw[oIP (by simp[Region.wanted,g1])];left;simp only[g2] at hro;obtain⟨⟨u,σ2⟩,h1,h2⟩:=jm hro;exact go (by rw[h1];simp only at h2;rw[h2])
 ·simp only[g2] at hro
  have hy:yielded ops a.tmps j=match (a.tmps[dj]?:Option Value) with | some (.bool b)=>some b | _=>none:=by
   unfold yielded;rw[g3];rfl
  have Zl:=hI.tmr dj
  cases hs:σ.t dj with
  | v x=>
   rw[hs] at Zl hro;obtain⟨hx,_⟩:=Zl.v_inv
   cases x with
   | bool b=>
    have Z5:a.tmps[dj]?=some (.bool b):=by
     rw[Array.getD_eq_getD_getElem?] at hx
     cases hq:a.tmps[dj]? with
     | none=>rw[hq] at hx;simp[undef] at hx
     | some v=>rw[hq] at hx;simp at hx;rw[hx]
    have WJ:yielded ops a.tmps j=some b:=by rw[hy,Z5]
    simp only at hro;by_cases hb:b=want
    ·rw[oIP hb] at hro;rw[oIP (by simp[Region.wanted,g1,WJ,hb])];left;obtain⟨⟨u,σ2⟩,h1,h2⟩:=jm hro
     simp_all
    ·rw[oIN hb] at hro;rw[oIN (by simp[Region.wanted,g1,WJ,hb])];exact skip hro
   | _=>simp at hro
  | tup l=>
   rw[hs] at Zl hro
   cases l with
   | nil=>
    have hu:a.tmps.getD dj undef=undef:=by
     generalize a.tmps.getD dj undef=z at Zl
     cases Zl with
     | @tup _ xs hl _=>have:xs=#[]:=by apply Array.eq_empty_of_size_eq_zero;simpa using hl
                       rw[this];rfl
    have WJ:yielded ops a.tmps j=none:=by
     rw[hy];rw[Array.getD_eq_getD_getElem?] at hu
     cases hq:a.tmps[dj]? with
     | none=>rfl
     | some v=>
      rw[hq] at hu;simp only[Option.getD_some] at hu;rw[hu];rfl
    rw[oIN (by simp[Region.wanted,g1,WJ])];exact skip hro
   | cons=>simp at hro
  | _=>rw[hs] at hro;simp at hro
structure Bg (ops:Array Oper) (deps:List (List Nat)):Prop where
 back:∀i (h:i < ops.size),∀e∈ops[i].after,Region.binds .any e=true->e.on < i
 dep:∀i (h:i < ops.size),∀j∈deps.getD i [],∃e∈ops[i].after,Region.binds .any e=true/\(e.on=j\/j∈deps.getD e.on [])
theorem xP{deps:List (List Nat)}{x:Nat×t9}:∀{l l':List (Nat×t9)},jY deps (l++x :: l')=true->jY deps (l++l')=true/\∀y∈l,rz y.2 x.2=false\/y.1∈deps.getD x.1 []:=by
 intro l
 induction l with
 | nil=>
  intro l' h;simp only[List.nil_append,jY,oBA] at h
  simp_all
 | cons z l ih=>
  intro l' h;simp only[List.cons_append,jY,oBA,List.all_eq_true] at h;obtain⟨h1,h2⟩:=ih h.2;refine⟨by simp only[List.cons_append,jY,oBA,List.all_eq_true];exact⟨λy hy=>h.1 y (by rcases List.mem_append.1 hy with hy | hy<;>simp[hy]),h1⟩,λy hy=>?_⟩;rcases List.mem_cons.1 hy with rfl | hy
  ·simp_all
  ·exact h2 y hy
theorem Qp{tops:List j3}{deps:List (List Nat)}(hlen:tops.length=ops.size) (hok:∀i (h:i < ops.size) (h':i < tops.length),yO P M isCall ops ops[i] tops[i]) (hcall:Bh P M isCall call) (YF:Bg ops deps) {Q:Exit->Act->World->Prop} :
 ∀(n:Nat) (C:List Nat) (ZU:Array Bool) (σ:St) (a:Act) (w:World) (G:Gh) (fs:List (Nat×t9)) (τ:St),C.length=n->ZU.size=ops.size->C.Pairwise (· < ·)->(∀j,j∈C↔j < ops.size/\ZU.getD j true=false) ->
  (∀i,ZU.getD i false=true->∀j∈deps.getD i [],ZU.getD j false=true)->Inv M σ [] [] a.tmps w G->ub (λi=>spOp call (tops.getD i Hk)) C σ=some (fs,τ)->jY deps fs=true ->
  (∀a' w' G',Inv M τ [] [] a'.tmps w' G'->a'.defers=a.defers->Q .normal a' w')->wpAny P .any ops Q n ZU a w:=by
 have Wd:∀{ZU:Array Bool},ZU.size=ops.size->∀j,j < ops.size->(ZU.getD j true=false↔¬ ZU.getD j false=true):=by
  intro ZU hs j hj
  have:j < ZU.size:=by omega
  simp[Array.getD_eq_getD_getElem?,this]
 intro n
 induction n with
 | zero=>
  intro C ZU σ a w G fs τ hC hs Yl Zv Zd hI hr hp hQ;have hC:C=[]:=oEN hC;subst hC;obtain⟨rfl,rfl⟩:=hr;refine⟨?_,hQ a w G hI rfl⟩;apply List.eq_nil_iff_forall_not_mem.2;intro j hj;obtain⟨h1,o,h2,_⟩:=mem_ready.1 hj;have:=(Zv j).2 ⟨(Array.getElem?_eq_some_iff.1 h2).1,h1⟩;simp at this
 | succ n ih=>
  intro C ZU σ a w G fs τ hC hs Yl Zv Zd hI hr hp hQ;refine⟨λhnil=>?_,λi hi=>?_⟩
  ·exfalso
   cases C with
   | nil=>simp at hC
   | cons h C=>
    have hh:=(Zv h).1 (by simp)
    have:h∈Region.ready .any ops ZU:=by
     refine mem_ready.2 ⟨hh.2,ops[h]'hh.1,Array.getElem?_eq_getElem hh.1,λe he hb=>?_⟩;have hlt:=YF.back h hh.1 e he hb
     have hes:e.on < ops.size:=by omega
     cases hl:ZU.getD e.on false with
     | true=>rfl
     | false=>
      have hm:=(Zv e.on).2 ⟨hes,(Wd hs _ hes).2 (by rw[hl];simp)⟩;rcases List.mem_cons.1 hm with e1 | e1
      ·omega
      ·have:=(List.pairwise_cons.1 Yl).1 _ e1;omega
    rw[hnil] at this;simp at this
  ·obtain⟨h1,o,h2,h3⟩:=mem_ready.1 hi;have his:i < ops.size:=(Array.getElem?_eq_some_iff.1 h2).1
   have hoe:o=ops[i]:=by rw[Array.getElem?_eq_getElem his] at h2;injection h2 with h2;exact h2.symm
   subst hoe;have hiC:=(Zv i).2 ⟨his,h1⟩;obtain⟨pre,post,rfl⟩:=List.append_of_mem hiC
   have hdep:∀j∈deps.getD i [],ZU.getD j false=true:=λj hj=>by
    obtain⟨e,he,hb,h4⟩:=YF.dep i his j hj;have hl:=h3 e he hb;rcases h4 with rfl | h4
    ·exact hl
    ·exact Zd _ hl j h4
   have UF:∀Ye F W9,fs=Ye++(i,F) :: W9->Ye.map (·.1)=pre->∀y∈Ye,rz y.2 F=false:=by
    rintro Ye F W9 rfl WZ y hy;rcases (xP hp).2 y hy with h | h
    ·exact h
    ·have hyC:y.1∈pre++i :: post:=by rw[<- WZ];exact List.mem_append_left _ (List.mem_map_of_mem hy)
     have:=(Zv y.1).1 hyC;exact absurd (hdep _ h) ((Wd hs _ this.1).1 this.2)
   obtain⟨σ',τ',Ye,F,W9,rfl,WZ,hrun,_,ZS,Yk⟩:=HB hr UF
   have ZG:i < tops.length:=by omega
   have e:tops.getD i Hk=tops[i]:=by simp[ZG]
   simp only[e] at hrun;refine NY his (hok i his ZG) hcall hI (IY hrun) λa' w' G' ZD hd=>?_
   have hne:∀j∈pre++post,j≠i:=λj hj e=>by
    subst e;rw[List.pairwise_append] at Yl;rcases List.mem_append.1 hj with hj | hj
    ·have:=Yl.2.2 j hj j (by simp);omega
    ·have:=(List.pairwise_cons.1 Yl.2.1).1 j hj;omega
   refine ih (pre++post) (ZU.setIfInBounds i true) σ' a' w' G' (Ye++W9) τ' (by simp at hC ⊢;omega) (by simp[hs]) ?_ (λj=>?_) (λk hk j hj=>?_) ZD ZS (xP hp).1 λa2 w2 G2 h4 h5=>hQ a2 w2 G2 (h4.congr λx=>(Yk x).symm) (h5.trans hd)
   ·refine Yl.sublist ?_;exact List.Sublist.append_left (List.sublist_cons_self i post) pre
   ·constructor
    ·intro hj
     have hjC:j∈pre++i :: post:=by rcases List.mem_append.1 hj with hj | hj<;>simp[hj]
     have:=(Zv j).1 hjC;exact⟨this.1,by rw[getD_set_ne true (Ne.symm (hne j hj))];exact this.2⟩
    ·rintro⟨hj1,XD⟩
     have hji:j≠i:=by
      rintro rfl
      have:j < ZU.size:=by omega
      simp[Array.getD_eq_getD_getElem?,this] at XD
     rw[getD_set_ne true (Ne.symm hji)] at XD;have:=(Zv j).2 ⟨hj1,XD⟩;rcases List.mem_append.1 this with h | h
     ·exact List.mem_append_left _ h
     ·rcases List.mem_cons.1 h with h | h
      ·exact absurd h hji
      ·exact List.mem_append_right _ h
   ·by_cases hki:k=i
    ·subst hki;exact getD_set_true (hdep j hj)
    ·rw[getD_set_ne false (Ne.symm hki)] at hk;exact getD_set_true (Zd k hk j hj)
theorem I9{tops:List j3}{deps:List (List Nat)}{id:Nat}(hm:P.follows .mixedOrders=true) (hlen:tops.length=ops.size) (hok:∀i (h:i < ops.size) (h':i < tops.length),yO P M isCall ops ops[i] tops[i]) (hcall:Bh P M isCall call) (YF:Bg ops deps)
 {Q:Exit->Act->World->Prop} {fs:List (Nat×t9)} {τ:St} (hI:Inv M σ [] [] a.tmps w G) (hr:ub (λi=>spOp call (tops.getD i Hk)) (List.range tops.length) σ=some (fs,τ)) (hp:jY deps fs=true)
 (hQ:∀a' w' G',Inv M τ [] [] a'.tmps w' G'->a'.defers=a.defers->Q .normal a' w'):(Code.region id ops true).wp P Q a w:=by
 refine wp_region_any hm ?_
 have ZD:Inv M σ [] [] a.tmps { w with drawn:=w.drawn+1 } G:=by
  exact (hI.grow (w':={ w with drawn:=w.drawn+1 }) (λ_ _=>rfl) (Nat.le_refl _) rfl rfl rfl).1
 refine Qp hlen hok hcall YF ops.size (List.range ops.size) _ σ a _ G fs τ (by simp) (by simp) List.pairwise_lt_range (λj=>?_) (λi hi=>?_) ZD (by simp_all) hp hQ
 ·simp_all
 ·exfalso;rw[Array.getD_eq_getD_getElem?,Array.getElem?_replicate] at hi;split at hi<;>simp at hi
end
def SP.quiet{α:Type}(d:Nat) (S:List Nat):SP α->Prop
 | .ret _=>True
 | .fail=>True
 | .rdT i k=>i∈S/\∀t,(k t).quiet d S
 | .rdC _ _ k=>∀t,(k t).quiet d S
 | .rdH _ _ k=>∀t,(k t).quiet d S
 | .rdV _ k=>∀n,(k n).quiet d S
 | .wrT i _ k=>i=d/\k.quiet d S
 | .wrC _ _ _ _=>False
 | .new _ _ _=>False
 | .bump _ _=>False
theorem dN{α β:Type}{d:Nat}{S:List Nat}{s:SP α}{f:α->SP β}(h:s.quiet d S) (hf:∀a,(f a).quiet d S):(s.bind f).quiet d S:=by
 induction s with
 | ret a=>exact hf a
 | fail=>exact trivial
 | rdT i k ih=>exact⟨h.1,λt=>ih t (h.2 t)⟩
 | rdC r o k ih=>exact λt=>ih t (h t)
 | rdH r o k ih=>exact λt=>ih t (h t)
 | rdV q k ih=>exact λn=>ih n (h n)
 | wrT i t k ih=>exact⟨h.1,ih h.2⟩
 | wrC r o t k ih=>exact h.elim
 | new r l k ih=>exact h.elim
 | bump q k ih=>exact h.elim
theorem rO{α:Type}{d:Nat}{S:List Nat}{s:SP α}(h:s.quiet d S) (σ:St):(∀x∈(s.foot σ).2,x=.t d)/\∀i,Loc.t i∈(s.foot σ).1->i∈S:=by
 induction s generalizing σ with
 | ret a=>exact⟨λx hx=>by simp[SP.foot] at hx,λi hi=>by simp[SP.foot] at hi⟩
 | fail=>exact⟨λx hx=>by simp[SP.foot] at hx,λi hi=>by simp[SP.foot] at hi⟩
 | rdT i k ih=>
  obtain⟨h1,h2⟩:=ih _ (h.2 (σ.t i)) σ;refine⟨h1,λj hj=>?_⟩;simp only[SP.foot,List.mem_cons] at hj;rcases hj with hj | hj
  ·injection hj with hj;subst hj;exact h.1
  ·exact h2 j hj
 | rdC r o k ih=>
  obtain⟨h1,h2⟩:=ih _ (h (σ.c r o)) σ;refine⟨h1,λj hj=>?_⟩;simp only[SP.foot] at hj
  simp_all
 | rdH r o k ih=>
  obtain⟨h1,h2⟩:=ih _ (h (σ.c r o).hd) σ;refine⟨h1,λj hj=>?_⟩;simp only[SP.foot,List.mem_cons] at hj
  simp_all
 | rdV q k ih=>
  obtain⟨h1,h2⟩:=ih _ (h (σ.v q)) σ;refine⟨h1,λj hj=>?_⟩;simp only[SP.foot,List.mem_cons] at hj
  simp_all
 | wrT i t k ih=>
  obtain⟨h1,h2⟩:=ih h.2 { σ with tm:=gV σ.tm i t };refine⟨λx hx=>?_,h2⟩;simp only[SP.foot,List.mem_cons] at hx;rcases hx with hx | hx
  ·rw[hx,h.1]
  ·exact h1 x hx
 | wrC r o t k ih=>exact h.elim
 | new r l k ih=>exact h.elim
 | bump q k ih=>exact h.elim
def iD:Opd->List Nat
 | .t i=>[i]
 | _=>[]
def gS:TOp->Option (List Nat)
 | .mov (.t i)=>some [i]
 | .mov (.c x)=>match xd x with | .v _=>some [] | _=>none
 | .pick c a b=>some (iD c++(iD a++iD b))
 | .load _ a=>some (iD a)
 | .nilc x=>some (iD x)
 | .fld _ a=>some (iD a)
 | .fldv _ _ x=>some (iD x)
 | .idx _ x i=>some (iD x++iD i)
 | .idxa _ _ x i=>some (iD x++iD i)
 | .ext x _=>some (iD x)
 | .bin _ x y=>some (iD x++iD y)
 | .bnb _ x y=>some (iD x++iD y)
 | .eqa _ _ x y=>some (iD x++iD y)
 | .un _ x=>some (iD x)
 | .conv _ x=>some (iD x)
 | .len x=>some (iD x)
 | .lens x=>some (iD x)
 | .ixs x i=>some (iD x++iD i)
 | _=>none
section
variable {d:Nat} {S:List Nat}
theorem fj{x:Opd}(h:∀i∈iD x,i∈S):(opd x).quiet d S:=by
 cases x with
 | t i=>exact⟨h i (by simp[iD]),λ_=>trivial⟩
 | _=>exact trivial
theorem w8{l:List Key}:(rdVs l).quiet d S:=by
 induction l with
 | nil=>exact trivial
 | cons q l ih=>exact λn=>dN ih λ_=>trivial
theorem nb{p:ek}{n:Nat}{vs:List Nat}:(chk p n vs).quiet d S:=dN w8 λl=>by split<;>exact trivial
theorem oC{p:ek}:(getPl p).quiet d S:=λtv=>by
 show SP.quiet d S (match eM tv p.hops with | some t=>SP.ret t | none=>SP.fail);cases eM tv p.hops<;>exact trivial
theorem CC{p:ek}:(QZ p).quiet d S:=by
 unfold QZ;split
 ·exact λ_=>trivial
 ·exact dN oC λ_=>trivial
theorem uP{p:ek}{t:TV}:(peek1 p t).quiet d S:=by
 cases t with
 | ow c=>exact dN w8 λ_=>trivial
 | _=>exact trivial
theorem HC{p:ek}:(peekP p).quiet d S:=by
 unfold peekP;split
 ·refine λh=>?_
  cases h with
  | some ls=>exact dN w8 λ_=>trivial
  | none=>exact dN oC λ_=>uP
 ·exact dN oC λ_=>uP
theorem HD:∀{n:Nat}{p:ek},(peekL p n).quiet d S:=by
 intro n
 induction n with
 | zero=>intro p;exact trivial
 | succ n ih=>
  refine dN oC λt=>dN uP λt'=>?_;split
  ·exact trivial
  ·split
   ·exact dN ih λ_=>trivial
   ·exact trivial
theorem fE{t:TV}:(wr d t).quiet d S:=⟨rfl,trivial⟩
theorem mq{t:TV}:(wP t).quiet d S:=by cases t<;>exact trivial
theorem uQ{t:TV}:(natOf t).quiet d S:=by
 cases t with
 | v x=>
  cases x with
  | int k n=>cases n<;>exact trivial
  | _=>exact trivial
 | _=>exact trivial
theorem oB{α:Type}{o:Option α}:(nv o).quiet d S:=by cases o<;>exact trivial
theorem Fe{t:TV}:(qu t).quiet d S:=by
 cases t with
 | pk p vs=>exact dN nb λ_=>dN CC λt=>by cases t<;>exact trivial
 | pw p vs sz lo n=>exact dN nb λ_=>trivial
 | ow c=>cases c<;>exact trivial
 | _=>exact trivial
theorem Ff{op:TOp}(h:gS op=some S):(ev1 d op).quiet d S:=by
 cases op with
 | mov x=>
  cases x with
  | t i=>
   simp only[gS,oSJ] at h;subst h;refine dN (fj λj hj=>by simpa [iD] using hj) λt=>?_
   cases t with
   | ow c=>exact trivial
   | agg l=>
    simp only;split
    ·exact trivial
    ·exact fE
   | _=>exact fE
  | c x=>
   simp only[gS] at h;split at h
   ·rename_i y hy
    have e:ev1 d (.mov (.c x))=wr d (.v y):=by simp only[ev1,opd,hy,SP.bind]
    rw[e];exact fE
   ·simp at h
  | f _=>simp[gS] at h
 | pick c a b=>
  simp only[gS,oSJ] at h;subst h;refine dN (fj λj hj=>by simp[hj]) λt=>?_;split
  ·rename_i bb
   refine dN ?_ λt=>by split<;>first | exact fE | exact trivial
   cases bb
   ·exact fj λj hj=>by simp at hj;simp[hj]
   ·exact fj λj hj=>by simp at hj;simp[hj]
  ·exact trivial
 | load n a=>
  simp only[gS,oSJ] at h;subst h;refine dN (fj λj hj=>by simpa using hj) λt=>?_;split
  ·refine dN nb λ_=>?_
   cases n with
   | none=>exact dN HC λ_=>fE
   | some n=>exact dN HD λ_=>fE
  ·split<;>first | exact fE | exact trivial
  ·exact trivial
 | nilc x=>
  simp only[gS,oSJ] at h;subst h;refine dN (fj λj hj=>by simpa using hj) λt=>?_;split
  ·exact dN nb λ_=>fE
  ·exact fE
  ·exact fE
  ·exact trivial
 | fld off a=>
  simp only[gS,oSJ] at h;subst h;refine dN (fj λj hj=>by simpa using hj) λt=>?_;split
  ·refine dN nb λ_=>?_
   split<;>first | exact fE | exact trivial
  ·split<;>first | exact fE | exact trivial
  ·exact trivial
 | fldv off n x=>
  simp only[gS,oSJ] at h;subst h;refine dN (fj λj hj=>by simpa using hj) λt=>?_
  (repeat' split)<;>first | exact fE | exact trivial
 | idx sz x i=>
  simp only[gS,oSJ] at h;subst h;refine dN (fj λj hj=>by simp[hj]) λt=>dN (fj λj hj=>by simp[hj]) λti=>dN uQ λk=>?_;split
  ·exact dN nb λ_=>dN CC λt=>by (repeat' split)<;>first | exact fE | exact trivial
  ·exact dN nb λ_=>dN oC λt=>by (repeat' split)<;>first | exact fE | exact trivial
  ·split<;>first | exact fE | exact trivial
  ·exact trivial
 | idxa n sz x i=>
  simp only[gS,oSJ] at h;subst h;refine dN (fj λj hj=>by simp[hj]) λt=>dN (fj λj hj=>by simp[hj]) λti=>dN uQ λk=>?_;split
  ·exact dN nb λ_=>by split<;>first | exact fE | exact trivial
  ·exact trivial
 | ext x i=>
  simp only[gS,oSJ] at h;subst h;refine dN (fj λj hj=>by simpa using hj) λt=>?_
  (repeat' split)<;>first | exact fE | exact trivial
 | bin op x y=>
  simp only[gS,oSJ] at h;subst h;refine dN (fj λj hj=>by simp[hj]) λt=>dN (fj λj hj=>by simp[hj]) λti=>dN mq λ_=>dN mq λ_=>dN oB λr=>?_
  split<;>first | exact fE | exact trivial
 | bnb neg x y=>
  simp only[gS,oSJ] at h;subst h;refine dN (fj λj hj=>by simp[hj]) λt=>dN (fj λj hj=>by simp[hj]) λti=>dN mq λ_=>dN mq λ_=>?_
  split<;>first | exact fE | exact trivial
 | eqa ks neg x y=>
  simp only[gS,oSJ] at h;subst h;refine dN (fj λj hj=>by simp[hj]) λt=>dN (fj λj hj=>by simp[hj]) λti=>?_;split
  ·exact dN oB λ_=>dN oB λ_=>dN oB λ_=>fE
  ·exact trivial
 | un op x=>
  simp only[gS,oSJ] at h;subst h;refine dN (fj λj hj=>by simpa using hj) λt=>dN mq λ_=>dN oB λr=>?_
  split<;>first | exact fE | exact trivial
 | conv k x=>
  simp only[gS,oSJ] at h;subst h;refine dN (fj λj hj=>by simpa using hj) λt=>dN mq λ_=>?_
  split<;>first | exact fE | exact trivial
 | len x=>
  simp only[gS,oSJ] at h;subst h;exact dN (fj λj hj=>by simpa using hj) λt=>dN Fe λ_=>fE
 | lens x=>
  simp only[gS,oSJ] at h;subst h;refine dN (fj λj hj=>by simpa using hj) λt=>?_
  split<;>first | exact fE | exact trivial
 | ixs x i=>
  simp only[gS,oSJ] at h;subst h;refine dN (fj λj hj=>by simp[hj]) λt=>dN (fj λj hj=>by simp[hj]) λti=>dN uQ λk=>?_
  (repeat' split)<;>first | exact fE | exact trivial
 | _=>simp[gS] at h
end
def Jf(t:j3):Option (Nat×List Nat):=
 match t.dst,gS t.op with
 | some d,some S=>some (d,(match t.guard with | some (j,_)=>j :: S | none=>S))
 | _,_=>none
theorem yP{α:Type}{d:Nat}{S S':List Nat}(hs:∀i∈S,i∈S') {s:SP α}(h:s.quiet d S):s.quiet d S':=by
 induction s with
 | ret a=>exact trivial
 | fail=>exact trivial
 | rdT i k ih=>exact⟨hs i h.1,λt=>ih t (h.2 t)⟩
 | rdC r o k ih=>exact λt=>ih t (h t)
 | rdH r o k ih=>exact λt=>ih t (h t)
 | rdV q k ih=>exact λn=>ih n (h n)
 | wrT i t k ih=>exact⟨h.1,ih h.2⟩
 | wrC r o t k ih=>exact h.elim
 | new r l k ih=>exact h.elim
 | bump q k ih=>exact h.elim
theorem CA{call:Option Nat->TOp->SP Unit}{t:j3}{d:Nat}{S:List Nat}(h:Jf t=some (d,S)):(spOp call t).quiet d S:=by
 unfold Jf at h;split at h
 case h_2=>simp at h
 rename_i d' S' hd hq
 injection h with h
 injection h with h1 h2
 subst h1
 have X1:(evop call t.dst t.op)=ev1 d' t.op:=by
  rw[hd]
  cases hop:t.op<;>rw[hop] at hq<;>first | rfl | simp[gS] at hq
 have YM:(setNo t.dst).quiet d' S:=by rw[hd];exact⟨rfl,trivial⟩
 unfold spOp
 cases hg:t.guard with
 | none=>
  rw[hg] at h2;subst h2;rw[X1];exact Ff hq
 | some g=>
  obtain⟨j,want⟩:=g;rw[hg] at h2;subst h2;refine⟨by simp,λtv=>?_⟩;show SP.quiet d' (j :: S') (match tv with | .v (.bool b)=>if b=want then evop call t.dst t.op else setNo t.dst | .tup []=>setNo t.dst | _=>.fail);split
  ·split
   ·rw[X1];exact yP (by simp +contextual) (Ff hq)
   ·exact YM
  ·exact YM
  ·exact trivial
def PG(deps:List (List Nat)) (tops:List j3) (i j:Nat):Bool:=
 (deps.getD j []).contains i || (match Jf (tops.getD i Hk),Jf (tops.getD j Hk) with
  | some (di,Si),some (dj,Sj)=>di != dj && !Sj.contains di && !Si.contains dj
  | _,_=>false)
def Co(deps:List (List Nat)) (tops:List j3):List Nat->Bool
 | []=>true
 | i :: r=>(r.all λj=>PG deps tops i j) && Co deps tops r
theorem HE{a b:t9}{da db:Nat}{Sa Sb:List Nat}(ha:(∀x∈a.2,x=.t da)/\∀i,Loc.t i∈a.1->i∈Sa) (hb:(∀x∈b.2,x=.t db)/\∀i,Loc.t i∈b.1->i∈Sb) (h1:da≠db) (h2:da ∉ Sb) (h3:db ∉ Sa):rz a b=false:=by
 have hm:∀(l l':List Loc) (d d':Nat) (S:List Nat),(∀x∈l,x=.t d)->((∀x∈l',x=.t d')/\d≠d'\/(∀i,Loc.t i∈l'->i∈S)/\d ∉ S)->KB l l'=false:=by
  intro l l' d d' S hl Zg;unfold KB;simp;intro w hw x hx;rw[hl w hw]
  cases x with
  | t i=>
   simp[Loc.hit,beq_eq_false_iff_ne];intro e;rcases Zg with ⟨q1,q2⟩ | ⟨q1,q2⟩
   ·have:=q1 _ hx;injection this with this;omega
   ·simp_all
  | _=>rfl
 unfold rz;rw[hm a.2 b.1 da 0 Sb ha.1 (.inr ⟨hb.2,h2⟩),hm a.2 b.2 da db [] ha.1 (.inl ⟨hb.1,h1⟩),hm b.2 a.1 db 0 Sa hb.1 (.inr ⟨ha.2,h3⟩),hm b.2 a.2 db da [] hb.1 (.inl ⟨ha.1,Ne.symm h1⟩)];rfl
theorem Kf{call:Option Nat->TOp->SP Unit}{tops:List j3}{deps:List (List Nat)}:∀{L:List Nat}{σ τ:St}{fs:List (Nat×t9)},Co deps tops L=true->ub (λi=>spOp call (tops.getD i Hk)) L σ=some (fs,τ) ->
 jY deps fs=true/\fs.map (·.1)=L/\∀y∈fs,∃ σ1,y.2=(spOp call (tops.getD y.1 Hk)).foot σ1:=by
 intro L
 induction L with
 | nil=>
  intro σ τ fs _ hr;obtain⟨rfl,rfl⟩:=hr;exact⟨rfl,rfl,λy hy=>by simp at hy⟩
 | cons i L ih=>
  intro σ τ fs hs hr;simp only[Co,oBA,List.all_eq_true] at hs;simp only[ub] at hr;obtain⟨x,h1,h2⟩:=dZ hr;obtain⟨y,h3,h4⟩:=dZ h2;obtain⟨rfl,rfl⟩:=h4;obtain⟨Ye,τ1⟩:=y;obtain⟨q1,q2,q3⟩:=ih hs.2 h3;refine⟨?_,by simp[q2],λz hz=>?_⟩
  ·simp only[jY,oBA,List.all_eq_true];refine⟨λz hz=>?_,q1⟩
   have hzL:z.1∈L:=by rw[<- q2];exact List.mem_map_of_mem hz
   have hp:=hs.1 z.1 hzL;unfold PG at hp;simp only[Bool.or_eq_true] at hp ⊢;rcases hp with hp | hp
   ·exact .inr hp
   ·left;split at hp
    ·rename_i di Si dj Sj e1 e2;simp only[oBA,bne_iff_ne,ne_eq,Bool.not_eq_true',List.contains_eq_mem,decide_eq_false_iff_not] at hp;obtain⟨σ1,e3⟩:=q3 z hz;have:=HE (rO (CA (call:=call) e1) σ) (rO (CA (call:=call) e2) σ1) hp.1.1 hp.1.2 hp.2
     simp_all
    ·simp at hp
  ·rcases List.mem_cons.1 hz with rfl | hz
   ·exact⟨σ,rfl⟩
   ·exact q3 z hz
theorem Om{call:Option Nat->TOp->SP Unit}{o:j3}{σ σ':St}(h:Da call o σ=some σ'):(spOp call o).run σ=some ((),σ'):=by
 have YM:∀{σ'},(match o.dst with | some d=>some { σ with tm:=gV σ.tm d (.tup []) } | none=>some σ)=some σ'->(setNo o.dst).run σ=some ((),σ'):=by
  intro σ' h;unfold setNo
  cases hd:o.dst with
  | none=>rw[hd] at h;simp at h;simp[SP.run,h]
  | some d=>rw[hd] at h;simp at h;simp[SP.run,h]
 have hm:∀{s:SP Unit} {σ'},(s.run σ).map (·.2)=some σ'->s.run σ=some ((),σ'):=by simp_all
 unfold Da at h;unfold spOp
 cases hg:o.guard with
 | none=>rw[hg] at h;exact hm h
 | some g=>
  rw[hg] at h;simp only[SP.run] at h ⊢;split at h
  ·split at h
   ·rename_i UD;rw[oIP UD];exact hm h
   ·rename_i UD;rw[oIN UD];exact YM h
  ·exact YM h
  ·simp at h
theorem L7{call:Option Nat->TOp->SP Unit}{tops:List j3}:∀{L:List Nat}{σ τ:St},vo call (L.map λi=>tops.getD i Hk) σ=some τ->∃fs,ub (λi=>spOp call (tops.getD i Hk)) L σ=some (fs,τ):=by
 intro L
 induction L with
 | nil=>intro σ τ h;simp[vo] at h;subst h;exact⟨[],rfl⟩
 | cons i L ih=>
  intro σ τ h;have ⟨σ1,h1,h2⟩:=dZ h;have ⟨fs,h3⟩:=ih h2;refine⟨(i,(spOp call (tops.getD i Hk)).foot σ) :: fs,?_⟩;simp only[ub,Om h1,oBS,h3]
theorem Kj(tops:List j3):(List.range tops.length).map (λi=>tops.getD i Hk)=tops:=by
 apply List.ext_getElem?;intro i;by_cases h:i < tops.length
 ·simp[h]
 ·simp_all
def jW(P:Program) (M:Fm) (isCall:Op->TOp->Prop):ma->Code->Prop
 | .skip,c=>c=.skip
 | .nrm _,c=>c=.skip
 | .reg _ draw tops _,c=>∃id ops dr,c=.region id ops dr/\tops.length=ops.size/\(∀i (h:i < ops.size) (h':i < tops.length),yO P M isCall ops ops[i] tops[i])/\match draw with
  | some deps=>dr=true/\Bg ops deps/\P.follows .mixedOrders=true
  | none=>dr=true->∃deps,Bg ops deps/\P.follows .mixedOrders=true/\Co deps tops (List.range tops.length)=true
 | .seq x y,c=>∃x' y',c=.seq x' y'/\jW P M isCall x x'/\jW P M isCall y y'
 | .cond k x y,c=>∃k' x' y',c=.cond k' x' y'/\dV k'=some k/\jW P M isCall x x'/\jW P M isCall y y'
 | .block id x,c=>∃x',c=.block id x'/\jW P M isCall x x'
 | .loop x,c=>∃x',c=.loop x'/\jW P M isCall x x'
 | .exit id,c=>c=.exit id
 | .ret,c=>c=.ret
 | .pre l x,c=>(∀y∈l,y.1 < M.N)/\jW P M isCall x c
 | .post x l,c=>(∀y∈l,y.1 < M.N)/\jW P M isCall x c
def l9.toExit:l9->Exit
 | .normal=>.normal
 | .exit id=>.exit id
 | .ret=>.ret
section
variable {P:Program} {M:Fm} {isCall:Op->TOp->Prop} {call:Option Nat->TOp->SP Unit}
theorem p8.toTm{w:World}{F:Nat->Prop}{V:Vs}{C:Cs}{G:Gh}{t:TV}{x:Value}(h:p8 w F t x):TmR w F V C G t x:=by
 exact (ImF.im h).toTm
theorem Qq{σ σ':St}{ts:Array Value}{w:World}{G:Gh}(hI:Inv M σ [] [] ts w G) {x:Nat×Option Nat}(hx:x.1 < M.N) (hr:(shr1 x).run σ=some ((),σ')):∃G',Inv M σ' [] [] ts w G':=by
 obtain⟨i,off⟩:=x
 have same:some ((),σ)=some ((),σ')->∃G',Inv M σ' [] [] ts w G':=λh=>by
  simp only[oSJ,oPJ,true_and] at h;exact⟨G,h ▸ hI⟩
 have Zl:=hI.tmr i
 have drop:∀{t t':TV} {v:Value} {σ1:St} {H:List TV},TmR w (G.F M.A) σ.v (eS M σ []) G t v->(take1 false t).run σ=some (t',σ1)->t'≠.dead->∃G2,Inv M σ1 [] [] ts w G2/\TmR w (G2.F M.A) σ1.v (eS M σ1 []) G2 t'.imm v/\σ1.tm=σ.tm:=by
  intro t t' v σ1 H ht h1 Zr;obtain⟨G1,hg,_⟩:=jH hI ht h1
  obtain⟨G2,ZE,ZL⟩:=hg.1.dropImm (λj hj=>by
   obtain rfl:j=0:=by simpa using hj
   exact Zr)
  have h0:=ZL 0 (by simp);refine⟨G2,ZE.1,?_,ZE.2.2.2.trans hg.2.2.2⟩;exact h0.toTm
 unfold shr1 at hr;simp only[SP.run] at hr
 cases off with
 | none=>
  cases ht:σ.t i with
  | pk p vs=>
   rw[ht] at hr Zl;simp only at hr;obtain⟨t',σ1,h1,h2⟩:=dK hr;simp only[SP.run,oSJ,oPJ,true_and] at h2
   have Zr:t'≠.dead:=by
    intro e
    rcases mi h1 with h | h<;>rw[e] at h<;>simp[fX,oW] at h
   obtain⟨G2,ZH,YZ,_⟩:=drop (H:=[]) Zl h1 Zr;refine⟨G2,?_⟩;rw[<- h2];have:=ZH.wrT hx YZ
   have e:ts.setIfInBounds i (ts.getD i undef)=ts:=by
    apply Array.ext
    ·simp
    ·intro j h3 h4;rw[Array.getElem_setIfInBounds (by simpa using h4)]
     simp_all
   rw[e] at this;exact this
  | _=>rw[ht] at hr;exact same hr
 | some off=>
  cases ht:σ.t i with
  | ptr p vs=>
   rw[ht] at hr Zl;simp only at hr;obtain⟨_,σ1,h1,h2⟩:=dK hr;have e1:σ1=σ:=(eF h1).1;have e2:=(eF h1).2;subst e1;split at h2
   case isFalse=>simp[SP.run] at h2
   obtain⟨t,σ2,h3,h4⟩:=dK h2;obtain⟨e3,hg⟩:=gy h3;have e3:σ2=σ1:=e3;subst e3
   cases t with
   | ow c=>
    simp only at h4;obtain⟨t',σ3,h5,h6⟩:=dK h4;obtain⟨t2,σ4,h7,h8⟩:=dK h6;simp only[SP.run,oSJ,oPJ,true_and] at h8;subst h8
    cases Zl with
    | ptr V0 h0 hv h=>
     obtain⟨Z8,ad,t0,ha,_,_⟩:=h e2
     have Yj:(p.add off).root≠1:=by rw[fZ];exact Z8
     obtain⟨hB,u,fp,Y4,hown,WR⟩:=hI.named Yj (pO off ha) hg (by simp);obtain⟨rfl,ZK⟩:=vq hI Yj hg hown WR h5
     have Zr:t2≠.dead:=by
      intro e
      rcases mi h7 with h | h<;>rw[e] at h<;>simp[fX,oW] at h
     obtain⟨G2,ZH,_,_⟩:=drop (H:=[]) ZK h7 Zr;exact⟨G2,ZH⟩
   | _=>exact same h4
  | _=>rw[ht] at hr;exact same hr
theorem LU{ts:Array Value}{w:World}:∀{l:List (Nat×Option Nat)}{σ σ':St}{G:Gh},Inv M σ [] [] ts w G->(∀y∈l,y.1 < M.N)->(shrs l).run σ=some ((),σ')->∃G',Inv M σ' [] [] ts w G':=by
 intro l
 induction l with
 | nil=>
  intro σ σ' G hI _ hr;simp[shrs,SP.run] at hr;exact⟨G,hr ▸ hI⟩
 | cons x l ih=>
  intro σ σ' G hI hl hr;have ⟨_,σ1,h1,h2⟩:=dK hr;have ⟨G1,hI1⟩:=Qq hI (hl x (by simp)) h1;exact ih hI1 (λy hy=>hl y (by simp[hy])) h2
theorem Ja(hcall:Bh P M isCall call) (N:Nat):∀(tc:ma) (c:Code) (σ:St) (e:l9) (σ':St) (a:Act) (w:World) (G:Gh) (Q:Exit->Act->World->Prop),jW P M isCall tc c->runC call N tc σ=some (e,σ')->Inv M σ [] [] a.tmps w G ->
 (∀a' w' G',Inv M σ' [] [] a'.tmps w' G'->a'.defers=a.defers->Q e.toExit a' w')->c.wp P Q a w:=by
 intro tc
 induction tc with
 | skip=>
  intro c σ e σ' a w G Q hc hr hI hQ;simp only[jW] at hc;subst hc;simp only[runC,oSJ,oPJ] at hr;obtain⟨rfl,rfl⟩:=hr;exact wp_skip (hQ a w G hI rfl)
 | nrm pers=>
  intro c σ e σ' a w G Q hc hr hI hQ;simp only[jW] at hc;subst hc;obtain⟨rfl,rfl⟩:=hr;obtain⟨G2,ZH⟩:=hI.norm pers;exact wp_skip (hQ a w G2 ZH rfl)
 | reg id draw tops pers=>
  intro c σ e σ' a w G Q hc hr hI hQ;obtain⟨id',ops,dr,rfl,hlen,hok,hdr⟩:=hc;simp only[runC] at hr
  cases draw with
  | some deps=>
   simp only at hr;obtain⟨⟨fs,τ⟩,h1,h2⟩:=dZ hr;simp only at h2;split at h2
   ·rename_i hp
    injection h2 with h2
    injection h2 with h2 h3
    subst h2;subst h3;obtain⟨rfl,YF,hm⟩:=hdr;refine I9 hm hlen hok hcall YF hI h1 hp λa' w' G' ZD Yy=>?_;obtain⟨G2,ZH⟩:=ZD.norm pers;exact hQ a' w' G2 ZH Yy
   ·simp at h2
  | none=>
   simp only at hr;obtain⟨σ1,h1,h2⟩:=jm hr
   injection h2 with h2 h3
   subst h2;subst h3
   cases dr with
   | true=>
    obtain⟨deps,YF,hm,hst⟩:=hdr rfl;obtain⟨fs,Zy⟩:=L7 (tops:=tops) (L:=List.range tops.length) (by rw[Kj];exact h1);refine I9 hm hlen hok hcall YF hI Zy (Kf hst Zy).1 λa' w' G' ZD Yy=>?_;obtain⟨G2,ZH⟩:=ZD.norm pers;exact hQ a' w' G2 ZH Yy
   | false=>
   refine wp_region ?_
   have hm:(List.range ops.size).map (λi=>tops.getD i ⟨none,none,.lens (.t 0)⟩)=tops:=by
    apply List.ext_getElem?;intro i;by_cases h:i < ops.size
    ·simp[h,hlen]
    ·rw[oGN (by simpa using h),oGN (by omega)]
   refine P7 hlen hok hcall (List.range ops.size) σ a w G (λi hi=>by simpa using hi) hI (by rw[hm];exact h1) λa' w' G' ZD Yy=>?_;obtain⟨G2,ZH⟩:=ZD.norm pers;exact hQ a' w' G2 ZH Yy
 | seq x y XA U0=>
  intro c σ e σ' a w G Q hc hr hI hQ;obtain⟨x',y',rfl,hx,hy⟩:=hc;simp only[runC] at hr;obtain⟨⟨e1,σ1⟩,h1,h2⟩:=dZ hr;refine wp_seq (XA x' σ e1 σ1 a w G _ hx h1 hI λa' w' G' ZD hd=>?_)
  cases e1 with
  | normal=>exact U0 y' σ1 e σ' a' w' G' Q hy h2 ZD λa2 w2 G2 h3 h4=>hQ a2 w2 G2 h3 (h4.trans hd)
  | exit id=>
   simp only[oSJ,oPJ] at h2;obtain⟨rfl,rfl⟩:=h2;exact hQ a' w' G' ZD hd
  | ret=>
   simp only[oSJ,oPJ] at h2;obtain⟨rfl,rfl⟩:=h2;exact hQ a' w' G' ZD hd
 | cond k x y XA U0=>
  intro c σ e σ' a w G Q hc hr hI hQ;obtain⟨k',x',y',rfl,hk,hx,hy⟩:=hc;simp only[runC] at hr;obtain⟨⟨t,σ1⟩,h1,h2⟩:=dZ hr;obtain⟨rfl,ht⟩:=fB hI.tmr hk h1
  cases t with
  | v z=>
   obtain⟨hz,_⟩:=ht.v_inv
   cases z with
   | bool b=>
    cases b with
    | true=>exact wp_cond_true hz (XA x' _ e σ' a w G Q hx h2 hI hQ)
    | false=>exact wp_cond_false hz (U0 y' _ e σ' a w G Q hy h2 hI hQ)
   | _=>simp at h2
  | _=>simp at h2
 | block id x XA=>
  intro c σ e σ' a w G Q hc hr hI hQ;obtain⟨x',rfl,hx⟩:=hc;simp only[runC] at hr;obtain⟨⟨e1,σ1⟩,h1,h2⟩:=dZ hr;refine wp_block (XA x' σ e1 σ1 a w G _ hx h1 hI λa' w' G' ZD hd=>?_)
  cases e1 with
  | normal=>
   simp only[oSJ,oPJ] at h2;obtain⟨rfl,rfl⟩:=h2;exact hQ a' w' G' ZD hd
  | exit i=>
   simp only at h2;simp only[l9.toExit,Exit.inBlock];split at h2
   ·rename_i hi;simp only[oSJ,oPJ] at h2;obtain⟨rfl,rfl⟩:=h2;rw[oIP hi];exact hQ a' w' G' ZD hd
   ·rename_i hi;simp only[oSJ,oPJ] at h2;obtain⟨rfl,rfl⟩:=h2;rw[oIN hi];exact hQ a' w' G' ZD hd
  | ret=>
   simp only[oSJ,oPJ] at h2;obtain⟨rfl,rfl⟩:=h2;exact hQ a' w' G' ZD hd
 | loop x XA=>
  intro c σ e σ' a w G Q hc hr hI hQ;obtain⟨x',rfl,hx⟩:=hc;simp only[runC] at hr
  have key:∀(n:Nat) (σ:St) (a:Act) (w:World) (G:Gh) (d:List Deferred),a.defers=d->QT (runC call N x) n σ=some (e,σ')->Inv M σ [] [] a.tmps w G->(∀a' w' G',Inv M σ' [] [] a'.tmps w' G'->a'.defers=d->Q e.toExit a' w')->Code.rounds P x' Q n a w:=by
   intro n
   induction n with
   | zero=>intro σ a w G d _ hr;simp[QT] at hr
   | succ n ih=>
    intro σ a w G d hd hr hI hQ;simp only[QT] at hr;obtain⟨⟨e1,σ1⟩,h1,h2⟩:=dZ hr;rw[rounds_succ];refine XA x' σ e1 σ1 a w G _ hx h1 hI λa' w' G' ZD Yy=>?_
    cases e1 with
    | normal=>exact ih σ1 a' w' G' d (Yy.trans hd) h2 ZD hQ
    | exit i=>
     simp only[oSJ,oPJ] at h2;obtain⟨rfl,rfl⟩:=h2;exact hQ a' w' G' ZD (Yy.trans hd)
    | ret=>
     simp only[oSJ,oPJ] at h2;obtain⟨rfl,rfl⟩:=h2;exact hQ a' w' G' ZD (Yy.trans hd)
  exact wp_loop_rounds N (key N σ a w G a.defers rfl hr hI hQ)
 | exit id=>
  intro c σ e σ' a w G Q hc hr hI hQ;simp only[jW] at hc;subst hc;obtain⟨rfl,rfl⟩:=hr;exact wp_exit (hQ a w G hI rfl)
 | ret=>
  intro c σ e σ' a w G Q hc hr hI hQ;simp only[jW] at hc;subst hc;obtain⟨rfl,rfl⟩:=hr;exact wp_ret (hQ a w G hI rfl)
 | pre l x XA=>
  intro c σ e σ' a w G Q hc hr hI hQ;obtain⟨hl,hx⟩:=hc;simp only[runC] at hr;obtain⟨⟨u,σ1⟩,h1,h2⟩:=dZ hr;obtain⟨G1,hI1⟩:=LU hI hl h1;obtain⟨G2,ZH⟩:=hI1.norm (σ1.tm.map (·.1),σ1.ce.map (·.1));exact XA c σ1.anew e σ' a w G2 Q hx h2 ZH hQ
 | post x l XA=>
  intro c σ e σ' a w G Q hc hr hI hQ;obtain⟨hl,hx⟩:=hc;simp only[runC] at hr;obtain⟨⟨e1,σ1⟩,h1,h2⟩:=dZ hr;obtain⟨⟨u,σ2⟩,h3,h4⟩:=dZ h2;simp only[oSJ,oPJ] at h4;obtain⟨rfl,rfl⟩:=h4;refine XA c σ e1 σ1 a w G Q hx h1 hI λa' w' G' ZD hd=>?_;obtain⟨G2,ZH⟩:=LU ZD hl h3;obtain⟨G3,WV⟩:=ZH.norm (σ2.tm.map (·.1),σ2.ce.map (·.1));exact hQ a' w' G3 WV hd
end
inductive TRs where
 | tmp (t:Nat)
 | cell (t:Nat) (n:Option Nat)
structure TFn where
 np:Nat
 pp:List Nat
 nt:Nat
 body:ma
 res:List TRs
def R0(np r:Nat):Bool:=r % 2==0 && decide (r < 2*np+2)
def takeR1(np:Nat) (t:TV):SP TV:=
 match t with
 | .pk p vs=>take1 (!R0 np p.root) (.pk p vs)
 | t=>take1 true t
def takeRL(np:Nat):List TV->SP (List TV)
 | []=>.ret []
 | t :: r=>(takeR1 np t).bind λt'=>(takeRL np r).bind λr'=>.ret (t' :: r')
def takeRV(np:Nat) (t:TV):SP (List TV×RSh):=
 match t with
 | .agg l=>(takeRL np l).bind λl'=>.ret (l',.agg l'.length)
 | t=>(takeR1 np t).bind λt'=>.ret ([t'],.one)
def res1(np:Nat):TRs->SP (List TV×RSh)
 | .tmp t=>.rdT t λtv=>takeRV np tv
 | .cell t n=>.rdT t λtv=>match tv with
  | .ptr p vs=>(chk p p.hops.length vs).bind λ_=>match n with
   | none=>(getPl p).bind λt=>(peek1 p t).bind λt'=>takeRV np t'
   | some n=>(peekL p n).bind λl=>takeRV np (.agg l)
  | _=>.fail
def resL(np:Nat):List TRs->SP (List TV×List RSh)
 | []=>.ret ([],[])
 | r :: rs=>(res1 np r).bind λx=>(resL np rs).bind λy=>.ret (x.1++y.1,x.2 :: y.2)
def Hl:TV->Bool
 | .v x=>jl x
 | _=>false
def unV:TV->Value
 | .v x=>x
 | _=>undef
def onesOf:List TV->List RSh
 | []=>[]
 | _ :: r=>.one :: onesOf r
def flatsR:List TRs->SP (List TV)
 | []=>.ret []
 | .tmp t :: r=>.rdT t λtv=>if Hl tv then (flatsR r).bind λl=>.ret (tv :: l) else .fail
 | .cell _ _ :: _=>.fail
def resF(np:Nat):List TRs->SP (List TV×List RSh)
 | .tmp t :: r=>.rdT t λtv=>match tv with
  | .ptr p vs=>(chk p p.hops.length vs).bind λ_=>(flatsR r).bind λl=>.ret (.ptr p vs :: l,.ptr :: onesOf l)
  | _=>resL np (.tmp t :: r)
 | qs=>resL np qs
def Jd(t:TV):List TV->TV
 | []=>t
 | y :: l=>.tup (t :: y :: l)
def Ct(x:Value):List Value->Value
 | []=>x
 | y :: l=>.tuple (x :: y :: l).toArray
theorem LY{w:World}{F:Nat->Prop}{V:Vs}{C:Cs}{G:Gh}{t:TV}{x:Value}(h:TmR w F V C G t x):∀{l:List TV},l.all Hl=true->TmR w F V C G (Jd t l) (Ct x (l.map unV)):=by
 intro l hl
 have ZP:∀j (hj:j < l.length),TmR w F V C G l[j] (unV l[j]):=by
  intro j hj;have:=List.all_eq_true.1 hl l[j] (List.getElem_mem hj)
  cases hc:l[j] with
  | v y=>rw[hc] at this;exact .v this
  | _=>rw[hc] at this;simp[Hl] at this
 cases l with
 | nil=>exact h
 | cons y l=>
  refine .tup (by simp) λj hj=>?_
  cases j with
  | zero=>exact h
  | succ j=>
   have ZR:j < (y :: l).length:=by simp_all
   have e:(x :: unV y :: l.map unV).toArray.getD (j+1) undef=unV (y :: l)[j]:=by
    have e0:((y :: l).map unV)[j]?=some (unV (y :: l)[j]):=by rw[List.getElem?_map,oGE ZR];rfl
    simp_all
   simp_all
def iG:List RSh->List Value->List Value
 | [],_=>[]
 | .one :: r,ys=>ys.headD undef :: iG r ys.tail
 | .agg n :: r,ys=>.agg (ys.take n).toArray :: iG r (ys.drop n)
 | .ptr :: r,ys=>undef :: iG r ys
def qo(sh:List RSh) (ys:List Value):Value:=
 match iG sh ys with
 | [x]=>x
 | l=>.tuple l.toArray
section
variable {P:Program} {M:Fm} {σ σ':St} {H:List TV} {xs:List Value} {ts:Array Value} {w:World} {G:Gh}
theorem E2(np:Nat) (t:TV):∃mv,takeR1 np t=take1 mv t:=by
 cases t<;>first | exact⟨true,rfl⟩ | exact⟨_,rfl⟩
theorem Ll{np:Nat}:∀{l l':List TV}{ys:List Value}{σ σ':St}{H:List TV}{xs:List Value}{G:Gh},Inv M σ H xs ts w G->l.length=ys.length->(∀j (h:j < l.length),TmR w (G.F M.A) σ.v (eS M σ H) G l[j] (ys.getD j undef)) ->
 (takeRL np l).run σ=some (l',σ')->l'.length=l.length/\(∃G',oe M w ts σ H G σ' (H++l') (xs++ys) G')/\∀j (h:j < l'.length),fX l'[j]=true\/oW l'[j]=true:=by
 intro l
 induction l with
 | nil=>
  intro l' ys σ σ' H xs G hI hl _ hr;obtain⟨rfl,rfl⟩:=hr;have:=oEN (by simpa using hl.symm);subst this;exact⟨rfl,⟨G,by simpa using oe.refl hI⟩,λj h=>by simp at h⟩
 | cons t l ih=>
  intro l' ys σ σ' H xs G hI hl ht hr
  cases ys with
  | nil=>simp at hl
  | cons y ys=>
   obtain⟨t',σ1,h1,h2⟩:=dK hr;obtain⟨r',σ2,h3,h4⟩:=dK h2;obtain⟨rfl,rfl⟩:=h4;obtain⟨mv,hmv⟩:=E2 np t;rw[hmv] at h1;obtain⟨G1,Zt,ho⟩:=jH hI (ht 0 (by simp)) h1;obtain⟨e,⟨G2,ZE⟩,hok⟩:=ih (l':=r') Zt.1 (by simpa using hl) (λj hj=>Zt.tm (by have:=ht (j+1) (by simpa using hj);simpa using this)) h3;refine⟨by simp[e],⟨G2,by simpa using Zt.trans ZE⟩,λj hj=>?_⟩
   cases j with
   | zero=>exact mi h1
   | succ j=>exact hok j (by simpa using hj)
theorem zM{np:Nat}{t:TV}{x:Value}{r:List TV×RSh}(hI:Inv M σ H xs ts w G) (hx:TmR w (G.F M.A) σ.v (eS M σ H) G t x) (hr:(takeRV np t).run σ=some (r,σ')) :
 ∃ys G',oe M w ts σ H G σ' (H++r.1) (xs++ys) G'/\r.1.length=ys.length/\(∀j (h:j < r.1.length),fX r.1[j]=true\/oW r.1[j]=true)/\∀(rest:List RSh) (zs:List Value),iG (r.2 :: rest) (ys++zs)=x :: iG rest zs:=by
 by_cases ht:∃q,t=.agg q
 ·obtain⟨q,rfl⟩:=ht;obtain⟨l',σ1,h1,h2⟩:=dK hr;obtain⟨rfl,rfl⟩:=h2;obtain⟨vs,rfl,hl,hj⟩:=K8 hx;obtain⟨e1,⟨G',hg⟩,hok⟩:=Ll (ys:=vs.toList) hI (by simp[hl]) (λj h=>by simp_all) h1;refine⟨vs.toList,G',hg,by simp[e1,hl],hok,λrest zs=>?_⟩
  have hn:l'.length=vs.toList.length:=by simp_all
  simp only[iG,hn,List.take_left,List.drop_left,Array.toArray_toList]
 ·have e:takeRV np t=(takeR1 np t).bind λt'=>.ret ([t'],.one):=by
   cases t<;>first | rfl | exact absurd ⟨_,rfl⟩ ht
  rw[e] at hr;obtain⟨t',σ1,h1,h2⟩:=dK hr;obtain⟨rfl,rfl⟩:=h2;obtain⟨mv,hmv⟩:=E2 np t;rw[hmv] at h1;obtain⟨G',hg,ho⟩:=jH hI hx h1;refine⟨[x],G',hg,rfl,λj hj=>?_,λrest zs=>rfl⟩
  obtain rfl:j=0:=by simp_all
  exact mi h1
def IK(P:Program):TRs->ResultVar->Prop
 | .tmp t,r=>r=.tmp t
 | .cell t n,r=>∃ty,r=.cell t ty/\JT P ty n
theorem QD{np:Nat}{q:TRs}{q':ResultVar}{r:List TV×RSh}(hI:Inv M σ H xs ts w G) (hq:IK P q q') (hr:(res1 np q).run σ=some (r,σ')) :
 ∃x ys G',(match q' with | .tmp t=>(pure (ts.getD t undef):Sem Value) | .cell a t=>do loadVar t (<- asAddr (ts.getD a undef))).run P w=.ok x w/\oe M w ts σ H G σ' (H++r.1) (xs++ys) G'/\r.1.length=ys.length /\
  (∀j (h:j < r.1.length),fX r.1[j]=true\/oW r.1[j]=true)/\∀(rest:List RSh) (zs:List Value),iG (r.2 :: rest) (ys++zs)=x :: iG rest zs:=by
 cases q with
 | tmp t=>
  have hq:q'=.tmp t:=hq;subst hq;obtain⟨ys,G',h1,h2,h3,h4⟩:=zM hI (hI.tmr t) hr;exact⟨_,ys,G',rfl,h1,h2,h3,h4⟩
 | cell t n=>
  obtain⟨ty,rfl,hn⟩:=hq;simp only[res1,SP.run] at hr;have Zl:=hI.tmr t
  cases hs:σ.t t with
  | ptr p vs=>
   rw[hs] at hr Zl;simp only at hr;obtain⟨_,σ2,h3,h4⟩:=dK hr;have e1:σ2=σ:=(eF h3).1;have e2:=(eF h3).2;subst e1;generalize hz:ts.getD t undef=z at Zl
   cases Zl with
   | ptr V0 h0 hv h=>
    obtain⟨Z8,ad,t0,ha,rfl,_⟩:=h e2
    cases n with
    | none=>
     obtain⟨dd,hu,YP,hd2⟩:=hn;simp only at h4;obtain⟨t1,σ3,h5,h6⟩:=dK h4;obtain⟨e3,hg⟩:=gy h5;have e3:σ3=σ2:=e3;subst e3;obtain⟨t',σ4,h7,h8⟩:=dK h6;obtain⟨hB,u,fp,Y4,hown,ZF⟩:=hI.named Z8 ha hg (tS h7);obtain⟨rfl,ZK⟩:=vq hI Z8 hg hown ZF h7;obtain⟨ys,G',k1,k2,k3,k4⟩:=zM hI ZK h8;refine⟨u,ys,G',?_,k1,k2,k3,k4⟩;show ((do loadVar ty (<- asAddr (ts.getD t undef))):Sem Value).run P w=_;rw[hz];simp[asAddr,loadVar,qm hu YP hd2,Y4]
    | some n=>
     obtain⟨⟨dd,hu,YP⟩,hsz⟩:=hn;simp only at h4;obtain⟨l,σ3,h5,h6⟩:=dK h4;obtain⟨rfl,e3,us,e4,e5⟩:=Ji hI Z8 ha h5
     have hagg:TmR w (G.F M.A) σ3.v (eS M σ3 H) G (.agg l) (.agg us.toArray):=.agg (by simp[e3,e4]) λj hj=>by have:=(e5 j hj (by omega)).2;simpa [show j < us.length by omega] using this
     obtain⟨ys,G',k1,k2,k3,k4⟩:=zM hI hagg h6;refine⟨_,ys,G',?_,k1,k2,k3,k4⟩;have ZC:=nj ha
     have ZN:=run_loadCells_list (P:=P) w ad us λj v hj=>by
      obtain⟨hlt,rfl⟩:=oGS hj;have:=(e5 j (by omega) hlt).1;obtain⟨b,o,s⟩:=ad;simp only at ZC;subst ZC;rw[gz];exact this
     have YU:(sizeOf ty).run P w=.ok n w:=by
      unfold sizeOf typeInfo
      cases hi:P.info? ty with
      | none=>simp[hi] at hsz
      | some i=>simp[hi] at hsz;simp[hi,hsz]
     rw[e4] at ZN;show ((do loadVar ty (<- asAddr (ts.getD t undef))):Sem Value).run P w=_;rw[hz];simp[asAddr,loadVar,oA hu YP,YU,ZN]
  | _=>rw[hs] at hr;simp[SP.run] at hr
theorem QB{np:Nat}:∀{qs:List TRs}{qs':List ResultVar}{r:List TV×List RSh}{σ σ':St}{H:List TV}{xs:List Value}{G:Gh},Inv M σ H xs ts w G->qs.length=qs'.length->(∀k (h:k < qs.length) (h':k < qs'.length),IK P qs[k] qs'[k])->(resL np qs).run σ=some (r,σ') ->
 ∃vs ys G',(qs'.mapM λ(q:ResultVar)=>(match q with | .tmp t=>(pure (ts.getD t undef):Sem Value) | .cell a t=>do loadVar t (<- asAddr (ts.getD a undef)))).run P w=.ok vs w/\oe M w ts σ H G σ' (H++r.1) (xs++ys) G'/\r.1.length=ys.length /\
  (∀j (h:j < r.1.length),fX r.1[j]=true\/oW r.1[j]=true)/\iG r.2 ys=vs:=by
 intro qs
 induction qs with
 | nil=>
  intro qs' r σ σ' H xs G hI hl _ hr;have:qs'=[]:=oEN (by simpa using hl.symm);subst this;obtain⟨rfl,rfl⟩:=hr;exact⟨[],[],G,by simp,by simpa using oe.refl hI,rfl,λj h=>by simp at h,rfl⟩
 | cons q qs ih=>
  intro qs' r σ σ' H xs G hI hl hok hr
  cases qs' with
  | nil=>simp at hl
  | cons q' qs'=>
   obtain⟨x,σ1,h1,h2⟩:=dK hr;obtain⟨y,σ2,h3,h4⟩:=dK h2;obtain⟨rfl,rfl⟩:=h4;obtain⟨v,ys,G1,k1,k2,k3,k4,k5⟩:=QD hI (hok 0 (by simp) (by simp)) h1;obtain⟨vs,zs,G2,l1,l2,l3,l4,l5⟩:=ih (qs':=qs') k2.1 (by simpa using hl) (λk h h'=>hok (k+1) (by simpa using h) (by simpa using h')) h3;refine⟨v :: vs,ys++zs,G2,?_,by simpa using k2.trans l2,by simp[k3,l3],λj hj=>?_,?_⟩
   ·rw[List.mapM_cons,Sem.run_bind];refine (congrArg (λr=>Result.andThen r _) k1).trans ?_;simp only[Result.andThen_ok,Sem.run_bind,l1,Sem.run_pure]
   ·by_cases hjl:j < x.1.length
    ·rw[List.getElem_append_left hjl];exact k4 j hjl
    ·rw[List.getElem_append_right (by omega)];exact l4 _ _
   ·rw[k5,l5]
theorem Nb:∀{qs:List TRs}{qs':List ResultVar}{l:List TV}{σ σ':St}{G:Gh},Inv M σ [] [] ts w G->qs.length=qs'.length->(∀k (h:k < qs.length) (h':k < qs'.length),IK P qs[k] qs'[k])->(flatsR qs).run σ=some (l,σ') ->
 σ'=σ/\l.all Hl=true/\(qs'.mapM λ(q:ResultVar)=>(match q with | .tmp t=>(pure (ts.getD t undef):Sem Value) | .cell a t=>do loadVar t (<- asAddr (ts.getD a undef)))).run P w=.ok (l.map unV) w:=by
 intro qs
 induction qs with
 | nil=>
  intro qs' l σ σ' G hI hl _ hr;have:qs'=[]:=oEN (by simpa using hl.symm);subst this;obtain⟨rfl,rfl⟩:=hr;exact⟨rfl,rfl,by simp⟩
 | cons q qs ih=>
  intro qs' l σ σ' G hI hl hok hr
  cases qs' with
  | nil=>simp at hl
  | cons q' qs'=>
   cases q with
   | cell t n=>simp[flatsR,SP.run] at hr
   | tmp t=>
    have hq:q'=.tmp t:=hok 0 (by simp) (by simp);subst hq;simp only[flatsR,SP.run] at hr;split at hr
    case isFalse=>simp[SP.run] at hr
    rename_i hf;obtain⟨r,σ1,h1,h2⟩:=dK hr;simp only[SP.run,oSJ,oPJ] at h2;obtain⟨rfl,rfl⟩:=h2;obtain⟨rfl,k2,k3⟩:=ih (qs':=qs') hI (by simpa using hl) (λk h h'=>hok (k+1) (by simpa using h) (by simpa using h')) h1;refine⟨rfl,by rw[List.all_cons,hf,k2];rfl,?_⟩;have hv:=hI.tmr t
    have e:ts.getD t undef=unV (σ1.t t):=by
     cases hc:σ1.t t with
     | v x=>
      rw[hc] at hv
      cases hv with
      | v _=>rfl
     | _=>rw[hc] at hf;simp[Hl] at hf
    rw[List.mapM_cons,Sem.run_bind];simp only[Result.andThen_ok,Sem.run_bind,k3,Sem.run_pure];rw[e];rfl
end
section
variable {P:Program} {M:Fm} {σ σ':St} {H:List TV} {xs:List Value} {ts:Array Value} {w:World} {G:Gh}
theorem Inv.trunc(hI:Inv M σ H xs ts w G) {k:Nat}(hd:∀j (h:j < H.length),k<=j->H[j]=.dead):Inv M σ (H.take k) (xs.take k) ts w G/\eS M σ (H.take k)=eS M σ H:=by
 have e:eS M σ (H.take k)=eS M σ H:=by
  funext r o;unfold eS;split
  ·simp
   grind
  ·rfl
 refine⟨⟨by rw[e];exact hI.core,λi=>by rw[e];exact hI.tmr i,hI.fram,hI.keys,hI.size,by simp[hI.hand],λj hj=>?_,hI.shape⟩,e⟩
 have h2:j < k/\j < xs.length:=by simp at hj;omega
 rw[hI.hval j h2.2]
 simp_all
theorem wW(b:Nat) (vs:List Value):∀(o:Nat) (w:World) {k:Nat},k≠b->(w.setCells b o vs).heap[k]?=w.heap[k]?:=by
 induction vs with
 | nil=>intro o w k h;rfl
 | cons v r ih=>
  intro o w k h;simp[World.setCells];rw[ih _ _ h];exact eK w _ v h
theorem Bn(b:Nat) (vs:List Value):∀(o:Nat) (w:World) {cur:Array Value}{e:TypeId}{fz:Nat×Nat},w.heap[b]?=some (.cells cur e fz) ->
 ∃Yz,(w.setCells b o vs).heap[b]?=some (.cells Yz e fz)/\Yz.size=cur.size/\∀j,Yz[j]?=if o<=j/\j < o+vs.length/\j < cur.size then vs[j - o]? else cur[j]?:=by
 induction vs with
 | nil=>intro o w cur e fz h;exact⟨cur,h,rfl,λj=>by rw[oIN (by simp;omega)]⟩
 | cons v r ih=>
  intro o w cur e fz h;obtain⟨Yz,h1,h2,h3⟩:=ih (o+1) _ (lM w b o v h);refine⟨Yz,h1,by rw[h2];simp,λj=>?_⟩;rw[h3];simp;by_cases hj:j=o
  ·subst hj;rw[oIN (by omega)];by_cases hs:j < cur.size
   ·rw[oIP (by omega)];simp[hs]
   ·rw[oIN (by omega)];simp[hs]
  ·by_cases hc:o+1<=j/\j < o+1+r.length/\j < cur.size
   ·rw[oIP hc,oIP (by omega)];rw[show j - o=(j - (o+1))+1 by omega];simp
   ·rw[oIN hc,oIN (by omega)];rw[Array.getElem?_setIfInBounds,oIN (Ne.symm hj)]
theorem C9(b:Nat) (vs:List Value):∀(o:Nat) (w:World),w.setCells b o vs={ w with heap:=(w.setCells b o vs).heap }:=by
 induction vs with
 | nil=>intro o w;rfl
 | cons v r ih=>
  intro o w;simp[World.setCells]
  have h:w.setCell ⟨b,o,none⟩ v={ w with heap:=(w.setCell ⟨b,o,none⟩ v).heap }:=by
   unfold World.setCell
   simp_all
  rw[ih];rw[h]
def je(w W:World) (b:Nat):World:=match w.heap[b]? with | some x=>{ W with heap:=W.heap.setIfInBounds b x } | none=>W
theorem tR{w W:World}{b k:Nat}(h:k≠b):(je w W b).heap[k]?=W.heap[k]?:=by
 unfold je;split
 ·simp[Ne.symm h]
 ·rfl
theorem wY{w W:World}{b:Nat}(h:b < W.heap.size) (h2:b < w.heap.size):(je w W b).heap[b]?=w.heap[b]?:=by
 unfold je
 simp_all
theorem pC{w W:World}{b:Nat}:(je w W b).heap.size=W.heap.size:=by
 unfold je
 grind
theorem xN{w W:World}{b:Nat}:(je w W b).os=W.os/\(je w W b).tape=W.tape/\(je w W b).output=W.output/\(je w W b).drawn=W.drawn:=by
 unfold je
 grind
theorem yS{w W:World}{b o:Nat}{vs:List Value}{cur0 cur:Array Value}{e:TypeId}{fz:Nat×Nat}(h0:w.heap[b]?=some (.cells cur0 e fz)) (h1:W.heap[b]?=some (.cells cur e fz)) (hs:cur.size=cur0.size)
 (VX:∀j,(j < o\/o+vs.length<=j)->cur[j]?=cur0[j]?) (hin:∀j (h:j < vs.length),cur[o+j]?=some vs[j]):(je w W b).setCells b o vs=W:=by
 have hbW:=(Array.getElem?_eq_some_iff.1 h1).1;have UD:=(Array.getElem?_eq_some_iff.1 h0).1;rw[C9];obtain⟨r1,r2,r3,r4⟩:=xN (w:=w) (W:=W) (b:=b)
 have Yv:((je w W b).setCells b o vs).heap=W.heap:=by
  apply Array.ext_getElem?;intro k;by_cases hk:k=b
  ·subst hk;obtain⟨Yz,e1,e2,e3⟩:=Bn k vs o (je w W k) ((wY hbW UD).trans h0);rw[e1,h1];congr 2;apply Array.ext_getElem?;intro j;rw[e3];split
   ·rename_i hj;have:=hin (j - o) (by omega)
    simp_all
   ·rename_i hj;by_cases hjs:j < cur0.size
    ·exact (VX j (by omega)).symm
    ·simp_all
  ·rw[wW b vs o _ hk,tR hk]
 simp_all
end
structure Le (H:List TV) (xs:List Value) (w:World) (G:Gh) (A:Nat->Prop) (pr:Nat->Option (Nat×Nat×Nat)) (bs:Nat->Nat) (ce:List (Nat×List TV)) (ow:Nat->Option Nat):Prop where
 even:∀r b o n,pr r=some (b,o,n)->r % 2=0/\0 < n
 cells:∀r b o n,pr r=some (b,o,n)->∃l,eU ce r=some l/\l.length=n/\∀j (h:j < l.length),∃h':bs r+j < H.length,l[j]=H[bs r+j]/\l[j]≠.dead
 only:∀r l,eU ce r=some l->pr r≠none\/ow r≠none
 owc:∀r j,ow r=some j->r % 2=1/\r≠1/\∃(c:List (List TV)) (h:j < H.length),eU ce r=some [.ow c]/\H[j]=.ow c
 owa:∀r j r' b o n,ow r=some j->pr r'=some (b,o,n)->∀j',j' < n->bs r'+j'≠j
 owi:∀r r' j,ow r=some j->ow r'=some j->r=r'
 apart:∀r b o n r' b' o' n',pr r=some (b,o,n)->pr r'=some (b',o',n')->∀j j',j < n->j' < n'->bs r+j=bs r'+j'->r=r'
 inj:∀r b o n r' o' n',pr r=some (b,o,n)->pr r'=some (b,o',n')->r=r'
 notF:∀r b o n,pr r=some (b,o,n)->¬ G.F A b
 notH:∀r b o n,pr r=some (b,o,n)->∀j,¬ G.φ 1 j b
 here:∀r b o n,pr r=some (b,o,n)->∀j,j < n->w.cell? ⟨b,o+j,none⟩=some (xs.getD (bs r+j) undef)/\w.frozen? ⟨b,o+j,none⟩=false
def Fm.into(M:Fm) (w:World) (G:Gh) (pr:Nat->Option (Nat×Nat×Nat)) (N:Nat):Fm where
 w0:=w
 A:=λk=>G.F M.A k\/(∃j,G.φ 1 j k)\/w.heap.size<=k
 W0:=λk=>∃j,G.φ 1 j k
 pr:=pr
 N:=N
 hA:=λk h=>.inr (.inr h)
def Gh.into(G:Gh) (pr:Nat->Option (Nat×Nat×Nat)) (bs:Nat->Nat) (ow:Nat->Option Nat) (xs:List Value):Gh:=
 ⟨pr,λr _=>match ow r with | some j=>xs.getD j undef | none=>undef,λr o k=>(∃b o0 n,pr r=some (b,o0,n)/\o < n/\G.φ 1 (bs r+o) k)\/∃j,ow r=some j/\o=0/\G.φ 1 j k⟩
theorem kX{G:Gh}{pr:Nat->Option (Nat×Nat×Nat)}{bs:Nat->Nat}{ow:Nat->Option Nat}{xs:List Value}{r o k:Nat}(h:(G.into pr bs ow xs).φ r o k):∃j,G.φ 1 j k:=by
 rcases h with ⟨_,_,_,_,_,h⟩ | ⟨_,_,_,h⟩<;>exact⟨_,h⟩
section
variable {P:Program} {M:Fm} {σ σ':St} {H:List TV} {xs:List Value} {ts:Array Value} {w:World} {G:Gh}
variable {pr:Nat->Option (Nat×Nat×Nat)} {bs:Nat->Nat} {ce:List (Nat×List TV)} {ow:Nat->Option Nat}
theorem Le.F(hh:Le H xs w G M.A pr bs ce ow) {N k:Nat}(h:G.F M.A k):(G.into pr bs ow xs).F (M.into w G pr N).A k:=
 ⟨.inl h,λr o hφ=>by have ⟨j,h3⟩:=kX hφ;exact h.2.1 _ _ h3,λr b o n hb e=>hh.notF r b o n hb (e ▸ h)⟩
theorem tZ{w:World}{b o:Nat}{v:Value}(h:w.cell? ⟨b,o,none⟩=some v):∃cur e fz,w.heap[b]?=some (.cells cur e fz)/\o < cur.size/\cur[o]?=some v:=by
 unfold World.cell? at h;split at h
 ·rename_i cur e fz hb
  grind
 ·simp at h
theorem Inv.enter(hI:Inv M σ H xs ts w G) (hh:Le H xs w G M.A pr bs ce ow) {tm:List (Nat×TV)}{Zp:Array Value}{N:Nat}(hN:Zp.size=N)
 (ht:∀i,TmR w ((G.into pr bs ow xs).F (M.into w G pr N).A) (λ_=>0) (eS (M.into w G pr N) ⟨tm,ce,[]⟩ []) (G.into pr bs ow xs) ((eU tm i).getD .dead) (Zp.getD i undef)) :
 Inv (M.into w G pr N) ⟨tm,ce,[]⟩ [] [] Zp w (G.into pr bs ow xs):=by
 have X1:∀r b o n,pr r=some (b,o,n)->r≠1:=λr b o n h e=>by have:=(hh.even r b o n h).1;omega
 have YM:∀r b o n,pr r=some (b,o,n)->ow r=none:=λr b o n h=>by
  cases e:ow r with
  | none=>rfl
  | some j=>have:=(hh.even r b o n h).1;have:=(hh.owc r j e).1;omega
 have hne:∀r l,eU ce r=some l->r≠1:=by
  intro r l h;rcases hh.only r l h with h1 | h1
  ·cases hp:pr r with
   | none=>exact absurd hp h1
   | some x=>exact X1 r _ _ _ hp
  ·cases hp:ow r with
   | none=>exact absurd hp h1
   | some j=>exact (hh.owc r j hp).2.1
 have hcell:∀r o,eS (M.into w G pr N) ⟨tm,ce,[]⟩ [] r o=match eU ce r with | some l=>l.getD o .dead | none=>.dead:=by
  intro r o;unfold eS;split
  ·rename_i e
   cases hc:eU ce r with
   | none=>simp
   | some l=>exact absurd e (hne r l hc)
  ·rfl
 refine⟨⟨λr o=>?_,λr b o0 n hb=>?_,λr b o0 n hb o ho=>?_,λr r' b o n o' n' h1 h2=>hh.inj r b o n r' o' n' h1 h2,λr b o n hb r' o' hφ=>by obtain⟨j,h3⟩:=kX hφ;exact hh.notH r b o n hb _ h3,λr1 o1 r2 o2 k YR XE=>?_,λr o k hφ=>.inr (.inl (kX hφ))⟩,ht,?_,λr l h=>hne r l h,hN,rfl,λj hj=>by simp at hj,λr b o n hb l hl=>?_⟩
 ·rw[hcell]
  cases hc:eU ce r with
  | none=>
   left;refine⟨rfl,λk hk=>?_⟩;rcases hk with ⟨b1,p1,n1,h1,h2,h3⟩ | ⟨j,h1,_⟩
   ·obtain⟨l,h4,_⟩:=hh.cells r _ _ _ h1;rw[hc] at h4;simp at h4
   ·obtain⟨_,_,c,_,h4,_⟩:=hh.owc r j h1;rw[hc] at h4;simp at h4
  | some l=>
   cases hp:pr r with
   | none=>
    obtain⟨j,hj⟩:∃j,ow r=some j:=by
     rcases hh.only r l hc with h1 | h1
     ·exact absurd hp h1
     ·cases e:ow r with
      | none=>exact absurd e h1
      | some j=>exact⟨j,rfl⟩
    obtain⟨_,_,c,hjl,h4,h5⟩:=hh.owc r j hj;rw[hc] at h4
    injection h4 with h4
    subst h4
    cases o with
    | zero=>
     right;have hown:=hI.hand_own hjl (by rw[h5];simp)
     have hval:(G.into pr bs ow xs).val w r 0=xs.getD j undef:=by
      unfold Gh.val Gh.into;simp only[hp,hj]
     rw[hval];simp only[List.getD_cons_zero];rw[h5] at hown;refine (hown.frame (λ_ _=>rfl) (λ_ _ _=>rfl) λk hk _=>hh.F hk).refp λk=>?_;constructor
     ·intro hk;exact .inr ⟨j,hj,rfl,hk⟩
     ·rintro (⟨b1,p1,n1,h1,_,_⟩ | ⟨j',h1,_,hk⟩)
      ·rw[hp] at h1;simp at h1
      ·rw[hj] at h1;injection h1 with h1;rw[h1];exact hk
    | succ o=>
     left;refine⟨by simp,λk hk=>?_⟩;rcases hk with ⟨b1,p1,n1,h1,_,_⟩ | ⟨j',_,h1,_⟩
     ·rw[hp] at h1;simp at h1
     ·omega
   | some x=>
    obtain⟨b,o0,n⟩:=x;obtain⟨l',h4,h5,h6⟩:=hh.cells r _ _ _ hp;rw[hc] at h4
    injection h4 with h4
    subst h4;by_cases ho:o < l.length
    ·right;obtain⟨h7,h8,h9⟩:=h6 o ho;have hown:=hI.hand_own h7 (by rw[<- h8];exact h9)
     have hval:(G.into pr bs ow xs).val w r o=xs.getD (bs r+o) undef:=by
      unfold Gh.val Gh.into;simp only[hp];rw[(hh.here r _ _ _ hp o (by omega)).1];rfl
     rw[hval]
     have e:l.getD o .dead=l[o]:=by simp[ho]
     simp only[e];rw[h8];refine (hown.frame (λ_ _=>rfl) (λ_ _ _=>rfl) λk hk _=>hh.F hk).refp λk=>?_;constructor
     ·intro hk;exact .inl ⟨b,o0,n,hp,by omega,hk⟩
     ·rintro (⟨_,_,_,_,_,hk⟩ | ⟨j',h1,_,_⟩)
      ·exact hk
      ·rw[YM r _ _ _ hp] at h1;simp at h1
    ·left;refine⟨by simp only[];rw[oGD,oGN (by omega)];rfl,λk hk=>?_⟩;rcases hk with ⟨b1,p1,n1,h1,h2,h3⟩ | ⟨j',h1,_,_⟩
     ·rw[hp] at h1
      injection h1 with h1
      injection h1 with _ h1
      injection h1 with _ h1
      omega
     ·rw[YM r _ _ _ hp] at h1;simp at h1
 ·have hn:=(hh.even r _ _ _ hb).2;have Y0:pr r=some (b,o0,n):=hb;obtain⟨cur,e,fz,h1,h2,h3⟩:=tZ (hh.here r _ _ _ Y0 (n - 1) (by omega)).1;exact⟨cur,e,fz,h1,by omega,λj hj=>(hh.here r _ _ _ Y0 j hj).2⟩
 ·have Y0:pr r=some (b,o0,n):=hb;rw[hcell];obtain⟨l,h1,h2,_⟩:=hh.cells r _ _ _ Y0;rw[h1];show l.getD o .dead=.dead;rw[oGD,oGN (by omega)];rfl
 ·rcases YR with ⟨b1,p1,n1,h1,h2,h3⟩ | ⟨j1,h1,h2,h3⟩<;>rcases XE with ⟨b2,p2,n2,k1,k2,k3⟩ | ⟨j2,k1,k2,k3⟩
  ·obtain⟨_,h5⟩:=hI.core.dis _ _ _ _ k h3 k3;have:=hh.apart _ _ _ _ _ _ _ _ h1 k1 _ _ h2 k2 h5;subst this;exact⟨rfl,by omega⟩
  ·obtain⟨_,h5⟩:=hI.core.dis _ _ _ _ k h3 k3;exact absurd h5 (hh.owa _ _ _ _ _ _ k1 h1 _ h2)
  ·obtain⟨_,h5⟩:=hI.core.dis _ _ _ _ k h3 k3;exact absurd h5.symm (hh.owa _ _ _ _ _ _ h1 k1 _ k2)
  ·obtain⟨_,h5⟩:=hI.core.dis _ _ _ _ k h3 k3;subst h5;exact⟨hh.owi _ _ _ h1 k1,by omega⟩
 ·refine⟨rfl,rfl,rfl,Nat.le_refl _,λ_ _ _ _=>rfl,λr b o n hp=>⟨hp,?_⟩,λr o k hφ=>.inl (kX hφ),λr b o n hb=>.inl hb,λr hb=>?_⟩
  ·have hn:=(hh.even r _ _ _ hp).2;obtain⟨cur,e,fz,h1,h2,h3⟩:=tZ (hh.here r _ _ _ hp (n - 1) (by omega)).1;exact⟨cur,cur,e,fz,h1,h1,rfl,λ_ _=>rfl⟩
  ·cases hp:pr r with
   | none=>exact absurd hp hb
   | some x=>exact (hh.even r _ _ _ hp).1
 ·obtain⟨l',h1,h2,_⟩:=hh.cells r _ _ _ hb;have Zg:eU ce r=some l:=hl;rw[Zg] at h1
  injection h1 with h1
  rw[h1];exact h2
end
structure PS (H2:List TV) (ys:List Value) (H':List TV) (xs':List Value) (C2:Cs) (G2:Gh) (w2:World) (pr:Nat->Option (Nat×Nat×Nat)) (bs:Nat->Nat):Prop where
 len:H'.length=xs'.length
 low:∀j (h:j < H2.length),∃h':j < H'.length,H'[j]=H2[j]/\xs'.getD j undef=ys.getD j undef
 cells:∀r b o n,pr r=some (b,o,n)->∀t,t < n->∃h:bs r+t < H'.length,H2.length<=bs r+t/\H'[bs r+t]=C2 r t/\xs'.getD (bs r+t) undef=G2.val w2 r t
 cover:∀j,j < H'.length->j < H2.length\/∃r b o n t,pr r=some (b,o,n)/\t < n/\j=bs r+t
 apart:∀r b o n r' b' o' n',pr r=some (b,o,n)->pr r'=some (b',o',n')->∀j j',j < n->j' < n'->bs r+j=bs r'+j'->r=r'
section
variable {P:Program} {M:Fm} {σ σ2:St} {H H2 H':List TV} {xs ys xs':List Value} {ts ts2:Array Value} {w w2 w':World} {G G2:Gh}
variable {pr:Nat->Option (Nat×Nat×Nat)} {bs bs2:Nat->Nat} {ce:List (Nat×List TV)} {N:Nat} {ow:Nat->Option Nat}
theorem Inv.leave(hI:Inv M σ H xs ts w G) (hh:Le H xs w G M.A pr bs ce ow) (h2:Inv (M.into w G pr N) σ2 H2 ys ts2 w2 G2) (ZZ:PS H2 ys H' xs' (eS (M.into w G pr N) σ2 H2) G2 w2 pr bs2)
 (hs:w'.heap.size=w2.heap.size) (ho:w'.os=w2.os) (htp:w'.tape=w2.tape) (hu:w'.output=w2.output) (Yk:∀k,(∀r b o n,pr r=some (b,o,n)->k≠b)->w'.heap[k]?=w2.heap[k]?)
 (XL:∀r b o n,pr r=some (b,o,n)->w'.heap[b]?=w.heap[b]?):∃G',Inv M σ H' xs' ts w' G'/\my M w σ H G w' σ H' G'/\G'.β=G.β:=by
 have Xn:=h2.fram
 let f:Nat->Nat->Prop:=λj k=>(j < H2.length/\G2.φ 1 j k)\/∃r b o n t,pr r=some (b,o,n)/\t < n/\j=bs2 r+t/\G2.φ r t k
 have hfφ:∀j k,f j k->∃r o,G2.φ r o k:=by
  rintro j k (⟨_,h⟩ | ⟨r,b,o,n,t,_,_,_,h⟩)
  ·exact⟨_,_,h⟩
  ·exact⟨_,_,h⟩
 have hβ2:=λr b o n h=>(Xn.par r b o n h).1
 have Z8:∀r b o n,pr r=some (b,o,n)->r≠1:=λr b o n h e=>by have:=(hh.even r b o n h).1;omega
 have hφw:∀r o k,G2.φ r o k->w'.heap[k]?=w2.heap[k]?:=λr o k h=>Yk k λr' b o' n hp e=>h2.core.boxf r' b o' n (hβ2 _ _ _ _ hp) _ _ (e ▸ h);have Yf:∀k,G2.F (M.into w G pr N).A k->w'.heap[k]?=w2.heap[k]?:=λk h=>Yk k λr' b o' n hp e=>h.2.2 r' b o' n (hβ2 _ _ _ _ hp) e
 obtain⟨G',a1,a2,a3,_⟩:=hI.rehandL (w':=w') (H':=H') (xs':=xs') (f:=f) (Fx:=G2.F (M.into w G pr N).A)
  (λk hk hn=>by
   by_cases hp:∃r b o n,pr r=some (b,o,n)/\k=b
   ·obtain⟨r,b,o,n,hp,rfl⟩:=hp;exact XL r k o n hp
   ·have hp':∀r b o n,pr r=some (b,o,n)->k≠b:=λr b o n h e=>hp ⟨r,b,o,n,h,e⟩;rw[Yk k hp']
    exact Xn.old k hk (λ⟨j,hj⟩=>hn j hj) hp')
  (by rw[hs];exact Xn.size) (ho.trans Xn.os) (htp.trans Xn.tape) (hu.trans Xn.output) ZZ.len
  (λj k h=>by
   refine⟨?_,?_⟩
   ·rcases h with ⟨h,_⟩ | ⟨r,b,o,n,t,hp,ht,rfl,_⟩
    ·exact (ZZ.low j h).1
    ·exact (ZZ.cells r b o n hp t ht).1
   ·obtain⟨r,o,hφ⟩:=hfφ j k h
    exact Xn.own r o k hφ)
  (λj j' k h h'=>by
   rcases h with ⟨h1,h3⟩ | ⟨r,b,o,n,t,hp,ht,rfl,h3⟩
   ·rcases h' with ⟨k1,k3⟩ | ⟨r',b',o',n',t',hp',ZK,rfl,k3⟩
    ·exact (h2.core.dis _ _ _ _ k h3 k3).2
    ·exact absurd (h2.core.dis _ _ _ _ k h3 k3).1.symm (Z8 _ _ _ _ hp')
   ·rcases h' with ⟨k1,k3⟩ | ⟨r',b',o',n',t',hp',ZK,rfl,k3⟩
    ·exact absurd (h2.core.dis _ _ _ _ k h3 k3).1 (Z8 _ _ _ _ hp)
    ·obtain⟨e1,e2⟩:=h2.core.dis _ _ _ _ k h3 k3
     rw[e1,e2])
  (λk h=>⟨h.1,λj hf=>by obtain⟨r,o,hφ⟩:=hfφ j k hf;exact h.2.1 r o hφ⟩)
  (λj hj=>by
   rcases ZZ.cover j hj with h | ⟨r,b,o,n,t,hp,ht,rfl⟩
   ·obtain⟨_,e1,e2⟩:=ZZ.low j h
    have YM:∀k,f j k↔G2.φ 1 j k:=λk=>by
     constructor
     ·rintro (⟨_,h⟩ | ⟨r,b,o,n,t,hp,ht,e,_⟩)
      ·exact h
      ·have:=(ZZ.cells r b o n hp t ht).2.1;omega
     ·exact λhk=>.inl ⟨h,hk⟩
    by_cases hd:H2[j]=.dead
    ·left;refine⟨e1.trans hd,λk hk=>?_⟩;refine h2.phi_dead (r:=1) (o:=j) ?_ k ((YM k).1 hk);rw[show (1:Nat)=(M.into w G pr N).hr from rfl,oK];simp[h,hd]
    ·right;have:=h2.hand_own h hd;rw[e1,e2];exact (this.frame (λk hk=>hφw _ _ k hk) (λk hk _=>Yf k hk) λk hk _=>hk).refp λk=>(YM k).symm
   ·obtain⟨h1,h3,h4,h5⟩:=ZZ.cells r b o n hp t ht
    have YM:∀k,f (bs2 r+t) k↔G2.φ r t k:=λk=>by
     constructor
     ·rintro (⟨h,_⟩ | ⟨r',b',o',n',t',hp',ZK,e,hk⟩)
      ·omega
      ·have:=ZZ.apart _ _ _ _ _ _ _ _ hp hp' _ _ ht ZK e
       simp_all
     ·exact λhk=>.inr ⟨r,b,o,n,t,hp,ht,rfl,hk⟩
    rw[h4,h5];rcases h2.core.cell r t with ⟨c1,c2⟩ | c1
    ·left;exact⟨c1,λk hk=>c2 k ((YM k).1 hk)⟩
    ·right
     exact (c1.frame (λk hk=>hφw _ _ k hk) (λk hk _=>Yf k hk) λk hk _=>hk).refp λk=>(YM k).symm)
 exact⟨G',a1,a2,a3⟩
end
def ue:TV->Bool
 | .v _=>true
 | .sl _=>true
 | .ip _=>true
 | .ow []=>true
 | .fn _ l=>l.all H6
 | .agg l=>l.all λt=>match t with | .v _=>true | .sl _=>true | _=>false
 | _=>false
def SC:TV->Bool
 | .pk _ _=>true
 | .ow []=>true
 | _=>false
def argV(x:Option Nat×Opd):SP TV:=(opd x.2).bind λt=>if x.1==some 0 && SC t then .ret t else match t with
 | .ip cs=>.ret (.ip cs)
 | .fn f cap=>.ret (.fn f cap)
 | .ptr p vs=>.ret (.ptr p vs)
 | t=>(takeV false t).bind λl=>.ret (rX l.2 (l.1.map TV.imm))
def argVs:List (Option Nat×Opd)->SP (List TV)
 | []=>.ret []
 | x :: r=>(argV x).bind λt=>(argVs r).bind λl=>.ret (t :: l)
def takeOwns:Nat->List (Option Nat×TV)->SP (List (Nat×TV))
 | _,[]=>.ret []
 | i,(some 0,.pk p vs) :: r=>(take1 true (.pk p vs)).bind λt=>if oW t then (takeOwns (i+1) r).bind λq=>.ret ((i,t) :: q) else .fail
 | i,_ :: r=>takeOwns (i+1) r
structure GP where
 i:Nat
 p:ek
 vs:List Nat
 cells:List TV
def GL(p:ek):Nat->SP (List TV)
 | 0=>.ret []
 | n+1=>(getPl p).bind λt=>(peek1 p t).bind λt'=>(take1 true t').bind λt2=>match n with
  | 0=>.ret [t2]
  | _=>if p.fits 1 then (GL (p.add 1) n).bind λr=>.ret (t2 :: r) else .fail
def ek.base(p:ek):ek:=⟨p.root,p.off,[]⟩
def Q7(p:ek) (n:Nat):Nat:=match p.hops with
 | []=>n
 | _ :: _=>1
def rooted(p:ek):SP Unit:=match p.hops with
 | []=>.ret ()
 | _ :: _=>.rdT ((p.root - 2) / 2) λt=>match t with
  | .ptr q ws=>if q.root==p.root && q.hops.isEmpty then chk q 0 ws else .fail
  | _=>.fail
def grabs:Nat->List (Option Nat×TV)->SP (List GP)
 | _,[]=>.ret []
 | i,(some n,.ptr p vs) :: r=>(chk p p.hops.length vs).bind λ_=>(rooted p).bind λ_=>(GL p.base (Q7 p n)).bind λl=>(grabs (i+1) r).bind λq=>.ret (⟨i,p.base,vs.take 1,l⟩ :: q)
 | i,(some 0,.pk _ _) :: r=>grabs (i+1) r
 | i,(_,t) :: r=>if ue t then grabs (i+1) r else .fail
def touch(p:ek):SP Unit:=.rdC p.root p.off λtv=>.wrC p.root p.off tv (.ret ())
def rechk:List GP->SP Unit
 | []=>.ret ()
 | g :: r=>(chk g.p g.p.hops.length g.vs).bind λ_=>(touch g.p).bind λ_=>rechk r
def pE:List Nat->Bool
 | []=>true
 | x :: r=>!r.contains x && pE r
def argT(i:Nat):TV->TV
 | .ptr p _=>.ptr ⟨2*i+2,0,p.hops⟩ (List.replicate (p.hops.length+1) 0)
 | .pk _ _=>.pk ⟨2*i+3,0,[]⟩ [0,0]
 | t=>t
def argTs:Nat->List TV->List TV
 | _,[]=>[]
 | i,t :: r=>argT i t :: argTs (i+1) r
def it{α:Type}:Nat->List α->List (Nat×α)
 | _,[]=>[]
 | i,t :: r=>(i,t) :: it (i+1) r
def mkSt(vals:List TV) (pts:Pts):St:=⟨it 0 vals,pts,[]⟩
def Jn:TV->Bool
 | .dead=>true
 | _=>false
def putBack:List (GP×List TV)->SP Unit
 | []=>.ret ()
 | (g,l) :: r=>(putBack r).bind λ_=>if l.length=g.cells.length && l.all λt=>!Jn t then putL g.p l else .fail
def kN:List RSh->List TV->List TV
 | [],_=>[]
 | .one :: r,l=>l.headD .dead :: kN r l.tail
 | .agg n :: r,l=>.agg (l.take n) :: kN r (l.drop n)
 | .ptr :: r,l=>.dead :: kN r l
def vm(sh:List RSh) (l:List TV):TV:=
 match kN sh l with
 | [x]=>x
 | l=>.tup l
def sI:List RSh->Nat->Bool
 | [],n=>n==0
 | .one :: r,n=>decide (0 < n) && sI r (n - 1)
 | .agg m :: r,n=>decide (m<=n) && sI r (n - m)
 | .ptr :: _,_=>false
def landR(dst:Option Nat) (res:Ld):SP Unit:=
 match dst with
 | some d=>(names d res.cells).bind λl=>wr d (vm res.sh l)
 | none=>.ret ()
def isP(r:Ld):Bool:=match r.sh,r.cells with
 | .ptr :: _,.ptr _ _ :: _=>true
 | _,_=>false
def landP(dst:Option Nat) (q:List GP) (cells:List TV):SP Unit:=
 match dst with
 | none=>.ret ()
 | some d=>match cells,q with
  | .ptr pl _ :: l,[g]=>if pl.root==2*g.i+2 && g.p.hops.isEmpty then (rdVs (sN g.p.root (g.p.off+pl.off) pl.hops.length)).bind λvs=>wr d (Jd (.ptr ⟨g.p.root,g.p.off+pl.off,pl.hops⟩ vs) l) else .fail
  | _,_=>.fail
def callV(F:gE) (dst:Option Nat) (f:FuncId) (ns:List (Option Nat)) (vals:List TV):SP Unit:=
 (takeOwns 0 (ns.zip vals)).bind λow=>(grabs 0 (ns.zip vals)).bind λq=>(rechk q).bind λ_=>
  if pE (q.map (·.p.root)) && q.all (λg=>decide (0 < g.cells.length)) then
   (nv (F f (argTs 0 vals) (q.map (λg=>(2*g.i+2,g.cells))++ow.map λx=>(2*x.1+3,[x.2])))).bind λr=>
    if r.2.map (·.1)=q.map (λg=>2*g.i+2)++ow.map (λx=>2*x.1+3) && (isP r.1 || sI r.1.sh r.1.cells.length) then (putBack (q.zip (r.2.map (·.2)))).bind λ_=>if isP r.1 then landP dst q r.1.cells else landR dst r.1 else .fail
  else .fail
inductive BxC where
 | arg (i:Nat)
 | val (x:Value)
structure Env where
 box:FuncId->Option (Nat×List BxC)
 ps:FuncId->List (Option Nat)
def bxT(vals:List TV):BxC->TV
 | .arg i=>vals.getD i .dead
 | .val x=>.v x
def bxV(asq:List Value):BxC->Value
 | .arg i=>asq.getD i undef
 | .val x=>x
def evBox(dst:Option Nat) (tm:List BxC) (vals:List TV):SP Unit:=
 match dst with
 | some d=>(takeL false (tm.map (bxT vals))).bind λl=>.new (2*d+2) l (.rdV (2*d+2,0,0) λg=>wr d (.ptr ⟨2*d+2,0,[]⟩ [g]))
 | none=>.fail
def Pg(E:Env) (f:FuncId) (n m:Nat):List (Option Nat):=(List.range m).map λk=>(E.ps f).getD (n+k) none
def see1:TV->SP TV
 | .v x=>.ret (.v x)
 | .sl c=>.ret (.sl c)
 | .ow []=>.ret (.sl [])
 | .pk p vs=>(chk p (p.hops.length+1) vs).bind λ_=>.rdC p.root p.off λtv=>match eM tv p.hops with | some (.ow c)=>.ret (TV.ow c).imm | _=>.fail
 | _=>.fail
def seeL:List TV->SP (List TV)
 | []=>.ret []
 | t :: r=>(see1 t).bind λt'=>(seeL r).bind λl=>.ret (t' :: l)
def seeA:TV->SP TV
 | .agg l=>(seeL l).bind λl'=>.ret (.agg l')
 | .ip cs=>.ret (.ip cs)
 | .fn f cap=>if cap.all H6 then .ret (.fn f cap) else .fail
 | t=>see1 t
def seeAs:List Opd->SP (List TV)
 | []=>.ret []
 | x :: r=>(opd x).bind λt=>(seeA t).bind λt'=>(seeAs r).bind λl=>.ret (t' :: l)
def callB(F:gE) (dst:Option Nat) (f:FuncId) (vals:List TV):SP Unit:=
 (nv (F f vals [])).bind λr=>if r.2.length=0 && r.1.cells.all Hl && sI r.1.sh r.1.cells.length then (match dst with | some d=>wr d (vm r.1.sh r.1.cells) | none=>.ret ()) else .fail
def evCall(E:Env) (F:gE) (dst:Option Nat):TOp->SP Unit
 | .call k (.f f) args=>
  if k then (argVs args).bind λvals=>match E.box f with
   | some x=>if vals.length=x.1 then evBox dst x.2 vals else .fail
   | none=>callV F dst f (args.map (·.1)) vals
  else (seeAs (args.map (·.2))).bind λvals=>callB F dst f vals
 | .call _ (.t i) args=>.rdT i λt=>match t with
  | .fn f caps=>(argVs args).bind λvals=>callV F dst f (args.map (·.1)++Pg E f args.length caps.length) (vals++caps)
  | _=>.fail
 | _=>.fail
section
variable {P:Program} {M:Fm} {σ σ':St} {H:List TV} {xs:List Value} {ts:Array Value} {w:World} {G:Gh} {a:Act} {o:Oper}
theorem Rc(hI:Inv M σ [] [] a.tmps w G) {x:Option Nat×Opd}{x':Operand}(hx:dV x'=some x.2) {t:TV}(hr:(argV x).run σ=some (t,σ')) :
 ∃G',oe M w a.tmps σ [] G σ' [] [] G'/\TmR w (G'.F M.A) σ'.v (eS M σ' []) G' t (a.eval x'):=by
 unfold argV at hr;obtain⟨t0,σ1,h1,h2⟩:=dK hr;obtain⟨rfl,ht⟩:=fB hI.tmr hx h1
 have Vz:∀(l:List TV×Bool) (σ2:St),(takeV false t0).run σ1=some (l,σ2)->t=rX l.2 (l.1.map TV.imm)->σ'=σ2->∃G',oe M w a.tmps σ1 [] G σ' [] [] G'/\TmR w (G'.F M.A) σ'.v (eS M σ' []) G' t (a.eval x'):=by
  rintro l σ2 h3 rfl rfl;obtain⟨xs,G1,hg,hsh,hok,Zs⟩:=IV hI ht h3;obtain⟨G2,ZE,ZL⟩:=hg.1.dropImm (xC hok);refine⟨G2,hg.trans ZE,?_⟩;have hlen:=hg.1.hand;rcases hsh with ⟨e1,e2⟩ | ⟨e1,y,e2,e3⟩
  ·rw[e1,e2];simp only[rX,if_true];refine .agg (by simp[hlen]) λj hj=>?_
   have ZR:j < l.1.length:=by simpa using hj
   have:=ZL j ZR;simp only[List.getElem_map]
   have e:xs.toArray.getD j undef=xs.getD j undef:=by simp
   rw[e];exact this.toTm
  ·rw[e1,e3];subst e2
   have Xt:l.1.length=1:=by simpa using hlen
   obtain⟨t1,X3⟩:∃t1,l.1=[t1]:=List.length_eq_one_iff.1 Xt;have:=ZL 0 (by omega);simp only[X3,List.getElem_cons_zero,List.getD_cons_zero] at this;simp only[X3,rX,List.map_cons,List.map_nil,List.headD_cons];exact this.toTm
 have Yd:t=t0->σ'=σ1->∃G',oe M w a.tmps σ1 [] G σ' [] [] G'/\TmR w (G'.F M.A) σ'.v (eS M σ' []) G' t (a.eval x'):=by
  rintro rfl rfl;exact⟨G,oe.refl hI,ht⟩
 split at h2
 ·simp only[SP.run,oSJ,oPJ] at h2;exact Yd h2.1.symm h2.2.symm
 cases t0 with
 | ip cs=>
  simp only[SP.run,oSJ,oPJ] at h2;exact Yd h2.1.symm h2.2.symm
 | fn f cap=>
  simp only[SP.run,oSJ,oPJ] at h2;exact Yd h2.1.symm h2.2.symm
 | ptr p vs=>
  simp only[SP.run,oSJ,oPJ] at h2;exact Yd h2.1.symm h2.2.symm
 | _=>
  simp only at h2;obtain⟨l,σ2,h3,h4⟩:=dK h2;simp only[SP.run,oSJ,oPJ] at h4;exact Vz l σ2 h3 h4.1.symm h4.2.symm
theorem JL:∀{l:List (Option Nat×Opd)}{l':List Operand}{Zp:List TV}{σ σ':St}{G:Gh},Inv M σ [] [] a.tmps w G->l'.length=l.length->(∀j (h:j < l.length) (h':j < l'.length),dV l'[j]=some l[j].2)->(argVs l).run σ=some (Zp,σ') ->
 ∃G',oe M w a.tmps σ [] G σ' [] [] G'/\Zp.length=l.length/\∀j (h:j < Zp.length) (h':j < l'.length),TmR w (G'.F M.A) σ'.v (eS M σ' []) G' Zp[j] (a.eval l'[j]):=by
 intro l
 induction l with
 | nil=>
  intro l' Zp σ σ' G hI hl hc hr;obtain⟨rfl,rfl⟩:=hr;exact⟨G,oe.refl hI,rfl,λj h=>by simp at h⟩
 | cons x l ih=>
  intro l' Zp σ σ' G hI hl hc hr
  cases l' with
  | nil=>simp at hl
  | cons x' l'=>
   simp only[argVs] at hr;obtain⟨t,σ1,h1,h2⟩:=dK hr;obtain⟨r,σ2,h3,h4⟩:=dK h2;obtain⟨rfl,rfl⟩:=h4;obtain⟨G1,Zt,X3⟩:=Rc hI (by have:=hc 0 (by simp) (by simp);simpa using this) h1;obtain⟨G2,ZE,e,hts⟩:=ih (l':=l') Zt.1 (by simpa using hl) (λj h h'=>by have:=hc (j+1) (by simpa using h) (by simp_all);simpa using this) h3;refine⟨G2,Zt.trans ZE,by simp[e],λj h h'=>?_⟩
   cases j with
   | zero=>exact ZE.tm X3
   | succ j=>exact hts j (by simpa using h) (by simp_all)
end
section
variable {P:Program} {M:Fm} {σ σ':St} {H:List TV} {xs:List Value} {ts:Array Value} {w:World} {G:Gh} {a:Act} {o:Oper}
theorem J1{t t' t2:TV}{p:ek}{y:TV×St}(hp:(peek1 p t).run σ=some (t',σ')) (hr:(take1 true t').run σ=some y):kY y.2.v p.root p.off p.hops.length=kY σ.v p.root p.off p.hops.length:=by
 cases t with
 | v x=>
  obtain⟨rfl,rfl⟩:=hp;simp only[take1,SP.run,oSJ] at hr;rw[<- hr]
 | sl c=>
  obtain⟨rfl,rfl⟩:=hp;simp only[take1,SP.run,oSJ] at hr;rw[<- hr]
 | ow c=>
  simp only[peek1] at hp;obtain⟨vs,σ1,h1,h2⟩:=dK hp;obtain⟨rfl,_⟩:=h2;obtain⟨_,σ2,h3,h4⟩:=dK hr;have e1:σ2=σ:=(eF h3).1;subst e1;simp only[SP.run] at h4;split at h4
  ·simp only[if_true] at h4;obtain⟨l,hl,ho,h5⟩:=eQ h4;simp only[SP.run,oSJ] at h5;rw[mh]
   have hv:∀q,y.2.v q=σ2.v q+if (p.root,p.off,p.hops.length+1)=q then 1 else 0:=λq=>by rw[<- h5];exact iv σ2.vr _ q
   refine⟨by simp_all,λd hd=>?_⟩;rw[hv,oIN]
   ·omega
   ·intro e
    simp_all
  ·simp[SP.run] at h4
 | _=>simp[peek1,SP.run] at hp
theorem O3:∀{n:Nat}{p:ek}{ad:Addr}{l:List TV}{σ σ':St}{H:List TV}{xs:List Value}{G:Gh},Inv M σ H xs ts w G->p.root≠1->G.addr w p=some ad->(GL p n).run σ=some (l,σ') ->
 l.length=n/\∃us G',oe M w ts σ H G σ' (H++l) (xs++us) G'/\us.length=n/\(∀j (h:j < us.length),w.cell? ⟨ad.block,ad.off+j,none⟩=some us[j]/\w.frozen? ⟨ad.block,ad.off+j,none⟩=false)/\∀j (h:j < l.length),fX l[j]=true\/oW l[j]=true:=by
 intro n
 induction n with
 | zero=>
  intro p ad l σ σ' H xs G hI h1 ha hr;obtain⟨rfl,rfl⟩:=hr;exact⟨rfl,[],G,by simpa using oe.refl hI,rfl,λj h=>by simp at h,λj h=>by simp at h⟩
 | succ n ih=>
  intro p ad l σ σ' H xs G hI h1 ha hr;simp only[GL] at hr;obtain⟨t,σ1,h2,h3⟩:=dK hr;obtain⟨e1,hg⟩:=gy h2;have e1:σ1=σ:=e1;subst e1;obtain⟨t',σ2,h4,h5⟩:=dK h3;have hd:=tS h4;obtain⟨hB,u,fp,Y4,hown,hv⟩:=hI.named h1 ha hg hd;obtain⟨rfl,ZK⟩:=vq hI h1 hg hown hv h4;obtain⟨t2,σ3,h6,h7⟩:=dK h5;have XY:=J1 (t2:=t2) h4 h6;obtain⟨G1,Zt,Zs⟩:=jH hI ZK h6
  have UK:eM (eS M σ2 H p.root p.off) p.hops=some t:=by rw[eO (by exact h1)];exact hg
  obtain⟨u0,ZA,ZC,hcu0,Xq,_⟩:=hI.core.set p hB UK;obtain⟨_,XC,_⟩:=Zt.2.2.1.ptr p ad t h1 XY ha UK
  have Zc:(⟨ad.block,ad.off+0,none⟩:Addr)=ad:=by obtain⟨b,o,s⟩:=ad;simp only at ZC;subst ZC;rfl
  have hcell:=mi h6
  cases n with
  | zero=>
   obtain⟨rfl,rfl⟩:=h7;refine⟨rfl,[u],G1,Zt,rfl,λj h=>?_,λj h=>?_⟩
   ·obtain rfl:j=0:=by simp at h;omega
    rw[Zc];exact⟨Y4,Xq⟩
   ·obtain rfl:j=0:=by simp at h;omega
    exact hcell
  | succ n=>
   simp only at h7;split at h7
   ·obtain⟨r,σ4,h8,h9⟩:=dK h7;obtain⟨rfl,rfl⟩:=h9;obtain⟨e2,us,G2,ZE,e3,e4,e5⟩:=ih Zt.1 (by rw[fZ];exact h1) (pO 1 XC) h8;refine⟨by simp[e2],u :: us,G2,by simpa using Zt.trans ZE,by simp[e3],λj h=>?_,λj h=>?_⟩
    ·cases j with
     | zero=>rw[Zc];exact⟨Y4,Xq⟩
     | succ j=>
      have:=e4 j (by simpa using h);simp only[List.getElem_cons_succ];rw[show ad.off+(j+1)=ad.off+1+j by omega];exact this
    ·cases j with
     | zero=>exact hcell
     | succ j=>exact e5 j (by simpa using h)
   ·simp[SP.run] at h7
theorem KR{r o:Nat}{c:List (List TV)}{l:List TV}(hc:σ.c r o=.ow c) (h:(GL ⟨r,o,[]⟩ 1).run σ=some (l,σ')):l=[.ow c]:=by
 simp only[GL] at h;obtain⟨t,σ1,h1,h2⟩:=dK h;obtain⟨e1,hg⟩:=gy h1;subst e1;simp only[hc,eM,oSJ] at hg;subst hg;obtain⟨t',σ2,h3,h4⟩:=dK h2;obtain⟨vs,σ3,h5,h6⟩:=dK h3;obtain⟨rfl,rfl⟩:=h6;rw[zl] at h5
 injection h5 with h5
 injection h5 with _ h5
 subst h5;obtain⟨t2,σ4,h7,h8⟩:=dK h4;simp only[SP.run,oSJ,oPJ] at h8;rw[<- h8.1];obtain⟨_,σ5,h9,ZM⟩:=dK h7;have e2:σ5=σ1:=(eF h9).1;subst e2;simp only[SP.run,hc,eM,if_true] at ZM;split at ZM
 ·simp_all
 ·cases ZM
theorem Ma(hI:Inv M σ H xs ts w G) {p:ek}(h:(rooted p).run σ=some ((),σ')):σ'=σ/\(p.hops≠[]->∃b o n,G.β p.root=some (b,o,n)):=by
 obtain⟨r,o,hops⟩:=p
 cases hops with
 | nil=>
  simp only[rooted,SP.run,oSJ,oPJ,true_and] at h
  simp_all
 | cons hp hs=>
  simp only[rooted,SP.run] at h;have ht:=hI.tmr ((r - 2) / 2)
  cases hq:σ.t ((r - 2) / 2) with
  | ptr q ws=>
   rw[hq] at h ht;simp only at h;split at h
   ·rename_i hc;simp at hc;have e1:σ'=σ:=(eF h).1;have e2:=(eF h).2;refine⟨e1,λ_=>?_⟩
    cases ht with
    | ptr V0 h0 hv hok=>
     obtain⟨_,ad,t,ha,_,_⟩:=hok (by rw[hc.2];exact e2);unfold Gh.addr at ha;rw[hc.2] at ha;rw[<- hc.1]
     cases hb:G.β q.root with
     | none=>rw[hb] at ha;simp at ha
     | some y=>obtain⟨b,o,n⟩:=y;exact⟨b,o,n,rfl⟩
   ·simp[SP.run] at h
  | _=>rw[hq] at h;simp[SP.run] at h
inductive xH (w:World):Nat->List TV->List Value->List (GP×Addr)->List Value->Prop
 | nil (i:Nat):xH w i [] [] [] []
 | ptr {i:Nat} {p:ek} {hp:List Hop} {vs vs0:List Nat} {cells:List TV} {ad ad0:Addr} {u:List Value} {ts:List TV} {xs:List Value} {K:List (GP×Addr)} {us:List Value} (hr:p.root≠1) (hb:p.hops=[]) (hs:ad.spot=none) (h0:hp=[]->ad0=ad)
  (hh:hp≠[]->fe w ((w.cell? ⟨ad.block,ad.off,none⟩).getD undef) hp=some ad0/\∃t,eM (cells.getD 0 .dead) hp=some t) (hu:u.length=cells.length)
  (hc:∀j (h:j < u.length),w.cell? ⟨ad.block,ad.off+j,none⟩=some u[j]/\w.frozen? ⟨ad.block,ad.off+j,none⟩=false) (hok:∀j (h:j < cells.length),fX cells[j]=true\/oW cells[j]=true)
  (h:xH w (i+1) ts xs K us):xH w i (.ptr ⟨p.root,p.off,hp⟩ vs0 :: ts) (.pointer (some ad0) :: xs) ((⟨i,p,vs,cells⟩,ad) :: K) (u++us)
 | arg {i:Nat} {t:TV} {x:Value} {ts:List TV} {xs:List Value} {K:List (GP×Addr)} {us:List Value} (ha:ue t=true) (h:xH w (i+1) ts xs K us):xH w i (t :: ts) (x :: xs) K us
 | own {i:Nat} {p:ek} {vs:List Nat} {x:Value} {ts:List TV} {xs:List Value} {K:List (GP×Addr)} {us:List Value} (h:xH w (i+1) ts xs K us):xH w i (.pk p vs :: ts) (x :: xs) K us
inductive NL:Nat->List (Option Nat×TV)->List Value->List (Nat×TV)->List Value->Prop
 | nil (i:Nat):NL i [] [] [] []
 | own {i:Nat} {p:ek} {vs:List Nat} {l:List (Option Nat×TV)} {x:Value} {xs:List Value} {c:List (List TV)} {ow:List (Nat×TV)} {zs:List Value} (h:NL (i+1) l xs ow zs):NL i ((some 0,.pk p vs) :: l) (x :: xs) ((i,.ow c) :: ow) (x :: zs)
 | skip {i:Nat} {y:Option Nat×TV} {l:List (Option Nat×TV)} {x:Value} {xs:List Value} {ow:List (Nat×TV)} {zs:List Value} (h:NL (i+1) l xs ow zs):NL i (y :: l) (x :: xs) ow zs
theorem C3{i:Nat}{y:Option Nat×TV}{l:List (Option Nat×TV)}(hn:∀p vs,y≠(some 0,.pk p vs)):takeOwns i (y :: l)=takeOwns (i+1) l:=by
 have ⟨n,t⟩:=y
 cases t with
 | pk p vs=>
  cases n with
  | none=>rfl
  | some n=>
   cases n with
   | zero=>simp_all
   | succ n=>rfl
 | _=>cases n with
  | none=>rfl
  | some n=>cases n<;>rfl
theorem Hr:∀{l:List (Option Nat×TV)}{asq:List Value}{i:Nat}{ow:List (Nat×TV)}{σ σ':St}{H:List TV}{xs:List Value}{G:Gh},Inv M σ H xs ts w G->asq.length=l.length->(∀j (h:j < l.length) (h':j < asq.length),TmR w (G.F M.A) σ.v (eS M σ H) G l[j].2 asq[j])->(takeOwns i l).run σ=some (ow,σ') ->
 ∃zs G',oe M w ts σ H G σ' (H++ow.map (·.2)) (xs++zs) G'/\NL i l asq ow zs/\∀(j:Nat) (p:ek) (vs:List Nat),l[j]?=some (some 0,TV.pk p vs)->∃x∈ow,x.1=i+j:=by
 intro l
 induction l with
 | nil=>
  intro asq i ow σ σ' H xs G hI hl _ hr;obtain⟨rfl,rfl⟩:=hr;have:asq=[]:=oEN (by simpa using hl);subst this;exact⟨[],G,by simpa using oe.refl hI,.nil i,λj p vs h=>by simp at h⟩
 | cons y l ih=>
  intro asq i ow σ σ' H xs G hI hl ht hr
  cases asq with
  | nil=>simp at hl
  | cons x asq=>
   have Uo:=ht 0 (by simp) (by simp);simp only[List.getElem_cons_zero] at Uo;by_cases hp:∃p vs,y=(some 0,.pk p vs)
   ·obtain⟨p,vs,rfl⟩:=hp;simp only[takeOwns] at hr;obtain⟨t,σ1,h1,h2⟩:=dK hr;split at h2
    case isFalse=>simp[SP.run] at h2
    rename_i how;obtain⟨q,σ2,h3,h4⟩:=dK h2;obtain⟨rfl,rfl⟩:=h4
    obtain⟨c,rfl⟩:∃c,t=.ow c:=by cases t<;>simp[oW] at how;exact⟨_,rfl⟩
    obtain⟨G1,Zt,_⟩:=jH hI Uo h1;obtain⟨zs,G2,ZE,k1,k2⟩:=ih (asq:=asq) Zt.1 (by simpa using hl) (λj h h'=>Zt.tm (by have:=ht (j+1) (by simpa using h) (by simpa using h');simpa only [List.getElem_cons_succ] using this)) h3;refine⟨x :: zs,G2,by simpa [List.append_assoc] using Zt.trans ZE,.own k1,λj p vs h=>?_⟩
    cases j with
    | zero=>exact⟨_,List.mem_cons_self,rfl⟩
    | succ j=>
     obtain⟨z,h5,h6⟩:=k2 j p vs (by simpa using h);exact⟨z,List.mem_cons_of_mem _ h5,by omega⟩
   ·have hn:=λp vs e=>hp ⟨p,vs,e⟩;rw[C3 hn] at hr;obtain⟨zs,G2,ZE,k1,k2⟩:=ih (asq:=asq) hI (by simpa using hl) (λj h h'=>by have:=ht (j+1) (by simpa using h) (by simpa using h');simpa only [List.getElem_cons_succ] using this) hr;refine⟨zs,G2,ZE,.skip k1,λj p vs h=>?_⟩
    cases j with
    | zero=>exact absurd (by simpa using h) (hn p vs)
    | succ j=>
     obtain⟨z,h5,h6⟩:=k2 j p vs (by simpa using h);exact⟨z,h5,by omega⟩
theorem O1:∀{l:List (Option Nat×TV)}{i:Nat}{q:List GP}{σ σ':St},(grabs i l).run σ=some (q,σ')->∀(j:Nat) (n:Option Nat) (p:ek) (vs:List Nat),l[j]?=some (n,TV.pk p vs)->n=some 0:=by
 intro l
 induction l with
 | nil=>simp_all
 | cons y l ih=>
  intro i q σ σ' hr j n p vs h;obtain⟨m,t⟩:=y
  cases j with
  | zero=>
   simp at h;obtain⟨rfl,rfl⟩:=h
   cases m with
   | none=>simp[grabs,ue,SP.run] at hr
   | some m=>
    cases m with
    | zero=>rfl
    | succ m=>simp[grabs,ue,SP.run] at hr
  | succ j=>
   have hj:l[j]?=some (n,.pk p vs):=by simpa using h
   have Ys:∀{σ1 σ2:St} {q1:List GP},(grabs (i+1) l).run σ1=some (q1,σ2)->n=some 0:=λh1=>ih h1 j n p vs hj
   have arg:((if ue t then grabs (i+1) l else .fail:SP (List GP))).run σ=some (q,σ')->n=some 0:=by
    intro h1;split at h1
    ·exact Ys h1
    ·simp[SP.run] at h1
   cases t with
   | ptr p2 vs2=>
    cases m with
    | none=>exact arg hr
    | some m=>
     obtain⟨_,σ1,h1,h2⟩:=dK hr;obtain⟨_,σ0,_,h2⟩:=dK h2;obtain⟨cells,σ2,h3,h4⟩:=dK h2;obtain⟨q1,σ3,h5,h6⟩:=dK h4;exact Ys h5
   | pk p2 vs2=>
    cases m with
    | none=>exact arg hr
    | some m=>
     cases m with
     | zero=>exact Ys hr
     | succ m=>exact arg hr
   | _=>cases m with
    | none=>exact arg hr
    | some m=>cases m<;>exact arg hr
theorem O2:∀{l:List (Option Nat×TV)}{asq:List Value}{i:Nat}{q:List GP}{σ σ':St}{H:List TV}{xs:List Value}{G:Gh},Inv M σ H xs ts w G->asq.length=l.length->(∀j (h:j < l.length) (h':j < asq.length),TmR w (G.F M.A) σ.v (eS M σ H) G l[j].2 asq[j])->(grabs i l).run σ=some (q,σ') ->
 ∃us G' K,oe M w ts σ H G σ' (H++q.flatMap (·.cells)) (xs++us) G'/\K.map (·.1)=q/\xH w i (l.map (·.2)) asq K us/\∀x∈K,TmR w (G'.F M.A) σ'.v (eS M σ' (H++q.flatMap (·.cells))) G' (.ptr x.1.p x.1.vs) (.pointer (some x.2)):=by
 intro l
 induction l with
 | nil=>
  intro asq i q σ σ' H xs G hI hl _ hr;obtain⟨rfl,rfl⟩:=hr;have:asq=[]:=oEN (by simpa using hl);subst this;exact⟨[],G,[],by simpa using oe.refl hI,rfl,.nil i,λx hx=>by simp at hx⟩
 | cons x l ih=>
  intro asq i q σ σ' H xs G hI hl ht hr
  cases asq with
  | nil=>simp at hl
  | cons y asq=>
   obtain⟨n,t⟩:=x;have Uo:=ht 0 (by simp) (by simp);simp only[List.getElem_cons_zero] at Uo
   have ZS:∀{σ1:St} {H1:List TV} {xs1:List Value} {G1:Gh},oe M w ts σ H G σ1 H1 xs1 G1->∀j (h:j < l.length) (h':j < asq.length),TmR w (G1.F M.A) σ1.v (eS M σ1 H1) G1 l[j].2 asq[j]:=λhg j h h'=>
    hg.tm (by have:=ht (j+1) (by simpa using h) (by simpa using h');simpa only [List.getElem_cons_succ] using this)
   have Zf:(∀p vs,t≠.ptr p vs)->(∀p vs,(n,t)≠(some 0,.pk p vs))->∃us G' K,oe M w ts σ H G σ' (H++q.flatMap (·.cells)) (xs++us) G'/\K.map (·.1)=q/\xH w i (((n,t) :: l).map (·.2)) (y :: asq) K us/\∀x∈K,TmR w (G'.F M.A) σ'.v (eS M σ' (H++q.flatMap (·.cells))) G' (.ptr x.1.p x.1.vs) (.pointer (some x.2)):=by
    intro hne UP
    have XH:(if ue t then grabs (i+1) l else .fail:SP (List GP)).run σ=some (q,σ'):=by
     cases n with
     | none=>cases t<;>exact hr
     | some n=>cases n<;>cases t<;>first | exact absurd rfl (hne _ _) | exact absurd rfl (UP _ _) | exact hr
    split at XH
    ·rename_i VB;obtain⟨us,G',K,e1,e2,e3,e4⟩:=ih (asq:=asq) hI (by simpa using hl) (ZS (oe.refl hI)) XH;exact⟨us,G',K,e1,e2,.arg VB e3,e4⟩
    ·simp[SP.run] at XH
   by_cases hp:∃p vs,t=.ptr p vs
   ·obtain⟨p,vs,rfl⟩:=hp
    cases n with
    | none=>simp[grabs,ue,SP.run] at hr
    | some n=>
     simp only[grabs] at hr;obtain⟨_,σ1,h1,h2⟩:=dK hr;have e1:σ1=σ:=(eF h1).1;have e2:=(eF h1).2;subst e1;obtain⟨_,σr,hR,Uy⟩:=dK h2;obtain⟨rfl,YJ⟩:=Ma hI hR;obtain⟨cells,σ2,h3,h4⟩:=dK Uy;obtain⟨q1,σ3,h5,h6⟩:=dK h4;simp only[SP.run,oSJ,oPJ] at h6;obtain⟨rfl,rfl⟩:=h6;generalize hz:y=z at Uo
     cases Uo with
     | ptr V0 h0 hv h=>
      obtain⟨Z8,ad0,t0,ha,rfl,Z5⟩:=h e2;obtain⟨r,o,hops⟩:=p
      have Wa:∃ad,G.addr w (⟨r,o,[]⟩:ek)=some ad/\(hops=[]->ad0=ad)/\(hops≠[]->fe w ((w.cell? ⟨ad.block,ad.off,none⟩).getD undef) hops=some ad0):=by
       cases hops with
       | nil=>exact⟨ad0,ha,λ_=>rfl,λe=>absurd rfl e⟩
       | cons hp1 hs=>
        obtain⟨b,o0,n0,hb⟩:=YJ (by simp);refine⟨⟨b,o0+o,none⟩,by simp only[Gh.addr];rw[hb],λe=>by simp at e,λ_=>?_⟩;have ha':fe w (G.val w r o) (hp1 :: hs)=some ad0:=ha;unfold Gh.val at ha';rw[hb] at ha';exact ha'
      obtain⟨ad,hba,hb0,hbh⟩:=Wa;have hrb:(⟨r,o,hops⟩:ek).base.root≠1:=Z8;obtain⟨k1,u,G1,Zt,k2,k3,k4⟩:=O3 (p:=(⟨r,o,hops⟩:ek).base) hI hrb hba h3;obtain⟨us,G2,K,ZE,k5,k6,k7⟩:=ih (asq:=asq) Zt.1 (by simpa using hl) (ZS Zt) h5
      have Zl:TmR w (G.F M.A) σr.v (eS M σr H) G (.ptr (⟨r,o,hops⟩:ek).base (vs.take 1)) (.pointer (some ad)):=
       .ptr V0 h0 (by rw[hv];simp[kY,ek.base]) λ_=>⟨Z8,ad,_,hba,rfl,rfl⟩
      refine⟨u++us,G2,(⟨i,(⟨r,o,hops⟩:ek).base,vs.take 1,cells⟩,ad) :: K,by simpa [List.append_assoc] using Zt.trans ZE,by simp[k5],.ptr (p:=(⟨r,o,hops⟩:ek).base) (hp:=hops) Z8 rfl (nj hba) hb0 (λhne=>⟨hbh hne,?_⟩) (by omega) k3 k4 k6,λx hx=>?_⟩
      ·have Xb:eM (σr.c r o) hops=some t0:=by
        have:=Z5;rw[eO (by exact Z8)] at this;exact this
       cases hops with
       | nil=>exact absurd rfl hne
       | cons h1 hs=>
        cases hc:σr.c r o with
        | ow c=>
         have:=KR hc h3;rw[this];rw[hc] at Xb;exact⟨t0,Xb⟩
        | _=>rw[hc] at Xb;simp[eM] at Xb
      ·have e3:H++(({ i:=i,p:=(⟨r,o,hops⟩:ek).base,vs:=vs.take 1,cells:=cells }:GP) :: q1).flatMap (·.cells)=H++cells++q1.flatMap (·.cells):=by simp[List.append_assoc]
       rw[e3];rcases List.mem_cons.1 hx with rfl | hx
       ·exact ZE.tm (Zt.tm Zl)
       ·exact k7 x hx
   ·by_cases hw:∃p vs,(n,t)=(some 0,.pk p vs)
    ·obtain⟨p,vs,hw⟩:=hw
     injection hw with h1 h2
     subst h1;subst h2;have XH:(grabs (i+1) l).run σ=some (q,σ'):=hr;obtain⟨us,G',K,e1,e2,e3,e4⟩:=ih (asq:=asq) hI (by simpa using hl) (ZS (oe.refl hI)) XH;exact⟨us,G',K,e1,e2,.own e3,e4⟩
    ·exact Zf (λp vs e=>hp ⟨p,vs,e⟩) λp vs e=>hw ⟨p,vs,e⟩
theorem Hf{α:Type}:∀{l:List (Nat×α)}{r:Nat}{x:α},eU l r=some x->gV l r x=l:=by
 intro l
 induction l with
 | nil=>intro r x h;simp[eU] at h
 | cons y l ih=>
  intro r x h;simp[eU] at h;simp[gV]
  grind
theorem NP{p:ek}(hr:(touch p).run σ=some ((),σ')):σ'=σ/\∃l,eU σ.ce p.root=some l/\p.off < l.length:=by
 simp[touch] at hr;obtain⟨l,hl,ho,h2⟩:=eQ (k:=.ret ()) (by simpa [SP.run] using hr);simp[SP.run] at h2;refine⟨?_,l,hl,ho⟩;rw[<- h2]
 have e:l.set p.off (σ.c p.root p.off)=l:=by
  have:σ.c p.root p.off=l[p.off]:=by simp[St.c,hl,ho]
  simp_all
 rw[e,Hf hl]
theorem Ou(hI:Inv M σ H xs ts w G):∀{q:List GP}{σ':St},(rechk q).run σ=some ((),σ')->σ'=σ/\∀g∈q,∀x,TmR w (G.F M.A) σ.v (eS M σ H) G (.ptr g.p g.vs) x->g.p.root≠1/\∃ad,x=.pointer (some ad)/\G.addr w g.p=some ad/\g.vs=kY σ.v g.p.root g.p.off g.p.hops.length/\(∃t,eM (eS M σ H g.p.root g.p.off) g.p.hops=some t)/\((∃o n,G.β g.p.root=some (ad.block,o,n))\/G.φ g.p.root g.p.off ad.block):=by
 intro q
 induction q with
 | nil=>
  intro σ' hr;simp only[rechk,SP.run,oPJ,true_and] at hr
  simp_all
 | cons g q ih=>
  intro σ' hr;obtain⟨_,σ1,h1,h2⟩:=dK hr;have e1:σ1=σ:=(eF h1).1;have e2:=(eF h1).2;subst e1;obtain⟨_,σ2,h3,h4⟩:=dK h2;obtain⟨rfl,l,hl,ho⟩:=NP h3;obtain⟨rfl,hq⟩:=ih h4;refine⟨rfl,λg' UJ x hx=>?_⟩;rcases List.mem_cons.1 UJ with rfl | UJ
  ·cases hx with
   | ptr V0 h0 hv h=>
    obtain⟨Z8,ad,t0,ha,hx,Z5⟩:=h e2
    have hB:G.addrB w g'.p=some ad:=by
     refine ol ha λhp b o0 n hb=>?_;have:=hI.shape _ _ _ _ hb l hl;omega
    refine⟨Z8,ad,hx,ha,e2,⟨t0,Z5⟩,?_⟩;rcases hI.core.where_ g'.p hB Z5 with ⟨_,b,o0,n,h5,_,h6⟩ | ⟨_,h5⟩
    ·left;exact⟨o0,n,by rw[h5,h6]⟩
    ·right;exact h5
  ·exact hq g' UJ x hx
end
def prK:List (GP×Addr)->Nat->Option (Nat×Nat×Nat)
 | [],_=>none
 | (g,ad) :: K,r=>if 2*g.i+2=r then some (ad.block,ad.off,g.cells.length) else prK K r
def bsK:List (GP×Addr)->Nat->Nat
 | [],_=>0
 | (g,_) :: K,r=>if 2*g.i+2=r then 0 else g.cells.length+bsK K r
def ceK(K:List (GP×Addr)):List (Nat×List TV):=K.map λx=>(2*x.1.i+2,x.1.cells)
def ceO(ow:List (Nat×TV)):List (Nat×List TV):=ow.map λx=>(2*x.1+3,[x.2])
def owK:List (Nat×TV)->Nat->Option Nat
 | [],_=>none
 | (i,_) :: q,r=>if 2*i+3=r then some 0 else (owK q r).map (· + 1)
def md(K:List (GP×Addr)):List TV:=K.flatMap λx=>x.1.cells
section
theorem mN{K:List (GP×Addr)}{r b o n:Nat}(h:prK K r=some (b,o,n)):∃x∈K,r=2*x.1.i+2/\b=x.2.block/\o=x.2.off/\n=x.1.cells.length/\eU (ceK K) r=some x.1.cells/\∀j (_:j < x.1.cells.length),(md K)[bsK K r+j]?=x.1.cells[j]?:=by
 induction K with
 | nil=>simp[prK] at h
 | cons y K ih=>
  obtain⟨g,ad⟩:=y;simp only[prK] at h;split at h
  ·rename_i e
   injection h with h
   injection h with h1 h
   injection h with h2 h3
   refine⟨(g,ad),by simp,e.symm,h1.symm,h2.symm,h3.symm,by simp[ceK,eU,e],λj hj=>?_⟩;simp only[bsK,e,if_true,md,Nat.zero_add];exact List.getElem?_append_left hj
  ·rename_i e;obtain⟨x,h1,h2,h3,h4,h5,h6,h7⟩:=ih h;refine⟨x,by simp[h1],h2,h3,h4,h5,by simpa [ceK,eU,e] using h6,λj hj=>?_⟩;simp only[bsK,e,if_false,md,List.flatMap_cons];rw[List.getElem?_append_right (by omega)];rw[show g.cells.length+bsK K r+j - g.cells.length=bsK K r+j by omega];exact h7 j hj
theorem JE{K:List (GP×Addr)}{r:Nat}{l:List TV}(h:eU (ceK K) r=some l):prK K r≠none:=by
 induction K with
 | nil=>simp[ceK,eU] at h
 | cons y K ih=>
  simp[ceK,eU] at h;simp[prK];split
  ·simp
  ·rename_i e;rw[oIN e] at h;exact ih h
theorem PP{K:List (GP×Addr)}:∀r b o n r' b' o' n',prK K r=some (b,o,n)->prK K r'=some (b',o',n')->∀j j',j < n->j' < n'->bsK K r+j=bsK K r'+j'->r=r':=by
 induction K with
 | nil=>intro r b o n r' b' o' n' h;simp[prK] at h
 | cons y K ih=>
  intro r b o n r' b' o' n' h h' j j' hj ZR e;simp[prK,bsK] at h h' e
  grind
theorem xH.slot{w:World}{i:Nat}{ts:List TV}{asq us:List Value}{K:List (GP×Addr)}(h:xH w i ts asq K us):∀x∈K,i<=x.1.i/\x.1.p.hops=[]/\∃p vs,ts[x.1.i - i]?=some (.ptr p vs):=by
 induction h with
 | nil=>intro x hx;simp at hx
 | @ptr i p hp vs vs0 cells ad ad0 u ts xs K us hr hb hs h0 hh hu hc hok h ih=>
  intro x hx;rcases List.mem_cons.1 hx with rfl | hx
  ·simp_all
  ·obtain⟨h1,h3,p,vs,h2⟩:=ih x hx;refine⟨by omega,h3,p,vs,?_⟩;rw[show x.1.i - i=(x.1.i - (i+1))+1 by omega];simpa using h2
 | @arg i t x0 ts xs K us ha h ih=>
  intro x hx;obtain⟨h1,h3,p,vs,h2⟩:=ih x hx;refine⟨by omega,h3,p,vs,?_⟩;rw[show x.1.i - i=(x.1.i - (i+1))+1 by omega];simpa using h2
 | @own i p0 vs0 x0 ts xs K us h ih=>
  intro x hx;obtain⟨h1,h3,p,vs,h2⟩:=ih x hx;refine⟨by omega,h3,p,vs,?_⟩;rw[show x.1.i - i=(x.1.i - (i+1))+1 by omega];simpa using h2
theorem xH.len{w:World}{i:Nat}{ts:List TV}{asq us:List Value}{K:List (GP×Addr)}(h:xH w i ts asq K us):ts.length=asq.length/\us.length=(md K).length:=by
 induction h with
 | nil=>exact⟨rfl,rfl⟩
 | ptr hr hb hs h0 hh hu hc hok h ih=>exact⟨by simp_all,by simp[md,hu] at ih ⊢;exact ih.2⟩
 | arg ha h ih=>simp_all
 | own h ih=>simp_all
theorem xH.ok{w:World}{i:Nat}{ts:List TV}{asq us:List Value}{K:List (GP×Addr)}(h:xH w i ts asq K us):∀x∈K,∀j (h:j < x.1.cells.length),fX x.1.cells[j]=true\/oW x.1.cells[j]=true:=by
 induction h with
 | nil=>simp_all
 | ptr hr hb hs h0 hh hu hc hok h ih=>
  intro x hx;rcases List.mem_cons.1 hx with rfl | hx
  ·exact hok
  ·exact ih x hx
 | arg ha h ih=>exact ih
 | own h ih=>exact ih
theorem xH.here{w:World}{i:Nat}{ts:List TV}{asq us:List Value}{K:List (GP×Addr)}(h:xH w i ts asq K us):∀r b o n,prK K r=some (b,o,n)->∀j,j < n->w.cell? ⟨b,o+j,none⟩=some (us.getD (bsK K r+j) undef)/\w.frozen? ⟨b,o+j,none⟩=false:=by
 induction h with
 | nil=>intro r b o n h;simp[prK] at h
 | @ptr i p hp0 vs vs0 cells ad ad0 u ts xs K us hr hb hs h0 hh hu hc hok h ih=>
  intro r b o n hp j hj;simp only[prK] at hp;simp only[bsK];split at hp
  ·rename_i e
   injection hp with hp
   injection hp with h1 hp
   injection hp with h2 h3
   subst h1;subst h2;rw[oIP e,Nat.zero_add]
   have hju:j < u.length:=by omega
   have:=hc j hju;refine⟨?_,this.2⟩;rw[this.1,oGD,List.getElem?_append_left hju,oGE hju];rfl
  ·rename_i e;rw[oIN e];have:=ih r b o n hp j hj;refine⟨?_,this.2⟩;rw[this.1];simp;rw[List.getElem?_append_right (by omega)];rw[show cells.length+bsK K r+j - u.length=bsK K r+j by omega]
 | arg ha h ih=>exact ih
 | own h ih=>exact ih
end
theorem xe{α:Type}{f:α->Nat}:∀{l:List α},pE (l.map f)=true->∀{x y:α},x∈l->y∈l->f x=f y->x=y:=by
 intro l
 induction l with
 | nil=>simp_all
 | cons z l ih=>
  intro h x y hx hy e;simp only[List.map_cons,pE,oBA,Bool.not_eq_true',List.contains_eq_mem,decide_eq_false_iff_not] at h;rcases List.mem_cons.1 hx with Z2 | Z2
  ·rcases List.mem_cons.1 hy with XI | XI
   ·rw[Z2,XI]
   ·exact absurd (by rw[<- Z2,e];exact List.mem_map_of_mem XI) h.1
  ·rcases List.mem_cons.1 hy with XI | XI
   ·simp_all
   ·exact ih h.2 Z2 XI e
section
variable {P:Program} {M:Fm} {σ σ':St} {H:List TV} {xs:List Value} {ts:Array Value} {w:World} {G:Gh} {a:Act} {o:Oper}
theorem rL{α:Type}:∀{a b:List (Nat×α)}{r:Nat},eU (a++b) r=match eU a r with | some x=>some x | none=>eU b r:=by
 intro a
 induction a with
 | nil=>intro b r;rfl
 | cons y a ih=>
  intro b r;simp[eU];split
  ·rfl
  ·exact ih
theorem vt:∀{q:List (Nat×TV)}{r j:Nat},owK q r=some j->∃h:j < q.length,r=2*q[j].1+3/\eU (ceO q) r=some [q[j].2]:=by
 intro q
 induction q with
 | nil=>intro r j h;simp[owK] at h
 | cons y q ih=>
  intro r j h;obtain⟨i,t⟩:=y;simp only[owK] at h;split at h
  ·rename_i e
   injection h with h
   subst h;exact⟨by simp,e.symm,by simp[ceO,eU,e]⟩
  ·rename_i e
   cases hq:owK q r with
   | none=>simp_all
   | some k=>
    simp[hq,oMS] at h;subst h
    have:eU (ceO ((i,t) :: q)) r=eU (ceO q) r:=by simp[ceO,eU,e]
    simp_all
theorem Pf:∀{q:List (Nat×TV)}{r:Nat}{l:List TV},eU (ceO q) r=some l->owK q r≠none:=by
 intro q
 induction q with
 | nil=>intro r l h;simp[ceO,eU] at h
 | cons y q ih=>
  intro r l h;have ⟨i,t⟩:=y;simp[owK];split
  ·simp
  ·rename_i e
   have:eU (ceO ((i,t) :: q)) r=eU (ceO q) r:=by simp[ceO,eU,e]
   simp_all
theorem NL.facts{i:Nat}{l:List (Option Nat×TV)}{asq:List Value}{ow:List (Nat×TV)}{zs:List Value}(h:NL i l asq ow zs):zs.length=ow.length/\(∀x∈ow,i<=x.1/\∃c,x.2=.ow c)/\∀x∈ow,∃k,owK ow (2*x.1+3)=some k/\asq[x.1 - i]?=zs[k]?:=by
 induction h with
 | nil=>simp_all
 | @own i p vs l x xs c ow zs h ih=>
  obtain⟨h1,h2,h3⟩:=ih;refine⟨by simp[h1],λy hy=>?_,λy hy=>?_⟩
  ·rcases List.mem_cons.1 hy with rfl | hy
   ·exact⟨Nat.le_refl _,c,rfl⟩
   ·exact⟨by have:=(h2 y hy).1;omega,(h2 y hy).2⟩
  ·rcases List.mem_cons.1 hy with rfl | hy
   ·exact⟨0,by simp[owK],by simp⟩
   ·obtain⟨k,h4,h5⟩:=h3 y hy;have X8:=(h2 y hy).1;refine⟨k+1,by simp[owK];rw[oIN (by omega),h4];rfl,?_⟩;rw[show y.1 - i=(y.1 - (i+1))+1 by omega];simpa using h5
 | @skip i y0 l x xs ow zs h ih=>
  obtain⟨h1,h2,h3⟩:=ih;refine⟨h1,λy hy=>⟨by have:=(h2 y hy).1;omega,(h2 y hy).2⟩,λy hy=>?_⟩;obtain⟨k,h4,h5⟩:=h3 y hy;have X8:=(h2 y hy).1;refine⟨k,h4,?_⟩;rw[show y.1 - i=(y.1 - (i+1))+1 by omega];simpa using h5
theorem xH.hands{vals:List TV}{asq us:List Value}{K:List (GP×Addr)}{l:List (Option Nat×TV)}{ow:List (Nat×TV)}{zs:List Value}(hI:Inv M σ (ow.map (·.2)++md K) (zs++us) ts w G) (h:xH w 0 vals asq K us) (ho:NL 0 l asq ow zs) (Zr:pE ((K.map (·.1)).map (·.p.root))=true) (ZT:∀x∈K,0 < x.1.cells.length)
 (Vl:∀x∈K,x.1.p.root≠1/\((∃o n,G.β x.1.p.root=some (x.2.block,o,n))\/G.φ x.1.p.root x.1.p.off x.2.block)):Le (ow.map (·.2)++md K) (zs++us) w G M.A (prK K) (λr=>ow.length+bsK K r) (ceK K++ceO ow) (owK ow):=by
 obtain⟨hz,Xv,_⟩:=ho.facts
 have UQ:∀r,r % 2=1->eU (ceK K) r=none:=λr hr=>by
  cases hc:eU (ceK K) r with
  | none=>rfl
  | some l=>
   cases hp:prK K r with
   | none=>exact absurd hp (JE hc)
   | some x=>obtain⟨b,o,n⟩:=x;obtain⟨x,_,h2,_⟩:=mN hp;omega
 refine⟨λr b o n hp=>?_,λr b o n hp=>?_,λr l hl=>?_,λr j hj=>?_,λr j r' b o n hj hp j' ZR=>by have:=(vt hj).1;omega,λr r' j hj ZR=>?_,λr b o n r' b' o' n' h1 h2 j j' hj ZR e=>PP _ _ _ _ _ _ _ _ h1 h2 _ _ hj ZR (by omega),λr b o n r' o' n' h1 h2=>?_,λr b o n hp hF=>?_,λr b o n hp j hφ=>?_,λr b o n hp j hj=>?_⟩
 ·obtain⟨x,h1,h2,_,_,h5,_⟩:=mN hp;exact⟨by omega,by rw[h5];exact ZT x h1⟩
 ·obtain⟨x,h1,h2,_,_,h5,h6,h7⟩:=mN hp;refine⟨_,by rw[rL,h6],h5.symm,λj hj=>?_⟩;have:=h7 j hj;rw[oGE hj] at this;obtain⟨k1,k2⟩:=oGS this;refine⟨by simp;omega,?_,xC (h.ok x h1) j hj⟩;rw[List.getElem_append_right (by simp;omega)];rw[<- k2];congr 1;simp;omega
 ·rw[rL] at hl
  cases hc:eU (ceK K) r with
  | some l2=>exact .inl (JE hc)
  | none=>rw[hc] at hl;exact .inr (Pf hl)
 ·obtain⟨h1,h2,h3⟩:=vt hj;obtain⟨_,c,hc⟩:=Xv ow[j] (List.getElem_mem h1);refine⟨by omega,by omega,c,by simp;omega,?_,?_⟩
  ·rw[rL,UQ r (by omega)];simp only;rw[h3,hc]
  ·rw[List.getElem_append_left (by simpa using h1)];simpa using hc
 ·obtain⟨_,h2,_⟩:=vt hj;obtain⟨_,h3,_⟩:=vt ZR;omega
 ·obtain⟨x,x1,x2,x3,x4,x5,_⟩:=mN h1;obtain⟨y,y1,y2,y3,y4,y5,_⟩:=mN h2
  have Z7:x.1.p.root=y.1.p.root:=by
   rcases (Vl x x1).2 with ⟨o1,n1,hb1⟩ | hb1
   ·rcases (Vl y y1).2 with ⟨o2,n2,ZZ⟩ | ZZ
    ·rw[<- y3] at ZZ;rw[<- x3] at hb1;exact hI.core.boxd _ _ _ _ _ _ _ hb1 ZZ
    ·rw[<- y3] at ZZ;rw[<- x3] at hb1;exact absurd ZZ (hI.core.boxf _ _ _ _ hb1 _ _)
   ·rcases (Vl y y1).2 with ⟨o2,n2,ZZ⟩ | ZZ
    ·rw[<- y3] at ZZ;rw[<- x3] at hb1;exact absurd hb1 (hI.core.boxf _ _ _ _ ZZ _ _)
    ·rw[<- y3] at ZZ;rw[<- x3] at hb1;exact (hI.core.dis _ _ _ _ _ hb1 ZZ).1
  have WT:x.1=y.1:=xe Zr (List.mem_map_of_mem x1) (List.mem_map_of_mem y1) Z7;rw[x2,y2,WT]
 ·obtain⟨x,x1,x2,x3,x4,x5,_⟩:=mN hp;subst x3;rcases (Vl x x1).2 with ⟨o1,n1,hb1⟩ | hb1
  ·exact hF.2.2 _ _ _ _ hb1 rfl
  ·exact hF.2.1 _ _ hb1
 ·obtain⟨x,x1,x2,x3,x4,x5,_⟩:=mN hp;subst x3;rcases (Vl x x1).2 with ⟨o1,n1,hb1⟩ | hb1
  ·exact hI.core.boxf _ _ _ _ hb1 _ _ hφ
  ·exact (Vl x x1).1 (hI.core.dis _ _ _ _ _ hb1 hφ).1
 ·have:=h.here _ _ _ _ hp j hj;refine⟨?_,this.2⟩;rw[this.1,oGD,oGD,List.getElem?_append_right (by omega)];rw[show ow.length+bsK K r+j - zs.length=bsK K r+j by omega]
theorem TmR.handed{F F':Nat->Prop}{V V':Vs}{C C':Cs}{G G':Gh}{t:TV}{x:Value}(h:TmR w F V C G t x) (ha:ue t=true) (hF:∀k,F k->F' k):TmR w F' V' C' G' t x:=by
 cases h with
 | v h=>exact .v h
 | sl h=>exact .sl (h.frame (λ_ _ _=>rfl) λk hk _=>hF k hk)
 | nil=>exact .nil
 | ip u hc hr=>exact .ip u (λj hj=>⟨hF _ (hc j hj).1,(hc j hj).2⟩) λj hj=>(hr j hj).frame (λ_ _ _=>rfl) λk hk _=>hF k hk
 | @agg l xs hl h=>
  refine .agg hl λj hj=>?_;simp[ue,List.all_eq_true] at ha;have h1:=ha _ (List.getElem_mem hj);have h2:=h j hj;generalize l[j]=e at h1 h2;generalize xs.getD j undef=y at h2
  cases h2 with
  | v h=>exact .v h
  | sl h=>exact .sl (h.frame (λ_ _ _=>rfl) λk hk _=>hF k hk)
  | _=>simp_all
 | @fn f l xs hl h=>
  simp[ue] at ha;exact .fn hl λj hj=>(((h j hj).imC (ha _ (List.getElem_mem hj))).frame (λ_ _ _=>rfl) λk hk _=>hF k hk).toTm
 | _=>simp[ue] at ha
theorem EN{α:Type}:∀{l:List α}{i j:Nat},eU (it i l) j=if i<=j then l[j - i]? else none:=by
 intro l
 induction l with
 | nil=>intro i j;simp[it,eU]
 | cons x l ih=>
  intro i j;simp[it,eU];by_cases e:i=j
  ·simp_all
  ·rw[oIN e,ih]
   grind
theorem Hh:∀{l:List TV}{i j:Nat},(argTs i l)[j]?=(l[j]?).map (argT (i+j)):=by
 intro l
 induction l with
 | nil=>intro i j;simp[argTs]
 | cons t l ih=>
  intro i j
  cases j with
  | zero=>simp[argTs]
  | succ j=>simp[argTs,ih];rw[show i+1+j=i+(j+1) by omega]
def Pu(w:World) (K:List (GP×Addr)) (x:GP×Addr) (t:TV) (y:Option Value):Prop:=
 ∃hp vs ad0,t=.ptr ⟨x.1.p.root,x.1.p.off,hp⟩ vs/\y=some (.pointer (some ad0))/\prK K (2*x.1.i+2)=some (x.2.block,x.2.off,x.1.cells.length)/\eU (ceK K) (2*x.1.i+2)=some x.1.cells/\x.2.spot=none/\(hp=[]->ad0=x.2) /\
  (hp≠[]->fe w ((w.cell? ⟨x.2.block,x.2.off,none⟩).getD undef) hp=some ad0/\∃t,eM (x.1.cells.getD 0 .dead) hp=some t)
theorem Pu.cons{w:World}{K:List (GP×Addr)}{x z:GP×Addr}{t:TV}{y:Option Value}(h:Pu w K x t y) (hne:z.1.i≠x.1.i):Pu w (z :: K) x t y:=by
 have ⟨hp,vs,ad0,h1,h2,h3,h4,h5,h6,h7⟩:=h;have ⟨g,ad⟩:=z;refine⟨hp,vs,ad0,h1,h2,?_,?_,h5,h6,h7⟩
 ·simp[prK];rw[oIN (by simp only at hne;omega)];exact h3
 ·simp[ceK,eU];rw[oIN (by simp only at hne;omega)];exact h4
theorem xH.slotArg{w:World}{i:Nat}{vals:List TV}{asq us:List Value}{K:List (GP×Addr)}(h:xH w i vals asq K us):∀j t,vals[j]?=some t->ue t=true\/(∃p vs,t=.pk p vs)\/∃x∈K,x.1.i=i+j/\Pu w K x t asq[j]?:=by
 induction h with
 | nil=>intro j t h;simp at h
 | @ptr i p hp vs vs0 cells ad ad0 u ts xs K us hr hb hs h0 hh hu hc hok h ih=>
  intro j t ht
  cases j with
  | zero=>
   right;right;refine⟨(⟨i,p,vs,cells⟩,ad),by simp,rfl,hp,vs0,ad0,?_,by simp,by simp[prK],by simp[ceK,eU],hs,h0,hh⟩;simpa using ht.symm
  | succ j=>
   rcases ih j t (by simpa using ht) with h1 | h1 | ⟨x,h1,h2,h3⟩
   ·exact .inl h1
   ·exact .inr (.inl h1)
   ·right;right;exact⟨x,by simp[h1],by omega,by simpa using h3.cons (z:=(⟨i,p,vs,cells⟩,ad)) (by show i≠x.1.i;omega)⟩
 | @arg i t0 x0 ts xs K us ha h ih=>
  intro j t ht
  cases j with
  | zero=>simp_all
  | succ j=>
   rcases ih j t (by simpa using ht) with h1 | h1 | ⟨x,h1,h2,h3⟩
   ·exact .inl h1
   ·exact .inr (.inl h1)
   ·exact .inr (.inr ⟨x,h1,by omega,by simpa using h3⟩)
 | @own i p0 vs0 x0 ts xs K us h ih=>
  intro j t ht
  cases j with
  | zero=>right;left;have:TV.pk p0 vs0=t:=by simpa using ht
          exact⟨p0,vs0,this.symm⟩
  | succ j=>
   rcases ih j t (by simpa using ht) with h1 | h1 | ⟨x,h1,h2,h3⟩
   ·exact .inl h1
   ·exact .inr (.inl h1)
   ·exact .inr (.inr ⟨x,h1,by omega,by simpa using h3⟩)
theorem xH.enter{vals:List TV}{asq us:List Value}{K:List (GP×Addr)}{l:List (Option Nat×TV)}{ow:List (Nat×TV)}{zs:List Value}(hI:Inv M σ (ow.map (·.2)++md K) (zs++us) ts w G) (h:xH w 0 vals asq K us) (ho:NL 0 l asq ow zs) (Ul:∀j p vs,vals[j]?=some (.pk p vs)->∃x∈ow,x.1=j)
 (hh:Le (ow.map (·.2)++md K) (zs++us) w G M.A (prK K) (λr=>ow.length+bsK K r) (ceK K++ceO ow) (owK ow))
 (ht:∀j (h:j < vals.length) (h':j < asq.length),TmR w (G.F M.A) σ.v (eS M σ (ow.map (·.2)++md K)) G vals[j] asq[j]) {N:Nat} (hN:asq.length<=N) :
 Inv (M.into w G (prK K) N) (mkSt (argTs 0 vals) (ceK K++ceO ow)) [] [] (asq.toArray++Array.replicate (N - asq.length) undef) w (G.into (prK K) (λr=>ow.length+bsK K r) (owK ow) (zs++us)):=by
 refine hI.enter hh (by simp;omega) λi=>?_;rw[EN];simp only[Nat.zero_le,if_true,Nat.sub_zero,Hh,Nat.zero_add]
 cases hv:vals[i]? with
 | none=>exact .dead
 | some t=>
  obtain⟨hi,hvi⟩:=oGS hv
  have ZG:i < asq.length:=by rw[<- h.len.1];exact hi
  have hx:(asq.toArray++Array.replicate (N - asq.length) undef).getD i undef=asq[i]:=by
   simp[Array.getD_eq_getD_getElem?,Array.getElem?_append,ZG]
  rw[hx];have Zl:=ht i hi ZG;rw[hvi] at Zl;simp only[oMS,Option.getD_some];rcases h.slotArg i t hv with VB | ⟨p,vs,rfl⟩ | ⟨x,x1,x2,hp,vs,ad0,rfl,x4,x5,x5c,x6,x7,x8⟩
  ·have e:argT i t=t:=by cases t<;>first | rfl | simp[ue] at VB
   rw[e];exact Zl.handed VB λk hk=>hh.F hk
  ·simp only[argT];obtain⟨x,Z2,rfl⟩:=Ul i p vs hv;obtain⟨hz,h2,h3⟩:=ho.facts;obtain⟨k,h4,h5⟩:=h3 x Z2;obtain⟨hk,_,h6⟩:=vt h4;have UQ:=(hh.owc _ _ h4);obtain⟨_,_,c',hj,h8,h9⟩:=UQ;refine .pk (λ_=>0) (λ_=>Nat.le_refl _) rfl λ_=>⟨by simp,c',?_,?_⟩
   ·have hpn:prK K (2*x.1+3)=none:=by
     cases hp:prK K (2*x.1+3) with
     | none=>rfl
     | some y=>obtain⟨b,o,n⟩:=y;have:=(hh.even _ _ _ _ hp).1;omega
    simp only[Gh.hv,hvT];unfold Gh.val Gh.into;simp only[hpn,h4];rw[Nat.sub_zero,oGE ZG,oGE (by omega)] at h5
    injection h5 with h5
    rw[oGD,List.getElem?_append_left (by omega),oGE (by omega),h5];rfl
   ·have:eS (M.into w G (prK K) N) ⟨it 0 (argTs 0 vals),ceK K++ceO ow,[]⟩ [] (2*x.1+3) 0=.ow c':=by
     rw[eO (by show 2*x.1+3≠1;omega)];simp[St.c,h8]
    rw[this];rfl
  ·simp only[argT]
   have e:asq[i]=.pointer (some ad0):=by
    rw[oGE ZG] at x4;injection x4
   rw[e]
   have hxi:x.1.i=i:=by omega
   rw[hxi] at x5 x5c
   have Zc:(⟨x.2.block,x.2.off+0,none⟩:Addr)=x.2:=by
    obtain⟨g,ad⟩:=x;obtain⟨b,o,s⟩:=ad;simp only at x6 ⊢;subst x6;rfl
   have hcell:eS (M.into w G (prK K) N) ⟨it 0 (argTs 0 vals),ceK K++ceO ow,[]⟩ [] (2*i+2) 0=x.1.cells.getD 0 .dead:=by
    rw[eO (by show 2*i+2≠1;omega)];simp only[St.c,rL,x5c]
   refine .ptr (λ_=>0) (λ_=>Nat.le_refl _) (by simp[kY,List.replicate_succ,List.map_const']) λ_=>?_
   cases hp with
   | nil=>
    refine⟨by simp,x.2,(eS (M.into w G (prK K) N) ⟨it 0 (argTs 0 vals),ceK K++ceO ow,[]⟩ [] (2*i+2) 0),?_,by rw[x7 rfl],rfl⟩;unfold Gh.addr Gh.into;simp only[x5];rw[Zc]
   | cons h1 hs=>
    obtain⟨x9,t0,x10⟩:=x8 (by simp);refine⟨by simp,ad0,t0,?_,rfl,by show eM (eS _ _ [] (2*i+2) 0) (h1 :: hs)=_;rw[hcell];exact x10⟩;show fe w (Gh.val _ w (2*i+2) 0) (h1 :: hs)=some ad0;unfold Gh.val Gh.into;simp only[x5];exact x9
end
theorem GR{α:Type}{f:GP×Addr->List α}{K:List (GP×Addr)}(hf:∀x∈K,(f x).length=x.1.cells.length) {r b o n:Nat}(h:prK K r=some (b,o,n)):∃x∈K,r=2*x.1.i+2/\b=x.2.block/\o=x.2.off/\n=x.1.cells.length/\eU (K.map λx=>(2*x.1.i+2,f x)) r=some (f x)/\∀j,j < n->(K.flatMap f)[bsK K r+j]?=(f x)[j]?:=by
 induction K with
 | nil=>simp[prK] at h
 | cons y K ih=>
  obtain⟨g,ad⟩:=y;simp only[prK] at h;split at h
  ·rename_i e
   injection h with h
   injection h with h1 h
   injection h with h2 h3
   have hl:=hf (g,ad) (by simp);simp only at hl;refine⟨(g,ad),by simp,e.symm,h1.symm,h2.symm,h3.symm,by simp[eU,e],λj hj=>?_⟩;simp only[bsK,e,if_true,Nat.zero_add];exact List.getElem?_append_left (by omega)
  ·rename_i e;obtain⟨x,h1,h2,h3,h4,h5,h6,h7⟩:=ih (λx hx=>hf x (by simp[hx])) h;have hl:=hf (g,ad) (by simp);simp only at hl;refine⟨x,by simp[h1],h2,h3,h4,h5,by simpa [eU,e] using h6,λj hj=>?_⟩;simp only[bsK,e,if_false,List.flatMap_cons];rw[List.getElem?_append_right (by omega)];rw[show g.cells.length+bsK K r+j - (f (g,ad)).length=bsK K r+j by omega];exact h7 j hj
theorem Sf{K:List (GP×Addr)}(Zr:pE (K.map λx=>x.1.i)=true) {j:Nat}(h:j < (md K).length):∃r b o n t,prK K r=some (b,o,n)/\t < n/\j=bsK K r+t:=by
 induction K generalizing j with
 | nil=>simp[md] at h
 | cons y K ih=>
  obtain⟨g,ad⟩:=y;simp only[List.map_cons,pE,oBA,Bool.not_eq_true',List.contains_eq_mem,decide_eq_false_iff_not] at Zr;simp only[md,List.flatMap_cons,List.length_append] at h;by_cases hj:j < g.cells.length
  ·exact⟨2*g.i+2,ad.block,ad.off,g.cells.length,j,by simp[prK],hj,by simp[bsK]⟩
  ·obtain⟨r,b,o,n,t,h1,h2,h3⟩:=ih Zr.2 (j:=j - g.cells.length) (by simp only[md];omega)
   have hne:2*g.i+2≠r:=λe=>by
    obtain⟨x,x1,x2,_⟩:=mN h1;exact Zr.1 (List.mem_map.2 ⟨x,x1,by omega⟩)
   exact⟨r,b,o,n,t,by simp[prK,hne,h1],h2,by simp[bsK,hne];omega⟩
def RWs(w:World):List (GP×Addr)->World->World
 | [],W=>W
 | x :: K,W=>RWs w K (je w W x.2.block)
theorem Pp{w:World}{K:List (GP×Addr)}:∀{W:World},(RWs w K W).heap.size=W.heap.size:=by
 induction K with
 | nil=>intro W;rfl
 | cons x K ih=>intro W;simp[RWs];rw[ih,pC]
theorem EP{w:World}{K:List (GP×Addr)}:∀{W:World},(RWs w K W).os=W.os/\(RWs w K W).tape=W.tape/\(RWs w K W).output=W.output:=by
 induction K with
 | nil=>intro W;exact⟨rfl,rfl,rfl⟩
 | cons x K ih=>
  intro W;simp[RWs];have ⟨r1,r2,r3,_⟩:=xN (w:=w) (W:=W) (b:=x.2.block)
  simp_all
theorem Sn{w:World}{K:List (GP×Addr)}{k:Nat}:∀{W:World},(∀x∈K,k≠x.2.block)->(RWs w K W).heap[k]?=W.heap[k]?:=by
 induction K with
 | nil=>intro W h;rfl
 | cons x K ih=>
  intro W h;simp[RWs];rw[ih λy hy=>h y (by simp[hy]),tR (h x (by simp))]
theorem Pq{w:World}{K:List (GP×Addr)}{k:Nat}(h2:k < w.heap.size):∀{W:World},k < W.heap.size->W.heap[k]?=w.heap[k]?->(RWs w K W).heap[k]?=w.heap[k]?:=by
 induction K with
 | nil=>intro W h1 h;exact h
 | cons x K ih=>
  intro W h1 h;refine ih (by rw[pC];exact h1) ?_;by_cases e:k=x.2.block
  ·rw[<- e];exact wY h1 h2
  ·rw[tR e];exact h
theorem So{w:World}{K:List (GP×Addr)}{k:Nat}(h2:k < w.heap.size):∀{W:World},k < W.heap.size->(∃x∈K,k=x.2.block)->(RWs w K W).heap[k]?=w.heap[k]?:=by
 induction K with
 | nil=>simp_all
 | cons x K ih=>
  intro W h1 h;simp[RWs];have ⟨y,hy,e⟩:=h;rcases List.mem_cons.1 hy with rfl | hy
  ·exact Pq h2 (by rw[pC];exact h1) (by rw[e];rw[e] at h1 h2;exact wY h1 h2)
  ·exact ih (by rw[pC];exact h1) ⟨y,hy,e⟩
section
variable {P:Program} {M:Fm} {σ σ':St} {H:List TV} {xs:List Value} {ts:Array Value} {w:World} {G:Gh} {a:Act} {o:Oper}
theorem Mk{p:ek}{t:TV}(h:(Bi p t).run σ=some ((),σ')) {r:Nat}(hr:r≠p.root) (o n:Nat):kY σ'.v r o n=kY σ.v r o n:=by
 unfold Bi at h;simp only[SP.run] at h
 have bump:∀{vr:List (Key×Nat)},σ'.vr=vr->(∀q,uN vr q=uN σ.vr q+if (p.root,p.off,p.hops.length+1)=q then 1 else 0)->kY σ'.v r o n=kY σ.v r o n:=by
  intro vr e hv
  have Y7:∀q,σ'.v q=σ.v q+if (p.root,p.off,p.hops.length+1)=q then 1 else 0:=λq=>by unfold St.v;rw[e];exact hv q
  rw[mh]
  have hne:∀o' d,((p.root,p.off,p.hops.length+1):Key)≠(r,o',d):=λo' d e=>by
   simp_all
  simp_all
 cases hg:eM (σ.c p.root p.off) p.hops with
 | none=>simp[hg,SP.run] at h
 | some old=>
  simp only[hg] at h;split at h
  ·split at h
   ·obtain⟨l,hl,ho,h3⟩:=eQ h;simp only[SP.run,oSJ,oPJ,true_and] at h3;exact bump (vr:=sj σ.vr (p.root,p.off,p.hops.length+1)) (by rw[<- h3]) λq=>iv _ _ _
   ·simp[SP.run] at h
  ·obtain⟨l,hl,ho,h3⟩:=eQ h;simp only[SP.run,oSJ,oPJ,true_and] at h3
   have hv:σ'.v=σ.v:=by rw[<- h3];rfl
   rw[hv]
theorem Mm:∀{l:List TV}{p:ek}{σ σ':St},(putL p l).run σ=some ((),σ')->∀{r:Nat},r≠p.root->∀o n,kY σ'.v r o n=kY σ.v r o n:=by
 intro l
 induction l with
 | nil=>
  intro p σ σ' h r hr o n;simp[putL,SP.run] at h;rw[h]
 | cons t l ih=>
  intro p σ σ' h r hr o n;have ⟨_,σ1,h1,h2⟩:=dK h;rw[<- Mk h1 hr o n]
  cases l with
  | nil=>
   simp[SP.run] at h2;rw[h2]
  | cons t2 l=>
   simp only at h2;split at h2
   ·exact ih h2 (by rw[fZ];exact hr) o n
   ·simp[SP.run] at h2
theorem Fg:∀{q:List (GP×List TV)}{σ σ':St},(putBack q).run σ=some ((),σ')->∀{r:Nat},(∀x∈q,r≠x.1.p.root)->∀o n,kY σ'.v r o n=kY σ.v r o n:=by
 intro q
 induction q with
 | nil=>
  intro σ σ' h r hr o n;simp[putBack,SP.run] at h;rw[h]
 | cons x q ih=>
  intro σ σ' h r hr o n;have ⟨g,l⟩:=x;have ⟨_,σ1,h1,h2⟩:=dK h;split at h2
  ·rw[Mm h2 (hr (g,l) (by simp)) o n];exact ih h1 (λx hx=>hr x (by simp[hx])) o n
  ·simp[SP.run] at h2
def Seg(w W:World) (x:GP×Addr) (vs:List Value):Prop:=
 ∃cur0 cur e fz,w.heap[x.2.block]?=some (.cells cur0 e fz)/\W.heap[x.2.block]?=some (.cells cur e fz)/\cur.size=cur0.size/\(∀j,(j < x.2.off\/x.2.off+vs.length<=j)->cur[j]?=cur0[j]?)/\∀j (h:j < vs.length),cur[x.2.off+j]?=some vs[j]
theorem Kk{f:GP×Addr->List TV}{v:GP×Addr->List Value}(hfv:∀x,(f x).length=(v x).length):∀{K:List (GP×Addr)}{σ σ':St}{H0:List TV}{x0:List Value}{W:World}{G:Gh},H0.length=x0.length ->
 Inv M σ (H0++K.flatMap f) (x0++K.flatMap v) ts (RWs w K W) G->(∀x∈K,Seg w W x (v x))->(∀x∈K,f x≠[])->(∀x∈K,∀y∈K,x.2.block=y.2.block->x=y)->pE (K.map λx=>x.1.p.root)=true ->
 (∀x∈K,x.1.p.root≠1/\G.addr (RWs w K W) x.1.p=some x.2/\∃t,eM (eS M σ (H0++K.flatMap f) x.1.p.root x.1.p.off) x.1.p.hops=some t) ->
 (putBack (K.map λx=>(x.1,f x))).run σ=some ((),σ')->∃G',Inv M σ' H0 x0 ts W G'/\σ'.tm=σ.tm/\my M (RWs w K W) σ (H0++K.flatMap f) G W σ' H0 G'/\G'.β=G.β:=by
 intro K
 induction K with
 | nil=>
  intro σ σ' H0 x0 W G Wu hI _ _ _ _ _ hr;simp only[List.map_nil,putBack,SP.run,oSJ,oPJ,true_and] at hr;subst hr;have hI:Inv M σ (H0++[]) (x0++[]) ts W G:=hI;rw[List.append_nil,List.append_nil] at hI;refine⟨G,hI,rfl,?_,rfl⟩;show my M W σ (H0++[]) G W σ H0 G;rw[List.append_nil];exact my.refl _ _ _ _ _
 | cons x K ih=>
  intro σ σ' H0 x0 W G Wu hI TE hne VO Zr Z6 hr;simp only[List.map_cons,putBack] at hr;obtain⟨_,σ1,h1,h2⟩:=dK hr;split at h2
  case isFalse=>simp[SP.run] at h2
  rename_i YB;simp at YB;simp only[List.map_cons,pE,oBA,Bool.not_eq_true',List.contains_eq_mem,decide_eq_false_iff_not] at Zr;have hxK:∀y∈K,y.1.p.root≠x.1.p.root:=λy hy e=>Zr.1 (by rw[<- e];exact List.mem_map.2 ⟨y,hy,rfl⟩)
  have hbK:∀y∈K,x.2.block≠y.2.block:=λy hy e=>by
   have:=VO x (by simp) y (by simp[hy]) e;exact hxK y hy (by rw[this])
  have ZD:Inv M σ ((H0++f x)++K.flatMap f) ((x0++v x)++K.flatMap v) ts (RWs w K (je w W x.2.block)) G:=by
   simpa [RWs,List.append_assoc] using hI
  obtain⟨G1,hI1,htm1,hm1,hβ1⟩:=ih (W:=je w W x.2.block) (by simp[Wu,hfv]) ZD (λy hy=>by
   obtain⟨cur0,cur,e,fz,s1,s2,s3⟩:=TE y (by simp[hy])
   exact⟨cur0,cur,e,fz,s1,by rw[tR (Ne.symm (hbK y hy))];exact s2,s3⟩) (λy hy=>hne y (by simp[hy])) (λy hy z hz=>VO y (by simp[hy]) z (by simp[hz])) Zr.2
   (λy hy=>by have:=Z6 y (by simp[hy]);simpa [RWs,List.append_assoc] using this) h1
  obtain⟨Z8,ha,t0,Z5⟩:=Z6 x (by simp)
  have XY:=Fg h1 (r:=x.1.p.root) (λy hy=>by
   obtain⟨z,hz,rfl⟩:=List.mem_map.1 hy
   exact Ne.symm (hxK z hz)) x.1.p.off x.1.p.hops.length
  obtain⟨t1,XC,hget1⟩:=hm1.keeps.ptr x.1.p x.2 t0 Z8 XY (by simpa [RWs] using ha) (by simpa [List.append_assoc] using Z5)
  have Yg:(H0++f x).drop H0.length=f x:=by simp
  obtain⟨_,G2,H2,ZH,e1,e2,e3,e4,e5,e6⟩:=Mn (k:=H0.length) hI1 Z8 XC Yg (hne x (by simp)) (λj hj hk=>by
   intro e
   have ZR:j - H0.length < (f x).length:=by simp at hj;omega
   have:(H0++f x)[j]=(f x)[j - H0.length]:=by rw[List.getElem_append_right hk]
   rw[this] at e;have:=YB.2 _ (List.getElem_mem ZR);rw[e] at this
   simp[Jn] at this) h2
  obtain⟨cur0,cur,e,fz,s1,s2,s3,s4,s5⟩:=TE x (by simp)
  have Us:(x0++v x).drop H0.length=v x:=by rw[Wu];simp
  rw[Us,yS s1 s2 s3 s4 s5] at ZH e5;obtain⟨WV,e7⟩:=ZH.trunc (k:=H0.length) e2
  have hT:H2.take H0.length=H0:=by
   apply List.ext_getElem
   ·simp[e1]
   ·intro j hj ZR;rw[List.getElem_take];rw[e3 j (by rw[e1];simp;omega) (by simp;omega) ZR];rw[List.getElem_append_left ZR]
  have hX:(x0++v x).take H0.length=x0:=by rw[Wu];simp
  rw[hT] at WV e7;rw[hX] at WV;refine⟨G2,WV,e4.trans htm1,?_,e6.trans hβ1⟩;have hm2:my M (je w W x.2.block) σ1 (H0++f x) G1 W σ' H0 G2:=⟨e5.size,by rw[e7];exact e5.keeps,e5.heap,e5.free⟩;have:=hm1.trans hm2;simpa [RWs,List.append_assoc] using this
end
def tK(P:Program) (f:FuncId):Prop:=∀args w,(callFunc f args).run P w=.ok (.enter f args) w
theorem GW{P:Program}{f:FuncId}{fn:Func}{c:Code}(hf:P.funcs[f]?=some fn) (Vc:(fn.name=="runtime.NumGoroutine")=false) (hb:fn.body=some c):tK P f:=by
 intro args w;unfold callFunc
 simp_all
def SI(M:Fm) (res:Ld) (v:Value) (σ2:St) (w2:World):Prop:=
 (∃ys ts2 G2,v=qo res.sh ys/\Inv M σ2 res.cells ys ts2 w2 G2/\∀j (h:j < res.cells.length),fX res.cells[j]=true\/oW res.cells[j]=true) \/
 ∃q vs l pv ts2 G2,res.cells=.ptr q vs :: l/\(∃sh,res.sh=.ptr :: sh)/\l.all Hl=true/\v=Ct pv (l.map unV)/\Inv M σ2 [] [] ts2 w2 G2/\Sq w2 (eS M σ2 []) G2 q pv
def mS(P:Program) (F:gE):Prop:=
 ∀f vals pts res Zm,F f vals pts=some (res,Zm)->tK P f/\∃N,vals.length<=N/\∀(M:Fm) (asq:List Value) (w:World) (G:Gh),asq.length=vals.length->M.N=N->M.w0=w->(∀r,M.pr r≠none->∃i p vs,vals[i]?=some (.ptr p vs)/\r=2*i+2) ->
  Inv M (mkSt vals pts) [] [] (asq.toArray++Array.replicate (N - asq.length) undef) w G ->
  Calls P f asq.toArray w λe w2=>∃v σ2,e=.returned v/\SI M res v σ2 w2/\Zm=pts.map λx=>(x.1,(eU σ2.ce x.1).getD [])
def NH(P:Program) (E:Env):Prop:=
 ∀f n tm,E.box f=some (n,tm)->tK P f/\(∀x,.val x∈tm->jl x=true)/\∃ty,∀(asq:List Value) (w:World),asq.length=n->(∀y∈tm.map (bxV asq),y.oneCell'=true) ->
  Calls P f asq.toArray w λe w'=>e=.returned (.pointer (some ⟨w.heap.size,0,none⟩))/\w'=w.alloc (.cells (tm.map (bxV asq)).toArray ty)
def sV:Op->TOp->Prop
 | .call ⟨.value f,args,_⟩,.call _ f' args'=>dV f=some f'/\args'.length=args.size/\∀j (h:j < args'.length) (h':j < args.size),dV args[j]=some args'[j].2
 | _,_=>False
def Ra:TOp:=.call false (.c undef) []
def lQ(op:Op) (t:TOp):Prop:=t=Ra\/sV op t
section
variable {P:Program} {M:Fm} {σ σ':St} {H:List TV} {xs:List Value} {ts:Array Value} {w:World} {G:Gh} {a:Act} {o:Oper}
theorem Hg:∀{l:List TV}{i:Nat},(argTs i l).length=l.length:=by
 intro l
 induction l with
 | nil=>intro i;rfl
 | cons t l ih=>intro i;simp[argTs,ih]
theorem LW{F:Nat->Prop}{V:Vs}{C:Cs}:∀{sh:List RSh}{l:List TV}{ys:List Value},sI sh l.length=true->l.length=ys.length->(∀j (h:j < l.length),TmR w F V C G l[j] (ys.getD j undef)) ->
 (kN sh l).length=(iG sh ys).length/\∀j (h:j < (kN sh l).length),TmR w F V C G (kN sh l)[j] ((iG sh ys).getD j undef):=by
 intro sh
 induction sh with
 | nil=>intro l ys _ _ _;exact⟨rfl,λj h=>by simp[kN] at h⟩
 | cons s sh ih=>
  intro l ys hs hl ht
  cases s with
  | one=>
   simp only[sI,oBA,oDE] at hs
   cases l with
   | nil=>simp at hs
   | cons t l=>
    cases ys with
    | nil=>simp at hl
    | cons y ys=>
     obtain⟨e,h2⟩:=ih (l:=l) (ys:=ys) (by simpa using hs.2) (by simpa using hl) λj h=>by have:=ht (j+1) (by simpa using h);simpa using this
     refine⟨by simp[kN,iG,e],λj h=>?_⟩
     cases j with
     | zero=>have:=ht 0 (by simp);simpa [kN,iG] using this
     | succ j=>have:=h2 j (by simpa [kN] using h);simpa [kN,iG] using this
  | agg n=>
   simp only[sI,oBA,oDE] at hs
   obtain⟨e,h2⟩:=ih (l:=l.drop n) (ys:=ys.drop n) (by simpa using hs.2) (by simp[hl]) λj h=>by
    have h':n+j < l.length:=by simp at h;omega
    simp_all
   refine⟨by simp[kN,iG,e],λj h=>?_⟩
   cases j with
   | zero=>
    refine .agg (by simp;omega) λj hj=>?_
    have ZR:j < n/\j < l.length:=by simp at hj;omega
    simp_all
   | succ j=>have:=h2 j (by simpa [kN] using h);simpa [kN,iG] using this
  | ptr=>simp[sI] at hs
theorem E8{F:Nat->Prop}{V:Vs}{C:Cs}{sh:List RSh}{l:List TV}{ys:List Value}(hs:sI sh l.length=true) (hl:l.length=ys.length) (ht:∀j (h:j < l.length),TmR w F V C G l[j] (ys.getD j undef)):TmR w F V C G (vm sh l) (qo sh ys):=by
 obtain⟨e,h2⟩:=LW hs hl ht;by_cases h1:∃x,kN sh l=[x]
 ·obtain⟨x,hx⟩:=h1;have ⟨y,hy⟩:∃y,iG sh ys=[y]:=List.length_eq_one_iff.1 (by simp_all)
  have e1:vm sh l=x:=by unfold vm;rw[hx]
  have e2:qo sh ys=y:=by unfold qo;rw[hy]
  simp_all
 ·have hne:¬ ∃y,iG sh ys=[y]:=λ⟨y,hy⟩=>h1 (List.length_eq_one_iff.1 (by rw[e,hy];rfl))
  have e1:vm sh l=TV.tup (kN sh l):=by
   unfold vm
   simp_all
  have e2:qo sh ys=Value.tuple (iG sh ys).toArray:=by
   unfold qo
   simp_all
  rw[e1,e2];refine .tup (by simp[e]) λj hj=>?_;have:=h2 j hj
  simp_all
theorem QR{res:Ld}{ys:List Value}(hI:Inv M σ res.cells ys ts w G) (hok:∀j (h:j < res.cells.length),fX res.cells[j]=true\/oW res.cells[j]=true) (hs:sI res.sh res.cells.length=true)
 {dst:Option Nat} (hd:∀d,dst=some d->d < M.N) (hr:(landR dst res).run σ=some ((),σ')):∃G',Inv M σ' [] [] (match dst with | some d=>ts.setIfInBounds d (qo res.sh ys) | none=>ts) w G':=by
 cases dst with
 | none=>
  simp[landR,SP.run] at hr;subst hr;have ⟨G',hg,_⟩:=hI.drop;exact⟨G',hg.1⟩
 | some d=>
  have ⟨l,σ1,h1,h2⟩:=dK hr;have ⟨G1,hI1,_,hl,ht⟩:=zp hI hok h1;simp[wr,SP.run] at h2;subst h2;exact⟨G1,hI1.wrT (hd d rfl) (E8 (by simp_all) (by rw[hl];exact hI.hand) ht)⟩
end
def frM(w:World) (N:Nat):Fm:=⟨w,λ_=>True,λ_=>False,λ_=>none,N,λ_ _=>trivial⟩
def frG:Gh:=⟨λ_=>none,λ_ _=>undef,λ_ _ _=>False⟩
theorem Fp(l:List TV):∀i k,eU (it i l) k=if k < i then none else l[k - i]?:=by
 induction l with
 | nil=>intro i k;simp[it,eU]
 | cons t l ih=>
  simp[it,eU]
  grind
def IL(w:World) (t:TV) (x:Value):Prop:=∀F V C G,(∀k,F k)->TmR w F V C G t x
theorem p8.plain{w:World}{F:Nat->Prop}{t:TV}{x:Value}(h:p8 w F t x):IL w t x:=λ_ _ _ _ hF=>(h.frame (λ_ _ _=>rfl) λk _ _=>hF k).toTm
theorem calls_flat{P:Program}{F:gE}(hF:mS P F) {f:FuncId}{vals:List TV}{avs:List Value}{res:Ld}{w:World}(h:F f vals []=some (res,[])) (Zy:res.cells.all Hl=true) (hl:avs.length=vals.length)
 (hv:∀j (h:j < vals.length) (h':j < avs.length),IL w vals[j] avs[j]):tK P f/\Calls P f avs.toArray w λe w'=>e=.returned (qo res.sh (res.cells.map unV))/\Below w.heap.size w w':=by
 obtain⟨YK,N,hN,hc⟩:=hF f vals [] _ _ h;refine⟨YK,?_⟩;have Zb:∀k,frG.F (frM w N).A k:=λk=>⟨trivial,λ_ _ h=>h,λ_ _ _ _ h=>by simp[frG] at h⟩
 have hst:∀i,(mkSt vals []).t i=vals.getD i .dead:=by
  intro i;simp[St.t,mkSt,Fp]
 have hE:∀r o,eS (frM w N) (mkSt vals []) [] r o=.dead:=by
  intro r o;unfold eS;split
  ·simp
  ·rfl
 have hI:Inv (frM w N) (mkSt vals []) [] [] (avs.toArray++Array.replicate (N - avs.length) undef) w frG:=by
  refine⟨⟨λr o=>.inl ⟨hE r o,λ_ h=>h⟩,λ_ _ _ _ h=>by simp[frG] at h,λ_ _ _ _ h=>by simp[frG] at h,λ_ _ _ _ _ _ _ h=>by simp[frG] at h,λ_ _ _ _ h=>by simp[frG] at h,λ_ _ _ _ _ h=>h.elim,λ_ _ _ h=>h.elim⟩,λi=>?_,⟨rfl,rfl,rfl,Nat.le_refl _,λ_ _ _ _=>rfl,λ_ _ _ _ h=>by simp[frM] at h,λ_ _ _ h=>h.elim,λ_ _ _ _ h=>by simp[frG] at h,λ_ h=>by simp[frG] at h⟩,λr l h=>by simp[mkSt,eU] at h,?_,rfl,λj hj=>by simp at hj,λ_ _ _ _ h=>by simp[frG] at h⟩
  ·rw[hst];by_cases hi:i < vals.length
   ·have ZG:i < avs.length:=by omega
    have e1:vals.getD i .dead=vals[i]:=by simp[hi]
    have e2:(avs.toArray++Array.replicate (N - avs.length) undef).getD i undef=avs[i]:=by
     simp[Array.getElem?_append,ZG]
    rw[e1,e2];exact hv i hi ZG _ _ _ frG Zb
   ·have e1:vals.getD i .dead=.dead:=by rw[oGD,oGN (by omega)];rfl
    rw[e1];exact .dead
  ·show (avs.toArray++Array.replicate (N - avs.length) undef).size=N;simp;omega
 refine (hc (frM w N) avs w frG hl rfl rfl (λr hr=>by simp[frM] at hr) hI).mono λe w2 ⟨v,σ2,he,XL,_⟩=>?_;rcases XL with ⟨ys,ts2,G2,rfl,ZH,_⟩ | ⟨q,vs,l,pv,ts2,G2,ZN,_⟩
 rotate_left
 ·rw[ZN] at Zy;simp[Hl] at Zy
 have WU:ys=res.cells.map unV:=by
  have hlen:res.cells.length=ys.length:=ZH.hand;apply List.ext_getElem
  ·rw[List.length_map,hlen]
  ·intro j h1 h2
   have hj:j < res.cells.length:=by omega
   have WS:=List.all_eq_true.1 Zy res.cells[j] (List.getElem_mem hj)
   have hown:=ZH.hand_own (j:=j) hj (by
    intro e;rw[e] at WS
    simp[Hl] at WS)
   rw[List.getElem_map]
   have e1:ys.getD j undef=ys[j]:=by simp[oGD,h1]
   rw[e1] at hown
   cases hc:res.cells[j] with
   | v x=>
    rw[hc] at hown
    cases hown with
    | v _ _=>rfl
   | _=>rw[hc] at WS;simp[Hl] at WS
 subst WU;exact⟨he,⟨ZH.fram.os,ZH.fram.tape,ZH.fram.output,ZH.fram.size,λk hk=>ZH.fram.old k hk (λh=>h) λ_ _ _ _ h=>by simp[frM] at h⟩⟩
section
variable {P:Program} {M:Fm} {σ σ':St} {H:List TV} {xs:List Value} {ts:Array Value} {w:World} {G:Gh} {a:Act} {o:Oper}
theorem L4{t t':TV}{x:Value}(hI:Inv M σ H xs ts w G) (hx:TmR w (G.F M.A) σ.v (eS M σ H) G t x) (hr:(see1 t).run σ=some (t',σ')):σ'=σ/\p8 w (λ_=>True) t' x:=by
 cases hx with
 | v h=>
  obtain⟨rfl,rfl⟩:=hr;exact⟨rfl,.v h⟩
 | nil=>
  obtain⟨rfl,rfl⟩:=hr;exact⟨rfl,.sl 1 (λ_ _=>.nilFunc) (λi h=>by simp at h) (Nat.le_refl _) (Nat.zero_le _) (λ_=>rfl) (λi j h=>by simp at h) (λi j h=>by simp at h)⟩
 | sl h=>
  obtain⟨rfl,rfl⟩:=hr;exact⟨rfl,h.frame (λ_ _ _=>rfl) λ_ _ _=>trivial⟩
 | dead=>simp[see1,SP.run] at hr
 | ptr=>simp[see1,SP.run] at hr
 | ip=>simp[see1,SP.run] at hr
 | agg=>simp[see1,SP.run] at hr
 | tup=>simp[see1,SP.run] at hr
 | fn=>simp[see1,SP.run] at hr
 | pw=>simp[see1,SP.run] at hr
 | @pk p vs x V0 h0 hv hok=>
  obtain⟨_,σ1,h1,h2⟩:=dK hr;have e1:=(eF h1).1;have e2:=(eF h1).2;subst e1;obtain⟨_,c,ZF,Z5⟩:=hok e2;simp only[SP.run] at h2
  have Z7:p.root≠M.hr:=by
   intro e;rw[e] at h2;rw[hI.hr_dead] at h2;cases hp:p.hops<;>rw[hp] at h2<;>simp[eM,SP.run] at h2
  obtain⟨u,fp,h4,h5,_⟩:=hI.core.hv_own p Z5 (by simp);rw[eO Z7] at Z5;rw[Z5] at h2;obtain⟨rfl,rfl⟩:=h2;rw[ZF] at h4
  injection h4 with h4
  subst h4;exact⟨rfl,h5.share'.frame (λ_ _ _=>rfl) λ_ _ _=>trivial⟩
theorem Qt:∀{l l':List TV}{ys:List Value},Inv M σ H xs ts w G->l.length=ys.length->(∀j (h:j < l.length),TmR w (G.F M.A) σ.v (eS M σ H) G l[j] (ys.getD j undef))->(seeL l).run σ=some (l',σ') ->
 σ'=σ/\l'.length=l.length/\∀j (h:j < l'.length),p8 w (λ_=>True) l'[j] (ys.getD j undef):=by
 intro l
 induction l generalizing σ σ' with
 | nil=>
  intro l' ys hI hl _ hr;simp only[seeL,SP.run,oSJ,oPJ] at hr
  simp_all
 | cons t l ih=>
  intro l' ys hI hl ht hr
  cases ys with
  | nil=>simp at hl
  | cons y ys=>
   obtain⟨t',σ1,h1,h2⟩:=dK hr;have ⟨r',σ2,h3,h4⟩:=dK h2;obtain⟨rfl,rfl⟩:=h4;obtain⟨rfl,k1⟩:=L4 hI (by have:=ht 0 (by simp);simpa using this) h1;obtain⟨rfl,k2,k3⟩:=ih hI (by simpa using hl) (λj h=>by have:=ht (j+1) (by simpa using h);simpa using this) h3;refine⟨rfl,by simp[k2],λj h=>?_⟩
   cases j with
   | zero=>simpa using k1
   | succ j=>have:=k3 j (by simpa using h);simpa using this
theorem Qu{t t':TV}{x:Value}(hI:Inv M σ H xs ts w G) (hx:TmR w (G.F M.A) σ.v (eS M σ H) G t x) (hr:(seeA t).run σ=some (t',σ')):σ'=σ/\IL w t' x:=by
 have one:(see1 t).run σ=some (t',σ')->σ'=σ/\IL w t' x:=λh=>by
  obtain⟨e,k⟩:=L4 hI hx h;exact⟨e,k.plain⟩
 cases t with
 | agg l=>
  obtain⟨l',σ1,h1,h2⟩:=dK hr;obtain⟨rfl,rfl⟩:=h2
  cases hx with
  | @agg _ ys hl ht=>
   obtain⟨e,k1,k2⟩:=Qt (ys:=ys.toList) hI (by simp_all) (λj h=>by simp_all) h1;refine⟨e,λF V C G' hF=>.agg (by rw[hl,k1]) λj hj=>?_⟩;have:=k2 j hj
   have e3:ys.getD j undef=ys.toList.getD j undef:=by simp_all
   rw[e3];exact this.plain F V C G' hF
 | ip cs=>
  obtain⟨rfl,rfl⟩:=hr
  cases hx with
  | ip u hc hr=>exact⟨rfl,λF V C G' hF=>.ip u (λj hj=>⟨hF _,(hc j hj).2⟩) λj hj=>(hr j hj).frame (λ_ _ _=>rfl) λk _ _=>hF k⟩
 | fn f cap=>
  simp only[seeA] at hr;split at hr
  ·rename_i hc;obtain⟨rfl,rfl⟩:=hr;rw[List.all_eq_true] at hc
   cases hx with
   | fn hl ht=>exact⟨rfl,λF V C G' hF=>.fn hl λj hj=>(((ht j hj).imC (hc _ (List.getElem_mem hj))).frame (λ_ _ _=>rfl) λk _ _=>hF k).toTm⟩
  ·simp[SP.run] at hr
 | _=>exact one hr
theorem Ol:∀{l:List Opd}{l':List Operand}{Zp:List TV}{σ σ':St},Inv M σ [] [] a.tmps w G->l'.length=l.length->(∀j (h:j < l.length) (h':j < l'.length),dV l'[j]=some l[j])->(seeAs l).run σ=some (Zp,σ') ->
 σ'=σ/\Zp.length=l.length/\∀j (h:j < Zp.length) (h':j < l'.length),IL w Zp[j] (a.eval l'[j]):=by
 intro l
 induction l with
 | nil=>
  intro l' Zp σ σ' hI hl hc hr;simp[seeAs,SP.run] at hr
  simp_all
 | cons x l ih=>
  intro l' Zp σ σ' hI hl hc hr
  cases l' with
  | nil=>simp at hl
  | cons x' l'=>
   obtain⟨t,σ1,h1,h2⟩:=dK hr;obtain⟨t',σ2,h3,h4⟩:=dK h2;obtain⟨r,σ3,h5,h6⟩:=dK h4;obtain⟨rfl,rfl⟩:=h6;obtain⟨rfl,ht⟩:=fB hI.tmr (by have:=hc 0 (by simp) (by simp);simpa using this) h1;obtain⟨rfl,k1⟩:=Qu hI ht h3;obtain⟨rfl,k2,k3⟩:=ih (l':=l') hI (by simpa using hl) (λj h h'=>by have:=hc (j+1) (by simpa using h) (by simpa using h');simpa using this) h5;refine⟨rfl,by simp[k2],λj h h'=>?_⟩
   cases j with
   | zero=>exact k1
   | succ j=>exact k3 j (by simpa using h) (by simpa using h')
theorem Ph{F:gE}(hF:mS P F) {asq:List Value}{vals:List TV}{Y8:FuncId}(hd:∀d,o.dst=some d->d < M.N/\M.pr (2*d+2)=none) (hI1:Inv M σ [] [] a.tmps w G) (hal:asq.length=vals.length)
 (W3:∀j (h:j < vals.length) (h':j < asq.length),IL w vals[j] asq[j]) (h2:(callB F o.dst Y8 vals).run σ=some ((),σ')) (YG:tK P Y8->(execOp a.eval o).run P w=.ok (.enter Y8 asq.toArray) w):Ru P M σ' a o w:=by
 intro K' Q hK;obtain⟨r,σ1,h3,h4⟩:=dK h2
 have Xn:F Y8 vals []=some r/\σ1=σ:=by
  cases hq:F Y8 vals [] with
  | none=>rw[hq] at h3;simp[nv,SP.run] at h3
  | some y=>
   rw[hq] at h3;simp only[nv,SP.run,oSJ,oPJ] at h3
   simp_all
 obtain⟨Xn,rfl⟩:=Xn;split at h4
 case isFalse=>simp[SP.run] at h4
 rename_i YB;simp only[oBA,oDE] at YB;obtain⟨res,Zm⟩:=r;obtain rfl:Zm=[]:=oEN YB.1.1;obtain⟨YK,Wm⟩:=calls_flat hF Xn YB.1.2 hal W3;unfold Oper.wp;rw[YG YK,Oper.upon_enter];refine Wm.mono λe w2 ⟨he,hb⟩=>?_;subst he;simp only;have ZH:=(hI1.grow (w':=w2) (λk hk=>hb.block k hk) hb.size hb.os hb.tape hb.output).1;refine hK (a.put o.dst (qo res.sh (res.cells.map unV))) w2 G ?_ (qp _ _ _)
 cases hdst:o.dst with
 | none=>
  rw[hdst] at h4;simp only[SP.run,oSJ,oPJ,true_and] at h4;rw[<- h4];exact ZH
 | some d=>
  rw[hdst] at h4;simp only[wr,SP.run,oSJ,oPJ,true_and] at h4;rw[<- h4];refine ZH.wrT (hd d hdst).1 (E8 YB.2 (by simp) λj hj=>?_);have WS:=List.all_eq_true.1 YB.1.2 res.cells[j] (List.getElem_mem hj)
  have e1:(res.cells.map unV).getD j undef=unV res.cells[j]:=by simp[oGD,hj]
  rw[e1]
  cases hc:res.cells[j] with
  | v x=>rw[hc] at WS;exact .v WS
  | _=>rw[hc] at WS;simp[Hl] at WS
end
section
variable {P:Program} {M:Fm} {σ σ':St} {H:List TV} {xs:List Value} {ts:Array Value} {w:World} {G:Gh} {a:Act} {o:Oper}
theorem HF:∀{q:List (GP×List TV)}{σ σ':St},(putBack q).run σ=some ((),σ')->∀x∈q,x.2.length=x.1.cells.length:=by
 intro q
 induction q with
 | nil=>simp_all
 | cons y q ih=>
  intro σ σ' h x hx;have ⟨_,σ1,h1,h2⟩:=dK h;split at h2
  ·rename_i YB;rcases List.mem_cons.1 hx with rfl | hx
   ·simp_all
   ·exact ih h1 x hx
  ·simp[SP.run] at h2
theorem xH.nodup{i:Nat}{vals:List TV}{asq us:List Value}{K:List (GP×Addr)}(h:xH w i vals asq K us):pE (K.map λx=>x.1.i)=true/\∀x∈K,i<=x.1.i:=by
 induction h with
 | nil=>exact⟨rfl,λx hx=>by simp_all⟩
 | ptr hr hb hs h0 hh hu hc hok h ih=>
  refine⟨?_,λx hx=>?_⟩
  ·simp only[List.map_cons,pE,oBA,Bool.not_eq_true',List.contains_eq_mem,decide_eq_false_iff_not];refine⟨λhm=>?_,ih.1⟩;have ⟨y,hy,e⟩:=List.mem_map.1 hm;have:=ih.2 y hy;omega
  ·rcases List.mem_cons.1 hx with rfl | hx
   ·simp_all
   ·have:=ih.2 x hx;omega
 | arg ha h ih=>exact⟨ih.1,λx hx=>by have:=ih.2 x hx;omega⟩
 | own h ih=>exact⟨ih.1,λx hx=>by have:=ih.2 x hx;omega⟩
theorem QF{K:List (GP×Addr)}(Zr:pE (K.map λx=>x.1.i)=true):∀x∈K,prK K (2*x.1.i+2)=some (x.2.block,x.2.off,x.1.cells.length):=by
 induction K with
 | nil=>simp_all
 | cons y K ih=>
  intro x hx;simp only[List.map_cons,pE,oBA,Bool.not_eq_true',List.contains_eq_mem,decide_eq_false_iff_not] at Zr;simp[prK];rcases List.mem_cons.1 hx with rfl | hx
  ·simp
  ·rw[oIN]
   ·exact ih Zr.2 x hx
   ·intro e;exact Zr.1 (List.mem_map.2 ⟨x,hx,by omega⟩)
theorem Jv{α β:Type}{K:List (GP×Addr)}{f:GP×Addr->List α}{g:GP×Addr->List β}(h:∀x∈K,(f x).length=(g x).length):(K.flatMap f).length=(K.flatMap g).length:=by
 induction K with
 | nil=>rfl
 | cons x K ih=>simp_all
theorem ER{α β:Type}:∀{a:List α}{b c:List β},a.length<=b.length->a.zip (b++c)=a.zip b:=by
 intro a
 induction a with
 | nil=>simp_all
 | cons x a ih=>
  intro b c h
  cases b with
  | nil=>simp at h
  | cons y b=>simp_all
def wK(σ:St) (x:GP×Addr):List TV:=(eU σ.ce (2*x.1.i+2)).getD []
def Ca(σ:St) (G:Gh) (w:World) (x:GP×Addr):List Value:=(List.range (wK σ x).length).map (G.val w (2*x.1.i+2))
theorem xH.hands2{vals:List TV}{asq us:List Value}{K:List (GP×Addr)}{N:Nat}{σ2:St}{res ys:_}{ts2:Array Value}{w2:World}{G2:Gh}(h:xH w 0 vals asq K us) (ZT:∀x∈K,0 < x.1.cells.length)
 (h2:Inv (M.into w G (prK K) N) σ2 res ys ts2 w2 G2) (hlen:∀x∈K,(wK σ2 x).length=x.1.cells.length) :
 PS res ys (res++K.flatMap (wK σ2)) (ys++K.flatMap (Ca σ2 G2 w2)) (eS (M.into w G (prK K) N) σ2 res) G2 w2 (prK K) (λr=>res.length+bsK K r):=by
 have Uj:∀x∈K,(Ca σ2 G2 w2 x).length=x.1.cells.length:=λx hx=>by simp[Ca,hlen x hx]
 refine⟨?_,λj hj=>⟨by simp;omega,List.getElem_append_left hj,?_⟩,λr b o n hp t ht=>?_,λj hj=>?_,λr b o n r' b' o' n' hp hp' j j' hj ZR e=>PP _ _ _ _ _ _ _ _ hp hp' j j' hj ZR (by omega)⟩
 ·rw[List.length_append,List.length_append,h2.hand,Jv (f:=wK σ2) (g:=Ca σ2 G2 w2) λx hx=>by rw[hlen x hx,Uj x hx]]
 ·rw[oGD,oGD,List.getElem?_append_left (by rw[<- h2.hand];exact hj)]
 ·obtain⟨x,x1,x2,x3,x4,x5,x6,x7⟩:=GR hlen hp;obtain⟨y,y1,y2,y3,y4,y5,y6,y7⟩:=GR Uj hp;have WT:x=y:=xe h.nodup.1 x1 y1 (by omega);subst WT
  have Xz:t < (wK σ2 x).length:=by rw[hlen x x1];omega
  have e1:=x7 t ht;rw[oGE Xz] at e1;obtain⟨k1,k2⟩:=oGS e1;refine⟨by rw[List.length_append];omega,by omega,?_,?_⟩
  ·have e2:(res++K.flatMap (wK σ2))[res.length+bsK K r+t]'(by rw[List.length_append];omega)=(K.flatMap (wK σ2))[bsK K r+t]:=by
    rw[List.getElem_append_right (by omega)];congr 1;omega
   rw[e2,k2]
   rw[eO (by have:r≠1:=by omega
             exact this)]
   unfold St.c
   have hb:wK σ2 x=(eU σ2.ce r).getD []:=by rw[x2];rfl
   cases ha:eU σ2.ce r with
   | none=>rw[hb,ha] at Xz;simp at Xz
   | some l=>
    simp only[hb,ha,Option.getD_some] at Xz ⊢;simp[Xz]
  ·have e3:=y7 t ht;rw[oGD,List.getElem?_append_right (by rw[<- h2.hand];omega)];rw[show res.length+bsK K r+t - ys.length=bsK K r+t by rw[<- h2.hand];omega];rw[e3,x2];simp[Ca,Xz]
 ·by_cases hj1:j < res.length
  ·exact .inl hj1
  ·right;have hc:(K.flatMap (wK σ2)).length=(md K).length:=Jv hlen;obtain⟨r,b,o,n,t,c1,c2,c3⟩:=Sf h.nodup.1 (j:=j - res.length) (by rw[List.length_append] at hj;omega);exact⟨r,b,o,n,t,c1,c2,by omega⟩
theorem Mp:∀{l:List TV}{p:ek}{σ σ':St},p.hops=[]->(putL p l).run σ=some ((),σ')->(∀o,o < p.off->σ'.c p.root o=σ.c p.root o)/\∀t (h:t < l.length),σ'.c p.root (p.off+t)=l[t]:=by
 intro l
 induction l with
 | nil=>
  intro p σ σ' _ h;simp only[putL,SP.run,oSJ,oPJ,true_and] at h
  simp_all
 | cons y l ih=>
  intro p σ σ' hp h;obtain⟨r,off,hops⟩:=p;simp only at hp;subst hp;simp only[putL] at h;obtain⟨_,σ1,h1,h2⟩:=dK h
  have Zs:(∀o,o≠off->σ1.c r o=σ.c r o)/\σ1.c r off=y:=by
   obtain⟨old,l1,vr,hg,hl,ho,hσ1,_⟩:=Jg h1;simp only at hl ho hσ1;subst hσ1;refine⟨λo hne=>?_,?_⟩
   ·simp only[St.c,fm,if_true,hl];simp[List.getElem?_set,Ne.symm hne]
   ·simp only[St.c,fm,if_true];simp[ij,List.getElem?_set,ho]
  cases l with
  | nil=>
   simp only[SP.run,oSJ,oPJ,true_and] at h2;subst h2;refine⟨λo ho=>Zs.1 o (by simp only at ho;omega),λt ht=>?_⟩
   have:t=0:=by simp at ht;omega
   subst this;exact Zs.2
  | cons y2 l=>
   have X5:(⟨r,off,[]⟩:ek).add 1=⟨r,off+1,[]⟩:=rfl;rw[X5] at h2;obtain⟨k1,k2⟩:=ih (p:=⟨r,off+1,[]⟩) rfl h2;refine⟨λo ho=>?_,λt ht=>?_⟩
   ·simp only at ho;exact (k1 o (by show o < off+1;omega)).trans (Zs.1 o (by omega))
   ·cases t with
    | zero=>exact (k1 off (by show off < off+1;omega)).trans Zs.2
    | succ t=>
     have:=k2 t (by simpa using ht);rw[show off+(t+1)=off+1+t by omega];simpa using this
theorem Fh{x:GP×Addr}{f:GP×Addr->List TV}(hx:x.1.p.hops=[]) (h:(putBack ([x].map λx=>(x.1,f x))).run σ=some ((),σ')):∀t,t < (f x).length->σ'.c x.1.p.root (x.1.p.off+t)=(f x).getD t .dead:=by
 intro t ht;have ⟨_,σ1,h1,h2⟩:=dK h;split at h2
 ·rw[(Mp hx h2).2 t ht];simp[ht]
 ·simp[SP.run] at h2
theorem JI{F:gE}(hF:mS P F) {asq:List Value}{vals:List TV}{ns:List (Option Nat)}{Y8:FuncId}{σ1:St}{G1:Gh}(hd:∀d,o.dst=some d->d < M.N/\M.pr (2*d+2)=none) (hI1:Inv M σ1 [] [] a.tmps w G1) (hns:ns.length=vals.length) (hal:asq.length=vals.length)
 (W3:∀j (h:j < vals.length) (h':j < asq.length),TmR w (G1.F M.A) σ1.v (eS M σ1 []) G1 vals[j] asq[j]) (h2:(callV F o.dst Y8 ns vals).run σ1=some ((),σ')) (YG:tK P Y8->(execOp a.eval o).run P w=.ok (.enter Y8 asq.toArray) w):Ru P M σ' a o w:=by
 intro K' Q hK;unfold callV at h2;obtain⟨ow,σ0,h3o,h2⟩:=dK h2;obtain⟨q,σ2,h3,h4⟩:=dK h2
 have hzl:(ns.zip vals).length=vals.length:=by simp[hns]
 have Yc:(ns.zip vals).map (·.2)=vals:=by
  rw[List.map_snd_zip];omega
 have hzt:∀{σ1:St} {H1:List TV} {G1:Gh},(∀j (h:j < vals.length) (h':j < asq.length),TmR w (G1.F M.A) σ1.v (eS M σ1 H1) G1 vals[j] asq[j])->∀j (h:j < (ns.zip vals).length) (h':j < asq.length),TmR w (G1.F M.A) σ1.v (eS M σ1 H1) G1 (ns.zip vals)[j].2 asq[j]:=λh j h1 h2=>by
  have hj:j < vals.length:=by rw[<- hzl];exact h1
  have:=h j hj h2;simpa using this
 obtain⟨zs,G0,VK,hor,p'⟩:=Hr hI1 (by omega) (hzt W3) h3o;obtain⟨us,G2,K,hg2',VA,Xx,TL⟩:=O2 (asq:=asq) VK.1 (by omega) (hzt λj h h'=>VK.tm (W3 j h h')) h3;have Ul:=O1 h3;have ZE:=VK.trans hg2';rw[Yc] at Xx;obtain⟨_,σ3,h5,h6⟩:=dK h4
 have U7:([]:List TV)++ow.map (·.2)++q.flatMap (·.cells)=ow.map (·.2)++md K:=by rw[<- VA];simp[md,List.flatMap_map]
 rw[U7,List.nil_append] at ZE;rw[U7] at TL;have hz:zs.length=ow.length:=hor.facts.1
 have hpk2:∀j p vs,vals[j]?=some (.pk p vs)->∃x∈ow,x.1=j:=λj p vs hj=>by
  obtain⟨hjl,hje⟩:=oGS hj
  have hjn:j < ns.length:=by omega
  have hzj:(ns.zip vals)[j]?=some (ns[j],.pk p vs):=by
   rw[oGE (by omega)];simp[hje]
  have hn:=Ul j _ p vs hzj;rw[hn] at hzj;obtain⟨x,h7,h8⟩:=p' j p vs hzj;exact⟨x,h7,by omega⟩
 obtain⟨rfl,hre⟩:=Ou ZE.1 h5;split at h6
 case isFalse=>simp[SP.run] at h6
 rename_i YB;simp only[oBA,List.all_eq_true,oDE] at YB;obtain⟨Zr,ZT⟩:=YB;have Xj:∀x∈K,0 < x.1.cells.length:=λx hx=>ZT x.1 (by rw[<- VA];exact List.mem_map_of_mem hx)
 have Yn:=λj h h'=>by
  have:=ZE.tm (W3 j h (by omega));simpa using this
 have Xa:∀x∈K,x.1.p.root≠1/\G2.addr w x.1.p=some x.2/\(∃t,eM (eS M σ3 (ow.map (·.2)++md K) x.1.p.root x.1.p.off) x.1.p.hops=some t)/\((∃o n,G2.β x.1.p.root=some (x.2.block,o,n))\/G2.φ x.1.p.root x.1.p.off x.2.block):=λx hx=>by
  obtain⟨r1,ad,r2,r3,_,r4,r5⟩:=hre x.1 (by rw[<- VA];exact List.mem_map_of_mem hx) _ (TL x hx)
  injection r2 with r2
  injection r2 with r2
  subst r2;exact⟨r1,r3,r4,r5⟩
 have hh:=Xx.hands ZE.1 hor (by rw[VA];exact Zr) Xj λx hx=>⟨(Xa x hx).1,(Xa x hx).2.2.2⟩;obtain⟨r,σ4,h7,h8⟩:=dK h6
 have Xn:F Y8 (argTs 0 vals) (q.map (λg=>(2*g.i+2,g.cells))++ow.map λx=>(2*x.1+3,[x.2]))=some r/\σ4=σ3:=by
  cases hq:F Y8 (argTs 0 vals) (q.map (λg=>(2*g.i+2,g.cells))++ow.map λx=>(2*x.1+3,[x.2])) with
  | none=>rw[hq] at h7;simp[nv,SP.run] at h7
  | some r'=>
   rw[hq] at h7;simp only[nv,SP.run,oSJ,oPJ] at h7;exact⟨by rw[h7.1],h7.2.symm⟩
 obtain⟨Xn,rfl⟩:=Xn;obtain⟨res,Zm⟩:=r;simp only at h8;split at h8
 case isFalse=>simp[SP.run] at h8
 rename_i VF;simp only[oBA,oDE] at VF;obtain⟨_,σ5,h9,ZM⟩:=dK h8;obtain⟨YK,N,hN,Wm⟩:=hF Y8 _ _ _ _ Xn;rw[Hg] at hN
 have N0:(q.map (λg=>(2*g.i+2,g.cells))++ow.map λx=>(2*x.1+3,[x.2]))=ceK K++ceO ow:=by rw[<- VA];simp[ceK,ceO]
 have hin:=Xx.enter ZE.1 hor hpk2 hh Yn (N:=N) (by omega)
 have UE:=Wm (M.into w G2 (prK K) N) asq w (G2.into (prK K) (λr=>ow.length+bsK K r) (owK ow) (zs++us)) (by rw[Hg];exact hal) rfl rfl (λr hr=>by
  have hr:prK K r≠none:=hr
  cases hp:prK K r with
  | none=>exact absurd hp hr
  | some y=>
   obtain⟨b,o,n⟩:=y;obtain⟨x,x1,x2,_⟩:=mN hp;obtain⟨_,_,p,vs,s1⟩:=Xx.slot x x1;refine⟨x.1.i,⟨2*x.1.i+2,0,p.hops⟩,List.replicate (p.hops.length+1) 0,?_,x2⟩;rw[Hh];have s1:vals[x.1.i]?=some (.ptr p vs):=s1;rw[s1]
   simp[argT]) (by rw[N0];exact hin)
 have hrun:=YG YK;unfold Oper.wp;rw[hrun,Oper.upon_enter];refine UE.mono λe w2 ⟨v,σc,he,XL,Os⟩=>?_;subst he;simp only
 have hzip:q.zip (Zm.map (·.2))=K.map λx=>(x.1,wK σc x):=by
  rw[Os,N0,<- VA];simp only[ceK,List.map_append,List.map_map];rw[ER (by simp),List.zip_map'];rfl
 rw[hzip] at h9;have Xf:∀x∈K,(wK σc x).length=x.1.cells.length:=λx hx=>HF h9 _ (List.mem_map.2 ⟨x,hx,rfl⟩);have Zv:=QF Xx.nodup.1
 have hlt:∀x∈K,x.2.block < w.heap.size:=λx hx=>by
  obtain⟨cur,e,fz,hb,_⟩:=tZ (hh.here _ _ _ _ (Zv x hx) 0 (Xj x hx)).1;exact (Array.getElem?_eq_some_iff.1 hb).1
 have VO:∀x∈K,∀y∈K,x.2.block=y.2.block->x=y:=λx hx y hy e=>by
  have h1:=Zv x hx;have h2:=Zv y hy;rw[<- e] at h2;have:=hh.inj _ _ _ _ _ _ _ h1 h2;exact xe Xx.nodup.1 hx hy (by omega)
 have back:∀{Hc:List TV} {ys:List Value} {ts2:Array Value} {Gc:Gh},Inv (M.into w G2 (prK K) N) σc Hc ys ts2 w2 Gc->∃G4,Inv M σ5 Hc ys a.tmps w2 G4/\G4.β=G2.β:=by
  intro Hc ys ts2 Gc WP;have hH2:=Xx.hands2 (M:=M) (G:=G2) (N:=N) Xj WP Xf;have hsz:w.heap.size<=w2.heap.size:=WP.fram.size
  obtain⟨G3,WV,VT,hβ3⟩:=ZE.1.leave hh WP hH2 (w':=RWs w K w2) Pp EP.1 EP.2.1 EP.2.2 (λk hk=>Sn λx hx=>hk _ _ _ _ (Zv x hx)) (λr b o n hp=>by
   obtain⟨x,x1,x2,x3,_⟩:=mN hp;rw[x3]
   exact So (hlt x x1) (Nat.lt_of_lt_of_le (hlt x x1) hsz) ⟨x,x1,rfl⟩)
  obtain⟨G4,U8,htm4,hm4,hβ4⟩:=Kk (w:=w) (f:=wK σc) (v:=Ca σc Gc w2) (λx=>by simp[Ca]) (K:=K) (W:=w2) WP.hand WV (λx hx=>by
   have hp:=Zv x hx;obtain⟨hβ,cur0,cur,e,fz,p1,p2,p3,p4⟩:=WP.fram.par _ _ _ _ hp
   have UV:(Ca σc Gc w2 x).length=x.1.cells.length:=by simp[Ca,Xf x hx]
   refine⟨cur0,cur,e,fz,p1,p2,p3,λj hj=>p4 j (by rw[UV] at hj;exact hj),λj hj=>?_⟩;have Z3:=WP.core.boxcell hβ (o:=j) (by omega);obtain⟨Yz,e',fz',c1,c2,c3⟩:=tZ Z3;rw[p2] at c1
   injection c1 with c1
   injection c1 with c1 _ _
   subst c1;rw[c3]
   simp[Ca]) (λx hx e=>by have h1:=Xf x hx;have h2:=Xj x hx;rw[e,List.length_nil] at h1;omega) VO (by rw[<- VA] at Zr;simpa [Function.comp_def] using Zr) (λx hx=>by
   obtain⟨r1,r2,⟨t,r3⟩,_⟩:=Xa x hx;obtain⟨t',k1,k2⟩:=VT.keeps.ptr x.1.p x.2 t r1 rfl r2 r3
   exact⟨r1,k1,t',k2⟩) h9
  exact⟨G4,U8,hβ4.trans hβ3⟩
 rcases XL with ⟨ys,ts2,Gc,rfl,WP,A'⟩ | ⟨pl,pvs,fl,pv,ts2,Gc,ZN,⟨shr,hsh⟩,Zy,rfl,WP,Um⟩
 ·obtain⟨G4,U8,_⟩:=back WP
  have hP:isP res=false:=by
   cases hp:isP res with
   | false=>rfl
   | true=>
    unfold isP at hp;split at hp
    ·rename_i sh1 p vs l1 e1 e2;have:=A' 0 (by rw[e2];simp);simp[e2,fX,oW] at this
    ·cases hp
  rw[hP] at ZM VF;simp only[Bool.false_eq_true,if_false,Bool.false_or] at ZM VF;obtain⟨G5,WO⟩:=QR U8 A' VF.2 (dst:=o.dst) (λd Yy=>(hd d Yy).1) ZM;refine hK (a.put o.dst (qo res.sh ys)) w2 G5 ?_ (qp _ _ _)
  cases hdst:o.dst with
  | none=>rw[hdst] at WO;exact WO
  | some d=>rw[hdst] at WO;exact WO
 ·obtain⟨G4,U8,hβ4⟩:=back WP
  have hP:isP res=true:=by unfold isP;rw[ZN,hsh]
  rw[hP] at ZM;simp only[if_true] at ZM
  have hfin:∃G5,Inv M σ' [] [] (match o.dst with | some d=>a.tmps.setIfInBounds d (Ct pv (fl.map unV)) | none=>a.tmps) w2 G5:=by
   cases hdst:o.dst with
   | none=>
    rw[hdst] at ZM;simp only[landP,SP.run,oSJ,oPJ,true_and] at ZM;subst ZM;exact⟨G4,U8⟩
   | some d=>
    rw[hdst,ZN] at ZM;simp only[landP] at ZM;split at ZM
    case h_2=>simp[SP.run] at ZM
    rename_i pl' Za l' g UT Yw
    injection UT with UT hql
    injection UT with UT _
    subst UT;subst hql;split at ZM
    case isFalse=>simp[SP.run] at ZM
    rename_i hck3;simp only[oBA,beq_iff_eq,List.isEmpty_iff] at hck3;obtain⟨Z7,Yi⟩:=hck3;obtain⟨nvs,σ6,W',T8⟩:=dK ZM;rw[zl,uS] at W'
    injection W' with W'
    injection W' with W' h13
    subst W';subst h13;simp only[wr,SP.run,oSJ,oPJ,true_and] at T8;subst T8;obtain⟨x,rfl⟩:∃x,K=[x]:=List.length_eq_one_iff.1 (by have:=congrArg List.length VA;simpa using this)
    have hxg:x.1=g:=by simpa using VA
    have hxm:x∈[x]:=by simp
    obtain⟨r1,r2,_,_⟩:=Xa x hxm;have hp:=Zv x hxm;obtain⟨hβc,_⟩:=WP.fram.par _ _ _ _ hp
    have hhx:x.1.p.hops=[]:=by rw[hxg];exact Yi
    have X':pl.root=2*x.1.i+2:=by rw[hxg];exact Z7
    obtain⟨b0,o0,n0,hβ0,had0⟩:∃b0 o0 n0,G4.β x.1.p.root=some (b0,o0,n0)/\x.2=⟨b0,o0+x.1.p.off,none⟩:=by
     rw[hβ4];unfold Gh.addr at r2;rw[hhx] at r2;simp only at r2
     cases hb:G2.β x.1.p.root with
     | none=>rw[hb] at r2;simp at r2
     | some y=>
      obtain⟨b0,o0,n0⟩:=y;rw[hb] at r2
      injection r2 with r2
      exact⟨b0,o0,n0,rfl,r2.symm⟩
    have Wp:=Fh hhx h9;refine⟨G4,U8.wrT (hd d hdst).1 (LY (.ptr _ (λ_=>Nat.le_refl _) rfl λ_=>?_) Zy)⟩;rw[<- hxg];obtain⟨_,ad,t,ha,hv,ht⟩:=Um;refine⟨r1,ad,?_⟩
    have hval:G4.val w2 x.1.p.root (x.1.p.off+pl.off)=Gc.val w2 pl.root pl.off:=by
     unfold Gh.val;rw[hβ0,X',hβc];simp only[had0,Nat.add_assoc]
    cases hho:pl.hops with
    | nil=>
     rw[hho] at ht;refine⟨_,?_,hv,rfl⟩;rw[<- ha];unfold Gh.addr;simp only[hho,hβ0,X',hβc,had0,Nat.add_assoc]
    | cons h1 hs=>
     rw[hho] at ht;refine⟨t,?_,hv,?_⟩
     ·rw[<- ha];unfold Gh.addr;simp only[hho];rw[hval]
     ·have hne1:x.1.p.root≠M.hr:=r1;rw[eO hne1]
      have Y9:pl.off < x.1.cells.length:=by
       rcases Nat.lt_or_ge pl.off x.1.cells.length with h | h
       ·exact h
       ·have:=WP.core.boxc _ _ _ _ hβc pl.off h;rw[X'] at ht;rw[this] at ht;simp[eM] at ht
      have ZO:=Wp pl.off (by rw[Xf x hxm];exact Y9)
      have hc3:eS (M.into w G2 (prK [x]) N) σc [] pl.root pl.off=(wK σc x).getD pl.off .dead:=by
       rw[X',eO (by show 2*x.1.i+2≠1;omega)];unfold wK St.c
       cases eU σc.ce (2*x.1.i+2) with
       | none=>simp
       | some l=>rfl
      rw[hc3] at ht;rw[ZO];exact ht
  obtain⟨G5,WO⟩:=hfin;refine hK (a.put o.dst (Ct pv (fl.map unV))) w2 G5 ?_ (qp _ _ _)
  cases hdst:o.dst with
  | none=>rw[hdst] at WO;exact WO
  | some d=>rw[hdst] at WO;exact WO
theorem sH{Y8:FuncId}{args':Array Operand}{caps:Array Value}{fo:Operand}{Vv:Array TypeId}(ho:o.op=.call ⟨.value fo,args',Vv⟩) (hv:a.eval fo=.func (.func Y8) #[] caps) (YK:tK P Y8) :
 (execOp a.eval o).run P w=.ok (.enter Y8 (args'.map a.eval++caps)) w:=by
 unfold execOp;simp only[resolve];simp only[Deferred.ofValue,Sem.run_pure,invoke];have:=YK (args'.map a.eval++caps) w
 simp_all
theorem O8{E:Env}(hB:NH P E) {asq:List Value}{vals:List TV}{Y8:FuncId}{n:Nat}{tm:List BxC}(hbx:E.box Y8=some (n,tm)) (hn:vals.length=n) {σ1:St}{G1:Gh}(hd:∀d,o.dst=some d->d < M.N/\M.pr (2*d+2)=none) (hI1:Inv M σ1 [] [] a.tmps w G1) (hal:asq.length=vals.length)
 (W3:∀j (h:j < vals.length) (h':j < asq.length),TmR w (G1.F M.A) σ1.v (eS M σ1 []) G1 vals[j] asq[j]) (h2:(evBox o.dst tm vals).run σ1=some ((),σ')) (YG:tK P Y8->(execOp a.eval o).run P w=.ok (.enter Y8 asq.toArray) w):Ru P M σ' a o w:=by
 intro K' Q hK;obtain⟨YK,Zy,ty,Wm⟩:=hB Y8 n tm hbx
 cases hdst:o.dst with
 | none=>rw[hdst] at h2;simp[evBox,SP.run] at h2
 | some d=>
  rw[hdst] at h2;obtain⟨hdN,YE⟩:=hd d hdst;simp only[evBox] at h2;obtain⟨l,σ2,h3,h4⟩:=dK h2
  obtain⟨WQ,Zs,G2,ZE⟩:=tM (ys:=tm.map (bxV asq)) hI1 (by simp) (λj h=>by
   have hj:j < tm.length:=by simpa using h
   simp only[List.getElem_map,oGD,List.getElem?_map,oGE hj,oMS,Option.getD_some]
   cases hb:tm[j] with
   | val x=>exact .v (Zy x (by rw[<- hb];exact List.getElem_mem hj))
   | arg i=>
    simp only[bxT,bxV];by_cases hi:i < vals.length
    ·simp_all
    ·have:vals.getD i .dead=.dead:=by simp[oGD,oGN (by omega:vals.length<=i)]
     rw[this];exact .dead) h3
  obtain⟨G3,WV,_,hβ⟩:=ZE.1.newBox (2*d+2) ty (by omega) YE (by omega);have XH:(wr d (.ptr ⟨2*d+2,0,[]⟩ [(σ2.root (2*d+2) l).v (2*d+2,0,0)])).run (σ2.root (2*d+2) l)=some ((),σ'):=h4;simp only[wr,SP.run,oSJ,oPJ,true_and] at XH;subst XH;unfold Oper.wp;rw[YG YK,Oper.upon_enter];refine (Wm asq w (by omega) Zs).mono λe w2 ⟨he,hw⟩=>?_;subst he;subst hw;simp only;refine hK (a.put o.dst (.pointer (some ⟨w.heap.size,0,none⟩))) _ G3 ?_ (qp _ _ _);rw[hdst];refine WV.wrT hdN (.ptr (σ2.root (2*d+2) l).v (λ_=>Nat.le_refl _) (by simp[kY]) λ_=>⟨by show (2*d+2:Nat)≠1;omega,⟨w.heap.size,0,none⟩,_,?_,rfl,rfl⟩);unfold Gh.addr;simp only[hβ]
theorem Jb{E:Env}{F:gE}(hB:NH P E) (hF:mS P F):Bh P M lQ (evCall E F):=by
 intro o t σ σ' a w G hc hd hI hr;rcases hc with rfl | hc
 ·simp[evop,evCall,Ra,SP.run] at hr
 cases ho:o.op with
 | call c=>
  rw[ho] at hc;obtain⟨callee,args,Vv⟩:=c
  cases callee with
  | value fo=>
   cases t with
   | call k f' args'=>
    simp only[sV] at hc;obtain⟨hf,hlen,hargs⟩:=hc;simp only[evop] at hr
    cases f' with
    | f Y8=>
     have hfo:fo=.func Y8:=by cases fo<;>simp[dV] at hf;rw[hf]
     have UI:∀Y8,fo=.func Y8->tK P Y8->(execOp a.eval o).run P w=.ok (.enter Y8 (args.toList.map a.eval).toArray) w:=λY8 hfo YK=>by
      have:=sH (a:=a) (w:=w) ho (by rw[hfo];rfl:a.eval fo=.func (.func Y8) #[] #[]) YK
      have ea:(args.toList.map a.eval).toArray=args.map a.eval:=by apply Array.ext';rw[Array.toList_map]
      rw[ea];simpa using this
     have UI:=UI Y8 hfo;simp only[evCall] at hr
     cases k with
     | false=>
      simp only[Bool.false_eq_true,if_false] at hr;obtain⟨vals,σ1,h1,h2⟩:=dK hr;obtain⟨rfl,YV,W3⟩:=Ol (l':=args.toList) hI (by simp[hlen]) (λj h h'=>by have:=hargs j (by simpa using h) (by simpa using h');simpa using this) h1
      have V4:vals.length=args'.length:=by rw[YV];simp
      exact Ph hF hd hI (by simp;omega) (λj h h'=>by have:=W3 j h (by simpa using h');simpa using this) h2 UI
     | true=>
     simp only[if_true] at hr;obtain⟨vals,σ1,h1,h2⟩:=dK hr;obtain⟨G1,Zt,YV,W3⟩:=JL (l':=args.toList) hI (by simp[hlen]) (λj h h'=>by have:=hargs j (by simpa using h) (by simpa using h');simpa using this) h1;have V4:vals.length=args'.length:=YV;split at h2
     ·rename_i x hbx;split at h2
      case isFalse=>simp[SP.run] at h2
      rename_i hn;exact O8 hB hbx hn hd Zt.1 (by simp;omega) (λj h h'=>by have:=W3 j h (by simpa using h');simpa using this) h2 UI
     ·exact JI hF hd Zt.1 (by simp;omega) (by simp;omega) (λj h h'=>by have:=W3 j h (by simpa using h');simpa using this) h2 UI
    | t i=>
     simp only[evCall,SP.run] at hr;split at hr
     case h_2=>simp[SP.run] at hr
     rename_i Y8 caps htv;obtain⟨vals,σ1,h1,h2⟩:=dK hr;obtain⟨G1,Zt,YV,W3⟩:=JL (l':=args.toList) hI (by simp[hlen]) (λj h h'=>by have:=hargs j (by simpa using h) (by simpa using h');simpa using this) h1;have V4:vals.length=args'.length:=YV
     have hfo:fo=.tmp i:=by cases fo<;>simp[dV] at hf;rw[hf]
     have Zl:=hI.tmr i;rw[htv] at Zl
     have X1:a.eval fo=a.tmps.getD i undef:=by rw[hfo];rfl
     generalize hz:a.tmps.getD i undef=z at Zl X1
     cases Zl with
     | @fn _ _ xs Zd Ue=>
      have UI:tK P Y8->(execOp a.eval o).run P w=.ok (.enter Y8 (args.toList.map a.eval++xs.toList).toArray) w:=λYK=>by
       have:=sH (a:=a) (w:=w) ho X1 YK
       have ea:(args.toList.map a.eval++xs.toList).toArray=args.map a.eval++xs:=by apply Array.ext';simp
       rw[ea];exact this
      have hcl':xs.toList.length=caps.length:=by simpa using Zd
      exact JI hF hd Zt.1 (by simp[Pg];omega) (by simp;omega) (λj h h'=>by
       by_cases hj:j < vals.length
       ·have:=W3 j hj (by simp;omega);simpa [List.getElem_append_left,hj,List.getElem_append,show j < args.size by omega] using this
       ·have XD:j - vals.length < caps.length:=by simp at h;omega
        have:=Zt.tm (Ue (j - vals.length) XD)
        have Ug:¬ j < args.size:=by omega
        have e1:args.size=vals.length:=by omega
        simp only[List.getElem_append,hj,dite_false,List.length_map,Array.length_toList,Ug,Array.getElem_toList];simp only[e1]
        have e2:xs.getD (j - vals.length) undef=xs[j - vals.length]:=by simp[Array.getD_eq_getD_getElem?,show j - vals.length < xs.size by omega]
        rw[<- e2]
        exact this) h2 UI
    | _=>simp[evCall,SP.run] at hr
   | _=>simp[sV] at hc
  | _=>cases t<;>simp[sV] at hc
 | _=>rw[ho] at hc;cases t<;>simp[sV] at hc
end
theorem tL{P:Program}{ops:Array Oper}{Q:Exit->Act->World->Prop}{i:Nat}{L:List Nat}{a:Act}{w:World}{o:Oper}{v:Value}(ho:ops[i]?=some o) (hg:o.guard=none) (hrun:(execOp a.eval o).run P w=.ok (.value v) w) (h:wpOps P ops Q L (a.put o.dst v) w):wpOps P ops Q (i :: L) a w:=by
 simp[wpOps,ho];rw[oIP (by simp[Region.wanted,hg])];left;unfold Oper.wp;rw[hrun];exact h
structure NE (P:Program) (c rest:Code):Prop where
 ex:∃(i0 i1 i2:Nat) (o0 o1 o2 o3:Oper) (ty ty2 e:TypeId),c=.seq (.region i0 #[o0] false) (.seq (.seq (.region i1 #[o1,o2] false) (.cond (.tmp 4) (.seq (.region i2 #[o3] false) .ret) .skip)) rest) /\
  (o0.dst=some 2/\o0.guard=none/\o0.op=.assign (.const (.slice none 0 0)))/\(o1.dst=some 3/\o1.guard=none/\o1.op=.move (.tmp 0)) /\
  (o2.dst=some 4/\o2.guard=none/\o2.op=.binOp .eql ty (.tmp 3) (.const (.slice none 0 0)) ty2)/\(o3.dst=some 2/\o3.guard=none/\o3.op=.assign (.const (.slice none 0 0)))/\P.underlying ty=some (.slice e)
def AW(ts:Array Value) (x:Value) (b:Bool):Array Value:=((ts.setIfInBounds 2 (.slice none 0 0)).setIfInBounds 3 x).setIfInBounds 4 (.bool b)
theorem Pe{P:Program}{c rest:Code}(hc:NE P c rest) {ad:Option Addr}{n cap:Nat}{ts:Array Value}{w:World}{Q:Exit->Act->World->Prop}(h0:ts.getD 0 undef=.slice ad n cap) (hN:4 < ts.size)
 (hnil:ad=none->Q .ret ⟨(AW ts (.slice ad n cap) true).setIfInBounds 2 (.slice none 0 0),[]⟩ w) (ZS:ad≠none->rest.wp P Q ⟨AW ts (.slice ad n cap) false,[]⟩ w):c.wp P Q ⟨ts,[]⟩ w:=by
 obtain⟨i0,i1,i2,o0,o1,o2,o3,ty,ty2,e,rfl,⟨d0,g0,p0⟩,⟨d1,g1,p1⟩,⟨d2,g2,p2⟩,⟨d3,g3,p3⟩,hu⟩:=hc.ex
 have WN:∀{o:Oper} {a:Act} {x:Operand},(o.op=.assign x\/o.op=.move x)->(execOp a.eval o).run P w=.ok (.value (a.eval x)) w:=λho=>by rcases ho with ho | ho<;>simp[execOp,ho]
 refine wp_seq (wp_region ?_);show wpOps P #[o0] _ [0] _ w;refine tL (o:=o0) rfl g0 (WN (.inl p0)) ?_;rw[d0];refine wp_seq (wp_seq (wp_region ?_));show wpOps P #[o1,o2] _ [0,1] _ w;refine tL (o:=o1) rfl g1 (WN (.inr p1)) ?_;rw[d1]
 have e0:(ts.setIfInBounds 2 (.slice none 0 0)).getD 0 undef=.slice ad n cap:=by
  rw[<- h0];simp[Array.getD_eq_getD_getElem?,Array.getElem?_setIfInBounds]
 have e3:((ts.setIfInBounds 2 (.slice none 0 0)).setIfInBounds 3 (.slice ad n cap)).getD 3 undef=.slice ad n cap:=by
  simp[Array.getD_eq_getD_getElem?,Array.getElem?_setIfInBounds,show 3 < ts.size by omega]
 have Xk:(execOp (Act.mk ((ts.setIfInBounds 2 (.slice none 0 0)).setIfInBounds 3 (.slice ad n cap)) []).eval o2).run P w=.ok (.value (.bool ad.isNone)) w:=by
  have hb:=Lib.run_eql_slice_nil (P:=P) w ty e ad n cap 0 0 hu;have ex:(Act.mk ((ts.setIfInBounds 2 (.slice none 0 0)).setIfInBounds 3 (.slice ad n cap)) []).eval (.tmp 3)=.slice ad n cap:=e3;have ey:∀a:Act,a.eval (.const (.slice none 0 0))=.slice none 0 0:=λ_=>rfl;have hg:(eqGuard .eql ty (.tmp 3) (.const (.slice none 0 0)) (.slice ad n cap) (.slice none 0 0)).run P w=.ok () w:=rfl;simp[execOp,p2,ex,ey,hb,hg]
 refine tL (o:=o2) (v:=.bool ad.isNone) rfl g2 ?_ ?_
 ·show (execOp (Act.mk ((ts.setIfInBounds 2 (.slice none 0 0)).setIfInBounds 3 ((ts.setIfInBounds 2 (.slice none 0 0)).getD 0 undef)) []).eval o2).run P w=_;rw[e0];exact Xk
 rw[d2];show (Code.cond (.tmp 4) _ _).wp P _ ⟨((ts.setIfInBounds 2 (.slice none 0 0)).setIfInBounds 3 ((ts.setIfInBounds 2 (.slice none 0 0)).getD 0 undef)).setIfInBounds 4 (.bool ad.isNone),[]⟩ w;rw[e0]
 have e4:∀b,(AW ts (.slice ad n cap) b).getD 4 undef=.bool b:=λb=>by
  unfold AW;simp[Array.getD_eq_getD_getElem?,Array.getElem?_setIfInBounds,hN]
 cases ad with
 | none=>
  refine wp_cond_true (e4 true) (wp_seq (wp_region ?_));show wpOps P #[o3] _ [0] _ w;refine tL (o:=o3) rfl g3 (WN (.inl p3)) ?_;rw[d3];exact wp_ret (hnil rfl)
 | some ad=>exact wp_cond_false (e4 false) (wp_skip (ZS (by simp)))
def Ha(sz:Nat) (b:Bool) (bytes:Nat) (mv fl:Bool) (id:Nat):ma:=
 .seq (.reg id none [⟨some 5,none,.bsl sz b 0 []⟩,⟨some 6,none,.mov (.t 0)⟩,⟨some 7,none,.app sz bytes mv fl (.t 5) (.t 6)⟩,⟨some 2,none,.asn true (.t 7)⟩] ([2],[7])) .ret
def G9(call:Option Nat->TOp->SP Unit) (N:Nat) (tc:ma):Option (List TV×List RSh):=(runC call N tc (mkSt [.sl []] [])).bind λx=>match x.1 with | .exit _=>none | _=>((resF 1 [.tmp 2]).run x.2).map (·.1)
theorem K2(call:Option Nat->TOp->SP Unit) (N sz:Nat) (b:Bool) (bytes:Nat) (mv fl:Bool) (id:Nat):G9 call N (Ha sz b bytes mv fl id)=G9 (λ_ _=>.fail) 0 (Ha sz b bytes mv fl id):=rfl
def zA(tc:ma):Bool:=match G9 (λ_ _=>.fail) 0 tc with
 | some ([.ow []],[.one])=>true
 | _=>false
theorem IE{tc:ma}(h:zA tc=true):G9 (λ_ _=>.fail) 0 tc=some ([.ow []],[.one]):=by
 unfold zA at h
 grind
def pD(pp:List Nat):Nat->List TV->Bool
 | _,[]=>true
 | i,.ptr _ _ :: r=>pp.contains i && pD pp (i+1) r
 | i,.sl _ :: r=>pD pp (i+1) r
 | i,_ :: r=>!pp.contains (1000+i) && pD pp (i+1) r
theorem Ms{pp:List Nat}:∀{l:List TV}{i:Nat},pD pp i l=true->∀j p vs,l[j]?=some (.ptr p vs)->i+j∈pp:=by
 intro l
 induction l with
 | nil=>simp_all
 | cons t l ih=>
  intro i h j p vs hj
  have hr:pD pp (i+1) l=true:=by
   cases t<;>simp only[pD,oBA] at h<;>first | exact h.2 | exact h
  cases j with
  | zero=>
   have:t=.ptr p vs:=by simp_all
   subst this;simp[pD,List.contains_eq_mem,oDE] at h;exact h.1
  | succ j=>
   have:=ih hr j p vs (by simp_all);rw[show i+(j+1)=i+1+j by omega];exact this
def runT(E:Env) (F:gE) (n:Nat) (tf:TFn) (vals:List TV) (pts:Pts):Option (Ld×Pts):=
 if vals.length=tf.np/\(pD tf.pp 0 vals && (!tf.pp.contains 1000 || pts.isEmpty))=true then
  (runC (evCall E F) n tf.body (mkSt vals pts)).bind λx=>match x.1 with
   | .exit _=>none
   | _=>((resF tf.np tf.res).run x.2).bind λy=>some (⟨y.1.1,y.1.2⟩,pts.map λx=>(x.1,(eU y.2.ce x.1).getD []))
 else none
def J3(E:Env) (T:FuncId->Option TFn) (B F:gE) (n:Nat):gE:=λf vals pts=>
 match T f with
 | none=>B f vals pts
 | some tf=>runT E F n tf vals pts
def runF(E:Env) (T:FuncId->Option TFn) (B:gE):Nat->gE
 | 0=>λ_ _ _=>none
 | n+1=>J3 E T B (runF E T B n) n
def ND(P:Program) (tf:TFn) (c:Code):Prop:=
 tf.np=1/\tf.pp=[1000]/\tf.nt=8/\tf.res=[.tmp 2]/\zA tf.body=true/\(∃sz b bytes mv fl id,tf.body=Ha sz b bytes mv fl id) /\
  ∃rest,NE P c rest/\∀M:Fm,M.N=tf.nt->(∀r,M.pr r≠none->∃i∈tf.pp,r=2*i+2)->jW P M lQ tf.body rest
def NB(P:Program) (T:FuncId->Option TFn):Prop:=
 ∀f tf,T f=some tf->∃fn c,P.funcs[f]?=some fn/\(fn.name=="runtime.NumGoroutine")=false/\fn.body=some c/\fn.ntmps=tf.nt/\tf.np<=tf.nt /\
  ((∀M:Fm,M.N=tf.nt->(∀r,M.pr r≠none->∃i∈tf.pp,r=2*i+2)->jW P M lQ tf.body c)\/ND P tf c)/\tf.res.length=fn.results.size/\∀k (h:k < tf.res.length) (h':k < fn.results.size),IK P tf.res[k] fn.results[k]
section
variable {P:Program} {E:Env} {T:FuncId->Option TFn} {B F:gE}
def SD(tf:TFn) (pts:Pts) (x:l9×St):Option (Ld×Pts):=match x.1 with
 | .exit _=>none
 | _=>((resF tf.np tf.res).run x.2).bind λy=>some ((⟨y.1.1,y.1.2⟩:Ld),pts.map λ(x:Nat×List TV)=>(x.1,(eU y.2.ce x.1).getD []))
theorem IH{tf:TFn}{fn:Func}{M:Fm}{σ1:St}{a':Act}{w':World}{G':Gh}{pts Zm:Pts}{res:Ld}{e:l9}(XU:tf.res.length=fn.results.size) (Y1:∀k (h:k < tf.res.length) (h':k < fn.results.size),IK P tf.res[k] fn.results[k])
 (ZD:Inv M σ1 [] [] a'.tmps w' G') (hd:a'.defers=[]) (h2:SD tf pts (e,σ1)=some (res,Zm)) :
 bodyPost P fn (λe w2=>∃v σ2,e=.returned v/\SI M res v σ2 w2/\Zm=pts.map λ(x:Nat×List TV)=>(x.1,(eU σ2.ce x.1).getD [])) e.toExit a' w':=by
 unfold SD at h2
 have W5:∀y,(resL tf.np tf.res).run σ1=some y->some ((⟨y.1.1,y.1.2⟩:Ld),pts.map λx=>(x.1,(eU y.2.ce x.1).getD []))=some (res,Zm)->a'.defers=[]/\∃v,(results fn a'.tmps).run P w'=.ok v w' /\
  ∃v' σ2,Ending.returned v=.returned v'/\SI M res v' σ2 w'/\Zm=pts.map λx=>(x.1,(eU σ2.ce x.1).getD []):=by
  rintro⟨r,σ2⟩ hr he;obtain⟨vs,ys,G2,hrun,hg,hl,hok,hrv⟩:=QB (qs':=fn.results.toList) ZD (by simpa using XU) (λk h h'=>by have:=Y1 k h (by simpa using h');simpa using this) hr
  injection he with he
  injection he with he1 he2
  subst he1;subst he2;refine⟨hd,qo r.2 ys,?_,qo r.2 ys,σ2,rfl,.inl ⟨ys,a'.tmps,G2,rfl,by simpa using hg.1,hok⟩,rfl⟩;unfold results;rw[Array.mapM_eq_mapM_toList];simp only[Sem.run_bind,Sem.run_map]
  erw[hrun]
  unfold qo;rw[hrv]
  cases vs with
  | nil=>rfl
  | cons v vs=>
   cases vs with
   | nil=>rfl
   | cons v2 vs=>rfl
 have key:∀y,(resF tf.np tf.res).run σ1=some y->some ((⟨y.1.1,y.1.2⟩:Ld),pts.map λx=>(x.1,(eU y.2.ce x.1).getD []))=some (res,Zm)->a'.defers=[]/\∃v,(results fn a'.tmps).run P w'=.ok v w' /\
  ∃v' σ2,Ending.returned v=.returned v'/\SI M res v' σ2 w'/\Zm=pts.map λx=>(x.1,(eU σ2.ce x.1).getD []):=by
  intro y hr he;unfold resF at hr;split at hr
  ·rename_i t rs TJ;simp only[SP.run] at hr;split at hr
   ·rename_i p vs htv;obtain⟨_,σ2,h3,h4⟩:=dK hr;have e1:σ2=σ1:=(eF h3).1;have e2:=(eF h3).2;subst e1;obtain⟨fl,σ3,h5,h6⟩:=dK h4;simp only[SP.run,oSJ] at h6;subst h6
    injection he with he
    injection he with he1 he2
    subst he1;subst he2;have Zl:=ZD.tmr t;rw[htv] at Zl
    obtain⟨q0,qs',hrs⟩:∃q0 qs',fn.results.toList=q0 :: qs':=by
     have hlen:fn.results.toList.length=rs.length+1:=by rw[Array.length_toList,<- XU,TJ];rfl
     cases hl:fn.results.toList with
     | nil=>rw[hl] at hlen;simp at hlen
     | cons q0 qs'=>exact⟨q0,qs',rfl⟩
    have Vj:∀(L:List TRs) (L':List ResultVar),tf.res=L->fn.results.toList=L'->∀k (h:k < L.length) (h':k < L'.length),IK P L[k] L'[k]:=by
     rintro _ _ rfl rfl k h h';have:=Y1 k h (by simpa using h');simpa using this
    have hq0:q0=.tmp t:=Vj _ _ TJ hrs 0 (by simp) (by simp)
    have hlen2:rs.length=qs'.length:=by
     have h7:fn.results.toList.length=rs.length+1:=by rw[Array.length_toList,<- XU,TJ];rfl
     rw[hrs] at h7;simpa using h7.symm
    obtain⟨rfl,ZP,hrun⟩:=Nb (qs':=qs') ZD hlen2 (λk h h'=>Vj _ _ TJ hrs (k+1) (by simpa using h) (by simpa using h')) h5
    have Xk:(fn.results.toList.mapM λ(q:ResultVar)=>(match q with | .tmp t=>(pure (a'.tmps.getD t undef):Sem Value) | .cell a t=>do loadVar t (<- asAddr (a'.tmps.getD a undef)))).run P w'=.ok (a'.tmps.getD t undef :: fl.map unV) w':=by
     rw[hrs,hq0,List.mapM_cons,Sem.run_bind];show Result.andThen (.ok (a'.tmps.getD t undef) w') _=_;simp only[Result.andThen_ok,Sem.run_bind];refine (congrArg (λr=>Result.andThen r _) hrun).trans ?_;simp
    generalize a'.tmps.getD t undef=z at Zl Xk
    cases Zl with
    | ptr V0 h0 hv hok=>
     have hp:=hok e2;refine⟨hd,Ct z (fl.map unV),?_,Ct z (fl.map unV),σ3,rfl,.inr ⟨p,vs,fl,z,a'.tmps,G',rfl,⟨_,rfl⟩,ZP,rfl,ZD,hp⟩,rfl⟩;unfold results;rw[Array.mapM_eq_mapM_toList];simp only[Sem.run_bind,Sem.run_map]
     erw[Xk]
     cases fl with
     | nil=>rfl
     | cons y l=>rfl
   ·exact W5 y (by rw[TJ];exact hr) he
  ·exact W5 y hr he
 cases e with
 | exit i=>simp at h2
 | normal=>
  simp only at h2;obtain⟨y,h3,h4⟩:=dZ h2;exact key y h3 h4
 | ret=>
  simp only at h2;obtain⟨y,h3,h4⟩:=dZ h2;exact key y h3 h4
theorem NT(hT:NB P T) (hE:NH P E) (hB:mS P B) (hF:mS P F) (n:Nat):mS P (J3 E T B F n):=by
 intro f vals pts res Zm h;unfold J3 at h
 cases ht:T f with
 | none=>rw[ht] at h;exact hB f vals pts res Zm h
 | some tf=>
  rw[ht] at h;simp only[runT] at h;split at h
  case isFalse=>simp at h
  rename_i hnp;obtain⟨hnp,J'⟩:=hnp;simp only[oBA] at J';obtain⟨hpp,hpe⟩:=J';obtain⟨⟨e,σ1⟩,h1,h2⟩:=dZ h;obtain⟨fn,c,hf,Vc,hb,hnt,X8,XN,XU,Y1⟩:=hT f tf ht;refine⟨GW hf Vc hb,tf.nt,by omega,λM asq w G hal hN hw0 YE hI=>?_⟩;refine calls_of_wp hf hb ?_
  have hN2:fn.ntmps - asq.toArray.size=tf.nt - asq.length:=by rw[hnt];simp
  rw[hN2]
  have M':∀r,M.pr r≠none->∃i∈tf.pp,r=2*i+2:=λr hr=>by obtain⟨i,p,vs,h3,h4⟩:=YE r hr;exact⟨i,by simpa using Ms hpp i p vs h3,h4⟩
  rcases XN with XN | ⟨c1,c2,c3,c4,c5,⟨sz,b,bytes,mv,fl,id,c6⟩,rest,Zd,XN⟩
  ·exact Ja (Jb hE hF) n tf.body c _ e σ1 ⟨asq.toArray++Array.replicate (tf.nt - asq.length) undef,[]⟩ w G _ (XN M hN M') h1 hI λa' w' G' ZD hd=>IH XU Y1 ZD hd h2
  ·
   obtain⟨v0,rfl⟩:∃v,vals=[v]:=List.length_eq_one_iff.1 (by rw[hnp,c1]);obtain⟨x0,rfl⟩:∃x,asq=[x]:=List.length_eq_one_iff.1 (by rw[hal];rfl)
   have hp0:pts=[]:=by rw[c2] at hpe;simpa using hpe
   subst hp0
   obtain⟨l0,rfl⟩:∃l,v0=.sl l:=by
    rw[c2] at hpp;cases v0<;>simp[pD] at hpp;exact⟨_,rfl⟩
   have hv:=hI.tmr 0;have e0:(mkSt [TV.sl l0] ([]:Pts)).t 0=.sl l0:=rfl
   have e1:(#[x0]++Array.replicate (tf.nt - 1) undef).getD 0 undef=x0:=by simp[Array.getD_eq_getD_getElem?,Array.getElem?_append]
   have hv:TmR w (G.F M.A) (mkSt [TV.sl l0] ([]:Pts)).v (eS M (mkSt [TV.sl l0] ([]:Pts)) []) G (.sl l0) x0:=by
    have:=hI.tmr 0;rw[e0] at this;rw[show ([x0]:List Value).toArray=#[x0] from rfl,show ([x0]:List Value).length=1 from rfl,e1] at this;exact this
   cases hv with
   | sl hs=>
    cases hs with
    | @sl _ ad cap zz u hsz hcap hmax hnil0 hcell hrec=>
     have hdead:∀(H:List TV) (xs:List Value) (ts:Array Value) (d:Nat) (v:Value),0 < d->Inv M (mkSt [TV.sl l0] []) H xs ts w G->Inv M (mkSt [TV.sl l0] []) H xs (ts.setIfInBounds d v) w G:=by
      intro H xs ts d v hd hI;refine⟨hI.core,λi=>?_,hI.fram,hI.keys,by rw[Array.size_setIfInBounds];exact hI.size,hI.hand,hI.hval,hI.shape⟩;by_cases hi:i=d
      ·subst hi
       have:(mkSt [TV.sl l0] ([]:Pts)).t i=.dead:=by
        simp[St.t,mkSt,it,eU,show ¬ 0=i by omega]
       rw[this];exact .dead
      ·have:(ts.setIfInBounds d v).getD i undef=ts.getD i undef:=by simp[Array.getD_eq_getD_getElem?,Array.getElem?_setIfInBounds,Ne.symm hi]
       rw[this];exact hI.tmr i
     refine Pe Zd (ad:=ad) (n:=l0.length) (cap:=cap) (by simp[Array.getD_eq_getD_getElem?,Array.getElem?_append]) (by simp[c3]) (λZc=>?_) (λ_=>?_)
     ·have WV:=hdead _ _ _ 4 (.bool true) (by decide) (hdead _ _ _ 3 (.slice ad l0.length cap) (by decide) (hdead _ _ _ 2 (.slice none 0 0) (by decide) hI));subst Zc;have Va:=hnil0 rfl;have Wu:l0=[]:=oEN (by omega);subst Wu;have U8:=WV.wrT (d:=2) (by omega) (t:=.ow []) (x:=.slice none 0 0) .nil;have hrun:=IE c5;rw[c6,<- K2 (evCall E F) n,<- c6] at hrun;unfold G9 at hrun;rw[h1] at hrun;simp only[oBS] at hrun h2
      have TC:res=⟨[.ow []],[.one]⟩/\Zm=[]:=by
       cases e with
       | exit i=>simp at hrun
       | normal=>
        simp only[c1,c4] at h2;simp only at hrun;obtain⟨y,hy,Xl⟩:=jm hrun;rw[hy] at h2;simp only[oBS,oSJ,oPJ] at h2;rw[Xl] at h2;exact⟨h2.1.symm,by simpa using h2.2.symm⟩
       | ret=>
        simp only[c1,c4] at h2;simp only at hrun;obtain⟨y,hy,Xl⟩:=jm hrun;rw[hy] at h2;simp only[oBS,oSJ,oPJ] at h2;rw[Xl] at h2;exact⟨h2.1.symm,by simpa using h2.2.symm⟩
      obtain⟨rfl,rfl⟩:=TC
      have h5:SD tf [] (.ret,{ mkSt [TV.sl []] ([]:Pts) with tm:=gV (mkSt [TV.sl []] ([]:Pts)).tm 2 (.ow []) })=some (⟨[.ow []],[.one]⟩,[]):=by
       unfold SD;simp only[c1,c4];rfl
      obtain⟨T,hT⟩:∃T:Array Value,T=(AW ([Value.slice none ([]:List (List TV)).length cap].toArray++Array.replicate (tf.nt - [Value.slice none ([]:List (List TV)).length cap].length) undef) (.slice none ([]:List (List TV)).length cap) true).setIfInBounds 2 (.slice none 0 0):=⟨_,rfl⟩;have WO:=U8;unfold AW at hT;rw[<- hT] at WO;have h7:=IH (tf:=tf) (fn:=fn) (P:=P) (pts:=[]) (e:=.ret) (a':=⟨T,[]⟩) (w':=w) (G':=G) XU Y1 WO rfl h5;rw[hT] at h7;exact h7
     ·have ZH:=hdead _ _ _ 4 (.bool false) (by decide) (hdead _ _ _ 3 (.slice ad l0.length cap) (by decide) (hdead _ _ _ 2 (.slice none 0 0) (by decide) hI));exact Ja (Jb hE hF) n tf.body rest _ e σ1 ⟨AW _ (.slice ad l0.length cap) false,[]⟩ w G _ (XN M hN M') h1 ZH λa' w' G' ZD hd=>IH XU Y1 ZD hd h2
theorem runF_ok(hT:NB P T) (hE:NH P E) (hB:mS P B):∀n,mS P (runF E T B n):=by
 intro n
 induction n with
 | zero=>intro f vals pts res Zm h;simp[runF] at h
 | succ n ih=>exact NT hT hE hB ih n
end
def tY(P:Program) (own:Nat->Bool):Nat->List TypeId->List Operand->Option (List (Option Nat×Opd))
 | _,_,[]=>some []
 | i,ts,x :: xs=>
  match dV x,tY P own (i+1) ts.tail xs with
  | some y,some l=>
   match ts with
   | t :: _=>match P.underlying t with
    | some (.pointer e)=>match Cl P e with
     | some n=>some ((some n,y) :: l)
     | none=>none
    | some (.slice _)=>some ((if own i then some 0 else none,y) :: l)
    | _=>some ((none,y) :: l)
   | []=>some ((none,y) :: l)
  | _,_=>none
def R5(P:Program) (t:TypeId):Bool:=match P.underlying t with
 | some (.int _)=>true
 | some .bool=>true
 | some .string=>true
 | some (.struct _)=>(ur P 50 t).isSome
 | _=>false
def ML(P:Program) (fn:Func):Bool:=fn.resultTypes.toList.all (R5 P) && fn.params.toList.all λt=>match P.underlying t with | some (.pointer _)=>false | _=>true
def ms:Code->List Oper
 | .region _ ops _=>ops.toList
 | .seq a b=>ms a++ms b
 | .cond _ a b=>ms a++ms b
 | .block _ b=>ms b
 | .loop b=>ms b
 | _=>[]
def PI(ops:List Oper) (j:Nat):Option Operand->Bool
 | some (.tmp t)=>t==j || ops.any λo=>o.dst==some t && match o.op with | .move (.tmp u)=>u==j | _=>false
 | _=>false
def R3(P:Program):Nat->Func->Nat->Bool
 | 0,_,_=>false
 | n+1,fn,j=>match fn.body with
  | some c=>(ms c).any λo=>match o.op with
   | .call ⟨.builtin .append,args,_⟩=>PI (ms c) j args[0]?
   | .call ⟨.value (.func g),args,_⟩=>match P.funcs[g]? with
    | some fg=>args.toList.zipIdx.any λx=>PI (ms c) j (some x.1) && R3 P n fg x.2
    | none=>false
   | _=>false
  | none=>false
def zy(P:Program):Op->Option TOp
 | .call ⟨.value (.func f),args,_⟩=>
  match P.funcs[f]? with
  | some fn=>(tY P (R3 P 3 fn) 0 fn.params.toList args.toList).map λl=>.call (!ML P fn) (.f f) l
  | none=>none
 | .call ⟨.value (.tmp i),args,tys⟩=>(tY P (λ_=>false) 0 tys.toList args.toList).map λl=>.call true (.t i) l
 | _=>none
def Iv(mv:Nat):TOp->TOp
 | .call k f args=>.call k f (if 10<=mv then args.map λx=>(x.1.map λn=>min n (mv - 10),x.2) else args)
 | t=>t
def sZ(P:Program) (mv:Nat) (op:Op):TOp:=
 match iq P mv op with
 | some t=>t
 | none=>match zy P op with
  | some t=>Iv mv t
  | none=>Ra
def Sc(pp:List Nat) (nt:Nat):Option Nat->Bool
 | some d=>decide (d < nt) && !pp.contains d
 | none=>true
def EJ(P:Program) (pp:List Nat) (nt:Nat) (ops:Array Oper) (mv:Nat) (o:Oper):Option j3:=
 if Sc pp nt o.dst then
  match o.guard with
  | none=>some ⟨o.dst,none,sZ P mv o.op⟩
  | some (j,want)=>match (ops[j]?).bind (·.dst) with
   | some d=>some ⟨o.dst,some (d,want),sZ P mv o.op⟩
   | none=>none
 else none
def qB(P:Program) (pp:List Nat) (nt:Nat) (ops:Array Oper):List Nat->List Oper->Option (List j3)
 | _,[]=>some []
 | m,o :: r=>match EJ P pp nt ops (m.headD 0) o,qB P pp nt ops m.tail r with
  | some t,some l=>some (t :: l)
  | _,_=>none
def GY:List Oper->List (List Nat)->List (List Nat)
 | [],acc=>acc
 | o :: r,acc=>GY r (acc++[((o.after.toList.filter (Region.binds .any)).flatMap λe=>e.on :: acc.getD e.on []).eraseDups])
def EE(ops:List Oper) (deps:List (List Nat)):Nat->Bool
 | 0=>true
 | i+1=>EE ops deps i && match ops[i]? with
  | some o=>(o.after.toList.all λe=>!Region.binds .any e || decide (e.on < i)) && ((deps.getD i []).all λj=>o.after.toList.any λe=>Region.binds .any e && (e.on==j || (deps.getD e.on []).contains j))
  | none=>true
def EK(P:Program) (ops:Array Oper) (tops:List j3) (draw:Bool):Option (Option (List (List Nat))):=
 if draw then
  if P.follows .mixedOrders && EE ops.toList (GY ops.toList []) ops.size then
   if Co (GY ops.toList []) tops (List.range tops.length) then some none else some (some (GY ops.toList []))
  else none
 else some none
def xk:Code->Option Nat
 | .region id _ _=>some id
 | .seq _ b=>xk b
 | .cond _ a b=>match xk b with | some i=>some i | none=>xk a
 | .block _ b=>xk b
 | _=>none
def IZ(pers:Nat->Prs) (a:Code) (l:List (Nat×Option Nat)):ma->ma
 | .skip=>match xk a with
  | some i=>.nrm (pers i)
  | none=>match l with
   | []=>.skip
   | _ :: _=>.nrm (l.filterMap λx=>match x.2 with | none=>some x.1 | some _=>none,l.filterMap (·.2))
 | t=>t
def Se:Operand->Nat
 | .tmp t=>2000000+t
 | _=>2000000
def xR:Code->Nat
 | .seq a b=>xR a+xR b
 | .cond _ a b=>xR a+xR b
 | .block _ b=>xR b
 | .loop b=>xR b+1
 | _=>0
def RF(nt:Nat) (l:List (Nat×Option Nat)):Bool:=l.all λy=>decide (y.1 < nt)
def Sz(nt:Nat) (l:List (Nat×Option Nat)) (a:ma):ma:=match l with | []=>a | _ :: _=>if RF nt l then .pre l a else a
def Oz(nt:Nat) (l:List (Nat×Option Nat)) (a:ma):ma:=match l with | []=>a | _ :: _=>if RF nt l then .post a l else a
def ic(P:Program) (pp:List Nat) (nt:Nat) (mv:Nat->List Oper->Bool->List Nat) (pers:Nat->Prs) (H:Nat->List (Nat×Option Nat)):Code->Nat->Option ma
 | .skip,_=>some .skip
 | .region id ops draw,_=>match qB P pp nt ops (mv id ops.toList draw) ops.toList with
  | some l=>match EK P ops l draw with
   | some d=>some (Sz nt (H (3000000+id)) (.reg id d l (pers id)))
   | none=>none
  | none=>none
 | .seq a b,i=>match ic P pp nt mv pers H a i,ic P pp nt mv pers H b (i+xR a) with
  | some x,some y=>some (.seq x y)
  | _,_=>none
 | .cond c a b,i=>match dV c,ic P pp nt mv pers H a i,ic P pp nt mv pers H b (i+xR a) with
  | some k,some x,some y=>some (.cond k (IZ pers b (H (Se c)) x) (IZ pers a (H (Se c)) y))
  | _,_,_=>none
 | .block id b,i=>(ic P pp nt mv pers H b i).map (.block id)
 | .loop b,i=>(ic P pp nt mv pers H b (i+1)).map λx=>Sz nt (H (i+1)) (.loop (Oz nt (H (i+1)) x))
 | .exit id,_=>some (.exit id)
 | .ret,_=>some .ret
 | _,_=>none
def rx(P:Program):List ResultVar->Option (List TRs)
 | []=>some []
 | .tmp t :: r=>(rx P r).map (.tmp t :: ·)
 | .cell t ty :: r=>match Fs P ty,rx P r with
  | some n,some l=>some (.cell t n :: l)
  | _,_=>none
def EX(l:List Operand):List Nat:=l.filterMap λx=>match x with | .tmp t=>some t | _=>none
def QA(l:List ResultVar):List Nat:=l.map λr=>match r with | .tmp t=>t | .cell t _=>t
def MF:Op->Bool
 | .load _ _=>true
 | .move (.tmp _)=>true
 | .field _ _ _=>true
 | .fieldAddr _ _ _=>true
 | .indexAddr _ _ _=>true
 | .slice _ _ _ _ _=>true
 | .nilCheck _=>true
 | .extract _ _=>true
 | .pick _ _ _=>true
 | _=>false
def tJ(l:List Nat):Nat:=l.foldl (λb i=>b ||| (1 <<< i)) 0
def Pz(nt b:Nat):List Nat:=(List.range nt).filter λi=>b.testBit i
def Sd(b i:Nat):Nat:=if b.testBit i then b - (1 <<< i) else b
def M7(ops:List Oper) (o:Oper):List Nat:=match o.guard with | some (j,_)=>((ops[j]?).bind (·.dst)).toList | none=>[]
def HP(ops:List Oper):List Oper->Nat->Nat
 | [],out=>out
 | o :: r,out=>
  let b:=HP ops r out
  (match o.dst with | some d=>Sd b d | none=>b) ||| tJ (EX o.op.operands.toList++M7 ops o)
def Dm(rt:Nat):Code->Nat->List (Nat×Nat)->Nat×List (Nat×Nat)
 | .region id ops _,out,_=>(HP ops.toList ops.toList out,[(id,out)])
 | .seq a b,out,ex=>let y:=Dm rt b out ex;let x:=Dm rt a y.1 ex;(x.1,x.2++y.2)
 | .cond c a b,out,ex=>let x:=Dm rt a out ex;let y:=Dm rt b out ex;(x.1 ||| y.1 ||| tJ (EX [c]),x.2++y.2)
 | .block id b,out,ex=>Dm rt b out ((id,out) :: ex)
 | .loop b,_,ex=>let l:=(Dm rt b 0 ex).1;Dm rt b l ex
 | .exit id,_,ex=>((eU ex id).getD 0,[])
 | .ret,_,_=>(rt,[])
 | _,out,_=>(out,[])
def MW(P:Program) (t:TypeId):Bool:=match P.underlying t with | some (.pointer _)=>true | _=>false
def De(P:Program) (b:Nat) (o:Oper):Nat:=
 match o.dst with
 | some d=>
  if (match o.op with
   | .box _ _=>true
   | .alloc _=>true
   | .fieldAddr _ _ _=>true
   | .indexAddr _ _ _=>true
   | .nilCheck _=>true
   | .load t _=>MW P t
   | .move (.tmp s)=>b.testBit s
   | .assign (.tmp s)=>b.testBit s
   | .call ⟨.value (.func f),_,_⟩=>match P.funcs[f]? with | some fn=>fn.resultTypes.toList.map (MW P)==[true] | none=>false
   | _=>false) then b ||| (1 <<< d) else b
 | none=>b
def Ny(b:Nat) (o:Oper):List (Nat×Nat):=
 match o.dst with
 | some d=>if MF o.op then (EX o.op.operands.toList).map λs=>(d,s) else match o.op with
  | .assign (.tmp s)=>if b.testBit s then [(d,s)] else []
  | _=>[]
 | none=>[]
def Rh(P:Program) (pp:List Nat) (c:Code):List (Nat×Nat):=
 let ops:=ms c
 let b:=ops.foldl (De P) (ops.foldl (De P) (tJ pp))
 ops.flatMap (Ny b)
def SQ(o:Oper):Bool:=match o.op with
 | .extract _ _=>true
 | _=>false
def Pm(P:Program) (pp:List Nat) (c:Code):List (Nat×Nat):=
 let ops:=ms c
 let b:=ops.foldl (De P) (ops.foldl (De P) (tJ pp))
 (ops.filter λo=>!SQ o).flatMap (Ny b)
def CN(al:List (Nat×Nat)) (b:Nat):Nat:=al.foldr (λx b=>if b.testBit x.1 then b ||| (1 <<< x.2) else b) b
def Qz(l:List Nat):List Nat:=l.flatMap λi=>[2*i+2,2*i+3]
def P0:Op->List Operand
 | .store _ _ x=>[x]
 | .call ⟨.builtin .append,args,_⟩=>args.toList.tail
 | op=>op.operands.toList
def S6(el:Nat) (al:List (Nat×Nat)) (after:Nat) (o:Oper):Bool:=
 let live:=CN al (CN al after)
 (EX (P0 o.op)).all λt=>!el.testBit t && (CN al (CN al (1 <<< t))) &&& live==0
def RT(el:Nat) (al:List (Nat×Nat)) (ops:List Oper) (out:Nat):List Oper->List Bool
 | []=>[]
 | o :: r=>S6 el al (HP ops r out) o :: RT el al ops out r
def JD(b:Nat) (o:Oper):Nat:=
 match o.dst with
 | some d=>
  if (match o.op with
   | .indexAddr _ _ _=>true
   | .fieldAddr _ (.tmp s) _=>b.testBit s
   | .load _ (.tmp s)=>b.testBit s
   | .nilCheck (.tmp s)=>b.testBit s
   | .move (.tmp s)=>b.testBit s
   | .field _ (.tmp s) _=>b.testBit s
   | _=>false) then b ||| (1 <<< d) else b
 | none=>b
def MG(el:Nat) (al:List (Nat×Nat)) (ops:List Oper) (out:Nat):List (Nat×Oper)->List Bool
 | []=>[]
 | (i,o) :: r=>S6 el al (out ||| tJ ((ops.zipIdx.filter λx=>x.2 != i).flatMap λx=>EX x.1.op.operands.toList)) o :: MG el al ops out r
def Tf(P:Program) (pp:List Nat) (c:Code) (res:List Nat):Nat->List Oper->Bool->List Bool:=
 let tb:=(Dm (tJ res) c (tJ res) []).2
 let al:=Pm P pp c
 let ppb:=tJ pp
 let el:=(ms c).foldl JD ((ms c).foldl JD 0)
 λid ops draw=>
  let out:=((eU tb id).getD 0) ||| ppb
  if draw then MG el al ops out (ops.zipIdx.map λx=>(x.2,x.1)) else RT el al ops out ops
def RQ(P:Program) (pp:List Nat) (nt:Nat) (c:Code) (res:List Nat):Nat->Prs:=
 let tb:=(Dm (tJ res) c (tJ res) []).2
 let al:=Rh P pp c
 let ppb:=tJ pp
 λid=>
  let b:=((eU tb id).getD 0) ||| ppb
  (Pz nt b,Qz (Pz nt (CN al (CN al b))))
def zZ(P:Program):Nat->List TypeId->List Nat
 | _,[]=>[]
 | i,t :: r=>match P.underlying t with
  | some (.pointer _)=>i :: zZ P (i+1) r
  | _=>zZ P (i+1) r
def mvH(H:Nat->List (Nat×Option Nat)) (mv:Nat->List Oper->Bool->List Bool):Nat->List Oper->Bool->List Nat:=
 λid ops draw=>match H (1000000+id) with
  | []=>(mv id ops draw).map λb=>if b then 1 else 0
  | l=>(mv id ops draw).zipIdx.map λx=>match l.find? λy=>y.1==x.2 with
   | some y=>y.2.getD 0
   | none=>if x.1 then 1 else 0
def AX(P:Program):Code->Option Code
 | .seq (.region _ a0 false) (.seq (.seq (.region _ a1 false) (.cond (.tmp 4) (.seq (.region _ a2 false) .ret) .skip)) rest)=>
  match a0.toList,a1.toList,a2.toList with
  | [⟨some 2,.assign (.const (.slice none 0 0)),_,_,_,none⟩],[⟨some 3,.move (.tmp 0),_,_,_,none⟩,⟨some 4,.binOp .eql ty (.tmp 3) (.const (.slice none 0 0)) _,_,_,_,none⟩],[⟨some 2,.assign (.const (.slice none 0 0)),_,_,_,none⟩]=>
   match P.underlying ty with
   | some (.slice _)=>some rest
   | _=>none
  | _,_,_=>none
 | _=>none
def AU(P:Program) (fn:Func) (c:Code):Option TFn:=
 match AX P c with
 | some (.seq (.region id ops false) .ret)=>
  match qB P [1000] 8 ops [0,0,0,1] ops.toList with
  | some [⟨some 5,none,.bsl sz b 0 []⟩,⟨some 6,none,.mov (.t 0)⟩,⟨some 7,none,.app sz2 bytes mv fl (.t 5) (.t 6)⟩,⟨some 2,none,.asn true (.t 7)⟩]=>
   if sz2=sz/\zA (Ha sz b bytes mv fl id)=true/\fn.params.size=1/\fn.ntmps=8 then
    match rx P fn.results.toList with
    | some [.tmp 2]=>some ⟨1,[1000],8,Ha sz b bytes mv fl id,[.tmp 2]⟩
    | _=>none
   else none
  | _=>none
 | _=>none
def xB(P:Program) (H:Nat->List (Nat×Option Nat)) (f:FuncId):Option TFn:=
 match P.funcs[f]? with
 | some fn=>
  match fn.body with
  | some c=>
   match AU P fn c with
   | some tf=>some tf
   | none=>
   let np:=fn.params.size+fn.nfree
   let pp:=zZ P 0 fn.params.toList++(List.range fn.nfree).map (fn.params.size + ·)
   let rt:=QA fn.results.toList
   let pers:=RQ P pp fn.ntmps c rt
   match ic P pp fn.ntmps (mvH H (Tf P pp c rt)) pers H c 0,rx P fn.results.toList with
   | some tc,some rs=>some ⟨np,pp,fn.ntmps,Oz fn.ntmps (H 0) tc,rs⟩
   | _,_=>none
  | none=>none
 | none=>none
section
variable {P:Program} {M:Fm} {pp:List Nat} {nt:Nat}
theorem CM:∀{qs:List ResultVar}{l:List TRs},rx P qs=some l->l.length=qs.length/\∀k (h:k < l.length) (h':k < qs.length),IK P l[k] qs[k]:=by
 intro qs
 induction qs with
 | nil=>
  intro l h;simp only[rx,oSJ] at h;subst h;exact⟨rfl,λk h=>by simp at h⟩
 | cons q qs ih=>
  intro l h
  cases q with
  | tmp t=>
   simp only[rx] at h;obtain⟨l',h1,rfl⟩:=jm h;obtain⟨e,h2⟩:=ih h1;refine⟨by simp[e],λk hk YL=>?_⟩
   cases k with
   | zero=>exact rfl
   | succ k=>exact h2 k (by simpa using hk) (by simpa using YL)
  | cell t ty=>
   simp only[rx] at h;split at h
   ·rename_i n l' h1 h2
    injection h with h
    subst h;obtain⟨e,h3⟩:=ih h2;refine⟨by simp[e],λk hk YL=>?_⟩
    cases k with
    | zero=>exact⟨ty,rfl,Ad h1⟩
    | succ k=>exact h3 k (by simpa using hk) (by simpa using YL)
   ·simp at h
theorem AV{own:Nat->Bool}:∀{xs:List Operand}{i:Nat}{ts:List TypeId}{l:List (Option Nat×Opd)},tY P own i ts xs=some l->l.length=xs.length/\∀j (h:j < l.length) (h':j < xs.length),dV xs[j]=some l[j].2:=by
 intro xs
 induction xs with
 | nil=>
  intro i ts l h;simp only[tY,oSJ] at h;subst h;exact⟨rfl,λk h=>by simp at h⟩
 | cons x xs ih=>
  intro i ts l h;simp only[tY] at h;split at h
  ·rename_i y l' h1 h2;obtain⟨e,h3⟩:=ih h2
   obtain⟨n,rfl⟩:∃n,l=(n,y) :: l':=by
    (repeat' split at h)<;>first | (injection h with h;exact⟨_,h.symm⟩) | simp at h
   refine⟨by simp[e],λj hj ZR=>?_⟩
   cases j with
   | zero=>exact h1
   | succ j=>exact h3 j (by simpa using hj) (by simpa using ZR)
  ·simp at h
theorem ID{op:Op}{t:TOp}(h:zy P op=some t):sV op t:=by
 unfold zy at h;split at h
 ·rename_i f args tys;split at h
  ·obtain⟨l,h1,rfl⟩:=jm h;obtain⟨e,h2⟩:=AV h1;exact⟨rfl,by simpa using e,λj hj ZR=>by have:=h2 j hj (by simpa using ZR);simpa using this⟩
  ·simp at h
 ·rename_i i args tys;obtain⟨l,h1,rfl⟩:=jm h;obtain⟨e,h2⟩:=AV h1;exact⟨rfl,by simpa using e,λj hj ZR=>by have:=h2 j hj (by simpa using ZR);simpa using this⟩
 ·simp at h
theorem KW{mv:Nat}{op:Op}{t:TOp}(h:sV op t):sV op (Iv mv t):=by
 unfold Iv;split
 ·rename_i k f args;split
  ·cases op with
   | call c=>
    obtain⟨callee,asq,tys⟩:=c
    cases callee with
    | value fo=>
     obtain⟨h1,h2,h3⟩:=h;exact⟨h1,by simpa using h2,λj hj ZR=>by simpa using h3 j (by simpa using hj) ZR⟩
    | _=>exact h
   | _=>exact h
  ·exact h
 ·exact h
theorem Iz{ops:Array Oper}{mv:Nat}{o:Oper}{t:j3}(hN:M.N=nt) (YE:∀r,M.pr r≠none->∃i∈pp,r=2*i+2) (h:EJ P pp nt ops mv o=some t):yO P M lQ ops o t:=by
 unfold EJ at h;split at h
 case isFalse=>simp at h
 rename_i hd
 have Yy:∀d,o.dst=some d->d < M.N/\M.pr (2*d+2)=none:=λd e=>by
  rw[e] at hd;simp only[Sc,oBA,oDE,Bool.not_eq_true',List.contains_eq_mem,decide_eq_false_iff_not] at hd;refine⟨by rw[hN];exact hd.1,?_⟩
  cases hp:M.pr (2*d+2) with
  | none=>rfl
  | some x=>
   obtain⟨i,hi,e2⟩:=YE (2*d+2) (by rw[hp];simp);have e3:d=i:=Nat.eq_of_mul_eq_mul_left (by decide:0 < 2) (Nat.add_right_cancel e2);rw[<- e3] at hi;exact absurd hi hd.2
 have E':(∃mv',iq P mv' o.op=some (sZ P mv o.op))\/lQ o.op (sZ P mv o.op):=by
  unfold sZ
  cases h1:iq P mv o.op with
  | some t1=>exact .inl ⟨mv,h1⟩
  | none=>
   cases h2:zy P o.op with
   | some t1=>exact .inr (.inr (KW (ID h2)))
   | none=>exact .inr (.inl rfl)
 split at h
 ·rename_i hg
  injection h with h
  subst h;exact⟨rfl,Yy,.inl ⟨hg,rfl⟩,E'⟩
 ·rename_i j want hg;split at h
  ·rename_i d hj
   injection h with h
   subst h;exact⟨rfl,Yy,.inr ⟨j,want,d,hg,rfl,hj⟩,E'⟩
  ·simp at h
theorem yi{ops:Array Oper}(hN:M.N=nt) (YE:∀r,M.pr r≠none->∃i∈pp,r=2*i+2):∀{l:List Oper}{mv:List Nat}{ts:List j3},qB P pp nt ops mv l=some ts->ts.length=l.length/\∀i (h:i < l.length) (h':i < ts.length),yO P M lQ ops l[i] ts[i]:=by
 intro l
 induction l with
 | nil=>
  intro mv ts h;simp only[qB,oSJ] at h;subst h;exact⟨rfl,λk h=>by simp at h⟩
 | cons o l ih=>
  intro mv ts h;simp only[qB] at h;split at h
  ·rename_i t l' h1 h2
   injection h with h
   subst h;obtain⟨e,h3⟩:=ih h2;refine⟨by simp[e],λj hj ZR=>?_⟩
   cases j with
   | zero=>exact Iz hN YE h1
   | succ j=>exact h3 j (by simpa using hj) (by simpa using ZR)
  ·simp at h
theorem CL{ops:List Oper}{deps:List (List Nat)}:∀{n:Nat},EE ops deps n=true->∀i,i < n->∀(h:i < ops.length),(∀e∈ops[i].after.toList,Region.binds .any e=true->e.on < i)/\∀j∈deps.getD i [],∃e∈ops[i].after.toList,Region.binds .any e=true/\(e.on=j\/j∈deps.getD e.on []):=by
 intro n
 induction n with
 | zero=>intro _ i hi;omega
 | succ n ih=>
  intro h i hi hl;simp only[EE,oBA] at h;by_cases e:i < n
  ·exact ih h.1 i e hl
  ·obtain rfl:i=n:=by omega
   have h2:=h.2;rw[oGE hl] at h2;simp only[oBA,List.all_eq_true,List.any_eq_true,Bool.or_eq_true,Bool.not_eq_true',oDE,beq_iff_eq,List.contains_eq_mem] at h2;refine⟨λe he hb=>?_,λj hj=>?_⟩
   ·rcases h2.1 e he with h3 | h3
    ·rw[hb] at h3;simp at h3
    ·exact h3
   ·obtain⟨e,he,h3,h4⟩:=h2.2 j hj;exact⟨e,he,h3,h4⟩
def Sw(P:Program) (ops:Array Oper) (tops:List j3) (draw:Bool) (d:Option (List (List Nat))):Prop:=match d with
 | some deps=>draw=true/\Bg ops deps/\P.follows .mixedOrders=true
 | none=>draw=true->∃deps,Bg ops deps/\P.follows .mixedOrders=true/\Co deps tops (List.range tops.length)=true
theorem IB{ops:Array Oper}{tops:List j3}{draw:Bool}{d:Option (List (List Nat))}(h:EK P ops tops draw=some d):Sw P ops tops draw d:=by
 unfold EK at h;split at h
 ·rename_i hd;split at h
  case isFalse=>simp at h
  rename_i hc;simp only[oBA] at hc
  have hD:Bg ops (GY ops.toList []):=by
   refine⟨λi hi e he hb=>?_,λi hi j hj=>?_⟩
   ·exact (CL hc.2 i hi (by simpa using hi)).1 e (by simpa using he) hb
   ·obtain⟨e,he,h3⟩:=(CL hc.2 i hi (by simpa using hi)).2 j hj;exact⟨e,by simpa using he,h3⟩
  split at h
  ·rename_i hs
   injection h with h
   subst h;exact λ_=>⟨_,hD,hc.1,hs⟩
  ·injection h with h
   subst h;exact⟨hd,hD,hc.1⟩
 ·rename_i hd
  injection h with h
  subst h;exact λh'=>absurd h' (by simpa using hd)
theorem E3{isCall:Op->TOp->Prop}{pers:Nat->Prs}{a c:Code}{l:List (Nat×Option Nat)}{t:ma}(h:jW P M isCall t c):jW P M isCall (IZ pers a l t) c:=by
 cases t with
 | skip=>
  unfold IZ
  cases xk a with
  | some i=>exact h
  | none=>cases l<;>exact h
 | _=>exact h
theorem Mt(hN:M.N=nt) {l:List (Nat×Option Nat)}{x:ma}{c:Code}(h:jW P M lQ x c):jW P M lQ (Sz nt l x) c:=by
 unfold Sz;split
 ·exact h
 ·split
  ·rename_i hl;refine⟨λy hy=>?_,h⟩;have:=List.all_eq_true.1 hl y hy;rw[hN];simpa using this
  ·exact h
theorem Jh(hN:M.N=nt) {l:List (Nat×Option Nat)}{x:ma}{c:Code}(h:jW P M lQ x c):jW P M lQ (Oz nt l x) c:=by
 unfold Oz;split
 ·exact h
 ·split
  ·rename_i hl;refine⟨λy hy=>?_,h⟩;have:=List.all_eq_true.1 hl y hy;rw[hN];simpa using this
  ·exact h
theorem IC{mv:Nat->List Oper->Bool->List Nat}{pers:Nat->Prs}{H:Nat->List (Nat×Option Nat)}(hN:M.N=nt) (YE:∀r,M.pr r≠none->∃i∈pp,r=2*i+2):∀{c:Code}{i:Nat}{tc:ma},ic P pp nt mv pers H c i=some tc->jW P M lQ tc c:=by
 intro c
 induction c with
 | skip=>intro i tc h;simp only[ic,oSJ] at h;subst h;exact rfl
 | exit id=>intro i tc h;simp only[ic,oSJ] at h;subst h;exact rfl
 | ret=>intro i tc h;simp only[ic,oSJ] at h;subst h;exact rfl
 | region id ops draw=>
  intro i tc h;simp only[ic] at h;split at h
  case h_2=>simp at h
  rename_i l h1;split at h
  case h_2=>simp at h
  rename_i d hd
  injection h with h
  subst h;obtain⟨e,h2⟩:=yi hN YE h1;exact Mt hN ⟨id,ops,draw,rfl,by simpa using e,λi hi ZG=>by have:=h2 i (by simpa using hi) ZG;simpa using this,IB hd⟩
 | seq a b Ze Y'=>
  intro i tc h;simp only[ic] at h;split at h
  ·rename_i x y h1 h2
   injection h with h
   subst h;exact⟨a,b,rfl,Ze h1,Y' h2⟩
  ·simp at h
 | cond k a b Ze Y'=>
  intro i tc h;simp only[ic] at h;split at h
  ·rename_i k' x y h1 h2 h3
   injection h with h
   subst h;exact⟨k,a,b,rfl,h1,E3 (Ze h2),E3 (Y' h3)⟩
  ·simp at h
 | block id b ih=>
  intro i tc h;simp only[ic] at h;obtain⟨x,h1,rfl⟩:=jm h;exact⟨b,rfl,ih h1⟩
 | loop b ih=>
  intro i tc h;simp only[ic] at h;obtain⟨x,h1,rfl⟩:=jm h;exact Mt hN ⟨b,rfl,Jh hN (ih h1)⟩
 | _=>intro i tc h;simp[ic] at h
theorem wQ{α:Type}{a:Array α}{l:List α}(h:a.toList=l):a=l.toArray:=by rw[<- h]
theorem G8{c rest:Code}(h:AX P c=some rest):NE P c rest:=by
 unfold AX at h;split at h
 case h_2=>cases h
 rename_i i0 a0 i1 a1 i2 a2 rest';split at h
 case h_2=>cases h
 rename_i t0 s0 f0 t1 s1 f1 ty ty2 t2 s2 f2 t3 s3 f3 e0 e1 e2;split at h
 case h_2=>cases h
 rename_i e hu
 injection h with h
 subst h;exact⟨i0,i1,i2,_,_,_,_,ty,_,e,by rw[wQ e0,wQ e1,wQ e2],⟨rfl,rfl,rfl⟩,⟨rfl,rfl,rfl⟩,⟨rfl,rfl,rfl⟩,⟨rfl,rfl,rfl⟩,hu⟩
theorem yj{fn:Func}{c:Code}{tf:TFn}(h:AU P fn c=some tf):ND P tf c/\tf.nt=fn.ntmps/\tf.np=fn.params.size/\rx P fn.results.toList=some tf.res:=by
 unfold AU at h;split at h
 case h_2=>cases h
 rename_i id ops hr;split at h
 case h_2=>cases h
 rename_i sz b sz2 bytes mv fl hops;split at h
 case isFalse=>cases h
 rename_i hc;obtain⟨rfl,hchk,hp,hn⟩:=hc;split at h
 case h_2=>cases h
 rename_i Y1
 injection h with h
 subst h;refine⟨⟨rfl,rfl,rfl,rfl,hchk,⟨_,_,_,_,_,_,rfl⟩,_,G8 hr,λM hN YE=>?_⟩,hn.symm,hp.symm,Y1⟩;obtain⟨e,h2⟩:=yi (nt:=8) (pp:=[1000]) hN YE hops;exact⟨_,_,rfl,⟨id,ops,false,rfl,by simpa using e,λi hi ZG=>by have:=h2 i (by simpa using hi) ZG;simpa using this,λh=>by cases h⟩,rfl⟩
theorem NS{T:FuncId->Option TFn}(h:∀f tf,T f=some tf->(∃H,xB P H f=some tf)/\tf.np<=tf.nt/\∀fn,P.funcs[f]?=some fn->(fn.name=="runtime.NumGoroutine")=false):NB P T:=by
 intro f tf hT;obtain⟨⟨H,h1⟩,h2,h3⟩:=h f tf hT;unfold xB at h1;split at h1
 case h_2=>simp at h1
 rename_i fn hf;split at h1
 case h_2=>simp at h1
 rename_i c hb;split at h1
 ·rename_i tf' Zd
  injection h1 with h1
  subst h1;obtain⟨g1,g2,g3,g4⟩:=yj Zd;obtain⟨e,Y1⟩:=CM g4;exact⟨fn,c,hf,h3 fn hf,hb,g2.symm,h2,.inr g1,by simpa using e,λk hk YL=>by have:=Y1 k hk (by simpa using YL);simpa using this⟩
 simp only at h1;split at h1
 ·rename_i tc rs hc hr
  injection h1 with h1
  subst h1;obtain⟨e,Y1⟩:=CM hr;exact⟨fn,c,hf,h3 fn hf,hb,rfl,h2,.inl λM hN YE=>Jh hN (IC hN YE hc),by simpa using e,λk hk YL=>by have:=Y1 k hk (by simpa using YL);simpa using this⟩
 ·simp at h1
end
theorem J2{E:Env}{T:FuncId->Option TFn}{B F:gE}{n:Nat}{f:FuncId}{tf:TFn}(h:T f=some tf) (vals:List TV) (pts:Pts):J3 E T B F n f vals pts=runT E F n tf vals pts:=by
 unfold J3;rw[h]
def arR(op:BinOp) (k:IntKind) (a b:Int):Int:=
 match op with
 | .add=>k.wrap (a+b)
 | .sub=>k.wrap (a - b)
 | .mul=>k.wrap (a*b)
 | .quo=>k.wrap (a.tdiv b)
 | .rem=>a.tmod b
 | .and=>k.wrap (BitVec.ofInt k.bits a &&& BitVec.ofInt k.bits b).toNat
 | .or=>k.wrap (BitVec.ofInt k.bits a ||| BitVec.ofInt k.bits b).toNat
 | .xor=>k.wrap (BitVec.ofInt k.bits a ^^^ BitVec.ofInt k.bits b).toNat
 | .andNot=>k.wrap (BitVec.ofInt k.bits a &&& ~~~BitVec.ofInt k.bits b).toNat
 | _=>0
def shR(op:BinOp) (k:IntKind) (a:Int) (n:Nat):Int:=
 match op with
 | .shl=>k.wrap (a*2 ^ (min n k.bits))
 | .shr=>a.fdiv (2 ^ (min n k.bits))
 | _=>0
def cmR(op:BinOp) (a b:Int):Bool:=
 match op with
 | .eql=>a==b
 | .neq=>a != b
 | .lss=>decide (a < b)
 | .leq=>decide (a<=b)
 | .gtr=>decide (a > b)
 | .geq=>decide (a>=b)
 | _=>false
def SF{α:Type}(f:α->Bool):List α->Bool
 | []=>true
 | x :: r=>match f x with | true=>SF f r | false=>false
def Rt{α:Type}(f:α->Bool):List α->Bool
 | []=>false
 | x :: r=>match f x with | true=>true | false=>Rt f r
def KA(a b:List Loc):Bool:=Rt (λw=>Rt (λx=>w.hit x) b) a
def No(a b:t9):Bool:=match KA a.2 b.1 with
 | true=>true
 | false=>match KA a.2 b.2 with
  | true=>true
  | false=>match KA b.2 a.1 with
   | true=>true
   | false=>KA b.2 a.2
def Di(d:List Nat) (j:Nat) (F F':t9):Bool:=match d.contains j with
 | true=>true
 | false=>!No F F'
def zn(deps:List (List Nat)):List (Nat×t9)->Bool
 | []=>true
 | (j,F) :: r=>match SF (λy=>Di (deps.getD y.1 []) j F y.2) r with | true=>zn deps r | false=>false
theorem Rg{α:Type}(f:α->Bool) (l:List α):SF f l=l.all f:=by
 induction l with
 | nil=>rfl
 | cons x l ih=>simp[SF];cases f x<;>simp[ih]
theorem Nw{α:Type}(f:α->Bool) (l:List α):Rt f l=l.any f:=by
 induction l with
 | nil=>rfl
 | cons x l ih=>simp[Rt];cases f x<;>simp[ih]
theorem OM(a b:List Loc):KA a b=KB a b:=by
 have e:(λw:Loc=>Rt (λx=>w.hit x) b)=λw:Loc=>b.any λx=>w.hit x:=funext λw=>Nw _ _;unfold KA KB;rw[Nw,e]
theorem Nn(a b:t9):No a b=rz a b:=by
 unfold No rz;simp[OM]
 grind
theorem Kv(d:List Nat) (j:Nat) (a b:t9):Di d j a b=(!rz a b || d.contains j):=by
 unfold Di;rw[Nn];cases d.contains j<;>simp
theorem HJ(deps:List (List Nat)) (fs:List (Nat×t9)):zn deps fs=jY deps fs:=by
 induction fs with
 | nil=>rfl
 | cons x r ih=>
  have ⟨j,F⟩:=x;have e:(λy:Nat×t9=>Di (deps.getD y.1 []) j F y.2)=λy=>!rz F y.2 || (deps.getD y.1 []).contains j:=funext λy=>Kv _ _ _ _;simp only[zn,jY,Rg,ih,e];cases r.all λy=>!rz F y.2 || (deps.getD y.1 []).contains j<;>simp
theorem NM{x:Int}(h1:-9223372036854775808<=x) (h2:x<=9223372036854775807):IntKind.wrap .i64 x=x:=by
 have e1:(2:Int) ^ IntKind.bits .i64=18446744073709551616:=by rfl
 have e2:(2:Int) ^ (IntKind.bits .i64 - 1)=9223372036854775808:=by rfl
 have e3:IntKind.signed .i64=true:=rfl;unfold IntKind.wrap;simp[e1,e3];omega
theorem CZ(x:Int):IntKind.wrap .u16 x=x % 65536:=by
 have e1:(2:Int) ^ IntKind.bits .u16=65536:=by rfl
 have e3:IntKind.signed .u16=false:=rfl;unfold IntKind.wrap
 simp_all
def ze(x:Int):Prop:=-9223372036854775808<=x/\x<=9223372036854775807
end Go.Proofs.YtjadkocggchfnaaGreat
