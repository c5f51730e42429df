/- Part of the proof; no condition. -/
import Derived.Test.YtabfnmgabblofaaGreatFa
import Derived.Laws.BytesString
import Derived.Laws.NewFold
import Derived.Laws.IdiomCopy
import Derived.LoopN
import Derived.Orders
import Derived.Lib.SliceRun
set_option linter.unusedVariables false
set_option linter.unusedSimpArgs false
namespace Go.Proofs.YtabfnmgabblofaaGreat
open Go.RowKit
section
variable {P:Program} {M:Fm} {σ σ':St} {H:U_} {xs:w_} {ts:s_} {w:World} {G:Gh} {a:Act} {o:Oper}
theorem My(mx:Bool)(k:IntKind):∀(r:w_)(x m:Int),zF mx k x r=some m->(r.foldlM (if mx then Builtin.max2 else Builtin.min2) (.int k x)).run P w=.ok (.int k m) w:=by
 intro r;induction r with
 |nil=>intro x m h;simp[zF]at h;simp_all|cons y r ih=>
 intro x m h;cases y with
 |int k' b=>
 simp only[zF]at h;split at h;rename_i hk;have:=ih _ _ h;cases mx with|true=>simpa[Builtin.max2]using this|false=>simpa[Builtin.min2]using this
 simp at h
 |_=>simp[zF]at h
theorem RP(hI:Inv M σ [] [] a.tmps w G){d:Nat}(hd:o.dst=some d)(hN:M.ok d){mx:Bool}{l:O_}{args:Array Operand}{atys:Array TypeId}(hc:args.toList.map fZ=l.map some)(ho:o.op=.call { callee:=.builtin (if mx then .max else .min),args:=args,argTypes:=atys }) (hr:(ev1 d (.mm mx l)).run σ=some ((),σ')):rx P M σ' a o w:=by
 simp only[ev1]at hr;obtain⟨r,σ1,h1,h2⟩:=fN hr;obtain⟨rfl,e2,e3⟩:=Ta (R:=λy x'=>y=a.eval x') (λx x' y σ' hx hy=>by obtain⟨t,σ2,q1,q2⟩:=fN hy;obtain⟨rfl,ht⟩:=ij hI.tmr hx q1;obtain⟨rfl,rfl⟩:=rY q2;exact⟨rfl,(ht.v_inv).1.symm⟩) hc h1;have Yi:args.toList.map a.eval=r:=by apply List.ext_getElem;simp[e2];intro k hk YA;have:=e3 k YA (by simpa using hk);simpa using this.symm
 split at h2;case h_2=>simp[SP.run]at h2
 rename_i k x rest;obtain⟨m,σ2,h3,h4⟩:=fN h2;obtain⟨hm,rfl⟩:=u7 h3;refine kG hI hd hN (x:=.int k m) (.v rfl) h4 ?_;have hf:=My (P:=P) (w:=w) mx k rest x m hm;have ha:(args.map a.eval).toList=.int k x::rest:=by rw[Array.toList_map];exact Yi
 cases mx with|true=>simp only[if_true]at hf ho;simp[execOp,ho,resolve,invoke,builtin,Builtin.max_,Yi,hf]|false=>simp only[Bool.false_eq_true,if_false]at hf ho;simp[execOp,ho,resolve,invoke,builtin,Builtin.min_,Yi,hf]
theorem P6(hI:Inv M σ [] [] a.tmps w G){d:Nat}(hd:o.dst=some d)(hN:M.ok d){x i:Opd}{x' i':Operand}{t e n sz:Nat}(hx:fZ x'=some x)(hi:fZ i'=some i)(ho:o.op=.indexAddr t x' i') (hu:P.underlying t=some (.array n e))(hs:(P.info? e).map (·.size)=some sz)(hr:(ev1 d (.idxa n sz x i)).run σ=some ((),σ')):rx P M σ' a o w:=by
 have Yv:(sizeOf e).run P w=.ok sz w:=by unfold sizeOf typeInfo;cases hi:P.info? e with|none=>simp[hi]at hs|some i=>simp[hi]at hs;simp[hi,hs]
 simp only[ev1]at hr;obtain⟨tx,σ1,h1,h2⟩:=fN hr;obtain⟨rfl,Z0⟩:=ij hI.tmr hx h1;obtain⟨ti,σ2,h3,h4⟩:=fN h2;obtain⟨rfl,Xr⟩:=ij hI.tmr hi h3;obtain⟨k,σ3,h5,h6⟩:=fN h4;obtain⟨ik,m,rfl,hn0,hk,rfl⟩:=vg h5;obtain⟨ei,_⟩:=Xr.v_inv;cases tx with
 |ptr p vs=>
 simp only at h6;obtain⟨_,σ2,h7,h8⟩:=fN h6;have e1:σ2=σ3:=(gt h7).1;have e2:=(gt h7).2;subst e1;split at h8;case isFalse=>simp[SP.run]at h8
 rename_i hc;simp only[oBA,oDE]at hc;obtain⟨hkn,Z2⟩:=hc;generalize hz:a.eval x'=z at Z0;cases Z0 with
  |ptr V0 h0 hv h=>
  obtain⟨Z6,ad,t0,ha,rfl,hg0⟩:=h e2;have hmn:m<(n:Int):=by omega
  refine kG hI hd hN (x:=.pointer (some (ad.add (k*sz)))) ?_ h8 (by subst hk;simp[execOp,ho,hz,ei,Instr.indexAt,asIntOf,Instr.sureAddr,run_underlying hu,hn0,hmn,Yv]);refine .ptr V0 h0 (by rw[Ks];exact hv) λ_=>⟨by rw[iy];exact Z6,⟨ad.block,ad.off+k*sz,none⟩,?_⟩;have ZD:=oE ha;have XL:ad.add (k*sz)=⟨ad.block,ad.off+k*sz,none⟩:=by obtain⟨b,ob,sp⟩:=ad;simp only at ZD;subst ZD;exact iZ b ob (k*sz)
  rcases p.add_cases (k*sz)with⟨q1,q2⟩|⟨hs',i,sz',o',q1,q2⟩;exact⟨gy M σ2 [] p.root (p.off+k*sz),sU _ ha,by rw[XL],by rw[q2];rfl⟩;have hlt:o'+k*sz<sz':=by unfold gf.fits at Z2;rw[q1]at Z2;simpa using Z2
  rw[q1]at hg0;obtain⟨t',ZU⟩:=K4 hg0 hlt;exact⟨t',sU _ ha,by rw[XL],by rw[q2];exact ZU⟩
 |_=>simp[SP.run]at h6
theorem Ss(hI:Inv M σ [] [] a.tmps w G){d:Nat}(hd:o.dst=some d)(hN:M.ok d){x:Opd}{x':Operand}{s t e:TypeId}(hx:fZ x'=some x)(ho:o.op=.convert s t x')(hs:P.underlying s=some .string)(ht:P.underlying t=some (.slice e))(he:P.underlying e=some (.int .u8)) (hr:(ev1 d (.s2b x)).run σ=some ((),σ')):rx P M σ' a o w:=by
 simp only[ev1]at hr;obtain⟨tx,σ1,h1,h2⟩:=fN hr;obtain⟨rfl,Z0⟩:=ij hI.tmr hx h1;cases tx with
 |v y=>
 obtain⟨ex,_⟩:=Z0.v_inv;cases y with
  |string str=>
  simp only at h2;split at h2;case isFalse=>simp[SP.run]at h2
  rename_i hsz;obtain⟨n,hn⟩:∃n,n=w.tape w.drawn (.appendCap str.size 0 e):=⟨_,rfl⟩;obtain⟨cap,hcap⟩:∃cap,cap=str.size+n%(2 ^ 63-str.size):=⟨_,rfl⟩;have hcap1:str.size<=cap:=by omega
  have hcap2:cap<=maxLen:=by have:n%(2 ^ 63-str.size)<2 ^ 63-str.size:=Nat.mod_lt _ (by omega);show cap<=2 ^ 63-1;omega
  obtain⟨row,WB⟩:∃row:s_,row=(str.data.map λb=>Value.int .u8 b.toNat)++Array.replicate (cap-str.size) (.int .u8 0):=⟨_,rfl⟩;obtain⟨w1,hw1⟩:∃w1,w1=w.drew.alloc (.cells row e):=⟨_,rfl⟩;have Xq:w1.heap=w.heap.push (.cells row e):=by rw[hw1];rfl
  have hsh:w1.shape? w.heap.size=some (e,row.size):=by unfold World.shape?;rw[Xq];simp
  have hrun:(execOp a.eval o).run P w=.ok (.value (.slice (some ⟨w.heap.size,0,none⟩) str.size cap)) (w1.freeze ⟨w.heap.size,row.size,none⟩ 1):=by simp only[execOp,ho,ex,convert,Sem.run_bind,run_underlying hs,run_underlying ht,run_underlying he,Result.andThen_ok,Conv.stringToBytes,run_choose_drew,Question.forced,Bool.false_eq_true,if_false,Question.cut,newRow,run_newObj_alloc,Sem.run_pure];rw[<- hn,<- hcap,<- WB];simp only[show w.drew.heap.size=w.heap.size from rfl,<- hw1,markStringish,Sem.run_bind,run_shape,Result.andThen_ok,hsh,run_freeze,Sem.run_pure]
  have ZB:∀k,k<w.heap.size->(w1.freeze ⟨w.heap.size,row.size,none⟩ 1).heap[k]?=w.heap[k]?:=by intro k hk;unfold World.freeze;rw[oIN (by decide)];simp only;rw[Array.getElem?_modify];rw[oIN (by omega),Xq];simp[Array.getElem?_push,show k≠w.heap.size by omega]
  have Zm:∃fz,(w1.freeze ⟨w.heap.size,row.size,none⟩ 1).heap[w.heap.size]?=some (.cells row e fz):=by unfold World.freeze;rw[oIN (by decide)];simp only;rw[Array.getElem?_modify,oIP rfl,Xq];exact⟨_,by simp only[Array.getElem?_push_size,oMS];rfl⟩
  obtain⟨fz,Zm⟩:=Zm;obtain⟨ZN,_⟩:=hI.grow (w':=w1.freeze ⟨w.heap.size,row.size,none⟩ 1) ZB (by unfold World.freeze;rw[oIN (by decide)];simp[Xq]) (by rw[hw1];rfl) (by rw[hw1];rfl) (by rw[hw1];rfl);simp only[wr,SP.run,oSJ,oPJ,true_and]at h2;subst h2;refine⟨_,_,_,G,hrun,.inl rfl,?_⟩;rw[hd];have hbl:(uR str).length=str.size:=by unfold uR;rw[oLP,Array.length_toList];rfl
  refine ZN.wrT hN (.sl ?_);have him:ru (w1.freeze ⟨w.heap.size,row.size,none⟩ 1) (G.F M.A) (.sl (uR str)) (.slice (some ⟨w.heap.size,0,none⟩) (uR str).length cap):=by
   refine .sl 1 (λi _=>.int .u8 (str.data.getD i 0).toNat) (λi h=>by simp[uR]) (by omega) hcap2 (λh=>by simp at h) (λi j hi hj=>⟨w.heap.size,0,rfl,?_,?_⟩) λi j h h'=>?_;exact⟨M.hA _ hI.fram.size,λr o h=>Nat.lt_irrefl _ (hI.core.live h),λr b o n hb e=>Nat.lt_irrefl _ (e▸hI.core.boxlt hb)⟩;have hj0:j=0:=by omega
   subst hj0;rw[cell_of_row _ _ _ _ _ _ Zm];have Zk:i<str.data.size:=by rw[hbl]at hi;exact hi
   have hg:str.data[i]?=some str.data[i]:=Array.getElem?_eq_getElem Zk;rw[WB];simp[Array.getElem?_append,show i<str.size from Zk,oAG,hg];have hj0:j=0:=by simp[uR]at h';omega
   subst hj0;have Zk:i<str.data.size:=by rw[hbl]at h;exact h
   have:(uR str)[i][0]=.v (.int .u8 (str.data.getD i 0).toNat):=by have hg:str.data[i]?=some str.data[i]:=Array.getElem?_eq_getElem Zk;simp[uR,oAG,hg]
   rw[this];exact .v rfl
  rw[hbl]at him;exact him
  |_=>simp[SP.run]at h2
 |_=>simp[SP.run]at h2
theorem P9(hI:Inv M σ [] [] a.tmps w G){d:Nat}{mv:Bool}(hd:o.dst=some d)(hN:M.ok d){t e n sz:TypeId}{parts:Array (Nat×Operand)}{ps:e_}{z:w_}(ho:o.op=.build t parts)(hu:P.underlying t=some (.array n e)) (hz:(P.info? t).bind (·.zero.map (·.cells.toList))=some z)(hs:(P.info? e).map (·.size)=some sz)(hp1:parts.size=ps.length) (hp2:∀k (h:k<parts.size)(h':k<ps.length),fZ parts[k].2=some ps[k].2.2/\ps[k].1=parts[k].1*sz/\ps[k].2.1=sz/\ps[k].1+ps[k].2.1<=z.length) (hr:(ev1 d (.bld z mv ps)).run σ=some ((),σ')):rx P M σ' a o w:=by
 simp only[ev1]at hr;split at hr;case isFalse=>simp[SP.run]at hr
 rename_i hok;obtain⟨l,σ1,h1,h2⟩:=fN hr;obtain⟨l',σ2,h3,h4⟩:=fN h2;obtain⟨G1,g1,hokl,Xy⟩:=tI (a:=a) (pv:=parts.toList.map (·.2)) hI (by apply List.ext_getElem;simp[hp1];intro k hk YA;have:=(hp2 k (by simpa using hk) (by simpa using YA)).1;simpa using this) h1;simp only[oNA]at g1;obtain⟨G2,ZN,_,Ya,YP⟩:=AL (λ_=>hN.2) g1.1 hokl h3;obtain⟨ys,hys⟩:∃ys,ys=(parts.toList.map (·.2)).flatMap (λx=>(a.eval x).cells.toList):=⟨_,rfl⟩;rw[<- hys]at g1 YP;have hlen:l'.length=ys.length:=by rw[Ya];exact g1.1.hand
 have hzc:∀j (h:j<(z.map iL).length)(h':j<z.length),TmR w (G2.F M.A) σ2.v (gy M σ2 []) G2 (z.map iL)[j] z[j]:=λj h h'=>by simp only[List.getElem_map];exact w8 _
 obtain⟨r1,r2⟩:=sW (R:=TmR w (G2.F M.A) σ2.v (gy M σ2 []) G2) ps l' ys (z.map iL) z (by simp) hzc hlen (λj h h'=>by have:=YP j h;simpa[h']using this);refine kG ZN hd hN (x:=.agg (qd z ps ys).toArray) (.agg (by simp[r1]) λj hj=>by have:=r2 j hj (by omega);simpa[show j<(qd z ps ys).length by omega]using this) h4 ?_;cases hi:P.info? t with
 |none=>simp[hi]at hz|some i=>
 simp only[hi,oBS]at hz;cases hiz:i.zero with
 |none=>simp[hiz]at hz|some v=>
 simp only[hiz,oMS,oSJ]at hz;have hzv:(zeroValue t).run P w=.ok v w:=by simp[zeroValue,typeInfo,hi,hiz]
 have Yv:(sizeOf e).run P w=.ok sz w:=by unfold sizeOf typeInfo;cases hi:P.info? e with|none=>simp[hi]at hs|some i=>simp[hi]at hs;simp[hi,hs]
 have Yy:=B4 (place:=λi=>some (i*sz,sz)) (parts.toList.map λp=>(p.1,a.eval p.2)) ps v.cells (by simp[hp1]) (λk h h'=>by
  have hk:k<parts.size:=by simpa using h
  obtain⟨q1,q2,q3,q5⟩:=hp2 k hk h';have q4:=Xy k h' (by simpa using hk);refine⟨by simp[q2,q3],by simpa using q4,?_⟩;rw[<- hz]at q5;simpa using q5)
 have ZE:((parts.toList.map λp=>(p.1,a.eval p.2)).flatMap (·.2.cells.toList))=ys:=by rw[hys];simp[List.flatMap_map]
 rw[ZE,hz]at Yy;simp only[execOp,ho,Instr.build,Sem.run_bind,hzv,Result.andThen_ok,run_underlying hu,Yv,Array.toList_map];rw[Yy];simp
end
theorem zm{α:Type}{l:List α}{i:Nat}{x:α}{f g:α->α}(h:l[i]?=some x)(e:f x=g x):l.modify i f=l.modify i g:=by apply oEG;grind
theorem J1{hs:L_}{i sz j:Nat}{c:o_}{el:U_}{t1:TV}:∀{t:TV},gE t hs=some (.ow c)->c[i]?=some el->el.length=sz->el[j]?=some t1->gE t (hs++[(i,sz,j)])=some t1:=by induction hs with|nil=>intro t h h1 h2 h3;simp[gE]at h;subst h;simp[gE,h1,h2,h3]|cons hp hs ih=>intro t h h1 h2 h3;obtain⟨c0,el0,t0,rfl,k1,k2,k3,k4⟩:=iX h;simp[gE];simp_all
theorem Jf{hs:L_}{i sz j:Nat}{c:o_}{x:TV}:∀{t:TV},gE t hs=some (.ow c)->iH t (hs++[(i,sz,j)]) x=iH t hs (.ow (c.modify i λel=>el.modify j λ_=>x)):=by induction hs with|nil=>intro t h;simp[gE]at h;subst h;simp[iH]|cons hp hs ih=>intro t h;obtain⟨c0,el0,t0,rfl,k1,k2,k3,k4⟩:=iX h;simp only[List.cons_append,iH];congr 1;refine zm k1 (zm k3 (ih k4))
theorem NC{hs:L_}{x y:TV}:∀{t:TV},iH (iH t hs y) hs x=iH t hs x:=by
 induction hs with
 |nil=>intro t;rfl|cons hp hs ih=>
 obtain⟨a,b,d⟩:=hp;intro t;cases t with
 |ow c=>
 simp only[iH];congr 1;apply oEG;intro k;simp only[oGM];by_cases hk:a=k;subst hk;cases c[a]? with
 |none=>rfl|some el=>
  simp only[if_true,Option.map_eq_map,oMS];congr 1;apply oEG;intro k;simp only[oGM,Option.map_eq_map];by_cases hk:d=k;subst hk;cases el[d]? with|none=>rfl|some t1=>simp[ih]
  cases el[k]?<;>simp[hk]
 cases c[k]?<;>simp[hk]
 |_=>rfl
theorem yr{α:Type}(l:List (Nat×α))(i:Nat)(x y:α):iJ (iJ l i x) i y=iJ l i y:=by induction l with|nil=>simp[iJ]|cons h r ih=>have ⟨k,v⟩:=h;by_cases hk:k=i;subst hk;simp[iJ];simp[hk,iJ,ih]
theorem IX{w:World}{hs:L_}{k sz n cap j:Nat}{ad:Addr}:∀{x:Value},hvT w x hs=some (.slice (some ad) n cap)->k<n->gK w x (hs++[(k,sz,j)])=some ⟨ad.block,ad.off+(k*sz+j),none⟩:=by
 induction hs with
 |nil=>intro x h hk;simp only[hvT,oSJ]at h;subst h;simp[gK,hk]|cons hp hs ih=>
 intro x h hk;simp only[hvT]at h;cases x with
 |slice a l c=>
 cases a with
  |none=>cases hs<;>simp[gK]at h|some a=>
  obtain⟨hd,tl,WO⟩:∃hd tl,hs++[(k,sz,j)]=hd::tl:=by cases hs<;>exact⟨_,_,rfl⟩
  cases hs with|nil=>simp only[gK]at h;split at h;rename_i hi;simp at h;simp only[List.cons_append,oNA,gK,hi,if_true,h,hk];simp at h|cons hp2 YV=>simp[gK]at h;split at h;rename_i hi;split at h;rename_i y hy;rw[List.cons_append,WO];simp[gK,hi,if_true,hy];rw[<- WO];exact ih (by simpa[hvT]using h) hk;simp at h;simp at h
 |_=>cases hs<;>simp[gK]at h
section
variable {P:Program} {M:Fm} {σ σ':St} {H:U_} {xs:w_} {ts:s_} {w:World} {G:Gh} {a:Act} {o:Oper}
def St.sub(σ:St)(p:gf)(l:U_)(t:TV):St:=⟨σ.tm,iJ σ.ce p.root (l.set p.off (iH (σ.c p.root p.off) p.hops t)),σ.vr⟩
theorem I6{p:gf}{l:U_}{t:TV}(hl:p.off<l.length):(σ.sub p l t).c p.root p.off=iH (σ.c p.root p.off) p.hops t:=by simp[St.c,St.sub,gN];simp[hl]
theorem Qm(hI:Inv M σ [] [] ts w G){p:gf}{c:o_}{el:U_}{b n cap i sz j:Nat}{old v:Value}(Z6:p.root≠1)(Zy:G.hv w p=some (.slice (some ⟨b,0,none⟩) n cap))(hg:gE (σ.c p.root p.off) p.hops=some (.ow c))(hin:i<n) (hi:c[i]?=some el)(hl:el.length=sz)(hj:el[j]?=some (.v old))(hv:kn v=true){l:U_}(hal:gD σ.ce p.root=some l)(hol:p.off<l.length):∃G',Inv M (σ.sub p l (.ow (c.modify i λel=>el.modify j λ_=>.v v))) [] [] ts (w.setCell ⟨b,i*sz+j,none⟩ v) G'/\(w.cell? ⟨b,i*sz+j,none⟩).isSome=true/\w.frozen? ⟨b,i*sz+j,none⟩=false/\G'.hv (w.setCell ⟨b,i*sz+j,none⟩ v) p=some (.slice (some ⟨b,0,none⟩) n cap):=by
 obtain⟨G1,Zi⟩:=hI.addHand (.v (λ_ h=>h) hv);have hgE:gE (gy M σ [] p.root p.off) p.hops=some (.ow c):=by rw[gv (Z6)];exact hg
 obtain⟨c1,ds,_,_⟩:=Zi.2.2.1.hdr p _ c Z6 rfl Zy hgE;obtain⟨hd,tl,WO⟩:∃hd tl,p.hops++[(i,sz,j)]=hd::tl:=by cases p.hops<;>exact⟨_,_,rfl⟩
 have Z4:G1.addrB w ⟨p.root,p.off,p.hops++[(i,sz,j)]⟩=some ⟨b,i*sz+j,none⟩:=by have:=IX (sz:=sz) (j:=j) ds hin;unfold Gh.addrB;simp_all
 have hgq:=J1 hg hi hl hj;have hgqE:gE (gy M σ [.v v] p.root p.off) (p.hops++[(i,sz,j)])=some (.v old):=by rw[gv (Z6)];exact hgq
 have hrun:(wv ⟨p.root,p.off,p.hops++[(i,sz,j)]⟩ (.v v)).run σ=some ((),σ.sub p l (.ow (c.modify i λel=>el.modify j λ_=>.v v))):=by simp[wv,SP.run,hgq,tG,Bool.or_self,if_false,hal,hol,if_true];rw[Jf hg];rfl
 obtain⟨⟨u,hu⟩,W4,G2,ZN,hm,Zg,hβ⟩:=Zi.1.put (p:=⟨p.root,p.off,p.hops++[(i,sz,j)]⟩) (j:=0) Z6 Z4 hgqE (by simp) (by simp) (by simpa using hrun)
 have Wu:=ZN.clear (by intro k hk;have:k=0:=by simp at hk;omega
                       simp)
 have hgE1:gE (gy M σ [.v v] p.root p.off) p.hops=some (.ow c):=by rw[gv (Z6)];exact hg
 obtain⟨c2,Yt,_,_⟩:=hm.keeps.hdr p _ c Z6 rfl ds hgE1;exact⟨G2,Wu,by simp_all,W4,Yt⟩
theorem Az{c:o_}{i j i' j':Nat}{x:TV}{el:U_}{y:TV}(h:c[i']?=some el)(hy:el[j']?=some y)(hne:¬(i'=i/\j'=j)):∃el',(c.modify i λel=>el.modify j λ_=>x)[i']?=some el'/\el'[j']?=some y:=by
 by_cases hi:i=i';subst hi;have hj:¬j=j':=by omega
 simp_all;simp_all
theorem Qt{p:gf}{b n cap sz:Nat}(Z6:p.root≠1)(hsz:0<sz):∀(vals:w_)(c:o_)(o:Nat)(σ:St)(w:World)(G:Gh)(l:U_),vals≠[]->Inv M σ [] [] ts w G->G.hv w p=some (.slice (some ⟨b,0,none⟩) n cap)->gE (σ.c p.root p.off) p.hops=some (.ow c)->n=c.length ->(∀el∈c,el.length=sz)->(∀v∈vals,kn v=true)->(∀t,o<=t->t<o+vals.length->∃el y,c[t/sz]?=some el/\el[t%sz]?=some (.v y))->gD σ.ce p.root=some l->p.off<l.length ->(∃G',Inv M (σ.sub p l (.ow (rD sz c o vals))) [] [] ts (w.setCells b o vals) G')/\∀j,j<vals.length->(w.cell? ⟨b,o+j,none⟩).isSome=true/\w.frozen? ⟨b,o+j,none⟩=false:=by
 intro vals;induction vals with
 |nil=>intro c o σ w G l h;exact absurd rfl h|cons v vals ih=>
 intro c o σ w G l _ hI Zy hg hn hlen hvf ZE hal hol;obtain⟨el,y,h1,h2⟩:=ZE o (oLE _) (by simp);have YT:el.length=sz:=hlen el (List.mem_of_getElem? h1);have hio:o/sz<n:=by rw[hn];exact(oGS h1).1
 have ho:o/sz*sz+o%sz=o:=by rw[Nat.mul_comm];exact Nat.div_add_mod o sz
 obtain⟨G1,hI1,hs1,hf1,ds⟩:=Qm hI Z6 Zy hg hio h1 YT h2 (hvf v (by simp)) hal hol;rw[ho]at hI1 hs1 hf1 ds;cases vals with
 |nil=>refine⟨⟨G1,hI1⟩,λj hj=>?_⟩;simp_all|cons v2 vals=>
 obtain⟨c1,ZM⟩:∃c1,c1=c.modify (o/sz) λel=>el.modify (o%sz) λ_=>.v v:=⟨_,rfl⟩;rw[<- ZM]at hI1;obtain⟨l1,Xu⟩:∃l1,l1=l.set p.off (iH (σ.c p.root p.off) p.hops (.ow c1)):=⟨_,rfl⟩;have hsc:(σ.sub p l (.ow c1)).c p.root p.off=iH (σ.c p.root p.off) p.hops (.ow c1):=I6 hol;obtain⟨⟨G2,ZN⟩,ZJ⟩:=ih c1 (o+1) (σ.sub p l (.ow c1)) _ G1 l1 (by simp) hI1 ds (by rw[hsc];exact Dy hg) (by rw[hn,ZM];simp) (λel' hel'=>by have hml:=rh c (o/sz) (o%sz) (λ_=>.v v);have:el'.length∈c1.map List.length:=List.mem_map_of_mem hel';rw[ZM,hml]at this;obtain⟨e3,e4,e5⟩:=List.mem_map.1 this;rw[<- e5];exact hlen e3 e4) (λx hx=>hvf x (by simp at hx⊢;exact .inr hx)) (λt Yj YP=>by obtain⟨el',y',q1,q2⟩:=ZE t (by omega) (by simp at YP⊢;omega);obtain⟨el2,q3,q4⟩:=Az (x:=.v v) q1 q2 (i:=o/sz) (j:=o%sz) (by rintro⟨e1,e2⟩;have h3:=Nat.div_add_mod t sz;have h4:=Nat.div_add_mod o sz;rw[e1,e2]at h3;omega);exact⟨el2,y',by rw[ZM];exact q3,q4⟩) (by simp[St.sub,gN,Xu]) (by rw[Xu];simpa using hol);refine⟨⟨G2,?_⟩,λj hj=>?_⟩;have e:(σ.sub p l (.ow c1)).sub p l1 (.ow (rD sz c1 (o+1) (v2::vals)))=σ.sub p l (.ow (rD sz c o (v::v2::vals))):=by unfold St.sub;have hsc':(St.c ⟨σ.tm,iJ σ.ce p.root (l.set p.off (iH (σ.c p.root p.off) p.hops (.ow c1))),σ.vr⟩ p.root p.off)=iH (σ.c p.root p.off) p.hops (.ow c1):=hsc;rw[hsc',NC,yr,Xu,List.set_set];simp only[rD,<- ZM]
 rw[e]at ZN;exact ZN;cases j with
 |zero=>exact⟨hs1,hf1⟩|succ j=>
 have:=ZJ j (by simpa using hj);rw[show o+1+j=o+(j+1) by omega,World.frozen?_setCell]at this;refine⟨?_,this.2⟩;have hne:(⟨b,o,none⟩:Addr)≠⟨b,o+(j+1),none⟩:=λe=>by have:=congrArg Addr.off e;simp at this
 rw[World.cell?_setCell_other w _ _ _ hne]at this;exact this.1
theorem IA:∀{l:U_}{vs:w_},gJ l=some vs->vs.length=l.length/\∀j (h:j<l.length)(h':j<vs.length),l[j]=.v vs[j]:=by
 intro l;induction l with
 |nil=>intro vs h;simp[gJ]at h;subst h;exact⟨rfl,λj h=>by simp at h⟩|cons t l ih=>
 intro vs h;cases t with
 |v x=>simp[gJ]at h;cases hl:gJ l with|none=>simp_all|some r=>simp[hl]at h;subst h;have ⟨e1,e2⟩:=ih hl;refine⟨by simp[e1],λj hj ZO=>?_⟩;cases j with|zero=>rfl|succ j=>simp_all
 |_=>simp[gJ]at h
theorem GJ{c:o_}{sz m:Nat}(hs:∀i (h:i<c.length),c[i].length=sz)(hm:m<=c.length):(c.take m).flatten.length=m*sz:=by rw[B2 (sz:=sz) λi h=>by simp_all];simp[hm]
theorem yF{F fp:Nat->Prop}{t:TV}{v x:Value}{c c2:o_}{sz lo n cap:Nat}{ad:t_}(h:jD w F fp t v)(ht:t=.ow c\/t=.sl c)(hs:∀i (h:i<c.length),c[i].length=sz)(ZX:0<sz)(ZJ:c2=(c.drop lo).take n)(hln:lo+n<=c.length) (hx:x=.slice ad n cap)(Y0:0<n->∃b o len ZP,v=.slice (some ⟨b,o,none⟩) len ZP/\ad=some ⟨b,o+lo*sz,none⟩)(hnone:ad=none->n=0){m:Nat}{vs:w_}(hm:m<=c2.length)(hf:gJ (c2.take m).flatten=some vs):(Builtin.firstCells sz m x).run P w=.ok vs.toArray w:=by
 subst hx;have hc2l:c2.length=n:=by rw[ZJ];simp;omega
 have YV:∀i (h:i<c2.length),c2[i].length=sz:=λi h=>by subst ZJ;simp only[List.getElem_take,List.getElem_drop];exact hs _ (by simp at h;omega)
 obtain⟨e1,e2⟩:=IA hf;have ZE:=GJ YV hm;cases ad with
 |none=>
 have hn:=hnone rfl;have hm0:m=0:=by omega
 subst hm0;have:vs=[]:=oEN (by rw[e1,ZE];omega);subst this;rfl
 |some ad=>
 obtain⟨a,capX,vals,f,rfl,YR,ZW,hrec,_⟩:=h.rows ht hs;have hvl2:vs.length=m*sz:=by rw[e1,ZE]
 have:=run_loadCells_list (P:=P) w ad vs λj y hj=>by
  have hjl:j<vs.length:=by rcases Nat.lt_or_ge j vs.length with h|h;exact h;rw[oGN h]at hj;simp at hj
  have hjm:j<m*sz:=by omega
  have hq:j/sz<m:=(Nat.div_lt_iff_lt_mul ZX).2 hjm;have hr:j%sz<sz:=Nat.mod_lt _ ZX;have hqc:j/sz<c2.length:=by omega
  have XQ:lo+j/sz<c.length:=by omega
  have WA:j%sz<(c[lo+j/sz]).length:=by rw[hs _ XQ];exact hr
  have ZA:(lo+j/sz)*sz+j%sz=lo*sz+j:=by rw[Nat.add_mul];have:=Nat.div_add_mod j sz;rw[Nat.mul_comm]at this;omega
  have hown:=hrec (lo+j/sz) (j%sz) XQ WA;rw[ZA]at hown;have YT:c[lo+j/sz][j%sz]=.v y:=by
   have h1:=e2 j (by rw[ZE];exact hjm) hjl;have h2:=wF (c:=c2.take m) (sz:=sz) (λi h=>by simpa using YV i (by simp at h;omega)) (i:=j/sz) (j:=j%sz) (by simp;omega) (by rw[List.getElem_take,YV _ hqc];exact hr);rw[show j/sz*sz+j%sz=j by rw[Nat.mul_comm];exact Nat.div_add_mod j sz,oGE (by rw[ZE];exact hjm),h1]at h2;injection h2 with h2
   have h3:(c2.take m)[j/sz]'(by simp;omega)=c[lo+j/sz]:=by subst ZJ;simp
   have hy:vs[j]=y:=by simpa[hjl]using hj
   rw[<- hy,h2];simp only[h3]
  rw[YT]at hown;have WX:vals.getD (lo*sz+j) undef=y:=by cases hown with|v hfp ZE=>rfl
  have hlt:lo*sz+j<vals.length:=by
   rw[YR];have:(lo+j/sz)*sz+sz<=c.length*sz:=by have:(lo+j/sz+1)*sz<=c.length*sz:=Nat.mul_le_mul_right _ XQ;rw[Nat.add_mul,Nat.one_mul]at this;exact this
   omega
  obtain⟨b,o,hab,Y6⟩:=ZW (lo*sz+j) y (by rw[oGE hlt];rw[oGD,oGE hlt]at WX;simpa using WX);obtain⟨b',o',len,ZP,YD,had'⟩:=Y0 (by rw[<- hc2l];exact Nat.lt_of_le_of_lt (Nat.zero_le _) hqc);injection YD with YD _ _
  rw[YD]at hab;injection hab with hab
  injection hab with hb ho _
  subst hb;subst ho;injection had' with had'
  rw[had',iZ,show o'+lo*sz+j=o'+(lo*sz+j) by omega];exact Y6
 rw[hvl2]at this;exact this
theorem MF(hI:Inv M σ [] [] ts w G){u:TV}{v:Value}(hu:TmR w (G.F M.A) σ.v (gy M σ []) G u v){c2:o_}(hr:(contentOf u).run σ=some (c2,σ')):σ'=σ/\∀sz,0<sz->(∀i (h:i<c2.length),c2[i].length=sz)->∃ad cap,v=.slice ad c2.length cap/\∀m vs,m<=c2.length->gJ (c2.take m).flatten=some vs->(Builtin.firstCells sz m v).run P w=.ok vs.toArray w:=by
 cases u with
 |sl c=>
 simp only[contentOf,SP.run,oSJ,oPJ]at hr;obtain⟨rfl,rfl⟩:=hr;refine⟨rfl,λsz ZX hs=>?_⟩;cases hu with
  |sl h=>
  have hown:jD w (G.F M.A) (λ_=>False) (.sl c) v:=.sl (λ_ h=>h) h;obtain⟨ad,cap,hv,_⟩:=h.hdr;refine⟨ad,cap,hv,λm vs hm hf=>yF (lo:=0) (n:=c.length) hown (.inr rfl) hs ZX (by simp) (by simp) hv (λhn=>?_) (λhe=>?_) hm hf⟩;cases h with
  | @sl _ a cap sz' u hsz hcap hmax hnil hcell hrec=>
   have e:sz'=sz:=by rw[<- hsz 0 hn,hs 0 hn]
   subst e;obtain⟨b,o,ha,_,_⟩:=hcell 0 0 hn ZX;injection hv with hv _ _
   exact⟨b,o,_,_,by rw[ha],by rw[<- hv,ha];simp⟩
  cases h with
  | @sl _ a cap sz' u hsz hcap hmax hnil hcell hrec=>
  injection hv with hv _ _
  rw[hv]at hnil;have:=hnil he;omega
 |ow c=>
 cases hu with
  | @nil ad=>
  obtain⟨rfl,rfl⟩:=hr;refine⟨rfl,λsz ZX hs=>⟨ad,0,rfl,λm vs hm hf=>?_⟩⟩;have hm0:m=0:=by simpa using hm
  subst hm0;simp only[List.take_zero,List.flatten_nil,gJ,oSJ]at hf;subst hf;cases ad<;>simp[Builtin.firstCells,loadCells,loadCellsFrom]
 |pk p vs=>
 simp only[contentOf]at hr;obtain⟨_,σ1,h1,h2⟩:=fN hr;have e1:σ1=σ:=(gt h1).1;have e2:=(gt h1).2;subst e1;obtain⟨tt,σ2,h3,h4⟩:=fN h2;obtain⟨e3,hg⟩:=iD h3;have e3:σ2=σ1:=e3;subst e3;cases hu with
  |pk V0 h0 hv h=>
  obtain⟨Z6,c,Zy,Zx⟩:=h e2;have Zl:gE (σ2.c p.root p.off) p.hops=some (.ow c):=by rw[gv (by exact Z6)]at Zx;exact Zx
  rw[Zl]at hg;injection hg with hg
  subst hg;simp only[SP.run,oSJ,oPJ]at h4;obtain⟨rfl,rfl⟩:=h4;refine⟨rfl,λsz ZX hs=>?_⟩;obtain⟨fp,hown⟩:=zj hI Zy Zx;obtain⟨ad,cap,YD,_⟩:=hown.hdr;refine⟨ad,cap,YD,λm vs hm hf=>yF (lo:=0) (n:=c.length) hown (.inl rfl) hs ZX (by simp) (by simp) YD (λhn=>?_) (λhe=>?_) hm hf⟩;cases hown with
  |nil=>simp at hn| @ow _ _ b cap cur e' sz' u f hfp hb hsz hcap hz0 hmax hcur hcell hrec hnb hdis=>
   injection YD with YD _ _
   exact⟨b,0,_,_,rfl,by rw[<- YD];simp⟩
  cases hown with
  |nil=>rfl| @ow _ _ b cap cur e' sz' u f hfp hb hsz hcap hz0 hmax hcur hcell hrec hnb hdis=>
  injection YD with YD _ _
  rw[he]at YD;simp at YD
 |pw p vs Y' lo n=>
 simp only[contentOf]at hr;obtain⟨_,σ1,h1,h2⟩:=fN hr;have e1:σ1=σ:=(gt h1).1;have e2:=(gt h1).2;subst e1;obtain⟨tt,σ2,h3,h4⟩:=fN h2;obtain⟨e3,hg⟩:=iD h3;have e3:σ2=σ1:=e3;subst e3;cases hu with
  |pw V0 h0 hv h=>
  obtain⟨Z6,c,hd,Zy,Zx,hln,a,cap,hx,WR,Wy,hnil,Xb,Y0⟩:=h e2;have Zl:gE (σ2.c p.root p.off) p.hops=some (.ow c):=by rw[gv (by exact Z6)]at Zx;exact Zx
  rw[Zl]at hg;injection hg with hg
  subst hg;obtain⟨rfl,rfl⟩:=h4;refine⟨rfl,λsz ZX hs=>?_⟩;have Ya:((c.drop lo).take n).length=n:=by simp;omega
  obtain⟨fp,hown⟩:=zj hI Zy Zx;by_cases hn:n=0;subst hn;refine⟨a,cap,by rw[Ya];exact hx,λm vs hm hf=>?_⟩;have hm0:m=0:=by omega
  subst hm0;simp only[List.take_zero,List.flatten_nil,gJ,oSJ]at hf;subst hf;rw[hx];cases a with|none=>rfl|some a=>simp[Builtin.firstCells,loadCells,loadCellsFrom]
  have hsz0:Y'=sz:=by rw[<- hs 0 (by omega)];simp only[List.getElem_take,List.getElem_drop];exact(Xb _ (by omega)).symm
  subst hsz0;refine⟨a,cap,by rw[Ya];exact hx,λm vs hm hf=>yF (lo:=lo) (n:=n) hown (.inl rfl) Xb ZX rfl hln hx (λhn=>?_) (λhe=>?_) hm hf⟩;obtain⟨b,len,ZP,q1,q2⟩:=Y0 (by omega);exact⟨b,0,len,ZP,q1,by rw[q2];simp⟩;obtain⟨b,len,ZP,q1,q2⟩:=Y0 (by omega);rw[he]at q2;simp at q2
 |_=>simp[contentOf,SP.run]at hr
theorem wW{t t' ty e:TypeId}{sz:Nat}(hu:P.underlying t=some (.slice e))(hs:(P.info? e).map (·.size)=some sz){v:Value}{WJ:t_}{n2 cap2:Nat}(hv:v=.slice WJ n2 cap2){ad:t_}{n cap:Nat}{vs:w_}(hf:(Builtin.firstCells sz (min n2 n) v).run P w=.ok vs.toArray w) {w':World}(hst:match ad with|some a=>(storeCells a vs).run P w=.ok () w'|none=>w'=w):(Builtin.copy_ #[t,t'] ty #[.slice ad n cap,v]).run P w=.ok (goInt ((min n2 n:Nat):Int)) w':=by
 subst hv;cases hq:P.info? e with
 |none=>simp_all|some i=>
 have hi:i.size=sz:=by simp_all
 cases ad with|none=>subst hst;simp[Builtin.copy_,run_underlying hu,Builtin.lenOf,sizeOf,typeInfo,hq,hi,hf]|some a=>simp[Builtin.copy_,run_underlying hu,Builtin.lenOf,sizeOf,typeInfo,hq,hi,hf,hst]
theorem SE(hI:Inv M σ [] [] a.tmps w G){d:Nat}(hd:o.dst=some d)(hN:M.ok d){x y:Opd}{x' y':Operand}{t t' e sz:TypeId}(hx:fZ x'=some x)(hy:fZ y'=some y)(ho:o.op=.call { callee:=.builtin .copy,args:=#[x',y'],argTypes:=#[t,t'] }) (hu:P.underlying t=some (.slice e))(hs:(P.info? e).map (·.size)=some sz)(hr:(ev1 d (.cpy sz x y)).run σ=some ((),σ')):rx P M σ' a o w:=by
 simp only[ev1]at hr;obtain⟨tx,σ1,h1,h2⟩:=fN hr;obtain⟨rfl,Z0⟩:=ij hI.tmr hx h1;obtain⟨ty,σ2,h3,h4⟩:=fN h2;obtain⟨rfl,Xl⟩:=ij hI.tmr hy h3;obtain⟨c2,σ3,h5,h6⟩:=fN h4;obtain⟨rfl,hcont⟩:=MF hI Xl h5;have YJ:∀r w',(Builtin.copy_ #[t,t'] o.type #[a.eval x',a.eval y']).run P w=.ok r w'->(execOp a.eval o).run P w=.ok (.value r) w':=by intro r w' h;simp[execOp,ho,resolve,invoke,builtin,h]
 have ZT:∀(p:gf)(c:o_)(lo n:Nat)(vd hdv:Value)(ad:t_)(cap:Nat),p.root≠1->G.hv w p=some hdv->gE (σ3.c p.root p.off) p.hops=some (.ow c)->a.eval x'=vd->vd=.slice ad n cap->lo+n<=c.length ->(∀b0 len ZP,hdv=.slice (some ⟨b0,0,none⟩) len ZP->True)->(0<n->∃b len ZP,hdv=.slice (some ⟨b,0,none⟩) len ZP/\len=c.length/\ad=some ⟨b,lo*sz,none⟩)->(Gg d p (σ3.c p.root p.off) (Rf sz c c2 lo n)).run σ3=some ((),σ')->rx P M σ' a o w:=by
  intro p c lo n vd hdv ad cap Z6 Zy hg hvd hvs hln _ hbase hrun;unfold Rf at hrun;split at hrun
  ·rename_i ZE;split at hrun
   case isFalse=>simp[Gg,SP.run]at hrun
   rename_i YN;simp only[oBA,oDE,oAE,beq_iff_eq]at YN;obtain⟨WJ,cap2,Xj,W3⟩:=hcont sz YN.1 λi h=>YN.2 _ (oGX h);have hf:=W3 (min c2.length n) [] (Nat.min_le_left _ _) ZE;have hcp:=wW (t':=t') (ty:=o.type) (ad:=ad) (n:=n) (cap:=cap) (w':=w) hu hs Xj hf (by cases ad<;>rfl);simp only[Gg]at hrun;refine kG hI hd hN (.v rfl) hrun (YJ _ _ ?_);rw[hvd,hvs];exact hcp
  ·rename_i v vs ZE;split at hrun
   case isFalse=>simp[Gg,SP.run]at hrun
   rename_i YN;simp only[oBA,oDE,oAE,beq_iff_eq]at YN;obtain⟨⟨⟨⟨⟨k1,k2⟩,k3⟩,k4⟩,k5⟩,k6⟩:=YN;have Xy:∀i (h:i<c2.length),c2[i].length=sz:=λi h=>k3 _ (oGX h);obtain⟨WJ,cap2,Xj,W3⟩:=hcont sz k1 Xy;have hf:=W3 (min c2.length n) (v::vs) (Nat.min_le_left _ _) ZE
   have YR:(v::vs).length=min c2.length n*sz:=by rw[(IA ZE).1,GJ Xy (Nat.min_le_left _ _)]
   have hn0:0<n:=by
    rcases Nat.eq_zero_or_pos n with h|h
    ·subst h;simp at YR
    ·exact h
   obtain⟨b,len,ZP,hhd,hlen,Y0⟩:=hbase hn0;subst hlen;rw[hhd]at Zy;simp only[Gg]at hrun;obtain⟨l,hl,hol,h7⟩:=gG hrun
   obtain⟨⟨G1,hI1⟩,hcell⟩:=Qt Z6 k1 (v::vs) c (lo*sz) σ3 w G l (by simp) hI Zy hg rfl (λel YT=>k2 el YT) k6 (λt Yj YP=>by
    rw[YR]at YP;have hq1:lo<=t/sz:=(Nat.le_div_iff_mul_le k1).2 Yj;have Y3:t/sz<lo+min c2.length n:=(Nat.div_lt_iff_lt_mul k1).2 (by rw[Nat.add_mul];exact YP);have Yi:t%sz<sz:=Nat.mod_lt _ k1;have hic:t/sz<c.length:=Nat.lt_of_lt_of_le Y3 k4
    have Zz:c[t/sz]∈(c.drop lo).take (min c2.length n):=by
     obtain⟨q,hq⟩:∃q,t/sz=lo+q:=⟨t/sz-lo,by rw[Nat.add_sub_cancel' hq1]⟩;simp only[hq];rw[hq]at Y3;refine List.mem_of_getElem? (i:=q) ?_;rw[List.getElem?_take,oIP (Nat.lt_of_add_lt_add_left Y3),List.getElem?_drop];exact oGE _
    have hlt:t%sz<c[t/sz].length:=by rw[k2 _ (oGX hic)];exact Yi
    have hisv:=k5 _ Zz _ (oGX hlt);refine⟨c[t/sz],?_⟩
    cases hcv:c[t/sz][t%sz]with
    |v y=>exact⟨y,oGE hic,by rw[oGE hlt,hcv]⟩
    |_=>rw[hcv]at hisv;simp[isV]at hisv) hl hol
   have hst:=run_storeCells_cells (P:=P) b (lo*sz) (v::vs) 0 w (λj hj=>by simpa using(hcell j hj).1) (λj hj=>by simpa using(hcell j hj).2) (λu hu=>wQ (k6 u hu));have hcp:=wW (t':=t') (ty:=o.type) (ad:=ad) (n:=n) (cap:=cap) (w':=w.setCells b (lo*sz) (v::vs)) hu hs Xj hf (by rw[Y0];simpa using hst);have hrn:=YJ _ _ (by rw[hvd,hvs];exact hcp);simp only[wr,SP.run,oSJ,oPJ,true_and]at h7;have e9:σ'={ σ3.sub p l (.ow (rD sz c (lo*sz) (v::vs)))with tm:=iJ (σ3.sub p l (.ow (rD sz c (lo*sz) (v::vs)))).tm d (.v (.int .i64 ((min c2.length n:Nat):Int))) }:=h7.symm;rw[e9];refine⟨_,_,_,G1,hrn,.inl rfl,?_⟩;rw[hd];exact hI1.wrT hN (.v rfl)
  simp[Gg,SP.run]at hrun
 cases tx with
 |pk p vs=>
 simp only at h6;obtain⟨_,σ4,h7,h8⟩:=fN h6;have e1:σ4=σ3:=(gt h7).1;have e2:=(gt h7).2;subst e1;simp only[SP.run]at h8;generalize hz:a.eval x'=z at Z0;cases Z0 with
  |pk V0 h0 hv h=>
  obtain⟨Z6,c,Zy,Zx⟩:=h e2;have Zl:gE (σ4.c p.root p.off) p.hops=some (.ow c):=by rw[gv (by exact Z6)]at Zx;exact Zx
  rw[Zl]at h8;simp only at h8;obtain⟨fp,hown⟩:=zj hI Zy Zx;obtain⟨ad,cap,hzv,_⟩:=hown.hdr;refine ZT p c 0 c.length z z ad cap Z6 Zy Zl hz hzv (by simp) (λ_ _ _ _=>trivial) (λhn=>?_) h8;cases hown with
  |nil=>simp at hn| @ow _ _ b cap0 cur e' sz' u f hfp hb hsz hcap hz0 hmax hcur hcell hrec hnb hdis=>
  injection hzv with hzv _ _
  exact⟨b,_,_,rfl,rfl,by rw[<- hzv];simp⟩
 |pw p vs sz' lo n=>
 simp only at h6;obtain⟨_,σ4,h7,h8⟩:=fN h6;have e1:σ4=σ3:=(gt h7).1;have e2:=(gt h7).2;subst e1;simp only[SP.run]at h8;generalize hz:a.eval x'=z at Z0;cases Z0 with
  |pw V0 h0 hv h=>
  obtain⟨Z6,c,Yw,Zy,Zx,hln,ad,cap,hxv,WR,Wy,hnil,Xb,Y0⟩:=h e2;have Zl:gE (σ4.c p.root p.off) p.hops=some (.ow c):=by rw[gv (by exact Z6)]at Zx;exact Zx
  rw[Zl]at h8;simp only at h8;split at h8;case isFalse=>simp[SP.run]at h8
  rename_i O';subst O';obtain⟨fp,hown⟩:=zj hI Zy Zx;refine ZT p c lo n z Yw ad cap Z6 Zy Zl hz hxv hln (λ_ _ _ _=>trivial) (λhn=>?_) h8;obtain⟨b,len,ZP,q1,q2⟩:=Y0 (by omega);obtain⟨ad3,cap3,q3,_⟩:=hown.hdr;rw[q1]at q3;injection q3 with _ q3 _
  exact⟨b,len,ZP,q1,q3,q2⟩
 |_=>simp[SP.run]at h6
end
def Em(P:Program)(t:TypeId):x_:=(P.info? t).map (·.size)
def RH(P:Program)(t:TypeId):Option w_:=(P.info? t).bind (·.zero.map (·.cells.toList))
def KT(P:Program)(t:TypeId):Option x_:=match P.underlying t with|some (.struct _)=>(Em P t).map some|some (.array _ _)=>(Em P t).map some|some _=>some none|none=>none
def He:Option Operand->Option (Option Opd)|none=>some none|some x=>(fZ x).map some
def vD{α β:Type}(f:α->Option β):List α->Option (List β)| []=>some []|x::r=>match f x,vD f r with|some y,some l=>some (y::l)|_,_=>none
def BY(b:Bool):Option Unit:=if b then some ()else none
def Vz(mv n:Nat)(x:Opd):TOp:=.box n (mv==1) x
def jI(P:Program)(mv:Nat):Op->Option TOp
 |.move x=>match x with|.const (.agg cs)=>some (.asn true (.c (.agg cs)))|x=>(fZ x).map .mov
 |.assign x=>if mv=2 then(fZ x).map .mov else(fZ x).map (.asn (mv==1))|.pick c a b=>do some (.pick (<- fZ c) (<- fZ a) (<- fZ b))|.alloc e=>(RH P e).map .alloc|.box e x=>do some (Vz mv (<- Em P e) (<- fZ x))|.load t a=>do some (.load (<- KT P t) (<- fZ a))|.store t a x=>do
  let n <- Em P t
  BY (decide (0<n))
  some (.store n (mv==1) (<- fZ a) (<- fZ x))
 |.nilCheck x=>(fZ x).map .nilc|.binOp op t x y _=>
 match P.underlying t with
  |some .bool=>match op with|.eql=>do some (.bnb false (<- fZ x) (<- fZ y))|.neq=>do some (.bnb true (<- fZ x) (<- fZ y))|_=>none
  |some (.int _)=>do some (.bin op (<- fZ x) (<- fZ y))|some .string=>do some (.bin op (<- fZ x) (<- fZ y))|some (.struct _)=>
   if P.eqGuardType P.depth t then none
   else match vJ P 50 t with
    |some ks=>match op with
     |.eql=>do some (.eqa ks false (<- fZ x) (<- fZ y))
     |.neq=>do some (.eqa ks true (<- fZ x) (<- fZ y))
     |_=>none
    |none=>none
  |_=>none
 |.unOp op _ x=>(fZ x).map (.un op)|.convert s d x=>
 match P.underlying s,P.underlying d with
  |some (.int _),some (.int k)=>(fZ x).map (.conv k)|some .string,some (.slice e)=>match P.underlying e with|some (.int .u8)=>(fZ x).map .s2b|_=>none
  |_,_=>none
 |.fieldAddr s x f=>
 match P.underlying s with
  |some (.struct fs)=>match fs[f]? with
   |some fd=>match Em P fd.type with|some (_+1)=>(fZ x).map (.fld fd.offset)|_=>none
   |none=>none
  |_=>none
 |.indexAddr t x i=>match P.underlying t with|some (.slice e)=>do some (.idx (<- Em P e) (<- fZ x) (<- fZ i))|some (.array n e)=>do some (.idxa n (<- Em P e) (<- fZ x) (<- fZ i))|_=>none
 |.index t x i=>match P.underlying t with|some .string=>do some (.ixs (<- fZ x) (<- fZ i))|_=>none
 |.extract x i=>(fZ x).map λx=>.ext x i|.makeSlice t l c=>
 match P.underlying t with
  |some (.slice e)=>match P.info? e with
   |some i=>match i.zero with
    |some z=>do
     BY (decide (i.bytes<=16777216*i.size)&&decide (0<i.size))
     some (.mks i.size z.cells.toList (<- fZ l) (<- fZ c))
    |none=>none
   |none=>none
  |_=>none
 |.slice t x lo hi mx=>match mx with|some m=>none|none=>match P.underlying t with|some (.slice e)=>do some (.slc (<- Em P e) (<- fZ x) (<- He lo) (<- He hi))|_=>none
 |.buildSlice t len parts=>
 match P.underlying t with
  |some (.slice e)=>match P.info? e with
   |some i=>do
    BY ((i.zero.isSome||len*i.size==0)&&decide (len*i.size<=16777216)&&decide (len<=16777216)&&parts.toList.map (·.1)==List.range len)
    some (.bsl i.size (mv==1) len (<- vD (λp=>fZ p.2) parts.toList))
   |none=>none
  |_=>none
 |.build t parts=>
 match P.underlying t,RH P t with
  |some (.struct fs),some z=>do
   BY (fs.toList.all λf=>(Em P f.type).isSome)
   let ps <- vD (λp=>match fs[p.1]? with
    |some f=>match Em P f.type,fZ p.2 with
     |some n,some x=>if f.offset+n<=z.length then some (f.offset,n,x)else none
     |_,_=>none
    |none=>none) parts.toList
   some (.bld z (mv==1) ps)
  |some (.array _ e),some z=>match Em P e with
   |some sz=>do
    let ps <- vD (λp=>match fZ p.2 with
     |some x=>if p.1*sz+sz<=z.length then some (p.1*sz,sz,x)else none
     |none=>none) parts.toList
    some (.bld z (mv==1) ps)
   |none=>none
  |_,_=>none
 |.call c=>
 match c with
  | { callee:=.builtin .append,args,argTypes }=>match args.toList,argTypes.toList with
   | [s,x],[t,t']=>if t=t' then
    match P.underlying t with
    |some (.slice e)=>match P.info? e with
     |some i=>match i.zero with
      |some z=>do
       BY (z.cells.size==i.size&&decide (0<i.size))
       some (.app i.size i.bytes (mv==1) (z.cells.all kn) (<- fZ s) (<- fZ x))
      |none=>none
     |none=>none
    |_=>none
    else none
   |_,_=>none
  | { callee:=.builtin .copy,args,argTypes }=>match args.toList,argTypes.toList with
   | [x,y],[t,_]=>match P.underlying t with|some (.slice e)=>do some (.cpy (<- Em P e) (<- fZ x) (<- fZ y))|_=>none
   |_,_=>none
  | { callee:=.builtin .min,args,argTypes:=_ }=>(vD fZ args.toList).map (.mm false)| { callee:=.builtin .max,args,argTypes:=_ }=>(vD fZ args.toList).map (.mm true)| { callee:=.builtin .len,args,argTypes }=>match args.toList,argTypes.toList with
   | [x],[t]=>match P.underlying t with|some (.slice _)=>(fZ x).map .len|some .string=>(fZ x).map .lens|_=>none
   |_,_=>none
  |_=>none
 |_=>none
theorem Hl{P:Program}{t:TypeId}{n:x_}(h:KT P t=some n):Pv P t n:=by
 unfold KT at h;split at h;rename_i f hu;cases hs:Em P t with|none=>simp_all|some k=>simp[hs]at h;subst h;exact⟨⟨_,hu,.inl ⟨_,rfl⟩⟩,hs⟩
 rename_i n e hu;cases hs:Em P t with|none=>simp_all|some k=>simp[hs]at h;subst h;exact⟨⟨_,hu,.inr ⟨_,_,rfl⟩⟩,hs⟩
 rename_i d Yn hd2 hu;injection h with h
 subst h;exact⟨d,hu,λf e=>Yn f (by rw[<- e]),λn e' e=>hd2 n e' (by rw[<- e])⟩;simp at h
theorem Hd{x:Option Operand}{y:Option Opd}(h:He x=some y):x.map fZ=y.map some:=by cases x with|none=>simp[He]at h;subst h;rfl|some x=>simp[He]at h;cases hc:fZ x with|none=>simp_all|some z=>simp[hc]at h;subst h;simp[hc]
theorem t8{α β:Type}{f:α->Option β}:∀{l:List α}{r:List β},vD f l=some r->l.map f=r.map some:=by intro l;induction l with|nil=>intro r h;simp[vD]at h;subst h;rfl|cons x l ih=>intro r h;simp[vD]at h;cases hx:f x with|none=>simp_all|some y=>cases hl:vD f l with|none=>simp_all|some q=>simp[hx,hl]at h;subst h;simp[hx,ih hl]
theorem uk{b:Bool}{u:Unit}(h:BY b=some u):b=true:=by unfold BY at h;simp_all
theorem gd{α β:Type}{x:Option α}{f:α->Option β}{y:β}(h:(x >>= f)=some y):∃a,x=some a/\f a=some y:=by cases x with|none=>simp_all|some a=>simp_all
theorem kF{α β:Type}{x:Option α}{f:α->β}{y:β}(h:x.map f=some y):∃a,x=some a/\f a=y:=by simp_all
section
variable {P:Program} {M:Fm} {σ σ':St} {ts:s_} {w:World} {G:Gh} {a:Act} {o:Oper}
theorem Sv(hI:Inv M σ [] [] a.tmps w G){d:Nat}(hd:o.dst=some d)(hN:M.ok d)(YX:M.pr (2*d+2)=none){mv:Nat}{t:TOp}(hc:jI P mv o.op=some t)(hr:(ev1 d t).run σ=some ((),σ'))(hns:¬ ∃ty x y,o.op=.store ty x y):rx P M σ' a o w:=by
 cases ho:o.op with
 |move x=>
 rw[ho]at hc;simp only[jI]at hc;split at hc;injection hc with hc
 subst hc;exact Nw hI hd hN rfl (.inr ho) hr;obtain⟨y,hy,rfl⟩:=kF hc;exact Nl hI hd hN hy (.inl ho) hr
 |assign x=>rw[ho]at hc;simp only[jI]at hc;split at hc;obtain⟨y,hy,rfl⟩:=kF hc;exact Nl hI hd hN hy (.inr ho) hr;obtain⟨y,hy,rfl⟩:=kF hc;exact Nw hI hd hN hy (.inl ho) hr|pick c x y=>
 rw[ho]at hc;simp only[jI]at hc;obtain⟨c1,h1,hc⟩:=gd hc;obtain⟨x1,h2,hc⟩:=gd hc;obtain⟨y1,h3,hc⟩:=gd hc;injection hc with hc
 subst hc;exact P1 hI hd hN h1 h2 h3 ho hr
 |alloc e=>rw[ho]at hc;obtain⟨z,hz,rfl⟩:=kF hc;exact Nx hI hd hN YX ho hz hr|box e x=>
 rw[ho]at hc;simp only[jI]at hc;obtain⟨n,h1,hc⟩:=gd hc;obtain⟨y,h2,hc⟩:=gd hc;injection hc with hc
 subst hc;exact SG hI hd hN YX h2 ho hr
 |load t' x=>
 rw[ho]at hc;simp only[jI]at hc;obtain⟨n,h1,hc⟩:=gd hc;obtain⟨y,h2,hc⟩:=gd hc;injection hc with hc
 subst hc;exact P4 hI hd hN h2 ho (Hl h1) hr
 |nilCheck x=>rw[ho]at hc;obtain⟨y,hy,rfl⟩:=kF hc;exact P2 hI hd hN hy ho hr|binOp op ty x y yt=>
 rw[ho]at hc;simp only[jI]at hc;have key:(do some (TOp.bin op (<- fZ x) (<- fZ y)):Option TOp)=some t->rx P M σ' a o w:=by
  intro hc;obtain⟨x1,h2,hc⟩:=gd hc;obtain⟨y1,h3,hc⟩:=gd hc;injection hc with hc
  subst hc;exact SI hI hd hN h2 h3 ho hr
 split at hc;rename_i hu;split at hc;obtain⟨x1,h2,hc⟩:=gd hc;obtain⟨y1,h3,hc⟩:=gd hc;injection hc with hc
 subst hc;exact Nv hI hd hN h2 h3 ho (.inl ⟨rfl,rfl⟩) hu hr;obtain⟨x1,h2,hc⟩:=gd hc;obtain⟨y1,h3,hc⟩:=gd hc;injection hc with hc
 subst hc;exact Nv hI hd hN h2 h3 ho (.inr ⟨rfl,rfl⟩) hu hr;simp at hc;exact key hc;exact key hc
 ·rename_i fs hu;split at hc
  case isTrue=>simp at hc
  rename_i hgd;split at hc
  case h_2=>simp at hc
  rename_i ks hk;split at hc
  ·obtain⟨x1,h2,hc⟩:=gd hc;obtain⟨y1,h3,hc⟩:=gd hc
   injection hc with hc
   subst hc;exact Ns hI hd hN h2 h3 ho (.inl ⟨rfl,rfl⟩) hu hk (by simpa using hgd) hr
  ·obtain⟨x1,h2,hc⟩:=gd hc;obtain⟨y1,h3,hc⟩:=gd hc
   injection hc with hc
   subst hc;exact Ns hI hd hN h2 h3 ho (.inr ⟨rfl,rfl⟩) hu hk (by simpa using hgd) hr
  ·simp at hc
 simp at hc
 |unOp op ty x=>rw[ho]at hc;obtain⟨y,hy,rfl⟩:=kF hc;exact Ua hI hd hN hy ho hr|convert s dd x=>rw[ho]at hc;simp only[jI]at hc;split at hc;rename_i ks k hs hdd;obtain⟨y,hy,rfl⟩:=kF hc;exact P8 hI hd hN hy ho hs hdd hr;rename_i e hs hdd;split at hc;rename_i he;obtain⟨y,hy,rfl⟩:=kF hc;exact Ss hI hd hN hy ho hs hdd he hr;simp at hc;simp at hc|fieldAddr s x f=>rw[ho]at hc;simp only[jI]at hc;split at hc;rename_i fs hu;split at hc;rename_i fd hf;split at hc;rename_i n hs;obtain⟨y,hy,rfl⟩:=kF hc;exact SC hI hd hN hy ho hu hf ⟨_,hs⟩ hr;simp at hc;simp at hc;simp at hc|indexAddr ty x i=>
 rw[ho]at hc;simp only[jI]at hc;split at hc;rename_i e hu;obtain⟨n,h1,hc⟩:=gd hc;obtain⟨y,h2,hc⟩:=gd hc;obtain⟨z,h3,hc⟩:=gd hc;injection hc with hc
 subst hc;exact SA hI hd hN h2 h3 ho hu h1 hr;rename_i n e hu;obtain⟨sz,h1,hc⟩:=gd hc;obtain⟨y,h2,hc⟩:=gd hc;obtain⟨z,h3,hc⟩:=gd hc;injection hc with hc
 subst hc;exact P6 hI hd hN h2 h3 ho hu h1 hr;simp at hc
 |index ty x i=>
 rw[ho]at hc;simp only[jI]at hc;split at hc;rename_i hu;obtain⟨y,h2,hc⟩:=gd hc;obtain⟨z,h3,hc⟩:=gd hc;injection hc with hc
 subst hc;exact Sz hI hd hN h2 h3 ho hu hr;simp at hc
 |extract x i=>rw[ho]at hc;obtain⟨y,hy,rfl⟩:=kF hc;exact SD hI hd hN hy ho hr|makeSlice ty l c=>
 rw[ho]at hc;simp only[jI]at hc;split at hc;rename_i e hu;split at hc;rename_i i hi;split at hc;rename_i z hz;obtain⟨u,h1,hc⟩:=gd hc;obtain⟨y,h2,hc⟩:=gd hc;obtain⟨y2,h3,hc⟩:=gd hc;injection hc with hc
 subst hc;have hg:=uk h1;simp only[oBA,oDE]at hg;exact Sx hI hd hN h2 h3 ho hu hi hz rfl rfl hg.1 hg.2 hr;simp at hc;simp at hc;simp at hc
 |slice ty x lo hi mx=>
 rw[ho]at hc;simp only[jI]at hc;split at hc;simp at hc;split at hc;rename_i e hu;obtain⟨n,h1,hc⟩:=gd hc;obtain⟨y,h2,hc⟩:=gd hc;obtain⟨l1,h3,hc⟩:=gd hc;obtain⟨h4,h5,hc⟩:=gd hc;injection hc with hc
 subst hc;exact Sr hI hd hN h2 (Hd h3) (Hd h5) ho hu h1 hr;simp at hc
 |buildSlice ty len parts=>
 rw[ho]at hc;simp only[jI]at hc;split at hc;rename_i e hu;split at hc;rename_i i hi;obtain⟨u,h1,hc⟩:=gd hc;obtain⟨l,h2,hc⟩:=gd hc;injection hc with hc
 subst hc;have hg:=uk h1;simp only[oBA,Bool.or_eq_true,oDE,beq_iff_eq]at hg;obtain⟨⟨⟨g1,g2⟩,g3⟩,g4⟩:=hg;refine SF hI hd hN ho hu hi rfl (λh0=>?_) g4 (t8 h2) g2 g3 hr;rcases g1 with g1|g1;exact Option.isSome_iff_exists.1 g1;omega;simp at hc;simp at hc
 |build ty parts=>
 rw[ho]at hc;simp only[jI]at hc;split at hc;rename_i fs z hu hz;obtain⟨u,h1,hc⟩:=gd hc;obtain⟨ps,h2,hc⟩:=gd hc;injection hc with hc
 subst hc;have hg:=uk h1;simp only[oAE]at hg;have hm:=t8 h2;refine SH hI hd hN (szf:=λf=>(Em P f.type).getD 0) ho hu hz (λf hf=>?_) ?_ (λk h h'=>?_) hr;have:=hg f hf;obtain⟨n,hn⟩:=Option.isSome_iff_exists.1 this;rw[hn];exact hn;have:=congrArg List.length hm;simpa using this;have hk:(parts.toList.map (λp=>match fs[p.1]? with
  |some f=>match Em P f.type,fZ p.2 with
   |some n,some x=>if f.offset+n<=z.length then some (f.offset,n,x)else none
   |_,_=>none
  |none=>none))[k]?=(ps.map some)[k]?:=by rw[hm]
 simp only[oGP,oGE h',oMS,Array.getElem?_toList,Array.getElem?_eq_getElem h]at hk;cases hf:fs[parts[k].1]? with
 |none=>simp[hf]at hk|some f=>
  cases hs:Em P f.type with
  |none=>simp[hf,hs]at hk|some n=>
  cases hx:fZ parts[k].2 with
  |none=>simp[hf,hs,hx]at hk|some x=>
  simp only[hf,hs,hx,oSJ]at hk;split at hk;rename_i Yh;injection hk with hk
  rw[<- hk];exact⟨rfl,by simp[hs],Yh⟩;simp at hk
 rename_i n e z hu hz;split at hc;rename_i sz hsz;obtain⟨ps,h2,hc⟩:=gd hc;injection hc with hc
 subst hc;have hm:=t8 h2;refine P9 hI hd hN ho hu hz hsz ?_ (λk h h'=>?_) hr;have:=congrArg List.length hm;simpa using this;have hk:(parts.toList.map (λp=>match fZ p.2 with
  |some x=>if p.1*sz+sz<=z.length then some (p.1*sz,sz,x)else none
  |none=>none))[k]?=(ps.map some)[k]?:=by rw[hm]
 simp only[oGP,oGE h',oMS,Array.getElem?_toList,Array.getElem?_eq_getElem h]at hk;cases hx:fZ parts[k].2 with
 |none=>simp[hx]at hk|some x=>
  simp only[hx,oSJ]at hk;split at hk;rename_i Yh;injection hk with hk
  rw[<- hk];exact⟨rfl,rfl,rfl,Yh⟩;simp at hk
 simp at hc;simp at hc
 |call c=>
 rw[ho]at hc;simp only[jI]at hc;split at hc;rename_i args argTypes;split at hc;rename_i s x t1 t2 ea et;have ea:args=#[s,x]:=by rw[<- Array.toArray_toList (xs:=args),ea]
 have et:argTypes=#[t1,t2]:=by rw[<- Array.toArray_toList (xs:=argTypes),et]
 subst ea;subst et;split at hc;rename_i hteq;subst hteq;split at hc;rename_i e hu;split at hc;rename_i i hi;split at hc;rename_i z hz;obtain⟨u,h1,hc⟩:=gd hc;obtain⟨y,h2,hc⟩:=gd hc;obtain⟨y2,h3,hc⟩:=gd hc;injection hc with hc
 subst hc;have hg:=uk h1;simp only[oBA,oDE,beq_iff_eq]at hg;exact SJ hI hd hN h2 h3 ho hu hi hz hg.1 rfl rfl hg.2 hr;simp at hc;simp at hc;simp at hc;simp at hc;simp at hc;rename_i args argTypes;split at hc;rename_i x y t1 t2 ea et;have ea:args=#[x,y]:=by rw[<- Array.toArray_toList (xs:=args),ea]
 have et:argTypes=#[t1,t2]:=by rw[<- Array.toArray_toList (xs:=argTypes),et]
 subst ea;subst et;split at hc;rename_i e hu;obtain⟨sz,h1,hc⟩:=gd hc;obtain⟨y1,h2,hc⟩:=gd hc;obtain⟨y2,h3,hc⟩:=gd hc;injection hc with hc
 subst hc;exact SE hI hd hN h2 h3 ho hu h1 hr;simp at hc;simp at hc;rename_i args argTypes;obtain⟨l,h1,rfl⟩:=kF hc;exact RP (mx:=false) hI hd hN (t8 h1) ho hr;rename_i args argTypes;obtain⟨l,h1,rfl⟩:=kF hc;exact RP (mx:=true) hI hd hN (t8 h1) ho hr;rename_i args argTypes;split at hc;rename_i x t1 ea et;have ea:args=#[x]:=by rw[<- Array.toArray_toList (xs:=args),ea]
 have et:argTypes=#[t1]:=by rw[<- Array.toArray_toList (xs:=argTypes),et]
 subst ea;subst et;split at hc;rename_i e hu;obtain⟨y,hy,rfl⟩:=kF hc;exact Sy hI hd hN hy ho hu hr;rename_i hu;obtain⟨y,hy,rfl⟩:=kF hc;exact P5 hI hd hN hy ho hu hr;simp at hc;simp at hc;simp at hc
 |store ty x y=>
 rw[ho]at hc;simp only[jI]at hc;obtain⟨n,h1,hc⟩:=gd hc;obtain⟨u,h2,hc⟩:=gd hc;obtain⟨x1,h3,hc⟩:=gd hc;obtain⟨y1,h4,hc⟩:=gd hc;injection hc with hc
 subst hc;exact absurd hns (by simp[ho])
 |_=>rw[ho]at hc;simp[jI]at hc
end
inductive Loc where
 |t (i:Nat)
 |c (r o:Nat)
 |h (r o:Nat)
 |n (r:Nat)
 |v (q:Key)
 deriving DecidableEq
def Loc.hit:Loc->Loc->Bool|.t i,.t j=>i==j|.c r o,.c r' o'=>r==r'&&o==o'|.n r,.n r'=>r==r'|.n r,.c r' _=>r==r'|.h r o,.h r' o'=>r==r'&&o==o'|.n r,.h r' _=>r==r'|.v q,.v q'=>q==q'|_,_=>false
abbrev vm:=List Loc×List Loc
def hdW(r o:Nat)(t t':TV):List Loc:=if t'.hd=t.hd then[]else[.h r o]
def SP.foot{α:Type}:SP α->St->vm
 |.ret _,_=>([],[])|.fail,_=>([],[])|.rdT i k,σ=>(.t i::((k (σ.t i)).foot σ).1,((k (σ.t i)).foot σ).2)|.rdC r o k,σ=>(.c r o::((k (σ.c r o)).foot σ).1,((k (σ.c r o)).foot σ).2)|.rdH r o k,σ=>(.h r o::((k (σ.c r o).hd).foot σ).1,((k (σ.c r o).hd).foot σ).2)|.rdV q k,σ=>(.v q::((k (σ.v q)).foot σ).1,((k (σ.v q)).foot σ).2)|.wrT i t k,σ=>((k.foot { σ with tm:=iJ σ.tm i t }).1,.t i::(k.foot { σ with tm:=iJ σ.tm i t }).2)
 |.wrC r o t k,σ=>
 match gD σ.ce r with
  |some l=>if o<l.length then(.n r :: .h r o::(k.foot { σ with ce:=iJ σ.ce r (l.set o t) }).1,.c r o::(hdW r o (σ.c r o) t++(k.foot { σ with ce:=iJ σ.ce r (l.set o t) }).2))else([],[])
  |none=>([],[])
 |.new r l k,σ=>(.v (r,0,0)::(k.foot { σ with ce:=iJ σ.ce r l,vr:=tA σ.vr (r,0,0) }).1,.n r :: .v (r,0,0)::(k.foot { σ with ce:=iJ σ.ce r l,vr:=tA σ.vr (r,0,0) }).2)
 |.bump q k,σ=>(.v q::(k.foot { σ with vr:=tA σ.vr q }).1,.v q::(k.foot { σ with vr:=tA σ.vr q }).2)
def ly(σ σ':St):Loc->Prop|.t i=>gD σ.tm i=gD σ'.tm i|.c r o=>σ.c r o=σ'.c r o|.h r o=>(σ.c r o).hd=(σ'.c r o).hd|.n r=>(gD σ.ce r).map List.length=(gD σ'.ce r).map List.length|.v q=>σ.v q=σ'.v q
def TK(σ σ':St):Prop:=∀x,ly σ σ' x
theorem ly.refl(σ:St)(x:Loc):ly σ σ x:=by cases x<;>rfl
theorem ly.symm{σ σ':St}{x:Loc}(h:ly σ σ' x):ly σ' σ x:=by cases x<;>exact Eq.symm h
theorem ly.trans{σ σ' σ'':St}{x:Loc}(h:ly σ σ' x)(h':ly σ' σ'' x):ly σ σ'' x:=by cases x<;>exact Eq.trans h h'
theorem PC{σ:St}{r o:Nat}{t:TV}{l:U_}(h:gD σ.ce r=some l)(ho:o<l.length)(r' o':Nat):St.c { σ with ce:=iJ σ.ce r (l.set o t) } r' o'=if r'=r/\o'=o then t else σ.c r' o':=by have:=congrFun (congrFun (DE (t:=t) h ho) r') o';exact this
theorem Vo{σ:St}{r:Nat}{l l':U_}(h:gD σ.ce r=some l)(hl:l'.length=l.length)(r':Nat):(gD (iJ σ.ce r l') r').map List.length=(gD σ.ce r').map List.length:=by rw[gN];grind
theorem MN{σ:St}{r:Nat}{l:U_}{vr:m_}(r' o':Nat):St.c { σ with ce:=iJ σ.ce r l,vr:=vr } r' o'=if r'=r then l.getD o' .dead else σ.c r' o':=by unfold St.c;simp[gN];grind
theorem mu{α:Type}{s:SP α}:∀{σ:St}{a:α}{τ:St},s.run σ=some (a,τ)->∀x,(∀w∈(s.foot σ).2,w.hit x=false)->ly σ τ x:=by
 induction s with
 |ret a=>intro σ b τ h x _;simp only[SP.run,oSJ,oPJ]at h;rw[h.2];exact ly.refl _ _|fail=>intro σ b τ h;simp[SP.run]at h|rdT i k ih=>intro σ b τ h x hx;exact ih _ h x hx|rdC r o k ih=>intro σ b τ h x hx;exact ih _ h x hx|rdH r o k ih=>intro σ b τ h x hx;exact ih _ h x hx|rdV q k ih=>intro σ b τ h x hx;exact ih _ h x hx|wrT i t k ih=>intro σ b τ h x hx;refine ly.trans ?_ (ih h x λw hw=>hx w (by simp[SP.foot,hw]));have h1:=hx (.t i) (by simp[SP.foot]);cases x with|t j=>simp only[Loc.hit,beq_eq_false_iff_ne,ne_eq]at h1;simp[ly,gN,h1]|_=>exact rfl
 |wrC r o t k ih=>intro σ b τ h x hx;obtain⟨l,hl,ho,h2⟩:=gG h;simp only[SP.foot,hl,ho,if_true]at hx;refine ly.trans ?_ (ih h2 x λw hw=>hx w (by simp[hw]));have h1:=hx (.c r o) (by simp);cases x with|c r' o'=>simp only[Loc.hit,Bool.and_eq_false_imp,beq_iff_eq,beq_eq_false_iff_ne,ne_eq]at h1;show σ.c r' o'=_;rw[PC hl ho,oIN];omega|h r' o'=>show(σ.c r' o').hd=TV.hd (St.c _ r' o');rw[PC hl ho];split;rename_i e;obtain⟨e1,e2⟩:=e;subst e1;subst e2;by_cases hh:t.hd=(σ.c r' o').hd;simp_all;have:=hx (.h r' o') (by simp[hdW,hh]);simp[Loc.hit]at this;rfl|n r'=>exact(Vo hl (by simp) r').symm|_=>exact rfl
 |new r l k ih=>intro σ b τ h x hx;refine ly.trans ?_ (ih h x λw hw=>hx w (by simp[SP.foot,hw]));have h1:=hx (.n r) (by simp[SP.foot]);have h2:=hx (.v (r,0,0)) (by simp[SP.foot]);cases x with|t j=>exact rfl|c r' o'=>simp only[Loc.hit,beq_eq_false_iff_ne,ne_eq]at h1;show σ.c r' o'=_;rw[MN,oIN (Ne.symm h1)]|h r' o'=>simp only[Loc.hit,beq_eq_false_iff_ne,ne_eq]at h1;show(σ.c r' o').hd=TV.hd (St.c _ r' o');rw[MN,oIN (Ne.symm h1)]|n r'=>simp only[Loc.hit,beq_eq_false_iff_ne,ne_eq]at h1;simp[ly,gN,h1]|v q=>simp only[Loc.hit,beq_eq_false_iff_ne,ne_eq]at h2;show nw σ.vr q=nw (tA σ.vr (r,0,0)) q;rw[jn,oIN h2];rfl
 |bump q k ih=>intro σ b τ h x hx;refine ly.trans ?_ (ih h x λw hw=>hx w (by simp[SP.foot,hw]));have h2:=hx (.v q) (by simp[SP.foot]);cases x with|v q'=>simp only[Loc.hit,beq_eq_false_iff_ne,ne_eq]at h2;show nw σ.vr q'=nw (tA σ.vr q) q';rw[jn,oIN h2];rfl|_=>exact rfl
theorem pQ{α:Type}{s:SP α}:∀{σ σ':St}{a:α}{τ:St},s.run σ=some (a,τ)->(∀x∈(s.foot σ).1,ly σ σ' x)->s.foot σ'=s.foot σ/\∃ τ',s.run σ'=some (a,τ')/\∀x,(ly σ σ' x\/∃w∈(s.foot σ).2,w.hit x=true)->ly τ τ' x:=by
 induction s with
 |ret a=>intro σ σ' b τ h hr;obtain⟨rfl,rfl⟩:=h;exact⟨rfl,σ',rfl,λx hx=>hx.elim id λ⟨w,hw,_⟩=>by simp[SP.foot]at hw⟩|fail=>intro σ σ' b τ h;simp[SP.run]at h|rdT i k ih=>
 intro σ σ' b τ h hr;have h1:σ.t i=σ'.t i:=by have:gD σ.tm i=gD σ'.tm i:=hr (.t i) (by simp[SP.foot]);simp[St.t,this]
 obtain⟨e,τ',h2,h3⟩:=ih _ h λx hx=>hr x (by simp[SP.foot,hx]);refine⟨by simp only[SP.foot];rw[<- h1,e],τ',by simp only[SP.run];rw[<- h1];exact h2,h3⟩
 |rdC r o k ih=>intro σ σ' b τ h hr;have h1:σ.c r o=σ'.c r o:=hr (.c r o) (by simp[SP.foot]);obtain⟨e,τ',h2,h3⟩:=ih _ h λx hx=>hr x (by simp[SP.foot,hx]);refine⟨by simp only[SP.foot];rw[<- h1,e],τ',by simp only[SP.run];rw[<- h1];exact h2,h3⟩|rdH r o k ih=>intro σ σ' b τ h hr;have h1:(σ.c r o).hd=(σ'.c r o).hd:=hr (.h r o) (by simp[SP.foot]);obtain⟨e,τ',h2,h3⟩:=ih _ h λx hx=>hr x (by simp[SP.foot,hx]);refine⟨by simp only[SP.foot];rw[<- h1,e],τ',by simp only[SP.run];rw[<- h1];exact h2,h3⟩|rdV q k ih=>intro σ σ' b τ h hr;have h1:σ.v q=σ'.v q:=hr (.v q) (by simp[SP.foot]);obtain⟨e,τ',h2,h3⟩:=ih _ h λx hx=>hr x (by simp[SP.foot,hx]);refine⟨by simp only[SP.foot];rw[<- h1,e],τ',by simp only[SP.run];rw[<- h1];exact h2,h3⟩|wrT i t k ih=>
 intro σ σ' b τ h hr;have hal:∀x,(ly σ σ' x\/x=.t i)->ly { σ with tm:=iJ σ.tm i t } { σ' with tm:=iJ σ'.tm i t } x:=by
  rintro x (hx|rfl);cases x with|t j=>show gD (iJ σ.tm i t) j=gD (iJ σ'.tm i t) j;rw[gN,gN];split;rfl;exact hx|_=>exact hx
  show gD (iJ σ.tm i t) i=gD (iJ σ'.tm i t) i;rw[gN,gN];simp
 obtain⟨e,τ',h2,h3⟩:=ih (σ':={ σ' with tm:=iJ σ'.tm i t }) h λx hx=>hal x (.inl (hr x (by simp[SP.foot,hx])));refine⟨by simp only[SP.foot];rw[e],τ',h2,λx hx=>h3 x ?_⟩;rcases hx with hx|⟨w,hw,hh⟩;exact .inl (hal x (.inl hx));simp only[SP.foot,oMC]at hw;rcases hw with rfl|hw;left;refine hal x (.inr ?_);cases x<;>simp[Loc.hit]at hh;rw[hh]
 exact .inr ⟨w,hw,hh⟩
 |wrC r o t k ih=>
 intro σ σ' b τ h hr;obtain⟨l,hl,ho,h0⟩:=gG h;simp only[SP.foot,hl,ho,if_true]at hr⊢;have hn:(gD σ.ce r).map List.length=(gD σ'.ce r).map List.length:=hr (.n r) (by simp);obtain⟨l',YG,hll⟩:∃l',gD σ'.ce r=some l'/\l'.length=l.length:=by rw[hl]at hn;cases ha:gD σ'.ce r with|none=>rw[ha]at hn;simp at hn|some l'=>rw[ha]at hn;exact⟨l',rfl,by simpa using hn.symm⟩
 have Zv:o<l'.length:=by omega
 have hh:(σ.c r o).hd=(σ'.c r o).hd:=hr (.h r o) (by simp);have hW:hdW r o (σ'.c r o) t=hdW r o (σ.c r o) t:=by unfold hdW;rw[hh]
 have hal:∀x,(ly σ σ' x\/x=.c r o\/x=.h r o)->ly { σ with ce:=iJ σ.ce r (l.set o t) } { σ' with ce:=iJ σ'.ce r (l'.set o t) } x:=by
  rintro x (hx|rfl|rfl);cases x with|c r' o'=>show St.c _ r' o'=St.c _ r' o';rw[PC hl ho,PC YG Zv];split;rfl;exact hx|h r' o'=>show TV.hd (St.c _ r' o')=TV.hd (St.c _ r' o');rw[PC hl ho,PC YG Zv];split;rfl;exact hx|n r'=>show Option.map _ _=Option.map _ _;rw[Vo hl (by simp),Vo YG (by simp)];exact hx|_=>exact hx
  show St.c _ r o=St.c _ r o;rw[PC hl ho,PC YG Zv];simp;show TV.hd (St.c _ r o)=TV.hd (St.c _ r o);rw[PC hl ho,PC YG Zv];simp
 obtain⟨e,τ',h2,h3⟩:=ih (σ':={ σ' with ce:=iJ σ'.ce r (l'.set o t) }) h0 λx hx=>hal x (.inl (hr x (by simp[hx])));refine⟨by simp only[YG,Zv,if_true];rw[e,hW],τ',by simp only[SP.run,YG,Zv,if_true];exact h2,λx hx=>h3 x ?_⟩;rcases hx with hx|⟨w,hw,hh⟩;exact .inl (hal x (.inl hx));simp only[oMC,oMA]at hw;rcases hw with rfl|hw|hw;left;refine hal x (.inr (.inl ?_));cases x<;>simp[Loc.hit]at hh;rw[hh.1,hh.2]
 left;refine hal x (.inr (.inr ?_));unfold hdW at hw;split at hw;simp at hw;simp only[List.mem_singleton]at hw;subst hw;cases x<;>simp[Loc.hit]at hh;rw[hh.1,hh.2]
 exact .inr ⟨w,hw,hh⟩
 |new r l k ih=>
 intro σ σ' b τ h hr;have hv:σ.v (r,0,0)=σ'.v (r,0,0):=hr (.v (r,0,0)) (by simp[SP.foot])
 have hal:∀x,(ly σ σ' x\/(Loc.n r).hit x=true)->ly { σ with ce:=iJ σ.ce r l,vr:=tA σ.vr (r,0,0) } { σ' with ce:=iJ σ'.ce r l,vr:=tA σ'.vr (r,0,0) } x:=by
  intro x hx;cases x with
  |t j=>rcases hx with hx|hx
        ·exact hx
        ·simp[Loc.hit]at hx
  |c r' o'=>show St.c _ r' o'=St.c _ r' o';rw[MN,MN];split;rfl;rename_i e;rcases hx with hx|hx;exact hx;simp[Loc.hit]at hx;exact absurd hx.symm e
  |h r' o'=>show TV.hd (St.c _ r' o')=TV.hd (St.c _ r' o');rw[MN,MN];split;rfl;rename_i e;rcases hx with hx|hx;exact hx;simp[Loc.hit]at hx;exact absurd hx.symm e
  |n r'=>show Option.map _ (gD (iJ _ _ _) _)=Option.map _ (gD (iJ _ _ _) _);rw[gN,gN];split;rfl;rename_i e;rcases hx with hx|hx;exact hx;simp[Loc.hit]at hx;exact absurd hx e
  |v q=>show nw (tA _ _) q=nw (tA _ _) q;rw[jn,jn];rcases hx with hx|hx;have hx:nw σ.vr q=nw σ'.vr q:=hx;rw[hx];simp[Loc.hit]at hx
 obtain⟨e,τ',h2,h3⟩:=ih (σ':={ σ' with ce:=iJ σ'.ce r l,vr:=tA σ'.vr (r,0,0) }) h λx hx=>hal x (.inl (hr x (by simp[SP.foot,hx])));refine⟨by simp only[SP.foot];rw[e],τ',h2,λx hx=>h3 x ?_⟩;rcases hx with hx|⟨w,hw,hh⟩;exact .inl (hal x (.inl hx));simp only[SP.foot,oMC]at hw;rcases hw with rfl|rfl|hw;exact .inl (hal x (.inr hh));left;refine hal x (.inl ?_);cases x<;>simp[Loc.hit]at hh;rw[<- hh];exact hv
 exact .inr ⟨w,hw,hh⟩
 |bump q k ih=>
 intro σ σ' b τ h hr;have hv:σ.v q=σ'.v q:=hr (.v q) (by simp[SP.foot]);have hal:∀x,ly σ σ' x->ly { σ with vr:=tA σ.vr q } { σ' with vr:=tA σ'.vr q } x:=by intro x hx;cases x with|v q'=>show nw (tA _ _) q'=nw (tA _ _) q';rw[jn,jn];have hx:nw σ.vr q'=nw σ'.vr q':=hx;rw[hx]|_=>exact hx
 obtain⟨e,τ',h2,h3⟩:=ih (σ':={ σ' with vr:=tA σ'.vr q }) h λx hx=>hal x (hr x (by simp[SP.foot,hx]));refine⟨by simp only[SP.foot];rw[e],τ',h2,λx hx=>h3 x ?_⟩;rcases hx with hx|⟨w,hw,hh⟩;exact .inl (hal x hx);simp only[SP.foot,oMC]at hw;rcases hw with rfl|hw;left;refine hal x ?_;cases x<;>simp[Loc.hit]at hh;rw[<- hh];exact hv
 exact .inr ⟨w,hw,hh⟩
def Mb(a b:List Loc):Bool:=a.any λw=>b.any λx=>w.hit x
def sF(a b:vm):Bool:=Mb a.2 b.1||Mb a.2 b.2||Mb b.2 a.1||Mb b.2 a.2
theorem vh{a b:List Loc}(h:Mb a b=false):∀w∈a,∀x∈b,w.hit x=false:=by simp[Mb]at h;simp_all
theorem QX{w w' x:Loc}(h:w.hit x=true)(h':w'.hit x=true):w.hit w'=true\/w'.hit w=true:=by cases x<;>cases w<;>simp[Loc.hit]at h<;>cases w'<;>simp[Loc.hit]at h'⊢<;>simp_all
theorem Lt{A B:SP Unit}{σ σ1 σ2:St}(hA:A.run σ=some ((),σ1))(hB:B.run σ1=some ((),σ2))(hc:sF (A.foot σ) (B.foot σ1)=false):∃ σ1' σ2',B.run σ=some ((),σ1')/\A.run σ1'=some ((),σ2')/\TK σ2 σ2'/\B.foot σ=B.foot σ1/\A.foot σ1'=A.foot σ:=by
 simp[sF]at hc;obtain⟨⟨⟨c1,c2⟩,c3⟩,c4⟩:=hc;have hR:=λx hx=>(mu hA x λw hw=>vh c1 w hw x hx).symm;obtain⟨e1,σ1',hB',hB2⟩:=pQ hB hR;have W4:∀x,(∀w∈(B.foot σ1).2,w.hit x=false)->ly σ σ1' x:=λx hx=>mu hB' x (by simp_all);have hR2:=λx hx=>W4 x λw hw=>vh c3 w hw x hx;have ⟨e2,σ2',hA',hA2⟩:=pQ hA hR2;refine⟨σ1',σ2',hB',hA',λx=>?_,e1,e2⟩;by_cases hx:∃w∈(B.foot σ1).2,w.hit x=true;have ⟨w,hw,hh⟩:=hx;refine ly.trans (hB2 x (.inr ⟨w,hw,hh⟩)) (mu hA' x λw' Wj=>?_);rw[e2]at Wj;cases hh':w'.hit x with|false=>rfl|true=>rcases QX hh hh' with h|h;rw[vh c4 w hw w' Wj]at h;simp at h;rw[vh c2 w' Wj w hw]at h;simp at h
 have Xk:∀w∈(B.foot σ1).2,w.hit x=false:=λw hw=>by simp_all
 refine ly.trans (mu hB x Xk).symm (hA2 x ?_);simp_all
theorem Cz{α:Type}{s:SP α}{σ σ':St}{a:α}{τ:St}(h:s.run σ=some (a,τ))(hs:TK σ σ'):s.foot σ'=s.foot σ/\∃ τ',s.run σ'=some (a,τ')/\TK τ τ':=by have ⟨e,τ',h1,h2⟩:=pQ h λx _=>hs x;exact⟨e,τ',h1,λx=>h2 x (.inl (hs x))⟩
def vn(pg:Nat->SP Unit):N_->St->Option (List (Nat×vm)×St)| [],σ=>some ([],σ)|i::r,σ=>((pg i).run σ).bind λx=>(vn pg r x.2).bind λy=>some ((i,(pg i).foot σ)::y.1,y.2)
theorem LO{pg:Nat->SP Unit}:∀{L:N_}{σ σ':St}{fs:List (Nat×vm)}{τ:St},vn pg L σ=some (fs,τ)->TK σ σ'->∃ τ',vn pg L σ'=some (fs,τ')/\TK τ τ':=by
 intro L;induction L with
 |nil=>intro σ σ' fs τ h hs;obtain⟨rfl,rfl⟩:=h;exact⟨σ',rfl,hs⟩|cons i L ih=>
 intro σ σ' fs τ h hs;have ⟨⟨u,σ1⟩,h1,h2⟩:=gd h;have ⟨⟨fs',τ0⟩,h3,h4⟩:=gd h2;injection h4 with h4
 injection h4 with h4 h5
 subst h5;have ⟨e,σ1',k1,k2⟩:=Cz h1 hs;have ⟨τ',k3,k4⟩:=ih h3 k2;exact⟨τ',by simp[vn,k1,k3,e];rw[h4],k4⟩
theorem Ji{pg:Nat->SP Unit}{i:Nat}{post:N_}:∀{pre:N_}{σ:St}{fs:List (Nat×vm)}{τ:St},vn pg (pre++i::post) σ=some (fs,τ)->(∀XJ F WK,fs=XJ++(i,F)::WK->XJ.map (·.1)=pre->∀y∈XJ,sF y.2 F=false)->∃ σ' τ' XJ F WK,fs=XJ++(i,F)::WK/\XJ.map (·.1)=pre/\(pg i).run σ=some ((),σ')/\(pg i).foot σ=F/\vn pg (pre++post) σ'=some (XJ++WK,τ')/\TK τ τ':=by
 intro pre;induction pre with
 |nil=>
 intro σ fs τ h _;obtain⟨⟨u,σ1⟩,h1,h2⟩:=gd h;obtain⟨⟨fs',τ0⟩,h3,h4⟩:=gd h2;injection h4 with h4
 injection h4 with h4 h5
 subst h5;exact⟨σ1,τ0,[],_,fs',h4.symm,rfl,h1,rfl,h3,λx=>ly.refl _ _⟩
 |cons j pre ih=>
 intro σ fs τ h hc;obtain⟨⟨u,σ1⟩,h1,h2⟩:=gd h;obtain⟨⟨fs',τ0⟩,h3,h4⟩:=gd h2;injection h4 with h4
 injection h4 with h4 h5
 subst h5;obtain⟨σ2,τ',XJ,F,WK,e1,e2,k1,k2,k3,k4⟩:=ih h3 λXJ F WK e e' y hy=>hc ((j,(pg j).foot σ)::XJ) F WK (by rw[<- h4,e];rfl) (by simp[e']) y (by simp[hy]);have Y6:sF ((pg j).foot σ) ((pg i).foot σ1)=false:=by rw[k2];exact hc ((j,(pg j).foot σ)::XJ) F WK (by rw[<- h4,e1];rfl) (by simp[e2]) (j,(pg j).foot σ) (by simp)
 obtain⟨σ1',σ2',m1,m2,m3,m4,m5⟩:=Lt h1 k1 Y6;obtain⟨τ2,n1,n2⟩:=LO k3 m3;refine⟨σ1',τ2,(j,(pg j).foot σ)::XJ,F,WK,by simp_all,by simp[e2],m1,m4.trans k2,?_,λx=>(k4 x).trans (n2 x)⟩;simp only[List.cons_append,vn,m2,oBS,n1,m5]
abbrev k_:=List N_
def lr(deps:k_):List (Nat×vm)->Bool| []=>true|(j,F)::r=>(r.all λy=>!sF F y.2||(deps.getD y.1 []).contains j)&&lr deps r
structure lw where
 dst:x_
 guard:Option (Nat×Bool)
 op:TOp
inductive lO where
 |skip
 |nrm (pers:List Nat×List Nat)
 |reg (id:Nat) (draw:Option (List (List Nat))) (ops:List lw) (pers:List Nat×List Nat)
 |seq (a b:lO)
 |cond (c:Opd) (a b:lO)
 |block (id:Nat) (b:lO)
 |loop (b:lO)
 |exit (id:Nat)
 |ret
 |pre (l:List (Nat×Option Nat)) (a:lO)
 |post (a:lO) (l:List (Nat×Option Nat))
 |frz (i n:Nat) (a:lO)
inductive nz where
 |normal
 |exit (id:Nat)
 |ret
def VK(L:N_)(vr:m_)(r o:Nat)(l:m_):m_:=((r,o+1,0),1)::((r,o,1),if nw vr (r,o,1)=0 then 0 else 1)::((r,0,0),if L.contains r=true/\nw vr (r,0,0)=0 then 0 else 1)::l
def sat(L:N_)(vr:m_):m_->m_| []=>[]|(k,n)::l=>if k.2.2=0/\k.2.1≠0/\n≠0 then VK L vr k.1 (k.2.1-1) (sat L vr l)else sat L vr l
theorem SR{L:N_}{vr:m_}{r o:Nat}:∀{l:m_},1<=nw l (r,o+1,0)->nw (sat L vr l) (r,o+1,0)=1/\nw (sat L vr l) (r,o,1)=(if nw vr (r,o,1)=0 then 0 else 1)/\nw (sat L vr l) (r,0,0)=if L.contains r=true/\nw vr (r,0,0)=0 then 0 else 1:=by
 intro l;induction l with
 |nil=>intro h;simp[nw]at h|cons x l ih=>
 obtain⟨⟨a,b,c⟩,n⟩:=x;intro h;simp only[nw]at h;by_cases hf:c=0/\b≠0/\n≠0;obtain⟨rfl,hb,hn⟩:=hf;obtain⟨b,rfl⟩:∃b',b=b'+1:=⟨b-1,by omega⟩;simp only[sat,VK,hn,ne_eq,not_false_eq_true,and_self,if_true,nw,Nat.add_eq_zero_iff,Nat.one_ne_zero,and_false];by_cases e:a=r/\b=o;simp_all;simp_all;have e1:¬((a,b,c):Key)=(r,o+1,0):=λe=>by simp_all
 have e2:sat L vr (((a,b,c),n)::l)=sat L vr l:=by simp only[sat];rw[oIN hf]
 simp_all
def renorm0(L:N_)(σ:St):TV->TV|.ptr p vs=>if L.contains p.root&&vs==lz σ.v p.root p.off p.hops.length then .ptr p (lz (nw (sat L σ.vr σ.vr)) p.root p.off p.hops.length)else .dead|.pk p vs=>if L.contains p.root&&vs==lz σ.v p.root p.off (p.hops.length+1)then .pk p (lz (nw (sat L σ.vr σ.vr)) p.root p.off (p.hops.length+1))else .dead|.pw p vs sz lo n=>if L.contains p.root&&vs==lz σ.v p.root p.off (p.hops.length+1)then .pw p (lz (nw (sat L σ.vr σ.vr)) p.root p.off (p.hops.length+1)) sz lo n else .dead|.v x=>.v x|.sl c=>.sl c|.ip cs=>.ip cs|.ow []=>.ow []|.tup []=>.tup []|_=>.dead
def renorm(L:N_)(σ:St):TV->TV|.agg l=>.agg (l.map (renorm0 L σ))|.fn f l=>.fn f (l.map (renorm0 L σ))|t=>renorm0 L σ t
def normT(L:N_)(σ:St):N_->q_| []=>[]|i::r=>match gD σ.tm i with|some t=>(i,renorm L σ t)::normT L σ r|none=>normT L σ r
def normC(σ:St):N_->List (Nat×U_)| []=>[]|r::l=>match gD σ.ce r with|some c=>(r,c)::normC σ l|none=>normC σ l
abbrev Prs:=N_×N_
def St.norm(σ:St)(pers:Prs):St:=⟨normT pers.2 σ pers.1,normC σ pers.2,sat pers.2 σ.vr σ.vr⟩
def evop(call:x_->TOp->SP Unit)(dst:x_)(op:TOp):SP Unit:=
 match op with
 |.call k f args=>call dst (.call k f args)|.store n mv a x=>match dst with|none=>ev1 0 (.store n mv a x)|some _=>.fail
 |op=>match dst with|some d=>ev1 d op|none=>.fail
def Et(call:x_->TOp->SP Unit)(o:lw)(σ:St):Option St:=
 match o.guard with
 |none=>((evop call o.dst o.op).run σ).map (·.2)|some (j,want)=>
 match σ.t j with
 |.v (.bool b)=>if b=want then((evop call o.dst o.op).run σ).map (·.2)else match o.dst with|some d=>some { σ with tm:=iJ σ.tm d (.tup []) } |none=>some σ
 |.tup []=>match o.dst with|some d=>some { σ with tm:=iJ σ.tm d (.tup []) } |none=>some σ
 |_=>none
def wX(call:x_->TOp->SP Unit):List lw->St->Option St| [],σ=>some σ|o::r,σ=>(Et call o σ).bind (wX call r)
def setNo(dst:x_):SP Unit:=match dst with|some d=>.wrT d (.tup []) (.ret ())|none=>.ret ()
def spOp(call:x_->TOp->SP Unit)(o:lw):SP Unit:=match o.guard with|none=>evop call o.dst o.op|some (j,want)=>.rdT j λt=>match t with|.v (.bool b)=>if b=want then evop call o.dst o.op else setNo o.dst|.tup []=>setNo o.dst|_=>.fail
def I5:lw:=⟨none,none,.lens (.t 0)⟩
theorem Kw{call:x_->TOp->SP Unit}{o:lw}{σ σ':St}(h:(spOp call o).run σ=some ((),σ')):Et call o σ=some σ':=by
 have YB:∀{σ'},(setNo o.dst).run σ=some ((),σ')->(match o.dst with|some d=>some { σ with tm:=iJ σ.tm d (.tup []) } |none=>some σ)=some σ':=by intro σ' h;unfold setNo at h;cases hd:o.dst with|none=>rw[hd]at h;simp[SP.run,oPJ,true_and]at h;simp[h]|some d=>rw[hd]at h;simp[SP.run,true_and]at h;simp[h]
 unfold spOp at h;unfold Et;cases hg:o.guard with|none=>simp_all|some g=>rw[hg]at h;simp[SP.run]at h⊢;split at h;grind;simp_all;simp[SP.run]at h
def Tg(f:St->Option (nz×St)):Nat->St->Option (nz×St)|0,_=>none|n+1,σ=>(f σ).bind λx=>match x.1 with|.normal=>Tg f n x.2|e=>some (e,x.2)
def shq(p:gf)(off:Nat):gf:=if off<1000 then p.add off else⟨p.root,p.off+off%1000,[(0,off/100000,off/1000%100)]⟩
def shr1(x:Nat×x_):SP Unit:=.rdT x.1 λt=>match x.2,t with
 |none,.pk p vs=>(take1 false (.pk p vs)).bind λt'=>.wrT x.1 t'.imm (.ret ())
 |some off,.ptr p vs=>(chk p p.hops.length vs).bind λ_=>if p.fits off then(getPl (shq p off)).bind λt=>match t with
  |.ow c=>(peek1 (shq p off) (.ow c)).bind λt'=>(take1 false t').bind λ_=>.ret ()
  |_=>.ret ()
  else .fail
 |_,_=>.ret ()
abbrev a_:=List (Nat×x_)
def shrs:a_->SP Unit| []=>.ret ()|x::r=>(shr1 x).bind λ_=>shrs r
def St.anew(σ:St):St:=σ.norm (σ.tm.map (·.1),σ.ce.map (·.1))
def UD(i n:Nat):SP Unit:=if 1000<=n then .ret ()else .fail
def runC(call:x_->TOp->SP Unit)(N:Nat):lO->St->Option (nz×St)
 |.skip,σ=>some (.normal,σ)|.nrm pers,σ=>some (.normal,σ.norm pers)|.reg _ draw ops pers,σ=>match draw with|none=>(wX call ops σ).map fun σ'=>(.normal,σ'.norm pers)|some deps=>(vn (λi=>spOp call (ops.getD i I5)) (List.range ops.length) σ).bind λx=>if lr deps x.1 then some (.normal,x.2.norm pers)else none
 |.seq a b,σ=>(runC call N a σ).bind λx=>match x.1 with|.normal=>runC call N b x.2|e=>some (e,x.2)
 |.cond c a b,σ=>((opd c).run σ).bind λx=>match x.1 with|.v (.bool true)=>runC call N a σ |.v (.bool false)=>runC call N b σ |_=>none
 |.block id b,σ=>(runC call N b σ).bind λx=>match x.1 with|.exit i=>if i=id then some (.normal,x.2)else some (.exit i,x.2)|e=>some (e,x.2)
 |.loop b,σ=>Tg (runC call N b) N σ|.exit id,σ=>some (.exit id,σ)|.ret,σ=>some (.ret,σ)|.pre l a,σ=>((shrs l).run σ).bind λx=>runC call N a x.2.anew|.frz i n a,σ=>((UD i n).run σ).bind λx=>runC call N a x.2.anew|.post a l,σ=>(runC call N a σ).bind λx=>((shrs l).run x.2).bind λy=>some (x.1,y.2.anew)
section norm
variable {M:Fm} {σ σ':St} {ts:s_} {w:World} {G:Gh}
theorem MO(L:N_)(σ:St)(l:N_)(i:Nat):gD (normT L σ l) i=if i∈l then(gD σ.tm i).map (renorm L σ)else none:=by
 induction l with
 |nil=>simp[normT,gD]|cons j r ih=>
 simp[normT];by_cases hj:j=i;subst hj;cases h:gD σ.tm j with|none=>simp_all|some t=>simp[gD]
 cases h:gD σ.tm j with|none=>simp[ih,Ne.symm hj]|some t=>simp[gD,hj,ih,Ne.symm hj]
theorem za(σ:St)(l:N_)(r:Nat):gD (normC σ l) r=if r∈l then gD σ.ce r else none:=by
 induction l with
 |nil=>simp[normC,gD]|cons j l ih=>
 simp[normC];by_cases hj:j=r;subst hj;cases h:gD σ.ce j with|none=>simp_all|some t=>simp[gD]
 cases h:gD σ.ce j with|none=>simp[ih,Ne.symm hj]|some t=>simp[gD,hj,ih,Ne.symm hj]
theorem Inv.norm(hI:Inv M σ [] [] ts w G)(pers:Prs):∃G',Inv M (σ.norm pers) [] [] ts w G':=by
 obtain⟨L,hL⟩:∃L,L=pers.2:=⟨_,rfl⟩;have hc:∀r o,(σ.norm pers).c r o=if r∈L then σ.c r o else .dead:=by intro r o;unfold St.c St.norm;simp only[<- hL,za];by_cases h:r∈L<;>simp[h]
 have hE:∀r o,gy M (σ.norm pers) [] r o=if r∈L then gy M σ [] r o else .dead:=by intro r o;unfold gy;by_cases h:r=M.hr;simp[h];simp only[oIN h,hc]
 let G':Gh:=⟨G.β,G.η,λr o k=>if r∈L then G.φ r o k else False⟩;have Z7:∀r o k,G'.φ r o k->G.φ r o k:=by intro r o k hk;simp only[G']at hk;simp_all
 have Ys:=nO.ghost (C':=gy M (σ.norm pers) []) (G':=G') hI.core rfl (λk ⟨r,o,h⟩=>⟨r,o,Z7 r o k h⟩) (λr1 o1 r2 o2 k h1 h2=>hI.core.dis _ _ _ _ k (Z7 _ _ k h1) (Z7 _ _ k h2))
  (λr b o0 n hb o ho=>by
   rw[hE];split
   ·exact hI.core.boxc r b o0 n hb o ho
   ·rfl)
  (λr o=>by
   by_cases h:r∈L
   ·left;exact⟨by rw[hE,oIP h],λk=>by simp[G',h],rfl⟩
   ·right;left;exact⟨by rw[hE,oIN h],λk hk=>by simp[G',h]at hk⟩)
 have YQ:(σ.norm pers).v=nw (sat L σ.vr σ.vr):=by rw[hL];rfl
 have hrn0:∀{t:TV}{x:Value},TmR w (G.F M.A) σ.v (gy M σ []) G t x->TmR w (G'.F M.A) (σ.norm pers).v (gy M (σ.norm pers) []) G' (renorm0 L σ t) x:=by
  intro t x h;rw[YQ];cases h with
  |v h=>exact .v h|nil=>exact .nil|sl h=>exact .sl (h.frame (λ_ _ _=>rfl) λk hk _=>Ys.2 k hk)|dead=>exact .dead| @ptr p vs x V0 h0 hv hok=>simp only[renorm0];split;rename_i hc;simp only[oBA,List.contains_iff_mem,beq_iff_eq]at hc;refine .ptr (nw (sat L σ.vr σ.vr)) (λ_=>oLE _) rfl λ_=>?_;obtain⟨h1,ad,t,h2,h3,h4⟩:=hok hc.2;exact⟨h1,ad,t,of h2 rfl λ_=>rfl,h3,by rw[hE,oIP hc.1];exact h4⟩;exact .dead|ip u Y6 hr=>exact .ip u (λj hj=>⟨Ys.2 _ (Y6 j hj).1,(Y6 j hj).2⟩) λj hj=>(hr j hj).frame (λ_ _ _=>rfl) λk hk _=>Ys.2 k hk| @pk p vs x V0 h0 hv hok=>simp only[renorm0];split;rename_i hc;simp only[oBA,List.contains_iff_mem,beq_iff_eq]at hc;refine .pk (nw (sat L σ.vr σ.vr)) (λ_=>oLE _) rfl λ_=>?_;obtain⟨h1,c,h2,h3⟩:=hok hc.2;exact⟨h1,c,h2,by rw[hE,oIP hc.1];exact h3⟩;exact .dead| @pw p vs sz lo n x V0 h0 hv hok=>simp only[renorm0];split;rename_i hc;simp at hc;refine .pw (nw (sat L σ.vr σ.vr)) (λ_=>oLE _) rfl λ_=>?_;obtain⟨h1,c,hd,h2,h3,h4⟩:=hok hc.2;exact⟨h1,c,hd,h2,by rw[hE,oIP hc.1];exact h3,h4⟩;exact .dead|agg hl h=>exact .dead| @tup l xs hl h=>cases l with|nil=>exact .tup hl λj hj=>by simp at hj|cons=>exact .dead
  |fn hl h=>exact .dead
 have hrn:∀{t:TV}{x:Value},TmR w (G.F M.A) σ.v (gy M σ []) G t x->TmR w (G'.F M.A) (σ.norm pers).v (gy M (σ.norm pers) []) G' (renorm L σ t) x:=by intro t x h;have h0:=hrn0 h;cases h with| @agg l xs hl h=>exact .agg (by simpa using hl) λj hj=>by simpa using hrn0 (h j (by simpa using hj))| @fn f l xs hl h=>exact .fn (by simpa using hl) λj hj=>by simpa using hrn0 (h j (by simpa using hj))|_=>exact h0
 refine⟨G',Ys.1,λi=>?_,hI.fram.ghost rfl (λk ⟨r,o,h⟩=>⟨r,o,Z7 r o k h⟩),λr l h=>?_,hI.size,rfl,λj hj=>by simp at hj,λr b o n hb l h=>?_,hI.kept,λr o x h=>?_⟩;have e:(σ.norm pers).t i=if i∈pers.1 then(match gD σ.tm i with|some t=>renorm L σ t|none=>.dead)else .dead:=by
  unfold St.t St.norm;simp only[<- hL,MO];by_cases h:i∈pers.1;simp only[h,if_true];cases gD σ.tm i<;>rfl
  simp[h]
 rw[e];split;cases ha:gD σ.tm i with
 |none=>exact .dead|some t=>
  have:=hI.tmr i;have et:σ.t i=t:=by simp[St.t,ha]
  rw[et]at this;exact hrn this
 exact .dead;have:gD (normC σ L) r=some l:=by rw[hL];exact h
 rw[za]at this;split at this;exact hI.keys r l this;simp at this;have:gD (normC σ L) r=some l:=by rw[hL];exact h
 rw[za]at this;split at this;exact hI.shape r b o n hb l this;simp at this;obtain⟨h1,h2⟩:=hI.gn r o x h;obtain⟨s1,s2,s3⟩:=SR (L:=L) (vr:=σ.vr) h1;rw[YQ];refine⟨Nat.le_of_eq s1.symm,.pk (λ_=>0) (λ_=>Nat.zero_le _) (by simp[lz]) λe=>?_⟩;simp only[lz,List.range,List.range.loop,oPC,List.map_nil,oLN,Nat.zero_add,List.cons.injEq,and_true]at e;rw[s2,s3]at e;have hr:r∈L/\σ.v (r,0,0)=0:=by by_cases c:L.contains r=true/\nw σ.vr (r,0,0)=0;exact⟨by simpa using c.1,c.2⟩;rw[oIN c]at e;omega
 have ho:σ.v (r,o,1)=0:=by by_cases c:nw σ.vr (r,o,1)=0;exact c;rw[oIN c]at e;omega
 cases h2 with|pk V0 h0 hv hok=>obtain⟨g1,c,g2,g3⟩:=hok (by simp[lz,hr.2,ho]);exact⟨g1,c,g2,by rw[hE,oIP hr.1];exact g3⟩
end norm
def Ry(P:Program)(M:Fm)(σ':St)(a:Act)(o:Oper)(w:World):Prop:=∀(K:Act->World->Prop)(Q:Exit->Act->World->Prop),(∀a' w' G',Inv M σ' [] [] a'.tmps w' G'->a'.defers=a.defers->K a' w')->o.wp P a w K Q
theorem pN(a:Act)(d:Option Tmp)(v:Value):(a.put d v).defers=a.defers:=by cases d<;>rfl
theorem rx.simO{P:Program}{M:Fm}{σ':St}{a:Act}{o:Oper}{w:World}(h:rx P M σ' a o w):Ry P M σ' a o w:=by have ⟨nx,x,w',G',hrun,XH,hI⟩:=h;intro K Q hK;unfold Oper.wp;rw[hrun];rcases XH with rfl|⟨rfl,rfl⟩;all_goals exact hK _ w' G' hI (pN _ _ _)
abbrev u_:=Array Oper
structure Ai (P:Program)(M:Fm)(isCall:Op->TOp->Prop)(ops:u_)(o:Oper)(t:lw):Prop where
 dst:t.dst=o.dst
 lt:∀d,o.dst=some d->M.ok d/\M.pr (2*d+2)=none
 guard:(o.guard=none/\t.guard=none)\/∃j want dj,o.guard=some (j,want)/\t.guard=some (dj,want)/\(ops[j]?).bind (·.dst)=some dj
 op:(∃mv,jI P mv o.op=some t.op)\/isCall o.op t.op
def Cy(P:Program)(M:Fm)(isCall:Op->TOp->Prop)(call:x_->TOp->SP Unit):Prop:=∀(o:Oper)(t:TOp)(σ σ':St)(a:Act)(w:World)(G:Gh),isCall o.op t->(∀d,o.dst=some d->M.ok d/\M.pr (2*d+2)=none)->Inv M σ [] [] a.tmps w G->(evop call o.dst t).run σ=some ((),σ')->Ry P M σ' a o w
section
variable {P:Program} {M:Fm} {σ σ':St} {w:World} {G:Gh} {a:Act} {o:Oper} {isCall:Op->TOp->Prop} {call:x_->TOp->SP Unit} {ops:u_}
theorem Ke{mv:Nat}{op:Op}{t:TOp}(h:jI P mv op=some t):∀k f args,t≠.call k f args:=by
 rintro k f args rfl;cases op<;>simp only[jI]at h
 case move x=>(repeat' split at h)<;>first|(simp at h;done)|(obtain⟨_,_,h⟩:=kF h;simp at h)
 case assign x=>split at h<;>(obtain⟨_,_,h⟩:=kF h;simp at h)
 case pick=>obtain⟨_,_,h⟩:=gd h;obtain⟨_,_,h⟩:=gd h;obtain⟨_,_,h⟩:=gd h;simp at h
 case alloc=>obtain⟨_,_,h⟩:=kF h;simp at h
 case box=>obtain⟨_,_,h⟩:=gd h;obtain⟨_,_,h⟩:=gd h;unfold Vz at h;(first|split at h|skip)<;>simp at h
 case build=>(repeat' split at h)<;>first|(simp at h;done)|(obtain⟨_,_,h⟩:=gd h;obtain⟨_,_,h⟩:=gd h;simp at h)|(obtain⟨_,_,h⟩:=gd h;simp at h)
 case buildSlice=>(repeat' split at h)<;>first|(simp at h;done)|(obtain⟨_,_,h⟩:=gd h;obtain⟨_,_,h⟩:=gd h;simp at h)
 case load=>obtain⟨_,_,h⟩:=gd h;obtain⟨_,_,h⟩:=gd h;simp at h
 case store=>obtain⟨_,_,h⟩:=gd h;obtain⟨_,_,h⟩:=gd h;obtain⟨_,_,h⟩:=gd h;obtain⟨_,_,h⟩:=gd h;simp at h
 case nilCheck=>obtain⟨_,_,h⟩:=kF h;simp at h
 case binOp=>(repeat' split at h)<;>first|(simp at h;done)|(obtain⟨_,_,h⟩:=gd h;obtain⟨_,_,h⟩:=gd h;simp at h)
 case unOp=>obtain⟨_,_,h⟩:=kF h;simp at h
 case convert=>(repeat' split at h)<;>first|(simp at h;done)|(obtain⟨_,_,h⟩:=kF h;simp at h)
 case makeFunc=>(first|split at h|skip)<;>first|(simp at h;done)|(obtain⟨_,_,h⟩:=gd h;obtain⟨_,_,h⟩:=gd h;simp at h)
 case makeSlice=>(repeat' split at h)<;>first|(simp at h;done)|(obtain⟨_,_,h⟩:=gd h;obtain⟨_,_,h⟩:=gd h;obtain⟨_,_,h⟩:=gd h;simp at h)
 case slice=>(repeat' split at h)<;>first|(simp at h;done)|(obtain⟨_,_,h⟩:=gd h;obtain⟨_,_,h⟩:=gd h;obtain⟨_,_,h⟩:=gd h;simp at h;done)|(obtain⟨_,_,h⟩:=gd h;obtain⟨_,_,h⟩:=gd h;obtain⟨_,_,h⟩:=gd h;obtain⟨_,_,h⟩:=gd h;simp at h)
 case fieldAddr=>(repeat' split at h)<;>first|(simp at h;done)|(obtain⟨_,_,h⟩:=kF h;simp at h)
 case field=>(repeat' split at h)<;>first|(simp at h;done)|(obtain⟨_,_,h⟩:=gd h;obtain⟨_,_,h⟩:=gd h;simp at h)
 case indexAddr=>(repeat' split at h)<;>first|(simp at h;done)|(obtain⟨_,_,h⟩:=gd h;obtain⟨_,_,h⟩:=gd h;obtain⟨_,_,h⟩:=gd h;simp at h)
 case index=>(repeat' split at h)<;>first|(simp at h;done)|(obtain⟨_,_,h⟩:=gd h;obtain⟨_,_,h⟩:=gd h;simp at h)
 case extract=>obtain⟨_,_,h⟩:=kF h;simp at h
 case call=>(repeat' split at h)<;>first|(simp at h;done)|(obtain⟨_,_,h⟩:=gd h;obtain⟨_,_,h⟩:=gd h;obtain⟨_,_,h⟩:=gd h;simp at h)|(obtain⟨_,_,h⟩:=kF h;simp at h)
 all_goals simp at h
theorem KE(hI:Inv M σ [] [] a.tmps w G){t:lw}(hok:Ai P M isCall ops o t)(hcall:Cy P M isCall call)(hr:(evop call t.dst t.op).run σ=some ((),σ')):Ry P M σ' a o w:=by
 rcases hok.op with⟨mv,hc⟩|hc
 ·have hnc:=Ke hc;by_cases hst:∃ty x y,o.op=.store ty x y
  ·obtain⟨ty,x,y,ho⟩:=hst;rw[ho]at hc;simp only[jI]at hc;obtain⟨n,h1,hc⟩:=gd hc;obtain⟨u,h2,hc⟩:=gd hc;obtain⟨x1,h3,hc⟩:=gd hc;obtain⟨y1,h4,hc⟩:=gd hc
   injection hc with hc
   rw[<- hc]at hr;simp only[evop]at hr
   cases hd:t.dst with
   |some d=>simp[hd,SP.run]at hr
   |none=>
    simp only[hd]at hr;have hg:=uk h2;exact(M9 hI (d:=0) (by rw[<- hok.dst,hd]) h3 h4 ho h1 (by simpa using hg) hr).simO
  ·cases hd:t.dst with
   |none=>
    exfalso;rw[hd]at hr
    cases ht:t.op<;>rw[ht]at hr<;>simp only[evop,SP.run]at hr<;>first|(simp at hr;done)|skip
    ·rename_i n mv' a' x';rw[ht]at hc;cases ho:o.op<;>rw[ho]at hc hst<;>simp only[jI]at hc
     case store=>exact hst ⟨_,_,_,rfl⟩
     case move x=>(repeat' split at hc)<;>first|(simp at hc;done)|(obtain⟨_,_,h⟩:=kF hc;simp at h)
     case assign x=>split at hc<;>(obtain⟨_,_,h⟩:=kF hc;simp at h)
     case pick=>obtain⟨_,_,h⟩:=gd hc;obtain⟨_,_,h⟩:=gd h;obtain⟨_,_,h⟩:=gd h;simp at h
     case alloc=>obtain⟨_,_,h⟩:=kF hc;simp at h
     case box=>obtain⟨_,_,h⟩:=gd hc;obtain⟨_,_,h⟩:=gd h;unfold Vz at h;(first|split at h|skip)<;>simp at h
     case build=>(repeat' split at hc)<;>first|(simp at hc;done)|(obtain⟨_,_,h⟩:=gd hc;obtain⟨_,_,h⟩:=gd h;simp at h)|(obtain⟨_,_,h⟩:=gd hc;simp at h)
     case buildSlice=>(repeat' split at hc)<;>first|(simp at hc;done)|(obtain⟨_,_,h⟩:=gd hc;obtain⟨_,_,h⟩:=gd h;simp at h)
     case load=>obtain⟨_,_,h⟩:=gd hc;obtain⟨_,_,h⟩:=gd h;simp at h
     case nilCheck=>obtain⟨_,_,h⟩:=kF hc;simp at h
     case binOp=>(repeat' split at hc)<;>first|(simp at hc;done)|(obtain⟨_,_,h⟩:=gd hc;obtain⟨_,_,h⟩:=gd h;simp at h)
     case unOp=>obtain⟨_,_,h⟩:=kF hc;simp at h
     case convert=>(repeat' split at hc)<;>first|(simp at hc;done)|(obtain⟨_,_,h⟩:=kF hc;simp at h)
     case makeFunc=>(first|split at hc|skip)<;>first|(simp at hc;done)|(obtain⟨_,_,h⟩:=gd hc;obtain⟨_,_,h⟩:=gd h;simp at h)
     case makeSlice=>(repeat' split at hc)<;>first|(simp at hc;done)|(obtain⟨_,_,h⟩:=gd hc;obtain⟨_,_,h⟩:=gd h;obtain⟨_,_,h⟩:=gd h;simp at h)
     case slice=>(repeat' split at hc)<;>first|(simp at hc;done)|(obtain⟨_,_,h⟩:=gd hc;obtain⟨_,_,h⟩:=gd h;obtain⟨_,_,h⟩:=gd h;simp at h;done)|(obtain⟨_,_,h⟩:=gd hc;obtain⟨_,_,h⟩:=gd h;obtain⟨_,_,h⟩:=gd h;obtain⟨_,_,h⟩:=gd h;simp at h)
     case fieldAddr=>(repeat' split at hc)<;>first|(simp at hc;done)|(obtain⟨_,_,h⟩:=kF hc;simp at h)
     case field=>(repeat' split at hc)<;>first|(simp at hc;done)|(obtain⟨_,_,h⟩:=gd hc;obtain⟨_,_,h⟩:=gd h;simp at h)
     case indexAddr=>(repeat' split at hc)<;>first|(simp at hc;done)|(obtain⟨_,_,h⟩:=gd hc;obtain⟨_,_,h⟩:=gd h;obtain⟨_,_,h⟩:=gd h;simp at h)
     case index=>(repeat' split at hc)<;>first|(simp at hc;done)|(obtain⟨_,_,h⟩:=gd hc;obtain⟨_,_,h⟩:=gd h;simp at h)
     case extract=>obtain⟨_,_,h⟩:=kF hc;simp at h
     case call=>(repeat' split at hc)<;>first|(simp at hc;done)|(obtain⟨_,_,h⟩:=gd hc;obtain⟨_,_,h⟩:=gd h;obtain⟨_,_,h⟩:=gd h;simp at h)|(obtain⟨_,_,h⟩:=kF hc;simp at h)
     all_goals simp at hc
    ·exact absurd ht (hnc _ _ _)
   |some d=>
    have hdd:o.dst=some d:=by rw[<- hok.dst,hd]
    obtain⟨h1,h2⟩:=hok.lt d hdd
    have XT:(ev1 d t.op).run σ=some ((),σ'):=by
     rw[hd]at hr
     cases ht:t.op<;>rw[ht]at hr<;>simp only[evop]at hr<;>first|exact hr|(simp[SP.run]at hr;done)|exact absurd ht (hnc _ _ _)
    exact(Sv hI hdd h1 h2 hc XT hst).simO
 exact hcall o t.op σ σ' a w G hc hok.lt hI (by rw[<- hok.dst];exact hr)
theorem GG{F:Nat->Prop}{V:Vs}{C:Cs}:TmR w F V C G (.tup []) undef:=.tup (by simp) λj hj=>by simp at hj
theorem Su{tops:List lw}(hlen:tops.length=ops.size)(hok:∀i (h:i<ops.size)(h':i<tops.length),Ai P M isCall ops ops[i] tops[i])(hcall:Cy P M isCall call){Q:Exit->Act->World->Prop}:∀(L:N_)(σ:St)(a:Act)(w:World)(G:Gh),(∀i∈L,i<ops.size)->Inv M σ [] [] a.tmps w G->wX call (L.map λi=>tops.getD i ⟨none,none,.lens (.t 0)⟩) σ=some σ' ->(∀a' w' G',Inv M σ' [] [] a'.tmps w' G'->a'.defers=a.defers->Q .normal a' w')->wpOps P ops Q L a w:=by
 intro L
 induction L with
 |nil=>intro σ a w G _ hI hr hQ;simp only[List.map_nil,wX,oSJ]at hr;subst hr;exact hQ a w G hI rfl|cons i L ih=>
 intro σ a w G hL hI hr hQ;have hi:i<ops.size:=hL i (by simp);have Zk:i<tops.length:=by omega
 simp only[oPC,wX]at hr;have e:tops.getD i ⟨none,none,.lens (.t 0)⟩=tops[i]:=by simp[Zk]
 rw[e]at hr
 cases hro:Et call tops[i] σ with
 |none=>simp[hro]at hr|some σ1=>
 simp only[hro,oBS]at hr;have hop:=hok i hi Zk;simp only[wpOps,Array.getElem?_eq_getElem hi];have go:(evop call tops[i].dst tops[i].op).run σ=some ((),σ1)->ops[i].wp P a w (wpOps P ops Q L) Q:=λh=>by refine KE hI hop hcall h _ _ λa' w' G' Zw hd=>?_;exact ih σ1 a' w' G' (λj hj=>hL j (by simp[hj])) Zw hr (λa2 w2 G2 h2 hd2=>hQ a2 w2 G2 h2 (hd2.trans hd))
 have skip:(match tops[i].dst with|some d=>some { σ with tm:=iJ σ.tm d (.tup []) } |none=>some σ)=some σ1->wpOps P ops Q L (a.put ops[i].dst undef) w:=λh=>by
  rw[hop.dst]at h;cases hd:ops[i].dst with
  |none=>
  rw[hd]at h;injection h with h
  subst h;exact ih σ a w G (λj hj=>hL j (by simp[hj])) hI hr hQ
  |some d=>
  rw[hd]at h;injection h with h
  subst h;exact ih _ (a.put (some d) undef) w G (λj hj=>hL j (by simp[hj])) (hI.wrT (hop.lt d hd).1 GG) hr (λa2 w2 G2 h2 hd2=>hQ a2 w2 G2 h2 hd2)
 unfold Et at hro;rcases hop.guard with⟨g1,g2⟩|⟨j,want,dj,g1,g2,g3⟩;rw[oIP (by simp[Region.wanted,g1])];left;simp only[g2]at hro;obtain⟨⟨u,σ2⟩,h1,h2⟩:=kF hro;exact go (by rw[h1];simp only at h2;rw[h2]);simp only[g2]at hro;have hy:yielded ops a.tmps j=match(a.tmps[dj]?:r_)with|some (.bool b)=>some b|_=>none:=by unfold yielded;rw[g3];rfl
 have Zg:=hI.tmr dj
 cases hs:σ.t dj with
 |v x=>
 rw[hs]at Zg hro;obtain⟨hx,_⟩:=Zg.v_inv;cases x with
  |bool b=>
  have Z3:a.tmps[dj]?=some (.bool b):=by rw[oAG]at hx;cases hq:a.tmps[dj]? with|none=>rw[hq]at hx;simp[undef]at hx|some v=>rw[hq]at hx;simp at hx;rw[hx]
  have Wm:yielded ops a.tmps j=some b:=by rw[hy,Z3]
  simp only at hro;by_cases hb:b=want;rw[oIP hb]at hro;rw[oIP (by simp[Region.wanted,g1,Wm,hb])];left;obtain⟨⟨u,σ2⟩,h1,h2⟩:=kF hro;exact go (by rw[h1];simp only at h2;rw[h2]);rw[oIN hb]at hro;rw[oIN (by simp[Region.wanted,g1,Wm,hb])];exact skip hro
  |_=>simp at hro
 |tup l=>
 rw[hs]at Zg hro
 cases l with
  |nil=>
  have hu:a.tmps.getD dj undef=undef:=by
   generalize a.tmps.getD dj undef=z at Zg
   cases Zg with
   | @tup _ xs hl _=>have:xs=#[]:=by apply Array.eq_empty_of_size_eq_zero;simpa using hl
                     rw[this];rfl
  have Wm:yielded ops a.tmps j=none:=by rw[hy];rw[oAG]at hu;cases hq:a.tmps[dj]? with|none=>rfl|some v=>rw[hq]at hu;simp only[Option.getD_some]at hu;rw[hu];rfl
  simp only at hro;rw[oIN (by simp[Region.wanted,g1,Wm])];exact skip hro
  |cons=>simp at hro
 |_=>rw[hs]at hro;simp at hro
end
section
variable {P:Program} {M:Fm} {σ σ':St} {H:U_} {xs:w_} {ts:s_} {w:World} {G:Gh} {a:Act} {o:Oper} {isCall:Op->TOp->Prop} {call:x_->TOp->SP Unit} {ops:u_}
theorem Inv.congr(hI:Inv M σ H xs ts w G)(hs:TK σ σ'):Inv M σ' H xs ts w G:=by
 have hc:gy M σ' H=gy M σ H:=by funext r o;unfold gy;split;rfl;exact(hs (.c r o)).symm
 have hv:σ'.v=σ.v:=by funext q;exact(hs (.v q)).symm
 have hn:∀r l,gD σ'.ce r=some l->∃l0,gD σ.ce r=some l0/\l0.length=l.length:=by intro r l h;have h1:(gD σ.ce r).map List.length=(gD σ'.ce r).map List.length:=hs (.n r);rw[h]at h1;cases ha:gD σ.ce r with|none=>rw[ha]at h1;simp at h1|some l0=>rw[ha]at h1;exact⟨l0,rfl,by simpa using h1⟩
 refine⟨by rw[hc];exact hI.core,λi=>?_,hI.fram,λr l h=>?_,hI.size,hI.hand,hI.hval,λr b o n hb l h=>?_,hI.kept,by unfold Gn;rw[hc,hv];exact hI.gn⟩;have ht:σ'.t i=σ.t i:=by have:gD σ.tm i=gD σ'.tm i:=hs (.t i);simp[St.t,this]
 rw[hc,hv,ht];exact hI.tmr i;obtain⟨l0,h1,_⟩:=hn r l h;exact hI.keys r l0 h1;obtain⟨l0,h1,h2⟩:=hn r l h;rw[<- h2];exact hI.shape r b o n hb l0 h1
theorem PS{t:lw}{i:Nat}{Q:Exit->Act->World->Prop}{K:Act->World->Prop}(hi:i<ops.size)(hop:Ai P M isCall ops ops[i] t)(hcall:Cy P M isCall call)(hI:Inv M σ [] [] a.tmps w G)(hro:Et call t σ=some σ') (hK:∀a' w' G',Inv M σ' [] [] a'.tmps w' G'->a'.defers=a.defers->K a' w'):wpOp P ops Q i K a w:=by
 unfold wpOp;simp only[Array.getElem?_eq_getElem hi];have go:(evop call t.dst t.op).run σ=some ((),σ')->ops[i].wp P a w K Q:=λh=>by exact KE hI hop hcall h _ _ hK
 have skip:(match t.dst with|some d=>some { σ with tm:=iJ σ.tm d (.tup []) } |none=>some σ)=some σ'->K (a.put ops[i].dst undef) w:=λh=>by
  rw[hop.dst]at h;cases hd:ops[i].dst with
  |none=>
  rw[hd]at h;injection h with h
  subst h;exact hK a w G hI rfl
  |some d=>
  rw[hd]at h;injection h with h
  subst h;exact hK (a.put (some d) undef) w G (hI.wrT (hop.lt d hd).1 GG) rfl
 unfold Et at hro;rcases hop.guard with⟨g1,g2⟩|⟨j,want,dj,g1,g2,g3⟩;rw[oIP (by simp[Region.wanted,g1])];left;simp only[g2]at hro;obtain⟨⟨u,σ2⟩,h1,h2⟩:=kF hro;exact go (by rw[h1];simp only at h2;rw[h2]);simp only[g2]at hro;have hy:yielded ops a.tmps j=match(a.tmps[dj]?:r_)with|some (.bool b)=>some b|_=>none:=by unfold yielded;rw[g3];rfl
 have Zg:=hI.tmr dj
 cases hs:σ.t dj with
 |v x=>
 rw[hs]at Zg hro;obtain⟨hx,_⟩:=Zg.v_inv;cases x with
  |bool b=>
  have Z3:a.tmps[dj]?=some (.bool b):=by rw[oAG]at hx;cases hq:a.tmps[dj]? with|none=>rw[hq]at hx;simp[undef]at hx|some v=>rw[hq]at hx;simp at hx;rw[hx]
  have Wm:yielded ops a.tmps j=some b:=by rw[hy,Z3]
  simp only at hro;by_cases hb:b=want;rw[oIP hb]at hro;rw[oIP (by simp[Region.wanted,g1,Wm,hb])];left;obtain⟨⟨u,σ2⟩,h1,h2⟩:=kF hro;simp_all;rw[oIN hb]at hro;rw[oIN (by simp[Region.wanted,g1,Wm,hb])];exact skip hro
  |_=>simp at hro
 |tup l=>
 rw[hs]at Zg hro
 cases l with
  |nil=>
  have hu:a.tmps.getD dj undef=undef:=by
   generalize a.tmps.getD dj undef=z at Zg
   cases Zg with
   | @tup _ xs hl _=>have:xs=#[]:=by apply Array.eq_empty_of_size_eq_zero;simpa using hl
                     rw[this];rfl
  have Wm:yielded ops a.tmps j=none:=by rw[hy];rw[oAG]at hu;cases hq:a.tmps[dj]? with|none=>rfl|some v=>rw[hq]at hu;simp only[Option.getD_some]at hu;rw[hu];rfl
  rw[oIN (by simp[Region.wanted,g1,Wm])];exact skip hro
  |cons=>simp at hro
 |_=>rw[hs]at hro;simp at hro
structure Cw (ops:u_)(deps:k_):Prop where
 back:∀i (h:i<ops.size),∀e∈ops[i].after,Region.binds .any e=true->e.on<i
 dep:∀i (h:i<ops.size),∀j∈deps.getD i [],∃e∈ops[i].after,Region.binds .any e=true/\(e.on=j\/j∈deps.getD e.on [])
theorem zk{deps:k_}{x:Nat×vm}:∀{l l':List (Nat×vm)},lr deps (l++x::l')=true->lr deps (l++l')=true/\∀y∈l,sF y.2 x.2=false\/y.1∈deps.getD x.1 []:=by intro l;induction l with|nil=>intro l' h;simp only[oNA,lr,oBA]at h;simp_all|cons z l ih=>intro l' h;simp only[List.cons_append,lr,oBA,oAE]at h;obtain⟨h1,h2⟩:=ih h.2;refine⟨by simp only[List.cons_append,lr,oBA,oAE];exact⟨λy hy=>h.1 y (by rcases oMA.1 hy with hy|hy<;>simp[hy]),h1⟩,λy hy=>?_⟩;rcases oMC.1 hy with rfl|hy;simp_all;exact h2 y hy
theorem SK{tops:List lw}{deps:k_}(hlen:tops.length=ops.size)(hok:∀i (h:i<ops.size)(h':i<tops.length),Ai P M isCall ops ops[i] tops[i])(hcall:Cy P M isCall call)(Yx:Cw ops deps){Q:Exit->Act->World->Prop}:∀(n:Nat)(C:N_)(ZQ:Array Bool)(σ:St)(a:Act)(w:World)(G:Gh)(fs:List (Nat×vm))(τ:St),C.length=n->ZQ.size=ops.size->C.Pairwise (· < ·)->(∀j,j∈C↔j<ops.size/\ZQ.getD j true=false)->(∀i,ZQ.getD i false=true->∀j∈deps.getD i [],ZQ.getD j false=true)->Inv M σ [] [] a.tmps w G->vn (λi=>spOp call (tops.getD i I5)) C σ=some (fs,τ)->lr deps fs=true ->(∀a' w' G',Inv M τ [] [] a'.tmps w' G'->a'.defers=a.defers->Q .normal a' w')->wpAny P .any ops Q n ZQ a w:=by
 have hgd:∀{ZQ:Array Bool},ZQ.size=ops.size->∀j,j<ops.size->(ZQ.getD j true=false↔¬ZQ.getD j false=true):=by
  intro ZQ hs j hj;have:j<ZQ.size:=by omega
  simp[oAG,this]
 intro n;induction n with
 |zero=>intro C ZQ σ a w G fs τ hC hs X4 Zz Y6 hI hr hp hQ;have hC:C=[]:=oEN hC;subst hC;obtain⟨rfl,rfl⟩:=hr;refine⟨?_,hQ a w G hI rfl⟩;apply List.eq_nil_iff_forall_not_mem.2;intro j hj;obtain⟨h1,o,h2,_⟩:=mem_ready.1 hj;have:=(Zz j).2 ⟨(Array.getElem?_eq_some_iff.1 h2).1,h1⟩;simp at this|succ n ih=>
 intro C ZQ σ a w G fs τ hC hs X4 Zz Y6 hI hr hp hQ;refine⟨λhnil=>?_,λi hi=>?_⟩;exfalso;cases C with
 |nil=>simp at hC|cons h C=>
  have hh:=(Zz h).1 (by simp);have:h∈Region.ready .any ops ZQ:=by
   refine mem_ready.2 ⟨hh.2,ops[h]'hh.1,Array.getElem?_eq_getElem hh.1,λe he hb=>?_⟩;have hlt:=Yx.back h hh.1 e he hb;have hes:e.on<ops.size:=by omega
   cases hl:ZQ.getD e.on false with|true=>rfl|false=>have hm:=(Zz e.on).2 ⟨hes,(hgd hs _ hes).2 (by rw[hl];simp)⟩;rcases oMC.1 hm with e1|e1;omega;have:=(List.pairwise_cons.1 X4).1 _ e1;omega
  rw[hnil]at this;simp at this
 obtain⟨h1,o,h2,h3⟩:=mem_ready.1 hi;have his:i<ops.size:=(Array.getElem?_eq_some_iff.1 h2).1;have hoe:o=ops[i]:=by rw[Array.getElem?_eq_getElem his]at h2;injection h2 with h2;exact h2.symm
 subst hoe;have hiC:=(Zz i).2 ⟨his,h1⟩;obtain⟨pre,post,rfl⟩:=List.append_of_mem hiC;have hdep:∀j∈deps.getD i [],ZQ.getD j false=true:=λj hj=>by obtain⟨e,he,hb,h4⟩:=Yx.dep i his j hj;have hl:=h3 e he hb;rcases h4 with rfl|h4;exact hl;exact Y6 _ hl j h4
 have hclash:∀XJ F WK,fs=XJ++(i,F)::WK->XJ.map (·.1)=pre->∀y∈XJ,sF y.2 F=false:=by
  rintro XJ F WK rfl hpre y hy;rcases(zk hp).2 y hy with h|h;exact h;have hyC:y.1∈pre++i::post:=by rw[<- hpre];exact List.mem_append_left _ (List.mem_map_of_mem hy)
  have:=(Zz y.1).1 hyC;exact absurd (hdep _ h) ((hgd hs _ this.1).1 this.2)
 obtain⟨σ',τ',XJ,F,WK,rfl,hpre,hrun,_,ZR,X3⟩:=Ji hr hclash;have Zk:i<tops.length:=by omega
 have e:tops.getD i I5=tops[i]:=by simp[Zk]
 simp only[e]at hrun;refine PS his (hok i his Zk) hcall hI (Kw hrun) λa' w' G' Zw hd=>?_;have hne:∀j∈pre++post,j≠i:=λj hj e=>by subst e;rw[List.pairwise_append]at X4;rcases oMA.1 hj with hj|hj;have:=X4.2.2 j hj j (by simp);omega;have:=(List.pairwise_cons.1 X4.2.1).1 j hj;omega
 refine ih (pre++post) (ZQ.setIfInBounds i true) σ' a' w' G' (XJ++WK) τ' (by simp at hC⊢;omega) (by simp[hs]) ?_ (λj=>?_) (λk hk j hj=>?_) Zw ZR (zk hp).1 λa2 w2 G2 h4 h5=>hQ a2 w2 G2 (h4.congr λx=>(X3 x).symm) (h5.trans hd);refine X4.sublist ?_;exact List.Sublist.append_left (List.sublist_cons_self i post) pre;constructor;intro hj;have hjC:j∈pre++i::post:=by rcases oMA.1 hj with hj|hj<;>simp[hj]
 have:=(Zz j).1 hjC;exact⟨this.1,by rw[getD_set_ne true (Ne.symm (hne j hj))];exact this.2⟩;rintro⟨hj1,hj2⟩;have hji:j≠i:=by
  rintro rfl;have:j<ZQ.size:=by omega
  simp[oAG,this]at hj2
 rw[getD_set_ne true (Ne.symm hji)]at hj2;have:=(Zz j).2 ⟨hj1,hj2⟩;rcases oMA.1 this with h|h;exact List.mem_append_left _ h;rcases oMC.1 h with h|h;exact absurd h hji;exact List.mem_append_right _ h;by_cases hki:k=i;subst hki;exact getD_set_true (hdep j hj);rw[getD_set_ne false (Ne.symm hki)]at hk;exact getD_set_true (Y6 k hk j hj)
theorem KF{tops:List lw}{deps:k_}{id:Nat}(hm:P.follows .mixedOrders=true)(hlen:tops.length=ops.size)(hok:∀i (h:i<ops.size)(h':i<tops.length),Ai P M isCall ops ops[i] tops[i])(hcall:Cy P M isCall call)(Yx:Cw ops deps) {Q:Exit->Act->World->Prop}{fs:List (Nat×vm)}{τ:St}(hI:Inv M σ [] [] a.tmps w G)(hr:vn (λi=>spOp call (tops.getD i I5)) (List.range tops.length) σ=some (fs,τ))(hp:lr deps fs=true) (hQ:∀a' w' G',Inv M τ [] [] a'.tmps w' G'->a'.defers=a.defers->Q .normal a' w'):(Code.region id ops true).wp P Q a w:=by
 refine wp_region_any hm ?_;have Zw:Inv M σ [] [] a.tmps { w with drawn:=w.drawn+1 } G:=by exact(hI.grow (w':={ w with drawn:=w.drawn+1 }) (λ_ _=>rfl) (oLE _) rfl rfl rfl).1
 refine SK hlen hok hcall Yx ops.size (List.range ops.size) _ σ a _ G fs τ (by simp) (by simp) List.pairwise_lt_range (λj=>?_) (λi hi=>?_) Zw (by simp_all) hp hQ;simp_all;exfalso;rw[oAG,Array.getElem?_replicate]at hi;split at hi<;>simp at hi
end
def SP.quiet{α:Type}(d:Nat)(S:N_):SP α->Prop|.ret _=>True|.fail=>True|.rdT i k=>i∈S/\∀t,(k t).quiet d S|.rdC _ _ k=>∀t,(k t).quiet d S|.rdH _ _ k=>∀t,(k t).quiet d S|.rdV _ k=>∀n,(k n).quiet d S|.wrT i _ k=>i=d/\k.quiet d S|.wrC _ _ _ _=>False|.new _ _ _=>False|.bump _ _=>False
theorem fT{α β:Type}{d:Nat}{S:N_}{s:SP α}{f:α->SP β}(h:s.quiet d S)(hf:∀a,(f a).quiet d S):(s.bind f).quiet d S:=by induction s with|ret a=>exact hf a|fail=>exact trivial|rdT i k ih=>exact⟨h.1,λt=>ih t (h.2 t)⟩|rdC r o k ih=>exact λt=>ih t (h t)|rdH r o k ih=>exact λt=>ih t (h t)|rdV q k ih=>exact λn=>ih n (h n)|wrT i t k ih=>exact⟨h.1,ih h.2⟩|wrC r o t k ih=>exact h.elim|new r l k ih=>exact h.elim|bump q k ih=>exact h.elim
theorem sX{α:Type}{d:Nat}{S:N_}{s:SP α}(h:s.quiet d S)(σ:St):(∀x∈(s.foot σ).2,x=.t d)/\∀i,Loc.t i∈(s.foot σ).1->i∈S:=by
 induction s generalizing σ with
 |ret a=>exact⟨λx hx=>by simp[SP.foot]at hx,λi hi=>by simp[SP.foot]at hi⟩|fail=>exact⟨λx hx=>by simp[SP.foot]at hx,λi hi=>by simp[SP.foot]at hi⟩|rdT i k ih=>
 obtain⟨h1,h2⟩:=ih _ (h.2 (σ.t i)) σ;refine⟨h1,λj hj=>?_⟩;simp only[SP.foot,oMC]at hj;rcases hj with hj|hj;injection hj with hj;subst hj;exact h.1
 simp_all
 |rdC r o k ih=>obtain⟨h1,h2⟩:=ih _ (h (σ.c r o)) σ;refine⟨h1,λj hj=>?_⟩;simp only[SP.foot]at hj;simp_all|rdH r o k ih=>obtain⟨h1,h2⟩:=ih _ (h (σ.c r o).hd) σ;refine⟨h1,λj hj=>?_⟩;simp only[SP.foot]at hj;simp_all|rdV q k ih=>obtain⟨h1,h2⟩:=ih _ (h (σ.v q)) σ;refine⟨h1,λj hj=>?_⟩;simp only[SP.foot,oMC]at hj;simp_all|wrT i t k ih=>obtain⟨h1,h2⟩:=ih h.2 { σ with tm:=iJ σ.tm i t };refine⟨λx hx=>?_,h2⟩;simp only[SP.foot,oMC]at hx;rcases hx with hx|hx;rw[hx,h.1];grind
 |wrC r o t k ih=>exact h.elim|new r l k ih=>exact h.elim|bump q k ih=>exact h.elim
def jH:Opd->N_|.t i=>[i]|_=>[]
def i5:TOp->Option N_
 |.mov (.t i)=>some [i]|.mov (.c x)=>match yO x with|.v _=>some []|_=>none
 |.pick c a b=>some (jH c++(jH a++jH b))|.load _ a=>some (jH a)|.nilc x=>some (jH x)|.fld _ a=>some (jH a)|.idx _ x i=>some (jH x++jH i)|.idxa _ _ x i=>some (jH x++jH i)|.ext x _=>some (jH x)|.bin _ x y=>some (jH x++jH y)|.bnb _ x y=>some (jH x++jH y)|.eqa _ _ x y=>some (jH x++jH y)|.un _ x=>some (jH x)|.conv _ x=>some (jH x)|.len x=>some (jH x)|.lens x=>some (jH x)|.ixs x i=>some (jH x++jH i)|_=>none
section
variable {d:Nat} {S:N_}
theorem gT{x:Opd}(h:∀i∈jH x,i∈S):(opd x).quiet d S:=by cases x with|t i=>exact⟨h i (by simp[jH]),λ_=>trivial⟩|_=>exact trivial
theorem yM{l:List Key}:(rdVs l).quiet d S:=by induction l with|nil=>exact trivial|cons q l ih=>exact λn=>fT ih λ_=>trivial
theorem ox{p:gf}{n:Nat}{vs:N_}:(chk p n vs).quiet d S:=fT yM λl=>by split<;>exact trivial
theorem p8{p:gf}:(getPl p).quiet d S:=λtv=>by
 show SP.quiet d S (match gE tv p.hops with|some t=>SP.ret t|none=>SP.fail);cases gE tv p.hops<;>exact trivial
theorem DT{p:gf}:(Tl p).quiet d S:=by unfold Tl;split;exact λ_=>trivial;exact fT p8 λ_=>trivial
theorem wt{p:gf}{t:TV}:(peek1 p t).quiet d S:=by cases t with|ow c=>exact fT yM λ_=>trivial|_=>exact trivial
theorem Jk{p:gf}:(peekP p).quiet d S:=by
 unfold peekP;split;refine λh=>?_;cases h with|some ls=>exact fT yM λ_=>trivial|none=>exact fT p8 λ_=>wt
 exact fT p8 λ_=>wt
theorem Jl:∀{n:Nat}{p:gf},(peekL p n).quiet d S:=by intro n;induction n with|zero=>intro p;exact trivial|succ n ih=>refine fT p8 λt=>fT wt λt'=>?_;split;exact trivial;split;exact fT ih λ_=>trivial;exact trivial
theorem hY{t:TV}:(wr d t).quiet d S:=⟨rfl,trivial⟩
theorem nI{t:TV}:(yx t).quiet d S:=by cases t<;>exact trivial
theorem wu{t:TV}:(natOf t).quiet d S:=by
 cases t with
 |v x=>cases x with|int k n=>cases n<;>exact trivial|_=>exact trivial
 |_=>exact trivial
theorem p7{α:Type}{o:Option α}:(qp o).quiet d S:=by cases o<;>exact trivial
theorem G7{t:TV}:(vE t).quiet d S:=by cases t with|pk p vs=>exact fT ox λ_=>fT DT λt=>by cases t<;>exact trivial|pw p vs sz lo n=>exact fT ox λ_=>trivial|ow c=>cases c<;>exact trivial|_=>exact trivial
theorem G8{op:TOp}(h:i5 op=some S):(ev1 d op).quiet d S:=by
 cases op with
 |mov x=>
 cases x with
  |t i=>simp only[i5,oSJ]at h;subst h;refine fT (gT λj hj=>by simpa[jH]using hj) λt=>?_;cases t with|ow c=>exact trivial|agg l=>simp only;split;exact trivial;exact hY|_=>exact hY
  |c x=>
  simp only[i5]at h;split at h;rename_i y hy;have e:ev1 d (.mov (.c x))=wr d (.v y):=by simp only[ev1,opd,hy,SP.bind]
  rw[e];exact hY;simp at h
  |f _=>simp[i5]at h
 |pick c a b=>
 simp only[i5,oSJ]at h;subst h;refine fT (gT λj hj=>by simp[hj]) λt=>?_;split
 ·rename_i bb
  refine fT ?_ λt=>by split<;>first|exact hY|exact trivial
  cases bb
  all_goals exact gT λj hj=>by simp at hj;simp[hj]
 exact trivial
 |load n a=>
 simp only[i5,oSJ]at h;subst h;refine fT (gT λj hj=>by simpa using hj) λt=>?_;split;refine fT ox λ_=>?_;cases n with|none=>exact fT Jk λ_=>hY|some n=>exact fT Jl λ_=>hY
 split<;>first|exact hY|exact trivial
 exact trivial
 |nilc x=>simp only[i5,oSJ]at h;subst h;refine fT (gT λj hj=>by simpa using hj) λt=>?_;split;exact fT ox λ_=>hY;exact hY;exact hY;exact trivial|fld off a=>
 simp only[i5,oSJ]at h;subst h;refine fT (gT λj hj=>by simpa using hj) λt=>?_;split;refine fT ox λ_=>?_;split<;>first|exact hY|exact trivial
 split<;>first|exact hY|exact trivial
 exact trivial
 |idx sz x i=>
 simp only[i5,oSJ]at h;subst h;refine fT (gT λj hj=>by simp[hj]) λt=>fT (gT λj hj=>by simp[hj]) λti=>fT wu λk=>?_;split
 ·exact fT ox λ_=>fT DT λt=>by(repeat' split)<;>first|exact hY|exact trivial
 ·exact fT ox λ_=>fT p8 λt=>by(repeat' split)<;>first|exact hY|exact trivial
 split<;>first|exact hY|exact trivial
 exact trivial
 |idxa n sz x i=>
 simp only[i5,oSJ]at h;subst h;refine fT (gT λj hj=>by simp[hj]) λt=>fT (gT λj hj=>by simp[hj]) λti=>fT wu λk=>?_;split;exact fT ox λ_=>by split<;>first|exact hY|exact trivial
 exact trivial
 |ext x i=>
 simp only[i5,oSJ]at h;subst h;refine fT (gT λj hj=>by simpa using hj) λt=>?_
 (repeat' split)<;>first|exact hY|exact trivial
 |bin op x y=>simp only[i5,oSJ]at h;subst h;refine fT (gT λj hj=>by simp[hj]) λt=>fT (gT λj hj=>by simp[hj]) λti=>fT nI λ_=>fT nI λ_=>fT p7 λr=>?_;split<;>first|exact hY|exact trivial
 |bnb neg x y=>simp only[i5,oSJ]at h;subst h;refine fT (gT λj hj=>by simp[hj]) λt=>fT (gT λj hj=>by simp[hj]) λti=>fT nI λ_=>fT nI λ_=>?_;split<;>first|exact hY|exact trivial
 |eqa ks neg x y=>simp only[i5,oSJ]at h;subst h;refine fT (gT λj hj=>by simp[hj]) λt=>fT (gT λj hj=>by simp[hj]) λti=>?_;split;exact fT p7 λ_=>fT p7 λ_=>fT p7 λ_=>hY;exact trivial|un op x=>simp only[i5,oSJ]at h;subst h;refine fT (gT λj hj=>by simpa using hj) λt=>fT nI λ_=>fT p7 λr=>?_;split<;>first|exact hY|exact trivial
 |conv k x=>simp only[i5,oSJ]at h;subst h;refine fT (gT λj hj=>by simpa using hj) λt=>fT nI λ_=>?_;split<;>first|exact hY|exact trivial
 |len x=>simp only[i5,oSJ]at h;subst h;exact fT (gT λj hj=>by simpa using hj) λt=>fT G7 λ_=>hY|lens x=>simp only[i5,oSJ]at h;subst h;refine fT (gT λj hj=>by simpa using hj) λt=>?_;split<;>first|exact hY|exact trivial
 |ixs x i=>
 simp only[i5,oSJ]at h;subst h;refine fT (gT λj hj=>by simp[hj]) λt=>fT (gT λj hj=>by simp[hj]) λti=>fT wu λk=>?_
 (repeat' split)<;>first|exact hY|exact trivial
 |_=>simp[i5]at h
end
def KM(t:lw):Option (Nat×N_):=
 match t.dst,i5 t.op with
 |some d,some S=>some (d,(match t.guard with|some (j,_)=>j::S|none=>S))
 |_,_=>none
theorem Aj{α:Type}{d:Nat}{S S':N_}(hs:∀i∈S,i∈S'){s:SP α}(h:s.quiet d S):s.quiet d S':=by induction s with|ret a=>exact trivial|fail=>exact trivial|rdT i k ih=>exact⟨hs i h.1,λt=>ih t (h.2 t)⟩|rdC r o k ih=>exact λt=>ih t (h t)|rdH r o k ih=>exact λt=>ih t (h t)|rdV q k ih=>exact λn=>ih n (h n)|wrT i t k ih=>exact⟨h.1,ih h.2⟩|wrC r o t k ih=>exact h.elim|new r l k ih=>exact h.elim|bump q k ih=>exact h.elim
theorem DS{call:x_->TOp->SP Unit}{t:lw}{d:Nat}{S:N_}(h:KM t=some (d,S)):(spOp call t).quiet d S:=by
 unfold KM at h;split at h;case h_2=>simp at h
 rename_i d' S' hd hq;injection h with h
 injection h with h1 h2
 subst h1;have XN:(evop call t.dst t.op)=ev1 d' t.op:=by rw[hd];cases hop:t.op<;>rw[hop]at hq<;>first|rfl|simp[i5]at hq
 have YB:(setNo t.dst).quiet d' S:=by rw[hd];exact⟨rfl,trivial⟩
 unfold spOp;cases hg:t.guard with|none=>rw[hg]at h2;subst h2;rw[XN];exact G8 hq|some g=>have ⟨j,want⟩:=g;rw[hg]at h2;subst h2;refine⟨by simp,λtv=>?_⟩;show SP.quiet d' (j::S') (match tv with|.v (.bool b)=>if b=want then evop call t.dst t.op else setNo t.dst|.tup []=>setNo t.dst|_=>.fail);split;split;rw[XN];exact Aj (by simp +contextual) (G8 hq);exact YB;exact YB;exact trivial
def RS(deps:k_)(tops:List lw)(i j:Nat):Bool:=
 (deps.getD j []).contains i||(match KM (tops.getD i I5),KM (tops.getD j I5)with
  |some (di,Si),some (dj,Sj)=>di != dj && !Sj.contains di && !Si.contains dj
  |_,_=>false)
def DL(deps:k_)(tops:List lw):N_->Bool| []=>true|i::r=>(r.all λj=>RS deps tops i j)&&DL deps tops r
theorem Jm{a b:vm}{da db:Nat}{Sa Sb:N_}(ha:(∀x∈a.2,x=.t da)/\∀i,Loc.t i∈a.1->i∈Sa)(hb:(∀x∈b.2,x=.t db)/\∀i,Loc.t i∈b.1->i∈Sb)(h1:da≠db)(h2:da ∉ Sb)(h3:db ∉ Sa):sF a b=false:=by
 have hm:∀(l l':List Loc)(d d':Nat)(S:N_),(∀x∈l,x=.t d)->((∀x∈l',x=.t d')/\d≠d'\/(∀i,Loc.t i∈l'->i∈S)/\d ∉ S)->Mb l l'=false:=by
  intro l l' d d' S hl YG;unfold Mb;simp;intro w hw x hx;rw[hl w hw];cases x with
  |t i=>
  simp[Loc.hit];intro e;rcases YG with⟨q1,q2⟩|⟨q1,q2⟩;have:=q1 _ hx;injection this with this;omega
  simp_all
  |_=>rfl
 unfold sF;rw[hm a.2 b.1 da 0 Sb ha.1 (.inr ⟨hb.2,h2⟩),hm a.2 b.2 da db [] ha.1 (.inl ⟨hb.1,h1⟩),hm b.2 a.1 db 0 Sa hb.1 (.inr ⟨ha.2,h3⟩),hm b.2 a.2 db da [] hb.1 (.inl ⟨ha.1,Ne.symm h1⟩)];rfl
theorem LN{call:x_->TOp->SP Unit}{tops:List lw}{deps:k_}:∀{L:N_}{σ τ:St}{fs:List (Nat×vm)},DL deps tops L=true->vn (λi=>spOp call (tops.getD i I5)) L σ=some (fs,τ)->lr deps fs=true/\fs.map (·.1)=L/\∀y∈fs,∃ σ1,y.2=(spOp call (tops.getD y.1 I5)).foot σ1:=by
 intro L;induction L with
 |nil=>intro σ τ fs _ hr;obtain⟨rfl,rfl⟩:=hr;exact⟨rfl,rfl,λy hy=>by simp at hy⟩|cons i L ih=>
 intro σ τ fs hs hr;simp only[DL,oBA,oAE]at hs;simp only[vn]at hr;obtain⟨x,h1,h2⟩:=gd hr;obtain⟨y,h3,h4⟩:=gd h2;obtain⟨rfl,rfl⟩:=h4;obtain⟨q1,q2,q3⟩:=ih hs.2 h3;refine⟨?_,by simp[q2],λz hz=>?_⟩;simp only[lr,oBA,oAE];refine⟨λz hz=>?_,q1⟩;have hzL:z.1∈L:=by rw[<- q2];exact List.mem_map_of_mem hz
 have hp:=hs.1 z.1 hzL;unfold RS at hp;simp only[Bool.or_eq_true]at hp⊢;rcases hp with hp|hp;exact .inr hp;left;split at hp;rename_i di Si dj Sj e1 e2;simp at hp;obtain⟨σ1,e3⟩:=q3 z hz;have:=Jm (sX (DS (call:=call) e1) σ) (sX (DS (call:=call) e2) σ1) hp.1.1 hp.1.2 hp.2;simp_all;simp at hp;rcases oMC.1 hz with rfl|hz;exact⟨σ,rfl⟩;exact q3 z hz
theorem Qe{call:x_->TOp->SP Unit}{o:lw}{σ σ':St}(h:Et call o σ=some σ'):(spOp call o).run σ=some ((),σ'):=by
 have YB:∀{σ'},(match o.dst with|some d=>some { σ with tm:=iJ σ.tm d (.tup []) } |none=>some σ)=some σ'->(setNo o.dst).run σ=some ((),σ'):=by intro σ' h;unfold setNo;cases hd:o.dst with|none=>rw[hd]at h;simp at h;simp[SP.run,h]|some d=>rw[hd]at h;simp at h;simp[SP.run,h]
 have hm:∀{s:SP Unit}{σ'},(s.run σ).map (·.2)=some σ'->s.run σ=some ((),σ'):=by simp_all
 unfold Et at h;unfold spOp;cases hg:o.guard with|none=>rw[hg]at h;exact hm h|some g=>rw[hg]at h;simp[SP.run]at h⊢;split at h;split at h;rename_i hbw;rw[oIP hbw];exact hm h;rename_i hbw;rw[oIN hbw];exact YB h;exact YB h;simp at h
theorem NI{call:x_->TOp->SP Unit}{tops:List lw}:∀{L:N_}{σ τ:St},wX call (L.map λi=>tops.getD i I5) σ=some τ->∃fs,vn (λi=>spOp call (tops.getD i I5)) L σ=some (fs,τ):=by intro L;induction L with|nil=>intro σ τ h;simp[wX]at h;subst h;exact⟨[],rfl⟩|cons i L ih=>intro σ τ h;have ⟨σ1,h1,h2⟩:=gd h;have ⟨fs,h3⟩:=ih h2;refine⟨(i,(spOp call (tops.getD i I5)).foot σ)::fs,?_⟩;simp only[vn,Qe h1,oBS,h3]
theorem LU(tops:List lw):(List.range tops.length).map (λi=>tops.getD i I5)=tops:=by apply oEG;intro i;by_cases h:i<tops.length;simp[h];simp_all
def kf(P:Program)(M:Fm)(isCall:Op->TOp->Prop):lO->Code->Prop
 |.skip,c=>c=.skip|.nrm _,c=>c=.skip|.reg _ draw tops _,c=>∃id ops dr,c=.region id ops dr/\tops.length=ops.size/\(∀i (h:i<ops.size)(h':i<tops.length),Ai P M isCall ops ops[i] tops[i])/\match draw with|some deps=>dr=true/\Cw ops deps/\P.follows .mixedOrders=true|none=>dr=true->∃deps,Cw ops deps/\P.follows .mixedOrders=true/\DL deps tops (List.range tops.length)=true
 |.seq x y,c=>∃x' y',c=.seq x' y'/\kf P M isCall x x'/\kf P M isCall y y'|.cond k x y,c=>∃k' x' y',c=.cond k' x' y'/\fZ k'=some k/\kf P M isCall x x'/\kf P M isCall y y'|.block id x,c=>∃x',c=.block id x'/\kf P M isCall x x'|.loop x,c=>∃x',c=.loop x'/\kf P M isCall x x'|.exit id,c=>c=.exit id|.ret,c=>c=.ret|.pre l x,c=>(∀y∈l,M.ok y.1)/\kf P M isCall x c|.frz i n x,c=>(1000<=n\/M.ok i/\M.pr (2*i+2)=none)/\kf P M isCall x c|.post x l,c=>(∀y∈l,M.ok y.1)/\kf P M isCall x c
def nz.toExit:nz->Exit|.normal=>.normal|.exit id=>.exit id|.ret=>.ret
section
variable {P:Program} {M:Fm} {isCall:Op->TOp->Prop} {call:x_->TOp->SP Unit}
theorem ru.toTm{w:World}{F:Nat->Prop}{V:Vs}{C:Cs}{G:Gh}{t:TV}{x:Value}(h:ru w F t x):TmR w F V C G t x:=by exact(ImF.im h).toTm
theorem SL{σ σ':St}{ts:s_}{w:World}{G:Gh}(hI:Inv M σ [] [] ts w G){x:Nat×x_}(hx:M.ok x.1)(hr:(shr1 x).run σ=some ((),σ')):∃G',Inv M σ' [] [] ts w G':=by
 obtain⟨i,off⟩:=x;have same:some ((),σ)=some ((),σ')->∃G',Inv M σ' [] [] ts w G':=λh=>by simp at h;exact⟨G,h▸hI⟩
 have Zg:=hI.tmr i;have drop:∀{t t':TV}{v:Value}{σ1:St}{H:U_},TmR w (G.F M.A) σ.v (gy M σ []) G t v->(take1 false t).run σ=some (t',σ1)->t'≠.dead->∃G2,Inv M σ1 [] [] ts w G2/\TmR w (G2.F M.A) σ1.v (gy M σ1 []) G2 t'.imm v/\σ1.tm=σ.tm:=by
  intro t t' v σ1 H ht h1 Zn;obtain⟨G1,hg,_⟩:=lQ hI ht h1;obtain⟨G2,Zu,ZH⟩:=hg.1.dropImm (λj hj=>by
   obtain rfl:j=0:=by simpa using hj
   exact Zn)
  have h0:=ZH 0 (by simp);refine⟨G2,Zu.1,?_,Zu.2.2.2.trans hg.2.2.2⟩;exact h0.toTm
 unfold shr1 at hr;simp only[SP.run]at hr;cases off with
 |none=>
 cases ht:σ.t i with
  |pk p vs=>
  rw[ht]at hr Zg;simp only at hr;obtain⟨t',σ1,h1,h2⟩:=fN hr;simp only[SP.run,oSJ,oPJ,true_and]at h2;have Zn:t'≠.dead:=by intro e;rcases nC h1 with h|h<;>rw[e]at h<;>simp[is,nM]at h
  obtain⟨G2,ZN,YP,_⟩:=drop (H:=[]) Zg h1 Zn;refine⟨G2,?_⟩;rw[<- h2];have:=ZN.wrT hx YP;have e:ts.setIfInBounds i (ts.getD i undef)=ts:=by apply Array.ext;simp;intro j h3 h4;rw[Array.getElem_setIfInBounds (by simpa using h4)];simp_all
  rw[e]at this;exact this
  |_=>rw[ht]at hr;exact same hr
 |some off=>
 cases ht:σ.t i with
 |ptr p vs=>
 rw[ht]at hr Zg;simp only at hr;obtain⟨_,σ1,h1,h2⟩:=fN hr;have e1:σ1=σ:=(gt h1).1;have e2:=(gt h1).2;subst e1;split at h2;case isFalse=>simp[SP.run]at h2
 obtain⟨t,σ2,h3,h4⟩:=fN h2;obtain⟨e3,hg⟩:=iD h3;have e3:σ2=σ1:=e3;subst e3;cases t with
  |ow c=>
  simp only at h4;obtain⟨t',σ3,h5,h6⟩:=fN h4;obtain⟨t2,σ4,h7,h8⟩:=fN h6;simp only[SP.run,oSJ,oPJ,true_and]at h8;subst h8;cases Zg with
   |ptr V0 h0 hv h=>
   obtain⟨Z6,ad,t0,ha,_,_⟩:=h e2;have Yi:(shq p off).root≠1:=by unfold shq;split;rw[iy];exact Z6;exact Z6
   have hgE:gE (gy M σ2 [] (shq p off).root (shq p off).off) (shq p off).hops=some (.ow c):=by rw[gv (by exact Yi)];exact hg
   obtain⟨u,fp,Xj,hown,_⟩:=hI.core.hv_own (shq p off) hgE (by simp);obtain⟨rfl,ZU⟩:=w7 hI Yi hg hown Xj h5;have Zn:t2≠.dead:=by intro e;rcases nC h7 with h|h<;>rw[e]at h<;>simp[is,nM]at h
   obtain⟨G2,ZN,_,_⟩:=drop (H:=[]) ZU h7 Zn;exact⟨G2,ZN⟩
  |_=>exact same h4
 |_=>rw[ht]at hr;exact same hr
theorem Ny{ts:s_}{w:World}:∀{l:a_}{σ σ':St}{G:Gh},Inv M σ [] [] ts w G->(∀y∈l,M.ok y.1)->(shrs l).run σ=some ((),σ')->∃G',Inv M σ' [] [] ts w G':=by intro l;induction l with|nil=>intro σ σ' G hI _ hr;simp[shrs,SP.run]at hr;exact⟨G,hr▸hI⟩|cons x l ih=>intro σ σ' G hI hl hr;have ⟨_,σ1,h1,h2⟩:=fN hr;have ⟨G1,hI1⟩:=SL hI (hl x (by simp)) h1;exact ih hI1 (λy hy=>hl y (by simp[hy])) h2
theorem UC{σ σ':St}{ts:s_}{w:World}{G:Gh}(hI:Inv M σ [] [] ts w G){i n:Nat}(hip:1000<=n\/M.ok i/\M.pr (2*i+2)=none)(hr:(UD i n).run σ=some ((),σ')):∃G',Inv M σ' [] [] ts w G':=by unfold UD at hr;split at hr;simp[SP.run]at hr;subst hr;exact⟨G,hI⟩;simp[SP.run]at hr
theorem KG(hcall:Cy P M isCall call)(N:Nat):∀(tc:lO)(c:Code)(σ:St)(e:nz)(σ':St)(a:Act)(w:World)(G:Gh)(Q:Exit->Act->World->Prop),kf P M isCall tc c->runC call N tc σ=some (e,σ')->Inv M σ [] [] a.tmps w G ->(∀a' w' G',Inv M σ' [] [] a'.tmps w' G'->a'.defers=a.defers->Q e.toExit a' w')->c.wp P Q a w:=by
 intro tc;induction tc with
 |skip=>intro c σ e σ' a w G Q hc hr hI hQ;simp only[kf]at hc;subst hc;obtain⟨rfl,rfl⟩:=hr;exact wp_skip (hQ a w G hI rfl)|nrm pers=>intro c σ e σ' a w G Q hc hr hI hQ;simp only[kf]at hc;subst hc;obtain⟨rfl,rfl⟩:=hr;obtain⟨G2,ZN⟩:=hI.norm pers;exact wp_skip (hQ a w G2 ZN rfl)|reg id draw tops pers=>
 intro c σ e σ' a w G Q hc hr hI hQ;obtain⟨id',ops,dr,rfl,hlen,hok,hdr⟩:=hc;simp only[runC]at hr;cases draw with
  |some deps=>
  simp only at hr;obtain⟨⟨fs,τ⟩,h1,h2⟩:=gd hr;simp only at h2;split at h2;rename_i hp;injection h2 with h2
  injection h2 with h2 h3
  subst h2;subst h3;obtain⟨rfl,Yx,hm⟩:=hdr;refine KF hm hlen hok hcall Yx hI h1 hp λa' w' G' Zw Yw=>?_;obtain⟨G2,ZN⟩:=Zw.norm pers;exact hQ a' w' G2 ZN Yw;simp at h2
  |none=>
  simp only at hr;obtain⟨σ1,h1,h2⟩:=kF hr;injection h2 with h2 h3
  subst h2;subst h3;cases dr with
  |true=>obtain⟨deps,Yx,hm,hst⟩:=hdr rfl;obtain⟨fs,ZE⟩:=NI (tops:=tops) (L:=List.range tops.length) (by rw[LU];exact h1);refine KF hm hlen hok hcall Yx hI ZE (LN hst ZE).1 λa' w' G' Zw Yw=>?_;obtain⟨G2,ZN⟩:=Zw.norm pers;exact hQ a' w' G2 ZN Yw|false=>
  refine wp_region ?_;have hm:(List.range ops.size).map (λi=>tops.getD i ⟨none,none,.lens (.t 0)⟩)=tops:=by apply oEG;intro i;by_cases h:i<ops.size;simp[h,hlen];rw[oGN (by simpa using h),oGN (by omega)]
  refine Su hlen hok hcall (List.range ops.size) σ a w G (λi hi=>by simpa using hi) hI (by rw[hm];exact h1) λa' w' G' Zw Yw=>?_;obtain⟨G2,ZN⟩:=Zw.norm pers;exact hQ a' w' G2 ZN Yw
 |seq x y XA ihy=>intro c σ e σ' a w G Q hc hr hI hQ;obtain⟨x',y',rfl,hx,hy⟩:=hc;simp only[runC]at hr;obtain⟨⟨e1,σ1⟩,h1,h2⟩:=gd hr;refine wp_seq (XA x' σ e1 σ1 a w G _ hx h1 hI λa' w' G' Zw hd=>?_);cases e1 with|normal=>exact ihy y' σ1 e σ' a' w' G' Q hy h2 Zw λa2 w2 G2 h3 h4=>hQ a2 w2 G2 h3 (h4.trans hd)|exit id=>simp only[oSJ,oPJ]at h2;obtain⟨rfl,rfl⟩:=h2;exact hQ a' w' G' Zw hd|ret=>simp only[oSJ,oPJ]at h2;obtain⟨rfl,rfl⟩:=h2;exact hQ a' w' G' Zw hd
 |cond k x y XA ihy=>
 intro c σ e σ' a w G Q hc hr hI hQ;obtain⟨k',x',y',rfl,hk,hx,hy⟩:=hc;simp only[runC]at hr;obtain⟨⟨t,σ1⟩,h1,h2⟩:=gd hr;obtain⟨rfl,ht⟩:=ij hI.tmr hk h1;cases t with
  |v z=>
  obtain⟨hz,_⟩:=ht.v_inv;cases z with
   |bool b=>cases b with|true=>exact wp_cond_true hz (XA x' _ e σ' a w G Q hx h2 hI hQ)|false=>exact wp_cond_false hz (ihy y' _ e σ' a w G Q hy h2 hI hQ)
   |_=>simp at h2
  |_=>simp at h2
 |block id x XA=>intro c σ e σ' a w G Q hc hr hI hQ;obtain⟨x',rfl,hx⟩:=hc;simp only[runC]at hr;obtain⟨⟨e1,σ1⟩,h1,h2⟩:=gd hr;refine wp_block (XA x' σ e1 σ1 a w G _ hx h1 hI λa' w' G' Zw hd=>?_);cases e1 with|normal=>simp only[oSJ,oPJ]at h2;obtain⟨rfl,rfl⟩:=h2;exact hQ a' w' G' Zw hd|exit i=>simp only at h2;simp only[nz.toExit,Exit.inBlock];split at h2;rename_i hi;simp only[oSJ,oPJ]at h2;obtain⟨rfl,rfl⟩:=h2;rw[oIP hi];exact hQ a' w' G' Zw hd;rename_i hi;simp only[oSJ,oPJ]at h2;obtain⟨rfl,rfl⟩:=h2;rw[oIN hi];exact hQ a' w' G' Zw hd|ret=>simp only[oSJ,oPJ]at h2;obtain⟨rfl,rfl⟩:=h2;exact hQ a' w' G' Zw hd
 |loop x XA=>
 intro c σ e σ' a w G Q hc hr hI hQ;obtain⟨x',rfl,hx⟩:=hc;simp only[runC]at hr;have key:∀(n:Nat)(σ:St)(a:Act)(w:World)(G:Gh)(d:List Deferred),a.defers=d->Tg (runC call N x) n σ=some (e,σ')->Inv M σ [] [] a.tmps w G->(∀a' w' G',Inv M σ' [] [] a'.tmps w' G'->a'.defers=d->Q e.toExit a' w')->Code.rounds P x' Q n a w:=by intro n;induction n with|zero=>intro σ a w G d _ hr;simp[Tg]at hr|succ n ih=>intro σ a w G d hd hr hI hQ;simp only[Tg]at hr;obtain⟨⟨e1,σ1⟩,h1,h2⟩:=gd hr;rw[rounds_succ];refine XA x' σ e1 σ1 a w G _ hx h1 hI λa' w' G' Zw Yw=>?_;cases e1 with|normal=>exact ih σ1 a' w' G' d (Yw.trans hd) h2 Zw hQ|exit i=>simp only[oSJ,oPJ]at h2;obtain⟨rfl,rfl⟩:=h2;exact hQ a' w' G' Zw (Yw.trans hd)|ret=>simp only[oSJ,oPJ]at h2;obtain⟨rfl,rfl⟩:=h2;exact hQ a' w' G' Zw (Yw.trans hd)
 exact wp_loop_rounds N (key N σ a w G a.defers rfl hr hI hQ)
 |exit id=>intro c σ e σ' a w G Q hc hr hI hQ;simp only[kf]at hc;subst hc;obtain⟨rfl,rfl⟩:=hr;exact wp_exit (hQ a w G hI rfl)|ret=>intro c σ e σ' a w G Q hc hr hI hQ;simp only[kf]at hc;subst hc;obtain⟨rfl,rfl⟩:=hr;exact wp_ret (hQ a w G hI rfl)|frz i n x XA=>intro c σ e σ' a w G Q hc hr hI hQ;obtain⟨hl,hx⟩:=hc;simp only[runC]at hr;obtain⟨⟨u,σ1⟩,h1,h2⟩:=gd hr;obtain⟨G1,hI1⟩:=UC hI hl h1;obtain⟨G2,ZN⟩:=hI1.norm (σ1.tm.map (·.1),σ1.ce.map (·.1));exact XA c σ1.anew e σ' a w G2 Q hx h2 ZN hQ|pre l x XA=>intro c σ e σ' a w G Q hc hr hI hQ;obtain⟨hl,hx⟩:=hc;simp only[runC]at hr;obtain⟨⟨u,σ1⟩,h1,h2⟩:=gd hr;obtain⟨G1,hI1⟩:=Ny hI hl h1;obtain⟨G2,ZN⟩:=hI1.norm (σ1.tm.map (·.1),σ1.ce.map (·.1));exact XA c σ1.anew e σ' a w G2 Q hx h2 ZN hQ|post x l XA=>intro c σ e σ' a w G Q hc hr hI hQ;obtain⟨hl,hx⟩:=hc;simp only[runC]at hr;obtain⟨⟨e1,σ1⟩,h1,h2⟩:=gd hr;obtain⟨⟨u,σ2⟩,h3,h4⟩:=gd h2;simp only[oSJ,oPJ]at h4;obtain⟨rfl,rfl⟩:=h4;refine XA c σ e1 σ1 a w G Q hx h1 hI λa' w' G' Zw hd=>?_;obtain⟨G2,ZN⟩:=Ny Zw hl h3;obtain⟨G3,Wu⟩:=ZN.norm (σ2.tm.map (·.1),σ2.ce.map (·.1));exact hQ a' w' G3 Wu hd
end
inductive TRs where
 |tmp (t:Nat)
 |cell (t:Nat) (n:Option Nat)
abbrev Q_:=List TRs
structure TFn where
 np:Nat
 pp:N_
 nt:Nat
 body:lO
 res:Q_
def Ux(np r:Nat):Bool:=r%2==0&&decide (r<2*np+2)
def takeR1(np:Nat)(t:TV):SP TV:=match t with|.pk p vs=>take1 (!Ux np p.root) (.pk p vs)|t=>take1 true t
def takeRL(np:Nat):U_->SP U_| []=>.ret []|t::r=>(takeR1 np t).bind λt'=>(takeRL np r).bind λr'=>.ret (t'::r')
def takeRV(np:Nat)(t:TV):SP (U_×RSh):=match t with|.agg l=>(takeRL np l).bind λl'=>.ret (l',.agg l'.length)|t=>(takeR1 np t).bind λt'=>.ret ([t'],.one)
def res1(np:Nat):TRs->SP (U_×RSh)
 |.tmp t=>.rdT t λtv=>takeRV np tv|.cell t n=>.rdT t λtv=>match tv with
  |.ptr p vs=>(chk p p.hops.length vs).bind λ_=>match n with|none=>(getPl p).bind λt=>(peek1 p t).bind λt'=>takeRV np t'|some n=>(peekL p n).bind λl=>takeRV np (.agg l)
  |_=>.fail
def resL(np:Nat):Q_->SP (U_×P_)| []=>.ret ([],[])|r::rs=>(res1 np r).bind λx=>(resL np rs).bind λy=>.ret (x.1++y.1,x.2::y.2)
def Fg:TV->Bool|.v x=>kn x|_=>false
def unV:TV->Value|.v x=>x|_=>undef
def onesOf:U_->P_| []=>[]|_::r=>.one::onesOf r
def flatsR:Q_->SP U_| []=>.ret []|.tmp t::r=>.rdT t λtv=>if Fg tv then(flatsR r).bind λl=>.ret (tv::l)else .fail|.cell _ _::_=>.fail
def resF(np:Nat):Q_->SP (U_×P_)
 |.tmp t::r=>.rdT t λtv=>match tv with|.ptr p vs=>(chk p p.hops.length vs).bind λ_=>(flatsR r).bind λl=>.ret (.ptr p vs::l,.ptr::onesOf l)|_=>resL np (.tmp t::r)
 |qs=>resL np qs
def KJ(t:TV):U_->TV| []=>t|y::l=>.tup (t::y::l)
def DQ(x:Value):w_->Value| []=>x|y::l=>.tuple (x::y::l).toArray
theorem NB{w:World}{F:Nat->Prop}{V:Vs}{C:Cs}{G:Gh}{t:TV}{x:Value}(h:TmR w F V C G t x):∀{l:U_},l.all Fg=true->TmR w F V C G (KJ t l) (DQ x (l.map unV)):=by
 intro l hl;have ZK:∀j (hj:j<l.length),TmR w F V C G l[j] (unV l[j]):=by intro j hj;have:=oAE.1 hl l[j] (oGX hj);cases hc:l[j]with|v y=>rw[hc]at this;exact .v this|_=>rw[hc]at this;simp[Fg]at this
 cases l with
 |nil=>exact h|cons y l=>
 refine .tup (by simp) λj hj=>?_;cases j with
 |zero=>exact h|succ j=>
 have ZO:j<(y::l).length:=by simp_all
 have e:(x::unV y::l.map unV).toArray.getD (j+1) undef=unV (y::l)[j]:=by
  have e0:((y::l).map unV)[j]?=some (unV (y::l)[j]):=by rw[oGP,oGE ZO];rfl
  simp_all
 simp_all
def jA:P_->w_->w_| [],_=>[]|.one::r,ys=>ys.headD undef::jA r ys.tail|.agg n::r,ys=>.agg (ys.take n).toArray::jA r (ys.drop n)|.ptr::r,ys=>undef::jA r ys
def p6(sh:P_)(ys:w_):Value:=match jA sh ys with| [x]=>x|l=>.tuple l.toArray
section
variable {P:Program} {M:Fm} {σ σ':St} {H:U_} {xs:w_} {ts:s_} {w:World} {G:Gh}
theorem GK(np:Nat)(t:TV):∃mv,takeR1 np t=take1 mv t:=by cases t<;>first|exact⟨true,rfl⟩|exact⟨_,rfl⟩
theorem M1{np:Nat}:∀{l l':U_}{ys:w_}{σ σ':St}{H:U_}{xs:w_}{G:Gh},Inv M σ H xs ts w G->l.length=ys.length->(∀j (h:j<l.length),TmR w (G.F M.A) σ.v (gy M σ H) G l[j] (ys.getD j undef))->(takeRL np l).run σ=some (l',σ')->l'.length=l.length/\(∃G',pJ M w ts σ H G σ' (H++l') (xs++ys) G')/\∀j (h:j<l'.length),is l'[j]=true\/nM l'[j]=true:=by intro l;induction l with|nil=>intro l' ys σ σ' H xs G hI hl _ hr;obtain⟨rfl,rfl⟩:=hr;have:=oEN (by simpa using hl.symm);subst this;exact⟨rfl,⟨G,by simpa using pJ.refl hI⟩,λj h=>by simp at h⟩|cons t l ih=>intro l' ys σ σ' H xs G hI hl ht hr;cases ys with|nil=>simp at hl|cons y ys=>obtain⟨t',σ1,h1,h2⟩:=fN hr;obtain⟨r',σ2,h3,h4⟩:=fN h2;obtain⟨rfl,rfl⟩:=h4;have ⟨mv,hmv⟩:=GK np t;rw[hmv]at h1;have ⟨G1,Zi,ho⟩:=lQ hI (ht 0 (by simp)) h1;obtain⟨e,⟨G2,Zu⟩,hok⟩:=ih (l':=r') Zi.1 (by simpa using hl) (λj hj=>Zi.tm (by have:=ht (j+1) (by simpa using hj);simpa using this)) h3;refine⟨by simp[e],⟨G2,by simpa using Zi.trans Zu⟩,λj hj=>?_⟩;cases j with|zero=>exact nC h1|succ j=>exact hok j (by simp_all)
theorem A3{np:Nat}{t:TV}{x:Value}{r:U_×RSh}(hI:Inv M σ H xs ts w G)(hx:TmR w (G.F M.A) σ.v (gy M σ H) G t x)(hr:(takeRV np t).run σ=some (r,σ')):∃ys G',pJ M w ts σ H G σ' (H++r.1) (xs++ys) G'/\r.1.length=ys.length/\(∀j (h:j<r.1.length),is r.1[j]=true\/nM r.1[j]=true)/\∀(rest:P_)(zs:w_),jA (r.2::rest) (ys++zs)=x::jA rest zs:=by
 by_cases ht:∃q,t=.agg q;obtain⟨q,rfl⟩:=ht;obtain⟨l',σ1,h1,h2⟩:=fN hr;obtain⟨rfl,rfl⟩:=h2;obtain⟨vs,rfl,hl,hj⟩:=Pp hx;obtain⟨e1,⟨G',hg⟩,hok⟩:=M1 (ys:=vs.toList) hI (by simp[hl]) (λj h=>by simp_all) h1;refine⟨vs.toList,G',hg,by simp_all,hok,λrest zs=>?_⟩;have hn:l'.length=vs.toList.length:=by simp_all
 simp[jA,hn];have e:takeRV np t=(takeR1 np t).bind λt'=>.ret ([t'],.one):=by cases t<;>first|rfl|exact absurd ⟨_,rfl⟩ ht
 rw[e]at hr;obtain⟨t',σ1,h1,h2⟩:=fN hr;obtain⟨rfl,rfl⟩:=h2;obtain⟨mv,hmv⟩:=GK np t;rw[hmv]at h1;obtain⟨G',hg,ho⟩:=lQ hI hx h1;refine⟨[x],G',hg,rfl,λj hj=>?_,λrest zs=>rfl⟩;obtain rfl:j=0:=by simp_all
 exact nC h1
def Ko(P:Program):TRs->ResultVar->Prop|.tmp t,r=>r=.tmp t|.cell t n,r=>∃ty,r=.cell t ty/\Pv P ty n
theorem SY{np:Nat}{q:TRs}{q':ResultVar}{r:U_×RSh}(hI:Inv M σ H xs ts w G)(hq:Ko P q q')(hr:(res1 np q).run σ=some (r,σ')):∃x ys G',(match q' with|.tmp t=>(pure (ts.getD t undef):Sem Value)|.cell a t=>do loadVar t (<- asAddr (ts.getD a undef))).run P w=.ok x w/\pJ M w ts σ H G σ' (H++r.1) (xs++ys) G'/\r.1.length=ys.length /\(∀j (h:j<r.1.length),is r.1[j]=true\/nM r.1[j]=true)/\∀(rest:P_)(zs:w_),jA (r.2::rest) (ys++zs)=x::jA rest zs:=by
 cases q with
 |tmp t=>have hq:q'=.tmp t:=hq;subst hq;obtain⟨ys,G',h1,h2,h3,h4⟩:=A3 hI (hI.tmr t) hr;exact⟨_,ys,G',rfl,h1,h2,h3,h4⟩|cell t n=>
 obtain⟨ty,rfl,hn⟩:=hq;simp only[res1,SP.run]at hr;have Zg:=hI.tmr t;cases hs:σ.t t with
 |ptr p vs=>
 rw[hs]at hr Zg;simp only at hr;obtain⟨_,σ2,h3,h4⟩:=fN hr;have e1:σ2=σ:=(gt h3).1;have e2:=(gt h3).2;subst e1;generalize hz:ts.getD t undef=z at Zg;cases Zg with
  |ptr V0 h0 hv h=>
  obtain⟨Z6,ad,t0,ha,rfl,_⟩:=h e2;cases n with
  |none=>obtain⟨dd,hu,Yn,hd2⟩:=hn;simp only at h4;obtain⟨t1,σ3,h5,h6⟩:=fN h4;obtain⟨e3,hg⟩:=iD h5;subst e3;obtain⟨t',σ4,h7,h8⟩:=fN h6;obtain⟨hB,u,fp,YO,hown,Zy⟩:=hI.named Z6 ha hg (ve h7);obtain⟨rfl,ZU⟩:=w7 hI Z6 hg hown Zy h7;obtain⟨ys,G',k1,k2,k3,k4⟩:=A3 hI ZU h8;refine⟨u,ys,G',?_,k1,k2,k3,k4⟩;show((do loadVar ty (<- asAddr (ts.getD t undef))):Sem Value).run P w=_;rw[hz];simp[asAddr,loadVar,tZ hu Yn hd2,YO]|some n=>
  obtain⟨⟨dd,hu,Yn⟩,hsz⟩:=hn;simp only at h4;obtain⟨l,σ3,h5,h6⟩:=fN h4;obtain⟨rfl,e3,us,e4,e5⟩:=KQ hI Z6 ha h5;have hagg:TmR w (G.F M.A) σ3.v (gy M σ3 H) G (.agg l) (.agg us.toArray):=.agg (by simp[e3,e4]) λj hj=>by have:=(e5 j hj (by omega)).2;simpa[show j<us.length by omega]using this
  obtain⟨ys,G',k1,k2,k3,k4⟩:=A3 hI hagg h6;refine⟨_,ys,G',?_,k1,k2,k3,k4⟩;have ZD:=oE ha;have ZW:=run_loadCells_list (P:=P) w ad us λj v hj=>by obtain⟨hlt,rfl⟩:=oGS hj;have:=(e5 j (by omega) hlt).1;obtain⟨b,o,s⟩:=ad;simp only at ZD;subst ZD;rw[iZ];exact this
  have Yv:(sizeOf ty).run P w=.ok n w:=by unfold sizeOf typeInfo;cases hi:P.info? ty with|none=>simp[hi]at hsz|some i=>simp_all
  rw[e4]at ZW;show((do loadVar ty (<- asAddr (ts.getD t undef))):Sem Value).run P w=_;rw[hz];simp[asAddr,loadVar,sn hu Yn,Yv,ZW]
 |_=>rw[hs]at hr;simp[SP.run]at hr
theorem SX{np:Nat}:∀{qs:Q_}{qs':List ResultVar}{r:U_×P_}{σ σ':St}{H:U_}{xs:w_}{G:Gh},Inv M σ H xs ts w G->qs.length=qs'.length->(∀k (h:k<qs.length)(h':k<qs'.length),Ko P qs[k] qs'[k])->(resL np qs).run σ=some (r,σ')->∃vs ys G',(qs'.mapM λ(q:ResultVar)=>(match q with|.tmp t=>(pure (ts.getD t undef):Sem Value)|.cell a t=>do loadVar t (<- asAddr (ts.getD a undef)))).run P w=.ok vs w/\pJ M w ts σ H G σ' (H++r.1) (xs++ys) G'/\r.1.length=ys.length /\(∀j (h:j<r.1.length),is r.1[j]=true\/nM r.1[j]=true)/\jA r.2 ys=vs:=by intro qs;induction qs with|nil=>intro qs' r σ σ' H xs G hI hl _ hr;have:=oEN (by simpa using hl.symm);subst this;obtain⟨rfl,rfl⟩:=hr;exact⟨[],[],G,by simp,by simpa using pJ.refl hI,rfl,λj h=>by simp at h,rfl⟩|cons q qs ih=>intro qs' r σ σ' H xs G hI hl hok hr;cases qs' with|nil=>simp at hl|cons q' qs'=>obtain⟨x,σ1,h1,h2⟩:=fN hr;obtain⟨y,σ2,h3,h4⟩:=fN h2;obtain⟨rfl,rfl⟩:=h4;obtain⟨v,ys,G1,k1,k2,k3,k4,k5⟩:=SY hI (hok 0 (by simp) (by simp)) h1;obtain⟨vs,zs,G2,l1,l2,l3,l4,l5⟩:=ih (qs':=qs') k2.1 (by simpa using hl) (λk h h'=>hok (k+1) (by simpa using h) (by simpa using h')) h3;refine⟨v::vs,ys++zs,G2,?_,by simpa using k2.trans l2,by simp[k3,l3],λj hj=>?_,?_⟩;rw[List.mapM_cons,Sem.run_bind];refine(congrArg (λr=>Result.andThen r _) k1).trans ?_;simp only[Result.andThen_ok,Sem.run_bind,l1,Sem.run_pure];by_cases hjl:j<x.1.length;rw[List.getElem_append_left hjl];exact k4 j hjl;rw[List.getElem_append_right (by omega)];exact l4 _ _;rw[k5,l5]
theorem O3:∀{qs:Q_}{qs':List ResultVar}{l:U_}{σ σ':St}{G:Gh},Inv M σ [] [] ts w G->qs.length=qs'.length->(∀k (h:k<qs.length)(h':k<qs'.length),Ko P qs[k] qs'[k])->(flatsR qs).run σ=some (l,σ')->σ'=σ/\l.all Fg=true/\(qs'.mapM λ(q:ResultVar)=>(match q with|.tmp t=>(pure (ts.getD t undef):Sem Value)|.cell a t=>do loadVar t (<- asAddr (ts.getD a undef)))).run P w=.ok (l.map unV) w:=by
 intro qs;induction qs with
 |nil=>intro qs' l σ σ' G hI hl _ hr;have:qs'=[]:=oEN (by simpa using hl.symm);subst this;obtain⟨rfl,rfl⟩:=hr;exact⟨rfl,rfl,by simp⟩|cons q qs ih=>
 intro qs' l σ σ' G hI hl hok hr;cases qs' with
 |nil=>simp at hl|cons q' qs'=>
 cases q with
 |cell t n=>simp[flatsR,SP.run]at hr|tmp t=>
 have hq:=hok 0 (by simp) (by simp);subst hq;simp only[flatsR,SP.run]at hr;split at hr;case isFalse=>simp[SP.run]at hr
 rename_i hf;obtain⟨r,σ1,h1,h2⟩:=fN hr;simp only[SP.run,oSJ,oPJ]at h2;obtain⟨rfl,rfl⟩:=h2;obtain⟨rfl,k2,k3⟩:=ih (qs':=qs') hI (by simpa using hl) (λk h h'=>hok (k+1) (by simpa using h) (by simpa using h')) h1;refine⟨rfl,by rw[List.all_cons,hf,k2];rfl,?_⟩;have hv:=hI.tmr t;have e:ts.getD t undef=unV (σ1.t t):=by
  cases hc:σ1.t t with
  |v x=>rw[hc]at hv;cases hv with|v _=>rfl
  |_=>rw[hc]at hf;simp[Fg]at hf
 rw[List.mapM_cons,Sem.run_bind];simp only[Result.andThen_ok,Sem.run_bind,k3,Sem.run_pure];rw[e];rfl
end
section
variable {P:Program} {M:Fm} {σ σ':St} {H:U_} {xs:w_} {ts:s_} {w:World} {G:Gh}
theorem Inv.trunc(hI:Inv M σ H xs ts w G){k:Nat}(hd:∀j (h:j<H.length),k<=j->H[j]=.dead):Inv M σ (H.take k) (xs.take k) ts w G/\gy M σ (H.take k)=gy M σ H:=by
 have e:gy M σ (H.take k)=gy M σ H:=by funext r o;unfold gy;split;simp only[oGD,List.getElem?_take];split;rfl;rename_i ho;by_cases h:o<H.length;rw[oGE h,hd o h (by omega)];rfl;rw[oGN (by omega)];rfl
 refine⟨⟨by rw[e];exact hI.core,λi=>by rw[e];exact hI.tmr i,hI.fram,hI.keys,hI.size,by simp[hI.hand],λj hj=>?_,hI.shape,hI.kept,by unfold Gn;rw[e];exact hI.gn⟩,e⟩;have h2:j<k/\j<xs.length:=by simp at hj;omega
 rw[hI.hval j h2.2];simp[oGD,List.getElem?_take,h2.1]
theorem yE(b:Nat)(vs:w_):∀(o:Nat)(w:World){k:Nat},k≠b->(w.setCells b o vs).heap[k]?=w.heap[k]?:=by induction vs with|nil=>intro o w k h;rfl|cons v r ih=>intro o w k h;simp[World.setCells];rw[ih _ _ h];exact gF w _ v h
theorem CC(b:Nat)(vs:w_):∀(o:Nat)(w:World){cur:s_}{e:TypeId}{fz:Nat×Nat},w.heap[b]?=some (.cells cur e fz)->∃Yq,(w.setCells b o vs).heap[b]?=some (.cells Yq e fz)/\Yq.size=cur.size/\∀j,Yq[j]?=if o<=j/\j<o+vs.length/\j<cur.size then vs[j-o]? else cur[j]?:=by induction vs with|nil=>intro o w cur e fz h;exact⟨cur,h,rfl,λj=>by rw[oIN (by simp;omega)]⟩|cons v r ih=>intro o w cur e fz h;obtain⟨Yq,h1,h2,h3⟩:=ih (o+1) _ (m8 w b o v h);refine⟨Yq,h1,by rw[h2];simp,λj=>?_⟩;rw[h3];simp;by_cases hj:j=o;subst hj;rw[oIN (by omega)];by_cases hs:j<cur.size;rw[oIP (by omega)];simp[hs];rw[oIN (by omega)];simp[hs];by_cases hc:o+1<=j/\j<o+1+r.length/\j<cur.size;rw[oIP hc,oIP (by omega)];rw[show j-o=(j-(o+1))+1 by omega];simp;rw[oIN hc,oIN (by omega)];rw[Array.getElem?_setIfInBounds,oIN (Ne.symm hj)]
theorem Es(b:Nat)(vs:w_):∀(o:Nat)(w:World),w.setCells b o vs={ w with heap:=(w.setCells b o vs).heap }:=by
 induction vs with
 |nil=>intro o w;rfl|cons v r ih=>
 intro o w;simp[World.setCells];have h:w.setCell ⟨b,o,none⟩ v={ w with heap:=(w.setCell ⟨b,o,none⟩ v).heap }:=by unfold World.setCell;simp_all
 rw[ih];rw[h]
def ko(w W:World)(b:Nat):World:=match w.heap[b]? with|some x=>{ W with heap:=W.heap.setIfInBounds b x } |none=>W
theorem u9{w W:World}{b k:Nat}(h:k≠b):(ko w W b).heap[k]?=W.heap[k]?:=by unfold ko;split;simp[Ne.symm h];rfl
theorem yH{w W:World}{b:Nat}(h:b<W.heap.size)(h2:b<w.heap.size):(ko w W b).heap[b]?=w.heap[b]?:=by unfold ko;simp_all
theorem qO{w W:World}{b:Nat}:(ko w W b).heap.size=W.heap.size:=by unfold ko;grind
theorem zh{w W:World}{b:Nat}:(ko w W b).os=W.os/\(ko w W b).tape=W.tape/\(ko w W b).output=W.output/\(ko w W b).drawn=W.drawn:=by unfold ko;grind
theorem An{w W:World}{b o:Nat}{vs:w_}{cur0 cur:s_}{e:TypeId}{fz:Nat×Nat}(h0:w.heap[b]?=some (.cells cur0 e fz))(h1:W.heap[b]?=some (.cells cur e fz))(hs:cur.size=cur0.size) (Yu:∀j,(j<o\/o+vs.length<=j)->cur[j]?=cur0[j]?)(hin:∀j (h:j<vs.length),cur[o+j]?=some vs[j]):(ko w W b).setCells b o vs=W:=by
 have hbW:=(Array.getElem?_eq_some_iff.1 h1).1;have hbw:=(Array.getElem?_eq_some_iff.1 h0).1;rw[Es];obtain⟨r1,r2,r3,r4⟩:=zh (w:=w) (W:=W) (b:=b);have Xq:((ko w W b).setCells b o vs).heap=W.heap:=by apply Array.ext_getElem?;intro k;by_cases hk:k=b;subst hk;obtain⟨Yq,e1,e2,e3⟩:=CC k vs o (ko w W k) ((yH hbW hbw).trans h0);rw[e1,h1];congr 2;apply Array.ext_getElem?;intro j;rw[e3];split;rename_i hj;have:=hin (j-o) (by omega);simp_all;rename_i hj;by_cases hjs:j<cur0.size;exact(Yu j (by omega)).symm;simp_all;rw[yE b vs o _ hk,u9 hk]
 simp_all
end
structure MS (H:U_)(xs:w_)(w:World)(G:Gh)(A:Nat->Prop)(pr:Nat->d_)(bs:Nat->Nat)(ce:List (Nat×U_))(ow:Nat->x_):Prop where
 even:∀r b o n,pr r=some (b,o,n)->r%2=0/\0<n
 cells:∀r b o n,pr r=some (b,o,n)->∃l,gD ce r=some l/\l.length=n/\∀j (h:j<l.length),∃h':bs r+j<H.length,l[j]=H[bs r+j]/\l[j]≠.dead
 only:∀r l,gD ce r=some l->pr r≠none\/ow r≠none
 owc:∀r j,ow r=some j->r%2=1/\r≠1/\∃(c:o_)(h:j<H.length),gD ce r=some [.ow c]/\H[j]=.ow c
 owa:∀r j r' b o n,ow r=some j->pr r'=some (b,o,n)->∀j',j'<n->bs r'+j'≠j
 owi:∀r r' j,ow r=some j->ow r'=some j->r=r'
 apart:∀r b o n r' b' o' n',pr r=some (b,o,n)->pr r'=some (b',o',n')->∀j j',j<n->j'<n'->bs r+j=bs r'+j'->r=r'
 inj:∀r b o n r' o' n',pr r=some (b,o,n)->pr r'=some (b,o',n')->r=r'
 notF:∀r b o n,pr r=some (b,o,n)->¬G.F A b
 notH:∀r b o n,pr r=some (b,o,n)->∀j,¬G.φ 1 j b
 here:∀r b o n,pr r=some (b,o,n)->∀j,j<n->w.cell? ⟨b,o+j,none⟩=some (xs.getD (bs r+j) undef)/\w.frozen? ⟨b,o+j,none⟩=false
def Fm.into(M:Fm)(w:World)(G:Gh)(pr:Nat->d_)(N:Nat)(kp:Nat->r_)(kc:Nat->Nat->r_):Fm where
 w0:=w
 A:=λk=>G.F M.A k\/(∃j,G.φ 1 j k)\/w.heap.size<=k
 W0:=λk=>∃j,G.φ 1 j k
 pr:=pr
 N:=N
 hA:=λk h=>.inr (.inr h)
 kp:=kp
 kc:=kc
def RX(kq:p_):m_:=kq.map λq=>((q.1,q.2+1,0),1)
theorem Q9:∀{kq:p_}{r o:Nat},(r,o)∈kq->1<=nw (RX kq) (r,o+1,0):=by intro kq;induction kq with|nil=>simp_all|cons q kq ih=>intro r o h;simp[RX,nw];split;omega;rename_i e;rcases oMC.1 h with rfl|h;simp_all;exact ih h
def Gh.into(G:Gh)(pr:Nat->d_)(bs:Nat->Nat)(ow:Nat->x_)(xs:w_):Gh:=⟨pr,λr _=>match ow r with|some j=>xs.getD j undef|none=>undef,λr o k=>(∃b o0 n,pr r=some (b,o0,n)/\o<n/\G.φ 1 (bs r+o) k)\/∃j,ow r=some j/\o=0/\G.φ 1 j k⟩
theorem mw{G:Gh}{pr:Nat->d_}{bs:Nat->Nat}{ow:Nat->x_}{xs:w_}{r o k:Nat}(h:(G.into pr bs ow xs).φ r o k):∃j,G.φ 1 j k:=by rcases h with⟨_,_,_,_,_,h⟩|⟨_,_,_,h⟩<;>exact⟨_,h⟩
section
variable {P:Program} {M:Fm} {σ σ':St} {H:U_} {xs:w_} {ts:s_} {w:World} {G:Gh}
variable {pr:Nat->d_} {bs:Nat->Nat} {ce:List (Nat×U_)} {ow:Nat->x_} {kp:Nat->r_} {kc:Nat->Nat->r_}
theorem MS.F(hh:MS H xs w G M.A pr bs ce ow){N k:Nat}(h:G.F M.A k):(G.into pr bs ow xs).F (M.into w G pr N kp kc).A k:=⟨.inl h,λr o hφ=>by have ⟨j,h3⟩:=mw hφ;exact h.2.1 _ _ h3,λr b o n hb e=>hh.notF r b o n hb (e▸h)⟩
theorem vl{w:World}{b o:Nat}{v:Value}(h:w.cell? ⟨b,o,none⟩=some v):∃cur e fz,w.heap[b]?=some (.cells cur e fz)/\o<cur.size/\cur[o]?=some v:=by unfold World.cell? at h;split at h;rename_i cur e fz hb;grind;simp at h
theorem Inv.enter(hI:Inv M σ H xs ts w G)(hh:MS H xs w G M.A pr bs ce ow){tm:q_}{ZY:s_}{N:Nat}(hN:ZY.size=N)(hkp:∀i x,kp i=some x->(G.into pr bs ow xs).η (2*i+3) 0=x) {kq:p_}(hgn:∀r o x,kc r o=some x->(r,o)∈kq/\VP w (gy (M.into w G pr N kp kc) ⟨tm,ce,[]⟩ []) (G.into pr bs ow xs) ⟨r,o,[]⟩ x) (ht:∀i,TmR w ((G.into pr bs ow xs).F (M.into w G pr N kp kc).A) (λ_=>0) (gy (M.into w G pr N kp kc) ⟨tm,ce,[]⟩ []) (G.into pr bs ow xs) ((gD tm i).getD .dead) (ZY.getD i undef)):Inv (M.into w G pr N kp kc) ⟨tm,ce,RX kq⟩ [] [] ZY w (G.into pr bs ow xs):=by
 have XN:∀r b o n,pr r=some (b,o,n)->r≠1:=λr b o n h e=>by have:=(hh.even r b o n h).1;omega
 have YB:∀r b o n,pr r=some (b,o,n)->ow r=none:=λr b o n h=>by cases e:ow r with|none=>rfl|some j=>have:=(hh.even r b o n h).1;have:=(hh.owc r j e).1;omega
 have hne:∀r l,gD ce r=some l->r≠1:=by
  intro r l h;rcases hh.only r l h with h1|h1;cases hp:pr r with|none=>exact absurd hp h1|some x=>exact XN r _ _ _ hp
  cases hp:ow r with|none=>exact absurd hp h1|some j=>exact(hh.owc r j hp).2.1
 have hkv:kZ w w (λ_=>0) (St.mk tm ce (RX kq)).v (gy (M.into w G pr N kp kc) ⟨tm,ce,[]⟩ []) (gy (M.into w G pr N kp kc) ⟨tm,ce,RX kq⟩ []) (G.into pr bs ow xs) (G.into pr bs ow xs):=⟨λ_=>Nat.zero_le _,λ_ _ t _ _ h h'=>⟨t,h,h'⟩,λ_ _ c _ _ h h'=>⟨c,h,h',rfl⟩⟩;have ZU:=λi=>(ht i).keep hkv (λ_ _ _=>rfl) (λ_ h _=>h);have hcell:∀r o,gy (M.into w G pr N kp kc) ⟨tm,ce,RX kq⟩ [] r o=match gD ce r with|some l=>l.getD o .dead|none=>.dead:=by
  intro r o;unfold gy;split;rename_i e;cases hc:gD ce r with|none=>simp|some l=>exact absurd e (hne r l hc)
  rfl
 refine⟨⟨λr o=>?_,λr b o0 n hb=>?_,λr b o0 n hb o ho=>?_,λr r' b o n o' n' h1 h2=>hh.inj r b o n r' o' n' h1 h2,λr b o n hb r' o' hφ=>by obtain⟨j,h3⟩:=mw hφ;exact hh.notH r b o n hb _ h3,λr1 o1 r2 o2 k Y7 X'=>?_,λr o k hφ=>.inr (.inl (mw hφ))⟩,ZU,?_,λr l h=>hne r l h,hN,rfl,λj hj=>by simp at hj,λr b o n hb l hl=>?_,λi x _ h=>hkp i x h,λr o x h=>⟨Q9 (hgn r o x h).1,.pk (λ_=>0) (λ_=>Nat.zero_le _) (by simp[lz]) λ_=>(hgn r o x h).2⟩⟩;rw[hcell];cases hc:gD ce r with
 |none=>left;refine⟨rfl,λk hk=>?_⟩;rcases hk with⟨b1,p1,n1,h1,h2,h3⟩|⟨j,h1,_⟩;obtain⟨l,h4,_⟩:=hh.cells r _ _ _ h1;rw[hc]at h4;simp at h4;obtain⟨_,_,c,_,h4,_⟩:=hh.owc r j h1;rw[hc]at h4;simp at h4
 |some l=>
  cases hp:pr r with
  |none=>
  obtain⟨j,hj⟩:∃j,ow r=some j:=by rcases hh.only r l hc with h1|h1;exact absurd hp h1;cases e:ow r with|none=>exact absurd e h1|some j=>exact⟨j,rfl⟩
  obtain⟨_,_,c,hjl,h4,h5⟩:=hh.owc r j hj;rw[hc]at h4;injection h4 with h4
  subst h4;cases o with
   |zero=>
   right;have hown:=hI.hand_own hjl (by rw[h5];simp);have hval:(G.into pr bs ow xs).val w r 0=xs.getD j undef:=by unfold Gh.val Gh.into;simp only[hp,hj]
   rw[hval];simp only[List.getD_cons_zero];rw[h5]at hown;refine(hown.frame (λ_ _=>rfl) (λ_ _ _=>rfl) λk hk _=>hh.F hk).refp λk=>?_;constructor;intro hk;exact .inr ⟨j,hj,rfl,hk⟩;rintro(⟨b1,p1,n1,h1,_,_⟩|⟨j',h1,_,hk⟩);rw[hp]at h1;simp at h1;rw[hj]at h1;injection h1 with h1;rw[h1];exact hk
   |succ o=>left;refine⟨by simp,λk hk=>?_⟩;rcases hk with⟨b1,p1,n1,h1,_,_⟩|⟨j',_,h1,_⟩;rw[hp]at h1;simp at h1;omega
  |some x=>
  obtain⟨b,o0,n⟩:=x;obtain⟨l',h4,h5,h6⟩:=hh.cells r _ _ _ hp;rw[hc]at h4;injection h4 with h4
  subst h4;by_cases ho:o<l.length;right;obtain⟨h7,h8,h9⟩:=h6 o ho;have hown:=hI.hand_own h7 (by rw[<- h8];exact h9);have hval:(G.into pr bs ow xs).val w r o=xs.getD (bs r+o) undef:=by unfold Gh.val Gh.into;simp only[hp];rw[(hh.here r _ _ _ hp o (by omega)).1];rfl
  rw[hval];have e:l.getD o .dead=l[o]:=by simp[ho]
  simp only[e];rw[h8];refine(hown.frame (λ_ _=>rfl) (λ_ _ _=>rfl) λk hk _=>hh.F hk).refp λk=>?_;constructor;intro hk;exact .inl ⟨b,o0,n,hp,by omega,hk⟩;rintro(⟨_,_,_,_,_,hk⟩|⟨j',h1,_,_⟩);exact hk;rw[YB r _ _ _ hp]at h1;simp at h1;left;refine⟨by simp only[];rw[oGD,oGN (by omega)];rfl,λk hk=>?_⟩;rcases hk with⟨b1,p1,n1,h1,h2,h3⟩|⟨j',h1,_,_⟩;rw[hp]at h1;injection h1 with h1
  injection h1 with _ h1
  injection h1 with _ h1
  omega;rw[YB r _ _ _ hp]at h1;simp at h1
 have hn:=(hh.even r _ _ _ hb).2;have Za:pr r=some (b,o0,n):=hb;obtain⟨cur,e,fz,h1,h2,h3⟩:=vl (hh.here r _ _ _ Za (n-1) (by omega)).1;exact⟨cur,e,fz,h1,by omega,λj hj=>(hh.here r _ _ _ Za j hj).2⟩;have Za:pr r=some (b,o0,n):=hb;rw[hcell];obtain⟨l,h1,h2,_⟩:=hh.cells r _ _ _ Za;rw[h1];show l.getD o .dead=.dead;rw[oGD,oGN (by omega)];rfl;rcases Y7 with⟨b1,p1,n1,h1,h2,h3⟩|⟨j1,h1,h2,h3⟩<;>rcases X' with⟨b2,p2,n2,k1,k2,k3⟩|⟨j2,k1,k2,k3⟩
 obtain⟨_,h5⟩:=hI.core.dis _ _ _ _ k h3 k3;have:=hh.apart _ _ _ _ _ _ _ _ h1 k1 _ _ h2 k2 h5;subst this;exact⟨rfl,by omega⟩;obtain⟨_,h5⟩:=hI.core.dis _ _ _ _ k h3 k3;exact absurd h5 (hh.owa _ _ _ _ _ _ k1 h1 _ h2);obtain⟨_,h5⟩:=hI.core.dis _ _ _ _ k h3 k3;exact absurd h5.symm (hh.owa _ _ _ _ _ _ h1 k1 _ k2);obtain⟨_,h5⟩:=hI.core.dis _ _ _ _ k h3 k3;subst h5;exact⟨hh.owi _ _ _ h1 k1,by omega⟩;refine⟨rfl,rfl,rfl,oLE _,λ_ _ _ _=>rfl,λr b o n hp=>⟨hp,?_⟩,λr o k hφ=>.inl (mw hφ),λr b o n hb=>.inl hb,λr hb=>?_⟩;have hn:=(hh.even r _ _ _ hp).2;obtain⟨cur,e,fz,h1,h2,h3⟩:=vl (hh.here r _ _ _ hp (n-1) (by omega)).1;exact⟨cur,cur,e,fz,h1,h1,rfl,λ_ _=>rfl⟩;cases hp:pr r with|none=>exact absurd hp hb|some x=>exact(hh.even r _ _ _ hp).1
 obtain⟨l',h1,h2,_⟩:=hh.cells r _ _ _ hb;simp_all
end
structure R9 (H2:U_)(ys:w_)(H':U_)(xs':w_)(C2:Cs)(G2:Gh)(w2:World)(rt:Nat->x_)(bs:Nat->Nat):Prop where
 len:H'.length=xs'.length
 low:∀j (h:j<H2.length),∃h':j<H'.length,H'[j]=H2[j]/\xs'.getD j undef=ys.getD j undef
 cells:∀r n,rt r=some n->r≠1/\∀t,t<n->∃h:bs r+t<H'.length,H2.length<=bs r+t/\H'[bs r+t]=C2 r t/\xs'.getD (bs r+t) undef=G2.val w2 r t
 cover:∀j,j<H'.length->j<H2.length\/∃r n t,rt r=some n/\t<n/\j=bs r+t
 apart:∀r n r' n',rt r=some n->rt r'=some n'->∀j j',j<n->j'<n'->bs r+j=bs r'+j'->r=r'
section
variable {P:Program} {M:Fm} {σ σ2:St} {H H2 H':U_} {xs ys xs':w_} {ts ts2:s_} {w w2 w':World} {G G2:Gh}
variable {pr:Nat->d_} {bs bs2:Nat->Nat} {rt:Nat->x_} {ce:List (Nat×U_)} {N:Nat} {ow:Nat->x_} {kp:Nat->r_} {kc:Nat->Nat->r_}
theorem Inv.leave(hI:Inv M σ H xs ts w G)(hh:MS H xs w G M.A pr bs ce ow)(h2:Inv (M.into w G pr N kp kc) σ2 H2 ys ts2 w2 G2)(ZS:R9 H2 ys H' xs' (gy (M.into w G pr N kp kc) σ2 H2) G2 w2 rt bs2) (hs:w'.heap.size=w2.heap.size)(ho:w'.os=w2.os)(htp:w'.tape=w2.tape)(hu:w'.output=w2.output)(X3:∀k,(∀r b o n,pr r=some (b,o,n)->k≠b)->w'.heap[k]?=w2.heap[k]?) (Yl:∀r b o n,pr r=some (b,o,n)->w'.heap[b]?=w.heap[b]?):∃G',Inv M σ H' xs' ts w' G'/\nA M w σ H G w' σ H' G'/\G'.β=G.β:=by
 have Xh:=h2.fram;let f:Nat->Nat->Prop:=λj k=>(j<H2.length/\G2.φ 1 j k)\/∃r n t,rt r=some n/\t<n/\j=bs2 r+t/\G2.φ r t k;have hfφ:∀j k,f j k->∃r o,G2.φ r o k:=by rintro j k (⟨_,h⟩|⟨r,n,t,_,_,_,h⟩);exact⟨_,_,h⟩;exact⟨_,_,h⟩
 have hβ2:∀r b o n,pr r=some (b,o,n)->G2.β r=some (b,o,n):=λr b o n h=>(Xh.par r b o n h).1;have Z6:∀r n,rt r=some n->r≠1:=λr n h=>(ZS.cells r n h).1;have hφw:∀r o k,G2.φ r o k->w'.heap[k]?=w2.heap[k]?:=λr o k h=>X3 k λr' b o' n hp e=>h2.core.boxf r' b o' n (hβ2 _ _ _ _ hp) _ _ (e▸h);have Yk:∀k,G2.F (M.into w G pr N kp kc).A k->w'.heap[k]?=w2.heap[k]?:=λk h=>X3 k λr' b o' n hp e=>h.2.2 r' b o' n (hβ2 _ _ _ _ hp) e;obtain⟨G',a1,a2,a3,_⟩:=hI.rehandL (w':=w') (H':=H') (xs':=xs') (f:=f) (Fx:=G2.F (M.into w G pr N kp kc).A)
  (λk hk hn=>by
   by_cases hp:∃r b o n,pr r=some (b,o,n)/\k=b
   ·obtain⟨r,b,o,n,hp,rfl⟩:=hp;exact Yl r k o n hp
   ·have hp':∀r b o n,pr r=some (b,o,n)->k≠b:=λr b o n h e=>hp ⟨r,b,o,n,h,e⟩;rw[X3 k hp']
    exact Xh.old k hk (λ⟨j,hj⟩=>hn j hj) hp')
  (by rw[hs];exact Xh.size) (ho.trans Xh.os) (htp.trans Xh.tape) (hu.trans Xh.output) ZS.len
  (λj k h=>by
   refine⟨?_,?_⟩
   ·rcases h with⟨h,_⟩|⟨r,n,t,hp,ht,rfl,_⟩
    ·exact(ZS.low j h).1
    ·exact((ZS.cells r n hp).2 t ht).1
   ·obtain⟨r,o,hφ⟩:=hfφ j k h
    exact Xh.own r o k hφ)
  (λj j' k h h'=>by
   rcases h with⟨h1,h3⟩|⟨r,n,t,hp,ht,rfl,h3⟩
   ·rcases h' with⟨k1,k3⟩|⟨r',n',t',hp',ZU,rfl,k3⟩
    ·exact(h2.core.dis _ _ _ _ k h3 k3).2
    ·exact absurd (h2.core.dis _ _ _ _ k h3 k3).1.symm (Z6 _ _ hp')
   ·rcases h' with⟨k1,k3⟩|⟨r',n',t',hp',ZU,rfl,k3⟩
    ·exact absurd (h2.core.dis _ _ _ _ k h3 k3).1 (Z6 _ _ hp)
    ·obtain⟨e1,e2⟩:=h2.core.dis _ _ _ _ k h3 k3
     rw[e1,e2])
  (λk h=>⟨h.1,λj hf=>by obtain⟨r,o,hφ⟩:=hfφ j k hf;exact h.2.1 r o hφ⟩)
  (λj hj=>by
   rcases ZS.cover j hj with h|⟨r,n,t,hp,ht,rfl⟩
   ·obtain⟨_,e1,e2⟩:=ZS.low j h
    have YB:∀k,f j k↔G2.φ 1 j k:=λk=>by
     constructor
     ·rintro(⟨_,h⟩|⟨r,n,t,hp,ht,e,_⟩)
      ·exact h
      ·have:=((ZS.cells r n hp).2 t ht).2.1;omega
     ·exact λhk=>.inl ⟨h,hk⟩
    by_cases hd:H2[j]=.dead
    ·left;refine⟨e1.trans hd,λk hk=>?_⟩;refine h2.phi_dead (r:=1) (o:=j) ?_ k ((YB k).1 hk);rw[show(1:Nat)=(M.into w G pr N kp kc).hr from rfl,qe];simp[h,hd]
    ·right;have:=h2.hand_own h hd;rw[e1,e2];exact(this.frame (λk hk=>hφw _ _ k hk) (λk hk _=>Yk k hk) λk hk _=>hk).refp λk=>(YB k).symm
   ·obtain⟨h1,h3,h4,h5⟩:=(ZS.cells r n hp).2 t ht
    have YB:∀k,f (bs2 r+t) k↔G2.φ r t k:=λk=>by
     constructor
     ·rintro(⟨h,_⟩|⟨r',n',t',hp',ZU,e,hk⟩)
      ·omega
      ·have:=ZS.apart _ _ _ _ hp hp' _ _ ht ZU e;subst this
       have:t=t':=by omega
       subst this;exact hk
     ·exact λhk=>.inr ⟨r,n,t,hp,ht,rfl,hk⟩
    rw[h4,h5]
    rcases h2.core.cell r t with⟨c1,c2⟩|c1
    ·left;exact⟨c1,λk hk=>c2 k ((YB k).1 hk)⟩
    ·right
     exact(c1.frame (λk hk=>hφw _ _ k hk) (λk hk _=>Yk k hk) λk hk _=>hk).refp λk=>(YB k).symm)
 exact⟨G',a1,a2,a3⟩
end
mutual
def MC:TV->Bool|.v _=>true|.ow c=>zI c|_=>false
def y8:U_->Bool| []=>true|t::r=>MC t&&y8 r
def zI:o_->Bool| []=>true|l::r=>y8 l&&zI r
end
def uj:TV->Bool
 |.v _=>true|.sl _=>true|.ip _=>true|.ow []=>true|.fn _ l=>l.all RV|.agg l=>l.all λt=>match t with|.v _=>true|.sl _=>true|_=>false
 |_=>false
def Vf:TV->Bool|.pk _ _=>true|.ow []=>true|_=>false
def Vq:TV->Bool|.pk _ _=>true|_=>false
def argV(x:x_×Opd):SP TV:=(opd x.2).bind λt=>if x.1==some 0&&Vf t then .ret t else if x.1.isSome&&Vq t then .ret t else match t with
 |.ip cs=>.ret (.ip cs)
 |.fn f cap=>.ret (.fn f cap)
 |.ptr p vs=>.ret (.ptr p vs)
 |t=>(takeV false t).bind λl=>.ret (td l.2 (l.1.map TV.imm))
abbrev b_:=List (x_×Opd)
def argVs:b_->SP U_| []=>.ret []|x::r=>(argV x).bind λt=>(argVs r).bind λl=>.ret (t::l)
abbrev c_:=List (x_×TV)
def takeOwns:Nat->c_->SP q_|_,[]=>.ret []|i,(some 0,.pk p vs)::r=>(take1 true (.pk p vs)).bind λt=>if nM t then(takeOwns (i+1) r).bind λq=>.ret ((i,t)::q)else .fail|i,_::r=>takeOwns (i+1) r
structure GP where
 i:Nat
 p:gf
 vs:N_
 cells:U_
def Mw(p:gf):Nat->SP U_|0=>.ret []|n+1=>(getPl p).bind λt=>(peek1 p t).bind λt'=>(take1 true t').bind λt2=>match n with|0=>.ret [t2]|_=>if p.fits 1 then(Mw (p.add 1) n).bind λr=>.ret (t2::r)else .fail
def gf.base(p:gf):gf:=⟨p.root,p.off,[]⟩
def Tx(p:gf)(n:Nat):Nat:=match p.hops with
 | []=>n
 |_::_=>1
def rooted(p:gf):SP Unit:=match p.hops with
 | []=>.ret ()
 |_::_=>.rdT ((p.root-2)/2) λt=>match t with
  |.ptr q ws=>if q.root==p.root&&q.hops.isEmpty then chk q 0 ws else .fail
  |_=>.fail
def grabs:Nat->c_->SP (List GP)|_,[]=>.ret []|i,(some n,.ptr p vs)::r=>(chk p p.hops.length vs).bind λ_=>(rooted p).bind λ_=>(Mw p.base (Tx p n)).bind λl=>(grabs (i+1) r).bind λq=>.ret (⟨i,p.base,vs.take 1,l⟩::q)|i,(some 0,.pk _ _)::r=>grabs (i+1) r|i,(_,t)::r=>if uj t then grabs (i+1) r else .fail
def touch(p:gf):SP Unit:=.rdC p.root p.off λtv=>.wrC p.root p.off tv (.ret ())
def rechk:List GP->SP Unit| []=>.ret ()|g::r=>(chk g.p g.p.hops.length g.vs).bind λ_=>(touch g.p).bind λ_=>rechk r
def qR:N_->Bool| []=>true|x::r=>!r.contains x&&qR r
def argT(i:Nat):TV->TV|.ptr p _=>.ptr ⟨2*i+2,0,p.hops⟩ (List.replicate (p.hops.length+1) 0)|.pk _ _=>.pk ⟨2*i+3,0,[]⟩ [0,0]|t=>t
def argTs:Nat->U_->U_|_,[]=>[]|i,t::r=>argT i t::argTs (i+1) r
def jf{α:Type}:Nat->List α->List (Nat×α)|_,[]=>[]|i,t::r=>(i,t)::jf (i+1) r
def mkSt(vals:U_)(pts:Pts):St:=⟨jf 0 vals,pts,[]⟩
def CE(kq:p_)(vals:U_)(pts:Pts):St:=⟨jf 0 vals,pts,RX kq⟩
def KY:TV->Bool|.dead=>true|_=>false
def putBack:List (GP×U_)->SP Unit| []=>.ret ()|(g,l)::r=>(putBack r).bind λ_=>if l.length=g.cells.length&&l.all λt=>!KY t then putL g.p l else .fail
def mp:P_->U_->U_| [],_=>[]|.one::r,l=>l.headD .dead::mp r l.tail|.agg n::r,l=>.agg (l.take n)::mp r (l.drop n)|.ptr::r,l=>.dead::mp r l
def vB(sh:P_)(l:U_):TV:=match mp sh l with| [x]=>x|l=>.tup l
def tF:P_->Nat->Bool| [],n=>n==0|.one::r,n=>decide (0<n)&&tF r (n-1)|.agg m::r,n=>decide (m<=n)&&tF r (n-m)|.ptr::_,_=>false
def landR(dst:x_)(res:Lp):SP Unit:=match dst with|some d=>(names d res.cells).bind λl=>wr d (vB res.sh l)|none=>.ret ()
def isP(r:Lp):Bool:=match r.sh,r.cells with
 |.ptr::_,.ptr _ _::_=>true
 |_,_=>false
def landP(dst:x_)(q:List GP)(cells:U_):SP Unit:=match dst with|none=>.ret ()|some d=>match cells,q with|.ptr pl _::l,[g]=>if pl.root==2*g.i+2&&g.p.hops.isEmpty then(rdVs (rE g.p.root (g.p.off+pl.off) pl.hops.length)).bind λvs=>wr d (KJ (.ptr ⟨g.p.root,g.p.off+pl.off,pl.hops⟩ vs) l)else .fail|_,_=>.fail
def normA:x_×TV->x_×TV|(some _,.pk p vs)=>(some 0,.pk p vs)|(some n,.ptr p vs)=>(some (n%1000),.ptr p vs)|x=>x
def revOf:Nat->c_->List (Nat×Nat×gf×N_)|_,[]=>[]|i,(some n,.ptr p vs)::r=>if 1000<=n then(i,n/1000-1,p,vs)::revOf (i+1) r else revOf (i+1) r|i,_::r=>revOf (i+1) r
def revChk:List (Nat×Nat×gf×N_)->SP (List (Nat×Nat×Nat×gf))| []=>.ret []|(i,k,p,vs)::l=>.rdT k λt=>match t with|.ptr q ws=>if q.root=p.root/\p.hops.isEmpty=true/\q.hops.length=1/\p.off<=q.off then(chk p 0 vs).bind λ_=>(chk q 1 ws).bind λ_=>(revChk l).bind λr=>.ret ((k,2*i+2,q.off-p.off,q)::r)else .fail|_=>.fail
def revive(kept:p_):List (Nat×Nat×Nat×gf)->SP Unit| []=>.ret ()|(k,r,d,q)::l=>if kept.contains (r,d)=true then(getPl q).bind λ_=>(rdVs (rE q.root q.off 1)).bind λvs=>.wrT k (.ptr q vs) (revive kept l)else .fail
def ksOf(l:Pts):N_:=(l.filter λx=>x.2.isEmpty).map (·.1)
def kcIn(l:Pts):p_:=(l.filter λx=>!x.2.isEmpty).map λx=>(x.1,x.2.length-1)
def kcE(kq:p_)(σ:St):Pts:=(kq.filter λq=>σ.v (q.1,0,0)==0 && σ.v (q.1,q.2,1)==0).map λq=>(q.1,List.replicate (q.2+1) .dead)
def Oz(_:c_)(_:Nat):x_:=none
def lendChk(_:c_):SP Unit:=.ret ()
def giveBack(z:c_)(ks:N_):q_->o_->SP Unit| [],_=>.ret ()|_::ow,_::rs=>giveBack z ks ow rs|_::_,[]=>.fail
def callV(F:iz)(dst:x_)(f:FuncId)(ns:List x_)(vals:U_):SP Unit:=
 (lendChk (ns.zip vals)).bind λ_=>(revChk (revOf 0 (ns.zip vals))).bind λrv=>(takeOwns 0 ((ns.zip vals).map normA)).bind λow=>(grabs 0 ((ns.zip vals).map normA)).bind λq=>(rechk q).bind λ_=>
  if qR (q.map (·.p.root))&&q.all (λg=>decide (0<g.cells.length))&&rv.all (λx=>q.any λg=>2*g.i+2==x.2.1&&nM (g.cells.getD x.2.2.1 .dead))then
   (qp (F f (argTs 0 vals) (q.map (λg=>(2*g.i+2,g.cells))++ow.map λx=>(2*x.1+3,[x.2])))).bind λr=>
    if(r.2.map (·.1)).take (q.length+ow.length)=q.map (λg=>2*g.i+2)++ow.map (λx=>2*x.1+3)&&(isP r.1||tF r.1.sh r.1.cells.length)then(putBack (q.zip (r.2.map (·.2)))).bind λ_=>(giveBack (ns.zip vals) (ksOf (r.2.drop (q.length+ow.length))) ow ((r.2.drop q.length).map (·.2))).bind λ_=>(revive (kcIn (r.2.drop (q.length+ow.length))) rv).bind λ_=>if isP r.1 then(if ow.isEmpty&&rv.isEmpty then landP dst q r.1.cells else .fail)else landR dst r.1 else .fail
  else .fail
inductive BxC where
 |arg (i:Nat)
 |val (x:Value)
structure Env where
 box:FuncId->Option (Nat×List BxC)
 ps:FuncId->List x_
def bxT(vals:U_):BxC->TV|.arg i=>vals.getD i .dead|.val x=>.v x
def bxV(asq:w_):BxC->Value|.arg i=>asq.getD i undef|.val x=>x
def evBox(dst:x_)(tm:List BxC)(vals:U_):SP Unit:=match dst with|some d=>(takeL false (tm.map (bxT vals))).bind λl=>.new (2*d+2) l (.rdV (2*d+2,0,0) λg=>wr d (.ptr ⟨2*d+2,0,[]⟩ [g]))|none=>.fail
def Rj(E:Env)(f:FuncId)(n m:Nat):List x_:=(List.range m).map λk=>(E.ps f).getD (n+k) none
def see1:TV->SP TV
 |.v x=>.ret (.v x)|.sl c=>.ret (.sl c)|.ow []=>.ret (.sl [])|.pk p vs=>(chk p (p.hops.length+1) vs).bind λ_=>.rdC p.root p.off λtv=>match gE tv p.hops with|some (.ow c)=>.ret (TV.ow c).imm|_=>.fail
 |_=>.fail
def seeL:U_->SP U_| []=>.ret []|t::r=>(see1 t).bind λt'=>(seeL r).bind λl=>.ret (t'::l)
def seeA:TV->SP TV|.agg l=>(seeL l).bind λl'=>.ret (.agg l')|.ip cs=>.ret (.ip cs)|.fn f cap=>if cap.all RV then .ret (.fn f cap)else .fail|t=>see1 t
def seeAs:O_->SP U_| []=>.ret []|x::r=>(opd x).bind λt=>(seeA t).bind λt'=>(seeAs r).bind λl=>.ret (t'::l)
def callB(F:iz)(dst:x_)(f:FuncId)(vals:U_)(fb:SP Unit):SP Unit:=(qp (F f vals [])).bind λr=>if r.2.length=0&&r.1.cells.all Fg&&tF r.1.sh r.1.cells.length then(match dst with|some d=>wr d (vB r.1.sh r.1.cells)|none=>.ret ())else if r.2.length=0&&r.1.cells.all MC&&tF r.1.sh r.1.cells.length then landR dst r.1 else fb
def evNrm(E:Env)(F:iz)(dst:x_)(k:Bool)(f:FuncId)(args:b_):SP Unit:=
 if k then(argVs args).bind λvals=>match E.box f with
  |some x=>if vals.length=x.1 then evBox dst x.2 vals else .fail
  |none=>callV F dst f (args.map (·.1)) vals
 else(seeAs (args.map (·.2))).bind λvals=>callB F dst f vals ((argVs args).bind λvals=>callV F dst f (args.map (·.1)) vals)
def evCall(E:Env)(F:iz)(dst:x_):TOp->SP Unit
 |.call k (.f f) args=>evNrm E F dst k f args|.call _ (.t i) args=>.rdT i λt=>match t with|.fn f caps=>(argVs args).bind λvals=>callV F dst f (args.map (·.1)++Rj E f args.length caps.length) (vals++caps)|_=>.fail
 |_=>.fail
section
variable {P:Program} {M:Fm} {σ σ':St} {H:U_} {xs:w_} {ts:s_} {w:World} {G:Gh} {a:Act} {o:Oper}
theorem TD(hI:Inv M σ [] [] a.tmps w G){x:x_×Opd}{x':Operand}(hx:fZ x'=some x.2){t:TV}(hr:(argV x).run σ=some (t,σ')):∃G',pJ M w a.tmps σ [] G σ' [] [] G'/\TmR w (G'.F M.A) σ'.v (gy M σ' []) G' t (a.eval x'):=by
 unfold argV at hr;obtain⟨t0,σ1,h1,h2⟩:=fN hr;obtain⟨rfl,ht⟩:=ij hI.tmr hx h1;have gen:∀(l:U_×Bool)(σ2:St),(takeV false t0).run σ1=some (l,σ2)->t=td l.2 (l.1.map TV.imm)->σ'=σ2->∃G',pJ M w a.tmps σ1 [] G σ' [] [] G'/\TmR w (G'.F M.A) σ'.v (gy M σ' []) G' t (a.eval x'):=by
  rintro l σ2 h3 rfl rfl;obtain⟨xs,G1,hg,hsh,hok,YL⟩:=Kv hI ht h3;obtain⟨G2,Zu,ZH⟩:=hg.1.dropImm (Ck hok);refine⟨G2,hg.trans Zu,?_⟩;have hlen:=hg.1.hand;rcases hsh with⟨e1,e2⟩|⟨e1,y,e2,e3⟩;rw[e1,e2];simp only[td,if_true];refine .agg (by simp[hlen]) λj hj=>?_;have ZO:j<l.1.length:=by simpa using hj
  have:=ZH j ZO;simp only[List.getElem_map];have e:xs.toArray.getD j undef=xs.getD j undef:=by simp[oAG,oGD]
  rw[e];exact this.toTm;rw[e1,e3];subst e2;have Xu:l.1.length=1:=by simpa using hlen
  obtain⟨t1,Yj⟩:∃t1,l.1=[t1]:=List.length_eq_one_iff.1 Xu;have:=ZH 0 (by omega);simp only[Yj,List.getElem_cons_zero,List.getD_cons_zero]at this;simp only[Yj,td,oPC,List.map_nil,List.headD_cons];exact this.toTm
 have Yo:t=t0->σ'=σ1->∃G',pJ M w a.tmps σ1 [] G σ' [] [] G'/\TmR w (G'.F M.A) σ'.v (gy M σ' []) G' t (a.eval x'):=by rintro rfl rfl;exact⟨G,pJ.refl hI,ht⟩
 split at h2;simp only[SP.run,oSJ,oPJ]at h2;exact Yo h2.1.symm h2.2.symm;split at h2;simp only[SP.run,oSJ,oPJ]at h2;exact Yo h2.1.symm h2.2.symm;cases t0 with|ip cs=>simp only[SP.run,oSJ,oPJ]at h2;exact Yo h2.1.symm h2.2.symm|fn f cap=>simp only[SP.run,oSJ,oPJ]at h2;exact Yo h2.1.symm h2.2.symm|ptr p vs=>simp only[SP.run,oSJ,oPJ]at h2;exact Yo h2.1.symm h2.2.symm|_=>simp only at h2;obtain⟨l,σ2,h3,h4⟩:=fN h2;simp only[SP.run,oSJ,oPJ]at h4;exact gen l σ2 h3 h4.1.symm h4.2.symm
theorem Gx:∀{l:b_}{l':List Operand}{ZY:U_}{σ σ':St}{G:Gh},Inv M σ [] [] a.tmps w G->l'.length=l.length->(∀j (h:j<l.length)(h':j<l'.length),fZ l'[j]=some l[j].2)->(argVs l).run σ=some (ZY,σ')->∃G',pJ M w a.tmps σ [] G σ' [] [] G'/\ZY.length=l.length/\∀j (h:j<ZY.length)(h':j<l'.length),TmR w (G'.F M.A) σ'.v (gy M σ' []) G' ZY[j] (a.eval l'[j]):=by intro l;induction l with|nil=>intro l' ZY σ σ' G hI hl hc hr;obtain⟨rfl,rfl⟩:=hr;exact⟨G,pJ.refl hI,rfl,λj h=>by simp at h⟩|cons x l ih=>intro l' ZY σ σ' G hI hl hc hr;cases l' with|nil=>simp at hl|cons x' l'=>simp only[argVs]at hr;obtain⟨t,σ1,h1,h2⟩:=fN hr;obtain⟨r,σ2,h3,h4⟩:=fN h2;obtain⟨rfl,rfl⟩:=h4;obtain⟨G1,Zi,Yj⟩:=TD hI (by have:=hc 0 (by simp) (by simp);simpa using this) h1;obtain⟨G2,Zu,e,hts⟩:=ih (l':=l') Zi.1 (by simpa using hl) (λj h h'=>by have:=hc (j+1) (by simpa using h) (by simp_all);simpa using this) h3;refine⟨G2,Zi.trans Zu,by simp[e],λj h h'=>?_⟩;cases j with|zero=>exact Zu.tm Yj|succ j=>exact hts j (by simpa using h) (by simp_all)
end
section
variable {P:Program} {M:Fm} {σ σ':St} {H:U_} {xs:w_} {ts:s_} {w:World} {G:Gh} {a:Act} {o:Oper}
theorem Lx{t t' t2:TV}{p:gf}{y:TV×St}(hp:(peek1 p t).run σ=some (t',σ'))(hr:(take1 true t').run σ=some y):lz y.2.v p.root p.off p.hops.length=lz σ.v p.root p.off p.hops.length:=by
 cases t with
 |v x=>obtain⟨rfl,rfl⟩:=hp;simp only[take1,SP.run,oSJ]at hr;grind|sl c=>obtain⟨rfl,rfl⟩:=hp;simp only[take1,SP.run,oSJ]at hr;grind|ow c=>
 obtain⟨vs,σ1,h1,h2⟩:=fN hp;obtain⟨rfl,_⟩:=h2;obtain⟨_,σ2,h3,h4⟩:=fN hr;have e1:σ2=σ:=(gt h3).1;subst e1;simp only[SP.run]at h4;split at h4;simp only[if_true]at h4;obtain⟨l,hl,ho,h5⟩:=gG h4;simp only[SP.run,oSJ]at h5;rw[nB];have hv:∀q,y.2.v q=σ2.v q+if(p.root,p.off,p.hops.length+1)=q then 1 else 0:=λq=>by rw[<- h5];exact jn σ2.vr _ q
 refine⟨by simp_all,λd hd=>?_⟩;rw[hv,oIN];omega;intro e;simp_all;simp[SP.run]at h4
 |_=>simp[peek1,SP.run]at hp
theorem Q4:∀{n:Nat}{p:gf}{ad:Addr}{l:U_}{σ σ':St}{H:U_}{xs:w_}{G:Gh},Inv M σ H xs ts w G->p.root≠1->G.addr w p=some ad->(Mw p n).run σ=some (l,σ')->l.length=n/\∃us G',pJ M w ts σ H G σ' (H++l) (xs++us) G'/\us.length=n/\(∀j (h:j<us.length),w.cell? ⟨ad.block,ad.off+j,none⟩=some us[j]/\w.frozen? ⟨ad.block,ad.off+j,none⟩=false)/\∀j (h:j<l.length),is l[j]=true\/nM l[j]=true:=by
 intro n;induction n with
 |zero=>intro p ad l σ σ' H xs G hI h1 ha hr;obtain⟨rfl,rfl⟩:=hr;exact⟨rfl,[],G,by simpa using pJ.refl hI,rfl,λj h=>by simp at h,λj h=>by simp at h⟩|succ n ih=>
 intro p ad l σ σ' H xs G hI h1 ha hr;obtain⟨t,σ1,h2,h3⟩:=fN hr;obtain⟨e1,hg⟩:=iD h2;have e1:σ1=σ:=e1;subst e1;obtain⟨t',σ2,h4,h5⟩:=fN h3;have hd:=ve h4;obtain⟨hB,u,fp,YO,hown,hv⟩:=hI.named h1 ha hg hd;obtain⟨rfl,ZU⟩:=w7 hI h1 hg hown hv h4;obtain⟨t2,σ3,h6,h7⟩:=fN h5;have Xz:=Lx (t2:=t2) h4 h6;obtain⟨G1,Zi,YL⟩:=lQ hI ZU h6;have hgE:gE (gy M σ2 H p.root p.off) p.hops=some t:=by rw[gv (by exact h1)];exact hg
 obtain⟨u0,Zt,ZD,hcu0,W4,_⟩:=hI.core.set p hB hgE;obtain⟨_,YF,_⟩:=Zi.2.2.1.ptr p ad t h1 Xz ha hgE;have Y0:(⟨ad.block,ad.off+0,none⟩:Addr)=ad:=by obtain⟨b,o,s⟩:=ad;simp only at ZD;subst ZD;rfl
 have hcell:=nC h6;cases n with
 |zero=>
 obtain⟨rfl,rfl⟩:=h7;refine⟨rfl,[u],G1,Zi,rfl,λj h=>?_,λj h=>?_⟩;obtain rfl:j=0:=by simp at h;omega
 rw[Y0];exact⟨YO,W4⟩;obtain rfl:j=0:=by simp at h;omega
 exact hcell
 |succ n=>
 simp only at h7;split at h7;obtain⟨r,σ4,h8,h9⟩:=fN h7;obtain⟨rfl,rfl⟩:=h9;obtain⟨e2,us,G2,Zu,e3,e4,e5⟩:=ih Zi.1 (by rw[iy];exact h1) (sU 1 YF) h8;refine⟨by simp[e2],u::us,G2,by simpa using Zi.trans Zu,by simp[e3],λj h=>?_,λj h=>?_⟩;cases j with|zero=>rw[Y0];exact⟨YO,W4⟩|succ j=>have:=e4 j (by simpa using h);rw[show ad.off+(j+1)=ad.off+1+j by omega];exact this
 cases j with|zero=>exact hcell|succ j=>exact e5 j (by simpa using h)
 simp[SP.run]at h7
theorem Mv{r o:Nat}{c:o_}{l:U_}(hc:σ.c r o=.ow c)(h:(Mw ⟨r,o,[]⟩ 1).run σ=some (l,σ')):l=[.ow c]:=by
 obtain⟨t,σ1,h1,h2⟩:=fN h;obtain⟨e1,hg⟩:=iD h1;subst e1;simp only[hc,gE,oSJ]at hg;subst hg;obtain⟨t',σ2,h3,h4⟩:=fN h2;obtain⟨vs,σ3,h5,h6⟩:=fN h3;obtain⟨rfl,rfl⟩:=h6;injection h5 with h5
 injection h5 with _ h5
 subst h5;obtain⟨t2,σ4,h7,h8⟩:=fN h4;simp only[SP.run,oPJ]at h8;obtain⟨_,σ5,h9,h10⟩:=fN h7;have e2:σ5=σ1:=(gt h9).1;subst e2;simp only[SP.run,hc,gE,if_true]at h10;split at h10;simp_all;cases h10
theorem NK(hI:Inv M σ H xs ts w G){p:gf}(h:(rooted p).run σ=some ((),σ')):σ'=σ/\(p.hops≠[]->∃b o n,G.β p.root=some (b,o,n)):=by
 obtain⟨r,o,hops⟩:=p;cases hops with
 |nil=>simp only[rooted,SP.run,oPJ,true_and]at h;simp_all|cons hp hs=>
 simp only[rooted,SP.run]at h;have ht:=hI.tmr ((r-2)/2);cases hq:σ.t ((r-2)/2)with
 |ptr q ws=>
 rw[hq]at h ht;simp only at h;split at h;rename_i hc;simp at hc;have e1:σ'=σ:=(gt h).1;have e2:=(gt h).2;refine⟨e1,λ_=>?_⟩;cases ht with|ptr V0 h0 hv hok=>obtain⟨_,ad,t,ha,_,_⟩:=hok (by simp_all);unfold Gh.addr at ha;rw[<- hc.1];cases hb:G.β q.root with|none=>simp_all|some y=>obtain⟨b,o,n⟩:=y;exact⟨b,o,n,rfl⟩
 simp[SP.run]at h
 |_=>rw[hq]at h;simp[SP.run]at h
inductive yu (w:World):Nat->List TV->List Value->List (GP×Addr)->List Value->Prop
 |nil (i:Nat):yu w i [] [] [] []
 |ptr {i:Nat} {p:gf} {hp:List Hop} {vs vs0:List Nat} {cells:List TV} {ad ad0:Addr} {u:List Value} {ts:List TV} {xs:List Value} {K:List (GP×Addr)} {us:List Value} (hr:p.root≠1) (hb:p.hops=[]) (hs:ad.spot=none) (h0:hp=[]->ad0=ad)
  (hh:hp≠[]->gK w ((w.cell? ⟨ad.block,ad.off,none⟩).getD undef) hp=some ad0/\∃t,gE (cells.getD 0 .dead) hp=some t)(hu:u.length=cells.length)
  (hc:∀j (h:j<u.length),w.cell? ⟨ad.block,ad.off+j,none⟩=some u[j]/\w.frozen? ⟨ad.block,ad.off+j,none⟩=false)(hok:∀j (h:j<cells.length),is cells[j]=true\/nM cells[j]=true)
  (h:yu w (i+1) ts xs K us):yu w i (.ptr ⟨p.root,p.off,hp⟩ vs0::ts) (.pointer (some ad0)::xs) ((⟨i,p,vs,cells⟩,ad)::K) (u++us)
 |arg {i:Nat} {t:TV} {x:Value} {ts:List TV} {xs:List Value} {K:List (GP×Addr)} {us:List Value} (ha:uj t=true) (h:yu w (i+1) ts xs K us):yu w i (t::ts) (x::xs) K us
 |own {i:Nat} {p:gf} {vs:List Nat} {x:Value} {ts:List TV} {xs:List Value} {K:List (GP×Addr)} {us:List Value} (h:yu w (i+1) ts xs K us):yu w i (.pk p vs::ts) (x::xs) K us
inductive MR:Nat->List (Option Nat×TV)->List Value->List (Nat×TV)->List Value->Prop
 |nil (i:Nat):MR i [] [] [] []
 |own {i:Nat} {p:gf} {vs:List Nat} {l:List (Option Nat×TV)} {x:Value} {xs:List Value} {c:List (List TV)} {ow:List (Nat×TV)} {zs:List Value} (h:MR (i+1) l xs ow zs):MR i ((some 0,.pk p vs)::l) (x::xs) ((i,.ow c)::ow) (x::zs)
 |skip {i:Nat} {y:Option Nat×TV} {l:List (Option Nat×TV)} {x:Value} {xs:List Value} {ow:List (Nat×TV)} {zs:List Value} (h:MR (i+1) l xs ow zs):MR i (y::l) (x::xs) ow zs
theorem Ek{i:Nat}{y:x_×TV}{l:c_}(hn:∀p vs,y≠(some 0,.pk p vs)):takeOwns i (y::l)=takeOwns (i+1) l:=by
 have ⟨n,t⟩:=y;cases t with
 |pk p vs=>cases n with|none=>rfl|some n=>cases n with|zero=>simp_all|succ n=>rfl
 |_=>cases n with|none=>rfl|some n=>cases n<;>rfl
theorem I8:∀{l:c_}{asq:w_}{i:Nat}{ow:q_}{σ σ':St}{H:U_}{xs:w_}{G:Gh},Inv M σ H xs ts w G->asq.length=l.length->(∀j (h:j<l.length)(h':j<asq.length),TmR w (G.F M.A) σ.v (gy M σ H) G l[j].2 asq[j])->(takeOwns i l).run σ=some (ow,σ')->∃zs G',pJ M w ts σ H G σ' (H++ow.map (·.2)) (xs++zs) G'/\MR i l asq ow zs/\∀(j:Nat)(p:gf)(vs:N_),l[j]?=some (some 0,TV.pk p vs)->∃x∈ow,x.1=i+j:=by
 intro l;induction l with
 |nil=>intro asq i ow σ σ' H xs G hI hl _ hr;obtain⟨rfl,rfl⟩:=hr;have:asq=[]:=oEN (by simpa using hl);subst this;exact⟨[],G,by simpa using pJ.refl hI,.nil i,λj p vs h=>by simp at h⟩|cons y l ih=>
 intro asq i ow σ σ' H xs G hI hl ht hr;cases asq with
 |nil=>simp at hl|cons x asq=>
 have WW:=ht 0 (by simp) (by simp);by_cases hp:∃p vs,y=(some 0,.pk p vs)
 ·obtain⟨p,vs,rfl⟩:=hp;simp only[takeOwns]at hr;obtain⟨t,σ1,h1,h2⟩:=fN hr;split at h2
  case isFalse=>simp[SP.run]at h2
  rename_i how;obtain⟨q,σ2,h3,h4⟩:=fN h2;obtain⟨rfl,rfl⟩:=h4
  obtain⟨c,rfl⟩:∃c,t=.ow c:=by cases t<;>simp[nM]at how;exact⟨_,rfl⟩
  obtain⟨G1,Zi,_⟩:=lQ hI WW h1;obtain⟨zs,G2,Zu,k1,k2⟩:=ih (asq:=asq) Zi.1 (by simpa using hl) (λj h h'=>Zi.tm (by have:=ht (j+1) (by simpa using h) (by simpa using h');simpa only [List.getElem_cons_succ]using this)) h3;refine⟨x::zs,G2,by simpa[List.append_assoc]using Zi.trans Zu,.own k1,λj p vs h=>?_⟩
  cases j with
  |zero=>exact⟨_,List.mem_cons_self,rfl⟩
  |succ j=>
   obtain⟨z,h5,h6⟩:=k2 j p vs (by simpa using h);exact⟨z,List.mem_cons_of_mem _ h5,by omega⟩
 have hn:=λp vs e=>hp ⟨p,vs,e⟩;rw[Ek hn]at hr;obtain⟨zs,G2,Zu,k1,k2⟩:=ih (asq:=asq) hI (by simpa using hl) (λj h h'=>by have:=ht (j+1) (by simpa using h) (by simpa using h');simpa only [List.getElem_cons_succ]using this) hr;refine⟨zs,G2,Zu,.skip k1,λj p vs h=>?_⟩;cases j with|zero=>simp_all|succ j=>obtain⟨z,h5,h6⟩:=k2 j p vs (by simpa using h);exact⟨z,h5,by omega⟩
theorem Q2:∀{l:c_}{i:Nat}{q:List GP}{σ σ':St},(grabs i l).run σ=some (q,σ')->∀(j:Nat)(n:x_)(p:gf)(vs:N_),l[j]?=some (n,TV.pk p vs)->n=some 0:=by
 intro l;induction l with
 |nil=>simp_all|cons y l ih=>
 intro i q σ σ' hr j n p vs h;obtain⟨m,t⟩:=y;cases j with
 |zero=>simp at h;obtain⟨rfl,rfl⟩:=h;cases m with|none=>simp[grabs,uj,SP.run]at hr|some m=>cases m with|zero=>rfl|succ m=>simp[grabs,uj,SP.run]at hr
 |succ j=>
 have hj:l[j]?=some (n,.pk p vs):=by simp_all
 have Yd:∀{σ1 σ2:St}{q1:List GP},(grabs (i+1) l).run σ1=some (q1,σ2)->n=some 0:=λh1=>ih h1 j n p vs hj;have arg:((if uj t then grabs (i+1) l else .fail:SP (List GP))).run σ=some (q,σ')->n=some 0:=by intro h1;split at h1;exact Yd h1;simp[SP.run]at h1
 cases t with
 |ptr p2 vs2=>cases m with|none=>exact arg hr|some m=>obtain⟨_,σ1,h1,h2⟩:=fN hr;obtain⟨_,σ0,_,h2⟩:=fN h2;obtain⟨cells,σ2,h3,h4⟩:=fN h2;have ⟨q1,σ3,h5,h6⟩:=fN h4;exact Yd h5
 |pk p2 vs2=>cases m with|none=>exact arg hr|some m=>cases m with|zero=>exact Yd hr|succ m=>exact arg hr
 |_=>cases m with|none=>exact arg hr|some m=>cases m<;>exact arg hr
theorem Q3:∀{l:c_}{asq:w_}{i:Nat}{q:List GP}{σ σ':St}{H:U_}{xs:w_}{G:Gh},Inv M σ H xs ts w G->asq.length=l.length->(∀j (h:j<l.length)(h':j<asq.length),TmR w (G.F M.A) σ.v (gy M σ H) G l[j].2 asq[j])->(grabs i l).run σ=some (q,σ')->∃us G' K,pJ M w ts σ H G σ' (H++q.flatMap (·.cells)) (xs++us) G'/\K.map (·.1)=q/\yu w i (l.map (·.2)) asq K us/\∀x∈K,TmR w (G'.F M.A) σ'.v (gy M σ' (H++q.flatMap (·.cells))) G' (.ptr x.1.p x.1.vs) (.pointer (some x.2)):=by
 intro l;induction l with
 |nil=>intro asq i q σ σ' H xs G hI hl _ hr;obtain⟨rfl,rfl⟩:=hr;have:asq=[]:=oEN (by simpa using hl);subst this;exact⟨[],G,[],by simpa using pJ.refl hI,rfl,.nil i,λx hx=>by simp at hx⟩|cons x l ih=>
 intro asq i q σ σ' H xs G hI hl ht hr;cases asq with
 |nil=>simp at hl|cons y asq=>
 obtain⟨n,t⟩:=x;have WW:=ht 0 (by simp) (by simp);simp only[List.getElem_cons_zero]at WW;have ZR:∀{σ1:St}{H1:U_}{xs1:w_}{G1:Gh},pJ M w ts σ H G σ1 H1 xs1 G1->∀j (h:j<l.length)(h':j<asq.length),TmR w (G1.F M.A) σ1.v (gy M σ1 H1) G1 l[j].2 asq[j]:=λhg j h h'=>hg.tm (by have:=ht (j+1) (by simpa using h) (by simpa using h');simpa only [List.getElem_cons_succ]using this);have Y5:(∀p vs,t≠.ptr p vs)->(∀p vs,(n,t)≠(some 0,.pk p vs))->∃us G' K,pJ M w ts σ H G σ' (H++q.flatMap (·.cells)) (xs++us) G'/\K.map (·.1)=q/\yu w i (((n,t)::l).map (·.2)) (y::asq) K us/\∀x∈K,TmR w (G'.F M.A) σ'.v (gy M σ' (H++q.flatMap (·.cells))) G' (.ptr x.1.p x.1.vs) (.pointer (some x.2)):=by
  intro hne hne2;have XT:(if uj t then grabs (i+1) l else .fail:SP (List GP)).run σ=some (q,σ'):=by cases n with|none=>cases t<;>exact hr|some n=>cases n<;>cases t<;>first|exact absurd rfl (hne _ _)|exact absurd rfl (hne2 _ _)|exact hr
  split at XT;rename_i harg;obtain⟨us,G',K,e1,e2,e3,e4⟩:=ih (asq:=asq) hI (by simpa using hl) (ZR (pJ.refl hI)) XT;exact⟨us,G',K,e1,e2,.arg harg e3,e4⟩;simp[SP.run]at XT
 by_cases hp:∃p vs,t=.ptr p vs;obtain⟨p,vs,rfl⟩:=hp;cases n with
 |none=>simp[grabs,uj,SP.run]at hr|some n=>
  simp only[grabs]at hr;obtain⟨_,σ1,h1,h2⟩:=fN hr;have e1:σ1=σ:=(gt h1).1;have e2:=(gt h1).2;subst e1;obtain⟨_,σr,hR,h2'⟩:=fN h2;obtain⟨rfl,Yz⟩:=NK hI hR;obtain⟨cells,σ2,h3,h4⟩:=fN h2';obtain⟨q1,σ3,h5,h6⟩:=fN h4;obtain⟨rfl,rfl⟩:=h6;generalize hz:y=z at WW;cases WW with
  |ptr V0 h0 hv h=>
  obtain⟨Z6,ad0,t0,ha,rfl,Z3⟩:=h e2;obtain⟨r,o,hops⟩:=p;have hab:∃ad,G.addr w (⟨r,o,[]⟩:gf)=some ad/\(hops=[]->ad0=ad)/\(hops≠[]->gK w ((w.cell? ⟨ad.block,ad.off,none⟩).getD undef) hops=some ad0):=by cases hops with|nil=>exact⟨ad0,ha,λ_=>rfl,λe=>absurd rfl e⟩|cons hp1 hs=>obtain⟨b,o0,n0,hb⟩:=Yz (by simp);refine⟨⟨b,o0+o,none⟩,by simp only[Gh.addr];rw[hb],λe=>by simp at e,λ_=>?_⟩;have YE:gK w (G.val w r o) (hp1::hs)=some ad0:=ha;unfold Gh.val at YE;rw[hb]at YE;exact YE
  obtain⟨ad,hba,hb0,hbh⟩:=hab;have hrb:(⟨r,o,hops⟩:gf).base.root≠1:=Z6;obtain⟨k1,u,G1,Zi,k2,k3,k4⟩:=Q4 (p:=(⟨r,o,hops⟩:gf).base) hI hrb hba h3;obtain⟨us,G2,K,Zu,k5,k6,k7⟩:=ih (asq:=asq) Zi.1 (by simpa using hl) (ZR Zi) h5;have Zg:TmR w (G.F M.A) σr.v (gy M σr H) G (.ptr (⟨r,o,hops⟩:gf).base (vs.take 1)) (.pointer (some ad)):=.ptr V0 h0 (by rw[hv];simp[lz,gf.base]) λ_=>⟨Z6,ad,_,hba,rfl,rfl⟩;refine⟨u++us,G2,(⟨i,(⟨r,o,hops⟩:gf).base,vs.take 1,cells⟩,ad)::K,by simpa[List.append_assoc]using Zi.trans Zu,by simp[k5],.ptr (p:=(⟨r,o,hops⟩:gf).base) (hp:=hops) Z6 rfl (oE hba) hb0 (λhne=>⟨hbh hne,?_⟩) (by omega) k3 k4 k6,λx hx=>?_⟩;have WN:gE (σr.c r o) hops=some t0:=by have:=Z3;rw[gv (by exact Z6)]at this;exact this
  cases hops with|nil=>exact absurd rfl hne|cons h1 hs=>cases hc:σr.c r o with|ow c=>have:=Mv hc h3;rw[this];rw[hc]at WN;exact⟨t0,WN⟩|_=>rw[hc]at WN;simp[gE]at WN
  have e3:H++(({ i:=i,p:=(⟨r,o,hops⟩:gf).base,vs:=vs.take 1,cells:=cells }:GP)::q1).flatMap (·.cells)=H++cells++q1.flatMap (·.cells):=by simp[List.append_assoc]
  rw[e3];rcases oMC.1 hx with rfl|hx;exact Zu.tm (Zi.tm Zg);exact k7 x hx
 by_cases hw:∃p vs,(n,t)=(some 0,.pk p vs);obtain⟨p,vs,hw⟩:=hw;injection hw with h1 h2
 subst h1;subst h2;have XT:(grabs (i+1) l).run σ=some (q,σ'):=hr;obtain⟨us,G',K,e1,e2,e3,e4⟩:=ih (asq:=asq) hI (by simpa using hl) (ZR (pJ.refl hI)) XT;exact⟨us,G',K,e1,e2,.own e3,e4⟩;exact Y5 (λp vs e=>hp ⟨p,vs,e⟩) λp vs e=>hw ⟨p,vs,e⟩
theorem Cu{α:Type}:∀{l:List (Nat×α)}{r:Nat}{x:α},gD l r=some x->iJ l r x=l:=by intro l;induction l with|nil=>intro r x h;simp[gD]at h|cons y l ih=>intro r x h;simp[gD]at h;simp[iJ];grind
theorem PH{p:gf}(hr:(touch p).run σ=some ((),σ')):σ'=σ/\∃l,gD σ.ce p.root=some l/\p.off<l.length:=by
 simp[touch]at hr;obtain⟨l,hl,ho,h2⟩:=gG (k:=.ret ()) (by simpa[SP.run]using hr);simp[SP.run]at h2;refine⟨?_,l,hl,ho⟩;rw[<- h2];have e:l.set p.off (σ.c p.root p.off)=l:=by
  have:σ.c p.root p.off=l[p.off]:=by simp[St.c,hl,ho]
  simp_all
 rw[e,Cu hl]
theorem Qk(hI:Inv M σ H xs ts w G):∀{q:List GP}{σ':St},(rechk q).run σ=some ((),σ')->σ'=σ/\∀g∈q,∀x,TmR w (G.F M.A) σ.v (gy M σ H) G (.ptr g.p g.vs) x->g.p.root≠1/\∃ad,x=.pointer (some ad)/\G.addr w g.p=some ad/\g.vs=lz σ.v g.p.root g.p.off g.p.hops.length/\(∃t,gE (gy M σ H g.p.root g.p.off) g.p.hops=some t)/\((∃o n,G.β g.p.root=some (ad.block,o,n))\/G.φ g.p.root g.p.off ad.block):=by
 intro q;induction q with
 |nil=>intro σ' hr;simp only[rechk,SP.run,true_and]at hr;simp_all|cons g q ih=>
 intro σ' hr;obtain⟨_,σ1,h1,h2⟩:=fN hr;have e1:σ1=σ:=(gt h1).1;have e2:=(gt h1).2;subst e1;obtain⟨_,σ2,h3,h4⟩:=fN h2;obtain⟨rfl,l,hl,ho⟩:=PH h3;obtain⟨rfl,hq⟩:=ih h4;refine⟨rfl,λg' hg' x hx=>?_⟩;rcases oMC.1 hg' with rfl|hg';cases hx with
 |ptr V0 h0 hv h=>
  obtain⟨Z6,ad,t0,ha,hx,Z3⟩:=h e2;have hB:G.addrB w g'.p=some ad:=by refine pR ha λhp b o0 n hb=>?_;have:=hI.shape _ _ _ _ hb l hl;omega
  refine⟨Z6,ad,hx,ha,e2,⟨t0,Z3⟩,?_⟩;rcases hI.core.where_ g'.p hB Z3 with⟨_,b,o0,n,h5,_,h6⟩|⟨_,h5⟩;simp_all;right;exact h5
 exact hq g' hg' x hx
end
abbrev l_:=List (GP×Addr)
def prK:l_->Nat->d_| [],_=>none|(g,ad)::K,r=>if 2*g.i+2=r then some (ad.block,ad.off,g.cells.length)else prK K r
def bsK:l_->Nat->Nat| [],_=>0|(g,_)::K,r=>if 2*g.i+2=r then 0 else g.cells.length+bsK K r
def ceK(K:l_):List (Nat×U_):=K.map λx=>(2*x.1.i+2,x.1.cells)
def ceO(ow:q_):List (Nat×U_):=ow.map λx=>(2*x.1+3,[x.2])
def owK:q_->Nat->x_| [],_=>none|(i,_)::q,r=>if 2*i+3=r then some 0 else(owK q r).map (· + 1)
def ng(K:l_):U_:=K.flatMap λx=>x.1.cells
section
theorem m9{K:l_}{r b o n:Nat}(h:prK K r=some (b,o,n)):∃x∈K,r=2*x.1.i+2/\b=x.2.block/\o=x.2.off/\n=x.1.cells.length/\gD (ceK K) r=some x.1.cells/\∀j (_:j<x.1.cells.length),(ng K)[bsK K r+j]?=x.1.cells[j]?:=by
 induction K with
 |nil=>simp[prK]at h|cons y K ih=>
 obtain⟨g,ad⟩:=y;simp only[prK]at h;split at h;rename_i e;injection h with h
 injection h with h1 h
 injection h with h2 h3
 refine⟨(g,ad),by simp,e.symm,h1.symm,h2.symm,h3.symm,by simp[ceK,gD,e],λj hj=>?_⟩;simp only[bsK,e,if_true,ng,Nat.zero_add];exact oAL hj;rename_i e;obtain⟨x,h1,h2,h3,h4,h5,h6,h7⟩:=ih h;refine⟨x,by simp[h1],h2,h3,h4,h5,by simpa[ceK,gD,e]using h6,λj hj=>?_⟩;simp[bsK,e,if_false,ng];rw[oAR (by omega)];rw[show g.cells.length+bsK K r+j-g.cells.length=bsK K r+j by omega];exact h7 j hj
theorem Lh{K:l_}{r:Nat}{l:U_}(h:gD (ceK K) r=some l):prK K r≠none:=by induction K with|nil=>simp[ceK,gD]at h|cons y K ih=>simp[ceK,gD]at h;simp[prK];split;simp;rename_i e;rw[oIN e]at h;exact ih h
theorem R6{K:l_}:∀r b o n r' b' o' n',prK K r=some (b,o,n)->prK K r'=some (b',o',n')->∀j j',j<n->j'<n'->bsK K r+j=bsK K r'+j'->r=r':=by induction K with|nil=>intro r b o n r' b' o' n' h;simp[prK]at h|cons y K ih=>intro r b o n r' b' o' n' h h' j j' hj ZO e;simp[prK,bsK]at h h' e;grind
theorem yu.slot{w:World}{i:Nat}{ts:U_}{asq us:w_}{K:l_}(h:yu w i ts asq K us):∀x∈K,i<=x.1.i/\x.1.p.hops=[]/\∃p vs,ts[x.1.i-i]?=some (.ptr p vs):=by
 induction h with
 |nil=>simp_all| @ptr i p hp vs vs0 cells ad ad0 u ts xs K us hr hb hs h0 hh hu hc hok h ih=>intro x hx;rcases oMC.1 hx with rfl|hx;simp_all;obtain⟨h1,h3,p,vs,h2⟩:=ih x hx;refine⟨by omega,h3,p,vs,?_⟩;rw[show x.1.i-i=(x.1.i-(i+1))+1 by omega];simpa using h2
 | @arg i t x0 ts xs K us ha h ih=>intro x hx;obtain⟨h1,h3,p,vs,h2⟩:=ih x hx;refine⟨by omega,h3,p,vs,?_⟩;rw[show x.1.i-i=(x.1.i-(i+1))+1 by omega];simpa using h2| @own i p0 vs0 x0 ts xs K us h ih=>intro x hx;have ⟨h1,h3,p,vs,h2⟩:=ih x hx;refine⟨by omega,h3,p,vs,?_⟩;rw[show x.1.i-i=(x.1.i-(i+1))+1 by omega];simpa using h2
theorem yu.len{w:World}{i:Nat}{ts:U_}{asq us:w_}{K:l_}(h:yu w i ts asq K us):ts.length=asq.length/\us.length=(ng K).length:=by induction h with|nil=>exact⟨rfl,rfl⟩|ptr hr hb hs h0 hh hu hc hok h ih=>exact⟨by simp_all,by simp[ng,hu]at ih⊢;exact ih.2⟩|arg ha h ih=>simp_all|own h ih=>simp_all
theorem yu.ok{w:World}{i:Nat}{ts:U_}{asq us:w_}{K:l_}(h:yu w i ts asq K us):∀x∈K,∀j (h:j<x.1.cells.length),is x.1.cells[j]=true\/nM x.1.cells[j]=true:=by
 induction h with
 |nil=>simp_all|ptr hr hb hs h0 hh hu hc hok h ih=>intro x hx;rcases oMC.1 hx with rfl|hx;exact hok;exact ih x hx
 |arg ha h ih=>exact ih|own h ih=>exact ih
theorem yu.here{w:World}{i:Nat}{ts:U_}{asq us:w_}{K:l_}(h:yu w i ts asq K us):∀r b o n,prK K r=some (b,o,n)->∀j,j<n->w.cell? ⟨b,o+j,none⟩=some (us.getD (bsK K r+j) undef)/\w.frozen? ⟨b,o+j,none⟩=false:=by
 induction h with
 |nil=>intro r b o n h;simp[prK]at h| @ptr i p hp0 vs vs0 cells ad ad0 u ts xs K us hr hb hs h0 hh hu hc hok h ih=>
 intro r b o n hp j hj;simp[prK]at hp;simp only[bsK];split at hp;rename_i e;injection hp with hp
 injection hp with h1 hp
 injection hp with h2 h3
 subst h1;subst h2;rw[oIP e,Nat.zero_add];have hju:j<u.length:=by omega
 have:=hc j hju;refine⟨?_,this.2⟩;rw[this.1,oGD,oAL hju,oGE hju];rfl;rename_i e;rw[oIN e];have:=ih r b o n hp j hj;refine⟨?_,this.2⟩;rw[this.1];simp;rw[oAR (by omega)];rw[show cells.length+bsK K r+j-u.length=bsK K r+j by omega]
 |arg ha h ih=>exact ih|own h ih=>exact ih
end
theorem vf{α:Type}{f:α->Nat}:∀{l:List α},qR (l.map f)=true->∀{x y:α},x∈l->y∈l->f x=f y->x=y:=by intro l;induction l with|nil=>simp_all|cons z l ih=>intro h x y hx hy e;simp only[oPC,qR,oBA,Bool.not_eq_true',List.contains_eq_mem,decide_eq_false_iff_not]at h;rcases oMC.1 hx with Z0|Z0;rcases oMC.1 hy with Xl|Xl;rw[Z0,Xl];exact absurd (by rw[<- Z0,e];exact List.mem_map_of_mem Xl) h.1;rcases oMC.1 hy with Xl|Xl;simp_all;exact ih h.2 Z0 Xl e
section
variable {P:Program} {M:Fm} {σ σ':St} {H:U_} {xs:w_} {ts:s_} {w:World} {G:Gh} {a:Act} {o:Oper}
theorem qn{α:Type}:∀{a b:List (Nat×α)}{r:Nat},gD (a++b) r=match gD a r with|some x=>some x|none=>gD b r:=by intro a;induction a with|nil=>intro b r;rfl|cons y a ih=>intro b r;simp[gD];split;rfl;exact ih
theorem so:∀{q:q_}{r j:Nat},owK q r=some j->∃h:j<q.length,r=2*q[j].1+3/\gD (ceO q) r=some [q[j].2]:=by
 intro q;induction q with
 |nil=>intro r j h;simp[owK]at h|cons y q ih=>
 intro r j h;have ⟨i,t⟩:=y;simp[owK]at h;split at h;rename_i e;injection h with h
 subst h;exact⟨by simp,e.symm,by simp[ceO,gD,e]⟩;rename_i e;cases hq:owK q r with
 |none=>simp_all|some k=>
 simp[hq]at h;subst h;have:gD (ceO ((i,t)::q)) r=gD (ceO q) r:=by simp[ceO,gD,e]
 simp_all
theorem Ri:∀{q:q_}{r:Nat}{l:U_},gD (ceO q) r=some l->owK q r≠none:=by
 intro q;induction q with
 |nil=>intro r l h;simp[ceO,gD]at h|cons y q ih=>
 intro r l h;have ⟨i,t⟩:=y;simp[owK];split;simp;rename_i e;have:gD (ceO ((i,t)::q)) r=gD (ceO q) r:=by simp[ceO,gD,e]
 simp_all
theorem MR.facts{i:Nat}{l:c_}{asq:w_}{ow:q_}{zs:w_}(h:MR i l asq ow zs):zs.length=ow.length/\(∀x∈ow,i<=x.1/\∃c,x.2=.ow c)/\∀x∈ow,∃k,owK ow (2*x.1+3)=some k/\asq[x.1-i]?=zs[k]?:=by
 induction h with
 |nil=>simp_all| @own i p vs l x xs c ow zs h ih=>obtain⟨h1,h2,h3⟩:=ih;refine⟨by simp[h1],λy hy=>?_,λy hy=>?_⟩;rcases oMC.1 hy with rfl|hy;simp_all;exact⟨by have:=(h2 y hy).1;omega,(h2 y hy).2⟩;rcases oMC.1 hy with rfl|hy;exact⟨0,by simp[owK],by simp⟩;obtain⟨k,h4,h5⟩:=h3 y hy;have Yh:=(h2 y hy).1;refine⟨k+1,by simp[owK];rw[oIN (by omega),h4];rfl,?_⟩;rw[show y.1-i=(y.1-(i+1))+1 by omega];simpa using h5
 | @skip i y0 l x xs ow zs h ih=>obtain⟨h1,h2,h3⟩:=ih;refine⟨h1,λy hy=>⟨by have:=(h2 y hy).1;omega,(h2 y hy).2⟩,λy hy=>?_⟩;have ⟨k,h4,h5⟩:=h3 y hy;have Yh:=(h2 y hy).1;refine⟨k,h4,?_⟩;rw[show y.1-i=(y.1-(i+1))+1 by omega];simpa using h5
theorem yu.hands{vals:U_}{asq us:w_}{K:l_}{l:c_}{ow:q_}{zs:w_}(hI:Inv M σ (ow.map (·.2)++ng K) (zs++us) ts w G)(h:yu w 0 vals asq K us)(ho:MR 0 l asq ow zs)(Zn:qR ((K.map (·.1)).map (·.p.root))=true)(ZX:∀x∈K,0<x.1.cells.length) (hwh:∀x∈K,x.1.p.root≠1/\((∃o n,G.β x.1.p.root=some (x.2.block,o,n))\/G.φ x.1.p.root x.1.p.off x.2.block)):MS (ow.map (·.2)++ng K) (zs++us) w G M.A (prK K) (λr=>ow.length+bsK K r) (ceK K++ceO ow) (owK ow):=by
 obtain⟨hz,W',_⟩:=ho.facts;have hodd:∀r,r%2=1->gD (ceK K) r=none:=λr hr=>by cases hc:gD (ceK K) r with|none=>rfl|some l=>cases hp:prK K r with|none=>exact absurd hp (Lh hc)|some x=>obtain⟨b,o,n⟩:=x;obtain⟨x,_,h2,_⟩:=m9 hp;omega
 refine⟨λr b o n hp=>?_,λr b o n hp=>?_,λr l hl=>?_,λr j hj=>?_,λr j r' b o n hj hp j' ZO=>by have:=(so hj).1;omega,λr r' j hj ZO=>?_,λr b o n r' b' o' n' h1 h2 j j' hj ZO e=>R6 _ _ _ _ _ _ _ _ h1 h2 _ _ hj ZO (by omega),λr b o n r' o' n' h1 h2=>?_,λr b o n hp hF=>?_,λr b o n hp j hφ=>?_,λr b o n hp j hj=>?_⟩;obtain⟨x,h1,h2,_,_,h5,_⟩:=m9 hp;exact⟨by omega,by rw[h5];exact ZX x h1⟩;obtain⟨x,h1,h2,_,_,h5,h6,h7⟩:=m9 hp;refine⟨_,by rw[qn,h6],h5.symm,λj hj=>?_⟩;have:=h7 j hj;rw[oGE hj]at this;obtain⟨k1,k2⟩:=oGS this;refine⟨by simp;omega,?_,Ck (h.ok x h1) j hj⟩;rw[List.getElem_append_right (by simp;omega)];rw[<- k2];congr 1;simp;omega;rw[qn]at hl;cases hc:gD (ceK K) r with|some l2=>exact .inl (Lh hc)|none=>rw[hc]at hl;exact .inr (Ri hl)
 obtain⟨h1,h2,h3⟩:=so hj;obtain⟨_,c,hc⟩:=W' ow[j] (oGX h1);refine⟨by omega,by omega,c,by simp;omega,?_,?_⟩;rw[qn,hodd r (by omega)];simp only;rw[h3,hc];simp_all;obtain⟨_,h2,_⟩:=so hj;obtain⟨_,h3,_⟩:=so ZO;omega;obtain⟨x,x1,x2,x3,x4,x5,_⟩:=m9 h1;obtain⟨y,y1,y2,y3,y4,y5,_⟩:=m9 h2;have Z5:x.1.p.root=y.1.p.root:=by rcases(hwh x x1).2 with⟨o1,n1,ZI⟩|ZI;rcases(hwh y y1).2 with⟨o2,n2,ZS⟩|ZS;rw[<- y3]at ZS;rw[<- x3]at ZI;exact hI.core.boxd _ _ _ _ _ _ _ ZI ZS;rw[<- y3]at ZS;rw[<- x3]at ZI;exact absurd ZS (hI.core.boxf _ _ _ _ ZI _ _);rcases(hwh y y1).2 with⟨o2,n2,ZS⟩|ZS;rw[<- y3]at ZS;rw[<- x3]at ZI;exact absurd ZI (hI.core.boxf _ _ _ _ ZS _ _);rw[<- y3]at ZS;rw[<- x3]at ZI;exact(hI.core.dis _ _ _ _ _ ZI ZS).1
 have Wt:x.1=y.1:=vf Zn (List.mem_map_of_mem x1) (List.mem_map_of_mem y1) Z5;rw[x2,y2,Wt];obtain⟨x,x1,x2,x3,x4,x5,_⟩:=m9 hp;subst x3;rcases(hwh x x1).2 with⟨o1,n1,ZI⟩|ZI;exact hF.2.2 _ _ _ _ ZI rfl;exact hF.2.1 _ _ ZI;obtain⟨x,x1,x2,x3,x4,x5,_⟩:=m9 hp;subst x3;rcases(hwh x x1).2 with⟨o1,n1,ZI⟩|ZI;exact hI.core.boxf _ _ _ _ ZI _ _ hφ;exact(hwh x x1).1 (hI.core.dis _ _ _ _ _ ZI hφ).1;have:=h.here _ _ _ _ hp j hj;refine⟨?_,this.2⟩;rw[this.1,oGD,oGD,oAR (by omega)];rw[show ow.length+bsK K r+j-zs.length=bsK K r+j by omega]
theorem TmR.handed{F F':Nat->Prop}{V V':Vs}{C C':Cs}{G G':Gh}{t:TV}{x:Value}(h:TmR w F V C G t x)(ha:uj t=true)(hF:∀k,F k->F' k):TmR w F' V' C' G' t x:=by
 cases h with
 |v h=>exact .v h|sl h=>exact .sl (h.frame (λ_ _ _=>rfl) λk hk _=>hF k hk)|nil=>exact .nil|ip u hc hr=>exact .ip u (λj hj=>⟨hF _ (hc j hj).1,(hc j hj).2⟩) λj hj=>(hr j hj).frame (λ_ _ _=>rfl) λk hk _=>hF k hk| @agg l xs hl h=>refine .agg hl λj hj=>?_;simp[uj]at ha;have h1:=ha _ (oGX hj);have h2:=h j hj;generalize l[j]=e at h1 h2;generalize xs.getD j undef=y at h2;cases h2 with|v h=>exact .v h|sl h=>exact .sl (h.frame (λ_ _ _=>rfl) λk hk _=>hF k hk)|_=>simp_all
 | @fn f l xs hl h=>simp[uj]at ha;exact .fn hl λj hj=>(((h j hj).imC (ha _ (oGX hj))).frame (λ_ _ _=>rfl) λk hk _=>hF k hk).toTm|_=>simp[uj]at ha
theorem Gy{α:Type}:∀{l:List α}{i j:Nat},gD (jf i l) j=if i<=j then l[j-i]? else none:=by intro l;induction l with|nil=>intro i j;simp[jf,gD]|cons x l ih=>intro i j;simp[jf,gD];by_cases e:i=j;simp_all;rw[oIN e,ih];grind
theorem IW:∀{l:U_}{i j:Nat},(argTs i l)[j]?=(l[j]?).map (argT (i+j)):=by intro l;induction l with|nil=>intro i j;simp[argTs]|cons t l ih=>intro i j;cases j with|zero=>simp[argTs]|succ j=>simp[argTs,ih];rw[show i+1+j=i+(j+1) by omega]
def RG(w:World)(K:l_)(x:GP×Addr)(t:TV)(y:r_):Prop:=
 ∃hp vs ad0,t=.ptr ⟨x.1.p.root,x.1.p.off,hp⟩ vs/\y=some (.pointer (some ad0))/\prK K (2*x.1.i+2)=some (x.2.block,x.2.off,x.1.cells.length)/\gD (ceK K) (2*x.1.i+2)=some x.1.cells/\x.2.spot=none/\(hp=[]->ad0=x.2)/\
  (hp≠[]->gK w ((w.cell? ⟨x.2.block,x.2.off,none⟩).getD undef) hp=some ad0/\∃t,gE (x.1.cells.getD 0 .dead) hp=some t)
theorem RG.cons{w:World}{K:l_}{x z:GP×Addr}{t:TV}{y:r_}(h:RG w K x t y)(hne:z.1.i≠x.1.i):RG w (z::K) x t y:=by have ⟨hp,vs,ad0,h1,h2,h3,h4,h5,h6,h7⟩:=h;have ⟨g,ad⟩:=z;refine⟨hp,vs,ad0,h1,h2,?_,?_,h5,h6,h7⟩;simp[prK];rw[oIN (by simp only at hne;omega)];exact h3;simp[ceK,gD];rw[oIN (by simp only at hne;omega)];exact h4
theorem yu.slotArg{w:World}{i:Nat}{vals:U_}{asq us:w_}{K:l_}(h:yu w i vals asq K us):∀j t,vals[j]?=some t->uj t=true\/(∃p vs,t=.pk p vs)\/∃x∈K,x.1.i=i+j/\RG w K x t asq[j]?:=by
 induction h with
 |nil=>simp_all| @ptr i p hp vs vs0 cells ad ad0 u ts xs K us hr hb hs h0 hh hu hc hok h ih=>intro j t ht;cases j with|zero=>right;right;refine⟨(⟨i,p,vs,cells⟩,ad),by simp,rfl,hp,vs0,ad0,?_,by simp,by simp[prK],by simp[ceK,gD],hs,h0,hh⟩;simpa using ht.symm|succ j=>rcases ih j t (by simpa using ht)with h1|h1|⟨x,h1,h2,h3⟩;exact .inl h1;exact .inr (.inl h1);right;right;exact⟨x,by simp[h1],by omega,by simpa using h3.cons (z:=(⟨i,p,vs,cells⟩,ad)) (by show i≠x.1.i;omega)⟩
 | @arg i t0 x0 ts xs K us ha h ih=>intro j t ht;cases j with|zero=>simp_all|succ j=>rcases ih j t (by simpa using ht)with h1|h1|⟨x,h1,h2,h3⟩;exact .inl h1;exact .inr (.inl h1);exact .inr (.inr ⟨x,h1,by omega,by simpa using h3⟩)
 | @own i p0 vs0 x0 ts xs K us h ih=>
 intro j t ht
 cases j with
 |zero=>right;left;have:TV.pk p0 vs0=t:=by simpa using ht
        exact⟨p0,vs0,this.symm⟩
 |succ j=>rcases ih j t (by simpa using ht)with h1|h1|⟨x,h1,h2,h3⟩;exact .inl h1;exact .inr (.inl h1);exact .inr (.inr ⟨x,h1,by omega,by simpa using h3⟩)
theorem MR.ix{i:Nat}{l:c_}{asq:w_}{ow:q_}{zs:w_}(h:MR i l asq ow zs):∀j (h:j<ow.length),owK ow (2*ow[j].1+3)=some j/\asq[ow[j].1-i]?=zs[j]?/\i<=ow[j].1:=by
 induction h with
 |nil=>simp_all| @own i p vs l x xs c ow zs h ih=>
 intro j hj;cases j with
  |zero=>exact⟨by simp[owK],by simp,oLE _⟩|succ j=>
  have ZO:j<ow.length:=by simpa using hj
  obtain⟨h1,h2,h3⟩:=ih j ZO;simp[List.getElem_cons_succ,owK];refine⟨by rw[oIN (by omega),h1];rfl,?_,by omega⟩;rw[show ow[j].1-i=(ow[j].1-(i+1))+1 by omega];simpa using h2
 | @skip i y l x xs ow zs h ih=>intro j hj;obtain⟨h1,h2,h3⟩:=ih j hj;refine⟨h1,?_,by omega⟩;rw[show ow[j].1-i=(ow[j].1-(i+1))+1 by omega];simp_all
theorem yu.enter{vals:U_}{asq us:w_}{K:l_}{l:c_}{ow:q_}{zs:w_}(hI:Inv M σ (ow.map (·.2)++ng K) (zs++us) ts w G)(h:yu w 0 vals asq K us)(ho:MR 0 l asq ow zs)(hpk:∀j p vs,vals[j]?=some (.pk p vs)->∃x∈ow,x.1=j) (hh:MS (ow.map (·.2)++ng K) (zs++us) w G M.A (prK K) (λr=>ow.length+bsK K r) (ceK K++ceO ow) (owK ow)) (ht:∀j (h:j<vals.length)(h':j<asq.length),TmR w (G.F M.A) σ.v (gy M σ (ow.map (·.2)++ng K)) G vals[j] asq[j]){N:Nat}(hN:asq.length<=N){kp:Nat->r_}(hkp:∀i x,kp i=some x->(∃y∈ow,y.1=i)/\asq[i]?=some x) {kc:Nat->Nat->r_}{kq:p_}(hgn:∀r o x,kc r o=some x->(r,o)∈kq/\∃b o0 n c l,prK K r=some (b,o0,n)/\o<n/\w.cell? ⟨b,o0+o,none⟩=some x/\gD (ceK K) r=some l/\l.getD o .dead=.ow c):Inv (M.into w G (prK K) N kp kc) (CE kq (argTs 0 vals) (ceK K++ceO ow)) [] [] (asq.toArray++Array.replicate (N-asq.length) undef) w (G.into (prK K) (λr=>ow.length+bsK K r) (owK ow) (zs++us)):=by
 refine hI.enter hh (by simp;omega) (λi x hk=>?_) (λr o x hk=>?_) λi=>?_;obtain⟨⟨y,hy,rfl⟩,hx⟩:=hkp i x hk;obtain⟨hz,_,h3⟩:=ho.facts;obtain⟨k,h4,h5⟩:=h3 y hy;rw[Nat.sub_zero,hx]at h5;show(match owK ow (2*y.1+3)with|some j=>(zs++us).getD j undef|none=>undef)=x;rw[h4];have hk:k<zs.length:=(oGS h5.symm).1;simp only[oGD,oAL hk,<- h5,Option.getD_some];obtain⟨h1,b,o0,n,c,l,h2,h3,h4,h5,h6⟩:=hgn r o x hk;have hr:=(hh.even _ _ _ _ h2).1;refine⟨h1,λe=>by simp only at e;omega,c,?_,?_⟩;show some ((G.into (prK K) (λr=>ow.length+bsK K r) (owK ow) (zs++us)).val w r o)=some x;unfold Gh.val Gh.into;simp only[h2,h4,Option.getD_some];show gE (gy _ _ [] r o) []=_;rw[gv (by show r≠1;omega)];show some (St.c _ r o)=_;unfold St.c;simp only[qn,h5,h6];rw[Gy];simp only[Nat.zero_le,if_true,Nat.sub_zero,IW,Nat.zero_add];cases hv:vals[i]? with
 |none=>exact .dead|some t=>
 obtain⟨hi,hvi⟩:=oGS hv;have Zk:i<asq.length:=by rw[<- h.len.1];exact hi
 have hx:(asq.toArray++Array.replicate (N-asq.length) undef).getD i undef=asq[i]:=by simp[oAG,Array.getElem?_append,Zk]
 rw[hx];have Zg:=ht i hi Zk;rw[hvi]at Zg;simp only[oMS,Option.getD_some];rcases h.slotArg i t hv with harg|⟨p,vs,rfl⟩|⟨x,x1,x2,hp,vs,ad0,rfl,x4,x5,x5c,x6,x7,x8⟩;have e:argT i t=t:=by cases t<;>first|rfl|simp[uj]at harg
 rw[e];exact Zg.handed harg λk hk=>hh.F hk;simp only[argT];obtain⟨x,Z0,rfl⟩:=hpk i p vs hv;obtain⟨hz,h2,h3⟩:=ho.facts;obtain⟨k,h4,h5⟩:=h3 x Z0;obtain⟨hk,_,h6⟩:=so h4;have hodd:=(hh.owc _ _ h4);obtain⟨_,_,c',hj,h8,h9⟩:=hodd;refine .pk (λ_=>0) (λ_=>oLE _) rfl λ_=>⟨by simp,c',?_,?_⟩;have hpn:prK K (2*x.1+3)=none:=by cases hp:prK K (2*x.1+3)with|none=>rfl|some y=>obtain⟨b,o,n⟩:=y;have:=(hh.even _ _ _ _ hp).1;omega
 simp only[Gh.hv,hvT];unfold Gh.val Gh.into;simp only[hpn,h4];rw[Nat.sub_zero,oGE Zk,oGE (by omega)]at h5;injection h5 with h5
 rw[oGD,oAL (by omega),oGE (by omega),h5];rfl;have:gy (M.into w G (prK K) N kp kc) ⟨jf 0 (argTs 0 vals),ceK K++ceO ow,[]⟩ [] (2*x.1+3) 0=.ow c':=by rw[gv (by show 2*x.1+3≠1;omega)];simp[St.c,h8]
 rw[this];rfl;simp only[argT];have e:asq[i]=.pointer (some ad0):=by rw[oGE Zk]at x4;injection x4
 rw[e];have hxi:x.1.i=i:=by omega
 rw[hxi]at x5 x5c;have Y0:(⟨x.2.block,x.2.off+0,none⟩:Addr)=x.2:=by obtain⟨g,ad⟩:=x;obtain⟨b,o,s⟩:=ad;simp only at x6⊢;subst x6;rfl
 have hcell:gy (M.into w G (prK K) N kp kc) ⟨jf 0 (argTs 0 vals),ceK K++ceO ow,[]⟩ [] (2*i+2) 0=x.1.cells.getD 0 .dead:=by rw[gv (by show 2*i+2≠1;omega)];simp only[St.c,qn,x5c]
 refine .ptr (λ_=>0) (λ_=>oLE _) (by simp[lz,List.replicate_succ,List.map_const']) λ_=>?_;cases hp with|nil=>refine⟨by simp,x.2,(gy (M.into w G (prK K) N kp kc) ⟨jf 0 (argTs 0 vals),ceK K++ceO ow,[]⟩ [] (2*i+2) 0),?_,by rw[x7 rfl],rfl⟩;unfold Gh.addr Gh.into;simp only[x5];rw[Y0]|cons h1 hs=>obtain⟨x9,t0,x10⟩:=x8 (by simp);refine⟨by simp,ad0,t0,?_,rfl,by show gE (gy _ _ [] (2*i+2) 0) (h1::hs)=_;rw[hcell];exact x10⟩;show gK w (Gh.val _ w (2*i+2) 0) (h1::hs)=some ad0;unfold Gh.val Gh.into;simp only[x5];exact x9
end
theorem ID{α:Type}{f:GP×Addr->List α}{K:l_}(hf:∀x∈K,(f x).length=x.1.cells.length){r b o n:Nat}(h:prK K r=some (b,o,n)):∃x∈K,r=2*x.1.i+2/\b=x.2.block/\o=x.2.off/\n=x.1.cells.length/\gD (K.map λx=>(2*x.1.i+2,f x)) r=some (f x)/\∀j,j<n->(K.flatMap f)[bsK K r+j]?=(f x)[j]?:=by
 induction K with
 |nil=>simp[prK]at h|cons y K ih=>
 obtain⟨g,ad⟩:=y;simp only[prK]at h;split at h;rename_i e;injection h with h
 injection h with h1 h
 injection h with h2 h3
 have hl:=hf (g,ad) (by simp);simp only at hl;refine⟨(g,ad),by simp,e.symm,h1.symm,h2.symm,h3.symm,by simp[gD,e],λj hj=>?_⟩;simp only[bsK,e,if_true,Nat.zero_add];exact oAL (by omega);rename_i e;obtain⟨x,h1,h2,h3,h4,h5,h6,h7⟩:=ih (λx hx=>hf x (by simp[hx])) h;have hl:=hf (g,ad) (by simp);simp only at hl;refine⟨x,by simp[h1],h2,h3,h4,h5,by simpa[gD,e]using h6,λj hj=>?_⟩;simp only[bsK,e,if_false,List.flatMap_cons];rw[oAR (by omega)];rw[show g.cells.length+bsK K r+j-(f (g,ad)).length=bsK K r+j by omega];exact h7 j hj
theorem UR{K:l_}(Zn:qR (K.map λx=>x.1.i)=true){j:Nat}(h:j<(ng K).length):∃r b o n t,prK K r=some (b,o,n)/\t<n/\j=bsK K r+t:=by
 induction K generalizing j with
 |nil=>simp[ng]at h|cons y K ih=>
 obtain⟨g,ad⟩:=y;simp only[oPC,qR,oBA,Bool.not_eq_true',List.contains_eq_mem,decide_eq_false_iff_not]at Zn;simp only[ng,List.flatMap_cons,oLA]at h;by_cases hj:j<g.cells.length;exact⟨2*g.i+2,ad.block,ad.off,g.cells.length,j,by simp[prK],hj,by simp[bsK]⟩;obtain⟨r,b,o,n,t,h1,h2,h3⟩:=ih Zn.2 (j:=j-g.cells.length) (by simp only[ng];omega);have hne:2*g.i+2≠r:=λe=>by obtain⟨x,x1,x2,_⟩:=m9 h1;exact Zn.1 (List.mem_map.2 ⟨x,x1,by omega⟩)
 exact⟨r,b,o,n,t,by simp[prK,hne,h1],h2,by simp[bsK,hne];omega⟩
def RWs(w:World):l_->World->World| [],W=>W|x::K,W=>RWs w K (ko w W x.2.block)
theorem Rz{w:World}{K:l_}:∀{W:World},(RWs w K W).heap.size=W.heap.size:=by induction K with|nil=>intro W;rfl|cons x K ih=>intro W;simp[RWs];rw[ih,qO]
theorem Gz{w:World}{K:l_}:∀{W:World},(RWs w K W).os=W.os/\(RWs w K W).tape=W.tape/\(RWs w K W).output=W.output:=by induction K with|nil=>intro W;exact⟨rfl,rfl,rfl⟩|cons x K ih=>intro W;simp[RWs];have ⟨r1,r2,r3,_⟩:=zh (w:=w) (W:=W) (b:=x.2.block);simp_all
theorem UZ{w:World}{K:l_}{k:Nat}:∀{W:World},(∀x∈K,k≠x.2.block)->(RWs w K W).heap[k]?=W.heap[k]?:=by induction K with|nil=>intro W h;rfl|cons x K ih=>intro W h;simp[RWs];rw[ih λy hy=>h y (by simp[hy]),u9 (h x (by simp))]
theorem RA{w:World}{K:l_}{k:Nat}(h2:k<w.heap.size):∀{W:World},k<W.heap.size->W.heap[k]?=w.heap[k]?->(RWs w K W).heap[k]?=w.heap[k]?:=by induction K with|nil=>intro W h1 h;exact h|cons x K ih=>intro W h1 h;refine ih (by rw[qO];exact h1) ?_;by_cases e:k=x.2.block;rw[<- e];exact yH h1 h2;rw[u9 e];exact h
theorem U0{w:World}{K:l_}{k:Nat}(h2:k<w.heap.size):∀{W:World},k<W.heap.size->(∃x∈K,k=x.2.block)->(RWs w K W).heap[k]?=w.heap[k]?:=by induction K with|nil=>simp_all|cons x K ih=>intro W h1 h;simp[RWs];have ⟨y,hy,e⟩:=h;rcases oMC.1 hy with rfl|hy;exact RA h2 (by rw[qO];exact h1) (by rw[e];rw[e]at h1 h2;exact yH h1 h2);exact ih (by rw[qO];exact h1) ⟨y,hy,e⟩
section
variable {P:Program} {M:Fm} {σ σ':St} {H:U_} {xs:w_} {ts:s_} {w:World} {G:Gh} {a:Act} {o:Oper}
theorem NX{p:gf}{t:TV}(h:(wv p t).run σ=some ((),σ')){r:Nat}(hr:r≠p.root)(o n:Nat):lz σ'.v r o n=lz σ.v r o n:=by
 unfold wv at h;simp only[SP.run]at h;have bump:∀{vr:m_},σ'.vr=vr->(∀q,nw vr q=nw σ.vr q+if(p.root,p.off,p.hops.length+1)=q then 1 else 0)->lz σ'.v r o n=lz σ.v r o n:=by
  intro vr e hv;have YD:∀q,σ'.v q=σ.v q+if(p.root,p.off,p.hops.length+1)=q then 1 else 0:=λq=>by unfold St.v;rw[e];exact hv q
  rw[nB];have hne:∀o' d,((p.root,p.off,p.hops.length+1):Key)≠(r,o',d):=λo' d e=>by simp_all
  simp_all
 cases hg:gE (σ.c p.root p.off) p.hops with
 |none=>simp[hg,SP.run]at h|some old=>
 simp only[hg]at h;split at h;split at h;obtain⟨l,hl,ho,h3⟩:=gG h;simp only[SP.run,oSJ,oPJ,true_and]at h3;exact bump (vr:=tA σ.vr (p.root,p.off,p.hops.length+1)) (by rw[<- h3]) λq=>jn _ _ _;simp[SP.run]at h;obtain⟨l,hl,ho,h3⟩:=gG h;simp only[SP.run,oSJ,oPJ,true_and]at h3;have hv:σ'.v=σ.v:=by rw[<- h3];rfl
 rw[hv]
theorem N3:∀{l:U_}{p:gf}{σ σ':St},(putL p l).run σ=some ((),σ')->∀{r:Nat},r≠p.root->∀o n,lz σ'.v r o n=lz σ.v r o n:=by intro l;induction l with|nil=>intro p σ σ' h r hr o n;simp[putL,SP.run]at h;rw[h]|cons t l ih=>intro p σ σ' h r hr o n;have ⟨_,σ1,h1,h2⟩:=fN h;rw[<- NX h1 hr o n];cases l with|nil=>simp[SP.run]at h2;rw[h2]|cons t2 l=>simp only at h2;split at h2;exact ih h2 (by rw[iy];exact hr) o n;simp[SP.run]at h2
theorem G9:∀{q:List (GP×U_)}{σ σ':St},(putBack q).run σ=some ((),σ')->∀{r:Nat},(∀x∈q,r≠x.1.p.root)->∀o n,lz σ'.v r o n=lz σ.v r o n:=by intro q;induction q with|nil=>intro σ σ' h r hr o n;simp[putBack,SP.run]at h;rw[h]|cons x q ih=>intro σ σ' h r hr o n;have ⟨g,l⟩:=x;have ⟨_,σ1,h1,h2⟩:=fN h;split at h2;rw[N3 h2 (hr (g,l) (by simp)) o n];exact ih h1 (λx hx=>hr x (by simp[hx])) o n;simp[SP.run]at h2
def Seg(w W:World)(x:GP×Addr)(vs:w_):Prop:=∃cur0 cur e fz,w.heap[x.2.block]?=some (.cells cur0 e fz)/\W.heap[x.2.block]?=some (.cells cur e fz)/\cur.size=cur0.size/\(∀j,(j<x.2.off\/x.2.off+vs.length<=j)->cur[j]?=cur0[j]?)/\∀j (h:j<vs.length),cur[x.2.off+j]?=some vs[j]
theorem LW{f:GP×Addr->U_}{v:GP×Addr->w_}(hfv:∀x,(f x).length=(v x).length):∀{K:l_}{σ σ':St}{H0:U_}{x0:w_}{W:World}{G:Gh},H0.length=x0.length ->Inv M σ (H0++K.flatMap f) (x0++K.flatMap v) ts (RWs w K W) G->(∀x∈K,Seg w W x (v x))->(∀x∈K,f x≠[])->(∀x∈K,∀y∈K,x.2.block=y.2.block->x=y)->qR (K.map λx=>x.1.p.root)=true ->(∀x∈K,x.1.p.root≠1/\G.addr (RWs w K W) x.1.p=some x.2/\∃t,gE (gy M σ (H0++K.flatMap f) x.1.p.root x.1.p.off) x.1.p.hops=some t)->(putBack (K.map λx=>(x.1,f x))).run σ=some ((),σ')->∃G',Inv M σ' H0 x0 ts W G'/\σ'.tm=σ.tm/\nA M (RWs w K W) σ (H0++K.flatMap f) G W σ' H0 G'/\G'.β=G.β:=by
 intro K;induction K with
 |nil=>intro σ σ' H0 x0 W G qN hI _ _ _ _ _ hr;simp only[List.map_nil,putBack,SP.run,oSJ,oPJ,true_and]at hr;subst hr;have hI:Inv M σ (H0++[]) (x0++[]) ts W G:=hI;rw[List.append_nil,List.append_nil]at hI;refine⟨G,hI,rfl,?_,rfl⟩;show nA M W σ (H0++[]) G W σ H0 G;rw[List.append_nil];exact nA.refl _ _ _ _ _|cons x K ih=>
 intro σ σ' H0 x0 W G qN hI hseg hne hinj Zn Z4 hr;simp only[oPC,putBack]at hr;obtain⟨_,σ1,h1,h2⟩:=fN hr;split at h2;case isFalse=>simp[SP.run]at h2
 rename_i YN;simp at YN;simp only[oPC,qR,oBA,Bool.not_eq_true',List.contains_eq_mem,decide_eq_false_iff_not]at Zn;have hxK:∀y∈K,y.1.p.root≠x.1.p.root:=λy hy e=>Zn.1 (by rw[<- e];exact List.mem_map.2 ⟨y,hy,rfl⟩);have hbK:∀y∈K,x.2.block≠y.2.block:=λy hy e=>by have:=hinj x (by simp) y (by simp[hy]) e;exact hxK y hy (by rw[this])
 have Zw:Inv M σ ((H0++f x)++K.flatMap f) ((x0++v x)++K.flatMap v) ts (RWs w K (ko w W x.2.block)) G:=by simpa[RWs,List.append_assoc]using hI
 obtain⟨G1,hI1,htm1,hm1,hβ1⟩:=ih (W:=ko w W x.2.block) (by simp[qN,hfv]) Zw (λy hy=>by
  obtain⟨cur0,cur,e,fz,s1,s2,s3⟩:=hseg y (by simp[hy]);exact⟨cur0,cur,e,fz,s1,by rw[u9 (Ne.symm (hbK y hy))];exact s2,s3⟩) (λy hy=>hne y (by simp[hy])) (λy hy z hz=>hinj y (by simp[hy]) z (by simp[hz])) Zn.2
  (λy hy=>by have:=Z4 y (by simp[hy]);simpa[RWs,List.append_assoc]using this) h1
 obtain⟨Z6,ha,t0,Z3⟩:=Z4 x (by simp);have Xz:=G9 h1 (r:=x.1.p.root) (λy hy=>by obtain⟨z,hz,rfl⟩:=List.mem_map.1 hy;exact Ne.symm (hxK z hz)) x.1.p.off x.1.p.hops.length;obtain⟨t1,YF,hget1⟩:=hm1.keeps.ptr x.1.p x.2 t0 Z6 Xz (by simpa[RWs]using ha) (by simpa[List.append_assoc]using Z3);have XZ:(H0++f x).drop H0.length=f x:=by simp
 obtain⟨_,G2,H2,ZN,e1,e2,e3,e4,e5,e6⟩:=N4 (k:=H0.length) hI1 Z6 YF XZ (hne x (by simp)) (λj hj hk=>by
  intro e;have ZO:j-H0.length<(f x).length:=by simp at hj;omega
  have:(H0++f x)[j]=(f x)[j-H0.length]:=by rw[List.getElem_append_right hk]
  rw[this]at e;have:=YN.2 _ (oGX ZO);rw[e]at this;simp[KY]at this) h2
 obtain⟨cur0,cur,e,fz,s1,s2,s3,s4,s5⟩:=hseg x (by simp);have hxd:(x0++v x).drop H0.length=v x:=by rw[qN];simp
 rw[hxd,An s1 s2 s3 s4 s5]at ZN e5;obtain⟨Wu,e7⟩:=ZN.trunc (k:=H0.length) e2;have hT:H2.take H0.length=H0:=by apply List.ext_getElem;simp[e1];intro j hj ZO;rw[List.getElem_take];rw[e3 j (by rw[e1];simp;omega) (by simp;omega) ZO];rw[List.getElem_append_left ZO]
 have hX:(x0++v x).take H0.length=x0:=by rw[qN];simp
 rw[hT]at Wu e7;rw[hX]at Wu;refine⟨G2,Wu,e4.trans htm1,?_,e6.trans hβ1⟩;have hm2:nA M (ko w W x.2.block) σ1 (H0++f x) G1 W σ' H0 G2:=⟨e5.size,by rw[e7];exact e5.keeps,e5.heap,e5.free⟩;have:=hm1.trans hm2;simpa[RWs,List.append_assoc]using this
end
section
variable {P:Program} {M:Fm} {σ σ':St} {H:U_} {xs:w_} {ts:s_} {w:World} {G:Gh} {t:TV} {x:Value}
theorem Inv.reT(hI:Inv M σ H xs ts w G){k:Nat}(h:TmR w (G.F M.A) σ.v (gy M σ H) G t (ts.getD k undef)):Inv M { σ with tm:=iJ σ.tm k t } H xs ts w G:=by
 refine⟨hI.core,λi=>?_,hI.fram,hI.keys,hI.size,hI.hand,hI.hval,hI.shape,hI.kept,hI.gn⟩;have e:St.t { σ with tm:=iJ σ.tm k t } i=if k=i then t else σ.t i:=by unfold St.t;simp[gN];split<;>rfl
 rw[e];split;rename_i h1;subst h1;exact h;exact hI.tmr i
theorem xE{r o:Nat}:gy M σ H r o=if r=M.hr/\o=H.length then .dead else gy M σ (H++[t]) r o:=by unfold gy;by_cases hr:r=M.hr;simp;grind;simp[hr]
theorem OT(hI:Inv M σ (H++[t]) (xs++[x]) ts w G):H.length=xs.length/\(∀j,j<xs.length->G.η M.hr j=xs.getD j undef)/\G.η M.hr H.length=x:=by
 have hl:H.length=xs.length:=by have:=hI.hand;simpa using this
 refine⟨hl,λj hj=>?_,?_⟩;rw[hI.hval j (by simp;omega)];simp[oAL hj];rw[hI.hval H.length (by simp_all)];simp_all
theorem Inv.dropLast(hI:Inv M σ (H++[t]) (xs++[x]) ts w G):∃G',Inv M σ H xs ts w G'/\G'.β=G.β:=by
 obtain⟨hl,Ws,_⟩:=OT hI;let G':Gh:=⟨G.β,G.η,λr' o k=>if r'=M.hr/\o=H.length then False else G.φ r' o k⟩;have Z7:∀r' o k,G'.φ r' o k->G.φ r' o k:=by intro r' o k hk;simp[G']at hk;simp_all
 have Ys:=nO.ghost (C':=gy M σ H) (G':=G') hI.core rfl (λk ⟨r',o,h⟩=>⟨r',o,Z7 r' o k h⟩) (λr1 o1 r2 o2 k h1 h2=>hI.core.dis _ _ _ _ k (Z7 _ _ k h1) (Z7 _ _ k h2))
  (λr' b o0 n hb o ho=>by
   rw[xE ];split
   ·rfl
   ·exact hI.core.boxc r' b o0 n hb o ho)
  (λr' o=>by
   by_cases e1:r'=M.hr/\o=H.length
   ·right;left;exact⟨by rw[xE (t:=t),oIP e1],λk hk=>by simp[G',e1]at hk⟩
   ·left;exact⟨by rw[xE ,oIN e1],λk=>by simp[G',e1],rfl⟩)
 have hk:kZ w w σ.v σ.v (gy M σ (H++[t])) (gy M σ H) G G':=by
  have hne:∀r o,r≠1->gy M σ H r o=gy M σ (H++[t]) r o:=λr o h=>by rw[xE ,oIN λe=>h e.1]
  exact⟨λ_=>oLE _,λp ad t1 Z6 _ h1 h2=>⟨t1,of h1 rfl λ_=>rfl,by simp_all⟩,λp h c Z6 _ h1 h2=>⟨c,h1,by simp_all,rfl⟩⟩
 exact⟨G',⟨Ys.1,λi=>(hI.tmr i).keep hk (λ_ _ _=>rfl) (λk h _=>Ys.2 k h),hI.fram.ghost rfl (λk ⟨r',o,h⟩=>⟨r',o,Z7 r' o k h⟩),hI.keys,hI.size,hl,Ws,hI.shape,hI.kept,hI.gn.keep hk (λ_ _ _=>rfl) (λk h _=>Ys.2 k h)⟩,rfl⟩
theorem Mg(_:Inv M σ [] [] ts w G):∀{z:c_}{asq:w_}{σ':St},z.length=asq.length->(∀j (h:j<z.length)(h':j<asq.length),TmR w (G.F M.A) σ.v (gy M σ []) G z[j].2 asq[j])->(lendChk z).run σ=some ((),σ')->σ'=σ/\∀i k,Oz z i=some k->∃y,asq[i]?=some y/\y=ts.getD k undef/\∀v,k≠1000000->M.kp k=some v->y=v:=by intro z asq σ' _ _ hr;simp[lendChk,SP.run]at hr;exact⟨hr.symm,λi k h=>by cases h⟩
theorem J0{z:c_}{ks:N_}:∀{ow:q_}{rs:o_}{xv:w_}{σ σ':St}{G:Gh},xv.length=ow.length->(∀j (h:j<ow.length) k,Oz z ow[j].1=some k->1000000+ow[j].1∈ks->ow[j].1≠1000000->xv.getD j undef=ts.getD k undef/\∀v,k≠1000000->M.kp k=some v->xv.getD j undef=v)->Inv M σ (H++(rs.take ow.length).map λl=>l.getD 0 .dead) (xs++xv) ts w G->(giveBack z ks ow rs).run σ=some ((),σ')->∃G',Inv M σ' H xs ts w G'/\G'.β=G.β:=by intro ow;induction ow generalizing H xs with|nil=>intro rs xv σ σ' G hl _ hI hr;obtain rfl:xv=[]:=oEN (by simpa using hl);simp only[giveBack,SP.run,oSJ,oPJ,true_and]at hr;subst hr;simp at hI;exact⟨G,hI,rfl⟩|cons o ow ih=>intro rs xv σ σ' G hl hx hI hr;cases rs with|nil=>simp[giveBack,SP.run]at hr|cons y rs=>cases xv with|nil=>simp at hl|cons x0 xv=>simp only[oLC,List.take_succ_cons,oPC]at hI;rw[show H++(y.getD 0 .dead::(rs.take ow.length).map λl=>l.getD 0 .dead)=(H++[y.getD 0 .dead])++(rs.take ow.length).map λl=>l.getD 0 .dead by simp,show xs++x0::xv=(xs++[x0])++xv by simp]at hI;obtain⟨G1,hI1,hβ1⟩:=ih (H:=H++[y.getD 0 .dead]) (xs:=xs++[x0]) (by simpa using hl) (λj h k hk hm hne=>by have:=hx (j+1) (by simpa using h) k (by simpa using hk) (by simpa using hm) (by simp_all);simpa using this) hI hr;obtain⟨G2,ZN,hβ2⟩:=hI1.dropLast;exact⟨G2,ZN,hβ2.trans hβ1⟩
end
def tz(P:Program)(f:FuncId):Prop:=∀args w,(callFunc f args).run P w=.ok (.enter f args) w
theorem II{P:Program}{f:FuncId}{fn:Func}{c:Code}(hf:P.funcs[f]?=some fn)(hname:(fn.name== "runtime.NumGoroutine")=false)(hb:fn.body=some c):tz P f:=by intro args w;unfold callFunc;simp_all
def Vi(M:Fm)(res:Lp)(v:Value)(σ2:St)(w2:World):Prop:=
 (∃ys ts2 G2,v=p6 res.sh ys/\Inv M σ2 res.cells ys ts2 w2 G2/\∀j (h:j<res.cells.length),is res.cells[j]=true\/nM res.cells[j]=true)\/
 ∃q vs l pv ts2 G2,res.cells=.ptr q vs::l/\(∃sh,res.sh=.ptr::sh)/\l.all Fg=true/\v=DQ pv (l.map unV)/\Inv M σ2 [] [] ts2 w2 G2/\U1 w2 (gy M σ2 []) G2 q pv
def nu(P:Program)(F:iz):Prop:=
 ∀f vals pts res Zs,F f vals pts=some (res,Zs)->tz P f/\∃(N:Nat)(ks:N_)(kq:p_),vals.length<=N/\∀(M:Fm)(asq:w_)(w:World)(G:Gh),asq.length=vals.length->M.N=N->M.w0=w->(∀r,M.pr r≠none->∃i p vs,vals[i]?=some (.ptr p vs)/\r=2*i+2)->(∀i,M.kp i≠none->i∈ks)->(∀r o,M.kc r o≠none->(r,o)∈kq)->
  Inv M (CE kq vals pts) [] [] (asq.toArray++Array.replicate (N-asq.length) undef) w G ->
  Calls P f asq.toArray w λe w2=>∃v σ2,e=.returned v/\Vi M res v σ2 w2/\Zs=(pts.map λx=>(x.1,(gD σ2.ce x.1).getD []))++((ks.map λk=>(1000000+k,[]))++kcE kq σ2)
def GC(P:Program)(E:Env):Prop:=
 ∀f n tm,E.box f=some (n,tm)->tz P f/\(∀x,.val x∈tm->kn x=true)/\∃ty,∀(asq:w_)(w:World),asq.length=n->(∀y∈tm.map (bxV asq),y.oneCell'=true)->
  Calls P f asq.toArray w λe w'=>e=.returned (.pointer (some ⟨w.heap.size,0,none⟩))/\w'=w.alloc (.cells (tm.map (bxV asq)).toArray ty)
def I2(P:Program)(E:Env):Prop:=GC P E
theorem Rl{P:Program}{E:Env}(h:GC P E):I2 P E:=h
theorem I2.box{P:Program}{E:Env}(h:I2 P E):GC P E:=h
def ui:Op->TOp->Prop|.call ⟨.value f,args,_⟩,.call _ f' args'=>fZ f=some f'/\args'.length=args.size/\∀j (h:j<args'.length)(h':j<args.size),fZ args[j]=some args'[j].2|_,_=>False
def Tz:TOp:=.call false (.c undef) []
def lp(op:Op)(t:TOp):Prop:=t=Tz\/ui op t
section
variable {P:Program} {M:Fm} {σ σ':St} {H:U_} {xs:w_} {ts:s_} {w:World} {G:Gh} {a:Act} {o:Oper}
theorem IV:∀{l:U_}{i:Nat},(argTs i l).length=l.length:=by intro l;induction l with|nil=>intro i;rfl|cons t l ih=>intro i;simp[argTs,ih]
theorem Nz{F:Nat->Prop}{V:Vs}{C:Cs}:∀{sh:P_}{l:U_}{ys:w_},tF sh l.length=true->l.length=ys.length->(∀j (h:j<l.length),TmR w F V C G l[j] (ys.getD j undef))->(mp sh l).length=(jA sh ys).length/\∀j (h:j<(mp sh l).length),TmR w F V C G (mp sh l)[j] ((jA sh ys).getD j undef):=by
 intro sh;induction sh with
 |nil=>intro l ys _ _ _;exact⟨rfl,λj h=>by simp[mp]at h⟩|cons s sh ih=>
 intro l ys hs hl ht;cases s with
 |one=>
 simp only[tF,oBA,oDE]at hs;cases l with
  |nil=>simp at hs|cons t l=>
  cases ys with
  |nil=>simp at hl|cons y ys=>
  obtain⟨e,h2⟩:=ih (l:=l) (ys:=ys) (by simpa using hs.2) (by simpa using hl) λj h=>by have:=ht (j+1) (by simpa using h);simpa using this
  refine⟨by simp[mp,jA,e],λj h=>?_⟩;cases j with|zero=>have:=ht 0 (by simp);simpa[mp,jA]using this|succ j=>have:=h2 j (by simpa[mp]using h);simpa[mp,jA]using this
 |agg n=>
 simp only[tF,oBA,oDE]at hs;obtain⟨e,h2⟩:=ih (l:=l.drop n) (ys:=ys.drop n) (by simp_all) (by simp[hl]) λj h=>by
  have h':n+j<l.length:=by simp at h;omega
  simp_all
 refine⟨by simp[mp,jA,e],λj h=>?_⟩;cases j with
  |zero=>
  refine .agg (by simp;omega) λj hj=>?_;have ZO:j<n/\j<l.length:=by simp at hj;omega
  simp_all
  |succ j=>have:=h2 j (by simpa[mp]using h);simpa[mp,jA]using this
 |ptr=>simp[tF]at hs
theorem GU{F:Nat->Prop}{V:Vs}{C:Cs}{sh:P_}{l:U_}{ys:w_}(hs:tF sh l.length=true)(hl:l.length=ys.length)(ht:∀j (h:j<l.length),TmR w F V C G l[j] (ys.getD j undef)):TmR w F V C G (vB sh l) (p6 sh ys):=by
 obtain⟨e,h2⟩:=Nz hs hl ht;by_cases h1:∃x,mp sh l=[x];have ⟨x,hx⟩:=h1;have ⟨y,hy⟩:∃y,jA sh ys=[y]:=List.length_eq_one_iff.1 (by simp_all);have e1:vB sh l=x:=by unfold vB;rw[hx]
 have e2:p6 sh ys=y:=by unfold p6;rw[hy]
 simp_all;have hne:¬ ∃y,jA sh ys=[y]:=λ⟨y,hy⟩=>h1 (List.length_eq_one_iff.1 (by simp_all));have e1:vB sh l=TV.tup (mp sh l):=by unfold vB;simp_all
 have e2:p6 sh ys=Value.tuple (jA sh ys).toArray:=by unfold p6;simp_all
 rw[e1,e2];refine .tup (by simp[e]) λj hj=>?_;have:=h2 j hj;simp_all
theorem OC{res:Lp}{ys:w_}(hI:Inv M σ res.cells ys ts w G)(hok:∀j (h:j<res.cells.length),is res.cells[j]=true\/nM res.cells[j]=true)(hs:tF res.sh res.cells.length=true) {dst:x_}(hd:∀d,dst=some d->M.ok d)(hr:(landR dst res).run σ=some ((),σ')):∃G',Inv M σ' [] [] (match dst with|some d=>ts.setIfInBounds d (p6 res.sh ys)|none=>ts) w G':=by cases dst with|none=>simp[landR,SP.run]at hr;subst hr;have ⟨G',hg,_⟩:=hI.drop;exact⟨G',hg.1⟩|some d=>have ⟨l,σ1,h1,h2⟩:=fN hr;have ⟨G1,hI1,_,hl,ht⟩:=AL (λ_=>(hd d rfl).2) hI hok h1;simp[wr,SP.run]at h2;subst h2;exact⟨G1,hI1.wrT (hd d rfl) (GU (by simp_all) (by rw[hl];exact hI.hand) ht)⟩
end
def frM(w:World)(N:Nat):Fm:={ w0:=w,A:=λ_=>True,W0:=λ_=>False,pr:=λ_=>none,N:=N,hA:=λ_ _=>trivial }
def frG:Gh:=⟨λ_=>none,λ_ _=>undef,λ_ _ _=>False⟩
theorem Hh(l:U_):∀i k,gD (jf i l) k=if k<i then none else l[k-i]?:=by induction l with|nil=>intro i k;simp[jf,gD]|cons t l ih=>simp[jf,gD];grind
def GA(w:World)(t:TV)(x:Value):Prop:=∀F V C G,(∀k,F k)->TmR w F V C G t x
theorem ru.plain{w:World}{F:Nat->Prop}{t:TV}{x:Value}(h:ru w F t x):GA w t x:=λ_ _ _ _ hF=>(h.frame (λ_ _ _=>rfl) λk _ _=>hF k).toTm
theorem Hb{kq:p_}{vals:U_}{avs:w_}{w:World}{N:Nat}(hl:avs.length=vals.length)(hN:vals.length<=N)(hv:∀j (h:j<vals.length)(h':j<avs.length),GA w vals[j] avs[j]):Inv (frM w N) (CE kq vals []) [] [] (avs.toArray++Array.replicate (N-avs.length) undef) w frG:=by
 have Ze:∀k,frG.F (frM w N).A k:=λk=>⟨trivial,λ_ _ h=>h,λ_ _ _ _ h=>by simp[frG]at h⟩;have hst:∀i,(CE kq vals []).t i=vals.getD i .dead:=by simp[St.t,CE,Hh]
 have hE:∀r o,gy (frM w N) (CE kq vals []) [] r o=.dead:=by intro r o;unfold gy;split;simp;rfl
 refine⟨⟨λr o=>.inl ⟨hE r o,λ_ h=>h⟩,λ_ _ _ _ h=>by simp[frG]at h,λ_ _ _ _ h=>by simp_all,λ_ _ _ _ _ _ _ h=>by simp[frG]at h,λ_ _ _ _ h=>by simp[frG]at h,λ_ _ _ _ _ h=>h.elim,λ_ _ _ h=>h.elim⟩,λi=>?_,⟨rfl,rfl,rfl,oLE _,λ_ _ _ _=>rfl,λ_ _ _ _ h=>by simp[frM]at h,λ_ _ _ h=>h.elim,λ_ _ _ _ h=>by simp[frG]at h,λ_ h=>by simp[frG]at h⟩,λr l h=>by simp[CE,gD]at h,?_,rfl,λj hj=>by simp at hj,λ_ _ _ _ h=>by simp[frG]at h,λ_ _ _ h=>by simp[frM]at h,λ_ _ _ h=>by simp[frM]at h⟩;rw[hst];by_cases hi:i<vals.length;have Zk:i<avs.length:=by omega
 have e1:vals.getD i .dead=vals[i]:=by simp[hi]
 have e2:(avs.toArray++Array.replicate (N-avs.length) undef).getD i undef=avs[i]:=by simp[Array.getElem?_append,Zk]
 rw[e1,e2];exact hv i hi Zk _ _ _ frG Ze;have e1:vals.getD i .dead=.dead:=by rw[oGD,oGN (by omega)];rfl
 rw[e1];exact .dead;show(avs.toArray++Array.replicate (N-avs.length) undef).size=N;simp_all
theorem calls_flat{P:Program}{F:iz}(hF:nu P F){f:FuncId}{vals:U_}{avs:w_}{res:Lp}{w:World}(h:F f vals []=some (res,[]))(ZE:res.cells.all Fg=true)(hl:avs.length=vals.length) (hv:∀j (h:j<vals.length)(h':j<avs.length),GA w vals[j] avs[j]):tz P f/\Calls P f avs.toArray w λe w'=>e=.returned (p6 res.sh (res.cells.map unV))/\Below w.heap.size w w':=by
 obtain⟨Y1,N,ks,kq,hN,hc⟩:=hF f vals [] _ _ h;refine⟨Y1,?_⟩;have hI:=Hb (kq:=kq) hl hN hv;refine(hc (frM w N) avs w frG hl rfl rfl (λr hr=>by simp[frM]at hr) (λi hi=>by simp[frM]at hi) (λr o hi=>by simp[frM]at hi) hI).mono λe w2 ⟨v,σ2,he,Yl,_⟩=>?_;rcases Yl with⟨ys,ts2,G2,rfl,ZN,_⟩|⟨q,vs,l,pv,ts2,G2,ZW,_⟩;rotate_left
 rw[ZW]at ZE;simp[Fg]at ZE;have hys:ys=res.cells.map unV:=by
  have hlen:=ZN.hand;apply List.ext_getElem;rw[oLP,hlen];intro j h1 h2;have hj:j<res.cells.length:=by omega
  have WX:=oAE.1 ZE res.cells[j] (oGX hj);have hown:=ZN.hand_own hj (by intro e;rw[e]at WX;simp[Fg]at WX);rw[List.getElem_map];have e1:ys.getD j undef=ys[j]:=by simp[h1]
  rw[e1]at hown;cases hc:res.cells[j]with
  |v x=>rw[hc]at hown;cases hown with|v _ _=>rfl
  |_=>rw[hc]at WX;simp[Fg]at WX
 subst hys;exact⟨he,⟨ZN.fram.os,ZN.fram.tape,ZN.fram.output,ZN.fram.size,λk hk=>ZN.fram.old k hk (λh=>h) λ_ _ _ _ h=>by simp[frM]at h⟩⟩
theorem IL:∀{l:U_},y8 l=true->∀j (h:j<l.length),MC l[j]=true|t::r,h,0,_=>by simp only[y8,oBA]at h;exact h.1|t::r,h,j+1,hj=>by simp only[y8,oBA]at h;exact IL h.2 j (by simpa using hj)
theorem D5:∀{l:o_},zI l=true->∀i (h:i<l.length),y8 l[i]=true|t::r,h,0,_=>by simp only[zI,oBA]at h;exact h.1|t::r,h,j+1,hj=>by simp only[zI,oBA]at h;exact D5 h.2 j (by simpa using hj)
theorem jD.noF{w:World}{F fp:Nat->Prop}{t:TV}{x:Value}(h:jD w F fp t x)(F':Nat->Prop):MC t=true->jD w F' fp t x:=by induction h with|v hfp h=>intro _;exact .v hfp h|dead hfp h=>intro hd;simp[MC]at hd|sl hfp h=>intro hd;simp[MC]at hd|nil hfp=>intro _;exact .nil hfp|ow sz u f hfp hb hsz hcap hz0 hmax hcur hcell hrec hnb hdis ih=>intro hd;exact .ow sz u f hfp hb hsz hcap hz0 hmax hcur hcell (λi j h h'=>ih i j h h' (IL (D5 hd i h) j h')) hnb hdis
theorem Ph{P:Program}{F:iz}(hF:nu P F){f:FuncId}{vals:U_}{avs:w_}{res:Lp}{w:World}(h:F f vals []=some (res,[]))(ZE:res.cells.all MC=true)(hl:avs.length=vals.length) (hv:∀j (h:j<vals.length)(h':j<avs.length),GA w vals[j] avs[j]):tz P f/\Calls P f avs.toArray w λe w'=>∃(ys:w_)(φ:Nat->Nat->Prop),e=.returned (p6 res.sh ys)/\res.cells.length=ys.length/\Below w.heap.size w w' /\(∀j k,φ j k->j<res.cells.length/\w.heap.size<=k)/\(∀j j' k,φ j k->φ j' k->j=j')/\(∀j (h:j<res.cells.length),jD w' (λ_=>False) (φ j) res.cells[j] (ys.getD j undef))/\∀j (h:j<res.cells.length),is res.cells[j]=true\/nM res.cells[j]=true:=by
 have ⟨Y1,N,ks,kq,hN,hc⟩:=hF f vals [] _ _ h;refine⟨Y1,?_⟩;have hI:=Hb (kq:=kq) hl hN hv;refine(hc (frM w N) avs w frG hl rfl rfl (λr hr=>by simp[frM]at hr) (λi hi=>by simp[frM]at hi) (λr o hi=>by simp[frM]at hi) hI).mono λe w2 ⟨v,σ2,he,Yl,_⟩=>?_;rcases Yl with⟨ys,ts2,G2,rfl,ZN,hok⟩|⟨q,vs,l,pv,ts2,G2,ZW,_⟩;rotate_left
 rw[ZW]at ZE;simp[MC]at ZE;refine⟨ys,λj k=>j<res.cells.length/\G2.φ 1 j k,he,ZN.hand,⟨ZN.fram.os,ZN.fram.tape,ZN.fram.output,ZN.fram.size,λk hk=>ZN.fram.old k hk (λh=>h) λ_ _ _ _ h=>by simp[frM]at h⟩,λj k hk=>⟨hk.1,(ZN.fram.own _ _ _ hk.2).resolve_left λh=>h⟩,λj j' k h h'=>(ZN.core.dis _ _ _ _ k h.2 h'.2).2,λj hj=>?_,hok⟩;have hd:=oAE.1 ZE res.cells[j] (oGX hj);have hown:=ZN.hand_own hj (by intro e;rw[e]at hd;simp[MC]at hd);exact(hown.refp λk=>⟨λh=>⟨hj,h⟩,λh=>h.2⟩).noF _ hd
section
variable {P:Program} {M:Fm} {σ σ':St} {H:U_} {xs:w_} {ts:s_} {w:World} {G:Gh} {a:Act} {o:Oper}
theorem NF{t t':TV}{x:Value}(hI:Inv M σ H xs ts w G)(hx:TmR w (G.F M.A) σ.v (gy M σ H) G t x)(hr:(see1 t).run σ=some (t',σ')):σ'=σ/\ru w (λ_=>True) t' x:=by
 cases hx with
 |v h=>obtain⟨rfl,rfl⟩:=hr;exact⟨rfl,.v h⟩|nil=>obtain⟨rfl,rfl⟩:=hr;exact⟨rfl,.sl 1 (λ_ _=>.nilFunc) (λi h=>by simp at h) (oLE _) (Nat.zero_le _) (λ_=>rfl) (λi j h=>by simp at h) (λi j h=>by simp at h)⟩|sl h=>obtain⟨rfl,rfl⟩:=hr;exact⟨rfl,h.frame (λ_ _ _=>rfl) λ_ _ _=>trivial⟩|dead=>simp[see1,SP.run]at hr|ptr=>simp[see1,SP.run]at hr|ip=>simp[see1,SP.run]at hr|agg=>simp[see1,SP.run]at hr|tup=>simp[see1,SP.run]at hr|fn=>simp[see1,SP.run]at hr|pw=>simp[see1,SP.run]at hr| @pk p vs x V0 h0 hv hok=>
 obtain⟨_,σ1,h1,h2⟩:=fN hr;have e1:=(gt h1).1;have e2:=(gt h1).2;subst e1;obtain⟨_,c,Zy,Z3⟩:=hok e2;simp[SP.run]at h2;have Z5:p.root≠M.hr:=by intro e;rw[e]at h2;rw[hI.hr_dead]at h2;cases hp:p.hops<;>rw[hp]at h2<;>simp[gE,SP.run]at h2
 have ⟨u,fp,h4,h5,_⟩:=hI.core.hv_own p Z3 (by simp);rw[gv Z5]at Z3;rw[Z3]at h2;obtain⟨rfl,rfl⟩:=h2;rw[Zy]at h4;injection h4 with h4
 subst h4;exact⟨rfl,h5.share'.frame (λ_ _ _=>rfl) λ_ _ _=>trivial⟩
theorem SO:∀{l l':U_}{ys:w_},Inv M σ H xs ts w G->l.length=ys.length->(∀j (h:j<l.length),TmR w (G.F M.A) σ.v (gy M σ H) G l[j] (ys.getD j undef))->(seeL l).run σ=some (l',σ')->σ'=σ/\l'.length=l.length/\∀j (h:j<l'.length),ru w (λ_=>True) l'[j] (ys.getD j undef):=by intro l;induction l generalizing σ σ' with|nil=>intro l' ys hI hl _ hr;simp only[seeL,SP.run,oSJ,oPJ]at hr;simp_all|cons t l ih=>intro l' ys hI hl ht hr;cases ys with|nil=>simp at hl|cons y ys=>have ⟨t',σ1,h1,h2⟩:=fN hr;have ⟨r',σ2,h3,h4⟩:=fN h2;obtain⟨rfl,rfl⟩:=h4;obtain⟨rfl,k1⟩:=NF hI (by have:=ht 0 (by simp);simpa using this) h1;obtain⟨rfl,k2,k3⟩:=ih hI (by simpa using hl) (λj h=>by have:=ht (j+1) (by simpa using h);simpa using this) h3;refine⟨rfl,by simp[k2],λj h=>?_⟩;cases j with|zero=>simp_all|succ j=>have:=k3 j (by simpa using h);simpa using this
theorem SQ{t t':TV}{x:Value}(hI:Inv M σ H xs ts w G)(hx:TmR w (G.F M.A) σ.v (gy M σ H) G t x)(hr:(seeA t).run σ=some (t',σ')):σ'=σ/\GA w t' x:=by
 have one:(see1 t).run σ=some (t',σ')->σ'=σ/\GA w t' x:=λh=>by have ⟨e,k⟩:=NF hI hx h;exact⟨e,k.plain⟩
 cases t with
 |agg l=>
 have ⟨l',σ1,h1,h2⟩:=fN hr;obtain⟨rfl,rfl⟩:=h2;cases hx with
  | @agg _ ys hl ht=>
  have ⟨e,k1,k2⟩:=SO (ys:=ys.toList) hI (by simp_all) (λj h=>by simp_all) h1;refine⟨e,λF V C G' hF=>.agg (by rw[hl,k1]) λj hj=>?_⟩;have:=k2 j hj;have e3:ys.getD j undef=ys.toList.getD j undef:=by simp_all
  rw[e3];exact this.plain F V C G' hF
 |ip cs=>obtain⟨rfl,rfl⟩:=hr;cases hx with|ip u hc hr=>exact⟨rfl,λF V C G' hF=>.ip u (λj hj=>⟨hF _,(hc j hj).2⟩) λj hj=>(hr j hj).frame (λ_ _ _=>rfl) λk _ _=>hF k⟩
 |fn f cap=>
 simp only[seeA]at hr;split at hr;rename_i hc;obtain⟨rfl,rfl⟩:=hr;rw[oAE]at hc;cases hx with|fn hl ht=>exact⟨rfl,λF V C G' hF=>.fn hl λj hj=>(((ht j hj).imC (hc _ (oGX hj))).frame (λ_ _ _=>rfl) λk _ _=>hF k).toTm⟩
 simp[SP.run]at hr
 |_=>exact one hr
theorem Qd:∀{l:O_}{l':List Operand}{ZY:U_}{σ σ':St},Inv M σ [] [] a.tmps w G->l'.length=l.length->(∀j (h:j<l.length)(h':j<l'.length),fZ l'[j]=some l[j])->(seeAs l).run σ=some (ZY,σ')->σ'=σ/\ZY.length=l.length/\∀j (h:j<ZY.length)(h':j<l'.length),GA w ZY[j] (a.eval l'[j]):=by intro l;induction l with|nil=>intro l' ZY σ σ' hI hl hc hr;simp[seeAs,SP.run]at hr;simp_all|cons x l ih=>intro l' ZY σ σ' hI hl hc hr;cases l' with|nil=>simp at hl|cons x' l'=>obtain⟨t,σ1,h1,h2⟩:=fN hr;obtain⟨t',σ2,h3,h4⟩:=fN h2;have ⟨r,σ3,h5,h6⟩:=fN h4;obtain⟨rfl,rfl⟩:=h6;obtain⟨rfl,ht⟩:=ij hI.tmr (by have:=hc 0 (by simp) (by simp);simpa using this) h1;obtain⟨rfl,k1⟩:=SQ hI ht h3;obtain⟨rfl,k2,k3⟩:=ih (l':=l') hI (by simpa using hl) (λj h h'=>by have:=hc (j+1) (by simpa using h) (by simp_all);simpa using this) h5;refine⟨rfl,by simp[k2],λj h h'=>?_⟩;cases j with|zero=>exact k1|succ j=>exact k3 j (by simpa using h) (by simp_all)
theorem Rk{F:iz}(hF:nu P F){asq:w_}{vals:U_}{YZ:FuncId}(hd:∀d,o.dst=some d->M.ok d/\M.pr (2*d+2)=none)(hI1:Inv M σ [] [] a.tmps w G)(hal:asq.length=vals.length) (XI:∀j (h:j<vals.length)(h':j<asq.length),GA w vals[j] asq[j]){fb:SP Unit}(hfb:fb.run σ=some ((),σ')->Ry P M σ' a o w)(h2:(callB F o.dst YZ vals fb).run σ=some ((),σ'))(YJ:tz P YZ->(execOp a.eval o).run P w=.ok (.enter YZ asq.toArray) w):Ry P M σ' a o w:=by
 intro K' Q hK;obtain⟨r,σ1,h3,h4⟩:=fN h2;have Xh:F YZ vals []=some r/\σ1=σ:=by cases hq:F YZ vals []with|none=>rw[hq]at h3;simp[qp,SP.run]at h3|some y=>rw[hq]at h3;simp only[qp,SP.run,oSJ,oPJ]at h3;simp_all
 obtain⟨Xh,rfl⟩:=Xh;split at h4;case isFalse=>
  split at h4
  case isFalse=>exact hfb h4 K' Q hK
  rename_i YN;simp only[oBA,oDE]at YN;obtain⟨res,Zs⟩:=r;obtain rfl:Zs=[]:=oEN YN.1.1;obtain⟨Y1,W2⟩:=Ph hF Xh YN.1.2 hal XI;unfold Oper.wp;rw[YJ Y1,Oper.upon_enter];refine W2.mono λe w2 ⟨ys,φ,he,hlen,hb,hf1,hf2,hown,hok⟩=>?_;subst he;simp only;obtain⟨G2,ZN,_⟩:=hI1.rehandL (w':=w2) (H':=res.cells) (xs':=ys) (f:=φ) (Fx:=λ_=>False) (λk hk _=>hb.block k hk) hb.size hb.os hb.tape hb.output hlen (λj k h=>⟨(hf1 j k h).1,.inr (hf1 j k h).2⟩) hf2 (λk h=>h.elim) (λj hj=>.inr (hown j hj));obtain⟨G5,XK⟩:=OC ZN hok YN.2 (dst:=o.dst) (λd Yw=>(hd d Yw).1) h4;refine hK (a.put o.dst (p6 res.sh ys)) w2 G5 ?_ (pN _ _ _)
  cases hdst:o.dst with
  |none=>rw[hdst]at XK;exact XK
  |some d=>rw[hdst]at XK;exact XK
 rename_i YN;simp only[oBA,oDE]at YN;obtain⟨res,Zs⟩:=r;obtain rfl:Zs=[]:=oEN YN.1.1;obtain⟨Y1,W2⟩:=calls_flat hF Xh YN.1.2 hal XI;unfold Oper.wp;rw[YJ Y1,Oper.upon_enter];refine W2.mono λe w2 ⟨he,hb⟩=>?_;subst he;simp only;have ZN:=(hI1.grow (w':=w2) (λk hk=>hb.block k hk) hb.size hb.os hb.tape hb.output).1;refine hK (a.put o.dst (p6 res.sh (res.cells.map unV))) w2 G ?_ (pN _ _ _);cases hdst:o.dst with
 |none=>rw[hdst]at h4;simp only[SP.run,oSJ,oPJ,true_and]at h4;rw[<- h4];exact ZN|some d=>
 rw[hdst]at h4;simp only[wr,SP.run,oSJ,oPJ,true_and]at h4;rw[<- h4];refine ZN.wrT (hd d hdst).1 (GU YN.2 (by simp) λj hj=>?_);have WX:=oAE.1 YN.1.2 res.cells[j] (oGX hj);have e1:(res.cells.map unV).getD j undef=unV res.cells[j]:=by simp[oGD,hj]
 rw[e1];cases hc:res.cells[j]with|v x=>rw[hc]at WX;exact .v WX|_=>rw[hc]at WX;simp[Fg]at WX
end
section
variable {P:Program} {M:Fm} {σ σ':St} {H:U_} {xs:w_} {ts:s_} {w:World} {G:Gh} {a:Act} {o:Oper}
theorem Jn:∀{q:List (GP×U_)}{σ σ':St},(putBack q).run σ=some ((),σ')->∀x∈q,x.2.length=x.1.cells.length:=by intro q;induction q with|nil=>simp_all|cons y q ih=>intro σ σ' h x hx;have ⟨_,σ1,h1,h2⟩:=fN h;split at h2;rename_i YN;rcases oMC.1 hx with rfl|hx;simp_all;exact ih h1 x hx;simp[SP.run]at h2
theorem yu.nodup{i:Nat}{vals:U_}{asq us:w_}{K:l_}(h:yu w i vals asq K us):qR (K.map λx=>x.1.i)=true/\∀x∈K,i<=x.1.i:=by
 induction h with
 |nil=>exact⟨rfl,λx hx=>by simp_all⟩|ptr hr hb hs h0 hh hu hc hok h ih=>refine⟨?_,λx hx=>?_⟩;simp only[oPC,qR,oBA,Bool.not_eq_true',List.contains_eq_mem,decide_eq_false_iff_not];refine⟨λhm=>?_,ih.1⟩;have ⟨y,hy,e⟩:=List.mem_map.1 hm;have:=ih.2 y hy;omega;rcases oMC.1 hx with rfl|hx;simp_all;have:=ih.2 x hx;omega
 |arg ha h ih=>exact⟨ih.1,λx hx=>by have:=ih.2 x hx;omega⟩|own h ih=>exact⟨ih.1,λx hx=>by have:=ih.2 x hx;omega⟩
theorem S2{K:l_}(Zn:qR (K.map λx=>x.1.i)=true):∀x∈K,prK K (2*x.1.i+2)=some (x.2.block,x.2.off,x.1.cells.length):=by induction K with|nil=>simp_all|cons y K ih=>intro x hx;simp only[oPC,qR,oBA,Bool.not_eq_true',List.contains_eq_mem,decide_eq_false_iff_not]at Zn;simp[prK];rcases oMC.1 hx with rfl|hx;simp;rw[oIN];exact ih Zn.2 x hx;intro e;exact Zn.1 (List.mem_map.2 ⟨x,hx,by omega⟩)
theorem K7{α β:Type}{K:l_}{f:GP×Addr->List α}{g:GP×Addr->List β}(h:∀x∈K,(f x).length=(g x).length):(K.flatMap f).length=(K.flatMap g).length:=by induction K with|nil=>rfl|cons x K ih=>simp_all
theorem GD{α β:Type}:∀{a:List α}{b c:List β},a.length<=b.length->a.zip (b++c)=a.zip b:=by intro a;induction a with|nil=>simp_all|cons x a ih=>intro b c h;cases b with|nil=>simp at h|cons y b=>simp_all
def yq(σ:St)(x:GP×Addr):U_:=(gD σ.ce (2*x.1.i+2)).getD []
def DD(σ:St)(G:Gh)(w:World)(x:GP×Addr):w_:=(List.range (yq σ x).length).map (G.val w (2*x.1.i+2))
def PB(σ:St)(ow:q_):U_:=ow.map λx=>σ.c (2*x.1+3) 0
def MV(w:World)(G:Gh)(ow:q_):w_:=ow.map λx=>G.val w (2*x.1+3) 0
def rtK(K:l_)(ow:q_)(r:Nat):x_:=match prK K r with
 |some x=>some x.2.2
 |none=>(owK ow r).map λ_=>1
def bsR(n:Nat)(K:l_)(ow:q_)(r:Nat):Nat:=match prK K r with
 |some _=>n+ow.length+bsK K r
 |none=>n+(owK ow r).getD 0
theorem yu.hands2{vals:U_}{asq us:w_}{K:l_}{ow:q_}{l0:c_}{zs:w_}{N:Nat}{kp:Nat->r_}{kc:Nat->Nat->r_}{σ2:St}{res ys:_}{ts2:s_}{w2:World}{G2:Gh}(h:yu w 0 vals asq K us)(hor:MR 0 l0 asq ow zs)(ZX:∀x∈K,0<x.1.cells.length) (h2:Inv (M.into w G (prK K) N kp kc) σ2 res ys ts2 w2 G2)(hlen:∀x∈K,(yq σ2 x).length=x.1.cells.length):R9 res ys (res++PB σ2 ow++K.flatMap (yq σ2)) (ys++MV w2 G2 ow++K.flatMap (DD σ2 G2 w2)) (gy (M.into w G (prK K) N kp kc) σ2 res) G2 w2 (rtK K ow) (bsR res.length K ow):=by
 have hlv:∀x∈K,(DD σ2 G2 w2 x).length=x.1.cells.length:=λx hx=>by simp[DD,hlen x hx]
 have hoc:(PB σ2 ow).length=ow.length:=by simp[PB]
 have hov:(MV w2 G2 ow).length=ow.length:=by simp[MV]
 have hand:=h2.hand;have kroot:∀{r b o n:Nat},prK K r=some (b,o,n)->∃m,r=2*m+2:=λhp=>by obtain⟨x,_,x2,_⟩:=m9 hp;exact⟨_,x2⟩
 have XC:∀{r j:Nat},owK ow r=some j->∃h:j<ow.length,r=2*ow[j].1+3:=λhp=>by obtain⟨h1,h2,_⟩:=so hp;exact⟨h1,h2⟩
 have split:∀{r n:Nat},rtK K ow r=some n->(∃b o,prK K r=some (b,o,n)/\bsR res.length K ow r=res.length+ow.length+bsK K r)\/(prK K r=none/\n=1/\∃j,owK ow r=some j/\bsR res.length K ow r=res.length+j):=by
  intro r n hr;unfold rtK at hr;unfold bsR;cases hp:prK K r with
  |some x=>
  obtain⟨b,o,m⟩:=x;rw[hp]at hr;injection hr with hr
  subst hr;exact .inl ⟨b,o,rfl,rfl⟩
  |none=>rw[hp]at hr;cases ho:owK ow r with|none=>rw[ho]at hr;simp at hr|some j=>rw[ho]at hr;simp only[oMS,oSJ]at hr;exact .inr ⟨rfl,hr.symm,j,rfl,rfl⟩
 refine⟨?_,λj hj=>⟨by simp;omega,?_,?_⟩,λr n hr=>?_,λj hj=>?_,λr n r' n' hr XT j j' hj ZO e=>?_⟩;rw[oLA,oLA,oLA,oLA,h2.hand,hoc,hov,K7 (f:=yq σ2) (g:=DD σ2 G2 w2) λx hx=>by rw[hlen x hx,hlv x hx]];rw[List.getElem_append_left (by simp;omega),List.getElem_append_left hj];rw[oGD,oGD,oAL (by simp;omega),oAL (by rw[<- h2.hand];exact hj)];rcases split hr with⟨b,o,hp,hb⟩|⟨_,rfl,j,ho,hb⟩;obtain⟨m,hm⟩:=kroot hp;refine⟨by omega,λt ht=>?_⟩;rw[hb];obtain⟨x,x1,x2,x3,x4,x5,x6,x7⟩:=ID hlen hp;obtain⟨y,y1,y2,y3,y4,y5,y6,y7⟩:=ID hlv hp;have Wt:x=y:=vf h.nodup.1 x1 y1 (by omega);subst Wt;have Yp:t<(yq σ2 x).length:=by rw[hlen x x1];omega
 have e1:=x7 t ht;rw[oGE Yp]at e1;obtain⟨k1,k2⟩:=oGS e1;refine⟨by rw[oLA,oLA,hoc];omega,by omega,?_,?_⟩;have e2:(res++PB σ2 ow++K.flatMap (yq σ2))[res.length+ow.length+bsK K r+t]'(by rw[oLA,oLA,hoc];omega)=(K.flatMap (yq σ2))[bsK K r+t]:=by rw[List.getElem_append_right (by rw[oLA,hoc];omega)];congr 1;rw[oLA,hoc];omega
 rw[e2,k2]
 rw[gv (by have:r≠1:=by omega
           exact this)]
 unfold St.c;have hbk:yq σ2 x=(gD σ2.ce r).getD []:=by rw[x2];rfl
 cases ha:gD σ2.ce r with|none=>rw[hbk,ha]at Yp;simp at Yp|some l=>simp only[hbk,ha,Option.getD_some]at Yp⊢;simp[Yp]
 have e3:=y7 t ht;rw[oGD,oAR (by rw[oLA,hov,<- h2.hand];omega)];rw[show res.length+ow.length+bsK K r+t-(ys++MV w2 G2 ow).length=bsK K r+t by rw[oLA,hov,<- h2.hand];omega];rw[e3,x2];simp[DD,Yp];obtain⟨hj,WD⟩:=XC ho;refine⟨by omega,λt ht=>?_⟩;obtain rfl:t=0:=by omega
 rw[hb,Nat.add_zero];refine⟨by rw[oLA,oLA,hoc];omega,by omega,?_,?_⟩;rw[List.getElem_append_left (by rw[oLA,hoc];omega),List.getElem_append_right (by omega)]
 rw[gv (by have:r≠1:=by omega
           exact this)]
 simp[PB,WD];rw[oGD,oAL (by rw[oLA,hov,<- h2.hand];omega),oAR (by rw[<- h2.hand];omega),<- h2.hand];simp[MV,WD,hj];by_cases hj1:j<res.length;exact .inl hj1;right;have hc:(K.flatMap (yq σ2)).length=(ng K).length:=K7 hlen;rw[oLA,oLA,hoc]at hj;by_cases hj2:j<res.length+ow.length;obtain⟨k1,_,_⟩:=hor.ix (j-res.length) (by omega);have hpn:prK K (2*(ow[j-res.length]'(by omega)).1+3)=none:=by cases hp:prK K (2*(ow[j-res.length]'(by omega)).1+3)with|none=>rfl|some x=>obtain⟨b,o,n⟩:=x;obtain⟨m,hm⟩:=kroot hp;omega
 refine⟨2*(ow[j-res.length]'(by omega)).1+3,1,0,?_,by omega,?_⟩;unfold rtK;rw[hpn,k1];rfl;unfold bsR;rw[hpn,k1];simp only[Option.getD_some];omega;obtain⟨r,b,o,n,t,c1,c2,c3⟩:=UR h.nodup.1 (j:=j-res.length-ow.length) (by omega);refine⟨r,n,t,?_,c2,?_⟩;unfold rtK;rw[c1];unfold bsR;rw[c1];simp only;omega;rcases split hr with⟨b,o,hp,hb⟩|⟨_,rfl,m,ho,hb⟩;rcases split XT with⟨b',o',hp',Za⟩|⟨_,rfl,m',Zv,Za⟩;rw[hb,Za]at e;exact R6 _ _ _ _ _ _ _ _ hp hp' j j' hj ZO (by omega);obtain⟨h3,_⟩:=XC Zv;omega;rcases split XT with⟨b',o',hp',Za⟩|⟨_,rfl,m',Zv,Za⟩;obtain⟨h3,_⟩:=XC ho;omega;obtain⟨h3,h4⟩:=XC ho;obtain⟨h5,h6⟩:=XC Zv;have:m=m':=by omega
 subst this;rw[h4,h6]
theorem N6:∀{l:U_}{p:gf}{σ σ':St},p.hops=[]->(putL p l).run σ=some ((),σ')->(∀o,o<p.off->σ'.c p.root o=σ.c p.root o)/\∀t (h:t<l.length),σ'.c p.root (p.off+t)=l[t]:=by
 intro l;induction l with
 |nil=>intro p σ σ' _ h;simp only[putL,SP.run,oSJ,oPJ,true_and]at h;simp_all|cons y l ih=>
 intro p σ σ' hp h;obtain⟨r,off,hops⟩:=p;simp only at hp;subst hp;obtain⟨_,σ1,h1,h2⟩:=fN h;have YL:(∀o,o≠off->σ1.c r o=σ.c r o)/\σ1.c r off=y:=by obtain⟨old,l1,vr,hg,hl,ho,hσ1,_⟩:=KN h1;subst hσ1;refine⟨λo hne=>?_,?_⟩;simp only[St.c,gN,if_true,hl];simp[List.getElem?_set,Ne.symm hne];simp only[St.c,gN,if_true];simp[iH,List.getElem?_set,ho]
 cases l with
 |nil=>
 simp only[SP.run,oSJ,oPJ,true_and]at h2;subst h2;refine⟨λo ho=>YL.1 o (by simp only at ho;omega),λt ht=>?_⟩;have:t=0:=by simp at ht;omega
 simp_all
 |cons y2 l=>have XL:(⟨r,off,[]⟩:gf).add 1=⟨r,off+1,[]⟩:=rfl;rw[XL]at h2;obtain⟨k1,k2⟩:=ih (p:=⟨r,off+1,[]⟩) rfl h2;refine⟨λo ho=>?_,λt ht=>?_⟩;simp only at ho;exact(k1 o (by show o<off+1;omega)).trans (YL.1 o (by omega));cases t with|zero=>simp_all|succ t=>have:=k2 t (by simpa using ht);rw[show off+(t+1)=off+1+t by omega];simpa using this
theorem Ha{x:GP×Addr}{f:GP×Addr->U_}(hx:x.1.p.hops=[])(h:(putBack ([x].map λx=>(x.1,f x))).run σ=some ((),σ')):∀t,t<(f x).length->σ'.c x.1.p.root (x.1.p.off+t)=(f x).getD t .dead:=by intro t ht;have ⟨_,σ1,h1,h2⟩:=fN h;split at h2;rw[(N6 hx h2).2 t ht];simp[ht];simp[SP.run]at h2
theorem yu.whole{i:Nat}{vals:U_}{asq us:w_}{K:l_}(h:yu w i vals asq K us):∀x∈K,x.1.p.hops=[]:=by
 induction h with
 |nil=>simp_all|ptr hr hb hs h0 hh hu hc hok h ih=>intro x hx;rcases oMC.1 hx with rfl|hx;exact hb;exact ih x hx
 |arg ha h ih=>exact ih|own h ih=>exact ih
theorem NM:∀{z:c_}{i j k:Nat}{p:gf}{vs:N_},(j,k,p,vs)∈revOf i z->i<=j/\∃n,z[j-i]?=some (some n,.ptr p vs):=by
 intro z;induction z with
 |nil=>intro i j k p vs h;simp[revOf]at h|cons a z ih=>
 intro i j k p vs h;have rest:(j,k,p,vs)∈revOf (i+1) z->i<=j/\∃n,(a::z)[j-i]?=some (some n,.ptr p vs):=λh=>by grind
 obtain⟨m,t⟩:=a;cases m with
 |none=>exact rest h|some m=>
 cases t with
 |ptr p0 vs0=>simp[revOf]at h;split at h;rcases oMC.1 h with h|h;simp_all;exact rest h;exact rest h
 |_=>exact rest h
theorem NO(hI:Inv M σ [] [] ts w G):∀{l:List (Nat×Nat×gf×N_)}{rv:List (Nat×Nat×Nat×gf)}{σ':St},(revChk l).run σ=some (rv,σ')->σ'=σ/\∀x∈rv,∃i p vs ad h,(i,x.1,p,vs)∈l/\x.2.1=2*i+2/\x.2.2.1=x.2.2.2.off-p.off/\p.off<=x.2.2.2.off/\x.2.2.2.root=p.root/\p.hops=[]/\vs=lz σ.v p.root p.off 0/\x.2.2.2.root≠1/\x.2.2.2.hops=[h]/\ts.getD x.1 undef=.pointer (some ad)/\gK w (G.val w x.2.2.2.root x.2.2.2.off) [h]=some ad:=by
 intro l;induction l with
 |nil=>intro rv σ' hr;obtain⟨rfl,rfl⟩:=hr;exact⟨rfl,λx h=>by simp at h⟩|cons y l ih=>
 intro rv σ' hr;obtain⟨i,k,p,vs⟩:=y;simp only[revChk,SP.run]at hr;split at hr;case h_2=>simp[SP.run]at hr
 rename_i q ws hk;split at hr;case isFalse=>simp[SP.run]at hr
 rename_i hc;obtain⟨c1,c2,c3,c4⟩:=hc;obtain⟨_,σ1,h1,h2⟩:=fN hr;obtain⟨e1,hvs⟩:=gt h1;subst e1;obtain⟨_,σ2,h3,h4⟩:=fN h2;obtain⟨e2,hws⟩:=gt h3;subst e2;obtain⟨r,σ3,h5,h6⟩:=fN h4;obtain⟨rfl,rfl⟩:=h6;obtain⟨rfl,ZR⟩:=ih h5;refine⟨rfl,λx hx=>?_⟩;rcases oMC.1 hx with rfl|hx;obtain⟨h,hh⟩:∃h,q.hops=[h]:=List.length_eq_one_iff.1 c3;have Zg:=hI.tmr k;rw[hk]at Zg;cases Zg with|ptr V0 h0 hv hok=>obtain⟨g1,ad,t,g2,g3,_⟩:=hok (by rw[c3];exact hws);refine⟨i,p,vs,ad,h,by simp,rfl,rfl,c4,c1,by simpa using c2,hvs,g1,hh,g3,?_⟩;unfold Gh.addr at g2;rw[hh]at g2;exact g2
 obtain⟨i',p',Zc,ad,h,a1,a2⟩:=ZR x hx;exact⟨i',p',Zc,ad,h,by simp[a1],a2⟩
theorem Pq{w w':World}{v:Value}{h:Hop}:gK w v [h]=gK w' v [h]:=by cases v with|slice a n c=>cases a<;>rfl|_=>rfl
theorem NL{kept:p_}:∀{rv:List (Nat×Nat×Nat×gf)}{σ σ':St},Inv M σ H xs ts w G->(∀x∈rv,(x.2.1,x.2.2.1)∈kept->x.2.2.2.root≠1/\x.2.2.2.hops.length=1/\∃ad,ts.getD x.1 undef=.pointer (some ad)/\G.addr w x.2.2.2=some ad)->(revive kept rv).run σ=some ((),σ')->Inv M σ' H xs ts w G/\(rv=[]->σ'=σ):=by
 intro rv;induction rv with
 |nil=>intro σ σ' hI _ hr;simp only[revive,SP.run,oSJ,oPJ,true_and]at hr;subst hr;exact⟨hI,λ_=>rfl⟩|cons y rv ih=>
 intro σ σ' hI hx hr;obtain⟨k,r,d,q⟩:=y;simp only[revive]at hr;split at hr;case isFalse=>simp[SP.run]at hr
 rename_i hk;obtain⟨t,σ1,h1,h2⟩:=fN hr;obtain⟨e1,hg⟩:=iD h1;subst e1;obtain⟨vs,σ2,h3,h4⟩:=fN h2;injection h3 with h3
 injection h3 with h3 h5
 subst h3;subst h5;obtain⟨g1,g2,ad,g3,g4⟩:=hx (k,r,d,q) (by simp) (by simpa using hk);have ZN:=hI.reT (t:=.ptr q (lz σ1.v q.root q.off 1)) (by rw[g3];exact .ptr σ1.v (λ_=>oLE _) (by rw[g2]) λ_=>⟨g1,ad,t,g4,rfl,by rw[gv g1];exact hg⟩);obtain⟨h6,_⟩:=ih ZN (λx hm=>hx x (by simp[hm])) h4;exact⟨h6,λe=>by simp at e⟩
theorem OD{ks:N_}{kq:p_}{σ:St}:ksOf ((ks.map λk=>(1000000+k,([]:U_)))++kcE kq σ)=ks.map λm=>1000000+m:=by
 unfold ksOf kcE;rw[List.filter_append,List.map_append];have e1:((kq.filter λq=>σ.v (q.1,0,0)==0 && σ.v (q.1,q.2,1)==0).map λ(q:Nat×Nat)=>(q.1,List.replicate (q.2+1) TV.dead)).filter (λx=>x.2.isEmpty)=[]:=by rw[List.filter_eq_nil_iff];intro x hx;obtain⟨q,_,rfl⟩:=List.mem_map.1 hx;simp_all
 have e2:(ks.map λk=>(1000000+k,([]:U_))).filter (λx=>x.2.isEmpty)=ks.map λk=>(1000000+k,([]:U_)):=by simp_all
 rw[e1,e2];simp
theorem OF{ks:N_}{kq:p_}{σ:St}{r d:Nat}(h:(r,d)∈kcIn ((ks.map λk=>(1000000+k,([]:U_)))++kcE kq σ)):(r,d)∈kq/\σ.v (r,0,0)=0/\σ.v (r,d,1)=0:=by have ⟨x,hx,e⟩:=List.mem_map.1 h;have ⟨Z0,Y4⟩:=List.mem_filter.1 hx;rcases oMA.1 Z0 with Z0|Z0;obtain⟨q,_,rfl⟩:=List.mem_map.1 Z0;simp_all;unfold kcE at Z0;obtain⟨q,hq,rfl⟩:=List.mem_map.1 Z0;simp_all
set_option maxHeartbeats 1000000 in
theorem Gv{F:iz}(hF:nu P F){asq:w_}{vals:U_}{ns:List x_}{YZ:FuncId}{σ1:St}{G1:Gh}(hd:∀d,o.dst=some d->M.ok d/\M.pr (2*d+2)=none)(hI1:Inv M σ1 [] [] a.tmps w G1)(hns:ns.length=vals.length)(hal:asq.length=vals.length) (XI:∀j (h:j<vals.length)(h':j<asq.length),TmR w (G1.F M.A) σ1.v (gy M σ1 []) G1 vals[j] asq[j])(h2:(callV F o.dst YZ ns vals).run σ1=some ((),σ'))(YJ:tz P YZ->(execOp a.eval o).run P w=.ok (.enter YZ asq.toArray) w):Ry P M σ' a o w:=by
 intro K' Q hK;unfold callV at h2;obtain⟨_,σL,h3L,h2L⟩:=fN h2;clear h2;have hzl0:(ns.zip vals).length=vals.length:=by simp[hns]
 obtain⟨eL,hlent⟩:=Mg hI1 (asq:=asq) (by omega) (λj h h'=>by
  have hj:j<vals.length:=by rw[<- hzl0];exact h
  have:=XI j hj h';simpa using this) h3L
 subst eL;obtain⟨rv,σR,h3R,h2R⟩:=fN h2L;obtain⟨eR,hrv⟩:=NO hI1 h3R;subst eR;obtain⟨ow,σ0,h3o,h2⟩:=fN h2R;obtain⟨q,σ2,h3,h4⟩:=fN h2;obtain⟨Z,hZ⟩:∃Z,Z=(ns.zip vals).map normA:=⟨_,rfl⟩;rw[<- hZ]at h3o h3;have hn2:∀x:x_×TV,(normA x).2=x.2:=λx=>by obtain⟨n,t⟩:=x;cases n with|none=>rfl|some n=>cases t<;>rfl
 have hzl:Z.length=vals.length:=by rw[hZ,oLP];exact hzl0
 have Xm:Z.map (·.2)=vals:=by rw[hZ,oPM,show((·.2) ∘ normA:x_×TV->TV)=(·.2)from funext hn2,List.map_snd_zip];omega
 have hzg:∀j (h:j<Z.length)(h':j<vals.length),Z[j].2=vals[j]:=λj h h'=>by
  have:(Z.map (·.2))[j]'(by simpa using h)=vals[j]:=by simp only[Xm]
  simpa using this
 have hzt:∀{σ1:St}{H1:U_}{G1:Gh},(∀j (h:j<vals.length)(h':j<asq.length),TmR w (G1.F M.A) σ1.v (gy M σ1 H1) G1 vals[j] asq[j])->∀j (h:j<Z.length)(h':j<asq.length),TmR w (G1.F M.A) σ1.v (gy M σ1 H1) G1 Z[j].2 asq[j]:=λh j h1 h2=>by
  have hj:j<vals.length:=by rw[<- hzl];exact h1
  rw[hzg j h1 hj];exact h j hj h2
 obtain⟨zs,G0,hg0,hor,hocov⟩:=I8 hI1 (by omega) (hzt XI) h3o;obtain⟨us,G2,K,hg2',hKq,Yb,htmK⟩:=Q3 (asq:=asq) hg0.1 (by omega) (hzt λj h h'=>hg0.tm (XI j h h')) h3;have hpk:=Q2 h3;have Zu:=hg0.trans hg2';rw[Xm]at Yb;obtain⟨_,σ3,h5,h6⟩:=fN h4;have hHand:([]:U_)++ow.map (·.2)++q.flatMap (·.cells)=ow.map (·.2)++ng K:=by rw[<- hKq];simp[ng,List.flatMap_map]
 rw[hHand,oNA]at Zu;rw[hHand]at htmK;have hz:zs.length=ow.length:=hor.facts.1;have hpk2:∀j p vs,vals[j]?=some (.pk p vs)->∃x∈ow,x.1=j:=λj p vs hj=>by
  obtain⟨hjl,hje⟩:=oGS hj;have hjz:j<Z.length:=by omega
  have hzj:Z[j]?=some (Z[j].1,.pk p vs):=by rw[oGE hjz,<- hje,<- hzg j hjz hjl]
  have hn:=hpk j _ p vs hzj;rw[hn]at hzj;obtain⟨x,h7,h8⟩:=hocov j p vs hzj;exact⟨x,h7,by omega⟩
 obtain⟨rfl,hre⟩:=Qk Zu.1 h5;split at h6;case isFalse=>simp[SP.run]at h6
 rename_i YN;simp only[oBA,oAE,oDE]at YN;obtain⟨⟨Zn,ZX⟩,hrvq⟩:=YN;have WT:∀x∈K,0<x.1.cells.length:=λx hx=>ZX x.1 (by rw[<- hKq];exact List.mem_map_of_mem hx);have X6:∀j (h:j<vals.length)(h':j<asq.length),TmR w (G2.F M.A) σ3.v (gy M σ3 (ow.map (·.2)++ng K)) G2 vals[j] asq[j]:=λj h h'=>by have:=Zu.tm (XI j h (by omega));simpa using this
 have Xp:∀x∈K,x.1.p.root≠1/\G2.addr w x.1.p=some x.2/\(∃t,gE (gy M σ3 (ow.map (·.2)++ng K) x.1.p.root x.1.p.off) x.1.p.hops=some t)/\((∃o n,G2.β x.1.p.root=some (x.2.block,o,n))\/G2.φ x.1.p.root x.1.p.off x.2.block):=λx hx=>by
  obtain⟨r1,ad,r2,r3,_,r4,r5⟩:=hre x.1 (by rw[<- hKq];exact List.mem_map_of_mem hx) _ (htmK x hx);injection r2 with r2
  injection r2 with r2
  subst r2;exact⟨r1,r3,r4,r5⟩
 have hh:=Yb.hands Zu.1 hor (by rw[hKq];exact Zn) WT λx hx=>⟨(Xp x hx).1,(Xp x hx).2.2.2⟩;obtain⟨r,σ4,h7,h8⟩:=fN h6;have Xh:F YZ (argTs 0 vals) (q.map (λg=>(2*g.i+2,g.cells))++ow.map λx=>(2*x.1+3,[x.2]))=some r/\σ4=σ3:=by cases hq:F YZ (argTs 0 vals) (q.map (λg=>(2*g.i+2,g.cells))++ow.map λx=>(2*x.1+3,[x.2]))with|none=>rw[hq]at h7;simp[qp,SP.run]at h7|some r'=>rw[hq]at h7;simp only[qp,SP.run,oSJ,oPJ]at h7;exact⟨by rw[h7.1],h7.2.symm⟩
 obtain⟨Xh,rfl⟩:=Xh;obtain⟨res,Zs⟩:=r;simp only at h8;split at h8;case isFalse=>simp[SP.run]at h8
 rename_i hck2;simp only[oBA,oDE]at hck2;obtain⟨_,σ5,h9,h10⟩:=fN h8;obtain⟨_,σ6,h10b,h10c⟩:=fN h10;clear h10;obtain⟨_,σ7,h10r,h10⟩:=fN h10c;clear h10c;obtain⟨Y1,N,ks,kq,hN,W2⟩:=hF YZ _ _ _ _ Xh;rw[IV]at hN;let kp:Nat->r_:=λi=>if ks.contains i=true/\(owK ow (2*i+3)).isSome=true then asq[i]? else none
 have hkp:∀i v,kp i=some v->(∃y∈ow,y.1=i)/\asq[i]?=some v:=λi v hv=>by simp only[kp]at hv;split at hv;rename_i hc;obtain⟨j,hj⟩:=Option.isSome_iff_exists.1 hc.2;obtain⟨h1,h2,_⟩:=so hj;exact⟨⟨ow[j],oGX h1,by omega⟩,hv⟩;cases hv
 let kc:Nat->Nat->r_:=λr d=>match prK K r with|some (b,o,n)=>if kq.contains (r,d)=true/\d<n/\nM (((gD (ceK K) r).getD []).getD d .dead)=true then w.cell? ⟨b,o+d,none⟩else none|none=>none
 have hkc:∀r d v,kc r d=some v->(r,d)∈kq/\∃b o0 n c l,prK K r=some (b,o0,n)/\d<n/\w.cell? ⟨b,o0+d,none⟩=some v/\gD (ceK K) r=some l/\l.getD d .dead=.ow c:=λr d v hv=>by
  simp only[kc]at hv;split at hv;rename_i b o n hp;split at hv;rename_i hc;obtain⟨c1,c2,c3⟩:=hc;refine⟨by simpa using c1,b,o,n,?_⟩;cases ha:gD (ceK K) r with|none=>rw[ha]at c3;simp[nM]at c3|some l=>rw[ha]at c3;simp only[Option.getD_some]at c3;cases hl:l.getD d .dead with|ow c=>exact⟨c,l,hp,c2,hv,rfl,hl⟩|_=>rw[hl]at c3;simp[nM]at c3
  cases hv;cases hv
 have hpts:(q.map (λg=>(2*g.i+2,g.cells))++ow.map λx=>(2*x.1+3,[x.2]))=ceK K++ceO ow:=by rw[<- hKq];simp[ceK,ceO]
 have hin:=Yb.enter Zu.1 hor hpk2 hh X6 (N:=N) (by omega) (kp:=kp) hkp (kc:=kc) (kq:=kq) hkc;have hcalls:=W2 (M.into w G2 (prK K) N kp kc) asq w (G2.into (prK K) (λr=>ow.length+bsK K r) (owK ow) (zs++us)) (by rw[IV];exact hal) rfl rfl (λr hr=>by
  have hr:prK K r≠none:=hr;cases hp:prK K r with|none=>exact absurd hp hr|some y=>obtain⟨b,o,n⟩:=y;obtain⟨x,x1,x2,_⟩:=m9 hp;obtain⟨_,_,p,vs,s1⟩:=Yb.slot x x1;refine⟨x.1.i,⟨2*x.1.i+2,0,p.hops⟩,List.replicate (p.hops.length+1) 0,?_,x2⟩;rw[IW];have s1:vals[x.1.i]?=some (.ptr p vs):=s1;rw[s1];simp[argT]) (λi hi=>by
  have hi:kp i≠none:=hi;simp only[kp]at hi;split at hi;rename_i hc;simpa using hc.1;exact absurd rfl hi) (λr d hr=>by
  have hr:kc r d≠none:=hr;cases hv:kc r d with|none=>exact absurd hv hr|some v=>exact(hkc r d v hv).1) (by rw[hpts];exact hin)
 have hrun:=YJ Y1;unfold Oper.wp;rw[hrun,Oper.upon_enter];refine hcalls.mono λe w2 ⟨v,σc,he,Yl,I'⟩=>?_;subst he;simp only;have hzip:q.zip (Zs.map (·.2))=K.map λx=>(x.1,yq σc x):=by rw[I',hpts,<- hKq];simp only[ceK,List.map_append,oPM,List.append_assoc];rw[GD (by simp),List.zip_map'];rfl
 rw[hzip]at h9;have WQ:∀x∈K,(yq σc x).length=x.1.cells.length:=λx hx=>Jn h9 _ (List.mem_map.2 ⟨x,hx,rfl⟩);have Zz:=S2 Yb.nodup.1;have hlt:∀x∈K,x.2.block<w.heap.size:=λx hx=>by obtain⟨cur,e,fz,hb,_⟩:=vl (hh.here _ _ _ _ (Zz x hx) 0 (WT x hx)).1;exact(Array.getElem?_eq_some_iff.1 hb).1
 have hinj:∀x∈K,∀y∈K,x.2.block=y.2.block->x=y:=λx hx y hy e=>by have h1:=Zz x hx;have h2:=Zz y hy;rw[<- e]at h2;have:=hh.inj _ _ _ _ _ _ _ h1 h2;exact vf Yb.nodup.1 hx hy (by omega)
 have back:∀{Hc:U_}{ys:w_}{ts2:s_}{Gc:Gh},Inv (M.into w G2 (prK K) N kp kc) σc Hc ys ts2 w2 Gc->∃G4,Inv M σ5 (Hc++PB σc ow) (ys++MV w2 Gc ow) a.tmps w2 G4/\G4.β=G2.β:=by
  intro Hc ys ts2 Gc XD;have hH2:=Yb.hands2 (M:=M) (G:=G2) (N:=N) hor WT XD WQ;have hsz:w.heap.size<=w2.heap.size:=XD.fram.size;obtain⟨G3,Wu,hm3,hβ3⟩:=Zu.1.leave hh XD hH2 (w':=RWs w K w2) Rz Gz.1 Gz.2.1 Gz.2.2 (λk hk=>UZ λx hx=>hk _ _ _ _ (Zz x hx)) (λr b o n hp=>by obtain⟨x,x1,x2,x3,_⟩:=m9 hp;rw[x3];exact U0 (hlt x x1) (Nat.lt_of_lt_of_le (hlt x x1) hsz) ⟨x,x1,rfl⟩);obtain⟨G4,hI4,htm4,hm4,hβ4⟩:=LW (w:=w) (f:=yq σc) (v:=DD σc Gc w2) (λx=>by simp[DD]) (K:=K) (W:=w2) (H0:=Hc++PB σc ow) (x0:=ys++MV w2 Gc ow) (by rw[oLA,oLA,XD.hand];simp[PB,MV]) Wu (λx hx=>by
   have hp:=Zz x hx;obtain⟨hβ,cur0,cur,e,fz,p1,p2,p3,p4⟩:=XD.fram.par _ _ _ _ hp;have hvl2:(DD σc Gc w2 x).length=x.1.cells.length:=by simp[DD,WQ x hx]
   refine⟨cur0,cur,e,fz,p1,p2,p3,λj hj=>p4 j (by rw[hvl2]at hj;exact hj),λj hj=>?_⟩;have Z1:=XD.core.boxcell hβ (o:=j) (by omega);obtain⟨Yq,e',fz',c1,c2,c3⟩:=vl Z1;rw[p2]at c1;injection c1 with c1
   injection c1 with c1 _ _
   subst c1;rw[c3];simp[DD]) (λx hx e=>by have h1:=WQ x hx;have h2:=WT x hx;rw[e,oLN]at h1;omega) hinj (by rw[<- hKq]at Zn;simpa[Function.comp_def]using Zn) (λx hx=>by obtain⟨r1,r2,⟨t,r3⟩,_⟩:=Xp x hx;obtain⟨t',k1,k2⟩:=hm3.keeps.ptr x.1.p x.2 t r1 rfl r2 r3;exact⟨r1,k1,t',k2⟩) h9
  exact⟨G4,hI4,hβ4.trans hβ3⟩
 have hown:∀{Hc:U_}{ys:w_}{ts2:s_}{Gc:Gh},Inv (M.into w G2 (prK K) N kp kc) σc Hc ys ts2 w2 Gc->∃G5,Inv M σ7 Hc ys a.tmps w2 G5/\G5.β=G2.β/\(ow=[]->rv=[]->σ7=σ5):=by
  intro Hc ys ts2 Gc XD;obtain⟨G4,hI4,hβ4⟩:=back XD;have hql:q.length=K.length:=by rw[<- hKq,oLP]
  have hrs:(Zs.drop q.length).map (·.2)=(ow.map λ(x:Nat×TV)=>(gD σc.ce (2*x.1+3)).getD [])++((ks.map λ_=>([]:U_))++(kcE kq σc).map (·.2)):=by rw[I',hpts,hql];simp only[List.map_append,ceK,oPM];rw[List.append_assoc,List.drop_append_of_le_length (by simp),List.drop_of_length_le (by simp),oNA,List.map_append];simp only[ceO,oPM,List.map_append];rfl
  rw[hrs]at h10b;have htail:Zs.drop (q.length+ow.length)=(ks.map λk=>(1000000+k,([]:U_)))++kcE kq σc:=by rw[I',hpts,hql];simp only[List.map_append,ceK,ceO,oPM];rw[List.drop_append_of_le_length (by simp),List.drop_of_length_le (by simp),oNA]
  rw[htail,OD]at h10b;rw[htail]at h10r;have htk:(((ow.map λ(x:Nat×TV)=>(gD σc.ce (2*x.1+3)).getD [])++((ks.map λ_=>([]:U_))++(kcE kq σc).map (·.2))).take ow.length).map (λ(l:U_)=>l.getD 0 .dead)=PB σc ow:=by rw[List.take_append_of_le_length (by simp),List.take_of_length_le (by simp),oPM];unfold PB;refine List.map_congr_left λx _=>?_;show((gD σc.ce (2*x.1+3)).getD []).getD 0 .dead=σc.c (2*x.1+3) 0;unfold St.c;cases gD σc.ce (2*x.1+3)<;>rfl
  obtain⟨G5,XK,hβ5⟩:=J0 (M:=M) (ts:=a.tmps) (xv:=MV w2 Gc ow) (by simp[MV]) (λj hj k hk hm hne=>by
   obtain⟨x1,x2,_⟩:=hor.ix j hj;obtain⟨y,y1,y2,y3⟩:=hlent _ _ hk;have hmk:ks.contains ow[j].1=true:=by
    obtain⟨m,hm1,hm2⟩:=List.mem_map.1 hm;have:m=ow[j].1:=by omega
    subst this;simpa using hm1
   have hkv:kp ow[j].1=some y:=by simp only[kp];rw[oIP ⟨hmk,by rw[x1];rfl⟩,y1]
   have hη:=XD.kept _ _ hne hkv;have hv:(MV w2 Gc ow).getD j undef=y:=by unfold MV;simp only[oGD,oGP,oGE hj,oMS,Option.getD_some];unfold Gh.val;rw[XD.odd_none];exact hη
   rw[hv];exact⟨y2,y3⟩) (by rw[htk];exact hI4) h10b
  have hβ:=hβ5.trans hβ4;obtain⟨hI7,hσ7⟩:=NL XK (λx hx hk=>by
   obtain⟨i,p,pvs,ad,h,x1,x2,x3,x4,x5,x6,x7,x8,x9,x10,x11⟩:=hrv x hx;obtain⟨hkq,YQ,Ws⟩:=OF hk;refine⟨x8,by rw[x9];rfl,ad,x10,?_⟩;obtain⟨_,n,hz⟩:=NM x1;rw[Nat.sub_zero]at hz;have hvi:vals[i]?=some (.ptr p pvs):=by
    obtain⟨hi,he⟩:=oGS hz;have Xs:i<vals.length:=by omega
    rw[oGE Xs];rw[List.getElem_zip]at he;injection he with _ he
    rw[he]
   obtain⟨hil,hie⟩:=oGS hvi;obtain⟨y,y1,y2,hp,Zc,ad0,y3,y4,y5,y6,_,y7,_⟩:=(Yb.slotArg i _ hvi).resolve_left (by simp[uj]) |>.resolve_left (by rintro⟨p,vs,e⟩;cases e);injection y3 with y3 _
   rw[Nat.zero_add]at y2;have hhp:hp=[]:=by rw[y3]at x6;exact x6
   have y7:=y7 hhp;subst y7;have hyp:y.1.p=p:=by have hf:=Yb.whole y y1;rw[y3,hhp];cases hyp:y.1.p with|mk a b c=>rw[hyp]at hf;simp only at hf;rw[hf]
   have Z5:p.root=y.1.p.root:=by rw[hyp]
   have ZA:p.off=y.1.p.off:=by rw[hyp]
   have Yj:=XI i hil (by omega);rw[hie]at Yj;have has:asq[i]'(by omega)=.pointer (some y.2):=by rw[oGE (by omega)]at y4;exact Option.some.inj y4
   rw[has]at Yj;obtain⟨b0,o0,n0,k1,k2⟩:∃b0 o0 n0,G1.β p.root=some (b0,o0,n0)/\y.2=⟨b0,o0+p.off,none⟩:=by
    cases Yj with
    |ptr V0 h0 hv hok=>
    obtain⟨_,ad1,_,k1,k2,_⟩:=hok (by rw[x6];exact x7);injection k2 with k2
    injection k2 with k2
    subst k2;unfold Gh.addr at k1;rw[x6]at k1;simp only at k1;split at k1;rename_i b0 o0 n0 hb;injection k1 with k1
    exact⟨b0,o0,n0,hb,k1.symm⟩;cases k1
   have ZW:x.2.2.1<y.1.cells.length/\nM (y.1.cells.getD x.2.2.1 .dead)=true:=by have:=hrvq x hx;simp only[List.any_eq_true,oBA,beq_iff_eq]at this;obtain⟨g,g1,g2,g3⟩:=this;rw[<- hKq]at g1;obtain⟨y',z1,rfl⟩:=List.mem_map.1 g1;have hyy:y'=y:=vf Yb.nodup.1 z1 y1 (by omega);subst hyy;refine⟨?_,g3⟩;rcases Nat.lt_or_ge x.2.2.1 y'.1.cells.length with h|h;exact h;rw[oGD,oGN h]at g3;simp[nM]at g3
   have YX:=Zz y y1;rw[y2]at YX y6;obtain⟨hd,XE⟩:∃hd,w.cell? ⟨y.2.block,y.2.off+x.2.2.1,none⟩=some hd:=⟨_,(hh.here _ _ _ _ YX _ ZW.1).1⟩;have hkcv:kc (2*i+2) x.2.2.1=some hd:=by simp only[kc,YX];rw[oIP ⟨by rw[<- x2];simpa using hkq,ZW.1,by rw[y6];exact ZW.2⟩];exact XE
   have hval1:G1.val w x.2.2.2.root x.2.2.2.off=hd:=by
    unfold Gh.val;rw[x5,k1];simp only;have e:o0+x.2.2.2.off=y.2.off+x.2.2.1:=by rw[k2,x3];simp only;omega
    rw[e,show b0=y.2.block by rw[k2],XE];rfl
   rw[hval1]at x11;obtain⟨_,hgn⟩:=XD.gn _ _ _ hkcv;have T':w2.cell? ⟨y.2.block,y.2.off+x.2.2.1,none⟩=some hd\/(w2.cell? ⟨y.2.block,y.2.off+x.2.2.1,none⟩).getD undef=hd:=by right;cases hgn with|pk V0 h0 hv hok=>obtain⟨_,c,k3,_⟩:=hok (by simp[lz,<- x2,YQ,Ws]);have k4:=Option.some.inj k3;unfold Gh.val at k4;rw[(XD.fram.par _ _ _ _ YX).1]at k4;exact k4
   have T':(w2.cell? ⟨y.2.block,y.2.off+x.2.2.1,none⟩).getD undef=hd:=by rcases T' with h|h;rw[h];rfl;exact h
   obtain⟨_,r2,_,_⟩:=Xp y y1;unfold Gh.addr at r2;rw[hyp,x6]at r2;simp only at r2;split at r2;case h_2=>cases r2
   rename_i b1 o1 n1 ZI;injection r2 with r2
   unfold Gh.addr;rw[x9];simp only;have hv5:G5.val w2 x.2.2.2.root x.2.2.2.off=hd:=by
    unfold Gh.val;rw[hβ,x5,ZI];simp only;have e:o1+x.2.2.2.off=y.2.off+x.2.2.1:=by rw[<- r2,x3];simp only;omega
    rw[e,show b1=y.2.block by rw[<- r2]];exact T'
   rw[hv5];obtain⟨i0,s0,f0⟩:=h;rw[<- x11];exact Pq) h10r
  refine⟨G5,hI7,hβ,λh h'=>?_⟩;rw[hσ7 h'];subst h;simp only[giveBack,SP.run,oSJ,oPJ,true_and]at h10b;exact h10b.symm
 rcases Yl with⟨ys,ts2,Gc,rfl,XD,hokc⟩|⟨pl,pvs,fl,pv,ts2,Gc,ZW,⟨shr,hsh⟩,ZE,rfl,XD,hpl⟩;obtain⟨G4,hI4,_⟩:=hown XD;have hP:isP res=false:=by cases hp:isP res with|false=>rfl|true=>unfold isP at hp;split at hp;rename_i sh1 p vs l1 e1 e2;have:=hokc 0 (by rw[e2];simp);simp[e2,is,nM]at this;cases hp
 rw[hP]at h10 hck2;simp only[Bool.false_eq_true,if_false,Bool.false_or]at h10 hck2;obtain⟨G5,XK⟩:=OC hI4 hokc hck2.2 (dst:=o.dst) (λd Yw=>(hd d Yw).1) h10;refine hK (a.put o.dst (p6 res.sh ys)) w2 G5 ?_ (pN _ _ _);cases hdst:o.dst with|none=>rw[hdst]at XK;exact XK|some d=>rw[hdst]at XK;exact XK
 ·obtain⟨G4,hI4,hβ4,hσ6⟩:=hown XD
  have hP:isP res=true:=by unfold isP;rw[ZW,hsh]
  rw[hP]at h10;simp only[if_true]at h10;split at h10
  case isFalse=>simp[SP.run]at h10
  rename_i howe;simp only[oBA,List.isEmpty_iff]at howe;have hσ6:=hσ6 howe.1 howe.2;subst hσ6
  have hfin:∃G5,Inv M σ' [] [] (match o.dst with|some d=>a.tmps.setIfInBounds d (DQ pv (fl.map unV))|none=>a.tmps) w2 G5:=by
   cases hdst:o.dst with
   |none=>
    rw[hdst]at h10;simp only[landP,SP.run,oSJ,oPJ,true_and]at h10;subst h10;exact⟨G4,hI4⟩
   |some d=>
    rw[hdst,ZW]at h10;simp only[landP]at h10;split at h10
    case h_2=>simp[SP.run]at h10
    rename_i pl' Zc l' g hq1 Y3
    injection hq1 with hq1 hql
    injection hq1 with hq1 _
    subst hq1;subst hql;split at h10
    case isFalse=>simp[SP.run]at h10
    rename_i hck3;simp only[oBA,beq_iff_eq,List.isEmpty_iff]at hck3;obtain⟨Z5,Ys⟩:=hck3;obtain⟨nvs,σ6,WL,h12⟩:=fN h10;rw[Ex,ww]at WL
    injection WL with WL
    injection WL with WL h13
    subst WL;subst h13;simp only[wr,SP.run,oSJ,oPJ,true_and]at h12;subst h12;obtain⟨x,rfl⟩:∃x,K=[x]:=List.length_eq_one_iff.1 (by have:=congrArg List.length hKq;simpa using this)
    have hxg:x.1=g:=by simpa using hKq
    have hxm:x∈[x]:=by simp
    obtain⟨r1,r2,_,_⟩:=Xp x hxm;have hp:=Zz x hxm;obtain⟨hβc,_⟩:=XD.fram.par _ _ _ _ hp
    have hhx:x.1.p.hops=[]:=by rw[hxg];exact Ys
    have XW:pl.root=2*x.1.i+2:=by rw[hxg];exact Z5
    obtain⟨b0,o0,n0,hβ0,had0⟩:∃b0 o0 n0,G4.β x.1.p.root=some (b0,o0,n0)/\x.2=⟨b0,o0+x.1.p.off,none⟩:=by
     rw[hβ4];unfold Gh.addr at r2;rw[hhx]at r2;simp only at r2
     cases hb:G2.β x.1.p.root with
     |none=>rw[hb]at r2;simp at r2
     |some y=>
      obtain⟨b0,o0,n0⟩:=y;rw[hb]at r2
      injection r2 with r2
      exact⟨b0,o0,n0,rfl,r2.symm⟩
    have hcellpos:=Ha hhx h9;refine⟨G4,hI4.wrT (hd d hdst).1 (NB (.ptr _ (λ_=>oLE _) rfl λ_=>?_) ZE)⟩;rw[<- hxg];obtain⟨_,ad,t,ha,hv,ht⟩:=hpl;refine⟨r1,ad,?_⟩
    have hval:G4.val w2 x.1.p.root (x.1.p.off+pl.off)=Gc.val w2 pl.root pl.off:=by
     unfold Gh.val;rw[hβ0,XW,hβc];simp only[had0,Nat.add_assoc]
    cases hho:pl.hops with
    |nil=>
     rw[hho]at ht;refine⟨_,?_,hv,rfl⟩;rw[<- ha];unfold Gh.addr;simp only[hho,hβ0,XW,hβc,had0,Nat.add_assoc]
    |cons h1 hs=>
     rw[hho]at ht;refine⟨t,?_,hv,?_⟩
     ·rw[<- ha];unfold Gh.addr;simp only[hho];rw[hval]
     ·have hne1:x.1.p.root≠M.hr:=r1;rw[gv hne1]
      have ZA:pl.off<x.1.cells.length:=by
       rcases Nat.lt_or_ge pl.off x.1.cells.length with h|h
       ·exact h
       ·have:=XD.core.boxc _ _ _ _ hβc pl.off h;rw[XW]at ht;rw[this]at ht;simp[gE]at ht
      have ZJ:=hcellpos pl.off (by rw[WQ x hxm];exact ZA)
      have hc3:gy (M.into w G2 (prK [x]) N kp kc) σc [] pl.root pl.off=(yq σc x).getD pl.off .dead:=by
       rw[XW,gv (by show 2*x.1.i+2≠1;omega)];unfold yq St.c
       cases gD σc.ce (2*x.1.i+2)with
       |none=>simp
       |some l=>rfl
      rw[hc3]at ht;rw[ZJ];exact ht
  obtain⟨G5,XK⟩:=hfin;refine hK (a.put o.dst (DQ pv (fl.map unV))) w2 G5 ?_ (pN _ _ _)
  cases hdst:o.dst with
  |none=>rw[hdst]at XK;exact XK
  |some d=>rw[hdst]at XK;exact XK
theorem t6{YZ:FuncId}{args':Array Operand}{caps:s_}{fo:Operand}{atys:Array TypeId}(ho:o.op=.call ⟨.value fo,args',atys⟩)(hv:a.eval fo=.func (.func YZ) #[] caps)(Y1:tz P YZ):(execOp a.eval o).run P w=.ok (.enter YZ (args'.map a.eval++caps)) w:=by unfold execOp;simp[resolve];simp[Deferred.ofValue,invoke];have:=Y1 (args'.map a.eval++caps) w;simp_all
theorem Ra{E:Env}(hB:I2 P E){asq:w_}{vals:U_}{YZ:FuncId}{n:Nat}{tm:List BxC}(hbx:E.box YZ=some (n,tm))(hn:vals.length=n){σ1:St}{G1:Gh}(hd:∀d,o.dst=some d->M.ok d/\M.pr (2*d+2)=none)(hI1:Inv M σ1 [] [] a.tmps w G1)(hal:asq.length=vals.length) (XI:∀j (h:j<vals.length)(h':j<asq.length),TmR w (G1.F M.A) σ1.v (gy M σ1 []) G1 vals[j] asq[j])(h2:(evBox o.dst tm vals).run σ1=some ((),σ'))(YJ:tz P YZ->(execOp a.eval o).run P w=.ok (.enter YZ asq.toArray) w):Ry P M σ' a o w:=by
 intro K' Q hK;obtain⟨Y1,ZE,ty,W2⟩:=hB.box YZ n tm hbx;cases hdst:o.dst with
 |none=>rw[hdst]at h2;simp[evBox,SP.run]at h2|some d=>
 rw[hdst]at h2;obtain⟨hdN,YX⟩:=hd d hdst;simp only[evBox]at h2;obtain⟨l,σ2,h3,h4⟩:=fN h2;obtain⟨hll,YL,G2,Zu⟩:=uY (ys:=tm.map (bxV asq)) hI1 (by simp) (λj h=>by
  have hj:j<tm.length:=by simpa using h
  simp only[List.getElem_map,oGD,oGP,oGE hj,oMS,Option.getD_some];cases hb:tm[j]with
  |val x=>exact .v (ZE x (by rw[<- hb];exact oGX hj))|arg i=>
  simp only[bxT,bxV];by_cases hi:i<vals.length;simp_all;have:vals.getD i .dead=.dead:=by simp[oGD,oGN (by omega:vals.length<=i)]
  rw[this];exact .dead) h3
 obtain⟨G3,Wu,_,hβ⟩:=Zu.1.newBox (2*d+2) ty (by omega) YX (by omega);have XT:(wr d (.ptr ⟨2*d+2,0,[]⟩ [(σ2.root (2*d+2) l).v (2*d+2,0,0)])).run (σ2.root (2*d+2) l)=some ((),σ'):=h4;simp only[wr,SP.run,oSJ,oPJ,true_and]at XT;subst XT;unfold Oper.wp;rw[YJ Y1,Oper.upon_enter];refine(W2 asq w (by omega) YL).mono λe w2 ⟨he,hw⟩=>?_;subst he;subst hw;simp only;refine hK (a.put o.dst (.pointer (some ⟨w.heap.size,0,none⟩))) _ G3 ?_ (pN _ _ _);rw[hdst];refine Wu.wrT hdN (.ptr (σ2.root (2*d+2) l).v (λ_=>oLE _) (by simp[lz]) λ_=>⟨by simp_all,⟨w.heap.size,0,none⟩,_,?_,rfl,rfl⟩);unfold Gh.addr;simp only[hβ]
theorem KH{E:Env}{F:iz}(hB:I2 P E)(hF:nu P F):Cy P M lp (evCall E F):=by
 intro o t σ σ' a w G hc hd hI hr;rcases hc with rfl|hc;simp[evop,evCall,Tz,SP.run]at hr;cases ho:o.op with
 |call c=>
 rw[ho]at hc;obtain⟨callee,args,atys⟩:=c;cases callee with
  |value fo=>
  cases t with
   |call k f' args'=>
   simp only[ui]at hc;obtain⟨hf,hlen,hargs⟩:=hc;simp only[evop]at hr;cases f' with
    |f YZ=>
    have hfo:fo=.func YZ:=by cases fo<;>simp[fZ]at hf;rw[hf]
    have hex:∀YZ,fo=.func YZ->tz P YZ->(execOp a.eval o).run P w=.ok (.enter YZ (args.toList.map a.eval).toArray) w:=λYZ hfo Y1=>by
     have:=t6 (a:=a) (w:=w) ho (by rw[hfo];rfl:a.eval fo=.func (.func YZ) #[] #[]) Y1;have ea:(args.toList.map a.eval).toArray=args.map a.eval:=by apply Array.ext';rw[Array.toList_map]
     rw[ea];simpa using this
    have hex:=hex YZ hfo;simp only[evCall]at hr;have nrm:(evNrm E F o.dst k YZ args').run σ=some ((),σ')->Ry P M σ' a o w:=by
     intro hr;simp only[evNrm]at hr;have tru:((argVs args').bind λvals=>callV F o.dst YZ (args'.map (·.1)) vals).run σ=some ((),σ')->Ry P M σ' a o w:=by intro hr;obtain⟨vals,σ1,h1,h2⟩:=fN hr;obtain⟨G1,Zi,YR,XI⟩:=Gx (l':=args.toList) hI (by simp[hlen]) (λj h h'=>by have:=hargs j (by simpa using h) (by simpa using h');simpa using this) h1;have Wh:vals.length=args'.length:=YR;exact Gv hF hd Zi.1 (by simp;omega) (by simp;omega) (λj h h'=>by have:=XI j h (by simpa using h');simpa using this) h2 hex
     cases k with
     |false=>
     simp only[Bool.false_eq_true,if_false]at hr;obtain⟨vals,σ1,h1,h2⟩:=fN hr;obtain⟨rfl,YR,XI⟩:=Qd (l':=args.toList) hI (by simp[hlen]) (λj h h'=>by have:=hargs j (by simpa using h) (by simpa using h');simpa using this) h1;have Wh:vals.length=args'.length:=by rw[YR];simp
     exact Rk hF hd hI (by simp;omega) (λj h h'=>by have:=XI j h (by simpa using h');simpa using this) tru h2 hex
     |true=>
     simp only[if_true]at hr;obtain⟨vals,σ1,h1,h2⟩:=fN hr;obtain⟨G1,Zi,YR,XI⟩:=Gx (l':=args.toList) hI (by simp[hlen]) (λj h h'=>by have:=hargs j (by simpa using h) (by simpa using h');simpa using this) h1;have Wh:vals.length=args'.length:=YR;split at h2
     ·rename_i x hbx;split at h2
      case isFalse=>simp[SP.run]at h2
      rename_i hn;exact Ra hB hbx hn hd Zi.1 (by simp;omega) (λj h h'=>by have:=XI j h (by simpa using h');simpa using this) h2 hex
     exact Gv hF hd Zi.1 (by simp;omega) (by simp;omega) (λj h h'=>by have:=XI j h (by simpa using h');simpa using this) h2 hex
    exact nrm hr
    |t i=>
    simp only[evCall,SP.run]at hr;split at hr;case h_2=>simp[SP.run]at hr
    rename_i YZ caps htv;obtain⟨vals,σ1,h1,h2⟩:=fN hr;obtain⟨G1,Zi,YR,XI⟩:=Gx (l':=args.toList) hI (by simp[hlen]) (λj h h'=>by have:=hargs j (by simpa using h) (by simpa using h');simpa using this) h1;have Wh:vals.length=args'.length:=YR;have hfo:fo=.tmp i:=by cases fo<;>simp[fZ]at hf;rw[hf]
    have Zg:=hI.tmr i;rw[htv]at Zg;have XN:a.eval fo=a.tmps.getD i undef:=by rw[hfo];rfl
    generalize hz:a.tmps.getD i undef=z at Zg XN;cases Zg with
     | @fn _ _ xs Y6 hct=>
     have hex:tz P YZ->(execOp a.eval o).run P w=.ok (.enter YZ (args.toList.map a.eval++xs.toList).toArray) w:=λY1=>by
      have:=t6 (a:=a) (w:=w) ho XN Y1;have ea:(args.toList.map a.eval++xs.toList).toArray=args.map a.eval++xs:=by apply Array.ext';simp
      rw[ea];exact this
     have hcl':xs.toList.length=caps.length:=by simpa using Y6
     exact Gv hF hd Zi.1 (by simp[Rj];omega) (by simp;omega) (λj h h'=>by
     by_cases hj:j<vals.length;have:=XI j hj (by simp;omega);simpa[List.getElem_append_left,hj,List.getElem_append,show j<args.size by omega]using this;have hj2:j-vals.length<caps.length:=by simp at h;omega
     have:=Zi.tm (hct (j-vals.length) hj2);have hj3:¬j<args.size:=by omega
     have e1:args.size=vals.length:=by omega
     simp only[List.getElem_append,hj,dite_false,oLP,Array.length_toList,hj3,Array.getElem_toList];simp only[e1];have e2:xs.getD (j-vals.length) undef=xs[j-vals.length]:=by simp[oAG,show j-vals.length<xs.size by omega]
     rw[<- e2];exact this) h2 hex
    |_=>simp[evCall,SP.run]at hr
   |_=>simp[ui]at hc
  |_=>cases t<;>simp[ui]at hc
 |_=>rw[ho]at hc;cases t<;>simp[ui]at hc
end
theorem uT{P:Program}{ops:u_}{Q:Exit->Act->World->Prop}{i:Nat}{L:N_}{a:Act}{w:World}{o:Oper}{v:Value}(ho:ops[i]?=some o)(hg:o.guard=none)(hrun:(execOp a.eval o).run P w=.ok (.value v) w)(h:wpOps P ops Q L (a.put o.dst v) w):wpOps P ops Q (i::L) a w:=by simp[wpOps,ho];rw[oIP (by simp[Region.wanted,hg])];left;unfold Oper.wp;rw[hrun];exact h
structure Pz (P:Program)(c rest:Code):Prop where
 ex:∃(i0 i1 i2:Nat)(o0 o1 o2 o3:Oper)(ty ty2 e:TypeId),c=.seq (.region i0 #[o0] false) (.seq (.seq (.region i1 #[o1,o2] false) (.cond (.tmp 4) (.seq (.region i2 #[o3] false) .ret) .skip)) rest)/\
  (o0.dst=some 2/\o0.guard=none/\o0.op=.assign (.const (.slice none 0 0)))/\(o1.dst=some 3/\o1.guard=none/\o1.op=.move (.tmp 0))/\
  (o2.dst=some 4/\o2.guard=none/\o2.op=.binOp .eql ty (.tmp 3) (.const (.slice none 0 0)) ty2)/\(o3.dst=some 2/\o3.guard=none/\o3.op=.assign (.const (.slice none 0 0)))/\P.underlying ty=some (.slice e)
def Cg(ts:s_)(x:Value)(b:Bool):s_:=((ts.setIfInBounds 2 (.slice none 0 0)).setIfInBounds 3 x).setIfInBounds 4 (.bool b)
theorem Rh{P:Program}{c rest:Code}(hc:Pz P c rest){ad:t_}{n cap:Nat}{ts:s_}{w:World}{Q:Exit->Act->World->Prop}(h0:ts.getD 0 undef=.slice ad n cap)(hN:4<ts.size) (hnil:ad=none->Q .ret ⟨(Cg ts (.slice ad n cap) true).setIfInBounds 2 (.slice none 0 0),[]⟩ w)(ZR:ad≠none->rest.wp P Q ⟨Cg ts (.slice ad n cap) false,[]⟩ w):c.wp P Q ⟨ts,[]⟩ w:=by
 obtain⟨i0,i1,i2,o0,o1,o2,o3,ty,ty2,e,rfl,⟨d0,g0,p0⟩,⟨d1,g1,p1⟩,⟨d2,g2,p2⟩,⟨d3,g3,p3⟩,hu⟩:=hc.ex;have Wq:∀{o:Oper}{a:Act}{x:Operand},(o.op=.assign x\/o.op=.move x)->(execOp a.eval o).run P w=.ok (.value (a.eval x)) w:=λho=>by rcases ho with ho|ho<;>simp[execOp,ho]
 refine wp_seq (wp_region ?_);show wpOps P #[o0] _ [0] _ w;refine uT (o:=o0) rfl g0 (Wq (.inl p0)) ?_;rw[d0];refine wp_seq (wp_seq (wp_region ?_));show wpOps P #[o1,o2] _ [0,1] _ w;refine uT (o:=o1) rfl g1 (Wq (.inr p1)) ?_;rw[d1];have e0:(ts.setIfInBounds 2 (.slice none 0 0)).getD 0 undef=.slice ad n cap:=by rw[<- h0];simp[oAG,Array.getElem?_setIfInBounds]
 have e3:((ts.setIfInBounds 2 (.slice none 0 0)).setIfInBounds 3 (.slice ad n cap)).getD 3 undef=.slice ad n cap:=by simp[oAG,Array.getElem?_setIfInBounds,show 3<ts.size by omega]
 have WU:(execOp (Act.mk ((ts.setIfInBounds 2 (.slice none 0 0)).setIfInBounds 3 (.slice ad n cap)) []).eval o2).run P w=.ok (.value (.bool ad.isNone)) w:=by have hb:=Lib.run_eql_slice_nil (P:=P) w ty e ad n cap 0 0 hu;have ex:(Act.mk ((ts.setIfInBounds 2 (.slice none 0 0)).setIfInBounds 3 (.slice ad n cap)) []).eval (.tmp 3)=.slice ad n cap:=e3;have ey:∀a:Act,a.eval (.const (.slice none 0 0))=.slice none 0 0:=λ_=>rfl;have hg:(eqGuard .eql ty (.tmp 3) (.const (.slice none 0 0)) (.slice ad n cap) (.slice none 0 0)).run P w=.ok () w:=rfl;simp[execOp,p2,ex,ey,hb,hg]
 refine uT (o:=o2) (v:=.bool ad.isNone) rfl g2 ?_ ?_;show(execOp (Act.mk ((ts.setIfInBounds 2 (.slice none 0 0)).setIfInBounds 3 ((ts.setIfInBounds 2 (.slice none 0 0)).getD 0 undef)) []).eval o2).run P w=_;rw[e0];exact WU;rw[d2];show(Code.cond (.tmp 4) _ _).wp P _ ⟨((ts.setIfInBounds 2 (.slice none 0 0)).setIfInBounds 3 ((ts.setIfInBounds 2 (.slice none 0 0)).getD 0 undef)).setIfInBounds 4 (.bool ad.isNone),[]⟩ w;rw[e0];have e4:∀b,(Cg ts (.slice ad n cap) b).getD 4 undef=.bool b:=λb=>by unfold Cg;simp[oAG,Array.getElem?_setIfInBounds,hN]
 cases ad with|none=>refine wp_cond_true (e4 true) (wp_seq (wp_region ?_));show wpOps P #[o3] _ [0] _ w;refine uT (o:=o3) rfl g3 (Wq (.inl p3)) ?_;rw[d3];exact wp_ret (hnil rfl)|some ad=>exact wp_cond_false (e4 false) (wp_skip (ZR (by simp)))
def IQ(sz:Nat)(b:Bool)(bytes:Nat)(mv fl:Bool)(id:Nat):lO:=.seq (.reg id none [⟨some 5,none,.bsl sz b 0 []⟩,⟨some 6,none,.mov (.t 0)⟩,⟨some 7,none,.app sz bytes mv fl (.t 5) (.t 6)⟩,⟨some 2,none,.asn true (.t 7)⟩] ([2],[7])) .ret
def IP(call:x_->TOp->SP Unit)(N:Nat)(tc:lO):Option (U_×P_):=(runC call N tc (mkSt [.sl []] [])).bind λx=>match x.1 with|.exit _=>none|_=>((resF 1 [.tmp 2]).run x.2).map (·.1)
theorem MI(call:x_->TOp->SP Unit)(N sz:Nat)(b:Bool)(bytes:Nat)(mv fl:Bool)(id:Nat):IP call N (IQ sz b bytes mv fl id)=IP (λ_ _=>.fail) 0 (IQ sz b bytes mv fl id):=rfl
def AT(tc:lO):Bool:=match IP (λ_ _=>.fail) 0 tc with
 |some ([.ow []],[.one])=>true
 |_=>false
theorem Ki{tc:lO}(h:AT tc=true):IP (λ_ _=>.fail) 0 tc=some ([.ow []],[.one]):=by unfold AT at h;grind
def qQ(pp:N_):Nat->U_->Bool|_,[]=>true|i,.ptr _ _::r=>pp.contains i&&qQ pp (i+1) r|i,.sl _::r=>qQ pp (i+1) r|i,_::r=>!pp.contains (1000+i)&&qQ pp (i+1) r
theorem N8{pp:N_}:∀{l:U_}{i:Nat},qQ pp i l=true->∀j p vs,l[j]?=some (.ptr p vs)->i+j∈pp:=by
 intro l;induction l with
 |nil=>simp_all|cons t l ih=>
 intro i h j p vs hj;have hr:qQ pp (i+1) l=true:=by cases t<;>simp[qQ]at h<;>first|exact h.2|exact h
 cases j with
 |zero=>
 have:t=.ptr p vs:=by simp_all
 subst this;simp[qQ]at h;exact h.1
 |succ j=>have:=ih hr j p vs (by simp_all);rw[show i+(j+1)=i+1+j by omega];exact this
def KV(pp:N_):N_:=pp.filterMap λk=>if 1000000<=k/\pp.contains (k-1000000)=true then some (k-1000000)else none
def kpE(pp:N_):Pts:=(KV pp).map λk=>(1000000+k,[])
def JA(pp:N_):p_:=pp.filterMap λk=>if 1000000000<=k then some ((k-1000000000)/1000,(k-1000000000)%1000)else none
def runT(E:Env)(F:iz)(n:Nat)(tf:TFn)(vals:U_)(pts:Pts):Option (Lp×Pts):=
 if vals.length=tf.np/\(qQ tf.pp 0 vals&&(!tf.pp.contains 1000||pts.isEmpty))=true then
  (runC (evCall E F) n tf.body (CE (JA tf.pp) vals pts)).bind λx=>match x.1 with
   |.exit _=>none
   |_=>((resF tf.np tf.res).run x.2).bind λy=>some (⟨y.1.1,y.1.2⟩,(pts.map λx=>(x.1,(gD y.2.ce x.1).getD []))++(kpE tf.pp++kcE (JA tf.pp) y.2))
 else none
abbrev y_:=Option TFn
def Lz(E:Env)(T:FuncId->y_)(B F:iz)(n:Nat):iz:=λf vals pts=>
 match T f with
 |none=>B f vals pts
 |some tf=>runT E F n tf vals pts
def runF(E:Env)(T:FuncId->y_)(B:iz):Nat->iz|0=>λ_ _ _=>none|n+1=>Lz E T B (runF E T B n) n
def Py(P:Program)(tf:TFn)(c:Code):Prop:=
 tf.np=1/\tf.pp=[1000]/\tf.nt=8/\tf.res=[.tmp 2]/\AT tf.body=true/\(∃sz b bytes mv fl id,tf.body=IQ sz b bytes mv fl id)/\
  ∃rest,Pz P c rest/\∀M:Fm,M.N=tf.nt->(∀r,M.pr r≠none->∃i∈tf.pp,r=2*i+2)->(∀i,M.kp i≠none->i∈KV tf.pp)->kf P M lp tf.body rest
def Pt(P:Program)(T:FuncId->y_):Prop:=
 ∀f tf,T f=some tf->∃fn c,P.funcs[f]?=some fn/\(fn.name== "runtime.NumGoroutine")=false/\fn.body=some c/\fn.ntmps=tf.nt/\tf.np<=tf.nt /\
  ((∀M:Fm,M.N=tf.nt->(∀r,M.pr r≠none->∃i∈tf.pp,r=2*i+2)->(∀i,M.kp i≠none->i∈KV tf.pp)->kf P M lp tf.body c)\/Py P tf c)/\tf.res.length=fn.results.size/\∀k (h:k<tf.res.length)(h':k<fn.results.size),Ko P tf.res[k] fn.results[k]
section
variable {P:Program} {E:Env} {T:FuncId->y_} {B F:iz}
def Vg(tf:TFn)(pts:Pts)(x:nz×St):Option (Lp×Pts):=match x.1 with
 |.exit _=>none
 |_=>((resF tf.np tf.res).run x.2).bind λy=>some ((⟨y.1.1,y.1.2⟩:Lp),(pts.map λ(x:Nat×U_)=>(x.1,(gD y.2.ce x.1).getD []))++(kpE tf.pp++kcE (JA tf.pp) y.2))
theorem Kl{tf:TFn}{fn:Func}{M:Fm}{σ1:St}{a':Act}{w':World}{G':Gh}{pts Zs:Pts}{res:Lp}{e:nz}(WA:tf.res.length=fn.results.size)(Zb:∀k (h:k<tf.res.length)(h':k<fn.results.size),Ko P tf.res[k] fn.results[k]) (Zw:Inv M σ1 [] [] a'.tmps w' G')(hd:a'.defers=[])(h2:Vg tf pts (e,σ1)=some (res,Zs)):bodyPost P fn (λe w2=>∃v σ2,e=.returned v/\Vi M res v σ2 w2/\Zs=(pts.map λ(x:Nat×U_)=>(x.1,(gD σ2.ce x.1).getD []))++(kpE tf.pp++kcE (JA tf.pp) σ2)) e.toExit a' w':=by
 unfold Vg at h2;have key0:∀y,(resL tf.np tf.res).run σ1=some y->some ((⟨y.1.1,y.1.2⟩:Lp),(pts.map λx=>(x.1,(gD y.2.ce x.1).getD []))++(kpE tf.pp++kcE (JA tf.pp) y.2))=some (res,Zs)->a'.defers=[]/\∃v,(results fn a'.tmps).run P w'=.ok v w' /\∃v' σ2,Ending.returned v=.returned v'/\Vi M res v' σ2 w'/\Zs=(pts.map λx=>(x.1,(gD σ2.ce x.1).getD []))++(kpE tf.pp++kcE (JA tf.pp) σ2):=by
  rintro⟨r,σ2⟩ hr he;obtain⟨vs,ys,G2,hrun,hg,hl,hok,hrv⟩:=SX (qs':=fn.results.toList) Zw (by simpa using WA) (λk h h'=>by have:=Zb k h (by simpa using h');simpa using this) hr
  injection he with he
  injection he with he1 he2
  subst he1;subst he2;refine⟨hd,p6 r.2 ys,?_,p6 r.2 ys,σ2,rfl,.inl ⟨ys,a'.tmps,G2,rfl,by simpa using hg.1,hok⟩,rfl⟩;unfold results;rw[Array.mapM_eq_mapM_toList];simp only[Sem.run_bind,Sem.run_map]
  erw[hrun]
  unfold p6;rw[hrv]
  cases vs with
  |nil=>rfl
  |cons v vs=>
   cases vs with
   |nil=>rfl
   |cons v2 vs=>rfl
 have key:∀y,(resF tf.np tf.res).run σ1=some y->some ((⟨y.1.1,y.1.2⟩:Lp),(pts.map λx=>(x.1,(gD y.2.ce x.1).getD []))++(kpE tf.pp++kcE (JA tf.pp) y.2))=some (res,Zs)->a'.defers=[]/\∃v,(results fn a'.tmps).run P w'=.ok v w' /\∃v' σ2,Ending.returned v=.returned v'/\Vi M res v' σ2 w'/\Zs=(pts.map λx=>(x.1,(gD σ2.ce x.1).getD []))++(kpE tf.pp++kcE (JA tf.pp) σ2):=by
  intro y hr he;unfold resF at hr;split at hr;rename_i t rs htf;simp only[SP.run]at hr;split at hr;rename_i p vs htv;obtain⟨_,σ2,h3,h4⟩:=fN hr;have e1:σ2=σ1:=(gt h3).1;have e2:=(gt h3).2;subst e1;obtain⟨fl,σ3,h5,h6⟩:=fN h4;simp only[SP.run,oSJ]at h6;subst h6;injection he with he
  injection he with he1 he2
  subst he1;subst he2;have Zg:=Zw.tmr t;rw[htv]at Zg;obtain⟨q0,qs',hrs⟩:∃q0 qs',fn.results.toList=q0::qs':=by
   have hlen:fn.results.toList.length=rs.length+1:=by rw[Array.length_toList,<- WA,htf];rfl
   cases hl:fn.results.toList with|nil=>rw[hl]at hlen;simp at hlen|cons q0 qs'=>exact⟨q0,qs',rfl⟩
  have hresL:∀(L:Q_)(L':List ResultVar),tf.res=L->fn.results.toList=L'->∀k (h:k<L.length)(h':k<L'.length),Ko P L[k] L'[k]:=by rintro _ _ rfl rfl k h h';have:=Zb k h (by simpa using h');simpa using this
  have hq0:q0=.tmp t:=hresL _ _ htf hrs 0 (by simp) (by simp);have hlen2:rs.length=qs'.length:=by
   have h7:fn.results.toList.length=rs.length+1:=by rw[Array.length_toList,<- WA,htf];rfl
   rw[hrs]at h7;simpa using h7.symm
  obtain⟨rfl,ZK,hrun⟩:=O3 (qs':=qs') Zw hlen2 (λk h h'=>hresL _ _ htf hrs (k+1) (by simpa using h) (by simpa using h')) h5;have WU:(fn.results.toList.mapM λ(q:ResultVar)=>(match q with|.tmp t=>(pure (a'.tmps.getD t undef):Sem Value)|.cell a t=>do loadVar t (<- asAddr (a'.tmps.getD a undef)))).run P w'=.ok (a'.tmps.getD t undef::fl.map unV) w':=by rw[hrs,hq0,List.mapM_cons,Sem.run_bind];show Result.andThen (.ok (a'.tmps.getD t undef) w') _=_;simp only[Result.andThen_ok,Sem.run_bind];refine(congrArg (λr=>Result.andThen r _) hrun).trans ?_;simp
  generalize a'.tmps.getD t undef=z at Zg WU;cases Zg with
  |ptr V0 h0 hv hok=>
   have hp:=hok e2;refine⟨hd,DQ z (fl.map unV),?_,DQ z (fl.map unV),σ3,rfl,.inr ⟨p,vs,fl,z,a'.tmps,G',rfl,⟨_,rfl⟩,ZK,rfl,Zw,hp⟩,rfl⟩;unfold results;rw[Array.mapM_eq_mapM_toList];simp only[Sem.run_bind,Sem.run_map]
   erw[WU]
   cases fl with
   |nil=>rfl
   |cons y l=>rfl
  exact key0 y (by rw[htf];exact hr) he;exact key0 y hr he
 cases e with|exit i=>simp at h2|normal=>simp only at h2;obtain⟨y,h3,h4⟩:=gd h2;exact key y h3 h4|ret=>simp only at h2;obtain⟨y,h3,h4⟩:=gd h2;exact key y h3 h4
theorem PL(hT:Pt P T)(hE:I2 P E)(hB:nu P B)(hF:nu P F)(n:Nat):nu P (Lz E T B F n):=by
 intro f vals pts res Zs h;unfold Lz at h;cases ht:T f with
 |none=>rw[ht]at h;exact hB f vals pts res Zs h|some tf=>
 rw[ht]at h;simp only[runT]at h;split at h;case isFalse=>simp at h
 rename_i hnp;obtain⟨hnp,hppe⟩:=hnp;simp only[oBA]at hppe;obtain⟨hpp,hpe⟩:=hppe;obtain⟨⟨e,σ1⟩,h1,h2⟩:=gd h;obtain⟨fn,c,hf,hname,hb,hnt,Yh,Ym,WA,Zb⟩:=hT f tf ht;refine⟨II hf hname hb,tf.nt,KV tf.pp,JA tf.pp,by omega,λM asq w G hal hN hw0 YX hkp _ hI=>?_⟩;refine calls_of_wp hf hb ?_;have hN2:fn.ntmps-asq.toArray.size=tf.nt-asq.length:=by rw[hnt];simp
 rw[hN2];have hpr':∀r,M.pr r≠none->∃i∈tf.pp,r=2*i+2:=λr hr=>by obtain⟨i,p,vs,h3,h4⟩:=YX r hr;exact⟨i,by simpa using N8 hpp i p vs h3,h4⟩
 rcases Ym with Ym|⟨c1,c2,c3,c4,c5,⟨sz,b,bytes,mv,fl,id,c6⟩,rest,Y6,Ym⟩;exact KG (KH hE hF) n tf.body c _ e σ1 ⟨asq.toArray++Array.replicate (tf.nt-asq.length) undef,[]⟩ w G _ (Ym M hN hpr' hkp) h1 hI λa' w' G' Zw hd=>Kl WA Zb Zw hd h2
 ·
  obtain⟨v0,rfl⟩:∃v,vals=[v]:=List.length_eq_one_iff.1 (by rw[hnp,c1]);obtain⟨x0,rfl⟩:∃x,asq=[x]:=List.length_eq_one_iff.1 (by rw[hal];rfl)
  have hp0:pts=[]:=by rw[c2]at hpe;simpa using hpe
  have hkE:kpE tf.pp=[]:=by rw[c2];rfl
  have hkC:JA tf.pp=[]:=by rw[c2];rfl
  rw[hkC]at hI h1;have hI:Inv M (mkSt [v0] pts) [] [] ([x0].toArray++Array.replicate (tf.nt - [x0].length) undef) w G:=hI;have h1:runC (evCall E F) n tf.body (mkSt [v0] pts)=some (e,σ1):=h1
  have X':M.kp 2=none:=by
   cases h:M.kp 2 with
   |none=>rfl
   |some v=>exact absurd (hkp 2 (by rw[h];simp)) (by rw[c2];simp[KV])
  subst hp0
  obtain⟨l0,rfl⟩:∃l,v0=.sl l:=by
   rw[c2]at hpp;cases v0<;>simp[qQ]at hpp;exact⟨_,rfl⟩
  have hv:=hI.tmr 0;have e0:(mkSt [TV.sl l0] ([]:Pts)).t 0=.sl l0:=rfl
  have e1:(#[x0]++Array.replicate (tf.nt-1) undef).getD 0 undef=x0:=by simp[oAG,Array.getElem?_append]
  have hv:TmR w (G.F M.A) (mkSt [TV.sl l0] ([]:Pts)).v (gy M (mkSt [TV.sl l0] ([]:Pts)) []) G (.sl l0) x0:=by
   have:=hI.tmr 0;rw[e0]at this;rw[show([x0]:w_).toArray=#[x0]from rfl,show([x0]:w_).length=1 from rfl,e1]at this;exact this
  cases hv with
  |sl hs=>
   cases hs with
   | @sl _ ad cap zz u hsz hcap hmax hnil0 hcell hrec=>
    have hdead:∀(H:U_)(xs:w_)(ts:s_)(d:Nat)(v:Value),0<d->Inv M (mkSt [TV.sl l0] []) H xs ts w G->Inv M (mkSt [TV.sl l0] []) H xs (ts.setIfInBounds d v) w G:=by
     intro H xs ts d v hd hI;refine⟨hI.core,λi=>?_,hI.fram,hI.keys,by rw[Array.size_setIfInBounds];exact hI.size,hI.hand,hI.hval,hI.shape,hI.kept,hI.gn⟩;by_cases hi:i=d
     ·subst hi
      have:(mkSt [TV.sl l0] ([]:Pts)).t i=.dead:=by
       simp[St.t,mkSt,jf,gD,show ¬ 0=i by omega]
      rw[this];exact .dead
     ·have:(ts.setIfInBounds d v).getD i undef=ts.getD i undef:=by simp[oAG,Array.getElem?_setIfInBounds,Ne.symm hi]
      rw[this];exact hI.tmr i
    refine Rh Y6 (ad:=ad) (n:=l0.length) (cap:=cap) (by simp[oAG,Array.getElem?_append]) (by simp[c3]) (λY0=>?_) (λ_=>?_)
    ·have Wu:=hdead _ _ _ 4 (.bool true) (by decide) (hdead _ _ _ 3 (.slice ad l0.length cap) (by decide) (hdead _ _ _ 2 (.slice none 0 0) (by decide) hI));subst Y0;have hcap0:=hnil0 rfl;have qN:l0=[]:=oEN (by omega);subst qN;have hI4:=Wu.wrT (d:=2) ⟨by omega,X'⟩ (t:=.ow []) (x:=.slice none 0 0) .nil;have hrun:=Ki c5;rw[c6,<- MI (evCall E F) n,<- c6]at hrun;unfold IP at hrun;rw[h1]at hrun;simp only[oBS]at hrun h2
     have hres1:res=⟨[.ow []],[.one]⟩/\Zs=[]:=by
      cases e with
      |exit i=>simp at hrun
      |normal=>
       simp only[c1,c4]at h2;simp only at hrun;obtain⟨y,hy,WF⟩:=kF hrun;rw[hy]at h2;simp only[oBS,oSJ,oPJ]at h2;rw[WF]at h2;exact⟨h2.1.symm,by simpa[hkE,hkC,kcE]using h2.2.symm⟩
      |ret=>
       simp only[c1,c4]at h2;simp only at hrun;obtain⟨y,hy,WF⟩:=kF hrun;rw[hy]at h2;simp only[oBS,oSJ,oPJ]at h2;rw[WF]at h2;exact⟨h2.1.symm,by simpa[hkE,hkC,kcE]using h2.2.symm⟩
     obtain⟨rfl,rfl⟩:=hres1
     have h5:Vg tf [] (.ret,{ mkSt [TV.sl []] ([]:Pts)with tm:=iJ (mkSt [TV.sl []] ([]:Pts)).tm 2 (.ow []) })=some (⟨[.ow []],[.one]⟩,[]):=by
      unfold Vg;simp only[c1,c4,hkE,hkC];rfl
     obtain⟨T,hT⟩:∃T:s_,T=(Cg ([Value.slice none ([]:o_).length cap].toArray++Array.replicate (tf.nt - [Value.slice none ([]:o_).length cap].length) undef) (.slice none ([]:o_).length cap) true).setIfInBounds 2 (.slice none 0 0):=⟨_,rfl⟩;have XK:=hI4;unfold Cg at hT;rw[<- hT]at XK;have h7:=Kl (tf:=tf) (fn:=fn) (P:=P) (pts:=[]) (e:=.ret) (a':=⟨T,[]⟩) (w':=w) (G':=G) WA Zb XK rfl h5;rw[hT]at h7;exact h7
    ·have ZN:=hdead _ _ _ 4 (.bool false) (by decide) (hdead _ _ _ 3 (.slice ad l0.length cap) (by decide) (hdead _ _ _ 2 (.slice none 0 0) (by decide) hI));exact KG (KH hE hF) n tf.body rest _ e σ1 ⟨Cg _ (.slice ad l0.length cap) false,[]⟩ w G _ (Ym M hN hpr' hkp) h1 ZN λa' w' G' Zw hd=>Kl WA Zb Zw hd h2
theorem runF_ok(hT:Pt P T)(hE:I2 P E)(hB:nu P B):∀n,nu P (runF E T B n):=by intro n;induction n with|zero=>intro f vals pts res Zs h;simp[runF]at h|succ n ih=>exact PL hT hE hB ih n
end
end Go.Proofs.YtabfnmgabblofaaGreat
